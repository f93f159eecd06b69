/- ferrylaw04.IsaTurns: the walk. -/
import Derived.Test.YtecmeegnjjhilaaGreatDoorSource
import Derived.Test.YtecmeegnjjhilaaGreatDoorListW
import Derived.Test.YtecmeegnjjhilaaGreatDoorSameM
import Derived.Test.YtecmeegnjjhilaaGreatDoorFixed
import Derived.Deep.RegionHeld3
namespace Go.Proofs.YtecmeegnjjhilaaGreatDoor
open Go.RowKit

/-- What a copy of a list changes. -/
theorem copied_below {w1 w2 : World} {t : TypeId} (hg : (w1.alloc (.cells #[] t)).grownBy w2 (Value.slice (some ⟨w1.heap.size, 0, none⟩) 0 0).ownBlock) : Below w1.heap.size w1 w2 :=
  ((Below.refl w1.heap.size w1).alloc (Nat.le_refl _) (.cells #[] t)).grown hg (by simp) (fun q hq => own_from (own_empty w1 t) q hq)
theorem Words_yes (x5 : Value) (A : Option Addr) (cp : Nat) (xs : List Int) (hn : xs.length ≤ 100000000) (hx : Byte8 xs) (h4 : xs.length % 4 = 0) (w : World) (hA : NumsAt w .u8 A xs.length xs) (h5 : w.cell? ⟨7, 0, none⟩ = some x5) :
    Calls Tryz.prog 38 #[.slice A xs.length cp] w fun e w' => ∃ A c, e = .returned (.tuple #[.slice A (quad xs).length c, .nilIface]) ∧ w'.ownsRow w.heap.size 28 1 (.slice A (quad xs).length c) (quad xs).length (w32 (quad xs)) ∧ Below w.heap.size w w' :=
  (Words_any x5 A cp xs hn hx w hA h5).mono fun e w' ⟨hb, h⟩ => by
    rw [if_neg (by rw [h4]; decide)] at h
    obtain ⟨A, c, he, ho⟩ := h
    exact ⟨A, c, he, ho, hb⟩
theorem Words_no (x5 : Value) (A : Option Addr) (cp : Nat) (xs : List Int) (hn : xs.length ≤ 100000000) (hx : Byte8 xs) (h4 : xs.length % 4 ≠ 0) (w : World) (hA : NumsAt w .u8 A xs.length xs) (h5 : w.cell? ⟨7, 0, none⟩ = some x5) :
    Calls Tryz.prog 38 #[.slice A xs.length cp] w fun e w' => e = .returned (.tuple #[.slice none 0 0, x5]) ∧ Below w.heap.size w w' :=
  (Words_any x5 A cp xs hn hx w hA h5).mono fun e w' ⟨hb, h⟩ => by
    rw [if_pos h4] at h
    exact ⟨h, hb⟩
theorem asm_short (er : Nat → Addr) (ws : List Int) (hw : Word32 ws) (hs : (listT ws).length ≤ 100000000) (hn : ws.length ≤ 512) (w : World) (E : Env er w) :
    Calls Tryz.prog 29 #[.string ⟨(listT ws).toArray⟩] w fun e w' => ∃ A c, e = .returned (.tuple #[.slice A ws.length c, .nilIface]) ∧ w'.ownsRow w.heap.size 28 1 (.slice A ws.length c) ws.length (w32 ws) ∧ Below w.heap.size w w' :=
  (assemble_any er ⟨(listT ws).toArray⟩ (by rw [Lib.size_eq]; exact hs) w E).mono fun e w' ⟨hb, h⟩ => by
    rw [list_back ws hw, if_pos hn] at h
    obtain ⟨A, c, he, ho⟩ := h
    exact ⟨A, c, he, ho, hb⟩
theorem asm_long (er : Nat → Addr) (ws : List Int) (hw : Word32 ws) (hs : (listT ws).length ≤ 100000000) (hn : ¬ ws.length ≤ 512) (w : World) (E : Env er w) :
    Calls Tryz.prog 29 #[.string ⟨(listT ws).toArray⟩] w fun e w' => ∃ b, e = .returned (.tuple #[.slice none 0 0, .iface 108 (.pointer (some ⟨b, 0, none⟩))]) ∧ Blk w' b 110 #[.int .i64 513, ev (er 11)] ∧ Below w.heap.size w w' :=
  (assemble_any er ⟨(listT ws).toArray⟩ (by rw [Lib.size_eq]; exact hs) w E).mono fun e w' ⟨hb, h⟩ => by
    rw [list_back ws hw, if_neg hn] at h
    obtain ⟨b, he, _, ho⟩ := h
    exact ⟨b, he, ho, hb⟩

attribute [local irreducible] Calls in
set_option maxHeartbeats 16000000 in
set_option maxRecDepth 100000 in
theorem turns_walk (er : Nat → Addr) (x : SrcArg) (hws : x.ws.length ≤ 1048576) (hbs : x.bs.length ≤ 1048576) (w : World) (E : Env2 er w) (hx : x.In w) :
    Calls Tryz.prog 8 #[.agg x.cells] w fun e w' => e = .returned (.bool true) ∧ Below w.heap.size w w' := by
  have HE := Lib.hid E
  obtain ⟨hW, hwr, hB, hbr⟩ := hx
  obtain ⟨tx, A, ca, ws, B, cb, bs⟩ := x
  unfold SrcArg.cells
  simp only at hW hwr hB hbr hws hbs ⊢
  obtain ⟨i0, hi0, hz0, hz1, hz2⟩ := info_parts u32info
  obtain ⟨j0, hj0, hy0, hy1, hy2⟩ := info_parts byteinfo8
  have hKx := (Kept.start w).new 58 #[.string tx, .slice A ws.length ca, .slice B bs.length cb]
  have HF := Lib.hid (hKx.call (fixed_any er _ (HE.out.env.below hKx.1)))
  have hll := list_len ws hwr
  have hul := unquad_len ws
  have HWn : Hid (∀ W, Below w.heap.size w W → NumsAt W .u32 A ws.length ws) := Lib.hid (fun W hb => hW.below hb)
  have HBn : Hid (∀ W, Below w.heap.size w W → NumsAt W .u8 B bs.length bs) := Lib.hid (fun W hb => hB.below hb)
  have HLi := Lib.hid (fun A c W (hb : Below w.heap.size w W) (h : NumsAt W .u32 A ws.length ws) => List_any er A c ws (by omega) hwr W (HE.out.env.below hb) h)
  have HBy := Lib.hid (fun A c W (h : NumsAt W .u32 A ws.length ws) => Bytes_any A c ws (by omega) hwr W h)
  have HSw := Lib.hid (fun A' c' W (h : NumsAt W .u32 A' ws.length ws) (h' : NumsAt W .u32 A ws.length ws) => sameWords_any A' A c' ca ws ws (by omega) (by omega) W h h' rfl)
  have h5 : ∀ W, Below w.heap.size w W → W.cell? ⟨7, 0, none⟩ = some (ev (er 5)) := fun W hb => (HE.out.below hb).sent 5 (by omega) (by omega)
  have HWy := Lib.hid (fun A c W (hb : Below w.heap.size w W) (h : NumsAt W .u8 A (unquad ws).length (unquad ws)) => Words_yes (ev (er 5)) A c (unquad ws) (by omega) (unquad_bytes ws hwr) (by omega) W h (h5 W hb))
  rw [quad_unquad ws hwr] at HWy
  have HBr := Lib.hid hbr
  have HWr := Lib.hid hwr
  have HUl := Lib.hid hul
  have H5 := Lib.hid h5
  clear E hW hB hbr hwr hul h5
  go_enter Tryz.func8, Tryz.ntmps8
  go_wp2_with fail
  refine HF.out.mono ?_
  rintro e w1 ⟨rfl, hK1⟩
  clear HF hKx
  have c1 : w1.cell? ⟨w.heap.size, 1, none⟩ = some (.slice A ws.length ca) := (hK1.at_ 0 rfl).cell 1
  have hlt := (hK1.at_ 0 rfl).lt
  have hsrc := HWn.out _ (hK1.alloc (.cells #[] 28)).1
  go_wp2_with (at_builtin; refine wpList_append_nums _ rfl (.tmp 9) (.tmp 11) _ rfl w1.heap.size 28 i0 _ 4 .u32 Tryz.underlying31 hi0 hz0 hz1 hz2 rfl (.slice (some ⟨w1.heap.size, 0, none⟩) 0 0) 0 [] rfl (own_empty w1 _) A ws.length ca ws rfl hsrc (by unfold maxLen; omega) (by omega) (by simp) ?_)
  intro v2 w2 hown2 hg2
  have hK2 := hK1.step (copied_below hg2)
  obtain ⟨A2, c2, rfl, hN2⟩ := own_nums rfl hown2
  clear hown2 hg2 hsrc c1 hlt hK1
  go_wp2_with fail
  refine (HLi.out A2 c2 w2 hK2.1 hN2).mono ?_
  rintro e w3 ⟨rfl, hb3⟩
  have hK3 := hK2.step hb3
  clear hK2 hN2 hb3 HLi
  by_cases h512 : ws.length ≤ 512
  · have HAs := Lib.hid (fun W h => asm_short er ws HWr.out (by omega) h512 W h)
    have g1 : ¬ (512 : Int) < (ws.length : Int) := by omega
    go_wp2_with fail
    refine (HAs.out w3 (HE.out.env.below hK3.1)).mono ?_
    rintro e w4 ⟨A4, c4, rfl, hown4, hb4⟩
    have hK4 := hK3.step hb4
    have hN4 : NumsAt w4 .u32 A4 ws.length ws := NumsAt.own hown4
    have c1 : w4.cell? ⟨w.heap.size, 1, none⟩ = some (.slice A ws.length ca) := (hK4.at_ 0 rfl).cell 1
    clear HAs hK3 hb4 hown4
    go_wp2_with fail
    refine (HSw.out A4 c4 w4 hN4 (HWn.out w4 hK4.1)).mono ?_
    rintro e wT ⟨rfl, hb5⟩
    have hKT := hK4.step hb5
    clear hK4 hN4 hb5 c1
    have c1 : wT.cell? ⟨w.heap.size, 1, none⟩ = some (.slice A ws.length ca) := (hKT.at_ 0 rfl).cell 1
    have hlt := (hKT.at_ 0 rfl).lt
    have hsrc := HWn.out _ (hKT.alloc (.cells #[] 28)).1
    go_wp2_with (at_builtin; refine wpList_append_nums _ rfl (.tmp 49) (.tmp 51) _ rfl wT.heap.size 28 i0 _ 4 .u32 Tryz.underlying31 hi0 hz0 hz1 hz2 rfl (.slice (some ⟨wT.heap.size, 0, none⟩) 0 0) 0 [] rfl (own_empty wT _) A ws.length ca ws rfl hsrc (by unfold maxLen; omega) (by omega) (by simp) ?_)
    intro v2 u2 hown2 hg2
    have kU2 := hKT.step (copied_below hg2)
    obtain ⟨A6, c6, rfl, hN6⟩ := own_nums rfl hown2
    clear hown2 hg2 hsrc c1 hlt hKT
    go_wp2_with fail
    refine (HBy.out A6 c6 u2 hN6).mono ?_
    rintro e u3 ⟨A7, c7, rfl, hown7, hb7⟩
    have kU3 := kU2.step hb7
    have hN7 : NumsAt u3 .u8 A7 (unquad ws).length (unquad ws) := NumsAt.own hown7
    clear kU2 hN6 hb7 hown7 HBy
    go_wp2_with fail
    refine (HWy.out A7 c7 u3 kU3.1 hN7).mono ?_
    rintro e u4 ⟨A8, c8, rfl, hown8, hb8⟩
    have kU4 := kU3.step hb8
    have hN8 : NumsAt u4 .u32 A8 ws.length ws := NumsAt.own hown8
    have c1 : u4.cell? ⟨w.heap.size, 1, none⟩ = some (.slice A ws.length ca) := (kU4.at_ 0 rfl).cell 1
    clear kU3 hN7 hb8 hown8 HWy
    go_wp2_with fail
    refine (HSw.out A8 c8 u4 hN8 (HWn.out u4 kU4.1)).mono ?_
    rintro e u5 ⟨rfl, hb9⟩
    have kU5 := kU4.step hb9
    clear kU4 hN8 hb9 HSw c1 HWn
    have c2 : u5.cell? ⟨w.heap.size, 2, none⟩ = some (.slice B bs.length cb) := (kU5.at_ 0 rfl).cell 2
    have hlt := (kU5.at_ 0 rfl).lt
    have hsrc := HBn.out _ (kU5.alloc (.cells #[] 5)).1
    go_wp2_with (at_builtin; refine wpList_append_nums _ rfl (.tmp 67) (.tmp 69) _ rfl u5.heap.size 5 j0 _ 1 .u8 Tryz.underlying56 hj0 hy0 hy1 hy2 rfl (.slice (some ⟨u5.heap.size, 0, none⟩) 0 0) 0 [] rfl (own_empty u5 _) B bs.length cb bs rfl hsrc (by unfold maxLen; omega) (by omega) (by simp) ?_)
    intro v2 u6 hown2 hg2
    have kU6 := kU5.step (copied_below hg2)
    obtain ⟨A9, c9, rfl, hN9⟩ := own_nums rfl hown2
    clear hown2 hg2 hsrc c2 hlt kU5
    by_cases h4 : bs.length % 4 = 0
    · have HWd := Lib.hid (Words_yes (ev (er 5)) A9 c9 bs (by omega) HBr.out h4 u6 hN9 (H5.out u6 kU6.1))
      have hm4 : (((bs.length : Int) % 4) != 0) = false := by simp; omega
      have HUq := Lib.hid (unquad_quad bs HBr.out h4)
      have HQr := Lib.hid (quad_range bs HBr.out)
      have hql := quad_len bs
      have c2' : u6.cell? ⟨w.heap.size, 2, none⟩ = some (.slice B bs.length cb) := (kU6.at_ 0 rfl).cell 2
      clear h4 hN9
      go_wp2_with fail
      refine HWd.out.mono ?_
      rintro e u7 ⟨A10, c10, rfl, hown10, hb10⟩
      have kU7 := kU6.step hb10
      have hN10 : NumsAt u7 .u32 A10 (quad bs).length (quad bs) := NumsAt.own hown10
      have hBc := fun W (h : NumsAt W .u32 A10 (quad bs).length (quad bs)) => Bytes_any A10 c10 (quad bs) (by omega) HQr.out W h
      rw [HUq.out] at hBc
      have HBc := Lib.hid hBc
      have c2 : u7.cell? ⟨w.heap.size, 2, none⟩ = some (.slice B bs.length cb) := (kU7.at_ 0 rfl).cell 2
      have cv0 := conv_bytes B cb bs HBr.out u7 (HBn.out u7 kU7.1)
      have cv1 := conv_bytes B cb bs HBr.out u7.drew (HBn.out u7.drew kU7.drew.1)
      have HS : Hid (∀ W, Kept w ((w.heap.size, 58, #[Value.string tx, .slice A ws.length ca, .slice B bs.length cb]) :: []) W → W.cell? ⟨w.heap.size, 2, none⟩ = some (.slice B bs.length cb)) := Lib.hid (fun W k => (k.at_ 0 rfl).cell 2)
      clear HWd kU6 hb10 hown10 hBc c2'
      go_wp2_with fail
      go_region_law ((go_simp; go_at_call 36; refine (HBc.out _ (by first | exact hN10 | exact hN10.below ((Below.refl _ _).drew))).mono ?_; rintro e wK ⟨A11, c11, rfl, hown11, hb11⟩; have kK : Kept w ((w.heap.size, 58, #[Value.string tx, .slice A ws.length ca, .slice B bs.length cb]) :: []) wK := (by first | exact kU7.step hb11 | exact kU7.drew.step hb11); have cK : wK.cell? ⟨w.heap.size, 2, none⟩ = some (.slice B bs.length cb) := (kK.at_ 0 rfl).cell 2; have cvK := conv_bytes B cb bs HBr.out wK (HBn.out wK kK.1); have cvL := conv_bytes A11 c11 bs HBr.out wK (NumsAt.own hown11)))
      all_goals
        go_wp2_with fail
        go_ret
        exact ⟨rfl, kK.1⟩
    · have HWd := Lib.hid (Words_no (ev (er 5)) A9 c9 bs (by omega) HBr.out h4 u6 hN9 (H5.out u6 kU6.1))
      have hm4 : (((bs.length : Int) % 4) != 0) = true := by rw [bne_iff_ne]; omega
      have c2' : u6.cell? ⟨w.heap.size, 2, none⟩ = some (.slice B bs.length cb) := (kU6.at_ 0 rfl).cell 2
      clear h4 hN9
      go_wp2_with fail
      refine HWd.out.mono ?_
      rintro e u7 ⟨rfl, hb10⟩
      have kU7 := kU6.step hb10
      have HCo := Lib.hid (Code_of er _ _ 5 (.inr (.inl rfl)) u7 (HE.out.below kU7.1) (isOf_sent (HE.out.below kU7.1) 5 (by omega) (by omega)))
      have c2 : u7.cell? ⟨w.heap.size, 2, none⟩ = some (.slice B bs.length cb) := (kU7.at_ 0 rfl).cell 2
      clear HWd kU6 hb10 c2'
      go_wp2_with fail
      refine HCo.out.mono ?_
      rintro e u8 ⟨rfl, rfl⟩
      go_wp2_with fail
      go_ret
      exact ⟨rfl, kU7.1⟩
  · have HAs := Lib.hid (fun W h => asm_long er ws HWr.out (by omega) h512 W h)
    have g1 : (512 : Int) < (ws.length : Int) := by omega
    have g2 : ¬ (ws.length : Int) ≤ 512 := by omega
    go_wp2_with fail
    refine (HAs.out w3 (HE.out.env.below hK3.1)).mono ?_
    rintro e w4 ⟨b4, rfl, hB4, hb4⟩
    have hK4 := hK3.step hb4
    have c1 : w4.cell? ⟨w.heap.size, 1, none⟩ = some (.slice A ws.length ca) := (hK4.at_ 0 rfl).cell 1
    have HCo := Lib.hid (Code_of er _ _ 11 (by unfold isCode; omega) w4 (HE.out.below hK4.1) (isOf_wrap (HE.out.below hK4.1) 11 (by omega) (by omega) b4 0 (hB4.cell 1)))
    have HPl := Lib.hid (Place_at er b4 513 w4 (HE.out.below hK4.1) (hB4.cell 0))
    clear HAs hK3 hb4
    go_wp2_with fail
    refine HCo.out.mono ?_
    rintro e w4' ⟨rfl, rfl⟩
    go_wp2_with fail
    refine HPl.out.mono ?_
    rintro e wT ⟨rfl, hb5⟩
    have hKT := hK4.step hb5
    clear hK4 hb5 c1 HCo HPl hB4
    have c1 : wT.cell? ⟨w.heap.size, 1, none⟩ = some (.slice A ws.length ca) := (hKT.at_ 0 rfl).cell 1
    have hlt := (hKT.at_ 0 rfl).lt
    have hsrc := HWn.out _ (hKT.alloc (.cells #[] 28)).1
    go_wp2_with (at_builtin; refine wpList_append_nums _ rfl (.tmp 49) (.tmp 51) _ rfl wT.heap.size 28 i0 _ 4 .u32 Tryz.underlying31 hi0 hz0 hz1 hz2 rfl (.slice (some ⟨wT.heap.size, 0, none⟩) 0 0) 0 [] rfl (own_empty wT _) A ws.length ca ws rfl hsrc (by unfold maxLen; omega) (by omega) (by simp) ?_)
    intro v2 u2 hown2 hg2
    have kU2 := hKT.step (copied_below hg2)
    obtain ⟨A6, c6, rfl, hN6⟩ := own_nums rfl hown2
    clear hown2 hg2 hsrc c1 hlt hKT
    go_wp2_with fail
    refine (HBy.out A6 c6 u2 hN6).mono ?_
    rintro e u3 ⟨A7, c7, rfl, hown7, hb7⟩
    have kU3 := kU2.step hb7
    have hN7 : NumsAt u3 .u8 A7 (unquad ws).length (unquad ws) := NumsAt.own hown7
    clear kU2 hN6 hb7 hown7 HBy
    go_wp2_with fail
    refine (HWy.out A7 c7 u3 kU3.1 hN7).mono ?_
    rintro e u4 ⟨A8, c8, rfl, hown8, hb8⟩
    have kU4 := kU3.step hb8
    have hN8 : NumsAt u4 .u32 A8 ws.length ws := NumsAt.own hown8
    have c1 : u4.cell? ⟨w.heap.size, 1, none⟩ = some (.slice A ws.length ca) := (kU4.at_ 0 rfl).cell 1
    clear kU3 hN7 hb8 hown8 HWy
    go_wp2_with fail
    refine (HSw.out A8 c8 u4 hN8 (HWn.out u4 kU4.1)).mono ?_
    rintro e u5 ⟨rfl, hb9⟩
    have kU5 := kU4.step hb9
    clear kU4 hN8 hb9 HSw c1 HWn
    have c2 : u5.cell? ⟨w.heap.size, 2, none⟩ = some (.slice B bs.length cb) := (kU5.at_ 0 rfl).cell 2
    have hlt := (kU5.at_ 0 rfl).lt
    have hsrc := HBn.out _ (kU5.alloc (.cells #[] 5)).1
    go_wp2_with (at_builtin; refine wpList_append_nums _ rfl (.tmp 67) (.tmp 69) _ rfl u5.heap.size 5 j0 _ 1 .u8 Tryz.underlying56 hj0 hy0 hy1 hy2 rfl (.slice (some ⟨u5.heap.size, 0, none⟩) 0 0) 0 [] rfl (own_empty u5 _) B bs.length cb bs rfl hsrc (by unfold maxLen; omega) (by omega) (by simp) ?_)
    intro v2 u6 hown2 hg2
    have kU6 := kU5.step (copied_below hg2)
    obtain ⟨A9, c9, rfl, hN9⟩ := own_nums rfl hown2
    clear hown2 hg2 hsrc c2 hlt kU5
    by_cases h4 : bs.length % 4 = 0
    · have HWd := Lib.hid (Words_yes (ev (er 5)) A9 c9 bs (by omega) HBr.out h4 u6 hN9 (H5.out u6 kU6.1))
      have hm4 : (((bs.length : Int) % 4) != 0) = false := by simp; omega
      have HUq := Lib.hid (unquad_quad bs HBr.out h4)
      have HQr := Lib.hid (quad_range bs HBr.out)
      have hql := quad_len bs
      have c2' : u6.cell? ⟨w.heap.size, 2, none⟩ = some (.slice B bs.length cb) := (kU6.at_ 0 rfl).cell 2
      clear h4 hN9
      go_wp2_with fail
      refine HWd.out.mono ?_
      rintro e u7 ⟨A10, c10, rfl, hown10, hb10⟩
      have kU7 := kU6.step hb10
      have hN10 : NumsAt u7 .u32 A10 (quad bs).length (quad bs) := NumsAt.own hown10
      have hBc := fun W (h : NumsAt W .u32 A10 (quad bs).length (quad bs)) => Bytes_any A10 c10 (quad bs) (by omega) HQr.out W h
      rw [HUq.out] at hBc
      have HBc := Lib.hid hBc
      have c2 : u7.cell? ⟨w.heap.size, 2, none⟩ = some (.slice B bs.length cb) := (kU7.at_ 0 rfl).cell 2
      have cv0 := conv_bytes B cb bs HBr.out u7 (HBn.out u7 kU7.1)
      have cv1 := conv_bytes B cb bs HBr.out u7.drew (HBn.out u7.drew kU7.drew.1)
      have HS : Hid (∀ W, Kept w ((w.heap.size, 58, #[Value.string tx, .slice A ws.length ca, .slice B bs.length cb]) :: []) W → W.cell? ⟨w.heap.size, 2, none⟩ = some (.slice B bs.length cb)) := Lib.hid (fun W k => (k.at_ 0 rfl).cell 2)
      clear HWd kU6 hb10 hown10 hBc c2'
      go_wp2_with fail
      go_region_law ((go_simp; go_at_call 36; refine (HBc.out _ (by first | exact hN10 | exact hN10.below ((Below.refl _ _).drew))).mono ?_; rintro e wK ⟨A11, c11, rfl, hown11, hb11⟩; have kK : Kept w ((w.heap.size, 58, #[Value.string tx, .slice A ws.length ca, .slice B bs.length cb]) :: []) wK := (by first | exact kU7.step hb11 | exact kU7.drew.step hb11); have cK : wK.cell? ⟨w.heap.size, 2, none⟩ = some (.slice B bs.length cb) := (kK.at_ 0 rfl).cell 2; have cvK := conv_bytes B cb bs HBr.out wK (HBn.out wK kK.1); have cvL := conv_bytes A11 c11 bs HBr.out wK (NumsAt.own hown11)))
      all_goals
        go_wp2_with fail
        go_ret
        exact ⟨rfl, kK.1⟩
    · have HWd := Lib.hid (Words_no (ev (er 5)) A9 c9 bs (by omega) HBr.out h4 u6 hN9 (H5.out u6 kU6.1))
      have hm4 : (((bs.length : Int) % 4) != 0) = true := by rw [bne_iff_ne]; omega
      have c2' : u6.cell? ⟨w.heap.size, 2, none⟩ = some (.slice B bs.length cb) := (kU6.at_ 0 rfl).cell 2
      clear h4 hN9
      go_wp2_with fail
      refine HWd.out.mono ?_
      rintro e u7 ⟨rfl, hb10⟩
      have kU7 := kU6.step hb10
      have HCo := Lib.hid (Code_of er _ _ 5 (.inr (.inl rfl)) u7 (HE.out.below kU7.1) (isOf_sent (HE.out.below kU7.1) 5 (by omega) (by omega)))
      have c2 : u7.cell? ⟨w.heap.size, 2, none⟩ = some (.slice B bs.length cb) := (kU7.at_ 0 rfl).cell 2
      clear HWd kU6 hb10 c2'
      go_wp2_with fail
      refine HCo.out.mono ?_
      rintro e u8 ⟨rfl, rfl⟩
      go_wp2_with fail
      go_ret
      exact ⟨rfl, kU7.1⟩
end Go.Proofs.YtecmeegnjjhilaaGreatDoor
