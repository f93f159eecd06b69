/- isa.Words and isa.Bytes, the document's Words and Bytes, the law's sameWords: what each returns. -/
import Derived.Test.YtecmeegnjjhilaaGreatDoorSrc
import Derived.Deep.AppendLies
import Derived.Deep.RegionLaw
import Derived.Deep.RegionHeld3
namespace Go.Proofs.YtecmeegnjjhilaaGreatDoor
open Go.RowKit

/-- Four bytes a word. -/
def quad : List Int → List Int
  | a :: b :: c :: d :: r => (a * 16777216 + b * 65536 + c * 256 + d) :: quad r
  | _ => []
def Byte8 (xs : List Int) : Prop := ∀ x ∈ xs, 0 ≤ x ∧ x < 256
theorem quad_len : ∀ xs : List Int, (quad xs).length * 4 ≤ xs.length
  | a :: b :: c :: d :: r => by
    have := quad_len r
    simp only [quad, List.length_cons]
    omega
  | [] => by simp [quad]
  | [_] => by simp [quad]
  | [_, _] => by simp [quad]
  | [_, _, _] => by simp [quad]
theorem four_at (xs : List Int) (k : Nat) (h : k + 3 < xs.length) : ∃ a b c d, xs[k]? = some a ∧ xs[k + 1]? = some b ∧ xs[k + 2]? = some c ∧ xs[k + 3]? = some d ∧ xs.drop k = a :: b :: c :: d :: xs.drop (k + 4) := by
  refine ⟨xs[k], xs[k + 1], xs[k + 2], xs[k + 3], List.getElem?_eq_getElem _, List.getElem?_eq_getElem _, List.getElem?_eq_getElem _, List.getElem?_eq_getElem _, ?_⟩
  rw [List.drop_eq_getElem_cons (by omega : k < xs.length), List.drop_eq_getElem_cons (by omega : k + 1 < xs.length), List.drop_eq_getElem_cons (by omega : k + 2 < xs.length), List.drop_eq_getElem_cons (by omega : k + 3 < xs.length)]
theorem or_bytes (a b c d : Int) (a0 : 0 ≤ a) (a1 : a < 256) (b0 : 0 ≤ b) (b1 : b < 256) (c0 : 0 ≤ c) (c1 : c < 256) (d0 : 0 ≤ d) (d1 : d < 256) :
    bits .or .u32 (bits .or .u32 (bits .or .u32 (a * 16777216) (b * 65536)) (c * 256)) d = a * 16777216 + b * 65536 + c * 256 + d := by
  rw [or_sum (a * 16777216) (b * 65536) a.toNat 24 (by omega) (by omega) (by omega) (by omega) (by omega)]
  rw [or_sum (a * 16777216 + b * 65536) (c * 256) (a * 256 + b).toNat 16 (by omega) (by omega) (by omega) (by omega) (by omega)]
  rw [or_sum (a * 16777216 + b * 65536 + c * 256) d (a * 65536 + b * 256 + c).toNat 8 (by omega) (by omega) (by omega) (by omega) (by omega)]

/-- What Words answers. -/
def WordsRes (w : World) (er5 : Value) (xs : List Int) (e : Ending) (w' : World) : Prop :=
  Below w.heap.size w w' ∧ if xs.length % 4 ≠ 0 then e = .returned (.tuple #[.slice none 0 0, er5])
  else ∃ A c, e = .returned (.tuple #[.slice A (quad xs).length c, .nilIface]) ∧ w'.ownsRow w.heap.size 28 1 (.slice A (quad xs).length c) (quad xs).length (w32 (quad xs))

set_option maxHeartbeats 2000000 in
set_option maxRecDepth 100000 in
theorem Words_any (x5 : Value) (A : Option Addr) (cp : Nat) (xs : List Int) (hn : xs.length ≤ 100000000) (hx : Byte8 xs) (w : World) (hA : NumsAt w .u8 A xs.length xs) (h5 : w.cell? ⟨7, 0, none⟩ = some x5) :
    Calls Tryz.prog 38 #[.slice A xs.length cp] w (WordsRes w x5 xs) := by
  generalize hN : xs.length = N at hn hA ⊢
  have HN := Lib.hid hN
  have HX := Lib.hid hx
  clear hx hN
  by_cases h4 : N % 4 = 0
  · obtain ⟨i0, hi0, hz0, hz1, hz2⟩ := info_parts u32info
    have hr := Below.refl w.heap.size w
    have HA := Lib.hid hA
    have h4i : (((N : Int) % 4) != 0) = false := by simp; omega
    have HQ0 : Hid (quad xs = [] ++ quad (xs.drop 0)) := Lib.hid rfl
    clear h5 hA
    go_enter Tryz.func38, Tryz.ntmps38
    go_wp2_with fail
    clear h4i
    go_loopw [4, 5] (fun s3 s4 wr => ∃ (k : Nat) (L : List Int) (A' : Option Addr) (c : Nat), k ≤ N ∧ k % 4 = 0 ∧ L.length ≤ k ∧ s3 = .slice A' L.length c ∧ s4 = .int .i64 k ∧ Hid (quad xs = L ++ quad (xs.drop k)) ∧
        wr.ownsRow w.heap.size 28 1 (.slice A' L.length c) L.length (w32 L) ∧ Below w.heap.size w wr) (fun _ s4 _ => N - (intOf s4).toNat)
    case atStart => exact ⟨0, [], none, 0, by omega, by omega, by simp, rfl, rfl, HQ0, own_nil _ _ _ _, hr⟩
    case round =>
      obtain ⟨k, L, A', c, hk, hk4, hLk, rfl, rfl, HQ, hown, hb⟩ := hrel
      clear hr HQ0
      by_cases hlt : k < N
      · have hk3 : k + 3 < N := by omega
        obtain ⟨x0, x1, x2, x3, q0, q1, q2, q3, hd⟩ := four_at xs k (by rw [HN.out]; exact hk3)
        obtain ⟨b, o, rfl, hc⟩ := HA.out.2 (by omega)
        have hsm := fun (j : Nat) (x : Int) (h : xs[j]? = some x) => HX.out x (List.mem_of_getElem? h)
        obtain ⟨a0, a1⟩ := hsm _ _ q0
        obtain ⟨b0, b1⟩ := hsm _ _ q1
        obtain ⟨c0, c1⟩ := hsm _ _ q2
        obtain ⟨d0, d1⟩ := hsm _ _ q3
        have hbl : b < w.heap.size := World.block_lt_of_cell? w _ (hc _ _ q0)
        have hblr : b < wr.heap.size := Nat.lt_of_lt_of_le hbl hb.size
        have k0 : wr.cell? ⟨b, o + k, none⟩ = some (.int .u8 x0) := cell_below (hc _ _ q0) hb
        have k1 : wr.cell? ⟨b, o + (k + 1), none⟩ = some (.int .u8 x1) := cell_below (hc _ _ q1) hb
        have k2 : wr.cell? ⟨b, o + (k + 2), none⟩ = some (.int .u8 x2) := cell_below (hc _ _ q2) hb
        have k3 : wr.cell? ⟨b, o + (k + 3), none⟩ = some (.int .u8 x3) := cell_below (hc _ _ q3) hb
        have HO := Lib.hid (or_bytes x0 x1 x2 x3 a0 a1 b0 b1 c0 c1 d0 d1)
        have HQ2 : Hid (quad xs = (L ++ [x0 * 16777216 + x1 * 65536 + x2 * 256 + x3]) ++ quad (xs.drop (k + 4))) := Lib.hid (by rw [HQ.out, hd]; simp [quad])
        have hL2 : (L ++ [x0 * 16777216 + x1 * 65536 + x2 * 256 + x3]).length = L.length + 1 := by simp
        clear q0 q1 q2 q3 hd hc hsm HQ HA
        have s1 : IntKind.i64.wrap ((k : Int) + 1) = (k : Int) + 1 := IntWalk.i64_in _ (by omega)
        have s2 : IntKind.i64.wrap ((k : Int) + 2) = (k : Int) + 2 := IntWalk.i64_in _ (by omega)
        have s3 : IntKind.i64.wrap ((k : Int) + 3) = (k : Int) + 3 := IntWalk.i64_in _ (by omega)
        have n1 : (0 : Int) ≤ (k : Int) + 1 := by omega
        have n2 : (0 : Int) ≤ (k : Int) + 2 := by omega
        have n3 : (0 : Int) ≤ (k : Int) + 3 := by omega
        have m1 : (k : Int) + 1 < (N : Int) := by omega
        have m2 : (k : Int) + 2 < (N : Int) := by omega
        have m3 : (k : Int) + 3 < (N : Int) := by omega
        have r0 : IntKind.u32.wrap x0 = x0 := by rw [IntKind.wrap_u32]; omega
        have r1 : IntKind.u32.wrap x1 = x1 := by rw [IntKind.wrap_u32]; omega
        have r2 : IntKind.u32.wrap x2 = x2 := by rw [IntKind.wrap_u32]; omega
        have r3 : IntKind.u32.wrap x3 = x3 := by rw [IntKind.wrap_u32]; omega
        have t0 : IntKind.u32.wrap (x0 * 16777216) = x0 * 16777216 := by rw [IntKind.wrap_u32]; omega
        have t1 : IntKind.u32.wrap (x1 * 65536) = x1 * 65536 := by rw [IntKind.wrap_u32]; omega
        have t2 : IntKind.u32.wrap (x2 * 256) = x2 * 256 := by rw [IntKind.wrap_u32]; omega
        have hz0' : w.heap.size ≤ wr.heap.size := hb.size
        have z2 : ((k : Int) + 2).toNat = k + 2 := by omega
        have z3 : ((k : Int) + 3).toNat = k + 3 := by omega
        go_wp2_with fail
        have nb : some b ≠ (Value.slice A' L.length c).ownBlock := own_apart_base hown hbl
        go_region_held3 (fun w' => w'.cell? ⟨b, o + k, none⟩ = some (.int .u8 x0) ∧ w'.cell? ⟨b, o + (k + 1), none⟩ = some (.int .u8 x1) ∧ w'.cell? ⟨b, o + (k + 2), none⟩ = some (.int .u8 x2) ∧ w'.cell? ⟨b, o + (k + 3), none⟩ = some (.int .u8 x3))
          (first
            | go_keep
            | (go_split_ands
               refine ⟨?_, ?_, ?_, ?_⟩
               · (rw [hgrow.cell_far _ (by simp; omega) nb]; assumption)
               · (rw [hgrow.cell_far _ (by simp; omega) nb]; assumption)
               · (rw [hgrow.cell_far _ (by simp; omega) nb]; assumption)
               · (rw [hgrow.cell_far _ (by simp; omega) nb]; assumption)))
          ((refine step_append_lies _ (by rfl) _ _ _ (by rfl) w.heap.size 28 i0 _ 1 4 Tryz.underlying31 hi0 hz0 hz1 hz2 rfl (by omega) (.slice A' L.length c) L.length (w32 L) (by rfl) ((hown.alloc _).drew) ⟨wr.heap.size, 0, none⟩ 1 1 [.int .u32 (bits .or .u32 (bits .or .u32 (bits .or .u32 (x0 * 16777216) (x1 * 65536)) (x2 * 256)) x3)] (by rfl) (by rfl) (World.news_of_block (cs := #[.int .u32 (bits .or .u32 (bits .or .u32 (bits .or .u32 (x0 * 16777216) (x1 * 65536)) (x2 * 256)) x3)]) (t := 28) (fr := (0, 0)) (heap_alloc_new wr _)) (by simp [Value.oneCell']) (by omega) (by unfold maxLen; omega) (by omega) (by simp; omega) (wr.heap.size + 1) (by simp) ?_; intro gg cap w4 hown4 hgrow hat hlt4))
        have hb4 : Below w.heap.size w w4 := (below_drewN (hb.alloc hz0' (.cells #[.int .u32 (bits .or .u32 (bits .or .u32 (bits .or .u32 (x0 * 16777216) (x1 * 65536)) (x2 * 256)) x3)] 28)) 1).grown hgrow (by simp; omega) (fun q hq => own_from hown q hq)
        have ho4 : w4.ownsRow w.heap.size 28 1 (.slice (some ⟨gg, 0, none⟩) (L ++ [x0 * 16777216 + x1 * 65536 + x2 * 256 + x3]).length cap) (L ++ [x0 * 16777216 + x1 * 65536 + x2 * 256 + x3]).length (w32 (L ++ [x0 * 16777216 + x1 * 65536 + x2 * 256 + x3])) := by
          rw [HO.out] at hown4
          rw [hL2, w32, List.map_append]
          exact hown4
        clear hown4 hgrow hat hown hb nb z2 z3 s1 s2 s3 n1 n2 n3 m1 m2 m3 r0 r1 r2 r3 t0 t1 t2 HO
        generalize L ++ [x0 * 16777216 + x1 * 65536 + x2 * 256 + x3] = L2 at hL2 ho4 HQ2
        rw [← hL2]
        go_wp2_with fail
        go_roundw
        case rel => exact ⟨k + 4, L2, some ⟨gg, 0, none⟩, cap, by omega, by omega, by omega, rfl, by go_num, HQ2, ho4, hb4⟩
        case measure => simp [intOf]; omega
      · have hkN : k = N := by omega
        subst hkN
        have HL : Hid (quad xs = L) := Lib.hid (by rw [HQ.out, List.drop_eq_nil_of_le (by rw [HN.out]; exact Nat.le_refl _)]; simp [quad])
        have HN4 : Hid (xs.length % 4 = 0) := Lib.hid (by rw [HN.out]; exact h4)
        clear HQ
        go_wp2_with fail
        go_ret2
        refine ⟨hb, ?_⟩
        rw [if_neg (by rw [HN4.out]; decide), HL.out]
        exact ⟨A', c, rfl, hown⟩
  · have h4i : (((N : Int) % 4) != 0) = true := by rw [bne_iff_ne]; omega
    have h4j : ¬ (N : Int) % 4 = 0 := by omega
    have HN4 : Hid (xs.length % 4 ≠ 0) := Lib.hid (by rw [HN.out]; exact h4)
    clear hA h4
    go_enter Tryz.func38, Tryz.ntmps38
    go_wp2_with fail
    go_quiet (fail)
    go_wp2_with fail
    go_ret2
    refine ⟨below_drewN (Below.refl _ _) _, ?_⟩
    rw [if_pos HN4.out]
    rfl

/-- A word's four bytes. -/
def four (n : Int) : List Int := [n / 16777216, n / 65536 % 256, n / 256 % 256, n % 256]
def unquad (ws : List Int) : List Int := ws.flatMap four
theorem unquad_snoc (ws : List Int) (n : Int) : unquad (ws ++ [n]) = unquad ws ++ four n := by simp [unquad]
theorem unquad_len : ∀ ws : List Int, (unquad ws).length = ws.length * 4
  | [] => rfl
  | n :: ws => by
    have := unquad_len ws
    simp only [unquad, List.flatMap_cons, List.length_append, List.length_cons] at this ⊢
    rw [this]
    simp [four]
    omega
def u8s (xs : List Int) : List Value := xs.map fun x => .int .u8 x
theorem byteinfo8 : (Tryz.prog.info? 5).map (fun i => (i.zero, i.size, i.bytes)) = some (some (.int .u8 0), 1, 1) := by kernel_rfl

set_option maxHeartbeats 2000000 in
set_option maxRecDepth 100000 in
theorem Bytes_any (A : Option Addr) (cp : Nat) (xs : List Int) (hn : xs.length ≤ 100000000) (hx : ∀ x ∈ xs, 0 ≤ x ∧ x < 4294967296) (w : World) (hA : NumsAt w .u32 A xs.length xs) :
    Calls Tryz.prog 36 #[.slice A xs.length cp] w fun e w' => ∃ A' c, e = .returned (.slice A' (unquad xs).length c) ∧ w'.ownsRow w.heap.size 5 1 (.slice A' (unquad xs).length c) (unquad xs).length (u8s (unquad xs)) ∧ Below w.heap.size w w' := by
  generalize hN : xs.length = N at hn hA ⊢
  have HN := Lib.hid hN
  have HX := Lib.hid hx
  have HA := Lib.hid hA
  clear hx hN hA
  obtain ⟨i0, hi0, hz0, hz1, hz2⟩ := info_parts byteinfo8
  have hr := Below.refl w.heap.size w
  go_enter Tryz.func36, Tryz.ntmps36
  go_wp2_with fail
  go_loopw [3, 8] (fun s3 s8 wr => ∃ (k : Nat) (L : List Int) (A' : Option Addr) (c : Nat), k ≤ N ∧ L.length = k * 4 ∧ s3 = .slice A' L.length c ∧ s8 = .int .i64 k ∧ Hid (unquad (xs.take k) = L) ∧
      wr.ownsRow w.heap.size 5 1 (.slice A' L.length c) L.length (u8s L) ∧ Below w.heap.size w wr) (fun _ s8 _ => N - (intOf s8).toNat)
  case atStart => exact ⟨0, [], none, 0, by omega, by simp, rfl, rfl, Lib.hid rfl, own_nil _ _ _ _, hr⟩
  case round =>
    obtain ⟨k, L, A', c, hk, hLk, rfl, rfl, HQ, hown, hb⟩ := hrel
    clear hr
    have HLk := Lib.hid hLk
    have hLk2 : L.length ≤ k * 4 := by omega
    clear hLk
    by_cases hlt : k < N
    · obtain ⟨n, hn2⟩ : ∃ n, xs[k]? = some n := ⟨_, List.getElem?_eq_getElem (by rw [HN.out]; exact hlt)⟩
      obtain ⟨b, o, rfl, hc⟩ := HA.out.2 (by omega)
      obtain ⟨n0, n1⟩ := HX.out n (List.mem_of_getElem? hn2)
      have k0 : wr.cell? ⟨b, o + k, none⟩ = some (.int .u32 n) := cell_below (hc _ _ hn2) hb
      have HQ2 : Hid (unquad (xs.take (k + 1)) = L ++ four n) := Lib.hid (by rw [List.take_add_one, hn2, Option.toList_some, unquad_snoc, HQ.out])
      have hL2 : (L ++ four n).length = L.length + 4 := by simp [four]
      have hz0' : w.heap.size ≤ wr.heap.size := hb.size
      clear hn2 hc HQ HA
      go_wp2_with (at_builtin; refine wpList_append_own _ rfl (.tmp 12) (.tmp 24) _ rfl w.heap.size 5 i0 _ 1 1 Tryz.underlying56 hi0 hz0 hz1 hz2 rfl (by decide) (.slice A' L.length c) L.length (u8s L) rfl (hown.alloc _) ⟨wr.heap.size, 0, none⟩ 4 4 [.int .u8 (n / 16777216), .int .u8 (n / 65536 % 256), .int .u8 (n / 256 % 256), .int .u8 (n % 256)] rfl rfl ?c1 ?c2 ?c3 ?c4 ?c5 ?_)
      case c1 => exact fun j u hu => new_cells wr _ _ j u hu
      case c2 =>
        intro u hu
        simp only [List.mem_cons, List.not_mem_nil, or_false] at hu
        rcases hu with rfl | rfl | rfl | rfl <;> rfl
      case c3 => unfold maxLen; omega
      case c4 => omega
      case c5 => exact Nat.le_trans hb.size (by simp)
      intro v9 w9 hown9 hg9 _
      have hv9 : ∃ A c, v9 = .slice A (L.length + 4) c := by
        rcases hown9.2 with ⟨_, h⟩ | ⟨g, cap, cur, h, _⟩
        · omega
        · exact ⟨_, _, h⟩
      obtain ⟨A9, c9, rfl⟩ := hv9
      have hb9 : Below w.heap.size w w9 := (hb.alloc hb.size (.cells #[.int .u8 (n / 16777216), .int .u8 (n / 65536 % 256), .int .u8 (n / 256 % 256), .int .u8 (n % 256)] 5)).grown hg9 (Nat.le_trans hb.size (by simp)) (fun q hq => by have := own_from hown q hq; omega)
      have ho9 : w9.ownsRow w.heap.size 5 1 (.slice A9 (L ++ four n).length c9) (L ++ four n).length (u8s (L ++ four n)) := by
        rw [hL2, u8s, List.map_append]
        exact hown9
      have HL3 : Hid ((L ++ four n).length = (k + 1) * 4) := Lib.hid (by rw [hL2, HLk.out]; omega)
      rw [← hL2]
      clear hown9 hg9 hown hb
      generalize L ++ four n = L2 at HQ2 ho9 HL3 hL2 ⊢
      go_wp2_with fail
      go_roundw
      case rel => exact ⟨k + 1, L2, A9, c9, by omega, HL3.out, rfl, by go_num, HQ2, ho9, hb9⟩
      case measure => simp [intOf]; omega
    · have HE2 : Hid (unquad xs = L) := Lib.hid (by rw [← HQ.out, List.take_of_length_le (by rw [HN.out]; omega)])
      clear HQ HLk
      go_wp2_with fail
      go_ret
      rw [HE2.out]
      exact ⟨A', c, rfl, hown, hb⟩

/-- The law's comparison of two lists of words. -/
theorem sameWords_any (A B : Option Addr) (ca cb : Nat) (xs ys : List Int) (hn : xs.length ≤ 100000000) (hm : ys.length ≤ 100000000) (w : World) (hA : NumsAt w .u32 A xs.length xs) (hB : NumsAt w .u32 B ys.length ys) (same : xs = ys) :
    Calls Tryz.prog 31 #[.slice A xs.length ca, .slice B ys.length cb] w fun e w' => e = .returned (.bool true) ∧ Below w.heap.size w w' := by
  subst same
  generalize hN : xs.length = N at hn hA hB ⊢
  have HN := Lib.hid hN
  have HA := Lib.hid hA
  have HB := Lib.hid hB
  clear hN hA hB hm
  have hr := Below.refl w.heap.size w
  go_enter Tryz.func31, Tryz.ntmps31
  go_wp2_with fail
  go_loopw [5] (fun s5 wr => ∃ k : Nat, k ≤ N ∧ s5 = .int .i64 k ∧ Below w.heap.size w wr) (fun s5 _ => N - (intOf s5).toNat)
  case atStart => exact ⟨0, by omega, rfl, hr⟩
  case round =>
    obtain ⟨k, hk, rfl, hb⟩ := hrel
    clear hr
    by_cases hlt : k < N
    · obtain ⟨n, hn2⟩ : ∃ n, xs[k]? = some n := ⟨_, List.getElem?_eq_getElem (by rw [HN.out]; exact hlt)⟩
      obtain ⟨b, o, rfl, hc⟩ := HA.out.2 (by omega)
      obtain ⟨b', o', rfl, hc'⟩ := HB.out.2 (by omega)
      have k0 : wr.cell? ⟨b, o + k, none⟩ = some (.int .u32 n) := cell_below (hc _ _ hn2) hb
      have k1 : wr.cell? ⟨b', o' + k, none⟩ = some (.int .u32 n) := cell_below (hc' _ _ hn2) hb
      have h0 : (0 : Int) ≤ (k : Int) := by omega
      have h1 : (k : Int) < (N : Int) := by omega
      clear hn2 hc hc' HA HB
      go_wp2_with fail
      go_quiet (fail)
      go_wp2_with fail
      go_roundw
      case rel => exact ⟨k + 1, by omega, by go_num, below_drewN hb _⟩
      case measure => simp [intOf]; omega
    · clear HA HB
      go_wp2_with fail
      go_ret
      exact ⟨rfl, hb⟩
end Go.Proofs.YtecmeegnjjhilaaGreatDoor
