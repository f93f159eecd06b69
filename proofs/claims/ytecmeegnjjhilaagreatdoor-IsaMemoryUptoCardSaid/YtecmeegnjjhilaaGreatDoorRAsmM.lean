/- The document's Bytes, Words and List: what each returns. -/
import Derived.Test.YtecmeegnjjhilaaGreatDoorListWM
import Derived.Test.YtecmeegnjjhilaaGreatDoorRefYM
import Derived.Deep.RegionHeld3
import Derived.Test.YtecmeegnjjhilaaGreatDoorSource
import Derived.Test.YtecmeegnjjhilaaGreatDoorRefGM
import Derived.Test.YtecmeegnjjhilaaGreatDoorSepM
namespace Go.Proofs.YtecmeegnjjhilaaGreatDoor
open Go.RowKit
set_option maxHeartbeats 2000000 in
set_option maxRecDepth 100000 in
theorem RBytes_any (A : Option Addr) (cp : Nat) (xs : List Int) (hn : xs.length ≤ 100000000) (hx : ∀ x ∈ xs, 0 ≤ x ∧ x < 4294967296) (w : World) (hA : NumsAt w .u32 A xs.length xs) :
    Calls Tryz.prog 37 #[.slice A xs.length cp] w fun e w' => ∃ A' c, e = .returned (.slice A' (unquad xs).length c) ∧ w'.ownsRow w.heap.size 5 1 (.slice A' (unquad xs).length c) (unquad xs).length (u8s (unquad xs)) ∧ Below w.heap.size w w' := by
  generalize hN : xs.length = N at hn hA ⊢
  have HN := Lib.hid hN
  have HX := Lib.hid hx
  have HA := Lib.hid hA
  clear hx hN hA
  obtain ⟨i0, hi0, hz0, hz1, hz2⟩ := info_parts byteinfo8
  have hr := Below.refl w.heap.size w
  go_enter Tryz.func37, Tryz.ntmps37
  go_wp2_with fail
  go_loopw [3, 4] (fun s3 s8 wr => ∃ (k : Nat) (L : List Int) (A' : Option Addr) (c : Nat), k ≤ N ∧ L.length = k * 4 ∧ s3 = .slice A' L.length c ∧ s8 = .int .i64 k ∧ Hid (unquad (xs.take k) = L) ∧
      wr.ownsRow w.heap.size 5 1 (.slice A' L.length c) L.length (u8s L) ∧ Below w.heap.size w wr) (fun _ s8 _ => N - (intOf s8).toNat)
  case atStart => exact ⟨0, [], none, 0, by omega, by simp, rfl, rfl, Lib.hid rfl, own_nil _ _ _ _, hr⟩
  case round =>
    obtain ⟨k, L, A', c, hk, hLk, rfl, rfl, HQ, hown, hb⟩ := hrel
    clear hr
    have HLk := Lib.hid hLk
    have hLk2 : L.length ≤ k * 4 := by omega
    clear hLk
    by_cases hlt : k < N
    · obtain ⟨n, hn2⟩ : ∃ n, xs[k]? = some n := ⟨_, List.getElem?_eq_getElem (by rw [HN.out]; exact hlt)⟩
      obtain ⟨b, o, rfl, hc⟩ := HA.out.2 (by omega)
      obtain ⟨n0, n1⟩ := HX.out n (List.mem_of_getElem? hn2)
      have k0 : wr.cell? ⟨b, o + k, none⟩ = some (.int .u32 n) := cell_below (hc _ _ hn2) hb
      have HQ2 : Hid (unquad (xs.take (k + 1)) = L ++ four n) := Lib.hid (by rw [List.take_add_one, hn2, Option.toList_some, unquad_snoc, HQ.out])
      have hL2 : (L ++ four n).length = L.length + 4 := by simp [four]
      have hz0' : w.heap.size ≤ wr.heap.size := hb.size
      have q1 : n.tdiv 16777216 = n / 16777216 := Int.tdiv_eq_ediv_of_nonneg n0
      have q2 : n.tdiv 65536 = n / 65536 := Int.tdiv_eq_ediv_of_nonneg n0
      have q3 : n.tdiv 256 = n / 256 := Int.tdiv_eq_ediv_of_nonneg n0
      have q4 : (n / 65536).tmod 256 = n / 65536 % 256 := Int.tmod_eq_emod_of_nonneg (by omega)
      have q5 : (n / 256).tmod 256 = n / 256 % 256 := Int.tmod_eq_emod_of_nonneg (by omega)
      have q6 : n.tmod 256 = n % 256 := Int.tmod_eq_emod_of_nonneg n0
      have r1 : IntKind.u8.wrap (n / 16777216) = n / 16777216 := by rw [IntKind.wrap_u8]; omega
      have r2 : IntKind.u8.wrap (n / 65536 % 256) = n / 65536 % 256 := by rw [IntKind.wrap_u8]; omega
      have r3 : IntKind.u8.wrap (n / 256 % 256) = n / 256 % 256 := by rw [IntKind.wrap_u8]; omega
      have r4 : IntKind.u8.wrap (n % 256) = n % 256 := by rw [IntKind.wrap_u8]; omega
      clear hn2 hc HQ HA
      go_wp2_with (at_builtin; refine wpList_append_own _ rfl (.tmp 17) (.tmp 32) _ rfl w.heap.size 5 i0 _ 1 1 Tryz.underlying56 hi0 hz0 hz1 hz2 rfl (by decide) (.slice A' L.length c) L.length (u8s L) rfl (hown.alloc _) ⟨wr.heap.size, 0, none⟩ 4 4 [.int .u8 (n / 16777216), .int .u8 (n / 65536 % 256), .int .u8 (n / 256 % 256), .int .u8 (n % 256)] rfl rfl ?c1 ?c2 ?c3 ?c4 ?c5 ?_)
      case c1 => exact fun j u hu => new_cells wr _ _ j u hu
      case c2 =>
        intro u hu
        simp only [List.mem_cons, List.not_mem_nil, or_false] at hu
        rcases hu with rfl | rfl | rfl | rfl <;> rfl
      case c3 => unfold maxLen; omega
      case c4 => omega
      case c5 => exact Nat.le_trans hb.size (by simp)
      intro v9 w9 hown9 hg9 _
      have hv9 : ∃ A c, v9 = .slice A (L.length + 4) c := by
        rcases hown9.2 with ⟨_, h⟩ | ⟨g, cap, cur, h, _⟩
        · omega
        · exact ⟨_, _, h⟩
      obtain ⟨A9, c9, rfl⟩ := hv9
      have hb9 : Below w.heap.size w w9 := (hb.alloc hb.size (.cells #[.int .u8 (n / 16777216), .int .u8 (n / 65536 % 256), .int .u8 (n / 256 % 256), .int .u8 (n % 256)] 5)).grown hg9 (Nat.le_trans hb.size (by simp)) (fun q hq => by have := own_from hown q hq; omega)
      have ho9 : w9.ownsRow w.heap.size 5 1 (.slice A9 (L ++ four n).length c9) (L ++ four n).length (u8s (L ++ four n)) := by
        rw [hL2, u8s, List.map_append]
        exact hown9
      have HL3 : Hid ((L ++ four n).length = (k + 1) * 4) := Lib.hid (by rw [hL2, HLk.out]; omega)
      rw [← hL2]
      clear hown9 hg9 hown hb
      generalize L ++ four n = L2 at HQ2 ho9 HL3 hL2 ⊢
      go_wp2_with fail
      go_roundw
      case rel => exact ⟨k + 1, L2, A9, c9, by omega, HL3.out, rfl, by go_num, HQ2, ho9, hb9⟩
      case measure => simp [intOf]; omega
    · have HE2 : Hid (unquad xs = L) := Lib.hid (by rw [← HQ.out, List.take_of_length_le (by rw [HN.out]; omega)])
      clear HQ HLk
      go_wp2_with fail
      go_ret
      rw [HE2.out]
      exact ⟨A', c, rfl, hown, hb⟩

/-- What the document's Words answers. -/
def RWordsRes (w : World) (xs : List Int) (e : Ending) (w' : World) : Prop := Below w.heap.size w w' ∧ if xs.length % 4 ≠ 0 then e = .returned (.tuple #[.slice none 0 0, .int .i64 5]) else ∃ A c, e = .returned (.tuple #[.slice A (quad xs).length c, .int .i64 0]) ∧ w'.ownsRow w.heap.size 28 1 (.slice A (quad xs).length c) (quad xs).length (w32 (quad xs))
set_option maxHeartbeats 8000000 in
set_option maxRecDepth 100000 in
theorem RWords_any (A : Option Addr) (cp : Nat) (xs : List Int) (hn : xs.length ≤ 100000000) (hx : Byte8 xs) (w : World) (hA : NumsAt w .u8 A xs.length xs) :
    Calls Tryz.prog 39 #[.slice A xs.length cp] w (RWordsRes w xs) := by
  generalize hN : xs.length = N at hn hA ⊢
  have HN := Lib.hid hN
  have HX := Lib.hid hx
  clear hx hN
  by_cases h4 : N % 4 = 0
  · obtain ⟨i0, hi0, hz0, hz1, hz2⟩ := info_parts u32info
    have hr := Below.refl w.heap.size w
    have HA := Lib.hid hA
    have h4i : (((N : Int) % 4) != 0) = false := by simp; omega
    have HQ0 : Hid (quad xs = [] ++ quad (xs.drop 0)) := Lib.hid rfl
    clear hA
    go_enter Tryz.func39, Tryz.ntmps39
    go_wp2_with fail
    clear h4i
    go_loopw [4, 5] (fun s3 s4 wr => ∃ (k : Nat) (L : List Int) (A' : Option Addr) (c : Nat), k ≤ N ∧ k % 4 = 0 ∧ L.length ≤ k ∧ s3 = .slice A' L.length c ∧ s4 = .int .i64 k ∧ Hid (quad xs = L ++ quad (xs.drop k)) ∧
        wr.ownsRow w.heap.size 28 1 (.slice A' L.length c) L.length (w32 L) ∧ Below w.heap.size w wr) (fun _ s4 _ => N - (intOf s4).toNat)
    case atStart => exact ⟨0, [], none, 0, by omega, by omega, by simp, rfl, rfl, HQ0, own_nil _ _ _ _, hr⟩
    case round =>
      obtain ⟨k, L, A', c, hk, hk4, hLk, rfl, rfl, HQ, hown, hb⟩ := hrel
      clear hr HQ0
      by_cases hlt : k < N
      · have hk3 : k + 3 < N := by omega
        obtain ⟨x0, x1, x2, x3, q0, q1, q2, q3, hd⟩ := four_at xs k (by rw [HN.out]; exact hk3)
        obtain ⟨b, o, rfl, hc⟩ := HA.out.2 (by omega)
        have hsm := fun (j : Nat) (x : Int) (h : xs[j]? = some x) => HX.out x (List.mem_of_getElem? h)
        obtain ⟨a0, a1⟩ := hsm _ _ q0
        obtain ⟨b0, b1⟩ := hsm _ _ q1
        obtain ⟨c0, c1⟩ := hsm _ _ q2
        obtain ⟨d0, d1⟩ := hsm _ _ q3
        have hbl : b < w.heap.size := World.block_lt_of_cell? w _ (hc _ _ q0)
        have hblr : b < wr.heap.size := Nat.lt_of_lt_of_le hbl hb.size
        have k0 : wr.cell? ⟨b, o + k, none⟩ = some (.int .u8 x0) := cell_below (hc _ _ q0) hb
        have k1 : wr.cell? ⟨b, o + (k + 1), none⟩ = some (.int .u8 x1) := cell_below (hc _ _ q1) hb
        have k2 : wr.cell? ⟨b, o + (k + 2), none⟩ = some (.int .u8 x2) := cell_below (hc _ _ q2) hb
        have k3 : wr.cell? ⟨b, o + (k + 3), none⟩ = some (.int .u8 x3) := cell_below (hc _ _ q3) hb
        have HQ2 : Hid (quad xs = (L ++ [x0 * 16777216 + x1 * 65536 + x2 * 256 + x3]) ++ quad (xs.drop (k + 4))) := Lib.hid (by rw [HQ.out, hd]; simp [quad])
        have hL2 : (L ++ [x0 * 16777216 + x1 * 65536 + x2 * 256 + x3]).length = L.length + 1 := by simp
        clear q0 q1 q2 q3 hd hc hsm HQ HA
        have s1 : IntKind.i64.wrap ((k : Int) + 1) = (k : Int) + 1 := IntWalk.i64_in _ (by omega)
        have s2 : IntKind.i64.wrap ((k : Int) + 2) = (k : Int) + 2 := IntWalk.i64_in _ (by omega)
        have s3 : IntKind.i64.wrap ((k : Int) + 3) = (k : Int) + 3 := IntWalk.i64_in _ (by omega)
        have n1 : (0 : Int) ≤ (k : Int) + 1 := by omega
        have n2 : (0 : Int) ≤ (k : Int) + 2 := by omega
        have n3 : (0 : Int) ≤ (k : Int) + 3 := by omega
        have m1 : (k : Int) + 1 < (N : Int) := by omega
        have m2 : (k : Int) + 2 < (N : Int) := by omega
        have m3 : (k : Int) + 3 < (N : Int) := by omega
        have r0 : IntKind.i64.wrap x0 = x0 := IntWalk.i64_in _ (by omega)
        have r1 : IntKind.i64.wrap x1 = x1 := IntWalk.i64_in _ (by omega)
        have r2 : IntKind.i64.wrap x2 = x2 := IntWalk.i64_in _ (by omega)
        have r3 : IntKind.i64.wrap x3 = x3 := IntWalk.i64_in _ (by omega)
        have t0 : IntKind.i64.wrap (x0 * 16777216) = x0 * 16777216 := IntWalk.i64_in _ (by omega)
        have t1 : IntKind.i64.wrap (x1 * 65536) = x1 * 65536 := IntWalk.i64_in _ (by omega)
        have t2 : IntKind.i64.wrap (x2 * 256) = x2 * 256 := IntWalk.i64_in _ (by omega)
        have t3 : IntKind.i64.wrap (x0 * 16777216 + x1 * 65536) = x0 * 16777216 + x1 * 65536 := IntWalk.i64_in _ (by omega)
        have t4 : IntKind.i64.wrap (x0 * 16777216 + x1 * 65536 + x2 * 256) = x0 * 16777216 + x1 * 65536 + x2 * 256 := IntWalk.i64_in _ (by omega)
        have t5 : IntKind.i64.wrap (x0 * 16777216 + x1 * 65536 + x2 * 256 + x3) = x0 * 16777216 + x1 * 65536 + x2 * 256 + x3 := IntWalk.i64_in _ (by omega)
        have t6 : IntKind.u32.wrap (x0 * 16777216 + x1 * 65536 + x2 * 256 + x3) = x0 * 16777216 + x1 * 65536 + x2 * 256 + x3 := by rw [IntKind.wrap_u32]; omega
        have hz0' : w.heap.size ≤ wr.heap.size := hb.size
        have z2 : ((k : Int) + 2).toNat = k + 2 := by omega
        have z3 : ((k : Int) + 3).toNat = k + 3 := by omega
        go_wp2_with fail
        have nb : some b ≠ (Value.slice A' L.length c).ownBlock := own_apart_base hown hbl
        go_region_held3 (fun w' => w'.cell? ⟨b, o + k, none⟩ = some (.int .u8 x0) ∧ w'.cell? ⟨b, o + (k + 1), none⟩ = some (.int .u8 x1) ∧ w'.cell? ⟨b, o + (k + 2), none⟩ = some (.int .u8 x2) ∧ w'.cell? ⟨b, o + (k + 3), none⟩ = some (.int .u8 x3))
          (first
            | go_keep
            | (go_split_ands
               refine ⟨?_, ?_, ?_, ?_⟩
               · (rw [hgrow.cell_far _ (by simp; omega) nb]; assumption)
               · (rw [hgrow.cell_far _ (by simp; omega) nb]; assumption)
               · (rw [hgrow.cell_far _ (by simp; omega) nb]; assumption)
               · (rw [hgrow.cell_far _ (by simp; omega) nb]; assumption)))
          ((refine step_append_lies _ (by rfl) _ _ _ (by rfl) w.heap.size 28 i0 _ 1 4 Tryz.underlying31 hi0 hz0 hz1 hz2 rfl (by omega) (.slice A' L.length c) L.length (w32 L) (by rfl) ((hown.alloc _).drew) ⟨wr.heap.size, 0, none⟩ 1 1 [.int .u32 (x0 * 16777216 + x1 * 65536 + x2 * 256 + x3)] (by rfl) (by rfl) (World.news_of_block (cs := #[.int .u32 (x0 * 16777216 + x1 * 65536 + x2 * 256 + x3)]) (t := 28) (fr := (0, 0)) (heap_alloc_new wr _)) (by simp [Value.oneCell']) (by omega) (by unfold maxLen; omega) (by omega) (by simp; omega) (wr.heap.size + 1) (by simp) ?_; intro gg cap w4 hown4 hgrow hat hlt4))
        have hb4 : Below w.heap.size w w4 := (below_drewN (hb.alloc hz0' (.cells #[.int .u32 (x0 * 16777216 + x1 * 65536 + x2 * 256 + x3)] 28)) 1).grown hgrow (by simp; omega) (fun q hq => own_from hown q hq)
        have ho4 : w4.ownsRow w.heap.size 28 1 (.slice (some ⟨gg, 0, none⟩) (L ++ [x0 * 16777216 + x1 * 65536 + x2 * 256 + x3]).length cap) (L ++ [x0 * 16777216 + x1 * 65536 + x2 * 256 + x3]).length (w32 (L ++ [x0 * 16777216 + x1 * 65536 + x2 * 256 + x3])) := by
          rw [hL2, w32, List.map_append]
          exact hown4
        clear hown4 hgrow hat hown hb nb z2 z3 s1 s2 s3 n1 n2 n3 m1 m2 m3 r0 r1 r2 r3 t0 t1 t2 t3 t4 t5 t6
        generalize L ++ [x0 * 16777216 + x1 * 65536 + x2 * 256 + x3] = L2 at hL2 ho4 HQ2
        rw [← hL2]
        go_wp2_with fail
        go_roundw
        case rel => exact ⟨k + 4, L2, some ⟨gg, 0, none⟩, cap, by omega, by omega, by omega, rfl, by go_num, HQ2, ho4, hb4⟩
        case measure => simp [intOf]; omega
      · have hkN : k = N := by omega
        subst hkN
        have HL : Hid (quad xs = L) := Lib.hid (by rw [HQ.out, List.drop_eq_nil_of_le (by rw [HN.out]; exact Nat.le_refl _)]; simp [quad])
        have HN4 : Hid (xs.length % 4 = 0) := Lib.hid (by rw [HN.out]; exact h4)
        clear HQ
        go_wp2_with fail
        go_ret2
        refine ⟨hb, ?_⟩
        rw [if_neg (by rw [HN4.out]; decide), HL.out]
        exact ⟨A', c, rfl, hown⟩
  · have h4i : (((N : Int) % 4) != 0) = true := by rw [bne_iff_ne]; omega
    have h4j : ¬ (N : Int) % 4 = 0 := by omega
    have HN4 : Hid (xs.length % 4 ≠ 0) := Lib.hid (by rw [HN.out]; exact h4)
    clear hA h4
    go_enter Tryz.func39, Tryz.ntmps39
    go_wp2_with fail
    go_ret2
    refine ⟨Below.refl _ _, ?_⟩
    rw [if_pos HN4.out]
    rfl

end Go.Proofs.YtecmeegnjjhilaaGreatDoor

/- The document's List: the listing of words. -/
namespace Go.Proofs.YtecmeegnjjhilaaGreatDoor
open Go.RowKit
theorem itoa_nat (u : Nat) : Lib.itoa (u : Int) = Lib.decDigits u := by
  unfold Lib.itoa
  simp
theorem own_slice {w : World} {base n : Nat} {e : TypeId} {size : Nat} {v : Value} {xs : List Value} (h : w.ownsRow base e size v n xs) : ∃ A c, v = .slice A n c := by
  rcases h.2 with ⟨rfl, rfl⟩ | ⟨g, cap, cur, h, _⟩
  · exact ⟨_, _, rfl⟩
  · exact ⟨_, _, h⟩

set_option maxHeartbeats 4000000 in
set_option maxRecDepth 100000 in
theorem RList_any (A : Option Addr) (cp : Nat) (xs : List Int) (hn : xs.length ≤ 10000000) (hx : Word32 xs) (w : World) (hA : NumsAt w .u32 A xs.length xs) :
    Calls Tryz.prog 35 #[.slice A xs.length cp] w fun e w' => e = .returned (.string ⟨(listT xs).toArray⟩) ∧ Below w.heap.size w w' := by
  generalize hN : xs.length = N at hn hA ⊢
  have HN := Lib.hid hN
  have HX := Lib.hid hx
  have HA := Lib.hid hA
  clear hx hN hA
  obtain ⟨i0, hi0, hz0, hz1, hz2⟩ := info_parts byteinfo8
  have hb0 := (Below.refl w.heap.size w).alloc (Nat.le_refl _) (.cells #[] 5)
  have ho0 := own_empty w 5
  have HL0 : Hid (listT (xs.take 0) = []) := Lib.hid rfl
  go_enter Tryz.func35, Tryz.ntmps35
  go_wp2_with fail
  go_loopw [3, 4] (fun s3 s4 wr => ∃ (k : Nat) (L : List UInt8) (A' : Option Addr) (c : Nat), k ≤ N ∧ s4 = .int .i64 k ∧ s3 = .slice A' L.length c ∧ L.length ≤ k * 41 ∧ Hid (listT (xs.take k) = L) ∧ wr.ownsRow w.heap.size 5 1 (.slice A' L.length c) L.length (Lib.byteCells L) ∧ Below w.heap.size w wr) (fun _ s4 _ => N - (intOf s4).toNat)
  case atStart => exact ⟨0, [], _, _, by omega, rfl, rfl, by simp, HL0, ho0, hb0⟩
  case round =>
    obtain ⟨k, L, A', c, hk, rfl, rfl, hLk, HL, hown, hb⟩ := hrel
    clear ho0 hb0 HL0
    by_cases hlt : k < N
    · obtain ⟨n, hn2⟩ : ∃ n, xs[k]? = some n := ⟨_, List.getElem?_eq_getElem (by rw [HN.out]; exact hlt)⟩
      obtain ⟨b, o, rfl, hc⟩ := HA.out.2 (by omega)
      obtain ⟨n0, n1⟩ := HX.out n (List.mem_of_getElem? hn2)
      have k0 : wr.cell? ⟨b, o + k, none⟩ = some (.int .u32 n) := cell_below (hc _ _ hn2) hb
      have HL2 : Hid (listT (xs.take (k + 1)) = L ++ (lineT n ++ [10])) := Lib.hid (by rw [List.take_add_one, hn2, Option.toList_some, list_snoc, HL.out])
      have hln := line_len n n0 n1
      have HD := Lib.hid (fun W => RDecode_any n n0 n1 W)
      have HLine : Hid (lineT n = if decC n = 0 then printT (decI n) else wWord ++ 32 :: Lib.decDigits n.toNat) := Lib.hid rfl
      have HPc : Hid (decC n = 0 → checkC (decI n) = 0) := Lib.hid (fun h => (dec_bits n h).1)
      obtain ⟨u, rfl⟩ := Int.eq_ofNat_of_zero_le n0
      have HFu := Lib.hid (fun W => Number10_any (u : Int) (by omega) (by omega) W)
      rw [itoa_nat] at HFu
      have hdl := dec_upto u 10 (by omega) (by omega)
      rw [Int.toNat_natCast] at HLine
      have HP0 := Lib.hid (fun W => RPrint_any (decI u) W)
      generalize hj : decI (u : Int) = j at HD HLine HPc HP0
      generalize decC (u : Int) = cd at HD HLine HPc
      generalize Lib.decDigits u = dg at HFu HLine hdl
      generalize lineT (u : Int) = LT at HL2 hln HLine
      have wi : IntKind.i64.wrap (u : Int) = (u : Int) := IntWalk.i64_in _ (by omega)
      clear hn2 hc HL HA hj
      obtain ⟨Y, hY⟩ : ∃ Y : ByteArray, ((⟨#[46, 119, 111, 114, 100, 32]⟩ : ByteArray) ++ ⟨dg.toArray⟩) = Y := ⟨_, rfl⟩
      have hYs : Y.size = 6 + dg.length := by rw [← hY, ByteArray.size_append]; simp [ByteArray.size]
      have HYd : Hid (Y.data.toList = wWord ++ 32 :: dg) := Lib.hid (by rw [← hY, Joins.data_append]; rfl)
      have hcat : ¬ 9223372036854775807 < 6 + dg.length := by omega
      obtain ⟨jo, ja, jb, jc, jm⟩ := j
      unfold Ins.val at HP0 HD
      simp only at HP0 HD
      have hown0 : ∀ W, Below wr.heap.size wr W → W.ownsRow w.heap.size 5 1 (.slice A' L.length c) L.length (Lib.byteCells L) := fun W h => own_below hown h
      have HOw := Lib.hid hown0
      have HBw : Hid (∀ W, Below wr.heap.size wr W → Below w.heap.size w W) := Lib.hid (fun W h => hb.trans (h.mono hb.size))
      clear hown0 hown
      go_wp2_with fail
      refine (HD.out wr).mono ?_
      rintro e w1 ⟨rfl, hb1⟩
      have k1 := cell_below k0 hb1
      clear k0
      have hb2 := hb1.alloc hb1.size (.cells #[.int .i64 jo, .int .i64 ja, .int .i64 jb, .int .i64 jc, .int .i64 jm] 27)
      have hB2 := Blk.new w1 27 #[.int .i64 jo, .int .i64 ja, .int .i64 jb, .int .i64 jc, .int .i64 jm]
      have k2 : (w1.alloc (.cells #[.int .i64 jo, .int .i64 ja, .int .i64 jb, .int .i64 jc, .int .i64 jm] 27)).cell? ⟨b, o + k, none⟩ = some (.int .u32 (u : Int)) := cell_below k1 ((Below.refl w1.heap.size w1).alloc (Nat.le_refl _) _)
      go_wp2_with fail
      refine (HFu.out _).mono ?_
      rintro e w3 ⟨rfl, hb3⟩
      have hB3 := hB2.below hb3 hB2.lt
      have hb03 : Below wr.heap.size wr w3 := hb2.trans (hb3.mono hb2.size)
      clear hb1 hb2 hb3 hB2 k1 k2 HD HFu hb
      generalize w1.heap.size = q at hB3 ⊢
      by_cases h0 : cd = 0
      · subst h0
        have hch := HPc.out rfl
        have hP := fun W => HP0.out W
        rw [hch, if_pos rfl] at hP
        obtain ⟨S, hS⟩ : ∃ S : ByteArray, (⟨(printT ⟨jo, ja, jb, jc, jm⟩).toArray⟩ : ByteArray) = S := ⟨_, rfl⟩
        have hSl : S.data.toList = LT := by rw [← hS, HLine.out, if_pos rfl]
        have hSs : S.size ≤ 40 := by rw [Lib.size_eq, hSl]; exact hln
        have HSl := Lib.hid hSl
        rw [hS] at hP
        have HP := Lib.hid hP
        have c0 : w3.cell? ⟨q, 0, none⟩ = some (.int .i64 jo) := hB3.cell 0
        have c1 : w3.cell? ⟨q, 1, none⟩ = some (.int .i64 ja) := hB3.cell 1
        have c2 : w3.cell? ⟨q, 2, none⟩ = some (.int .i64 jb) := hB3.cell 2
        have c3 : w3.cell? ⟨q, 3, none⟩ = some (.int .i64 jc) := hB3.cell 3
        have c4 : w3.cell? ⟨q, 4, none⟩ = some (.int .i64 jm) := hB3.cell 4
        clear hch hP hSl hS HLine HYd
        go_wp2_with fail
        refine (HP.out w3).mono ?_
        rintro e w4 ⟨rfl, hb4⟩
        have hb04 : Below wr.heap.size wr w4 := hb03.trans (hb4.mono hb03.size)
        have hown4 := HOw.out w4 hb04
        have hbw4 := HBw.out w4 hb04
        clear c0 c1 c2 c3 c4 hB3 hb4 hb03 hb04 HOw HBw HP
        have HBs : Hid (Lib.byteCells L ++ Lib.strCells S = Lib.byteCells (L ++ LT)) := Lib.hid (by
          rw [Lib.strCells_eq, ← Lib.byteCells_append, HSl.out])
        have HLT : Hid (LT.length = S.size) := Lib.hid (by rw [Lib.size_eq, HSl.out])
        go_wp2_with (at_builtin; refine Lib.wpList_append_own_string _ rfl _ _ 56 9 rfl w.heap.size 5 i0 Tryz.underlying56 Tryz.underlying9 hi0 hz0 hz1 hz2 _ _ _ rfl hown4 S rfl ?c3 ?c4 ?c5 ?_)
        case c3 => unfold maxLen; omega
        case c4 => omega
        case c5 => exact hbw4.size
        intro v5 w5 hown5 hg5 _
        have hbw5 : Below w.heap.size w w5 := hbw4.grown hg5 hbw4.size (fun q hq => own_from hown4 q hq)
        rw [HBs.out] at hown5
        obtain ⟨A5, c5, rfl⟩ := own_slice hown5
        have HL5 : Hid ((L ++ LT).length = L.length + S.size) := Lib.hid (by rw [List.length_append, HLT.out])
        rw [← HL5.out] at hown5 ⊢
        have hLl : (L ++ LT).length ≤ k * 41 + 40 := by have := HL5.out; omega
        have HX6 : Hid (Lib.byteCells (L ++ LT) ++ [.int .u8 10] = Lib.byteCells (L ++ (LT ++ [10]))) := Lib.hid (by rw [← List.append_assoc, Lib.byteCells_append (L ++ LT)]; rfl)
        have HL6 : Hid ((L ++ (LT ++ [10])).length = (L ++ LT).length + 1) := Lib.hid (by simp; omega)
        generalize L ++ LT = L5 at hown5 HL5 hLl HX6 HL6 ⊢
        clear hown4 hbw4 hg5 HBs HSl
        go_wp2_with (at_builtin; refine wpList_append_own _ rfl (.tmp 40) (.tmp 41) _ rfl w.heap.size 5 i0 _ 1 1 Tryz.underlying56 hi0 hz0 hz1 hz2 rfl (by decide) (.slice A5 L5.length c5) L5.length (Lib.byteCells L5) rfl (hown5.alloc _) ⟨w5.heap.size, 0, none⟩ 1 1 [.int .u8 10] rfl rfl (fun j u hu => new_cells w5 _ _ j u hu) (by intro u hu; simp only [List.mem_cons, List.not_mem_nil, or_false] at hu; subst hu; rfl) (by unfold maxLen; omega) (by omega) (Nat.le_trans hbw5.size (by simp)) ?_)
        intro v9 w9 hown9 hg9 _
        have hb9 : Below w.heap.size w w9 := (hbw5.alloc hbw5.size (.cells #[.int .u8 10] 5)).grown hg9 (Nat.le_trans hbw5.size (by simp)) (fun q hq => by have := own_from hown5 q hq; omega)
        rw [HX6.out, ← HL6.out] at hown9
        obtain ⟨A9, c9, rfl⟩ := own_slice hown9
        have hL9 : (L ++ (LT ++ [10])).length ≤ (k + 1) * 41 := by have := HL6.out; omega
        clear hown5 hbw5 hg9 HX6 HL6 HL5 HLT
        go_wp2_with fail
        go_roundw
        case rel => exact ⟨k + 1, L ++ (LT ++ [10]), A9, c9, by omega, by go_num, rfl, hL9, HL2, hown9, hb9⟩
        case measure => simp [intOf]; omega
      · have HSl : Hid (Y.data.toList = LT) := Lib.hid (by rw [HYd.out, HLine.out, if_neg h0])
        have hSs : Y.size ≤ 40 := by omega
        have hown4 := HOw.out w3 hb03
        have hbw4 := HBw.out w3 hb03
        have d0 : ((cd : Int) == 0) = false := by rw [beq_eq_false_iff_ne]; omega
        clear hB3 hb03 HOw HBw HLine HYd hYs
        generalize w3 = w4 at hown4 hbw4 ⊢
        generalize Y = S at hY HSl hSs
        have HBs : Hid (Lib.byteCells L ++ Lib.strCells S = Lib.byteCells (L ++ LT)) := Lib.hid (by
          rw [Lib.strCells_eq, ← Lib.byteCells_append, HSl.out])
        have HLT : Hid (LT.length = S.size) := Lib.hid (by rw [Lib.size_eq, HSl.out])
        go_wp2_with (at_builtin; refine Lib.wpList_append_own_string _ rfl _ _ 56 9 rfl w.heap.size 5 i0 Tryz.underlying56 Tryz.underlying9 hi0 hz0 hz1 hz2 _ _ _ rfl hown4 S rfl ?c3 ?c4 ?c5 ?_)
        case c3 => unfold maxLen; omega
        case c4 => omega
        case c5 => exact hbw4.size
        intro v5 w5 hown5 hg5 _
        have hbw5 : Below w.heap.size w w5 := hbw4.grown hg5 hbw4.size (fun q hq => own_from hown4 q hq)
        rw [HBs.out] at hown5
        obtain ⟨A5, c5, rfl⟩ := own_slice hown5
        have HL5 : Hid ((L ++ LT).length = L.length + S.size) := Lib.hid (by rw [List.length_append, HLT.out])
        rw [← HL5.out] at hown5 ⊢
        have hLl : (L ++ LT).length ≤ k * 41 + 40 := by have := HL5.out; omega
        have HX6 : Hid (Lib.byteCells (L ++ LT) ++ [.int .u8 10] = Lib.byteCells (L ++ (LT ++ [10]))) := Lib.hid (by rw [← List.append_assoc, Lib.byteCells_append (L ++ LT)]; rfl)
        have HL6 : Hid ((L ++ (LT ++ [10])).length = (L ++ LT).length + 1) := Lib.hid (by simp; omega)
        generalize L ++ LT = L5 at hown5 HL5 hLl HX6 HL6 ⊢
        clear hown4 hbw4 hg5 HBs HSl
        go_wp2_with (at_builtin; refine wpList_append_own _ rfl (.tmp 40) (.tmp 41) _ rfl w.heap.size 5 i0 _ 1 1 Tryz.underlying56 hi0 hz0 hz1 hz2 rfl (by decide) (.slice A5 L5.length c5) L5.length (Lib.byteCells L5) rfl (hown5.alloc _) ⟨w5.heap.size, 0, none⟩ 1 1 [.int .u8 10] rfl rfl (fun j u hu => new_cells w5 _ _ j u hu) (by intro u hu; simp only [List.mem_cons, List.not_mem_nil, or_false] at hu; subst hu; rfl) (by unfold maxLen; omega) (by omega) (Nat.le_trans hbw5.size (by simp)) ?_)
        intro v9 w9 hown9 hg9 _
        have hb9 : Below w.heap.size w w9 := (hbw5.alloc hbw5.size (.cells #[.int .u8 10] 5)).grown hg9 (Nat.le_trans hbw5.size (by simp)) (fun q hq => by have := own_from hown5 q hq; omega)
        rw [HX6.out, ← HL6.out] at hown9
        obtain ⟨A9, c9, rfl⟩ := own_slice hown9
        have hL9 : (L ++ (LT ++ [10])).length ≤ (k + 1) * 41 := by have := HL6.out; omega
        clear hown5 hbw5 hg9 HX6 HL6 HL5 HLT
        go_wp2_with fail
        go_roundw
        case rel => exact ⟨k + 1, L ++ (LT ++ [10]), A9, c9, by omega, by go_num, rfl, hL9, HL2, hown9, hb9⟩
        case measure => simp [intOf]; omega
    · have HE2 : Hid (listT xs = L) := Lib.hid (by rw [← HL.out, List.take_of_length_le (by rw [HN.out]; omega)])
      have hys : Lib.byteCells L = (L.map fun b => (b.toNat : Int)).map fun y => Value.int .u8 y := by simp [Lib.byteCells]
      have htx : textB (L.map fun b => (b.toNat : Int)) = L := by
        unfold textB
        rw [List.map_map]
        have : ((fun x : Int => UInt8.ofNat x.toNat) ∘ fun b : UInt8 => (b.toNat : Int)) = id := by
          funext b
          simp
        rw [this, List.map_id]
      have hNu : NumsAt wr .u8 A' (L.map fun b => (b.toNat : Int)).length (L.map fun b => (b.toNat : Int)) := NumsAt.own (by rw [← hys, List.length_map]; exact hown)
      have cv0 := conv_bytes A' c (L.map fun b => (b.toNat : Int)) (fun y hy => by
        obtain ⟨b, _, rfl⟩ := List.mem_map.1 hy
        have := b.toNat_lt
        omega) wr hNu
      rw [htx, List.length_map] at cv0
      clear hys htx hNu HL HA hown
      go_wp2_with fail
      go_ret
      rw [HE2.out]
      exact ⟨rfl, hb⟩
end Go.Proofs.YtecmeegnjjhilaaGreatDoor

/- The document's line: one line of a source. -/
namespace Go.Proofs.YtecmeegnjjhilaaGreatDoor
open Go.RowKit
/-- Labels all different, at addresses from 0 to 2048. -/
def GoodL (ls : List (List UInt8 × Int)) : Prop := Diff ls ∧ ∀ x ∈ ls, 0 ≤ x.2 ∧ x.2 ≤ 2048
theorem good_first {ls : List (List UInt8 × Int)} (h : GoodL ls) {l : List UInt8} {a : Int} (hf : lookL ls l = some a) : (firstL ls l).getD (-1) = a ∧ 0 ≤ a ∧ a ≤ 2048 := by
  rw [first_look ls h.1, hf]
  refine ⟨rfl, ?_⟩
  unfold lookL at hf
  cases hc : ls.reverse.find? (fun x => x.1 == l) with
  | none => rw [hc] at hf; cases hf
  | some y =>
    rw [hc] at hf
    injection hf with hf
    rw [← hf]
    exact h.2 y (List.mem_reverse.1 (List.mem_of_find?_eq_some hc))
theorem good_snoc {ls : List (List UInt8 × Int)} (h : GoodL ls) {l : List UInt8} {a : Int} (hl : (lookL ls l).isSome = false) (ha : 0 ≤ a ∧ a ≤ 2048) : GoodL (ls ++ [(l, a)]) :=
  ⟨diff_snoc h.1 (x := (l, a)) hl, fun x hx => by
    rcases List.mem_append.1 hx with hx | hx
    · exact h.2 x hx
    · simp only [List.mem_cons, List.not_mem_nil, or_false] at hx
      rw [hx]
      exact ha⟩
def lineW (num : Int) (ws : List ByteArray) (g : PrR) : PrR × Nat := match labelsP (4 * g.parts.length) ws g.labs with
  | (c, ls, r) => if c ≠ 0 then (g, c) else restR num { g with labs := ls } r
def afterL (num : Int) (g : PrR) (F : Nat × List (List UInt8 × Int) × List ByteArray) : PrR × Nat := if F.1 ≠ 0 then (g, F.1) else restR num { g with labs := F.2.1 } F.2.2
def placesV (ls : List (List UInt8 × Int)) : List Value := ls.map fun x => .int .i64 x.2
def namesV (ls : List (List UInt8 × Int)) : List Value := (namesB ls).map Value.string
/-- The program's state in memory. -/
def PrAt (w : World) (M : Nat) (g : PrR) (nb : Option Nat) : Prop := ∃ A0 c0 A1 c1 A2 c2, Pr w M (.slice A0 g.parts.length c0) (.slice A1 g.labs.length c1) (.slice A2 g.labs.length c2) g.parts.length g.labs.length g.labs.length (pcells g.parts) (namesV g.labs) (placesV g.labs) ∧ (Value.slice A1 g.labs.length c1).ownBlock = nb
def RLineOut (w : World) (M : Nat) (g : PrR) (n : Nat) (nb : Option Nat) (r : PrR × Nat) (e : Ending) (w' : World) : Prop :=
  e = .returned (.int .i64 r.2) ∧ Below M w w' ∧ (r.2 = 0 → ∃ nb', KeepS w w' nb nb' ∧ PrAt w' M r.1 nb' ∧ GoodL r.1.labs ∧ r.1.parts.length ≤ 512 ∧ r.1.labs.length ≤ g.labs.length + n)
theorem own_nums_at {w : World} {base n : Nat} {A : Option Addr} {c : Nat} {ls : List (List UInt8 × Int)} (hn : ls.length = n) (h : w.ownsRow base 3 1 (.slice A n c) n (placesV ls)) : NumsAt w .i64 A n (ls.map (·.2)) := by
  subst hn
  have h2 := NumsAt.own (q := .i64) (xs := ls.map (·.2)) (A := A) (c := c) (base := base) (e := 3) (w := w) (by
    rw [List.length_map]
    have e : (ls.map (·.2)).map (fun x => Value.int .i64 x) = placesV ls := by simp [placesV]
    rw [e]
    exact h)
  rw [List.length_map] at h2
  exact h2
theorem own_strs_at {w : World} {base n : Nat} {A : Option Addr} {c : Nat} {ls : List (List UInt8 × Int)} (hn : ls.length = n) (h : w.ownsRow base 9 1 (.slice A n c) n (namesV ls)) : StrsV w (.slice A n c) (namesB ls) := by
  subst hn
  have e : (namesB ls).length = ls.length := by simp [namesB]
  refine StrsV.of_own (base := base) ?_
  rw [e]
  exact h

theorem made_len (w : List UInt8) (l : List (List UInt8)) : (madeR w l).1.length ≤ 512 := by
  unfold madeR
  split
  · exact Nat.zero_le _
  · split
    · exact Nat.zero_le _
    · simp
  · split
    · exact Nat.zero_le _
    · simp
  · split
    · exact Nat.zero_le _
    · simp
  · split
    · exact Nat.zero_le _
    · rename_i h
      have := numR_range 0 512 0 (by decide) (by decide) l (by simpa using h)
      have h2 := this.2.2 (by decide)
      simp only [List.length_replicate]
      omega
  · split
    · split
      · exact Nat.zero_le _
      · simp
    · exact Nat.zero_le _
  · simp
theorem Pr.far {w : World} {M : Nat} {vp vn vl : Value} {np nn nl : Nat} {ps ns ls : List Value} (h : Pr w M vp vn vl np nn nl ps ns ls) {g : Nat} (h0 : M ≠ g) (h1 : vp.ownBlock = none ∨ vp.ownBlock ≠ some g) (h2 : vn.ownBlock = none ∨ vn.ownBlock ≠ some g) (h3 : vl.ownBlock = none ∨ vl.ownBlock ≠ some g) (i : Nat) (u : Value) :
    Pr (w.setCell ⟨g, i, none⟩ u) M vp vn vl np nn nl ps ns ls :=
  ⟨h.blk.far (p := ⟨g, i, none⟩) h0 u, own_far h.parts h1 i u, own_far h.names h2 i u, own_far h.places h3 i u⟩
def setL (num : Int) (p : Part) : Part := { p with line := num }
theorem pcells_at : ∀ (L : List Part) (i : Nat) (p : Part), L[i]? = some p → ∀ t, t < 10 → (pcells L)[i * 10 + t]? = (cellsP p)[t]?
  | [], i, p, h, _, _ => by simp at h
  | y :: r, 0, p, h, t, ht => by
    simp only [List.getElem?_cons_zero, Option.some.injEq] at h
    subst h
    have e : pcells (y :: r) = (cellsP y).toList ++ pcells r := by simp [pcells]
    have hl : (cellsP y).toList.length = 10 := rfl
    rw [e, List.getElem?_append_left (by rw [hl]; omega), Nat.zero_mul, Nat.zero_add]
    simp
  | y :: r, i + 1, p, h, t, ht => by
    have e : pcells (y :: r) = (cellsP y).toList ++ pcells r := by simp [pcells]
    have hl : (cellsP y).toList.length = 10 := rfl
    rw [e, List.getElem?_append_right (by rw [hl]; omega), hl, show (i + 1) * 10 + t - 10 = i * 10 + t by omega]
    exact pcells_at r i p (by simpa using h) t ht
theorem pcells_set (num : Int) : ∀ (a : List Part) (p : Part) (b : List Part), (pcells (a ++ p :: b)).set (a.length * 10 + 9) (.int .i64 num) = pcells (a ++ setL num p :: b)
  | [], p, b => by
    have e : ∀ y : Part, pcells ([] ++ y :: b) = (cellsP y).toList ++ pcells b := fun y => by simp [pcells]
    have hl : (cellsP p).toList.length = 10 := rfl
    rw [e, e, List.length_nil, Nat.zero_mul, Nat.zero_add, List.set_append_left (h := by rw [hl]; omega)]
    rfl
  | y :: a, p, b => by
    have e : ∀ z : Part, pcells ((y :: a) ++ z :: b) = (cellsP y).toList ++ pcells (a ++ z :: b) := fun z => by simp [pcells]
    have hl : (cellsP y).toList.length = 10 := rfl
    rw [e, e, List.length_cons, List.set_append_right (h := by rw [hl]; omega), hl, show (a.length + 1) * 10 + 9 - 10 = a.length * 10 + 9 by omega, pcells_set num a p b]
set_option maxHeartbeats 16000000 in
set_option maxRecDepth 100000 in
theorem rline_any (M : Nat) (g : PrR) (A0 : Option Addr) (c0 : Nat) (A1 : Option Addr) (c1 : Nat) (A2 : Option Addr) (c2 : Nat) (num : Int) (A : Option Addr) (n c : Nat) (ss : List ByteArray)
    (hss : ∀ s ∈ ss, 1 ≤ s.size ∧ s.size ≤ 100000000) (hn8 : n ≤ 100000000) (hg5 : g.parts.length ≤ 512) (hgl : g.labs.length + n ≤ 8000000000000) (hD : GoodL g.labs) (w : World)
    (hP : Pr w M (.slice A0 g.parts.length c0) (.slice A1 g.labs.length c1) (.slice A2 g.labs.length c2) g.parts.length g.labs.length g.labs.length (pcells g.parts) (namesV g.labs) (placesV g.labs))
    (hW : StrsA w (Value.slice A1 g.labs.length c1).ownBlock (.slice A n c) ss) :
    Calls Tryz.prog 60 #[.pointer (some ⟨M, 0, none⟩), .slice A n c, .int .i64 num] w (RLineOut w M g n (Value.slice A1 g.labs.length c1).ownBlock (lineW num ss g)) := by
  have hn : ss.length = n := by
    obtain ⟨_, _, e, _⟩ := hW
    injection e with _ e2 _
    exact e2.symm
  have hMw : M < w.heap.size := hP.blk.lt
  have HLW : Hid (lineW num ss g = afterL num g (labelsP (4 * (g.parts.length : Int)) ss g.labs)) := Lib.hid rfl
  obtain ⟨gl, gp⟩ := g
  simp only at hP hW hg5 hgl hD HLW ⊢
  generalize hFr : labelsP (4 * (gp.length : Int)) ss gl = F at HLW
  have HF0 : Hid (F = labelsP (4 * (gp.length : Int)) ss gl) := Lib.hid hFr.symm
  generalize hR : lineW num ss ⟨gl, gp⟩ = R at HLW ⊢
  generalize hnb : (Value.slice A1 gl.length c1).ownBlock = nb at hW ⊢
  have hK0 : KeepS w w nb (Value.slice A1 gl.length c1).ownBlock := by rw [hnb]; exact KeepS.refl w nb
  have HSS := Lib.hid hss
  have hb0 := Below.refl M w
  have HD0 := Lib.hid hD
  have Hn := Lib.hid hn
  have HNB := Lib.hid hnb
  obtain ⟨i0, hi0, hz0, hz1, hz2⟩ := info_parts strinfo
  obtain ⟨j0, hj0, hy0, hy1, hy2⟩ := info_parts intinfo
  clear hFr hR hss hD hn hnb
  generalize hgL : gl.length = nl at hP hgl hK0 ⊢
  have HGL := Lib.hid hgL
  clear hgL
  go_enter Tryz.func60, Tryz.ntmps60
  go_wp2_with fail
  go_loopw [1] (fun s1 wr => ∃ (k : Nat) (ls : List (List UInt8 × Int)) (r : List ByteArray) (A : Option Addr) (c q : Nat) (A1 : Option Addr) (c1 : Nat) (A2 : Option Addr) (c2 : Nat), s1 = .slice A k c ∧ Hid (r.length = k) ∧ Hid (ls.length = q) ∧ StrsA w nb (.slice A k c) r ∧
      Pr wr M (.slice A0 gp.length c0) (.slice A1 q c1) (.slice A2 q c2) gp.length q q (pcells gp) (namesV ls) (placesV ls) ∧ KeepS w wr nb (Value.slice A1 q c1).ownBlock ∧ Hid (GoodL ls) ∧ Hid (F = labelsP (4 * (gp.length : Int)) r ls) ∧ Below M w wr ∧ k ≤ n ∧ q + k ≤ nl + n ∧ Hid (∀ s ∈ r, 1 ≤ s.size ∧ s.size ≤ 100000000)) (fun v _ => match v with | .slice _ n _ => n | _ => 0)
  case atStart => exact ⟨n, gl, ss, A, c, nl, A1, c1, A2, c2, rfl, Hn, HGL, hW, hP, hK0, HD0, HF0, hb0, Nat.le_refl _, Nat.le_refl _, HSS⟩
  case round =>
    obtain ⟨k, ls, r, A, c, q, A1, c1, A2, c2, rfl, Hk, Hq, hWr, hPr, hKr, HDr, HFr, hbr, hkn, hqn, HSr⟩ := hrel
    clear hP hK0 HD0 HF0 hb0 HSS Hn hW
    have hMr : M < wr.heap.size := hPr.blk.lt
    match r, Hk, hWr, HFr, HSr with
    | [], Hk, hWr, HFr, HSr =>
      have hk0 : k = 0 := by have := Hk.out; simpa using this.symm
      have HQ : Hid (R = (⟨ls, gp⟩, 0)) := Lib.hid (by rw [HLW.out, HFr.out]; rfl)
      have d1 : decide ((0 : Int) < (k : Int)) = false := by simp; omega
      have d2 : ((k : Int) == 0) = true := by simp; omega
      clear HLW HFr HSr hWr
      go_wp2_with fail
      go_quiet (fail)
      go_wp2_with fail
      go_ret
      rw [HQ.out]
      have hbq : ∀ n, Below wr.heap.size wr (wr.drewN n) := fun n => below_drewN (Below.refl _ _) n
      exact ⟨rfl, below_drewN hbr _, fun _ => ⟨_, hKr.below (hbq _), ⟨A0, c0, A1, c1, A2, c2, by have h := hPr.below (hbq nq); rw [← Hq.out] at h; exact h, by rw [Hq.out]⟩, HDr.out, hg5, by have h1 := Hq.out; have h2 := HGL.out; simp only; omega⟩⟩
    | x :: r', Hk, hWr, HFr, HSr =>
      obtain ⟨j, rfl⟩ : ∃ j, k = j + 1 := ⟨r'.length, Hk.out.symm⟩
      have Hj : Hid (r'.length = j) := Lib.hid (by have := Hk.out; simpa using this)
      have hWk := hWr.keep hKr
      obtain ⟨b, o, rfl, hx⟩ := hWk.strs.at_ 0 x rfl
      rw [Nat.add_zero] at hx
      have hxs := HSr.out x (by simp)
      have p : x.size - 1 < x.size := by omega
      have Hlc := Lib.hid (last_colon x p)
      have z1 : IntKind.i64.wrap ((x.size : Int) - 1) = (x.size : Int) - 1 := IntWalk.i64_in _ (by omega)
      have z2 : ((x.size : Int) - 1).toNat = x.size - 1 := by omega
      have z3 : (0 : Int) ≤ (x.size : Int) - 1 := by omega
      have z4 : (x.size : Int) - 1 < (x.size : Int) := by omega
      have y1 : (1 : Int) ≤ (x.size : Int) := by omega
      have y2 : ¬ (x.size : Int) < 1 := by omega
      have y3 : 0 < x.size := by omega
      have y5 : ¬ ((x.size : Int) - 1 < 0) := by omega
      have y6 : ¬ x = ByteArray.empty := by rintro rfl; exact absurd y3 (by decide)
      have y7 : ¬ x.size = 0 := by omega
      have dj : decide ((0 : Int) < (j : Int) + 1) = true := by first | (simp; done) | (simp; omega)
      have dj2 : decide ((0 : Int) < ((j + 1 : Nat) : Int)) = true := by first | (simp; done) | (simp; omega)
      have hbq : ∀ n, Below wr.heap.size wr (wr.drewN n) := fun n => below_drewN (Below.refl _ _) n
      have HBq := Lib.hid hbq
      clear hbq
      cases hsf : Lib.hasSuffix x.data.toList [58] with
      | false =>
        have e58 : (((x[x.size - 1]'p).toNat : Int) == 58) = false := by
          have h := Hlc.out
          rw [hsf] at h
          rw [beq_eq_false_iff_ne]
          have h2 : (x[x.size - 1]'p).toNat ≠ 58 := by simpa using h.symm
          omega
        have HF2 : F = (0, ls, x :: r') := by rw [HFr.out, labelsP, if_neg (by rw [hsf]; decide)]
        have HQ : Hid (R = restR num ⟨ls, gp⟩ (x :: r')) := Lib.hid (by rw [HLW.out, HF2]; rfl)
        clear HF2
        clear HLW HFr Hlc hsf
        have HR2 : Hid (R = if (madeR x.data.toList (r'.map fun s => s.data.toList)).2 ≠ 0 then (⟨ls, gp⟩, (madeR x.data.toList (r'.map fun s => s.data.toList)).2) else if 512 < gp.length + (madeR x.data.toList (r'.map fun s => s.data.toList)).1.length then (⟨ls, gp⟩, 11) else (⟨ls, gp ++ (madeR x.data.toList (r'.map fun s => s.data.toList)).1.map (setL num)⟩, 0)) := Lib.hid (by rw [HQ.out]; rfl)
        have HMd := Lib.hid (fun W (h : StrsV W (.slice (some ⟨b, o, none⟩) (j + 1) c) (x :: r')) => made_any x (some ⟨b, o, none⟩) j c r' (fun s hs => (HSr.out s (by simp [hs])).2) (by omega) W h)
        have HWq := Lib.hid (fun n => StrsV.below hWk.strs (below_drewN (Below.refl wr.heap.size wr) n))
        have HPq := Lib.hid (fun n => hPr.below (below_drewN (Below.refl wr.heap.size wr) n))
        have HKq := Lib.hid (fun n => hKr.below (below_drewN (Below.refl wr.heap.size wr) n))
        have HBm : Hid (∀ n, Below M w (wr.drewN n)) := Lib.hid (fun n => below_drewN hbr _)
        have hPr0 := Lib.hid hPr
        clear HQ
        have hml := made_len x.data.toList (r'.map fun s => s.data.toList)
        generalize madeR x.data.toList (r'.map fun s => s.data.toList) = mr at HR2 HMd hml
        obtain ⟨ps, en⟩ := mr
        simp only at hml
        simp only at HR2
        go_wp2_with fail
        go_quiet (fail)
        go_wp2_with fail
        refine (HMd.out _ (HWq.out _)).mono ?_
        rintro e w4 ⟨v, rfl, hb4, hown⟩
        have hP4 := (HPq.out _).below hb4
        have hK4 := (HKq.out _).below hb4
        have hb04 : Below M w w4 := (HBm.out _).trans (hb4.mono (Nat.le_of_lt hMr))
        clear HMd HWq HPq HKq HBm hPr hKr hbr hWk hWr hx HBq
        by_cases h0 : en = 0
        · subst h0
          have HR3 := Lib.hid (HR2.out.trans (if_neg (by simp)))
          have hrow := hown rfl
          clear hown
          obtain ⟨Av, cv, rfl⟩ := own_slice hrow
          have m0 : w4.cell? ⟨M, 0, none⟩ = some (.slice A0 gp.length c0) := hP4.blk.cell 0
          have hpl : gp.length ≤ 512 := hg5
          clear HR2
          by_cases hbig : 512 < gp.length + ps.length
          · have HQ : Hid (R = (⟨ls, gp⟩, 11)) := Lib.hid (HR3.out.trans (if_pos hbig))
            have d5 : decide ((512 : Int) < (gp.length : Int) + (ps.length : Int)) = true := by simp; omega
            clear HR3 hrow
            go_wp2_with fail
            all_goals first
              | (go_ret
                 rw [HQ.out]
                 exact ⟨rfl, hb04, fun h => absurd h (by simp)⟩)
              | (exfalso; omega)
          · have d5 : decide ((512 : Int) < (gp.length : Int) + (ps.length : Int)) = false := by simp; omega
            have HQ := Lib.hid (HR3.out.trans (if_neg hbig))
            clear HR3
            go_wp2_with fail
            have hav : (Value.slice Av ps.length cv).ownBlock = none ∨ (Value.slice Av ps.length cv).ownBlock ≠ (Value.slice A0 gp.length c0).ownBlock := by
              rcases hrow.2 with ⟨h1, h2⟩ | ⟨g, cap, cur, h1, h2, _⟩
              · rw [h1]; exact .inl rfl
              · rw [h1]
                refine .inr ?_
                intro e
                rcases hPr0.out.parts.2 with ⟨h3, _⟩ | ⟨g3, cap3, cur3, h3, _, h5, _⟩
                · rw [h3] at e; cases e
                · rw [h3] at e
                  have e2 : g = g3 := by simpa [Value.ownBlock] using e
                  have := (Array.getElem?_eq_some_iff.1 h5).1
                  have h2' : wr.heap.size ≤ g := h2
                  omega
            obtain ⟨k0, hq0, hq1, hq2, hq3⟩ := info_parts partinfo
            have hown' : w4.ownsRow wr.heap.size 121 10 (.slice Av ps.length cv) ps.length (pcells (([] : List Part).map (setL num) ++ ps)) := hrow
            have HPS := Lib.hid (fun (i : Nat) (hi : i < ps.length) => (⟨_, List.getElem?_eq_getElem hi⟩ : ∃ p, ps[i]? = some p))
            generalize hnp : ps.length = np at hown' hbig HPS hav hml ⊢
            have Hnp := Lib.hid hnp
            clear hnp hrow
            go_wp2_with fail
            obtain ⟨wo, rfl⟩ : ∃ wo : World, wo = wr := ⟨_, rfl⟩
            go_loopw [10] (fun s10 wx => ∃ (i : Nat) (A0' : Option Addr) (c0' : Nat), i ≤ np ∧ s10 = .int .i64 i ∧
                Pr wx M (.slice A0' (gp.length + i) c0') (.slice A1 q c1) (.slice A2 q c2) (gp.length + i) q q (pcells (gp ++ (ps.take i).map (setL num))) (namesV ls) (placesV ls) ∧
                wx.ownsRow wo.heap.size 121 10 (.slice Av np cv) np (pcells ((ps.take i).map (setL num) ++ ps.drop i)) ∧
                ((Value.slice Av np cv).ownBlock = none ∨ (Value.slice Av np cv).ownBlock ≠ (Value.slice A0' (gp.length + i) c0').ownBlock) ∧ KeepS w wx nb (Value.slice A1 q c1).ownBlock ∧ Below M w wx) (fun s10 _ => np - (intOf s10).toNat)
            case atStart => exact ⟨0, A0, c0, by omega, rfl, by simpa using hP4, by simpa using hown', hav, hK4, hb04⟩
            case round =>
              obtain ⟨i, A0', c0', hi, rfl, hPx, hox, havx, hKx, hbx⟩ := hrel
              clear hP4 hown' hav hK4 hb04 m0
              by_cases hlt : i < np
              · obtain ⟨p, hp⟩ := HPS.out i hlt
                obtain ⟨g, hAv⟩ : ∃ g, Av = some ⟨g, 0, none⟩ := by
                  rcases hox.2 with ⟨_, h2⟩ | ⟨g, cap, cur, h1, _⟩
                  · omega
                  · injection h1 with h1 _ _
                    exact ⟨g, h1⟩
                subst hAv
                have hil : ((ps.take i).map (setL num)).length = i := by rw [List.length_map, List.length_take]; have := Hnp.out; omega
                have hdr : ps.drop i = p :: ps.drop (i + 1) := by
                  obtain ⟨hl, he⟩ := List.getElem?_eq_some_iff.1 hp
                  rw [List.drop_eq_getElem_cons hl, he]
                rw [hdr] at hox
                have hset := pcells_set num ((ps.take i).map (setL num)) p (ps.drop (i + 1))
                rw [hil] at hset
                have hpl2 := pcells_len ((ps.take i).map (setL num) ++ p :: ps.drop (i + 1))
                obtain ⟨s1, s2, s3⟩ := own_cell_at hox (i * 10 + 9) (.int .i64 p.line) (by
                  rw [pcells_at _ i p (by rw [List.getElem?_append_right (by rw [hil]; exact Nat.le_refl _), hil, Nat.sub_self]; rfl) 9 (by omega)]
                  rfl)
                have ho2 := own_set hox (i * 10 + 9) (by omega) (.int .i64 num)
                rw [hset] at ho2
                have hgw : wo.heap.size ≤ g := by
                  rcases hox.2 with ⟨h1, _⟩ | ⟨g', cap, cur, h1, h2, _⟩
                  · cases h1
                  · injection h1 with h1 _ _
                    injection h1 with h1
                    injection h1 with h1 _ _
                    rw [h1]
                    exact h2
                have hgB : ∃ cur, Blk wr g 121 cur := by
                  rcases hox.2 with ⟨h1, _⟩ | ⟨g', cap, cur, h1, _, h2, _⟩
                  · cases h1
                  · injection h1 with h1 _ _
                    injection h1 with h1
                    injection h1 with h1 _ _
                    subst h1
                    exact ⟨cur, h2⟩
                obtain ⟨cur, hgB⟩ := hgB
                have hap : (Value.slice A0' (gp.length + i) c0').ownBlock = none ∨ (Value.slice A0' (gp.length + i) c0').ownBlock ≠ some g := by
                  rcases havx with h | h
                  · simp [Value.ownBlock] at h
                  · exact .inr (fun e => h (by rw [e]; rfl))
                have hP5 := hPx.far (g := g) (by omega) hap (own_ne hPx.names hox (by decide)) (own_ne hPx.places hox (by decide)) (i * 10 + 9) (.int .i64 num)
                have hK5 := hKx.store hgB (by decide) (i * 10 + 9) (.int .i64 num)
                have hb5 : Below M w (wr.setCell ⟨g, i * 10 + 9, none⟩ (.int .i64 num)) := hbx.setCell (p := ⟨g, i * 10 + 9, none⟩) (by simp only; omega) _
                have HL2 : Hid (gp ++ (ps.take (i + 1)).map (setL num) = (gp ++ (ps.take i).map (setL num)) ++ [setL num p]) := Lib.hid (by rw [List.take_add_one, hp]; simp)
                have HL3 : Hid ((ps.take (i + 1)).map (setL num) ++ ps.drop (i + 1) = (ps.take i).map (setL num) ++ setL num p :: ps.drop (i + 1)) := Lib.hid (by rw [List.take_add_one, hp]; simp)
                have HCl := Lib.hid (fun (t : Nat) (u : Value) (ht : t < 10) (hu : (cellsP (setL num p))[t]? = some u) => own_cell_at ho2 (i * 10 + t) u (by
                  rw [pcells_at _ i (setL num p) (by rw [List.getElem?_append_right (by rw [hil]; exact Nat.le_refl _), hil, Nat.sub_self]; rfl) t ht]
                  exact hu))
                clear hset hpl2 hdr hil hox hPx hKx hbx havx hgB HPS
                go_wp2_with fail
                generalize wr.setCell ⟨g, i * 10 + 9, none⟩ (.int .i64 num) = w5 at hP5 hK5 hb5 ho2 HCl ⊢
                have m0 : w5.cell? ⟨M, 0, none⟩ = some (.slice A0' (gp.length + i) c0') := hP5.blk.cell 0
                have f0 : w5.frozen? ⟨M, 0, none⟩ = false := hP5.blk.frozen 0
                have nS : some M ≠ (Value.slice A0' (gp.length + i) c0').ownBlock := own_apart_base hP5.parts (by omega)
                have hM5 : M < w5.heap.size := hP5.blk.lt
                have hg5' : g < w5.heap.size := (HCl.out 0 _ (by omega) rfl).2.2
                have l0 : w5.cell? ⟨g, i * 10, none⟩ = some (.int .i64 p.ins.op) := (HCl.out 0 _ (by omega) rfl).1
                have l1 : w5.cell? ⟨g, i * 10 + 1, none⟩ = some (.int .i64 p.ins.a) := (HCl.out 1 _ (by omega) rfl).1
                have l2 : w5.cell? ⟨g, i * 10 + 2, none⟩ = some (.int .i64 p.ins.b) := (HCl.out 2 _ (by omega) rfl).1
                have l3 : w5.cell? ⟨g, i * 10 + 3, none⟩ = some (.int .i64 p.ins.c) := (HCl.out 3 _ (by omega) rfl).1
                have l4 : w5.cell? ⟨g, i * 10 + 4, none⟩ = some (.int .i64 p.ins.imm) := (HCl.out 4 _ (by omega) rfl).1
                have l5 : w5.cell? ⟨g, i * 10 + 5, none⟩ = some (.int .u32 p.raw) := (HCl.out 5 _ (by omega) rfl).1
                have l6 : w5.cell? ⟨g, i * 10 + 6, none⟩ = some (.bool p.fixed) := (HCl.out 6 _ (by omega) rfl).1
                have l7 : w5.cell? ⟨g, i * 10 + 7, none⟩ = some (.string ⟨p.label.toArray⟩) := (HCl.out 7 _ (by omega) rfl).1
                have l8 : w5.cell? ⟨g, i * 10 + 8, none⟩ = some (.bool p.far) := (HCl.out 8 _ (by omega) rfl).1
                have l9 : w5.cell? ⟨g, i * 10 + 9, none⟩ = some (.int .i64 num) := (HCl.out 9 _ (by omega) rfl).1
                have hcp : cellsP (setL num p) = #[.int .i64 p.ins.op, .int .i64 p.ins.a, .int .i64 p.ins.b, .int .i64 p.ins.c, .int .i64 p.ins.imm, .int .u32 p.raw, .bool p.fixed, .string ⟨p.label.toArray⟩, .bool p.far, .int .i64 num] := rfl
                clear HCl s1 s2 s3
                go_region_law ((refine step_append_lies _ (by rfl) _ _ _ (by rfl) (M + 1) 121 k0 _ 10 80 Tryz.underlying115 hq0 hq1 hq2 hq3 rfl (by omega) (.slice A0' (gp.length + i) c0') (gp.length + i) (pcells (gp ++ (ps.take i).map (setL num))) (by rfl) ((hP5.parts.alloc _).drew) ⟨w5.heap.size, 0, none⟩ 1 1 (#[.int .i64 p.ins.op, .int .i64 p.ins.a, .int .i64 p.ins.b, .int .i64 p.ins.c, .int .i64 p.ins.imm, .int .u32 p.raw, .bool p.fixed, .string ⟨p.label.toArray⟩, .bool p.far, .int .i64 num] : Array Value).toList (by rfl) (by rfl) (World.news_of_block (cs := #[.int .i64 p.ins.op, .int .i64 p.ins.a, .int .i64 p.ins.b, .int .i64 p.ins.c, .int .i64 p.ins.imm, .int .u32 p.raw, .bool p.fixed, .string ⟨p.label.toArray⟩, .bool p.far, .int .i64 num]) (t := 121) (fr := (0, 0)) (heap_alloc_new w5 _)) (by simp [Value.oneCell']) (by omega) (by unfold maxLen; omega) (by omega) (by simp; omega) (w5.heap.size + 1) (by simp) ?_; intro gg cap w11 hown11 hgrow hat hlt11; have hs4 : w11.frozen? ⟨M, 0, none⟩ = false := (hgrow.frozen_far ⟨M, 0, none⟩ (by simp; omega) nS).trans ((hP5.blk.alloc _).frozen 0); have hc4 : w11.cell? ⟨M, 0, none⟩ = some (.slice A0' (gp.length + i) c0') := (hgrow.cell_far ⟨M, 0, none⟩ (by simp; omega) nS).trans ((hP5.blk.alloc _).cell 0)))
                all_goals
                  rw [← hcp] at hgrow
                  have hbA := ((Below.refl w5.heap.size w5).alloc (Nat.le_refl _) (.cells (cellsP (setL num p)) 121)).drew
                  have hB11 : Blk w11 M 118 #[.slice A0' (gp.length + i) c0', .slice A1 q c1, .slice A2 q c2] := ((hP5.below hbA).blk).grown hgrow (own_apart_base hP5.parts (by omega))
                  have hown12 : w11.ownsRow (M + 1) 121 10 (.slice (some ⟨gg, 0, none⟩) (gp.length + (i + 1)) cap) (gp.length + (i + 1)) (pcells (gp ++ (ps.take (i + 1)).map (setL num))) := by
                    rw [HL2.out, pcells_snoc, hcp]
                    exact hown11
                  have hP11 := (hP5.below hbA).put_parts hgrow hown12
                  have hK11 := ((hK5.below hbA).other ((hP5.below hbA).parts) (by decide) hgrow).store hB11 (by decide) 0 (.slice (some ⟨gg, 0, none⟩) (gp.length + (i + 1)) cap)
                  have hb11 : Below M w (w11.setCell ⟨M, 0, none⟩ (.slice (some ⟨gg, 0, none⟩) (gp.length + (i + 1)) cap)) := (((hb5.alloc (Nat.le_of_lt hM5) (.cells (cellsP (setL num p)) 121)).drew).grown hgrow (by simp; omega) (fun q hq => by have := own_from hP5.parts q hq; omega)).setCell (p := ⟨M, 0, none⟩) (Nat.le_refl _) _
                  have ho11 : (w11.setCell ⟨M, 0, none⟩ (.slice (some ⟨gg, 0, none⟩) (gp.length + (i + 1)) cap)).ownsRow wo.heap.size 121 10 (.slice (some ⟨g, 0, none⟩) np cv) np (pcells ((ps.take (i + 1)).map (setL num) ++ ps.drop (i + 1))) := by
                    rw [HL3.out]
                    refine own_store ((own_below ho2 hbA).kept hgrow ?_) (by omega) 0 _
                    rcases hap with h | h
                    · rw [h]; exact .inr (by simp [Value.ownBlock])
                    · exact .inr (fun e => h (by rw [← e]; rfl))
                  have hav11 : (Value.slice (some ⟨g, 0, none⟩) np cv).ownBlock = none ∨ (Value.slice (some ⟨g, 0, none⟩) np cv).ownBlock ≠ (Value.slice (some ⟨gg, 0, none⟩) (gp.length + (i + 1)) cap).ownBlock := by
                    refine .inr ?_
                    intro e
                    have e2 : g = gg := by simpa [Value.ownBlock] using e
                    rcases hat with h | h
                    · rcases hap with h3 | h3
                      · rw [h3] at h; cases h
                      · exact h3 (by rw [h, e2])
                    · omega
                  clear hown11 hown12 hat hlt11 hs4 hc4 hB11 hgrow hbA hP5 hK5 hb5 ho2 hap l0 l1 l2 l3 l4 l5 l6 l7 l8 l9 m0 f0 nS hcp
                  go_wp2_with fail
                  go_roundw
                  case rel => exact ⟨i + 1, some ⟨gg, 0, none⟩, cap, by omega, by go_num, hP11, ho11, hav11, hK11, hb11⟩
                  case measure => simp [intOf]; omega
              · have hin : i = np := by omega
                have hinp : (np : Int) ≤ (i : Int) := by omega
                have HTk : Hid (ps.take i = ps) := Lib.hid (List.take_of_length_le (by have := Hnp.out; omega))
                rw [HTk.out] at hPx
                clear hox havx HPS HTk
                go_wp2_with fail
                go_ret
                rw [HQ.out]
                refine ⟨rfl, hbx, fun _ => ⟨_, hKx, ⟨A0', c0', A1, c1, A2, c2, ?_, ?_⟩, HDr.out, ?_, ?_⟩⟩
                · have h1 := Hq.out
                  have h2 := Hnp.out
                  have h3 : (gp ++ ps.map (setL num)).length = gp.length + i := by rw [List.length_append, List.length_map]; omega
                  simp only [h1, h3]
                  exact hPx
                · simp only [Hq.out]
                · have h2 := Hnp.out
                  simp only [List.length_append, List.length_map]
                  omega
                · have h1 := Hq.out
                  have h2 := HGL.out
                  simp only
                  omega
        · have HQ : Hid (R = (⟨ls, gp⟩, en)) := Lib.hid (HR2.out.trans (if_pos h0))
          have d1 : ((en : Int) == 0) = false := by rw [beq_eq_false_iff_ne]; omega
          have d2 : ((en : Int) != 0) = true := by simp; omega
          clear HR2 hown
          go_wp2_with fail
          go_ret
          rw [HQ.out]
          exact ⟨rfl, hb04, fun h => absurd h h0⟩
      | true =>
        have e58 : (((x[x.size - 1]'p).toNat : Int) == 58) = true := by
          have h := Hlc.out
          rw [hsf] at h
          rw [beq_iff_eq]
          have h2 : (x[x.size - 1]'p).toNat = 58 := by simpa using h.symm
          omega
        have HT := Lib.hid (trim_colon x hsf)
        obtain ⟨Y, hY⟩ : ∃ Y : ByteArray, x.extract 0 (x.size - 1) = Y := ⟨_, rfl⟩
        rw [hY] at HT
        have hYs : Y.size ≤ 100000000 := by rw [← hY, ByteArray.size_extract]; omega
        have HNm := Lib.hid (fun W => RIsName_any Y hYs W)
        have HL := Lib.hid (HFr.out.trans (by rw [labelsP, if_pos hsf] : _ = _))
        clear Hlc hsf HFr
        rw [← HT.out] at HL
        cases hnm : nameP Y.data.toList with
        | false =>
          rw [hnm] at HNm
          have HF2 : F = (18, ls, x :: r') := by rw [HL.out, if_neg (by rw [hnm]; decide)]
          have HQ : Hid (R = (⟨gl, gp⟩, 18)) := Lib.hid (by rw [HLW.out, HF2]; rfl)
          clear HF2
          clear HLW HL hnm
          go_wp2_with fail
          go_quiet (fail)
          go_wp2_with fail
          go_quiet (fail)
          go_wp2_with fail
          refine (HNm.out _).mono ?_
          rintro e w4 ⟨rfl, hb4⟩
          go_wp2_with fail
          go_ret
          rw [HQ.out]
          exact ⟨rfl, (below_drewN hbr _).trans (hb4.mono (Nat.le_of_lt hMr)), fun h => absurd h (by simp)⟩
        | true =>
          rw [hnm] at HNm
          have HL2 : Hid (F = if (lookL ls Y.data.toList).isSome = true then (12, ls, x :: r') else labelsP (4 * (gp.length : Int)) r' (ls ++ [(Y.data.toList, 4 * (gp.length : Int))])) := Lib.hid (by rw [HL.out, if_pos hnm])
          have HPc := Lib.hid (fun W (h : Pr W M (.slice A0 gp.length c0) (.slice A1 q c1) (.slice A2 q c2) gp.length q q (pcells gp) (namesV ls) (placesV ls)) => place_any M (.slice A0 gp.length c0) A1 c1 A2 c2 ls (by have := Hq.out; omega) Y W (by rw [Hq.out]; exact h.blk) (by rw [Hq.out]; exact own_strs_at Hq.out h.names) (by rw [Hq.out]; exact own_nums_at Hq.out h.places))
          have HPq := Lib.hid (fun n => hPr.below (below_drewN (Below.refl wr.heap.size wr) n))
          have HKq := Lib.hid (fun n => hKr.below (below_drewN (Below.refl wr.heap.size wr) n))
          have HBm : Hid (∀ n, Below M w (wr.drewN n)) := Lib.hid (fun n => below_drewN hbr _)
          clear HL hnm
          cases hlk : lookL ls Y.data.toList with
          | some ad =>
            obtain ⟨hf1, hf2, _⟩ := good_first HDr.out hlk
            have HF2 : F = (12, ls, x :: r') := by rw [HL2.out, hlk]; rfl
            have HQ : Hid (R = (⟨gl, gp⟩, 12)) := Lib.hid (by rw [HLW.out, HF2]; rfl)
            have dad : decide ((0 : Int) ≤ ad) = true := by simpa using hf2
            rw [hf1] at HPc
            clear HF2 HLW HL2 hlk hf1
            go_wp2_with fail
            go_quiet (fail)
            go_wp2_with fail
            go_quiet (fail)
            go_wp2_with fail
            refine (HNm.out _).mono ?_
            rintro e w4 ⟨rfl, hb4⟩
            have hP4 := (HPq.out _).below hb4
            go_wp2_with fail
            refine (HPc.out w4 hP4).mono ?_
            rintro e w4 ⟨rfl, rfl⟩
            go_wp2_with fail
            go_ret
            rw [HQ.out]
            exact ⟨rfl, (HBm.out _).trans (hb4.mono (Nat.le_of_lt hMr)), fun h => absurd h (by simp)⟩
          | none =>
            have HF2 : Hid (F = labelsP (4 * (gp.length : Int)) r' (ls ++ [(Y.data.toList, 4 * (gp.length : Int))])) := Lib.hid (by rw [HL2.out, hlk]; rfl)
            have hf0 : firstL ls Y.data.toList = none := by rw [first_look ls HDr.out.1]; exact hlk
            have HDn : Hid (GoodL (ls ++ [(Y.data.toList, 4 * (gp.length : Int))])) := Lib.hid (good_snoc HDr.out (by rw [hlk]; rfl) (by omega))
            rw [hf0] at HPc
            clear HL2 hlk hf0 HLW
            go_wp2_with fail
            go_quiet (fail)
            go_wp2_with fail
            go_quiet (fail)
            go_wp2_with fail
            refine (HNm.out _).mono ?_
            rintro e w4 ⟨rfl, hb4⟩
            have hP4 := (HPq.out _).below hb4
            have hK4 := (HKq.out _).below hb4
            have hb04 : Below M w w4 := (HBm.out _).trans (hb4.mono (Nat.le_of_lt hMr))
            clear HPq HKq HBm hb4 HNm hPr hKr hbr hx
            go_wp2_with fail
            refine (HPc.out w4 hP4).mono ?_
            rintro e w4 ⟨rfl, rfl⟩
            have m1 : w4.cell? ⟨M, 1, none⟩ = some (.slice A1 q c1) := hP4.blk.cell 1
            have hM4 : M < w4.heap.size := hP4.blk.lt
            clear HPc
            go_wp2_with (at_builtin; refine wpList_append_own_at _ rfl (.tmp 46) (.tmp 48) _ rfl (M + 1) 9 i0 _ 1 16 Tryz.underlying54 hi0 hz0 hz1 hz2 rfl (by decide) (.slice A1 q c1) q (namesV ls) rfl (hP4.names.alloc _) ⟨w4.heap.size, 0, none⟩ 1 1 [.string Y] rfl rfl (fun j u hu => new_cells w4 _ _ j u hu) (by intro u hu; simp only [List.mem_cons, List.not_mem_nil, or_false] at hu; subst hu; rfl) (by unfold maxLen; omega) (by omega) (by simp; omega) ?_)
            intro v9 w9 hown9 hg9 _ hblk9
            have hP9 := (hP4.below ((Below.refl w4.heap.size w4).alloc (Nat.le_refl _) (.cells #[.string Y] 9))).put_names hg9 hown9
            have hK9 := (hK4.below ((Below.refl w4.heap.size w4).alloc (Nat.le_refl _) (.cells #[.string Y] 9))).names hg9 (hblk9.imp id (fun h => by rw [h]; simp))
            have hb9 : Below M w w9 := (hb04.alloc (Nat.le_of_lt hM4) (.cells #[.string Y] 9)).grown hg9 (by simp; omega) (fun q hq => by have := own_from hP4.names q hq; omega)
            have hB9 : Blk w9 M 118 #[.slice A0 gp.length c0, .slice A1 q c1, .slice A2 q c2] := (hP4.blk.alloc _).grown hg9 (own_apart_base hP4.names (by omega))
            obtain ⟨A9, c9, rfl⟩ := own_slice hown9
            have fr9 : w9.frozen? ⟨M, 1, none⟩ = false := hB9.frozen 1
            have m9 : w9.cell? ⟨M, 1, none⟩ = some (.slice A1 q c1) := hB9.cell 1
            have hK10 := hK9.store hB9 (by decide) 1 (.slice A9 (q + 1) c9)
            have hb10 : Below M w (w9.setCell ⟨M, 1, none⟩ (.slice A9 (q + 1) c9)) := hb9.setCell (p := ⟨M, 1, none⟩) (Nat.le_refl _) _
            have HNV : Hid (namesV ls ++ [.string Y] = namesV (ls ++ [(Y.data.toList, 4 * (gp.length : Int))])) := Lib.hid (by simp [namesV, namesB])
            rw [HNV.out] at hP9
            clear hg9 hblk9 hown9 hB9 hK9 hb9 hP4 hK4 hb04 m1 hM4 HNV
            go_wp2_with fail
            generalize w9.setCell ⟨M, 1, none⟩ (.slice A9 (q + 1) c9) = w10 at hP9 hK10 hb10 ⊢
            have m2 : w10.cell? ⟨M, 2, none⟩ = some (.slice A2 q c2) := hP9.blk.cell 2
            have m0 : w10.cell? ⟨M, 0, none⟩ = some (.slice A0 gp.length c0) := hP9.blk.cell 0
            have f2 : w10.frozen? ⟨M, 2, none⟩ = false := hP9.blk.frozen 2
            have t1 : IntKind.i64.wrap (4 * (gp.length : Int)) = 4 * (gp.length : Int) := IntWalk.i64_in _ (by omega)
            have nS : some M ≠ (Value.slice A2 q c2).ownBlock := own_apart_base hP9.places (by omega)
            have hM10 : M < w10.heap.size := hP9.blk.lt
            clear fr9 m9
            go_region_law ((refine step_append_lies _ (by rfl) _ _ _ (by rfl) (M + 1) 3 j0 _ 1 8 Tryz.underlying116 hj0 hy0 hy1 hy2 rfl (by omega) (.slice A2 q c2) q (placesV ls) (by rfl) ((hP9.places.alloc _).drew) ⟨w10.heap.size, 0, none⟩ 1 1 [.int .i64 (4 * (gp.length : Int))] (by rfl) (by rfl) (World.news_of_block (cs := #[.int .i64 (4 * (gp.length : Int))]) (t := 3) (fr := (0, 0)) (heap_alloc_new w10 _)) (by simp [Value.oneCell']) (by omega) (by unfold maxLen; omega) (by omega) (by simp; omega) (w10.heap.size + 1) (by simp) ?_; intro gg cap w11 hown11 hgrow hat hlt11; have hs4 : w11.frozen? ⟨M, 2, none⟩ = false := (hgrow.frozen_far ⟨M, 2, none⟩ (by simp; omega) nS).trans ((hP9.blk.alloc _).frozen 2); have hc4 : w11.cell? ⟨M, 2, none⟩ = some (.slice A2 q c2) := (hgrow.cell_far ⟨M, 2, none⟩ (by simp; omega) nS).trans ((hP9.blk.alloc _).cell 2)))
            all_goals
              have hbA := ((Below.refl w10.heap.size w10).alloc (Nat.le_refl _) (.cells #[.int .i64 (4 * (gp.length : Int))] 3)).drew
              have hB11 : Blk w11 M 118 #[.slice A0 gp.length c0, .slice A9 (q + 1) c9, .slice A2 q c2] := ((hP9.below hbA).blk).grown hgrow (own_apart_base hP9.places (by omega))
              have hP11 := (hP9.below hbA).put_places hgrow hown11
              have hK11 := ((hK10.below hbA).other ((hP9.below hbA).places) (by decide) hgrow).store hB11 (by decide) 2 (.slice (some ⟨gg, 0, none⟩) (q + 1) cap)
              have hb11 : Below M w (w11.setCell ⟨M, 2, none⟩ (.slice (some ⟨gg, 0, none⟩) (q + 1) cap)) := (((hb10.alloc (Nat.le_of_lt hM10) (.cells #[.int .i64 (4 * (gp.length : Int))] 3)).drew).grown hgrow (by simp; omega) (fun q hq => by have := own_from hP9.places q hq; omega)).setCell (p := ⟨M, 2, none⟩) (Nat.le_refl _) _
              have HPV : Hid (placesV ls ++ [.int .i64 (4 * (gp.length : Int))] = placesV (ls ++ [(Y.data.toList, 4 * (gp.length : Int))])) := Lib.hid (by simp [placesV])
              rw [HPV.out] at hP11
              have Hq2 : Hid ((ls ++ [(Y.data.toList, 4 * (gp.length : Int))]).length = q + 1) := Lib.hid (by rw [List.length_append, Hq.out]; rfl)
              have HSr2 : Hid (∀ s ∈ r', 1 ≤ s.size ∧ s.size ≤ 100000000) := Lib.hid (fun s hs => HSr.out s (by simp [hs]))
              have hWc := hWr.cut
              have hcj : j + 1 ≤ c := by
                obtain ⟨_, _, e, h, _⟩ := hWr
                injection e with _ _ e3
                simp only [List.length_cons] at h
                have := Hj.out
                omega
              clear hs4 hc4 hB11 hgrow hown11 hat hlt11 hK10 hb10 hP9 m2 m0 f2 nS HPV hbA
              generalize w11.setCell ⟨M, 2, none⟩ (.slice (some ⟨gg, 0, none⟩) (q + 1) cap) = w12 at hP11 hK11 hb11 ⊢
              go_wp2_with fail
              go_roundw
              case rel => exact ⟨j, ls ++ [(Y.data.toList, 4 * (gp.length : Int))], r', _, _, q + 1, A9, c9, some ⟨gg, 0, none⟩, cap, rfl, Hj, Hq2, hWc, hP11, hK11, HDn, HF2, hb11, by omega, by omega, HSr2⟩
              case measure => simp
end Go.Proofs.YtecmeegnjjhilaaGreatDoor

/- The document's Assemble. -/
namespace Go.Proofs.YtecmeegnjjhilaaGreatDoor
open Go.RowKit
theorem None_any (w : World) : Calls Tryz.prog 63 #[] w fun e w' => e = .returned (.agg #[.int .i64 0, .int .i64 (-1)]) ∧ Below w.heap.size w w' := by
  go_enter Tryz.func63, Tryz.ntmps63
  go_wp2
  refine bodyPost_ret (v := .agg #[.int .i64 0, .int .i64 (-1)]) (by simp [results, Tryz.results63, go_sem]) rfl ⟨rfl, ?_⟩
  exact (Below.refl _ _).alloc (Nat.le_refl _) _
/-- The words of a line, as texts. -/
theorem line_words (s : ByteArray) : strs (wordsGo (codeL s.data.toList) []) = (fieldsL s.data.toList).map Value.string := by
  rw [fields_of, List.map_map]
  rfl
theorem line_words_len (s : ByteArray) : (wordsGo (codeL s.data.toList) []).length = (fieldsL s.data.toList).length := by
  rw [fields_of, List.length_map]
theorem line_words_ok (s : ByteArray) (hs : s.size ≤ 100000000) : ∀ x ∈ fieldsL s.data.toList, 1 ≤ x.size ∧ x.size ≤ 100000000 := by
  intro x hx
  constructor
  · rw [fields_of] at hx
    obtain ⟨y, hy, rfl⟩ := List.mem_map.1 hx
    have := words_ne _ _ y hy
    rw [Lib.size_eq]
    have h2 : 0 < y.length := List.length_pos_iff.2 this
    have e : (⟨y.toArray⟩ : ByteArray).data.toList.length = y.length := by simp
    omega
  · have h1 := fields_size blankR ⟨(Lib.cut s.data.toList [59]).1.toArray⟩ x hx
    have h2 := cut_size s [59]
    omega
/-- A row whose block is not the names' own. -/
theorem StrsA.of_own {w : World} {base : Nat} {v : Value} {ss : List ByteArray} {nb : Option Nat} (h : w.ownsRow base 9 1 v ss.length (ss.map Value.string)) (hn : ∀ q, base ≤ q → some q ≠ nb) : StrsA w nb v ss := by
  rcases h.2 with ⟨rfl, h0⟩ | ⟨g, cap, cur, rfl, hb, hh, hcap, _, _, htake⟩
  · have : ss = [] := List.eq_nil_of_length_eq_zero h0
    subst this
    exact ⟨none, 0, rfl, Nat.le_refl _, fun hn => absurd hn (by simp)⟩
  · refine ⟨_, cap, rfl, hcap, fun _ => ⟨g, 0, cur, rfl, hh, hn g hb, fun i s hi => ?_⟩⟩
    have hu : (ss.map Value.string)[i]? = some (.string s) := by simp [hi]
    rw [← htake, List.getElem?_take] at hu
    rw [Nat.zero_add]
    split at hu
    · simpa using hu
    · cases hu
theorem StrsA.at_ {w : World} {nb : Option Nat} {A : Option Addr} {n c : Nat} {ss : List ByteArray} (h : StrsA w nb (.slice A n c) ss) (j : Nat) (s : ByteArray) (hs : ss[j]? = some s) : ∃ b o, A = some ⟨b, o, none⟩ ∧ w.cell? ⟨b, o + j, none⟩ = some (.string s) := h.strs.at_ j s hs
theorem linesR_cons (i : Nat) (l : ByteArray) (r : List ByteArray) (g : PrR) : linesR i (l :: r) g = if (lineW ((i : Int) + 1) (fieldsL l.data.toList) g).2 ≠ 0 then (g, some (i + 1, (lineW ((i : Int) + 1) (fieldsL l.data.toList) g).2)) else linesR (i + 1) r (lineW ((i : Int) + 1) (fieldsL l.data.toList) g).1 := rfl
def RAsmOut (w : World) (r : List Int × Option (Int × Nat)) (e : Ending) (w' : World) : Prop :=
  Below w.heap.size w w' ∧ match r.2 with
    | some (n, c) => e = .returned (.tuple #[.slice none 0 0, .agg #[.int .i64 c, .int .i64 n]])
    | none => ∃ v, e = .returned (.tuple #[v, .agg #[.int .i64 0, .int .i64 (-1)]]) ∧ w'.ownsRow w.heap.size 28 1 v r.1.length (w32 r.1)

theorem Pr.other {w w' : World} {M : Nat} {vp vn vl : Value} {np nn nl : Nat} {ps ns ls : List Value} (h : Pr w M vp vn vl np nn nl ps ns ls) {base n : Nat} {v : Value} {xs : List Value} (ho : w.ownsRow base 28 1 v n xs) (hg : w.grownBy w' v.ownBlock) : Pr w' M vp vn vl np nn nl ps ns ls :=
  ⟨h.blk.grown hg (own_apart ho h.blk (by decide)), h.parts.kept hg (own_ne h.parts ho (by decide)), h.names.kept hg (own_ne h.names ho (by decide)), h.places.kept hg (own_ne h.places ho (by decide))⟩
theorem PrAt.nb_lt {w : World} {M : Nat} {g : PrR} {nb : Option Nat} (h : PrAt w M g nb) : ∀ q, w.heap.size ≤ q → some q ≠ nb := by
  obtain ⟨A0, c0, A1, c1, A2, c2, hP, rfl⟩ := h
  intro q hq e
  rcases hP.names.2 with ⟨h1, _⟩ | ⟨g', cap, cur, h1, _, h2, _⟩
  · rw [h1] at e; cases e
  · rw [h1] at e
    have e2 : q = g' := by simpa [Value.ownBlock] using e
    have := (Array.getElem?_eq_some_iff.1 h2).1
    omega
theorem PrAt.below {w w' : World} {M : Nat} {g : PrR} {nb : Option Nat} (h : PrAt w M g nb) (hb : Below w.heap.size w w') : PrAt w' M g nb := by
  obtain ⟨A0, c0, A1, c1, A2, c2, hP, e⟩ := h
  exact ⟨A0, c0, A1, c1, A2, c2, hP.below hb, e⟩
theorem RLine_at (M : Nat) (g : PrR) (nb : Option Nat) (num : Int) (A : Option Addr) (n c : Nat) (ss : List ByteArray) (hss : ∀ s ∈ ss, 1 ≤ s.size ∧ s.size ≤ 100000000) (hn8 : n ≤ 100000000) (hg5 : g.parts.length ≤ 512) (hgl : g.labs.length + n ≤ 8000000000000) (hD : GoodL g.labs) (w : World) (hP : PrAt w M g nb) (hW : StrsA w nb (.slice A n c) ss) :
    Calls Tryz.prog 60 #[.pointer (some ⟨M, 0, none⟩), .slice A n c, .int .i64 num] w (RLineOut w M g n nb (lineW num ss g)) := by
  obtain ⟨A0, c0, A1, c1, A2, c2, hPr, rfl⟩ := hP
  exact rline_any M g A0 c0 A1 c1 A2 c2 num A n c ss hss hn8 hg5 hgl hD w hPr hW

set_option maxHeartbeats 16000000 in
set_option maxRecDepth 100000 in
theorem RAssemble_any (s : ByteArray) (hs : s.size ≤ 2000000) (w : World) : Calls Tryz.prog 30 #[.string s] w (RAsmOut w (asmR s)) := by
  have HLn := Lib.hid (fun W => rlines_any s (by omega) W)
  have hcut : linesL s = (cutL 10 s.data.toList).map fun (l : List UInt8) => (⟨l.toArray⟩ : ByteArray) := lines_cut s.data.toList.length s.data.toList (Nat.le_refl _)
  have HCut := Lib.hid hcut
  have hcnt : (linesL s).length ≤ s.size + 1 := by
    rw [lines_count]
    have hcb : Lib.countB s ⟨#[10]⟩ ≤ s.size := Lib.countB_le ⟨#[10]⟩ (by decide) _ s (Nat.le_refl _)
    omega
  have hsz : ∀ l ∈ linesL s, l.size ≤ s.size := by
    intro l hl
    exact split_sizes ⟨#[10]⟩ 0 _ s l hl
  have HSz := Lib.hid hsz
  clear hcut hsz
  have HA : Hid (asmR s = match linesR 0 (linesL s) ⟨[], []⟩ with
    | (_, some (n, c)) => ([], some ((n : Int), c))
    | (g, none) => match passR g.labs 0 g.parts [] with
      | (_, some n) => ([], some (n, 17))
      | (ws, none) => (ws, none)) := Lib.hid rfl
  generalize asmR s = R at HA ⊢
  have hr := Below.refl w.heap.size w
  go_enter Tryz.func30, Tryz.ntmps30
  go_wp2_with fail
  refine (HLn.out _).mono ?_
  rintro e w2 ⟨A, c, rfl, hown2, hb2⟩
  rw [show (cutL 10 s.data.toList).length = (linesL s).length by rw [HCut.out, List.length_map]] at hown2 ⊢
  rw [show strs (cutL 10 s.data.toList) = (linesL s).map Value.string by rw [HCut.out, List.map_map]; rfl] at hown2
  have hV2 : StrsA w2 none (.slice A (linesL s).length c) (linesL s) := StrsA.of_own hown2 (fun q _ h => by cases h)
  have hsz0 : ((w.alloc (.cells #[.int .i64 0, .int .i64 0] 62)).alloc (.cells #[.slice none 0 0, .slice none 0 0, .slice none 0 0] 118)).heap.size = w.heap.size + 2 := by simp
  have hE2 : Blk w2 w.heap.size 62 #[.int .i64 0, .int .i64 0] := ((Blk.new w 62 #[.int .i64 0, .int .i64 0]).alloc _).below hb2 (by rw [hsz0]; omega)
  have hG2 : Blk w2 (w.heap.size + 1) 118 #[.slice none 0 0, .slice none 0 0, .slice none 0 0] := by
    have h := Blk.new (w.alloc (.cells #[.int .i64 0, .int .i64 0] 62)) 118 #[.slice none 0 0, .slice none 0 0, .slice none 0 0]
    have h2 : Blk ((w.alloc (.cells #[.int .i64 0, .int .i64 0] 62)).alloc (.cells #[.slice none 0 0, .slice none 0 0, .slice none 0 0] 118)) (w.heap.size + 1) 118 #[.slice none 0 0, .slice none 0 0, .slice none 0 0] := by simpa using h
    exact h2.below hb2 (by rw [hsz0]; omega)
  have hP2 : PrAt w2 (w.heap.size + 1) ⟨[], []⟩ none := ⟨none, 0, none, 0, none, 0, ⟨hG2, own_nil _ _ _ _, own_nil _ _ _ _, own_nil _ _ _ _⟩, rfl⟩
  have hb02 : Below w.heap.size w w2 := ((hr.alloc (Nat.le_refl _) _).alloc (by simp) _).trans (hb2.mono (by rw [hsz0]; omega))
  have HL0 : Hid (linesR 0 (linesL s) ⟨[], []⟩ = linesR 0 ((linesL s).drop 0) ⟨[], []⟩) := Lib.hid rfl
  generalize hN : (linesL s).length = N at hV2 hcnt ⊢
  have HN := Lib.hid hN
  clear HLn hown2 hb2 hsz0 hG2 hr hN
  go_wp2_with fail
  go_loopw [6] (fun s6 wr => ∃ (i : Nat) (g : PrR) (nb : Option Nat), i ≤ N ∧ s6 = .int .i64 i ∧ PrAt wr (w.heap.size + 1) g nb ∧ StrsA wr nb (.slice A N c) (linesL s) ∧ Hid (GoodL g.labs) ∧ g.parts.length ≤ 512 ∧ g.labs.length ≤ i * 2000001 ∧ Blk wr w.heap.size 62 #[.int .i64 0, .int .i64 0] ∧ Below w.heap.size w wr ∧
      Hid (linesR 0 (linesL s) ⟨[], []⟩ = linesR i ((linesL s).drop i) g)) (fun s6 _ => N - (intOf s6).toNat)
  case atStart => exact ⟨0, ⟨[], []⟩, none, by omega, rfl, hP2, hV2, Lib.hid ⟨by simp [Diff], fun x hx => by simp at hx⟩, by simp, by simp, hE2, hb02, HL0⟩
  case round =>
    obtain ⟨i, g, nb, hi, rfl, hP, hV, HD, hg5, hgl, hE, hb, HQ⟩ := hrel
    clear hP2 hV2 hE2 hb02 HL0
    by_cases hlt : i < N
    · obtain ⟨l, hl⟩ : ∃ l, (linesL s)[i]? = some l := ⟨_, List.getElem?_eq_getElem (by rw [HN.out]; exact hlt)⟩
      have hls := HSz.out l (List.mem_of_getElem? hl)
      obtain ⟨b, o, rfl, hx⟩ := hV.at_ i l hl
      have HWd := Lib.hid (fun W => rwords_any l (by omega) W)
      have hfc : (fieldsL l.data.toList).length ≤ l.size + 1 := by
        have h1 := fields_count blankR ⟨(Lib.cut l.data.toList [59]).1.toArray⟩
        have h2 := cut_size l [59]
        exact Nat.le_trans h1 (by omega)
      have HFo := Lib.hid (line_words_ok l (by omega))
      have HLi := Lib.hid (fun (A3 : Option Addr) (c3 : Nat) W (hP3 : PrAt W (w.heap.size + 1) g nb) (hW3 : StrsA W nb (.slice A3 (fieldsL l.data.toList).length c3) (fieldsL l.data.toList)) => RLine_at (w.heap.size + 1) g nb ((i : Int) + 1) A3 _ c3 _ HFo.out (by omega) hg5 (by omega) HD.out W hP3 hW3)
      have HQ2 : Hid (linesR 0 (linesL s) ⟨[], []⟩ = if (lineW ((i : Int) + 1) (fieldsL l.data.toList) g).2 ≠ 0 then (g, some (i + 1, (lineW ((i : Int) + 1) (fieldsL l.data.toList) g).2)) else linesR (i + 1) ((linesL s).drop (i + 1)) (lineW ((i : Int) + 1) (fieldsL l.data.toList) g).1) := Lib.hid (by
        obtain ⟨h1, h2⟩ := List.getElem?_eq_some_iff.1 hl
        rw [HQ.out, List.drop_eq_getElem_cons h1, h2, linesR_cons])
      have HLw := Lib.hid (line_words l)
      have HLl := Lib.hid (line_words_len l)
      generalize lineW ((i : Int) + 1) (fieldsL l.data.toList) g = q at HLi HQ2
      obtain ⟨g2, en⟩ := q
      simp only at HQ2
      clear HQ hl
      go_wp2_with fail
      refine (HWd.out _).mono ?_
      rintro e w3 ⟨A3, c3, rfl, hown3, hb3⟩
      rw [HLl.out] at hown3 ⊢
      rw [HLw.out] at hown3
      have hW3 : StrsA w3 nb (.slice A3 (fieldsL l.data.toList).length c3) (fieldsL l.data.toList) := StrsA.of_own hown3 hP.nb_lt
      have hP3 := hP.below hb3
      have hE3 := hE.below hb3 hE.lt
      have hV3 : StrsA w3 nb (.slice (some ⟨b, o, none⟩) N c) (linesL s) := hV.keep ((KeepS.refl wr nb).below hb3)
      have hb03 : Below w.heap.size w w3 := hb.trans (hb3.mono hb.size)
      clear HWd hown3 hb3 hP hE hV hb hx HLw HLl
      have hHL := HLi.out A3 c3 w3 hP3 hW3
      generalize (fieldsL l.data.toList).length = n3 at hHL hfc hW3 ⊢
      have HHL := Lib.hid hHL
      clear hHL HLi hW3
      go_wp2_with fail
      refine HHL.out.mono ?_
      rintro e w4 ⟨rfl, hb4, hok⟩
      have hE4 : Blk w4 w.heap.size 62 #[.int .i64 0, .int .i64 0] := hE3.below hb4 (by omega)
      have hb04 : Below w.heap.size w w4 := hb03.trans (hb4.mono (by omega))
      by_cases h0 : en = 0
      · subst h0
        obtain ⟨nb2, hK4, hP4, hD4, h54, hl4⟩ := hok rfl
        have hV4 := hV3.keep hK4
        have HQ3 := Lib.hid (HQ2.out.trans (if_neg (by simp)))
        have HD4 := Lib.hid hD4
        simp only at hP4 h54 hl4
        have hgl4 : g2.labs.length ≤ (i + 1) * 2000001 := by omega
        clear hok HQ2 hE3 hV3 hb03 hP3 HHL hb4 hK4 hl4 hD4
        go_wp2_with fail
        go_roundw
        case rel => exact ⟨i + 1, g2, nb2, by omega, by go_num, hP4, hV4, HD4, h54, hgl4, hE4, hb04, HQ3⟩
        case measure => simp [intOf]; omega
      · have HR : Hid (R = ([], some (((i + 1 : Nat) : Int), en))) := Lib.hid (by rw [HA.out, HQ2.out, if_pos h0])
        have d1 : ((en : Int) == 0) = false := by rw [beq_eq_false_iff_ne]; omega
        have d2 : ((en : Int) != 0) = true := by simp; omega
        have y0 : w4.cell? ⟨w.heap.size, 0, none⟩ = some (.int .i64 0) := hE4.cell 0
        have y1 : w4.cell? ⟨w.heap.size, 1, none⟩ = some (.int .i64 0) := hE4.cell 1
        have z0 : w4.frozen? ⟨w.heap.size, 0, none⟩ = false := hE4.frozen 0
        have z1 : w4.frozen? ⟨w.heap.size, 1, none⟩ = false := hE4.frozen 1
        clear hok HQ2 hE3 hV3 hb03 hP3 HHL hb4 HA
        go_wp2_with fail
        refine bodyPost_ret (v := .tuple #[.slice none 0 0, .agg #[.int .i64 en, .int .i64 ((i : Int) + 1)]]) (by simp [results, Tryz.results30, go_sem, y0, y1]) rfl ⟨?_, ?_⟩
        · exact (hb04.setCell (Nat.le_refl _) _).setCell (Nat.le_refl _) _
        · rw [HR.out]
          simp
    · obtain rfl : i = N := by omega
      have HQ2 : Hid (linesR 0 (linesL s) ⟨[], []⟩ = (g, none)) := Lib.hid (by rw [HQ.out, List.drop_eq_nil_of_le (by rw [HN.out]; exact Nat.le_refl _)]; rfl)
      have HR : Hid (R = match passR g.labs 0 g.parts [] with
        | (_, some n) => ([], some (n, 17))
        | (ws, none) => (ws, none)) := Lib.hid (by rw [HA.out, HQ2.out])
      obtain ⟨A0, c0, A1, c1, A2, c2, hP, _⟩ := hP
      clear HA HQ HQ2 hV HN HSz HCut
      have HP0 : Hid (passR g.labs 0 g.parts [] = passR g.labs 0 (g.parts.drop 0) []) := Lib.hid rfl
      go_wp2_with fail
      obtain ⟨wo, rfl⟩ : ∃ wo : World, wo = wr := ⟨_, rfl⟩
      go_loopw [8, 9] (fun s8 s9 wr => ∃ (k : Nat) (out : List Int) (A8 : Option Addr) (c8 : Nat), k ≤ g.parts.length ∧ s9 = .int .i64 k ∧ s8 = .slice A8 out.length c8 ∧ out.length = k ∧ wr.ownsRow w.heap.size 28 1 (.slice A8 out.length c8) out.length (w32 out) ∧
          Pr wr (w.heap.size + 1) (.slice A0 g.parts.length c0) (.slice A1 g.labs.length c1) (.slice A2 g.labs.length c2) g.parts.length g.labs.length g.labs.length (pcells g.parts) (namesV g.labs) (placesV g.labs) ∧
          Blk wr w.heap.size 62 #[.int .i64 0, .int .i64 0] ∧ Below w.heap.size w wr ∧ Hid (passR g.labs 0 g.parts [] = passR g.labs k (g.parts.drop k) out)) (fun _ s9 _ => g.parts.length - (intOf s9).toNat)
      case atStart => exact ⟨0, [], none, 0, Nat.zero_le _, rfl, rfl, rfl, own_nil _ _ _ _, hP, hE, hb, HP0⟩
      case round =>
        obtain ⟨k, out, A8, c8, hk, rfl, rfl, hok, hown, hP, hE, hb, HP⟩ := hrel
        clear HP0
        have m0 : wr.cell? ⟨w.heap.size + 1, 0, none⟩ = some (.slice A0 g.parts.length c0) := hP.blk.cell 0
        by_cases hlt : k < g.parts.length
        · obtain ⟨p, hp⟩ : ∃ p, g.parts[k]? = some p := ⟨_, List.getElem?_eq_getElem hlt⟩
          obtain ⟨gP, hA0⟩ : ∃ gP, A0 = some ⟨gP, 0, none⟩ := by
            rcases hP.parts.2 with ⟨_, h2⟩ | ⟨g', cap, cur, h1, _⟩
            · omega
            · injection h1 with h1 _ _
              exact ⟨g', h1⟩
          subst hA0
          have HCl := Lib.hid (fun (t : Nat) (u : Value) (ht : t < 10) (hu : (cellsP p)[t]? = some u) => own_cell_at hP.parts (k * 10 + t) u (by
            rw [pcells_at _ k p hp t ht]
            exact hu))
          have l0 : wr.cell? ⟨gP, k * 10, none⟩ = some (.int .i64 p.ins.op) := (HCl.out 0 _ (by omega) rfl).1
          have l1 : wr.cell? ⟨gP, k * 10 + 1, none⟩ = some (.int .i64 p.ins.a) := (HCl.out 1 _ (by omega) rfl).1
          have l2 : wr.cell? ⟨gP, k * 10 + 2, none⟩ = some (.int .i64 p.ins.b) := (HCl.out 2 _ (by omega) rfl).1
          have l3 : wr.cell? ⟨gP, k * 10 + 3, none⟩ = some (.int .i64 p.ins.c) := (HCl.out 3 _ (by omega) rfl).1
          have l4 : wr.cell? ⟨gP, k * 10 + 4, none⟩ = some (.int .i64 p.ins.imm) := (HCl.out 4 _ (by omega) rfl).1
          have l5 : wr.cell? ⟨gP, k * 10 + 5, none⟩ = some (.int .u32 p.raw) := (HCl.out 5 _ (by omega) rfl).1
          have l6 : wr.cell? ⟨gP, k * 10 + 6, none⟩ = some (.bool p.fixed) := (HCl.out 6 _ (by omega) rfl).1
          have l7 : wr.cell? ⟨gP, k * 10 + 7, none⟩ = some (.string ⟨p.label.toArray⟩) := (HCl.out 7 _ (by omega) rfl).1
          have l8 : wr.cell? ⟨gP, k * 10 + 8, none⟩ = some (.bool p.far) := (HCl.out 8 _ (by omega) rfl).1
          have l9 : wr.cell? ⟨gP, k * 10 + 9, none⟩ = some (.int .i64 p.line) := (HCl.out 9 _ (by omega) rfl).1
          have HP2 : Hid (passR g.labs 0 g.parts [] = match partV g.labs k p with
            | none => ([], some p.line)
            | some v => passR g.labs (k + 1) (g.parts.drop (k + 1)) (out ++ [v])) := Lib.hid (by
            obtain ⟨h1, h2⟩ := List.getElem?_eq_some_iff.1 hp
            rw [HP.out, List.drop_eq_getElem_cons h1, h2]
            rfl)
          clear HCl HP hp
          obtain ⟨i0, hi0, hz0, hz1, hz2⟩ := info_parts u32info
          cases hfx : p.fixed with
          | true =>
            rw [hfx] at l6
            have HP3 : Hid (passR g.labs 0 g.parts [] = passR g.labs (k + 1) (g.parts.drop (k + 1)) (out ++ [p.raw])) := Lib.hid (by
              have e : partV g.labs k p = some p.raw := by unfold partV; rw [if_pos hfx]
              rw [HP2.out, e])
            have hb1 := (Below.refl wr.heap.size wr).alloc (Nat.le_refl _) (.cells #[.int .i64 p.ins.op, .int .i64 p.ins.a, .int .i64 p.ins.b, .int .i64 p.ins.c, .int .i64 p.ins.imm, .int .u32 p.raw, .bool true, .string ⟨p.label.toArray⟩, .bool p.far, .int .i64 p.line] 121)
            have hP1 := hP.below hb1
            have hE1 := hE.below hb1 hE.lt
            have hown1 := own_below hown hb1
            have hb01 : Below w.heap.size w (wr.alloc (.cells #[.int .i64 p.ins.op, .int .i64 p.ins.a, .int .i64 p.ins.b, .int .i64 p.ins.c, .int .i64 p.ins.imm, .int .u32 p.raw, .bool true, .string ⟨p.label.toArray⟩, .bool p.far, .int .i64 p.line] 121)) := hb.alloc hb.size _
            clear HP2 hfx
            go_wp2_with (at_builtin; refine wpList_append_own _ rfl (.tmp 57) (.tmp 60) _ rfl w.heap.size 28 i0 _ 1 4 Tryz.underlying31 hi0 hz0 hz1 hz2 rfl (by decide) (.slice A8 out.length c8) out.length (w32 out) rfl (hown1.alloc _) ⟨wr.heap.size + 1, 0, none⟩ 1 1 [.int .u32 p.raw] rfl rfl (fun j u hu => by have h := new_cells (wr.alloc (.cells #[.int .i64 p.ins.op, .int .i64 p.ins.a, .int .i64 p.ins.b, .int .i64 p.ins.c, .int .i64 p.ins.imm, .int .u32 p.raw, .bool true, .string ⟨p.label.toArray⟩, .bool p.far, .int .i64 p.line] 121)) #[.int .u32 p.raw] 28 j u hu; simpa using h) (by intro u hu; simp only [List.mem_cons, List.not_mem_nil, or_false] at hu; subst hu; rfl) (by unfold maxLen; omega) (by omega) (Nat.le_trans hb01.size (by simp)) ?_)
            intro v9 w9 hown9 hg9 _
            have hok2 := hok
            try rw [← hok2] at hg9
            have hbz := (Below.refl (wr.alloc (.cells #[.int .i64 p.ins.op, .int .i64 p.ins.a, .int .i64 p.ins.b, .int .i64 p.ins.c, .int .i64 p.ins.imm, .int .u32 p.raw, .bool true, .string ⟨p.label.toArray⟩, .bool p.far, .int .i64 p.line] 121)).heap.size (wr.alloc (.cells #[.int .i64 p.ins.op, .int .i64 p.ins.a, .int .i64 p.ins.b, .int .i64 p.ins.c, .int .i64 p.ins.imm, .int .u32 p.raw, .bool true, .string ⟨p.label.toArray⟩, .bool p.far, .int .i64 p.line] 121))).alloc (Nat.le_refl _) (.cells #[.int .u32 p.raw] 28)
            have hPz := hP1.below hbz
            have hEz := hE1.below hbz hE1.lt
            have hoz := own_below hown1 hbz
            have hP9 := hPz.other hoz hg9
            have hE9 := hEz.grown hg9 (own_apart hoz hEz (by decide))
            have hb9 : Below w.heap.size w w9 := (hb01.alloc hb01.size (.cells #[.int .u32 p.raw] 28)).grown hg9 (Nat.le_trans hb01.size (by simp)) (fun q hq => by have := own_from hown q hq; omega)
            have hl9 : (out ++ [p.raw]).length = out.length + 1 := by simp
            have hown9' : w9.ownsRow w.heap.size 28 1 v9 (out ++ [p.raw]).length (w32 (out ++ [p.raw])) := by
              rw [hl9, w32, List.map_append, hok]
              exact hown9
            obtain ⟨A9, c9, rfl⟩ := own_slice hown9'
            have hlk : (out ++ [p.raw]).length = k + 1 := by rw [hl9, hok]
            generalize out ++ [p.raw] = out2 at HP3 hown9' hlk hl9 ⊢
            clear hbz hPz hEz hoz hown9 hg9 hP1 hE1 hown1 hb01 hP hE hown hb hl9 l0 l1 l2 l3 l4 l5 l6 l7 l8 l9 m0
            go_wp2_with fail
            go_roundw
            case rel => exact ⟨k + 1, out2, A9, c9, by omega, by go_num, rfl, hlk, hown9', hP9, hE9, hb9, HP3⟩
            case measure => simp [intOf]; omega
          | false =>
            rw [hfx] at l6
            have hownk : wr.ownsRow w.heap.size 28 1 (.slice A8 k c8) k (w32 out) := by
              rw [← hok]
              exact hown
            have hpv : partV g.labs k p = if p.label = [] then some (encR p.ins) else (lookL g.labs p.label).map fun ad => encR { p.ins with imm := if p.far = true then ad else Int.tdiv (ad - 4 * k - 4) 4 } := by
              unfold partV
              rw [if_neg (by rw [hfx]; decide)]
            by_cases hlb : p.label = []
            · have l7' : wr.cell? ⟨gP, k * 10 + 7, none⟩ = some (.string ByteArray.empty) := by
                rw [l7, hlb]
                rfl
              clear l7
              have l7 := l7'
              clear l7'
              have HP3 : Hid (passR g.labs 0 g.parts [] = passR g.labs (k + 1) (g.parts.drop (k + 1)) (out ++ [encR p.ins])) := Lib.hid (by rw [HP2.out, hpv, if_pos hlb])
              have HEn := Lib.hid (fun W => show Calls Tryz.prog 25 #[.agg #[.int .i64 p.ins.op, .int .i64 p.ins.a, .int .i64 p.ins.b, .int .i64 p.ins.c, .int .i64 p.ins.imm]] W (fun e w' => e = .returned (.tuple #[.int .u32 (encR p.ins), .int .i64 (checkC p.ins)]) ∧ Below W.heap.size W w') from REncode_any p.ins W)
              generalize encR p.ins = v at HP3 HEn
              generalize checkC p.ins = cc at HEn
              clear HP2 hpv hfx hlb
              go_wp2_with fail
              refine (HEn.out _).mono ?_
              rintro e w6 ⟨rfl, hb6⟩
              have hbS := (Below.refl wr.heap.size wr).alloc (Nat.le_refl _) (.cells #[.int .i64 p.ins.op, .int .i64 p.ins.a, .int .i64 p.ins.b, .int .i64 p.ins.c, .int .i64 p.ins.imm, .int .u32 p.raw, .bool false, .string ByteArray.empty, .bool p.far, .int .i64 p.line] 121)
              have hbT : Below wr.heap.size wr w6 := hbS.trans (hb6.mono (by simp))
              have hP6 := hP.below hbT
              have hE6 := hE.below hbT hE.lt
              have ho6 := own_below hownk hbT
              have hb06 : Below w.heap.size w w6 := hb.trans (hbT.mono hb.size)
              clear hbT hbS hb6 HEn hP hE hown hownk hb l0 l1 l2 l3 l4 l5 l6 l7 l8 l9 m0
              go_wp2_with (at_builtin; refine wpList_append_own _ rfl (.tmp 93) (.tmp 95) _ rfl w.heap.size 28 i0 _ 1 4 Tryz.underlying31 hi0 hz0 hz1 hz2 rfl (by decide) (.slice A8 k c8) k (w32 out) rfl (ho6.alloc _) ⟨w6.heap.size, 0, none⟩ 1 1 [.int .u32 v] rfl rfl (fun j u hu => by have h := new_cells w6 #[.int .u32 v] 28 j u hu; simpa using h) (by intro u hu; simp only [List.mem_cons, List.not_mem_nil, or_false] at hu; subst hu; rfl) (by unfold maxLen; omega) (by omega) (Nat.le_trans hb06.size (by simp)) ?_)
              intro v9 w9 hown9 hg9 _
              have hbz := (Below.refl w6.heap.size w6).alloc (Nat.le_refl _) (.cells #[.int .u32 v] 28)
              have hPz := hP6.below hbz
              have hEz := hE6.below hbz hE6.lt
              have hoz := own_below ho6 hbz
              have hP9 := hPz.other hoz hg9
              have hE9 := hEz.grown hg9 (own_apart hoz hEz (by decide))
              have hb9 : Below w.heap.size w w9 := (hb06.alloc hb06.size (.cells #[.int .u32 v] 28)).grown hg9 (Nat.le_trans hb06.size (by simp)) (fun q hq => by have := own_from ho6 q hq; omega)
              have hl9 : (out ++ [v]).length = out.length + 1 := by simp
              have hown9' : w9.ownsRow w.heap.size 28 1 v9 (out ++ [v]).length (w32 (out ++ [v])) := by
                rw [hl9, w32, List.map_append, hok]
                exact hown9
              obtain ⟨A9, c9, rfl⟩ := own_slice hown9'
              have hlk : (out ++ [v]).length = k + 1 := by rw [hl9, hok]
              generalize out ++ [v] = out2 at HP3 hown9' hlk hl9 ⊢
              clear hbz hPz hEz hoz hown9 hg9 hP6 hE6 ho6 hb06 hl9
              go_wp2_with fail
              go_roundw
              case rel => exact ⟨k + 1, out2, A9, c9, by omega, by go_num, rfl, hlk, hown9', hP9, hE9, hb9, HP3⟩
              case measure => simp [intOf]; omega
            · obtain ⟨Y, hY⟩ : ∃ Y : ByteArray, Y = ⟨p.label.toArray⟩ := ⟨_, rfl⟩
              have hYl : Y.data.toList = p.label := by rw [hY]
              have y1 : Y.toList.isEmpty = false := by
                rw [ByteArray.toList_eq, hYl]
                cases hpl : p.label with
                | nil => exact absurd hpl hlb
                | cons a b => rfl
              have y2 : (!Y.toList.isEmpty) = true := by rw [y1]; rfl
              rw [← hY] at l7
              have hPc := fun W (h : Pr W (w.heap.size + 1) (.slice (some ⟨gP, 0, none⟩) g.parts.length c0) (.slice A1 g.labs.length c1) (.slice A2 g.labs.length c2) g.parts.length g.labs.length g.labs.length (pcells g.parts) (namesV g.labs) (placesV g.labs)) => place_any (w.heap.size + 1) (.slice (some ⟨gP, 0, none⟩) g.parts.length c0) A1 c1 A2 c2 g.labs (by omega) Y W h.blk (own_strs_at rfl h.names) (own_nums_at rfl h.places)
              simp only [hYl] at hPc
              rw [if_neg hlb] at hpv
              have hfl := first_look g.labs HD.out.1 p.label
              have hb1 := (Below.refl wr.heap.size wr).alloc (Nat.le_refl _) (.cells #[.int .i64 p.ins.op, .int .i64 p.ins.a, .int .i64 p.ins.b, .int .i64 p.ins.c, .int .i64 p.ins.imm, .int .u32 p.raw, .bool false, .string Y, .bool p.far, .int .i64 p.line] 121)
              have hP1 := hP.below hb1
              cases hlk : lookL g.labs p.label with
              | none =>
                rw [hlk] at hfl hpv
                simp only [hfl] at hPc
                have HPc := Lib.hid hPc
                have HR2 : Hid (R = ([], some (p.line, 17))) := Lib.hid (by
                  have e : partV g.labs k p = none := by rw [hpv]; rfl
                  rw [HR.out, HP2.out, e])
                have hE1 := hE.below hb1 hE.lt
                have hb01 := hb.trans (hb1.mono hb.size)
                have y0 := hE1.cell 0
                have z0 := hE1.frozen 0
                have z1 := hE1.frozen 1
                have y2 := hE1.cell 1
                clear HR HP2 hpv hlk hfl hPc hYl hY hlb hfx hE hb hP hown hb1
                go_wp2_with fail
                refine (HPc.out _ hP1).mono ?_
                rintro e w3 ⟨rfl, rfl⟩
                clear HPc
                go_wp2_with fail
                go_region
                go_wp2_with fail
                refine bodyPost_ret (v := .tuple #[.slice none 0 0, .agg #[.int .i64 17, .int .i64 p.line]]) (by simp [results, Tryz.results30, go_sem, y0, y2]) rfl ⟨?_, ?_⟩
                · exact ((hb01.setCell (Nat.le_refl _) _).setCell (Nat.le_refl _) _).drew
                · rw [HR2.out]
                  rfl
              | some ad =>
                obtain ⟨hf1, ha0, ha1⟩ := good_first HD.out hlk
                rw [hlk] at hpv
                simp only [hf1] at hPc
                have HPc := Lib.hid hPc
                have hq1 : -1024 ≤ Int.tdiv (ad - 4 * (k : Int) - 4) 4 ∧ Int.tdiv (ad - 4 * (k : Int) - 4) 4 ≤ 1024 := by
                  rcases Int.le_total 0 (ad - 4 * (k : Int) - 4) with h | h
                  · rw [Int.tdiv_eq_ediv_of_nonneg h]
                    omega
                  · have h2 : Int.tdiv (ad - 4 * (k : Int) - 4) 4 = -((-(ad - 4 * (k : Int) - 4)) / 4) := by
                      rw [← Int.tdiv_eq_ediv_of_nonneg (by omega), Int.neg_tdiv, Int.neg_neg]
                    omega
                cases hfr : p.far with
                | true =>
                  rw [hfr] at l8 hP1 hb1
                  have HP3 : Hid (passR g.labs 0 g.parts [] = passR g.labs (k + 1) (g.parts.drop (k + 1)) (out ++ [encR { p.ins with imm := ad }])) := Lib.hid (by
                    have e : partV g.labs k p = some (encR { p.ins with imm := ad }) := by rw [hpv, hfr]; rfl
                    rw [HP2.out, e])
                  have HEn := Lib.hid (fun W => show Calls Tryz.prog 25 #[.agg #[.int .i64 p.ins.op, .int .i64 p.ins.a, .int .i64 p.ins.b, .int .i64 p.ins.c, .int .i64 ad]] W (fun e w' => e = .returned (.tuple #[.int .u32 (encR { p.ins with imm := ad }), .int .i64 (checkC { p.ins with imm := ad })]) ∧ Below W.heap.size W w') from REncode_any { p.ins with imm := ad } W)
                  generalize encR { p.ins with imm := ad } = v at HP3 HEn
                  generalize checkC { p.ins with imm := ad } = cc at HEn
                  clear HP2 hpv hfx hlb hlk hfl hPc hYl hY hf1 hfr
                  go_wp2_with fail
                  refine (HPc.out _ hP1).mono ?_
                  rintro e w3 ⟨rfl, rfl⟩
                  clear HPc hP1
                  go_wp2_with fail
                  refine (HEn.out _).mono ?_
                  rintro e w6 ⟨rfl, hb6⟩
                  have hbS := (Below.refl wr.heap.size wr).alloc (Nat.le_refl _) (.cells #[.int .i64 p.ins.op, .int .i64 p.ins.a, .int .i64 p.ins.b, .int .i64 p.ins.c, .int .i64 ad, .int .u32 p.raw, .bool false, .string Y, .bool true, .int .i64 p.line] 121)
                  have hbT : Below wr.heap.size wr w6 := hbS.trans (hb6.mono (by simp))
                  have hP6 := hP.below hbT
                  have hE6 := hE.below hbT hE.lt
                  have ho6 := own_below hownk hbT
                  have hb06 : Below w.heap.size w w6 := hb.trans (hbT.mono hb.size)
                  clear hbT hbS hb6 HEn hP hE hown hownk hb l0 l1 l2 l3 l4 l5 l6 l7 l8 l9 m0
                  go_wp2_with (at_builtin; refine wpList_append_own _ rfl (.tmp 93) (.tmp 95) _ rfl w.heap.size 28 i0 _ 1 4 Tryz.underlying31 hi0 hz0 hz1 hz2 rfl (by decide) (.slice A8 k c8) k (w32 out) rfl (ho6.alloc _) ⟨w6.heap.size, 0, none⟩ 1 1 [.int .u32 v] rfl rfl (fun j u hu => by have h := new_cells w6 #[.int .u32 v] 28 j u hu; simpa using h) (by intro u hu; simp only [List.mem_cons, List.not_mem_nil, or_false] at hu; subst hu; rfl) (by unfold maxLen; omega) (by omega) (Nat.le_trans hb06.size (by simp)) ?_)
                  intro v9 w9 hown9 hg9 _
                  have hbz := (Below.refl w6.heap.size w6).alloc (Nat.le_refl _) (.cells #[.int .u32 v] 28)
                  have hPz := hP6.below hbz
                  have hEz := hE6.below hbz hE6.lt
                  have hoz := own_below ho6 hbz
                  have hP9 := hPz.other hoz hg9
                  have hE9 := hEz.grown hg9 (own_apart hoz hEz (by decide))
                  have hb9 : Below w.heap.size w w9 := (hb06.alloc hb06.size (.cells #[.int .u32 v] 28)).grown hg9 (Nat.le_trans hb06.size (by simp)) (fun q hq => by have := own_from ho6 q hq; omega)
                  have hl9 : (out ++ [v]).length = out.length + 1 := by simp
                  have hown9' : w9.ownsRow w.heap.size 28 1 v9 (out ++ [v]).length (w32 (out ++ [v])) := by
                    rw [hl9, w32, List.map_append, hok]
                    exact hown9
                  obtain ⟨A9, c9, rfl⟩ := own_slice hown9'
                  have hlk : (out ++ [v]).length = k + 1 := by rw [hl9, hok]
                  generalize out ++ [v] = out2 at HP3 hown9' hlk hl9 ⊢
                  clear hbz hPz hEz hoz hown9 hg9 hP6 hE6 ho6 hb06 hl9
                  go_wp2_with fail
                  go_roundw
                  case rel => exact ⟨k + 1, out2, A9, c9, by omega, by go_num, rfl, hlk, hown9', hP9, hE9, hb9, HP3⟩
                  case measure => simp [intOf]; omega
                | false =>
                  rw [hfr] at l8 hP1 hb1
                  have HP3 : Hid (passR g.labs 0 g.parts [] = passR g.labs (k + 1) (g.parts.drop (k + 1)) (out ++ [encR { p.ins with imm := Int.tdiv (ad - 4 * (k : Int) - 4) 4 }])) := Lib.hid (by
                    have e : partV g.labs k p = some (encR { p.ins with imm := Int.tdiv (ad - 4 * (k : Int) - 4) 4 }) := by rw [hpv, hfr]; rfl
                    rw [HP2.out, e])
                  have HEn := Lib.hid (fun W => show Calls Tryz.prog 25 #[.agg #[.int .i64 p.ins.op, .int .i64 p.ins.a, .int .i64 p.ins.b, .int .i64 p.ins.c, .int .i64 (Int.tdiv (ad - 4 * (k : Int) - 4) 4)]] W (fun e w' => e = .returned (.tuple #[.int .u32 (encR { p.ins with imm := Int.tdiv (ad - 4 * (k : Int) - 4) 4 }), .int .i64 (checkC { p.ins with imm := Int.tdiv (ad - 4 * (k : Int) - 4) 4 })]) ∧ Below W.heap.size W w') from REncode_any { p.ins with imm := Int.tdiv (ad - 4 * (k : Int) - 4) 4 } W)
                  generalize encR { p.ins with imm := Int.tdiv (ad - 4 * (k : Int) - 4) 4 } = v at HP3 HEn
                  generalize checkC { p.ins with imm := Int.tdiv (ad - 4 * (k : Int) - 4) 4 } = cc at HEn
                  clear HP2 hpv hfx hlb hlk hfl hPc hYl hY hf1 hfr
                  go_wp2_with fail
                  refine (HPc.out _ hP1).mono ?_
                  rintro e w3 ⟨rfl, rfl⟩
                  clear HPc hP1
                  go_wp2_with fail
                  refine (HEn.out _).mono ?_
                  rintro e w6 ⟨rfl, hb6⟩
                  have hbS := (Below.refl wr.heap.size wr).alloc (Nat.le_refl _) (.cells #[.int .i64 p.ins.op, .int .i64 p.ins.a, .int .i64 p.ins.b, .int .i64 p.ins.c, .int .i64 (Int.tdiv (ad - 4 * (k : Int) - 4) 4), .int .u32 p.raw, .bool false, .string Y, .bool false, .int .i64 p.line] 121)
                  have hbT : Below wr.heap.size wr w6 := hbS.trans (hb6.mono (by simp))
                  have hP6 := hP.below hbT
                  have hE6 := hE.below hbT hE.lt
                  have ho6 := own_below hownk hbT
                  have hb06 : Below w.heap.size w w6 := hb.trans (hbT.mono hb.size)
                  clear hbT hbS hb6 HEn hP hE hown hownk hb l0 l1 l2 l3 l4 l5 l6 l7 l8 l9 m0
                  go_wp2_with (at_builtin; refine wpList_append_own _ rfl (.tmp 93) (.tmp 95) _ rfl w.heap.size 28 i0 _ 1 4 Tryz.underlying31 hi0 hz0 hz1 hz2 rfl (by decide) (.slice A8 k c8) k (w32 out) rfl (ho6.alloc _) ⟨w6.heap.size, 0, none⟩ 1 1 [.int .u32 v] rfl rfl (fun j u hu => by have h := new_cells w6 #[.int .u32 v] 28 j u hu; simpa using h) (by intro u hu; simp only [List.mem_cons, List.not_mem_nil, or_false] at hu; subst hu; rfl) (by unfold maxLen; omega) (by omega) (Nat.le_trans hb06.size (by simp)) ?_)
                  intro v9 w9 hown9 hg9 _
                  have hbz := (Below.refl w6.heap.size w6).alloc (Nat.le_refl _) (.cells #[.int .u32 v] 28)
                  have hPz := hP6.below hbz
                  have hEz := hE6.below hbz hE6.lt
                  have hoz := own_below ho6 hbz
                  have hP9 := hPz.other hoz hg9
                  have hE9 := hEz.grown hg9 (own_apart hoz hEz (by decide))
                  have hb9 : Below w.heap.size w w9 := (hb06.alloc hb06.size (.cells #[.int .u32 v] 28)).grown hg9 (Nat.le_trans hb06.size (by simp)) (fun q hq => by have := own_from ho6 q hq; omega)
                  have hl9 : (out ++ [v]).length = out.length + 1 := by simp
                  have hown9' : w9.ownsRow w.heap.size 28 1 v9 (out ++ [v]).length (w32 (out ++ [v])) := by
                    rw [hl9, w32, List.map_append, hok]
                    exact hown9
                  obtain ⟨A9, c9, rfl⟩ := own_slice hown9'
                  have hlk : (out ++ [v]).length = k + 1 := by rw [hl9, hok]
                  generalize out ++ [v] = out2 at HP3 hown9' hlk hl9 ⊢
                  clear hbz hPz hEz hoz hown9 hg9 hP6 hE6 ho6 hb06 hl9
                  go_wp2_with fail
                  go_roundw
                  case rel => exact ⟨k + 1, out2, A9, c9, by omega, by go_num, rfl, hlk, hown9', hP9, hE9, hb9, HP3⟩
                  case measure => simp [intOf]; omega
        · have hkk : (g.parts.length : Int) ≤ (k : Int) := by omega
          have HR2 : Hid (R = (out, none)) := Lib.hid (by rw [HR.out, HP.out, List.drop_eq_nil_of_le (by omega)]; rfl)
          have HNo := Lib.hid (fun W => None_any W)
          clear HR HP hok
          go_wp2_with fail
          refine (HNo.out _).mono ?_
          rintro e w5 ⟨rfl, hb5⟩
          have hE5 := hE.below hb5 hE.lt
          have ho5 := own_below hown hb5
          have hb05 : Below w.heap.size w w5 := hb.trans (hb5.mono hb.size)
          have y0 : w5.cell? ⟨w.heap.size, 0, none⟩ = some (.int .i64 0) := hE5.cell 0
          have y1 : w5.cell? ⟨w.heap.size, 1, none⟩ = some (.int .i64 0) := hE5.cell 1
          have z0 : w5.frozen? ⟨w.heap.size, 0, none⟩ = false := hE5.frozen 0
          have z1 : w5.frozen? ⟨w.heap.size, 1, none⟩ = false := hE5.frozen 1
          have hne := own_ne ho5 (show w5.ownsRow 0 62 1 (.slice none 0 0) 0 [] from own_nil _ _ _ _) (by decide)
          have hap := own_apart ho5 hE5 (by decide)
          clear HNo hb5 hE hown hb hne
          go_wp2_with fail
          refine bodyPost_ret (v := .tuple #[.slice A8 out.length c8, .agg #[.int .i64 0, .int .i64 (-1)]]) (by simp [results, Tryz.results30, go_sem, y0, y1]) rfl ⟨?_, ?_⟩
          · exact (hb05.setCell (Nat.le_refl _) _).setCell (Nat.le_refl _) _
          · rw [HR2.out]
            have hap' : (Value.slice A8 out.length c8).ownBlock = none ∨ (Value.slice A8 out.length c8).ownBlock ≠ some w.heap.size := .inr (fun e => hap e.symm)
            exact ⟨_, rfl, own_far (own_far ho5 hap' 0 _) hap' 1 _⟩
end Go.Proofs.YtecmeegnjjhilaaGreatDoor
