/- isa.Words and isa.Bytes, the document's Words and Bytes, the law's sameWords: what each returns. -/
import Derived.Test.YtecmeegnjjhilaaGreatDoorSrc
import Derived.Deep.AppendLies
import Derived.Deep.RegionLaw
import Derived.Deep.RegionHeld3
import Derived.Test.YtecmeegnjjhilaaGreatDoorAsmRM
import Derived.Test.YtecmeegnjjhilaaGreatDoorTextLawM
import Derived.Test.YtecmeegnjjhilaaGreatDoorEnv
import Derived.Test.YtecmeegnjjhilaaGreatDoorShelf3
import Derived.Lib.AppendStr
import Derived.Lib.ItoaMem
import Derived.Lib.AppendIntMem
import Derived.BigCall
import Derived.BigGuard
namespace Go.Proofs.YtecmeegnjjhilaaGreatDoor
open Go.RowKit
/-- Four bytes a word. -/
def quad : List Int → List Int
  | a :: b :: c :: d :: r => (a * 16777216 + b * 65536 + c * 256 + d) :: quad r
  | _ => []
def Byte8 (xs : List Int) : Prop := ∀ x ∈ xs, 0 ≤ x ∧ x < 256
theorem quad_len : ∀ xs : List Int, (quad xs).length * 4 ≤ xs.length
  | a :: b :: c :: d :: r => by
    have := quad_len r
    simp only [quad, List.length_cons]
    omega
  | [] => by simp [quad]
  | [_] => by simp [quad]
  | [_, _] => by simp [quad]
  | [_, _, _] => by simp [quad]
theorem four_at (xs : List Int) (k : Nat) (h : k + 3 < xs.length) : ∃ a b c d, xs[k]? = some a ∧ xs[k + 1]? = some b ∧ xs[k + 2]? = some c ∧ xs[k + 3]? = some d ∧ xs.drop k = a :: b :: c :: d :: xs.drop (k + 4) := by
  refine ⟨xs[k], xs[k + 1], xs[k + 2], xs[k + 3], List.getElem?_eq_getElem _, List.getElem?_eq_getElem _, List.getElem?_eq_getElem _, List.getElem?_eq_getElem _, ?_⟩
  rw [List.drop_eq_getElem_cons (by omega : k < xs.length), List.drop_eq_getElem_cons (by omega : k + 1 < xs.length), List.drop_eq_getElem_cons (by omega : k + 2 < xs.length), List.drop_eq_getElem_cons (by omega : k + 3 < xs.length)]
theorem or_bytes (a b c d : Int) (a0 : 0 ≤ a) (a1 : a < 256) (b0 : 0 ≤ b) (b1 : b < 256) (c0 : 0 ≤ c) (c1 : c < 256) (d0 : 0 ≤ d) (d1 : d < 256) :
    bits .or .u32 (bits .or .u32 (bits .or .u32 (a * 16777216) (b * 65536)) (c * 256)) d = a * 16777216 + b * 65536 + c * 256 + d := by
  rw [or_sum (a * 16777216) (b * 65536) a.toNat 24 (by omega) (by omega) (by omega) (by omega) (by omega)]
  rw [or_sum (a * 16777216 + b * 65536) (c * 256) (a * 256 + b).toNat 16 (by omega) (by omega) (by omega) (by omega) (by omega)]
  rw [or_sum (a * 16777216 + b * 65536 + c * 256) d (a * 65536 + b * 256 + c).toNat 8 (by omega) (by omega) (by omega) (by omega) (by omega)]

/-- What Words answers. -/
def WordsRes (w : World) (er5 : Value) (xs : List Int) (e : Ending) (w' : World) : Prop :=
  Below w.heap.size w w' ∧ if xs.length % 4 ≠ 0 then e = .returned (.tuple #[.slice none 0 0, er5])
  else ∃ A c, e = .returned (.tuple #[.slice A (quad xs).length c, .nilIface]) ∧ w'.ownsRow w.heap.size 28 1 (.slice A (quad xs).length c) (quad xs).length (w32 (quad xs))

set_option maxHeartbeats 2000000 in
set_option maxRecDepth 100000 in
theorem Words_any (x5 : Value) (A : Option Addr) (cp : Nat) (xs : List Int) (hn : xs.length ≤ 100000000) (hx : Byte8 xs) (w : World) (hA : NumsAt w .u8 A xs.length xs) (h5 : w.cell? ⟨7, 0, none⟩ = some x5) :
    Calls Tryz.prog 38 #[.slice A xs.length cp] w (WordsRes w x5 xs) := by
  generalize hN : xs.length = N at hn hA ⊢
  have HN := Lib.hid hN
  have HX := Lib.hid hx
  clear hx hN
  by_cases h4 : N % 4 = 0
  · obtain ⟨i0, hi0, hz0, hz1, hz2⟩ := info_parts u32info
    have hr := Below.refl w.heap.size w
    have HA := Lib.hid hA
    have h4i : (((N : Int) % 4) != 0) = false := by simp; omega
    have HQ0 : Hid (quad xs = [] ++ quad (xs.drop 0)) := Lib.hid rfl
    clear h5 hA
    go_enter Tryz.func38, Tryz.ntmps38
    go_wp2_with fail
    clear h4i
    go_loopw [4, 5] (fun s3 s4 wr => ∃ (k : Nat) (L : List Int) (A' : Option Addr) (c : Nat), k ≤ N ∧ k % 4 = 0 ∧ L.length ≤ k ∧ s3 = .slice A' L.length c ∧ s4 = .int .i64 k ∧ Hid (quad xs = L ++ quad (xs.drop k)) ∧
        wr.ownsRow w.heap.size 28 1 (.slice A' L.length c) L.length (w32 L) ∧ Below w.heap.size w wr) (fun _ s4 _ => N - (intOf s4).toNat)
    case atStart => exact ⟨0, [], none, 0, by omega, by omega, by simp, rfl, rfl, HQ0, own_nil _ _ _ _, hr⟩
    case round =>
      obtain ⟨k, L, A', c, hk, hk4, hLk, rfl, rfl, HQ, hown, hb⟩ := hrel
      clear hr HQ0
      by_cases hlt : k < N
      · have hk3 : k + 3 < N := by omega
        obtain ⟨x0, x1, x2, x3, q0, q1, q2, q3, hd⟩ := four_at xs k (by rw [HN.out]; exact hk3)
        obtain ⟨b, o, rfl, hc⟩ := HA.out.2 (by omega)
        have hsm := fun (j : Nat) (x : Int) (h : xs[j]? = some x) => HX.out x (List.mem_of_getElem? h)
        obtain ⟨a0, a1⟩ := hsm _ _ q0
        obtain ⟨b0, b1⟩ := hsm _ _ q1
        obtain ⟨c0, c1⟩ := hsm _ _ q2
        obtain ⟨d0, d1⟩ := hsm _ _ q3
        have hbl : b < w.heap.size := World.block_lt_of_cell? w _ (hc _ _ q0)
        have hblr : b < wr.heap.size := Nat.lt_of_lt_of_le hbl hb.size
        have k0 : wr.cell? ⟨b, o + k, none⟩ = some (.int .u8 x0) := cell_below (hc _ _ q0) hb
        have k1 : wr.cell? ⟨b, o + (k + 1), none⟩ = some (.int .u8 x1) := cell_below (hc _ _ q1) hb
        have k2 : wr.cell? ⟨b, o + (k + 2), none⟩ = some (.int .u8 x2) := cell_below (hc _ _ q2) hb
        have k3 : wr.cell? ⟨b, o + (k + 3), none⟩ = some (.int .u8 x3) := cell_below (hc _ _ q3) hb
        have HO := Lib.hid (or_bytes x0 x1 x2 x3 a0 a1 b0 b1 c0 c1 d0 d1)
        have HQ2 : Hid (quad xs = (L ++ [x0 * 16777216 + x1 * 65536 + x2 * 256 + x3]) ++ quad (xs.drop (k + 4))) := Lib.hid (by rw [HQ.out, hd]; simp [quad])
        have hL2 : (L ++ [x0 * 16777216 + x1 * 65536 + x2 * 256 + x3]).length = L.length + 1 := by simp
        clear q0 q1 q2 q3 hd hc hsm HQ HA
        have s1 : IntKind.i64.wrap ((k : Int) + 1) = (k : Int) + 1 := IntWalk.i64_in _ (by omega)
        have s2 : IntKind.i64.wrap ((k : Int) + 2) = (k : Int) + 2 := IntWalk.i64_in _ (by omega)
        have s3 : IntKind.i64.wrap ((k : Int) + 3) = (k : Int) + 3 := IntWalk.i64_in _ (by omega)
        have n1 : (0 : Int) ≤ (k : Int) + 1 := by omega
        have n2 : (0 : Int) ≤ (k : Int) + 2 := by omega
        have n3 : (0 : Int) ≤ (k : Int) + 3 := by omega
        have m1 : (k : Int) + 1 < (N : Int) := by omega
        have m2 : (k : Int) + 2 < (N : Int) := by omega
        have m3 : (k : Int) + 3 < (N : Int) := by omega
        have r0 : IntKind.u32.wrap x0 = x0 := by rw [IntKind.wrap_u32]; omega
        have r1 : IntKind.u32.wrap x1 = x1 := by rw [IntKind.wrap_u32]; omega
        have r2 : IntKind.u32.wrap x2 = x2 := by rw [IntKind.wrap_u32]; omega
        have r3 : IntKind.u32.wrap x3 = x3 := by rw [IntKind.wrap_u32]; omega
        have t0 : IntKind.u32.wrap (x0 * 16777216) = x0 * 16777216 := by rw [IntKind.wrap_u32]; omega
        have t1 : IntKind.u32.wrap (x1 * 65536) = x1 * 65536 := by rw [IntKind.wrap_u32]; omega
        have t2 : IntKind.u32.wrap (x2 * 256) = x2 * 256 := by rw [IntKind.wrap_u32]; omega
        have hz0' : w.heap.size ≤ wr.heap.size := hb.size
        have z2 : ((k : Int) + 2).toNat = k + 2 := by omega
        have z3 : ((k : Int) + 3).toNat = k + 3 := by omega
        go_wp2_with fail
        have nb : some b ≠ (Value.slice A' L.length c).ownBlock := own_apart_base hown hbl
        go_region_held3 (fun w' => w'.cell? ⟨b, o + k, none⟩ = some (.int .u8 x0) ∧ w'.cell? ⟨b, o + (k + 1), none⟩ = some (.int .u8 x1) ∧ w'.cell? ⟨b, o + (k + 2), none⟩ = some (.int .u8 x2) ∧ w'.cell? ⟨b, o + (k + 3), none⟩ = some (.int .u8 x3))
          (first
            | go_keep
            | (go_split_ands
               refine ⟨?_, ?_, ?_, ?_⟩
               · (rw [hgrow.cell_far _ (by simp; omega) nb]; assumption)
               · (rw [hgrow.cell_far _ (by simp; omega) nb]; assumption)
               · (rw [hgrow.cell_far _ (by simp; omega) nb]; assumption)
               · (rw [hgrow.cell_far _ (by simp; omega) nb]; assumption)))
          ((refine step_append_lies _ (by rfl) _ _ _ (by rfl) w.heap.size 28 i0 _ 1 4 Tryz.underlying31 hi0 hz0 hz1 hz2 rfl (by omega) (.slice A' L.length c) L.length (w32 L) (by rfl) ((hown.alloc _).drew) ⟨wr.heap.size, 0, none⟩ 1 1 [.int .u32 (bits .or .u32 (bits .or .u32 (bits .or .u32 (x0 * 16777216) (x1 * 65536)) (x2 * 256)) x3)] (by rfl) (by rfl) (World.news_of_block (cs := #[.int .u32 (bits .or .u32 (bits .or .u32 (bits .or .u32 (x0 * 16777216) (x1 * 65536)) (x2 * 256)) x3)]) (t := 28) (fr := (0, 0)) (heap_alloc_new wr _)) (by simp [Value.oneCell']) (by omega) (by unfold maxLen; omega) (by omega) (by simp; omega) (wr.heap.size + 1) (by simp) ?_; intro gg cap w4 hown4 hgrow hat hlt4))
        have hb4 : Below w.heap.size w w4 := (below_drewN (hb.alloc hz0' (.cells #[.int .u32 (bits .or .u32 (bits .or .u32 (bits .or .u32 (x0 * 16777216) (x1 * 65536)) (x2 * 256)) x3)] 28)) 1).grown hgrow (by simp; omega) (fun q hq => own_from hown q hq)
        have ho4 : w4.ownsRow w.heap.size 28 1 (.slice (some ⟨gg, 0, none⟩) (L ++ [x0 * 16777216 + x1 * 65536 + x2 * 256 + x3]).length cap) (L ++ [x0 * 16777216 + x1 * 65536 + x2 * 256 + x3]).length (w32 (L ++ [x0 * 16777216 + x1 * 65536 + x2 * 256 + x3])) := by
          rw [HO.out] at hown4
          rw [hL2, w32, List.map_append]
          exact hown4
        clear hown4 hgrow hat hown hb nb z2 z3 s1 s2 s3 n1 n2 n3 m1 m2 m3 r0 r1 r2 r3 t0 t1 t2 HO
        generalize L ++ [x0 * 16777216 + x1 * 65536 + x2 * 256 + x3] = L2 at hL2 ho4 HQ2
        rw [← hL2]
        go_wp2_with fail
        go_roundw
        case rel => exact ⟨k + 4, L2, some ⟨gg, 0, none⟩, cap, by omega, by omega, by omega, rfl, by go_num, HQ2, ho4, hb4⟩
        case measure => simp [intOf]; omega
      · have hkN : k = N := by omega
        subst hkN
        have HL : Hid (quad xs = L) := Lib.hid (by rw [HQ.out, List.drop_eq_nil_of_le (by rw [HN.out]; exact Nat.le_refl _)]; simp [quad])
        have HN4 : Hid (xs.length % 4 = 0) := Lib.hid (by rw [HN.out]; exact h4)
        clear HQ
        go_wp2_with fail
        go_ret2
        refine ⟨hb, ?_⟩
        rw [if_neg (by rw [HN4.out]; decide), HL.out]
        exact ⟨A', c, rfl, hown⟩
  · have h4i : (((N : Int) % 4) != 0) = true := by rw [bne_iff_ne]; omega
    have h4j : ¬ (N : Int) % 4 = 0 := by omega
    have HN4 : Hid (xs.length % 4 ≠ 0) := Lib.hid (by rw [HN.out]; exact h4)
    clear hA h4
    go_enter Tryz.func38, Tryz.ntmps38
    go_wp2_with fail
    go_quiet (fail)
    go_wp2_with fail
    go_ret2
    refine ⟨below_drewN (Below.refl _ _) _, ?_⟩
    rw [if_pos HN4.out]
    rfl

/-- A word's four bytes. -/
def four (n : Int) : List Int := [n / 16777216, n / 65536 % 256, n / 256 % 256, n % 256]
def unquad (ws : List Int) : List Int := ws.flatMap four
theorem unquad_snoc (ws : List Int) (n : Int) : unquad (ws ++ [n]) = unquad ws ++ four n := by simp [unquad]
theorem unquad_len : ∀ ws : List Int, (unquad ws).length = ws.length * 4
  | [] => rfl
  | n :: ws => by
    have := unquad_len ws
    simp only [unquad, List.flatMap_cons, List.length_append, List.length_cons] at this ⊢
    rw [this]
    simp [four]
    omega
def u8s (xs : List Int) : List Value := xs.map fun x => .int .u8 x
theorem byteinfo8 : (Tryz.prog.info? 5).map (fun i => (i.zero, i.size, i.bytes)) = some (some (.int .u8 0), 1, 1) := by kernel_rfl

set_option maxHeartbeats 2000000 in
set_option maxRecDepth 100000 in
theorem Bytes_any (A : Option Addr) (cp : Nat) (xs : List Int) (hn : xs.length ≤ 100000000) (hx : ∀ x ∈ xs, 0 ≤ x ∧ x < 4294967296) (w : World) (hA : NumsAt w .u32 A xs.length xs) :
    Calls Tryz.prog 36 #[.slice A xs.length cp] w fun e w' => ∃ A' c, e = .returned (.slice A' (unquad xs).length c) ∧ w'.ownsRow w.heap.size 5 1 (.slice A' (unquad xs).length c) (unquad xs).length (u8s (unquad xs)) ∧ Below w.heap.size w w' := by
  generalize hN : xs.length = N at hn hA ⊢
  have HN := Lib.hid hN
  have HX := Lib.hid hx
  have HA := Lib.hid hA
  clear hx hN hA
  obtain ⟨i0, hi0, hz0, hz1, hz2⟩ := info_parts byteinfo8
  have hr := Below.refl w.heap.size w
  go_enter Tryz.func36, Tryz.ntmps36
  go_wp2_with fail
  go_loopw [3, 8] (fun s3 s8 wr => ∃ (k : Nat) (L : List Int) (A' : Option Addr) (c : Nat), k ≤ N ∧ L.length = k * 4 ∧ s3 = .slice A' L.length c ∧ s8 = .int .i64 k ∧ Hid (unquad (xs.take k) = L) ∧
      wr.ownsRow w.heap.size 5 1 (.slice A' L.length c) L.length (u8s L) ∧ Below w.heap.size w wr) (fun _ s8 _ => N - (intOf s8).toNat)
  case atStart => exact ⟨0, [], none, 0, by omega, by simp, rfl, rfl, Lib.hid rfl, own_nil _ _ _ _, hr⟩
  case round =>
    obtain ⟨k, L, A', c, hk, hLk, rfl, rfl, HQ, hown, hb⟩ := hrel
    clear hr
    have HLk := Lib.hid hLk
    have hLk2 : L.length ≤ k * 4 := by omega
    clear hLk
    by_cases hlt : k < N
    · obtain ⟨n, hn2⟩ : ∃ n, xs[k]? = some n := ⟨_, List.getElem?_eq_getElem (by rw [HN.out]; exact hlt)⟩
      obtain ⟨b, o, rfl, hc⟩ := HA.out.2 (by omega)
      obtain ⟨n0, n1⟩ := HX.out n (List.mem_of_getElem? hn2)
      have k0 : wr.cell? ⟨b, o + k, none⟩ = some (.int .u32 n) := cell_below (hc _ _ hn2) hb
      have HQ2 : Hid (unquad (xs.take (k + 1)) = L ++ four n) := Lib.hid (by rw [List.take_add_one, hn2, Option.toList_some, unquad_snoc, HQ.out])
      have hL2 : (L ++ four n).length = L.length + 4 := by simp [four]
      have hz0' : w.heap.size ≤ wr.heap.size := hb.size
      clear hn2 hc HQ HA
      go_wp2_with (at_builtin; refine wpList_append_own _ rfl (.tmp 12) (.tmp 24) _ rfl w.heap.size 5 i0 _ 1 1 Tryz.underlying56 hi0 hz0 hz1 hz2 rfl (by decide) (.slice A' L.length c) L.length (u8s L) rfl (hown.alloc _) ⟨wr.heap.size, 0, none⟩ 4 4 [.int .u8 (n / 16777216), .int .u8 (n / 65536 % 256), .int .u8 (n / 256 % 256), .int .u8 (n % 256)] rfl rfl ?c1 ?c2 ?c3 ?c4 ?c5 ?_)
      case c1 => exact fun j u hu => new_cells wr _ _ j u hu
      case c2 =>
        intro u hu
        simp only [List.mem_cons, List.not_mem_nil, or_false] at hu
        rcases hu with rfl | rfl | rfl | rfl <;> rfl
      case c3 => unfold maxLen; omega
      case c4 => omega
      case c5 => exact Nat.le_trans hb.size (by simp)
      intro v9 w9 hown9 hg9 _
      have hv9 : ∃ A c, v9 = .slice A (L.length + 4) c := by
        rcases hown9.2 with ⟨_, h⟩ | ⟨g, cap, cur, h, _⟩
        · omega
        · exact ⟨_, _, h⟩
      obtain ⟨A9, c9, rfl⟩ := hv9
      have hb9 : Below w.heap.size w w9 := (hb.alloc hb.size (.cells #[.int .u8 (n / 16777216), .int .u8 (n / 65536 % 256), .int .u8 (n / 256 % 256), .int .u8 (n % 256)] 5)).grown hg9 (Nat.le_trans hb.size (by simp)) (fun q hq => by have := own_from hown q hq; omega)
      have ho9 : w9.ownsRow w.heap.size 5 1 (.slice A9 (L ++ four n).length c9) (L ++ four n).length (u8s (L ++ four n)) := by
        rw [hL2, u8s, List.map_append]
        exact hown9
      have HL3 : Hid ((L ++ four n).length = (k + 1) * 4) := Lib.hid (by rw [hL2, HLk.out]; omega)
      rw [← hL2]
      clear hown9 hg9 hown hb
      generalize L ++ four n = L2 at HQ2 ho9 HL3 hL2 ⊢
      go_wp2_with fail
      go_roundw
      case rel => exact ⟨k + 1, L2, A9, c9, by omega, HL3.out, rfl, by go_num, HQ2, ho9, hb9⟩
      case measure => simp [intOf]; omega
    · have HE2 : Hid (unquad xs = L) := Lib.hid (by rw [← HQ.out, List.take_of_length_le (by rw [HN.out]; omega)])
      clear HQ HLk
      go_wp2_with fail
      go_ret
      rw [HE2.out]
      exact ⟨A', c, rfl, hown, hb⟩

/-- The law's comparison of two lists of words. -/
theorem sameWords_any (A B : Option Addr) (ca cb : Nat) (xs ys : List Int) (hn : xs.length ≤ 100000000) (hm : ys.length ≤ 100000000) (w : World) (hA : NumsAt w .u32 A xs.length xs) (hB : NumsAt w .u32 B ys.length ys) (same : xs = ys) :
    Calls Tryz.prog 31 #[.slice A xs.length ca, .slice B ys.length cb] w fun e w' => e = .returned (.bool true) ∧ Below w.heap.size w w' := by
  subst same
  generalize hN : xs.length = N at hn hA hB ⊢
  have HN := Lib.hid hN
  have HA := Lib.hid hA
  have HB := Lib.hid hB
  clear hN hA hB hm
  have hr := Below.refl w.heap.size w
  go_enter Tryz.func31, Tryz.ntmps31
  go_wp2_with fail
  go_loopw [5] (fun s5 wr => ∃ k : Nat, k ≤ N ∧ s5 = .int .i64 k ∧ Below w.heap.size w wr) (fun s5 _ => N - (intOf s5).toNat)
  case atStart => exact ⟨0, by omega, rfl, hr⟩
  case round =>
    obtain ⟨k, hk, rfl, hb⟩ := hrel
    clear hr
    by_cases hlt : k < N
    · obtain ⟨n, hn2⟩ : ∃ n, xs[k]? = some n := ⟨_, List.getElem?_eq_getElem (by rw [HN.out]; exact hlt)⟩
      obtain ⟨b, o, rfl, hc⟩ := HA.out.2 (by omega)
      obtain ⟨b', o', rfl, hc'⟩ := HB.out.2 (by omega)
      have k0 : wr.cell? ⟨b, o + k, none⟩ = some (.int .u32 n) := cell_below (hc _ _ hn2) hb
      have k1 : wr.cell? ⟨b', o' + k, none⟩ = some (.int .u32 n) := cell_below (hc' _ _ hn2) hb
      have h0 : (0 : Int) ≤ (k : Int) := by omega
      have h1 : (k : Int) < (N : Int) := by omega
      clear hn2 hc hc' HA HB
      go_wp2_with fail
      go_quiet (fail)
      go_wp2_with fail
      go_roundw
      case rel => exact ⟨k + 1, by omega, by go_num, below_drewN hb _⟩
      case measure => simp [intOf]; omega
    · clear HA HB
      go_wp2_with fail
      go_ret
      exact ⟨rfl, hb⟩
end Go.Proofs.YtecmeegnjjhilaaGreatDoor

/- The listing's law: the lines of words assemble to the words. Plain. -/
namespace Go.Proofs.YtecmeegnjjhilaaGreatDoor
open Go.RowKit
theorem dec_upto (u : Nat) : ∀ k, 1 ≤ k → u < 10 ^ k → (Lib.decDigits u).length ≤ k := by
  induction u using Nat.strongRecOn with
  | ind u ih =>
    intro k hk hu
    by_cases h : u < 10
    · rw [Lib.decDigits_one h]
      exact hk
    · rw [Lib.decDigits, dif_neg h, List.length_append]
      obtain ⟨q, rfl⟩ : ∃ q, k = q + 1 := ⟨k - 1, by omega⟩
      rw [Nat.pow_succ] at hu
      have hq : 1 ≤ q := by
        cases q with
        | zero => omega
        | succ q => omega
      have := ih (u / 10) (by omega) q hq (by omega)
      simp only [List.length_cons, List.length_nil]
      omega
def lineT (n : Int) : List UInt8 := if decC n = 0 then printT (decI n) else wWord ++ 32 :: Lib.decDigits n.toNat
def listT (ws : List Int) : List UInt8 := textL (ws.map lineT)
def Word32 (ws : List Int) : Prop := ∀ x ∈ ws, 0 ≤ x ∧ x < 4294967296
theorem reg_tight (n : Int) (_h0 : 0 ≤ n) (h1 : n ≤ 15) : (regT n).length ≤ 3 := by
  have := dec_upto n.toNat 2 (by omega) (by omega)
  unfold regT
  rw [List.length_cons]
  omega
theorem itoa_tight (n : Int) (h0 : -32768 ≤ n) (h1 : n ≤ 65535) : (Lib.itoa n).length ≤ 6 := by
  unfold Lib.itoa
  split
  · have := dec_upto n.natAbs 5 (by omega) (by omega)
    rw [List.length_cons]
    omega
  · have := dec_upto n.toNat 5 (by omega) (by omega)
    omega
theorem print_tight (i : Ins) (hc : checkC i = 0) : (printT i).length ≤ 40 := by
  obtain ⟨_, _, a0, a1, b0, b1, c0, c1, m0, m1⟩ := check_ok i hc
  have ha := reg_tight i.a a0 a1
  have hb := reg_tight i.b b0 b1
  have hcc := reg_tight i.c c0 c1
  have hm := itoa_tight i.imm m0 m1
  have hw := word_len i.op
  unfold printT
  rw [Lib.join_cons]
  unfold fieldsT
  simp only
  generalize regT i.a = A at ha
  generalize regT i.b = B at hb
  generalize regT i.c = C at hcc
  generalize Lib.itoa i.imm = M at hm
  generalize (opRow i.op).word = W at hw
  generalize usesOf (formOf i.op) = u
  obtain ⟨ua, ub, uc, ui, us⟩ := u
  cases ua <;> cases ub <;> cases uc <;> cases ui <;> simp [Lib.joinTail] <;> omega
theorem line_len (n : Int) (h0 : 0 ≤ n) (h1 : n < 4294967296) : (lineT n).length ≤ 40 := by
  unfold lineT
  split
  · rename_i hd
    obtain ⟨hc, _⟩ := dec_bits n hd
    exact print_tight _ hc
  · have := dec_upto n.toNat 10 (by omega) (by omega)
    simp only [List.length_append, List.length_cons]
    have e : wWord.length = 5 := rfl
    omega
theorem list_snoc (ws : List Int) (n : Int) : listT (ws ++ [n]) = listT ws ++ (lineT n ++ [10]) := by
  unfold listT textL
  rw [List.map_append, List.flatMap_append]
  simp
end Go.Proofs.YtecmeegnjjhilaaGreatDoor

/- strings.Builder's writer at this program, and strconv.FormatUint at base 10: what each returns. -/
namespace Go.Proofs.YtecmeegnjjhilaaGreatDoor
open Go.Shelf Go.RowKit Go.Sort Go.Lib
theorem builder_size : (Tryz.prog.info? 128).map (·.size) = some 2 := by kernel_rfl
theorem builder_lies : liesAt Tryz.prog Tryz.prog.depth 128 (2 / Tryz.prog.cellsOf 128) 0 128 1 = true := by kernel_rfl
theorem byteinfo : (Tryz.prog.info? 5).map (fun i => (i.zero, i.size, i.bytes)) = some (some (.int .u8 0), 1, 1) := by kernel_rfl

set_option maxHeartbeats 1000000 in
set_option maxRecDepth 100000 in
theorem copyCheck_used (b : Nat) (w : World) (h0 : w.cell? ⟨b, 0, none⟩ = some (.pointer (some ⟨b, 0, none⟩))) :
    Calls Tryz.prog 98 #[.pointer (some ⟨b, 0, none⟩)] w fun e w' => e = .returned (.tuple #[]) ∧ w' = w := by
  obtain ⟨j, hj, _⟩ := Option.map_eq_some_iff.1 builder_size
  go_enter Tryz.func98, Tryz.ntmps98
  go_wp2
  rw [Lib.run_neq_ptr_same w _ Tryz.underlying126 hj]
  go_wp2
  go_end0
  exact ⟨rfl, rfl⟩

set_option maxHeartbeats 1000000 in
set_option maxRecDepth 100000 in
theorem copyCheck_fresh (b : Nat) (w : World) (h0 : w.cell? ⟨b, 0, none⟩ = some (.pointer none)) (hsh : w.shape? b = some (128, 2)) (hfz : w.frozen? ⟨b, 0, none⟩ = false) :
    Calls Tryz.prog 98 #[.pointer (some ⟨b, 0, none⟩)] w fun e w' => e = .returned (.tuple #[]) ∧ w' = w.setCell ⟨b, 0, none⟩ (.pointer (some ⟨b, 0, none⟩)) := by
  obtain ⟨j, hj, hjs⟩ := Option.map_eq_some_iff.1 builder_size
  go_enter Tryz.func98, Tryz.ntmps98
  go_wp2
  rw [Lib.run_to_unsafe w ⟨b, 0, none⟩ Tryz.underlying126 Tryz.underlying158 hj (by rw [hjs]; decide) hsh (Nat.zero_lt_succ 1)]
  simp only [Result.andThen]
  rw [Oper.upon_value]
  go_wp2
  rw [run_callFunc_extern Tryz.func130 (by kernel_rfl) (by kernel_rfl) (by kernel_rfl) (e := Extern.AbiNoEscape.same) (by kernel_rfl)]
  rw [Lib.run_noEscape]
  simp only [Result.andThen]
  rw [Oper.upon_value]
  go_wp2
  rw [Lib.run_from_unsafe w ⟨b, 0, none⟩ Tryz.underlying158 Tryz.underlying126 hj hsh builder_lies]
  simp only [Result.andThen]
  rw [Oper.upon_value]
  go_wp2
  go_end0
  exact ⟨rfl, rfl⟩

theorem copyCheck_any (B b : Nat) (bs : List Value) (w : World) (h : Lib.IsBuilder 128 5 B b bs w) :
    Calls Tryz.prog 98 #[.pointer (some ⟨b, 0, none⟩)] w fun e w' => e = .returned (.tuple #[]) ∧ (Lib.BuilderAt 128 5 B b (.pointer (some ⟨b, 0, none⟩)) bs w' ∧ Below B w w') := by
  rcases h with h | h
  · refine (copyCheck_fresh b w h.cell0 h.shape h.frozen0).mono ?_
    rintro e w' ⟨rfl, rfl⟩
    exact ⟨rfl, h.used _, (Below.refl B w).setCell (p := ⟨b, 0, none⟩) h.1 _⟩
  · refine (copyCheck_used b w h.cell0).mono ?_
    rintro e w' ⟨rfl, rfl⟩
    exact ⟨rfl, h, Below.refl B _⟩

set_option maxHeartbeats 2000000 in
set_option maxRecDepth 100000 in
theorem WriteString_any (B b : Nat) (bs : List Value) (s : ByteArray) (w : World) (h : Lib.IsBuilder 128 5 B b bs w) (hlen : bs.length + s.size ≤ 140737488355328) (hBw : B ≤ w.heap.size) :
    Calls Tryz.prog 68 #[.pointer (some ⟨b, 0, none⟩), .string s] w fun e w' => e = .returned (.tuple #[.int .i64 s.size, .nilIface]) ∧
      (Lib.BuilderAt 128 5 B b (.pointer (some ⟨b, 0, none⟩)) (bs ++ Lib.strCells s) w' ∧ Below B w w') := by
  obtain ⟨i0, hi, hz0, hz1, hz2⟩ := info_parts byteinfo
  have HC := Lib.hid (copyCheck_any B b bs w h)
  clear h
  go_enter Tryz.func68, Tryz.ntmps68
  go_wp2_with fail
  refine HC.out.mono ?_
  rintro e w1 ⟨rfl, h1, hb1⟩
  obtain ⟨hB, v, hbk, hown, hne⟩ := h1
  have c0 : w1.cell? ⟨b, 0, none⟩ = some (.pointer (some ⟨b, 0, none⟩)) := by rw [Lib.cell_of_heap hbk]; rfl
  have c1 : w1.cell? ⟨b, 1, none⟩ = some v := by rw [Lib.cell_of_heap hbk]; rfl
  go_wp2_with (at_builtin; refine Lib.wpList_append_own_string _ rfl _ _ 56 9 rfl B 5 i0 Tryz.underlying56 Tryz.underlying9 hi hz0 hz1 hz2 _ _ _ rfl hown s rfl ?c3 ?c4 ?c5 ?_)
  case c3 => unfold maxLen; omega
  case c4 => omega
  case c5 => have := hb1.size; omega
  intro v' w2 hown' hgrow _
  have hlt : b < w1.heap.size := by
    rcases Nat.lt_or_ge b w1.heap.size with h' | h'
    · exact h'
    · simp [Array.getElem?_eq_none h'] at hbk
  have hb2 : w2.heap[b]? = some (.cells #[.pointer (some ⟨b, 0, none⟩), v] 128 (0, 0)) := by
    rw [hgrow.block b hlt (fun e => hne e.symm)]
    exact hbk
  have d0 : w2.cell? ⟨b, 0, none⟩ = some (.pointer (some ⟨b, 0, none⟩)) := by rw [Lib.cell_of_heap hb2]; rfl
  have d1 : w2.cell? ⟨b, 1, none⟩ = some v := by rw [Lib.cell_of_heap hb2]; rfl
  have f1 : w2.frozen? ⟨b, 1, none⟩ = false := Lib.frozen_of_heap hb2 1
  obtain ⟨ao, n', cap, rfl⟩ : ∃ ao n' cap, v' = .slice ao n' cap := by
    rcases hown'.2 with ⟨hv, _⟩ | ⟨g, cap, cur, hv, _⟩
    · exact ⟨_, _, _, hv⟩
    · exact ⟨_, _, _, hv⟩
  go_wp2
  go_ret2
  refine ⟨rfl, ?_, ?_⟩
  · exact Lib.BuilderAt.put (T := 128) (e := 5) hB hb2 (bs' := bs ++ Lib.strCells s) (by simpa [Lib.strCells_length] using hown') (by decide)
  · exact (hb1.grown hgrow (by have := hb1.size; omega) (fun k hk => (hown.lt k hk).1)).setCell (p := ⟨b, 1, none⟩) hB _

set_option maxHeartbeats 6400000 in
set_option maxRecDepth 100000 in
/-- internal/strconv.FormatUint at base 10. -/
theorem iFormatUint (u : Nat) (hu64 : u < 18446744073709551616) (w : World) (htab : Lib.TabIs Tryz.prog w "internal/strconv.uint64pow10" .u64 Lib.pow10Tab) :
    Calls Tryz.prog 97 #[.int .u64 u, .int .i64 10] w fun e w' => e = .returned (.string ⟨(Lib.decDigits u).toArray⟩) ∧ Below w.heap.size w w' := by
  by_cases hs : u < 100
  · have hwr : IntKind.i64.wrap (u : Int) = (u : Int) := IntWalk.i64_in _ (by omega)
    have HS := Lib.hid (fun W => Tryz.internal_strconv_small u hs W)
    go_enter Tryz.func97, Tryz.ntmps97
    go_wp2_with fail
    refine (HS.out _).mono ?_
    rintro e w' ⟨rfl, rfl⟩
    go_wp2_with fail
    go_ret
    exact ⟨rfl, Below.refl _ _⟩
  · have hu1 : 1 ≤ u := by omega
    have hnd20 : Lib.nDigits u ≤ 20 := by have := Lib.numDigits_eq u hu1 hu64; split at this <;> omega
    have hb3 : Lib.nDigits u ≤ 23 := by omega
    have hal : Tryz.prog.arrayLen 205 = 24 := by kernel_rfl
    have hsl1 : ∀ W, (Instr.sliceAt 205 (.pointer (some ⟨w.heap.size, 0, none⟩)) none (some (.int .i64 (Lib.nDigits u : Int))) none).run Tryz.prog W = .ok (.slice (some ⟨w.heap.size, 0, none⟩) (Lib.nDigits u) 24) W := fun W => by
      rw [run_sliceAt_array_h W 205 ⟨w.heap.size, 0, none⟩ (by kernel_rfl) .i64 (Lib.nDigits u : Int) (by omega) (by rw [hal]; omega)]
      go_simp
    have hH0 : Holds (fun (b : UInt8) => Value.int .u8 (b.toNat : Int)) (w.alloc (.cells Lib.zeros24 205)) w.heap.size 0 (Array.replicate (Lib.nDigits u) 0) := Lib.holds_zero0 w 205 (Lib.nDigits u) (by omega)
    have hfmt := Tryz.internal_strconv_formatBase10 w.heap.size 0 24 u (Array.replicate (Lib.nDigits u) 0) (w.alloc (.cells Lib.zeros24 205)) hH0 (by rw [Array.size_replicate]; exact Lib.lt_pow_nDigits u) hu64 (by rw [Array.size_replicate]; omega)
    rw [Array.size_replicate] at hfmt
    have HFm := Lib.hid hfmt
    have HH0 := Lib.hid hH0
    have HN := Lib.hid (fun W hW => Tryz.internal_strconv_numDigits u hu1 hu64 W hW)
    have HT := Lib.hid (Lib.tabIs_alloc htab (.cells Lib.zeros24 205))
    have hlt : ¬ (u : Int) < 100 := by omega
    clear hH0 hal hfmt htab
    go_enter Tryz.func97, Tryz.ntmps97
    go_wp2_with fail
    refine (HN.out _ HT.out).mono ?_
    rintro e w' ⟨rfl, rfl⟩
    go_wp2_with fail
    refine HFm.out.mono ?_
    rintro e w' ⟨rfl, k, v', dk, rfl, hF⟩
    have hcv : (convert 56 9 (.slice (some ⟨w.heap.size, 0, none⟩) (Lib.nDigits u) 24)).run Tryz.prog ((putRow (fun (b : UInt8) => Value.int .u8 (b.toNat : Int)) (w.alloc (.cells Lib.zeros24 205)) w.heap.size 0 dk).drewN k) = .ok (.string ⟨(Lib.decDigits u).toArray⟩) ((putRow (fun (b : UInt8) => Value.int .u8 (b.toNat : Int)) (w.alloc (.cells Lib.zeros24 205)) w.heap.size 0 dk).drewN k) := by
      have h := run_convert_bytes_back (P := Tryz.prog) ((putRow (fun (b : UInt8) => Value.int .u8 (b.toNat : Int)) (w.alloc (.cells Lib.zeros24 205)) w.heap.size 0 dk).drewN k) 56 9 5 ⟨w.heap.size, 0, none⟩ 24 (Lib.decDigits u) Tryz.underlying56 Tryz.underlying5 Tryz.underlying9 (fun j hj => by
        rw [Lib.row_is_numeral hF j hj, Lib.add_plain, World.cell?_drewN]
        exact cell?_putRow (fun (b : UInt8) => Value.int .u8 (b.toNat : Int)) _ w.heap.size 0 _ dk HH0.out (by rw [hF.size, Array.size_replicate]) j (by rw [hF.size]; rw [Lib.decDigits_length] at hj; exact hj))
      rw [Lib.decDigits_length] at h
      exact h
    obtain ⟨os, eo⟩ := Lib.fin_at w (.cells Lib.zeros24 205) dk k 0
    have HB : Hid (Below w.heap.size w ((putRow (fun (b : UInt8) => Value.int .u8 (b.toNat : Int)) (w.alloc (.cells Lib.zeros24 205)) w.heap.size 0 dk).drewN k)) := Lib.hid (by rw [eo]; exact Lib.below_grow _ _ (Nat.le_refl _) _ _)
    clear eo HFm HN HT HH0 hF
    go_wp2
    go_ret
    exact ⟨rfl, HB.out⟩
theorem FormatUint_any (u : Nat) (hu64 : u < 18446744073709551616) (w : World) (htab : Lib.TabIs Tryz.prog w "internal/strconv.uint64pow10" .u64 Lib.pow10Tab) :
    Calls Tryz.prog 67 #[.int .u64 u, .int .i64 10] w fun e w' => e = .returned (.string ⟨(Lib.decDigits u).toArray⟩) ∧ Below w.heap.size w w' := by
  have H := Lib.hid (iFormatUint u hu64 w htab)
  clear htab
  go_enter Tryz.func67, Tryz.ntmps67
  go_wp2_with fail
  refine H.out.mono ?_
  rintro e w' ⟨rfl, hb⟩
  go_wp2_with fail
  go_ret
  exact ⟨rfl, hb⟩
end Go.Proofs.YtecmeegnjjhilaaGreatDoor

/- isa.List: the listing of words. -/
namespace Go.Proofs.YtecmeegnjjhilaaGreatDoor
open Go.RowKit
theorem BuilderAt.below {T e : TypeId} {B b : Nat} {p : Value} {bs : List Value} {w w' : World} (h : Lib.BuilderAt T e B b p bs w) (hb : Below w.heap.size w w') : Lib.BuilderAt T e B b p bs w' := by
  have hlt := h.lt
  obtain ⟨hB, v, hc, hown, hne⟩ := h
  exact ⟨hB, v, (hb.block b hlt).trans hc, own_below hown hb, hne⟩
theorem IsBuilder.below {T e : TypeId} {B b : Nat} {bs : List Value} {w w' : World} (h : Lib.IsBuilder T e B b bs w) (hb : Below w.heap.size w w') : Lib.IsBuilder T e B b bs w' := by
  rcases h with h | h
  · exact .inl (BuilderAt.below h hb)
  · exact .inr (BuilderAt.below h hb)
set_option maxHeartbeats 4000000 in
set_option maxRecDepth 100000 in
theorem List_any (er : Nat → Addr) (A : Option Addr) (cp : Nat) (xs : List Int) (hn : xs.length ≤ 10000000) (hx : Word32 xs) (w : World) (E : Env er w) (hA : NumsAt w .u32 A xs.length xs) :
    Calls Tryz.prog 34 #[.slice A xs.length cp] w fun e w' => e = .returned (.string ⟨(listT xs).toArray⟩) ∧ Below w.heap.size w w' := by
  have HE := Lib.hid E
  generalize hN : xs.length = N at hn hA ⊢
  have HN := Lib.hid hN
  have HX := Lib.hid hx
  have HA := Lib.hid hA
  clear hx hN hA E
  have hI0 : Lib.IsBuilder 128 5 w.heap.size w.heap.size [] (w.alloc (.cells #[.pointer none, .slice none 0 0] 128)) := Lib.fresh_isBuilder _ _ w
  have hb0 := (Below.refl w.heap.size w).alloc (Nat.le_refl _) (.cells #[.pointer none, .slice none 0 0] 128)
  have HL0 : Hid (listT (xs.take 0) = []) := Lib.hid rfl
  go_enter Tryz.func34, Tryz.ntmps34
  go_wp2_with fail
  generalize w.alloc (.cells #[.pointer none, .slice none 0 0] 128) = w0 at hI0 hb0 ⊢
  go_loopw [11] (fun s11 wr => ∃ (k : Nat) (L : List UInt8), k ≤ N ∧ s11 = .int .i64 k ∧ L.length ≤ k * 41 ∧ Hid (listT (xs.take k) = L) ∧ Lib.IsBuilder 128 5 w.heap.size w.heap.size (Lib.byteCells L) wr ∧ Below w.heap.size w wr) (fun s11 _ => N - (intOf s11).toNat)
  case atStart => exact ⟨0, [], by omega, rfl, by simp, HL0, hI0, hb0⟩
  case round =>
    obtain ⟨k, L, hk, rfl, hLk, HL, hI, hb⟩ := hrel
    clear hI0 hb0 HL0
    by_cases hlt : k < N
    · obtain ⟨n, hn2⟩ : ∃ n, xs[k]? = some n := ⟨_, List.getElem?_eq_getElem (by rw [HN.out]; exact hlt)⟩
      obtain ⟨b, o, rfl, hc⟩ := HA.out.2 (by omega)
      obtain ⟨n0, n1⟩ := HX.out n (List.mem_of_getElem? hn2)
      have k0 : wr.cell? ⟨b, o + k, none⟩ = some (.int .u32 n) := cell_below (hc _ _ hn2) hb
      have HL2 : Hid (listT (xs.take (k + 1)) = L ++ (lineT n ++ [10])) := Lib.hid (by rw [List.take_add_one, hn2, Option.toList_some, list_snoc, HL.out])
      have hln := line_len n n0 n1
      have hD := fun W (h : Env er W) => Decode_any n n0 n1 er W h
      have HLine : Hid (lineT n = if decC n = 0 then printT (decI n) else wWord ++ 32 :: Lib.decDigits n.toNat) := Lib.hid rfl
      have HPc : Hid (decC n = 0 → checkC (decI n) = 0) := Lib.hid (fun h => (dec_bits n h).1)
      have hwl : wr.heap.size = wr.heap.size := rfl
      obtain ⟨u, rfl⟩ := Int.eq_ofNat_of_zero_le n0
      have hFu := FormatUint_any u (by omega) wr (HE.out.below hb).pow
      have hdl := dec_upto u 10 (by omega) (by omega)
      rw [Int.toNat_natCast] at HLine
      have HFu := Lib.hid hFu
      have HP0 := Lib.hid (fun W (h : Env er W) => Print_any (decI u) er W h)
      generalize hj : decI (u : Int) = j at hD HLine HPc HP0
      generalize decC (u : Int) = cd at hD HLine HPc
      generalize Lib.decDigits u = dg at HFu HLine hdl
      generalize lineT (u : Int) = LT at HL2 hln HLine
      have HD := Lib.hid hD
      clear hn2 hc HL HA hD hFu hj
      obtain ⟨Y, hY⟩ : ∃ Y : ByteArray, ((⟨#[46, 119, 111, 114, 100, 32]⟩ : ByteArray) ++ ⟨dg.toArray⟩) = Y := ⟨_, rfl⟩
      have hYs : Y.size = 6 + dg.length := by rw [← hY, ByteArray.size_append]; simp [ByteArray.size]
      have HYd : Hid (Y.data.toList = wWord ++ 32 :: dg) := Lib.hid (by rw [← hY, Joins.data_append]; rfl)
      have hcat : ¬ 9223372036854775807 < 6 + dg.length := by omega
      go_wp2_with fail
      refine HFu.out.mono ?_
      rintro e w1 ⟨rfl, hb1⟩
      have hb01 : Below w.heap.size w w1 := hb.trans (hb1.mono hb.size)
      have hI1 := IsBuilder.below hI hb1
      clear hI hb hb1 HFu k0
      go_wp2_with fail
      refine (HD.out w1 (HE.out.below hb01)).mono ?_
      rintro e w2 ⟨rfl, hb2⟩
      have hb02 : Below w.heap.size w w2 := hb01.trans (hb2.mono hb01.size)
      have hI2 := IsBuilder.below hI1 hb2
      clear hI1 hb01 hb2 HD
      obtain ⟨jo, ja, jb, jc, jm⟩ := j
      unfold Ins.val at HP0 ⊢
      simp only at HP0
      have hb3 := hb02.alloc hb02.size (.cells #[.int .i64 jo, .int .i64 ja, .int .i64 jb, .int .i64 jc, .int .i64 jm] 27)
      have hI3 := IsBuilder.below hI2 ((Below.refl w2.heap.size w2).alloc (Nat.le_refl _) (.cells #[.int .i64 jo, .int .i64 ja, .int .i64 jb, .int .i64 jc, .int .i64 jm] 27))
      clear hb02 hI2
      by_cases h0 : cd = 0
      · subst h0
        have hch := HPc.out rfl
        have hP := HP0.out _ (HE.out.below hb3)
        rw [hch, if_pos rfl, errV_zero] at hP
        obtain ⟨S, hS⟩ : ∃ S : ByteArray, (⟨(printT ⟨jo, ja, jb, jc, jm⟩).toArray⟩ : ByteArray) = S := ⟨_, rfl⟩
        have hSl : S.data.toList = LT := by rw [← hS, HLine.out, if_pos rfl]
        have hSs : S.size ≤ 40 := by rw [Lib.size_eq, hSl]; exact hln
        have HSl := Lib.hid hSl
        rw [hS] at hP
        have HP := Lib.hid hP
        have hcat2 : ¬ 9223372036854775807 < S.size + 1 := by omega
        have hw10 : (⟨#[10]⟩ : ByteArray).size = 1 := rfl
        have HW := Lib.hid (fun W h hBw => WriteString_any w.heap.size w.heap.size (Lib.byteCells L) (S ++ ⟨#[10]⟩) W h (by rw [Lib.byteCells_length, ByteArray.size_append]; omega) hBw)
        have HBs : Hid (Lib.byteCells L ++ Lib.strCells (S ++ ⟨#[10]⟩) = Lib.byteCells (L ++ (LT ++ [10]))) := Lib.hid (by
          rw [Lib.strCells_eq, Joins.data_append, ← Lib.byteCells_append, HSl.out])
        rw [errV_zero]
        clear hP hch hS hSl HLine HP0 HPc HYd hw10
        go_wp2_with fail
        refine HP.out.mono ?_
        rintro e w4 ⟨rfl, hb4⟩
        have hb04 : Below w.heap.size w w4 := hb3.trans (hb4.mono hb3.size)
        have hI4 := IsBuilder.below hI3 hb4
        clear HP hb3 hI3 hb4
        go_wp2_with fail
        refine (HW.out w4 hI4 hb04.size).mono ?_
        rintro e w5 ⟨rfl, hI5, hb5⟩
        rw [HBs.out] at hI5
        have hb05 : Below w.heap.size w w5 := hb04.trans hb5
        clear HW HBs HSl hI4 hb04 hb5
        go_wp2_with fail
        go_roundw
        case rel => exact ⟨k + 1, L ++ (LT ++ [10]), by omega, by go_num, by simp only [List.length_append, List.length_cons, List.length_nil]; omega, HL2, .inr hI5, hb05⟩
        case measure => simp [intOf]; omega
      · have HSl : Hid (Y.data.toList = LT) := Lib.hid (by rw [HYd.out, HLine.out, if_neg h0])
        have hcat2 : ¬ 9223372036854775807 < Y.size + 1 := by omega
        have hw10 : (⟨#[10]⟩ : ByteArray).size = 1 := rfl
        have HW := Lib.hid (fun W h hBw => WriteString_any w.heap.size w.heap.size (Lib.byteCells L) (Y ++ ⟨#[10]⟩) W h (by rw [Lib.byteCells_length, ByteArray.size_append]; omega) hBw)
        have HBs : Hid (Lib.byteCells L ++ Lib.strCells (Y ++ ⟨#[10]⟩) = Lib.byteCells (L ++ (LT ++ [10]))) := Lib.hid (by
          rw [Lib.strCells_eq, Joins.data_append, ← Lib.byteCells_append, HSl.out])
        rw [errV_pos er cd h0]
        clear HLine HP0 HPc HYd hw10 h0
        go_wp2_with fail
        refine (HW.out _ hI3 hb3.size).mono ?_
        rintro e w5 ⟨rfl, hI5, hb5⟩
        rw [HBs.out] at hI5
        have hb05 : Below w.heap.size w w5 := hb3.trans hb5
        clear HW HBs HSl hI3 hb3 hb5
        go_wp2_with fail
        go_roundw
        case rel => exact ⟨k + 1, L ++ (LT ++ [10]), by omega, by go_num, by simp only [List.length_append, List.length_cons, List.length_nil]; omega, HL2, .inr hI5, hb05⟩
        case measure => simp [intOf]; omega
    · have HE2 : Hid (listT xs = L) := Lib.hid (by rw [← HL.out, List.take_of_length_le (by rw [HN.out]; omega)])
      have HS := Lib.hid (Tryz.Builder_String_any w.heap.size w.heap.size L wr hI hb.size)
      clear HL HA
      go_wp2_with fail
      refine HS.out.mono ?_
      rintro e w2 ⟨rfl, hb2⟩
      go_wp2_with fail
      go_ret
      rw [HE2.out]
      exact ⟨rfl, hb.trans hb2⟩
end Go.Proofs.YtecmeegnjjhilaaGreatDoor
