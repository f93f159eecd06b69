/- The document's made: the parts of a statement. -/
import Derived.Test.YtecmeegnjjhilaaGreatDoorRefYM
import Derived.Test.YtecmeegnjjhilaaGreatDoorRefXM
namespace Go.Proofs.YtecmeegnjjhilaaGreatDoor
open Go.RowKit
def pcells (ps : List Part) : List Value := ps.flatMap fun p => (cellsP p).toList
theorem pcells_len : ∀ ps : List Part, (pcells ps).length = ps.length * 10
  | [] => rfl
  | p :: r => by
    have := pcells_len r
    unfold pcells at this ⊢
    rw [List.flatMap_cons, List.length_append, this, List.length_cons]
    show 10 + r.length * 10 = (r.length + 1) * 10
    omega
theorem pcells_snoc (ps : List Part) (p : Part) : pcells (ps ++ [p]) = pcells ps ++ (cellsP p).toList := by simp [pcells]
theorem partinfo : (Tryz.prog.info? 121).map (fun i => (i.zero, i.size, i.bytes)) = some (some (.agg #[.int .i64 0, .int .i64 0, .int .i64 0, .int .i64 0, .int .i64 0, .int .u32 0, .bool false, .string ⟨#[]⟩, .bool false, .int .i64 0]), 10, 80) := by kernel_rfl
theorem own_new (w : World) (t : TypeId) (size n : Nat) (cs : Array Value) (h : cs.size = n * size) (hn : n ≤ maxLen) : (w.alloc (.cells cs t)).ownsRow w.heap.size t size (.slice (some ⟨w.heap.size, 0, none⟩) n n) n cs.toList :=
  ⟨by simp [h], .inr ⟨w.heap.size, n, cs, rfl, Nat.le_refl _, heap_alloc_new w _, Nat.le_refl _, hn, h, by rw [← h]; exact List.take_of_length_le (by simp)⟩⟩
/-- What made answers. -/
def MadeOut (w : World) (e : Ending) (w' : World) (r : List Part × Nat) : Prop :=
  ∃ v, e = .returned (.tuple #[v, .int .i64 r.2]) ∧ Below w.heap.size w w' ∧ (r.2 = 0 → w'.ownsRow w.heap.size 121 10 v r.1.length (pcells r.1))
theorem made_bad {w w' : World} {c : Nat} {n : Int} (hn : n = c) (hc : c ≠ 0) (hb : Below w.heap.size w w') (v : Value) (ps : List Part) : MadeOut w (.returned (.tuple #[v, .int .i64 n])) w' (ps, c) :=
  ⟨v, by rw [hn], hb, fun h => absurd h hc⟩
theorem made_one {w w' w2 : World} {H : Nat} (p : Part) (hw2 : w2 = w'.alloc (.cells (cellsP p) 121)) (hb : Below w.heap.size w w') (hH : w'.heap.size = H) : MadeOut w (.returned (.tuple #[.slice (some ⟨H, 0, none⟩) 1 1, .int .i64 0])) w2 ([p], 0) := by
  subst hw2 hH
  refine ⟨_, rfl, hb.alloc hb.size _, fun _ => ?_⟩
  have h := own_lower (own_new w' 121 10 1 (cellsP p) rfl (by unfold maxLen; omega)) hb.size
  have e : pcells [p] = (cellsP p).toList := by simp [pcells]
  rw [e]
  exact h
theorem made_two {w w' w2 : World} {H : Nat} (p q : Part) (hw2 : w2 = w'.alloc (.cells (cellsP p ++ cellsP q) 121)) (hb : Below w.heap.size w w') (hH : w'.heap.size = H) : MadeOut w (.returned (.tuple #[.slice (some ⟨H, 0, none⟩) 2 2, .int .i64 0])) w2 ([p, q], 0) := by
  subst hw2 hH
  refine ⟨_, rfl, hb.alloc hb.size _, fun _ => ?_⟩
  have h := own_lower (own_new w' 121 10 2 (cellsP p ++ cellsP q) rfl (by unfold maxLen; omega)) hb.size
  have e : pcells [p, q] = (cellsP p ++ cellsP q).toList := by simp [pcells]
  rw [e]
  exact h
theorem numR_range (lo hi r : Int) (h0 : -2147483648 ≤ lo) (h1 : hi ≤ 4294967295) (l : List (List UInt8)) (h : (numR lo hi r l).2.2 = 0) : 0 ≤ (numR lo hi r l).2.1 ∧ (numR lo hi r l).2.1 < 4294967296 ∧ (0 ≤ lo → (numR lo hi r l).2.1 ≤ hi) := by
  match l with
  | [] => exact absurd h (by simp [numR])
  | [w] =>
    rw [numR_cases] at h ⊢
    split at h
    · rename_i hv
      split at h
      · exact absurd h (by decide)
      · rename_i hr
        rw [if_pos hv, if_neg hr]
        simp only
        have h2 : ¬ (valP w).1 < lo := fun h => hr (.inl h)
        have h3 : ¬ hi < (valP w).1 := fun h => hr (.inr h)
        split <;> omega
    · exact absurd h (by decide)
  | _ :: _ :: _ => exact absurd h (by simp [numR])
theorem liR_range (l : List (List UInt8)) (h : (liR l).2.2 = 0) : 0 ≤ (liR l).2.1 ∧ (liR l).2.1 < 4294967296 := by
  match l with
  | [] => exact absurd h (by simp [liR])
  | [_] => exact absurd h (by simp [liR])
  | [x, w] =>
    unfold liR at h ⊢
    simp only at h ⊢
    split at h
    · exact absurd h (by decide)
    · rename_i hx
      rw [if_neg hx]
      have := numR_range _ _ _ (by decide) (by decide) _ h
      exact ⟨this.1, this.2.1⟩
  | _ :: _ :: _ :: _ => exact absurd h (by simp [liR])
set_option maxHeartbeats 8000000 in
set_option maxRecDepth 100000 in
theorem made_nop (A : Option Addr) (n c : Nat) (ops : List ByteArray) (hss : ∀ s ∈ ops, s.size ≤ 100000000) (hn8 : n ≤ 100000000) (w : World) (hW : StrsV w (.slice A (n + 1) c) ((⟨#[110, 111, 112]⟩ : ByteArray) :: ops)) :
    Calls Tryz.prog 90 #[.slice A (n + 1) c] w fun e w' => MadeOut w e w' (madeR (⟨#[110, 111, 112]⟩ : ByteArray).data.toList (ops.map fun s => s.data.toList)) := by
  obtain ⟨b, o, rfl, hx⟩ := hW.at_ 0 (⟨#[110, 111, 112]⟩ : ByteArray) rfl
  rw [Nat.add_zero] at hx
  have hn : ops.length = n := by
    obtain ⟨_, _, e, _⟩ := hW
    injection e with _ e2 _
    simp only [List.length_cons] at e2
    omega
  have hcn : n + 1 ≤ c := by
    obtain ⟨_, _, e, h, _⟩ := hW
    injection e with _ _ e3
    simp only [List.length_cons] at h
    omega
  have hWc := hW.cut
  have hWd : ∀ k, StrsV (w.drewN k) (.slice (if c = 1 then some ⟨b, o, none⟩ else some ⟨b, o + 1, none⟩) n (c - 1)) ops := fun k => StrsV.below hWc (below_drewN (Below.refl _ _) k)
  have hbd : ∀ k, Below w.heap.size w (w.drewN k) := fun k => below_drewN (Below.refl _ _) k
  have HBD := Lib.hid hbd
  have HWD := Lib.hid hWd
  have HSS := Lib.hid hss
  clear hbd hWd hWc hss hW
  by_cases hc1 : c = 1
  · subst hc1
    obtain rfl : n = 0 := by omega
    have HW2 := Lib.hid (fun k => (show StrsV (w.drewN k) (.slice (some ⟨b, o, none⟩) 0 0) ops from HWD.out k))
    have hn0 : (0 : Nat) = 0 := rfl
    clear HWD
    have d1 : ((0 : Int) == 0) = true := by simp
    have d2 : ((0 : Int) != 0) = false := by simp
    have HM : Hid (madeR (⟨#[110, 111, 112]⟩ : ByteArray).data.toList (ops.map fun s => s.data.toList) = ([partI ⟨16, 0, 0, 0, 0⟩], 0)) := Lib.hid (by
      have h0 : ops = [] := List.eq_nil_of_length_eq_zero (by omega)
      subst h0
      rfl)
    clear hn hcn
    go_enter Tryz.func90, Tryz.ntmps90
    go_wp2_with fail
    go_quiet (fail)
    go_wp2_with fail
    go_ret2
    rw [HM.out]
    exact made_one (partI ⟨16, 0, 0, 0, 0⟩) rfl (HBD.out _) rfl
  · have HW2 := Lib.hid (fun k => (show StrsV (w.drewN k) (.slice (some ⟨b, o + 1, none⟩) n (c - 1)) ops from by have h := HWD.out k; rw [if_neg hc1] at h; exact h))
    clear HWD
    by_cases hn0 : n = 0
    · have d1 : ((n : Int) == 0) = true := by simp [hn0]
      have d2 : ((n : Int) != 0) = false := by simp [hn0]
      have HM : Hid (madeR (⟨#[110, 111, 112]⟩ : ByteArray).data.toList (ops.map fun s => s.data.toList) = ([partI ⟨16, 0, 0, 0, 0⟩], 0)) := Lib.hid (by
        have h0 : ops = [] := List.eq_nil_of_length_eq_zero (by omega)
        subst h0
        rfl)
      clear hn hcn
      go_enter Tryz.func90, Tryz.ntmps90
      go_wp2_with fail
      go_quiet (fail)
      go_wp2_with fail
      go_ret2
      rw [HM.out]
      exact made_one (partI ⟨16, 0, 0, 0, 0⟩) rfl (HBD.out _) rfl
    · have d1 : ((n : Int) == 0) = false := by simp [hn0]
      have d2 : ((n : Int) != 0) = true := by simp [hn0]
      have HM : Hid (madeR (⟨#[110, 111, 112]⟩ : ByteArray).data.toList (ops.map fun s => s.data.toList) = ([], 18)) := Lib.hid (by
        have h0 : ops.map (fun s => s.data.toList) ≠ [] := by
          intro h
          have := List.map_eq_nil_iff.1 h
          rw [this] at hn
          simp at hn
          omega
        show (if _ ≠ [] then _ else _) = _
        exact if_pos h0)
      clear hn hcn
      go_enter Tryz.func90, Tryz.ntmps90
      go_wp2_with fail
      go_quiet (fail)
      go_wp2_with fail
      go_ret2
      rw [HM.out]
      exact made_bad rfl (by decide) (HBD.out _) _ _
set_option maxHeartbeats 8000000 in
set_option maxRecDepth 100000 in
theorem made_li (A : Option Addr) (n c : Nat) (ops : List ByteArray) (hss : ∀ s ∈ ops, s.size ≤ 100000000) (hn8 : n ≤ 100000000) (w : World) (hW : StrsV w (.slice A (n + 1) c) ((⟨#[108, 105]⟩ : ByteArray) :: ops)) :
    Calls Tryz.prog 90 #[.slice A (n + 1) c] w fun e w' => MadeOut w e w' (madeR (⟨#[108, 105]⟩ : ByteArray).data.toList (ops.map fun s => s.data.toList)) := by
  obtain ⟨b, o, rfl, hx⟩ := hW.at_ 0 (⟨#[108, 105]⟩ : ByteArray) rfl
  rw [Nat.add_zero] at hx
  have hn : ops.length = n := by
    obtain ⟨_, _, e, _⟩ := hW
    injection e with _ e2 _
    simp only [List.length_cons] at e2
    omega
  have hcn : n + 1 ≤ c := by
    obtain ⟨_, _, e, h, _⟩ := hW
    injection e with _ _ e3
    simp only [List.length_cons] at h
    omega
  have hWc := hW.cut
  have hWd : ∀ k, StrsV (w.drewN k) (.slice (if c = 1 then some ⟨b, o, none⟩ else some ⟨b, o + 1, none⟩) n (c - 1)) ops := fun k => StrsV.below hWc (below_drewN (Below.refl _ _) k)
  have hbd : ∀ k, Below w.heap.size w (w.drewN k) := fun k => below_drewN (Below.refl _ _) k
  have HBD := Lib.hid hbd
  have HWD := Lib.hid hWd
  have HSS := Lib.hid hss
  clear hbd hWd hWc hss hW
  by_cases hc1 : c = 1
  · subst hc1
    obtain rfl : n = 0 := by omega
    have HW2 := Lib.hid (fun k => (show StrsV (w.drewN k) (.slice (some ⟨b, o, none⟩) 0 0) ops from HWD.out k))
    have hn0 : (0 : Nat) = 0 := rfl
    clear HWD
    have HNu := Lib.hid (fun k => Rnum_li (some ⟨b, o, none⟩) 0 0 ops HSS.out (w.drewN k) (HW2.out k))
    have HM : Hid (madeR (⟨#[108, 105]⟩ : ByteArray).data.toList (ops.map fun s => s.data.toList) = if (liR (ops.map fun s => s.data.toList)).2.2 ≠ 0 then ([], (liR (ops.map fun s => s.data.toList)).2.2) else ([partI ⟨20, (liR (ops.map fun s => s.data.toList)).1, 0, 0, (liR (ops.map fun s => s.data.toList)).2.1 / 65536⟩, partI ⟨18, (liR (ops.map fun s => s.data.toList)).1, (liR (ops.map fun s => s.data.toList)).1, 0, (liR (ops.map fun s => s.data.toList)).2.1 % 65536⟩], 0)) := Lib.hid (by
      have hs : stmP (⟨#[108, 105]⟩ : ByteArray).data.toList = .li := by kernel_rfl
      unfold madeR
      rw [hs])
    have HRg := Lib.hid (fun h => liR_range (ops.map fun s => s.data.toList) h)
    generalize liR (ops.map fun s => s.data.toList) = q at HNu HM HRg
    obtain ⟨r, v, en⟩ := q
    simp only at HM HRg
    clear hn
    by_cases h0 : en = 0
    · subst h0
      have HM2 := Lib.hid (HM.out.trans (if_neg (by simp)))
      have hrg := HRg.out rfl
      clear HM HRg
      go_enter Tryz.func90, Tryz.ntmps90
      go_wp2_with fail
      go_quiet (fail)
      go_wp2_with fail
      refine (HNu.out _).mono ?_
      rintro e w4 ⟨rfl, hb4⟩
      have hb5 : Below w.heap.size w w4 := (HBD.out _).trans (hb4.mono (HBD.out _).size)
      have t1 : v.tdiv 65536 = v / 65536 := Int.tdiv_eq_ediv_of_nonneg hrg.1
      have t2 : v.tmod 65536 = v % 65536 := Int.tmod_eq_emod_of_nonneg hrg.1
      obtain ⟨v0, v1⟩ := hrg
      go_wp2_with fail
      go_ret2
      rw [HM2.out]
      exact made_two (partI ⟨20, r, 0, 0, v / 65536⟩) (partI ⟨18, r, r, 0, v % 65536⟩) rfl hb5 rfl
    · have d1 : ((en : Int) == 0) = false := by rw [beq_eq_false_iff_ne]; omega
      have d2 : ((en : Int) != 0) = true := by simp; omega
      have HM2 := Lib.hid (HM.out.trans (if_pos h0))
      clear HM HRg
      go_enter Tryz.func90, Tryz.ntmps90
      go_wp2_with fail
      go_quiet (fail)
      go_wp2_with fail
      refine (HNu.out _).mono ?_
      rintro e w4 ⟨rfl, hb4⟩
      have hb5 : Below w.heap.size w w4 := (HBD.out _).trans (hb4.mono (HBD.out _).size)
      go_wp2_with fail
      go_ret2
      rw [HM2.out]
      exact made_bad rfl h0 hb5 _ _
  · have HW2 := Lib.hid (fun k => (show StrsV (w.drewN k) (.slice (some ⟨b, o + 1, none⟩) n (c - 1)) ops from by have h := HWD.out k; rw [if_neg hc1] at h; exact h))
    clear HWD
    have HNu := Lib.hid (fun k => Rnum_li (some ⟨b, o + 1, none⟩) n (c - 1) ops HSS.out (w.drewN k) (HW2.out k))
    have HM : Hid (madeR (⟨#[108, 105]⟩ : ByteArray).data.toList (ops.map fun s => s.data.toList) = if (liR (ops.map fun s => s.data.toList)).2.2 ≠ 0 then ([], (liR (ops.map fun s => s.data.toList)).2.2) else ([partI ⟨20, (liR (ops.map fun s => s.data.toList)).1, 0, 0, (liR (ops.map fun s => s.data.toList)).2.1 / 65536⟩, partI ⟨18, (liR (ops.map fun s => s.data.toList)).1, (liR (ops.map fun s => s.data.toList)).1, 0, (liR (ops.map fun s => s.data.toList)).2.1 % 65536⟩], 0)) := Lib.hid (by
      have hs : stmP (⟨#[108, 105]⟩ : ByteArray).data.toList = .li := by kernel_rfl
      unfold madeR
      rw [hs])
    have HRg := Lib.hid (fun h => liR_range (ops.map fun s => s.data.toList) h)
    generalize liR (ops.map fun s => s.data.toList) = q at HNu HM HRg
    obtain ⟨r, v, en⟩ := q
    simp only at HM HRg
    clear hn
    by_cases h0 : en = 0
    · subst h0
      have HM2 := Lib.hid (HM.out.trans (if_neg (by simp)))
      have hrg := HRg.out rfl
      clear HM HRg
      go_enter Tryz.func90, Tryz.ntmps90
      go_wp2_with fail
      go_quiet (fail)
      go_wp2_with fail
      refine (HNu.out _).mono ?_
      rintro e w4 ⟨rfl, hb4⟩
      have hb5 : Below w.heap.size w w4 := (HBD.out _).trans (hb4.mono (HBD.out _).size)
      have t1 : v.tdiv 65536 = v / 65536 := Int.tdiv_eq_ediv_of_nonneg hrg.1
      have t2 : v.tmod 65536 = v % 65536 := Int.tmod_eq_emod_of_nonneg hrg.1
      obtain ⟨v0, v1⟩ := hrg
      go_wp2_with fail
      go_ret2
      rw [HM2.out]
      exact made_two (partI ⟨20, r, 0, 0, v / 65536⟩) (partI ⟨18, r, r, 0, v % 65536⟩) rfl hb5 rfl
    · have d1 : ((en : Int) == 0) = false := by rw [beq_eq_false_iff_ne]; omega
      have d2 : ((en : Int) != 0) = true := by simp; omega
      have HM2 := Lib.hid (HM.out.trans (if_pos h0))
      clear HM HRg
      go_enter Tryz.func90, Tryz.ntmps90
      go_wp2_with fail
      go_quiet (fail)
      go_wp2_with fail
      refine (HNu.out _).mono ?_
      rintro e w4 ⟨rfl, hb4⟩
      have hb5 : Below w.heap.size w w4 := (HBD.out _).trans (hb4.mono (HBD.out _).size)
      go_wp2_with fail
      go_ret2
      rw [HM2.out]
      exact made_bad rfl h0 hb5 _ _
set_option maxHeartbeats 8000000 in
set_option maxRecDepth 100000 in
theorem made_word (A : Option Addr) (n c : Nat) (ops : List ByteArray) (hss : ∀ s ∈ ops, s.size ≤ 100000000) (hn8 : n ≤ 100000000) (w : World) (hW : StrsV w (.slice A (n + 1) c) ((⟨#[46, 119, 111, 114, 100]⟩ : ByteArray) :: ops)) :
    Calls Tryz.prog 90 #[.slice A (n + 1) c] w fun e w' => MadeOut w e w' (madeR (⟨#[46, 119, 111, 114, 100]⟩ : ByteArray).data.toList (ops.map fun s => s.data.toList)) := by
  obtain ⟨b, o, rfl, hx⟩ := hW.at_ 0 (⟨#[46, 119, 111, 114, 100]⟩ : ByteArray) rfl
  rw [Nat.add_zero] at hx
  have hn : ops.length = n := by
    obtain ⟨_, _, e, _⟩ := hW
    injection e with _ e2 _
    simp only [List.length_cons] at e2
    omega
  have hcn : n + 1 ≤ c := by
    obtain ⟨_, _, e, h, _⟩ := hW
    injection e with _ _ e3
    simp only [List.length_cons] at h
    omega
  have hWc := hW.cut
  have hWd : ∀ k, StrsV (w.drewN k) (.slice (if c = 1 then some ⟨b, o, none⟩ else some ⟨b, o + 1, none⟩) n (c - 1)) ops := fun k => StrsV.below hWc (below_drewN (Below.refl _ _) k)
  have hbd : ∀ k, Below w.heap.size w (w.drewN k) := fun k => below_drewN (Below.refl _ _) k
  have HBD := Lib.hid hbd
  have HWD := Lib.hid hWd
  have HSS := Lib.hid hss
  clear hbd hWd hWc hss hW
  by_cases hc1 : c = 1
  · subst hc1
    obtain rfl : n = 0 := by omega
    have HW2 := Lib.hid (fun k => (show StrsV (w.drewN k) (.slice (some ⟨b, o, none⟩) 0 0) ops from HWD.out k))
    have hn0 : (0 : Nat) = 0 := rfl
    clear HWD
    have HNu := Lib.hid (fun k => Rnum_word (some ⟨b, o, none⟩) 0 0 ops HSS.out (w.drewN k) (HW2.out k))
    have HM : Hid (madeR (⟨#[46, 119, 111, 114, 100]⟩ : ByteArray).data.toList (ops.map fun s => s.data.toList) = if (numR (-2147483648) 4294967295 0 (ops.map fun s => s.data.toList)).2.2 ≠ 0 then ([], (numR (-2147483648) 4294967295 0 (ops.map fun s => s.data.toList)).2.2) else ([partW (numR (-2147483648) 4294967295 0 (ops.map fun s => s.data.toList)).2.1], 0)) := Lib.hid (by
      have hs : stmP (⟨#[46, 119, 111, 114, 100]⟩ : ByteArray).data.toList = .word := by kernel_rfl
      unfold madeR
      rw [hs])
    have HRg := Lib.hid (fun h => numR_range (-2147483648) 4294967295 0 (by decide) (by decide) (ops.map fun s => s.data.toList) h)
    generalize numR (-2147483648) 4294967295 0 (ops.map fun s => s.data.toList) = q at HNu HM HRg
    obtain ⟨r, v, en⟩ := q
    simp only at HM HRg
    clear hn
    by_cases h0 : en = 0
    · subst h0
      have HM2 := Lib.hid (HM.out.trans (if_neg (by simp)))
      have hrg := HRg.out rfl
      clear HM HRg
      go_enter Tryz.func90, Tryz.ntmps90
      go_wp2_with fail
      go_quiet (fail)
      go_wp2_with fail
      refine (HNu.out _).mono ?_
      rintro e w4 ⟨rfl, hb4⟩
      have hb5 : Below w.heap.size w w4 := (HBD.out _).trans (hb4.mono (HBD.out _).size)
      obtain ⟨v0, v1, _⟩ := hrg
      have t1 : IntKind.u32.wrap v = v := by rw [IntKind.wrap_u32]; omega
      go_wp2_with fail
      go_ret2
      rw [HM2.out]
      exact made_one (partW v) rfl hb5 rfl
    · have d1 : ((en : Int) == 0) = false := by rw [beq_eq_false_iff_ne]; omega
      have d2 : ((en : Int) != 0) = true := by simp; omega
      have HM2 := Lib.hid (HM.out.trans (if_pos h0))
      clear HM HRg
      go_enter Tryz.func90, Tryz.ntmps90
      go_wp2_with fail
      go_quiet (fail)
      go_wp2_with fail
      refine (HNu.out _).mono ?_
      rintro e w4 ⟨rfl, hb4⟩
      have hb5 : Below w.heap.size w w4 := (HBD.out _).trans (hb4.mono (HBD.out _).size)
      go_wp2_with fail
      go_ret2
      rw [HM2.out]
      exact made_bad rfl h0 hb5 _ _
  · have HW2 := Lib.hid (fun k => (show StrsV (w.drewN k) (.slice (some ⟨b, o + 1, none⟩) n (c - 1)) ops from by have h := HWD.out k; rw [if_neg hc1] at h; exact h))
    clear HWD
    have HNu := Lib.hid (fun k => Rnum_word (some ⟨b, o + 1, none⟩) n (c - 1) ops HSS.out (w.drewN k) (HW2.out k))
    have HM : Hid (madeR (⟨#[46, 119, 111, 114, 100]⟩ : ByteArray).data.toList (ops.map fun s => s.data.toList) = if (numR (-2147483648) 4294967295 0 (ops.map fun s => s.data.toList)).2.2 ≠ 0 then ([], (numR (-2147483648) 4294967295 0 (ops.map fun s => s.data.toList)).2.2) else ([partW (numR (-2147483648) 4294967295 0 (ops.map fun s => s.data.toList)).2.1], 0)) := Lib.hid (by
      have hs : stmP (⟨#[46, 119, 111, 114, 100]⟩ : ByteArray).data.toList = .word := by kernel_rfl
      unfold madeR
      rw [hs])
    have HRg := Lib.hid (fun h => numR_range (-2147483648) 4294967295 0 (by decide) (by decide) (ops.map fun s => s.data.toList) h)
    generalize numR (-2147483648) 4294967295 0 (ops.map fun s => s.data.toList) = q at HNu HM HRg
    obtain ⟨r, v, en⟩ := q
    simp only at HM HRg
    clear hn
    by_cases h0 : en = 0
    · subst h0
      have HM2 := Lib.hid (HM.out.trans (if_neg (by simp)))
      have hrg := HRg.out rfl
      clear HM HRg
      go_enter Tryz.func90, Tryz.ntmps90
      go_wp2_with fail
      go_quiet (fail)
      go_wp2_with fail
      refine (HNu.out _).mono ?_
      rintro e w4 ⟨rfl, hb4⟩
      have hb5 : Below w.heap.size w w4 := (HBD.out _).trans (hb4.mono (HBD.out _).size)
      obtain ⟨v0, v1, _⟩ := hrg
      have t1 : IntKind.u32.wrap v = v := by rw [IntKind.wrap_u32]; omega
      go_wp2_with fail
      go_ret2
      rw [HM2.out]
      exact made_one (partW v) rfl hb5 rfl
    · have d1 : ((en : Int) == 0) = false := by rw [beq_eq_false_iff_ne]; omega
      have d2 : ((en : Int) != 0) = true := by simp; omega
      have HM2 := Lib.hid (HM.out.trans (if_pos h0))
      clear HM HRg
      go_enter Tryz.func90, Tryz.ntmps90
      go_wp2_with fail
      go_quiet (fail)
      go_wp2_with fail
      refine (HNu.out _).mono ?_
      rintro e w4 ⟨rfl, hb4⟩
      have hb5 : Below w.heap.size w w4 := (HBD.out _).trans (hb4.mono (HBD.out _).size)
      go_wp2_with fail
      go_ret2
      rw [HM2.out]
      exact made_bad rfl h0 hb5 _ _
set_option maxHeartbeats 8000000 in
set_option maxRecDepth 100000 in
theorem made_space (A : Option Addr) (n c : Nat) (ops : List ByteArray) (hss : ∀ s ∈ ops, s.size ≤ 100000000) (hn8 : n ≤ 100000000) (w : World) (hW : StrsV w (.slice A (n + 1) c) ((⟨#[46, 115, 112, 97, 99, 101]⟩ : ByteArray) :: ops)) :
    Calls Tryz.prog 90 #[.slice A (n + 1) c] w fun e w' => MadeOut w e w' (madeR (⟨#[46, 115, 112, 97, 99, 101]⟩ : ByteArray).data.toList (ops.map fun s => s.data.toList)) := by
  obtain ⟨b, o, rfl, hx⟩ := hW.at_ 0 (⟨#[46, 115, 112, 97, 99, 101]⟩ : ByteArray) rfl
  rw [Nat.add_zero] at hx
  have hn : ops.length = n := by
    obtain ⟨_, _, e, _⟩ := hW
    injection e with _ e2 _
    simp only [List.length_cons] at e2
    omega
  have hcn : n + 1 ≤ c := by
    obtain ⟨_, _, e, h, _⟩ := hW
    injection e with _ _ e3
    simp only [List.length_cons] at h
    omega
  have hWc := hW.cut
  have hWd : ∀ k, StrsV (w.drewN k) (.slice (if c = 1 then some ⟨b, o, none⟩ else some ⟨b, o + 1, none⟩) n (c - 1)) ops := fun k => StrsV.below hWc (below_drewN (Below.refl _ _) k)
  have hbd : ∀ k, Below w.heap.size w (w.drewN k) := fun k => below_drewN (Below.refl _ _) k
  have HBD := Lib.hid hbd
  have HWD := Lib.hid hWd
  have HSS := Lib.hid hss
  clear hbd hWd hWc hss hW
  by_cases hc1 : c = 1
  · subst hc1
    obtain rfl : n = 0 := by omega
    have HW2 := Lib.hid (fun k => (show StrsV (w.drewN k) (.slice (some ⟨b, o, none⟩) 0 0) ops from HWD.out k))
    have hn0 : (0 : Nat) = 0 := rfl
    clear HWD
    have HNu := Lib.hid (fun k => Rnum_space (some ⟨b, o, none⟩) 0 0 ops HSS.out (w.drewN k) (HW2.out k))
    have HM : Hid (madeR (⟨#[46, 115, 112, 97, 99, 101]⟩ : ByteArray).data.toList (ops.map fun s => s.data.toList) = if (numR 0 512 0 (ops.map fun s => s.data.toList)).2.2 ≠ 0 then ([], (numR 0 512 0 (ops.map fun s => s.data.toList)).2.2) else (List.replicate (numR 0 512 0 (ops.map fun s => s.data.toList)).2.1.toNat (partW 0), 0)) := Lib.hid (by
      have hs : stmP (⟨#[46, 115, 112, 97, 99, 101]⟩ : ByteArray).data.toList = .space := by kernel_rfl
      unfold madeR
      rw [hs])
    have HRg := Lib.hid (fun h => numR_range 0 512 0 (by decide) (by decide) (ops.map fun s => s.data.toList) h)
    generalize numR 0 512 0 (ops.map fun s => s.data.toList) = q at HNu HM HRg
    obtain ⟨r, v, en⟩ := q
    simp only at HM HRg
    clear hn
    by_cases h0 : en = 0
    · subst h0
      have HM2 := Lib.hid (HM.out.trans (if_neg (by simp)))
      have hrg := HRg.out rfl
      clear HM HRg
      go_enter Tryz.func90, Tryz.ntmps90
      go_wp2_with fail
      go_quiet (fail)
      go_wp2_with fail
      refine (HNu.out _).mono ?_
      rintro e w4 ⟨rfl, hb4⟩
      have hb5 : Below w.heap.size w w4 := (HBD.out _).trans (hb4.mono (HBD.out _).size)
      obtain ⟨v0, v1, v2⟩ := hrg
      have v5 := v2 (by decide)
      obtain ⟨i0, hi0, hz0, hz1, hz2⟩ := info_parts partinfo
      clear v1 v2 hb4
      go_wp2_with fail
      go_loopw [9, 10] (fun s9 s10 wr => ∃ (k : Nat) (A9 : Option Addr) (c9 : Nat), (k : Int) ≤ v ∧ s10 = .int .i64 k ∧ s9 = .slice A9 k c9 ∧ wr.ownsRow w.heap.size 121 10 (.slice A9 k c9) k (pcells (List.replicate k (partW 0))) ∧ Below w.heap.size w wr) (fun _ s10 _ => v.toNat - (intOf s10).toNat)
      case atStart => exact ⟨0, none, 0, v0, rfl, rfl, own_nil _ _ _ _, hb5⟩
      case round =>
        obtain ⟨k, A9, c9, hk, rfl, rfl, hown, hb⟩ := hrel
        clear hb5
        by_cases hlt : (k : Int) < v
        · have HX : Hid (pcells (List.replicate k (partW 0)) ++ (cellsP (partW 0)).toList = pcells (List.replicate (k + 1) (partW 0))) := Lib.hid (by rw [List.replicate_succ', pcells_snoc])
          generalize pcells (List.replicate k (partW 0)) = X at hown HX
          go_wp2_with (at_builtin; refine wpList_append_own _ rfl (.tmp 67) (.tmp 69) _ rfl w.heap.size 121 i0 _ 10 80 Tryz.underlying115 hi0 hz0 hz1 hz2 rfl (by decide) (.slice A9 k c9) k X rfl (hown.alloc _) ⟨wr.heap.size, 0, none⟩ 1 1 (cellsP (partW 0)).toList rfl rfl (fun j u hu => new_cells wr _ _ j u hu) (by intro u hu; simp only [cellsP, partW, List.mem_cons, List.not_mem_nil, or_false] at hu; rcases hu with rfl | rfl | rfl | rfl | rfl | rfl | rfl | rfl | rfl | rfl <;> rfl) (by unfold maxLen; omega) (by omega) (Nat.le_trans hb.size (by simp)) ?_)
          intro v9 w9 hown9 hg9 _
          have hv9 : ∃ A c, v9 = .slice A (k + 1) c := by
            rcases hown9.2 with ⟨_, h⟩ | ⟨g, cap, cur, h, _⟩
            · omega
            · exact ⟨_, _, h⟩
          obtain ⟨A9', c9', rfl⟩ := hv9
          have hb9 : Below w.heap.size w w9 := (hb.alloc hb.size (.cells (cellsP (partW 0)) 121)).grown hg9 (Nat.le_trans hb.size (by simp)) (fun q hq => by have := own_from hown q hq; omega)
          have ho9 : w9.ownsRow w.heap.size 121 10 (.slice A9' (k + 1) c9') (k + 1) (pcells (List.replicate (k + 1) (partW 0))) := by
            rw [← HX.out]
            exact hown9
          clear hown9 hg9 hown hb HX
          go_wp2_with fail
          go_roundw
          case rel => exact ⟨k + 1, A9', c9', by omega, by go_num, rfl, ho9, hb9⟩
          case measure => simp [intOf]; omega
        · have hkv : v = (k : Int) := by omega
          have HM3 := Lib.hid (show _ = (List.replicate k (partW 0), 0) from HM2.out.trans (by rw [hkv]; rfl))
          clear hkv HM2
          go_wp2_with fail
          go_ret2
          rw [HM3.out]
          exact ⟨_, rfl, hb, fun _ => by simpa using hown⟩
    · have d1 : ((en : Int) == 0) = false := by rw [beq_eq_false_iff_ne]; omega
      have d2 : ((en : Int) != 0) = true := by simp; omega
      have HM2 := Lib.hid (HM.out.trans (if_pos h0))
      clear HM HRg
      go_enter Tryz.func90, Tryz.ntmps90
      go_wp2_with fail
      go_quiet (fail)
      go_wp2_with fail
      refine (HNu.out _).mono ?_
      rintro e w4 ⟨rfl, hb4⟩
      have hb5 : Below w.heap.size w w4 := (HBD.out _).trans (hb4.mono (HBD.out _).size)
      go_wp2_with fail
      go_ret2
      rw [HM2.out]
      exact made_bad rfl h0 hb5 _ _
  · have HW2 := Lib.hid (fun k => (show StrsV (w.drewN k) (.slice (some ⟨b, o + 1, none⟩) n (c - 1)) ops from by have h := HWD.out k; rw [if_neg hc1] at h; exact h))
    clear HWD
    have HNu := Lib.hid (fun k => Rnum_space (some ⟨b, o + 1, none⟩) n (c - 1) ops HSS.out (w.drewN k) (HW2.out k))
    have HM : Hid (madeR (⟨#[46, 115, 112, 97, 99, 101]⟩ : ByteArray).data.toList (ops.map fun s => s.data.toList) = if (numR 0 512 0 (ops.map fun s => s.data.toList)).2.2 ≠ 0 then ([], (numR 0 512 0 (ops.map fun s => s.data.toList)).2.2) else (List.replicate (numR 0 512 0 (ops.map fun s => s.data.toList)).2.1.toNat (partW 0), 0)) := Lib.hid (by
      have hs : stmP (⟨#[46, 115, 112, 97, 99, 101]⟩ : ByteArray).data.toList = .space := by kernel_rfl
      unfold madeR
      rw [hs])
    have HRg := Lib.hid (fun h => numR_range 0 512 0 (by decide) (by decide) (ops.map fun s => s.data.toList) h)
    generalize numR 0 512 0 (ops.map fun s => s.data.toList) = q at HNu HM HRg
    obtain ⟨r, v, en⟩ := q
    simp only at HM HRg
    clear hn
    by_cases h0 : en = 0
    · subst h0
      have HM2 := Lib.hid (HM.out.trans (if_neg (by simp)))
      have hrg := HRg.out rfl
      clear HM HRg
      go_enter Tryz.func90, Tryz.ntmps90
      go_wp2_with fail
      go_quiet (fail)
      go_wp2_with fail
      refine (HNu.out _).mono ?_
      rintro e w4 ⟨rfl, hb4⟩
      have hb5 : Below w.heap.size w w4 := (HBD.out _).trans (hb4.mono (HBD.out _).size)
      obtain ⟨v0, v1, v2⟩ := hrg
      have v5 := v2 (by decide)
      obtain ⟨i0, hi0, hz0, hz1, hz2⟩ := info_parts partinfo
      clear v1 v2 hb4
      go_wp2_with fail
      go_loopw [9, 10] (fun s9 s10 wr => ∃ (k : Nat) (A9 : Option Addr) (c9 : Nat), (k : Int) ≤ v ∧ s10 = .int .i64 k ∧ s9 = .slice A9 k c9 ∧ wr.ownsRow w.heap.size 121 10 (.slice A9 k c9) k (pcells (List.replicate k (partW 0))) ∧ Below w.heap.size w wr) (fun _ s10 _ => v.toNat - (intOf s10).toNat)
      case atStart => exact ⟨0, none, 0, v0, rfl, rfl, own_nil _ _ _ _, hb5⟩
      case round =>
        obtain ⟨k, A9, c9, hk, rfl, rfl, hown, hb⟩ := hrel
        clear hb5
        by_cases hlt : (k : Int) < v
        · have HX : Hid (pcells (List.replicate k (partW 0)) ++ (cellsP (partW 0)).toList = pcells (List.replicate (k + 1) (partW 0))) := Lib.hid (by rw [List.replicate_succ', pcells_snoc])
          generalize pcells (List.replicate k (partW 0)) = X at hown HX
          go_wp2_with (at_builtin; refine wpList_append_own _ rfl (.tmp 67) (.tmp 69) _ rfl w.heap.size 121 i0 _ 10 80 Tryz.underlying115 hi0 hz0 hz1 hz2 rfl (by decide) (.slice A9 k c9) k X rfl (hown.alloc _) ⟨wr.heap.size, 0, none⟩ 1 1 (cellsP (partW 0)).toList rfl rfl (fun j u hu => new_cells wr _ _ j u hu) (by intro u hu; simp only [cellsP, partW, List.mem_cons, List.not_mem_nil, or_false] at hu; rcases hu with rfl | rfl | rfl | rfl | rfl | rfl | rfl | rfl | rfl | rfl <;> rfl) (by unfold maxLen; omega) (by omega) (Nat.le_trans hb.size (by simp)) ?_)
          intro v9 w9 hown9 hg9 _
          have hv9 : ∃ A c, v9 = .slice A (k + 1) c := by
            rcases hown9.2 with ⟨_, h⟩ | ⟨g, cap, cur, h, _⟩
            · omega
            · exact ⟨_, _, h⟩
          obtain ⟨A9', c9', rfl⟩ := hv9
          have hb9 : Below w.heap.size w w9 := (hb.alloc hb.size (.cells (cellsP (partW 0)) 121)).grown hg9 (Nat.le_trans hb.size (by simp)) (fun q hq => by have := own_from hown q hq; omega)
          have ho9 : w9.ownsRow w.heap.size 121 10 (.slice A9' (k + 1) c9') (k + 1) (pcells (List.replicate (k + 1) (partW 0))) := by
            rw [← HX.out]
            exact hown9
          clear hown9 hg9 hown hb HX
          go_wp2_with fail
          go_roundw
          case rel => exact ⟨k + 1, A9', c9', by omega, by go_num, rfl, ho9, hb9⟩
          case measure => simp [intOf]; omega
        · have hkv : v = (k : Int) := by omega
          have HM3 := Lib.hid (show _ = (List.replicate k (partW 0), 0) from HM2.out.trans (by rw [hkv]; rfl))
          clear hkv HM2
          go_wp2_with fail
          go_ret2
          rw [HM3.out]
          exact ⟨_, rfl, hb, fun _ => by simpa using hown⟩
    · have d1 : ((en : Int) == 0) = false := by rw [beq_eq_false_iff_ne]; omega
      have d2 : ((en : Int) != 0) = true := by simp; omega
      have HM2 := Lib.hid (HM.out.trans (if_pos h0))
      clear HM HRg
      go_enter Tryz.func90, Tryz.ntmps90
      go_wp2_with fail
      go_quiet (fail)
      go_wp2_with fail
      refine (HNu.out _).mono ?_
      rintro e w4 ⟨rfl, hb4⟩
      have hb5 : Below w.heap.size w w4 := (HBD.out _).trans (hb4.mono (HBD.out _).size)
      go_wp2_with fail
      go_ret2
      rw [HM2.out]
      exact made_bad rfl h0 hb5 _ _
end Go.Proofs.YtecmeegnjjhilaaGreatDoor

/- The document's made: la, and an instruction. -/
namespace Go.Proofs.YtecmeegnjjhilaaGreatDoor
open Go.RowKit
theorem made_code {w w' w2 : World} {H : Nat} {n : Int} {c : Nat} (p : Part) (hn : n = c) (hw2 : w2 = w'.alloc (.cells (cellsP p) 121)) (hb : Below w.heap.size w w') (hH : w'.heap.size = H) : MadeOut w (.returned (.tuple #[.slice (some ⟨H, 0, none⟩) 1 1, .int .i64 n])) w2 ([p], c) := by
  subst hw2 hH hn
  refine ⟨_, rfl, hb.alloc hb.size _, fun _ => ?_⟩
  have h := own_lower (own_new w' 121 10 1 (cellsP p) rfl (by unfold maxLen; omega)) hb.size
  have e : pcells [p] = (cellsP p).toList := by simp [pcells]
  rw [e]
  exact h
set_option maxHeartbeats 8000000 in
set_option maxRecDepth 100000 in
theorem made_la (A : Option Addr) (n c : Nat) (ops : List ByteArray) (hss : ∀ s ∈ ops, s.size ≤ 100000000) (hn8 : n ≤ 100000000) (w : World) (hW : StrsV w (.slice A (n + 1) c) ((⟨#[108, 97]⟩ : ByteArray) :: ops)) :
    Calls Tryz.prog 90 #[.slice A (n + 1) c] w fun e w' => MadeOut w e w' (madeR (⟨#[108, 97]⟩ : ByteArray).data.toList (ops.map fun s => s.data.toList)) := by
  obtain ⟨b, o, rfl, hx⟩ := hW.at_ 0 (⟨#[108, 97]⟩ : ByteArray) rfl
  rw [Nat.add_zero] at hx
  have hn : ops.length = n := by
    obtain ⟨_, _, e, _⟩ := hW
    injection e with _ e2 _
    simp only [List.length_cons] at e2
    omega
  have hcn : n + 1 ≤ c := by
    obtain ⟨_, _, e, h, _⟩ := hW
    injection e with _ _ e3
    simp only [List.length_cons] at h
    omega
  have hWc := hW.cut
  have hWd : ∀ k, StrsV (w.drewN k) (.slice (if c = 1 then some ⟨b, o, none⟩ else some ⟨b, o + 1, none⟩) n (c - 1)) ops := fun k => StrsV.below hWc (below_drewN (Below.refl _ _) k)
  have hbd : ∀ k, Below w.heap.size w (w.drewN k) := fun k => below_drewN (Below.refl _ _) k
  have HBD := Lib.hid hbd
  have HWD := Lib.hid hWd
  have HSS := Lib.hid hss
  clear hbd hWd hWc hss hW
  by_cases hc1 : c = 1
  · subst hc1
    obtain rfl : n = 0 := by omega
    have HW2 := Lib.hid (fun k => (show StrsV (w.drewN k) (.slice (some ⟨b, o, none⟩) 0 0) ops from HWD.out k))
    have hn0 : (0 : Nat) = 0 := rfl
    clear HWD
    have HM : Hid (madeR (⟨#[108, 97]⟩ : ByteArray).data.toList (ops.map fun s => s.data.toList) = ([], 18)) := Lib.hid (by
      have hs : stmP (⟨#[108, 97]⟩ : ByteArray).data.toList = .la := by kernel_rfl
      unfold madeR
      rw [hs]
      match ops, hn with
      | [], _ => rfl
      | [_], _ => rfl
      | [_, _], h => exact absurd h (by first | (simp; done) | (simp; omega))
      | _ :: _ :: _ :: _, _ => rfl)
    clear hn hcn
    go_enter Tryz.func90, Tryz.ntmps90
    go_wp2_with fail
    go_quiet (fail)
    go_wp2_with fail
    go_ret2
    rw [HM.out]
    exact made_bad rfl (by decide) (HBD.out _) _ _
  · have HW2 := Lib.hid (fun k => (show StrsV (w.drewN k) (.slice (some ⟨b, o + 1, none⟩) n (c - 1)) ops from by have h := HWD.out k; rw [if_neg hc1] at h; exact h))
    clear HWD
    by_cases hn2 : n = 2
    · subst hn2
      obtain ⟨x, y, rfl⟩ : ∃ x y, ops = [x, y] := by
        match ops, hn with
        | [x, y], _ => exact ⟨x, y, rfl⟩
      have HX := Lib.hid (fun B L W (hK : Kept B L W) => hK.call (RRegister_any x (HSS.out x (by simp)) W))
      have HN := Lib.hid (fun B L W (hK : Kept B L W) => hK.call (RIsName_any y (HSS.out y (by simp)) W))
      have hX15 := regP_le x.data.toList
      have HM : Hid (madeR (⟨#[108, 97]⟩ : ByteArray).data.toList ([x, y].map fun s => s.data.toList) = if regP x.data.toList < 0 ∨ ¬ nameP y.data.toList = true then ([], 18) else ([⟨⟨16, regP x.data.toList, 0, 0, 0⟩, 0, false, y.data.toList, true, 0⟩], 0)) := Lib.hid (by
        have hs : stmP (⟨#[108, 97]⟩ : ByteArray).data.toList = .la := by kernel_rfl
        unfold madeR
        rw [hs]
        rfl)
      have HS := Lib.hid (fun k W (hK : Kept (w.drewN k) [] W) => (by
        have hV := StrsV.below (HW2.out k) hK.1
        obtain ⟨b1, o1, e1, h1⟩ := hV.at_ 0 x rfl
        obtain ⟨b2, o2, e2, h2⟩ := hV.at_ 1 y rfl
        injection e1 with e1
        injection e1 with e11 e12 _
        injection e2 with e2
        injection e2 with e21 e22 _
        subst e11 e12 e21 e22
        exact ⟨h1, h2⟩ : W.cell? ⟨b, o + 1, none⟩ = some (.string x) ∧ W.cell? ⟨b, o + 1 + 1, none⟩ = some (.string y)))
      have hbl : b < w.heap.size := World.block_lt_of_cell? w _ hx
      clear hn HSS HW2
      generalize regP x.data.toList = X at HX HM hX15
      cases hnm : nameP y.data.toList with
      | false =>
        have HM2 := Lib.hid (HM.out.trans (if_pos (.inr (by rw [hnm]; decide))))
        rw [hnm] at HN
        clear HM hnm
        by_cases hx0 : X < 0
        · have d1 : decide (X < (0 : Int)) = true := by simpa using hx0
          go_enter Tryz.func90, Tryz.ntmps90
          go_wp2_with fail
          go_quiet (fail)
          have s1 : w.cell? ⟨b, o + 1, none⟩ = some (.string x) := (HS.out 0 _ (Kept.start _)).1
          have s2 : w.cell? ⟨b, o + 1 + 1, none⟩ = some (.string y) := (HS.out 0 _ (Kept.start _)).2
          go_wp2_with fail
          refine (HX.out _ _ _ (Kept.start _)).mono ?_
          rintro e w4 ⟨rfl, hK4⟩
          go_wp2_with fail
          go_ret2
          rw [HM2.out]
          exact made_bad rfl (by decide) ((HBD.out _).trans (hK4.1.mono (HBD.out _).size)) _ _
        · have d1 : decide (X < (0 : Int)) = false := by simpa using hx0
          go_enter Tryz.func90, Tryz.ntmps90
          go_wp2_with fail
          go_quiet (fail)
          have s1 : w.cell? ⟨b, o + 1, none⟩ = some (.string x) := (HS.out 0 _ (Kept.start _)).1
          have s2 : w.cell? ⟨b, o + 1 + 1, none⟩ = some (.string y) := (HS.out 0 _ (Kept.start _)).2
          go_wp2_with fail
          refine (HX.out _ _ _ (Kept.start _)).mono ?_
          rintro e w4 ⟨rfl, hK4⟩
          obtain ⟨s3, s4⟩ := HS.out _ _ hK4
          go_wp2_with fail
          refine (HN.out _ _ _ hK4).mono ?_
          rintro e w5 ⟨rfl, hK5⟩
          go_wp2_with fail
          go_ret2
          rw [HM2.out]
          exact made_bad rfl (by decide) ((HBD.out _).trans (hK5.1.mono (HBD.out _).size)) _ _
      | true =>
        rw [hnm] at HN
        by_cases hx0 : X < 0
        · have d1 : decide (X < (0 : Int)) = true := by simpa using hx0
          have HM2 := Lib.hid (HM.out.trans (if_pos (.inl hx0)))
          clear HM hnm
          go_enter Tryz.func90, Tryz.ntmps90
          go_wp2_with fail
          go_quiet (fail)
          have s1 : w.cell? ⟨b, o + 1, none⟩ = some (.string x) := (HS.out 0 _ (Kept.start _)).1
          have s2 : w.cell? ⟨b, o + 1 + 1, none⟩ = some (.string y) := (HS.out 0 _ (Kept.start _)).2
          go_wp2_with fail
          refine (HX.out _ _ _ (Kept.start _)).mono ?_
          rintro e w4 ⟨rfl, hK4⟩
          go_wp2_with fail
          go_ret2
          rw [HM2.out]
          exact made_bad rfl (by decide) ((HBD.out _).trans (hK4.1.mono (HBD.out _).size)) _ _
        · have d1 : decide (X < (0 : Int)) = false := by simpa using hx0
          have HM2 := Lib.hid (HM.out.trans (if_neg (by rw [hnm]; simpa using hx0)))
          clear HM hnm
          go_enter Tryz.func90, Tryz.ntmps90
          go_wp2_with fail
          go_quiet (fail)
          have s1 : w.cell? ⟨b, o + 1, none⟩ = some (.string x) := (HS.out 0 _ (Kept.start _)).1
          have s2 : w.cell? ⟨b, o + 1 + 1, none⟩ = some (.string y) := (HS.out 0 _ (Kept.start _)).2
          go_wp2_with fail
          refine (HX.out _ _ _ (Kept.start _)).mono ?_
          rintro e w4 ⟨rfl, hK4⟩
          obtain ⟨s3, s4⟩ := HS.out _ _ hK4
          go_wp2_with fail
          refine (HN.out _ _ _ hK4).mono ?_
          rintro e w5 ⟨rfl, hK5⟩
          obtain ⟨s5, s6⟩ := HS.out _ _ hK5
          clear s1 s2 s3 s4 hK4
          go_wp2_with fail
          clear HN s5 s6
          have hK6 : Kept w [] w5 := ⟨(HBD.out _).trans (hK5.1.mono (HBD.out _).size), fun i x h => by simp at h⟩
          have HS2 := Lib.hid (fun W (hK : Kept w [] W) => HS.out 0 W hK)
          clear HS hK5
          obtain ⟨s5, s6⟩ := HS2.out _ hK6
          go_region_held3 (fun W => W.cell? ⟨b, o + 1, none⟩ = some (.string x) ∧ W.cell? ⟨b, o + 1 + 1, none⟩ = some (.string y))
            (first | exact HS2.out _ (by first | assumption | exact Kept.drew (by assumption) | exact Kept.alloc (by assumption) _ | exact Kept.alloc (Kept.drew (by assumption)) _ | exact Kept.drew (Kept.alloc (by assumption) _)) | go_keep)
            (first
              | (go_at_call 121; refine (HX.out _ _ _ (by first | assumption | exact Kept.drew (by assumption))).mono ?_; rintro e wK ⟨rfl, hKK⟩))
          go_wp2_with fail
          go_ret2
          rw [HM2.out]
          exact made_one ⟨⟨16, X, 0, 0, 0⟩, 0, false, y.data.toList, true, 0⟩ rfl hKK.1 rfl
    · have HM : Hid (madeR (⟨#[108, 97]⟩ : ByteArray).data.toList (ops.map fun s => s.data.toList) = ([], 18)) := Lib.hid (by
        have hs : stmP (⟨#[108, 97]⟩ : ByteArray).data.toList = .la := by kernel_rfl
        unfold madeR
        rw [hs]
        match ops, hn with
        | [], _ => rfl
        | [_], _ => rfl
        | [_, _], h => exact absurd h (by first | (simp; done) | (simp; omega))
        | _ :: _ :: _ :: _, _ => rfl)
      clear hn hcn
      go_enter Tryz.func90, Tryz.ntmps90
      go_wp2_with fail
      go_quiet (fail)
      go_wp2_with fail
      go_ret2
      rw [HM.out]
      exact made_bad rfl (by decide) (HBD.out _) _ _
set_option maxHeartbeats 8000000 in
set_option maxRecDepth 100000 in
theorem made_ins (x : ByteArray) (n1 : x.data.toList ≠ wNop) (n2 : x.data.toList ≠ wLi) (n3 : x.data.toList ≠ wLa) (n4 : x.data.toList ≠ wWord) (n5 : x.data.toList ≠ wSpace) (A : Option Addr) (n c : Nat) (ops : List ByteArray) (hss : ∀ s ∈ ops, s.size ≤ 100000000) (hn8 : n ≤ 100000000) (w : World) (hW : StrsV w (.slice A (n + 1) c) (x :: ops)) :
    Calls Tryz.prog 90 #[.slice A (n + 1) c] w fun e w' => MadeOut w e w' (madeR x.data.toList (ops.map fun s => s.data.toList)) := by
  obtain ⟨b, o, rfl, hx⟩ := hW.at_ 0 x rfl
  rw [Nat.add_zero] at hx
  have hn : ops.length = n := by
    obtain ⟨_, _, e, _⟩ := hW
    injection e with _ e2 _
    simp only [List.length_cons] at e2
    omega
  have hcn : n + 1 ≤ c := by
    obtain ⟨_, _, e, h, _⟩ := hW
    injection e with _ _ e3
    simp only [List.length_cons] at h
    omega
  have hWc := hW.cut
  have hWd : ∀ k, StrsV (w.drewN k) (.slice (if c = 1 then some ⟨b, o, none⟩ else some ⟨b, o + 1, none⟩) n (c - 1)) ops := fun k => StrsV.below hWc (below_drewN (Below.refl _ _) k)
  have hbd : ∀ k, Below w.heap.size w (w.drewN k) := fun k => below_drewN (Below.refl _ _) k
  have HBD := Lib.hid hbd
  have HWD := Lib.hid hWd
  have HSS := Lib.hid hss
  clear hbd hWd hWc hss hW
  have e1 := neq_words x _ n1
  have e2 := neq_words x _ n2
  have e3 := neq_words x _ n3
  have e4 := neq_words x _ n4
  have e5 := neq_words x _ n5
  unfold wNop at e1
  unfold wLi at e2
  unfold wLa at e3
  unfold wWord at e4
  unfold wSpace at e5
  have HSt : Hid (stmP x.data.toList = if (wordRow x.data.toList).op = 0 then .bad else .ins (wordRow x.data.toList).op) := Lib.hid (by
    unfold stmP
    rw [if_neg n1, if_neg n2, if_neg n3, if_neg n4, if_neg n5])
  clear n1 n2 n3 n4 n5
  by_cases hc1 : c = 1
  · subst hc1
    obtain rfl : n = 0 := by omega
    have HW2 := Lib.hid (fun k => (show StrsV (w.drewN k) (.slice (some ⟨b, o, none⟩) 0 0) ops from HWD.out k))
    have hn0 : (0 : Nat) = 0 := rfl
    clear HWD
    have HPl := Lib.hid (fun W (h : StrsV W (.slice (some ⟨b, o, none⟩) 0 0) ops) => plain_any (wordRow x.data.toList).op (some ⟨b, o, none⟩) 0 0 ops HSS.out (by omega) W h)
    have HNu := Lib.hid (fun W => RNumber_any x W)
    clear hn HSS hcn
    by_cases h0 : (wordRow x.data.toList).op = 0
    · have HM2 : Hid (madeR x.data.toList (ops.map fun s => s.data.toList) = ([], 18)) := Lib.hid (by
        have := HSt.out
        rw [if_pos h0] at this
        unfold madeR
        rw [this])
      rw [h0] at HNu
      clear HSt h0 HPl
      go_enter Tryz.func90, Tryz.ntmps90
      go_wp2_with fail
      go_quiet (fail)
      go_wp2_with fail
      refine (HNu.out _).mono ?_
      rintro e w4 ⟨rfl, rfl⟩
      go_wp2_with fail
      go_ret2
      rw [HM2.out]
      exact made_bad rfl (by decide) (HBD.out _) _ _
    · have HM2 : Hid (madeR x.data.toList (ops.map fun s => s.data.toList) = ([(plainR (wordRow x.data.toList).op (ops.map fun s => s.data.toList)).1], (plainR (wordRow x.data.toList).op (ops.map fun s => s.data.toList)).2)) := Lib.hid (by
        have := HSt.out
        rw [if_neg h0] at this
        unfold madeR
        rw [this])
      have d0 : ((wordRow x.data.toList).op == 0) = false := by simpa using h0
      clear HSt
      generalize plainR (wordRow x.data.toList).op (ops.map fun s => s.data.toList) = q at HM2 HPl
      obtain ⟨pt, en⟩ := q
      generalize (wordRow x.data.toList).op = op at HNu HPl h0 d0
      go_enter Tryz.func90, Tryz.ntmps90
      go_wp2_with fail
      go_quiet (fail)
      go_wp2_with fail
      refine (HNu.out _).mono ?_
      rintro e w4 ⟨rfl, rfl⟩
      go_wp2_with fail
      refine (HPl.out _ (HW2.out _)).mono ?_
      rintro e w5 ⟨rfl, hb5⟩
      have hb6 : Below w.heap.size w w5 := (HBD.out _).trans (hb5.mono (HBD.out _).size)
      clear HPl HNu hb5
      unfold cellsP
      go_wp2_with fail
      go_ret2
      rw [HM2.out]
      exact made_code pt rfl rfl (hb6.alloc hb6.size _) (by simp)
  · have HW2 := Lib.hid (fun k => (show StrsV (w.drewN k) (.slice (some ⟨b, o + 1, none⟩) n (c - 1)) ops from by have h := HWD.out k; rw [if_neg hc1] at h; exact h))
    clear HWD
    have HPl := Lib.hid (fun W (h : StrsV W (.slice (some ⟨b, o + 1, none⟩) n (c - 1)) ops) => plain_any (wordRow x.data.toList).op (some ⟨b, o + 1, none⟩) n (c - 1) ops HSS.out (by omega) W h)
    have HNu := Lib.hid (fun W => RNumber_any x W)
    clear hn HSS hcn
    by_cases h0 : (wordRow x.data.toList).op = 0
    · have HM2 : Hid (madeR x.data.toList (ops.map fun s => s.data.toList) = ([], 18)) := Lib.hid (by
        have := HSt.out
        rw [if_pos h0] at this
        unfold madeR
        rw [this])
      rw [h0] at HNu
      clear HSt h0 HPl
      go_enter Tryz.func90, Tryz.ntmps90
      go_wp2_with fail
      go_quiet (fail)
      go_wp2_with fail
      refine (HNu.out _).mono ?_
      rintro e w4 ⟨rfl, rfl⟩
      go_wp2_with fail
      go_ret2
      rw [HM2.out]
      exact made_bad rfl (by decide) (HBD.out _) _ _
    · have HM2 : Hid (madeR x.data.toList (ops.map fun s => s.data.toList) = ([(plainR (wordRow x.data.toList).op (ops.map fun s => s.data.toList)).1], (plainR (wordRow x.data.toList).op (ops.map fun s => s.data.toList)).2)) := Lib.hid (by
        have := HSt.out
        rw [if_neg h0] at this
        unfold madeR
        rw [this])
      have d0 : ((wordRow x.data.toList).op == 0) = false := by simpa using h0
      clear HSt
      generalize plainR (wordRow x.data.toList).op (ops.map fun s => s.data.toList) = q at HM2 HPl
      obtain ⟨pt, en⟩ := q
      generalize (wordRow x.data.toList).op = op at HNu HPl h0 d0
      go_enter Tryz.func90, Tryz.ntmps90
      go_wp2_with fail
      go_quiet (fail)
      go_wp2_with fail
      refine (HNu.out _).mono ?_
      rintro e w4 ⟨rfl, rfl⟩
      go_wp2_with fail
      refine (HPl.out _ (HW2.out _)).mono ?_
      rintro e w5 ⟨rfl, hb5⟩
      have hb6 : Below w.heap.size w w5 := (HBD.out _).trans (hb5.mono (HBD.out _).size)
      clear HPl HNu hb5
      unfold cellsP
      go_wp2_with fail
      go_ret2
      rw [HM2.out]
      exact made_code pt rfl rfl (hb6.alloc hb6.size _) (by simp)
theorem made_any (x : ByteArray) (A : Option Addr) (n c : Nat) (ops : List ByteArray) (hss : ∀ s ∈ ops, s.size ≤ 100000000) (hn8 : n ≤ 100000000) (w : World) (hW : StrsV w (.slice A (n + 1) c) (x :: ops)) :
    Calls Tryz.prog 90 #[.slice A (n + 1) c] w fun e w' => MadeOut w e w' (madeR x.data.toList (ops.map fun s => s.data.toList)) := by
  by_cases n1 : x.data.toList = wNop
  · obtain ⟨⟨l⟩⟩ := x
    simp only at n1
    subst n1
    exact made_nop A n c ops hss hn8 w hW
  by_cases n2 : x.data.toList = wLi
  · obtain ⟨⟨l⟩⟩ := x
    simp only at n2
    subst n2
    exact made_li A n c ops hss hn8 w hW
  by_cases n3 : x.data.toList = wLa
  · obtain ⟨⟨l⟩⟩ := x
    simp only at n3
    subst n3
    exact made_la A n c ops hss hn8 w hW
  by_cases n4 : x.data.toList = wWord
  · obtain ⟨⟨l⟩⟩ := x
    simp only at n4
    subst n4
    exact made_word A n c ops hss hn8 w hW
  by_cases n5 : x.data.toList = wSpace
  · obtain ⟨⟨l⟩⟩ := x
    simp only at n5
    subst n5
    exact made_space A n c ops hss hn8 w hW
  exact made_ins x n1 n2 n3 n4 n5 A n c ops hss hn8 w hW
end Go.Proofs.YtecmeegnjjhilaaGreatDoor

/- The document's place: where a label stands. -/
namespace Go.Proofs.YtecmeegnjjhilaaGreatDoor
open Go.RowKit
/-- The label's first address. -/
def firstL (ls : List (List UInt8 × Int)) (l : List UInt8) : Option Int := (ls.find? (fun x => x.1 == l)).map (·.2)
theorem first_none {ls : List (List UInt8 × Int)} {l : List UInt8} (h : ∀ x ∈ ls, x.1 ≠ l) : firstL ls l = none := by
  unfold firstL
  rw [List.find?_eq_none.2 (fun x hx => by simpa using h x hx)]
  rfl
theorem first_at {ls : List (List UInt8 × Int)} {l : List UInt8} {k : Nat} {y : List UInt8 × Int} (hk : ls[k]? = some y) (hy : y.1 = l) (h : ∀ i x, i < k → ls[i]? = some x → x.1 ≠ l) : firstL ls l = some y.2 := by
  unfold firstL
  obtain ⟨hl, he⟩ := List.getElem?_eq_some_iff.1 hk
  have e : ls = ls.take k ++ y :: ls.drop (k + 1) := by
    rw [← he, ← List.drop_eq_getElem_cons hl, List.take_append_drop]
  rw [e, List.find?_append, List.find?_eq_none.2 (fun x hx => by
    obtain ⟨i, hi, hx2⟩ := List.getElem_of_mem hx
    rw [List.length_take] at hi
    have h2 : ls[i]? = some x := by
      rw [List.getElem_take] at hx2
      rw [← hx2]
      exact List.getElem?_eq_getElem (by omega)
    simpa using h i x (by omega) h2)]
  simp [hy]
/-- The labels' names are all different. -/
def Diff (ls : List (List UInt8 × Int)) : Prop := (ls.map (·.1)).Nodup
theorem first_look (ls : List (List UInt8 × Int)) (h : Diff ls) (l : List UInt8) : firstL ls l = lookL ls l := by
  induction ls with
  | nil => rfl
  | cons x r ih =>
    have h2 : x.1 ∉ r.map (·.1) ∧ Diff r := by simpa [Diff] using h
    have ihr := ih h2.2
    have e : lookL (x :: r) l = (lookL r l).or (if x.1 = l then some x.2 else none) := by
      unfold lookL
      rw [List.reverse_cons, List.find?_append]
      cases hf : r.reverse.find? (fun x => x.1 == l) with
      | some y => simp
      | none =>
        by_cases hx : x.1 = l
        · simp [hx]
        · simp [hx]
    rw [e, ← ihr]
    unfold firstL
    rw [List.find?_cons]
    by_cases hx : x.1 = l
    · have hn : r.find? (fun x => x.1 == l) = none := List.find?_eq_none.2 (fun y hy => by
        simp only [beq_iff_eq]
        intro hyl
        exact h2.1 (List.mem_map.2 ⟨y, hy, by rw [hyl, hx]⟩))
      rw [hn]
      simp [hx]
    · have hx2 : (x.1 == l) = false := by simpa using hx
      simp [hx2, hx]
theorem diff_snoc {ls : List (List UInt8 × Int)} (h : Diff ls) {x : List UInt8 × Int} (hx : (lookL ls x.1).isSome = false) : Diff (ls ++ [x]) := by
  unfold Diff at h ⊢
  rw [List.map_append, List.nodup_append]
  refine ⟨h, by simp, fun a ha b hb => ?_⟩
  simp only [List.map_cons, List.map_nil, List.mem_cons, List.not_mem_nil, or_false] at hb
  subst hb
  rintro rfl
  rw [← first_look ls h] at hx
  obtain ⟨y, hy, hyx⟩ := List.mem_map.1 ha
  unfold firstL at hx
  cases hf : ls.find? (fun z => z.1 == x.1) with
  | none =>
    have := List.find?_eq_none.1 hf y hy
    simp [hyx] at this
  | some z => rw [hf] at hx; cases hx
def namesB (ls : List (List UInt8 × Int)) : List ByteArray := ls.map fun x => ⟨x.1.toArray⟩

set_option maxHeartbeats 8000000 in
set_option maxRecDepth 100000 in
theorem place_any (G : Nat) (vp : Value) (A1 : Option Addr) (c1 : Nat) (A2 : Option Addr) (c2 : Nat) (ls : List (List UInt8 × Int)) (hl : ls.length ≤ 8000000000000) (l : ByteArray) (w : World)
    (hG : Blk w G 118 #[vp, .slice A1 ls.length c1, .slice A2 ls.length c2]) (hN : StrsV w (.slice A1 ls.length c1) (namesB ls)) (hP : NumsAt w .i64 A2 ls.length (ls.map (·.2))) :
    Calls Tryz.prog 62 #[.pointer (some ⟨G, 0, none⟩), .string l] w fun e w' => e = .returned (.int .i64 ((firstL ls l.data.toList).getD (-1))) ∧ w = w' := by
  have g1 : w.cell? ⟨G, 1, none⟩ = some (.slice A1 ls.length c1) := hG.cell 1
  have g2 : w.cell? ⟨G, 2, none⟩ = some (.slice A2 ls.length c2) := hG.cell 2
  have HNm := Lib.hid (fun (k : Nat) (y : List UInt8 × Int) (hy : ls[k]? = some y) => hN.at_ k ⟨y.1.toArray⟩ (by rw [namesB, List.getElem?_map, hy]; rfl))
  have HPm := Lib.hid (fun (k : Nat) (y : List UInt8 × Int) (hy : ls[k]? = some y) => (show ∃ b o, A2 = some ⟨b, o, none⟩ ∧ w.cell? ⟨b, o + k, none⟩ = some (.int .i64 y.2) from by
    have hk := (List.getElem?_eq_some_iff.1 hy).1
    obtain ⟨b, o, e, h⟩ := hP.2 (by omega)
    exact ⟨b, o, e, h k y.2 (by rw [List.getElem?_map, hy]; rfl)⟩))
  have HLs := Lib.hid (fun (k : Nat) (hk : k < ls.length) => (⟨_, List.getElem?_eq_getElem hk⟩ : ∃ y, ls[k]? = some y))
  have HB := Lib.hid (fun (h : ∀ (i : Nat) (x : List UInt8 × Int), i < ls.length → ls[i]? = some x → x.1 ≠ l.data.toList) => first_none (ls := ls) (l := l.data.toList) (fun x hx => by
    obtain ⟨i, hi, e⟩ := List.getElem_of_mem hx
    exact h i x hi (by rw [← e]; exact List.getElem?_eq_getElem hi)))
  have HA := Lib.hid (fun (k : Nat) (y : List UInt8 × Int) (h1 : ls[k]? = some y) (h2 : y.1 = l.data.toList) h3 => first_at h1 h2 h3)
  generalize hR : firstL ls l.data.toList = R at HA HB
  clear hR hG hN hP
  generalize hn : ls.length = n at g1 g2 HLs HB hl
  clear hn
  go_enter Tryz.func62, Tryz.ntmps62
  go_wp2_with fail
  go_loop [5] (fun s5 => ∃ k : Nat, k ≤ n ∧ s5 = .int .i64 k ∧ Hid (∀ (i : Nat) (x : List UInt8 × Int), i < k → ls[i]? = some x → x.1 ≠ l.data.toList)) (fun s5 => n - (intOf s5).toNat)
  case atStart => exact ⟨0, by omega, rfl, Lib.hid (fun i x h => by omega)⟩
  case round =>
    obtain ⟨k, hk, rfl, HK⟩ := hrel
    by_cases hlt : k < n
    · obtain ⟨y, hy⟩ := HLs.out k hlt
      obtain ⟨b, o, rfl, hc⟩ := HNm.out k y hy
      obtain ⟨b2, o2, rfl, hc2⟩ := HPm.out k y hy
      obtain ⟨Y, hY⟩ : ∃ Y : ByteArray, (⟨y.1.toArray⟩ : ByteArray) = Y := ⟨_, rfl⟩
      have HYd : Hid (Y.data.toList = y.1) := Lib.hid (by rw [← hY])
      rw [hY] at hc
      by_cases he : y.1 = l.data.toList
      · have hq : (Y.toList == l.toList) = true := by rw [ByteArray.toList_eq, ByteArray.toList_eq, HYd.out, beq_iff_eq]; exact he
        have HQ : Hid (R = some y.2) := Lib.hid (HA.out k y hy he HK.out)
        clear he HYd HK hy hY HA HB HLs HNm HPm
        go_wp2_with fail
        go_ret
        exact ⟨by rw [HQ.out]; rfl, rfl⟩
      · have hq : (Y.toList == l.toList) = false := by rw [ByteArray.toList_eq, ByteArray.toList_eq, HYd.out, beq_eq_false_iff_ne]; exact he
        have HK2 : Hid (∀ (i : Nat) (x : List UInt8 × Int), i < k + 1 → ls[i]? = some x → x.1 ≠ l.data.toList) := Lib.hid (fun i x hi hx => by
          by_cases e : i = k
          · subst e
            rw [hy] at hx
            injection hx with hx
            rw [← hx]
            exact he
          · exact HK.out i x (by omega) hx)
        clear he HYd HK hy hY HA HB HLs HNm HPm
        go_wp2_with fail
        go_round
        case rel => exact ⟨k + 1, by omega, by go_num, HK2.out⟩
        case measure => simp [intOf]; omega
    · obtain rfl : k = n := by omega
      have HQ : Hid (R = none) := Lib.hid (HB.out HK.out)
      clear HK HA HB HLs HNm HPm
      go_wp2_with fail
      go_ret
      exact ⟨by rw [HQ.out]; rfl, rfl⟩
end Go.Proofs.YtecmeegnjjhilaaGreatDoor

/- What the document's assembler holds in memory: its parts, names and places; what a step keeps. -/
namespace Go.Proofs.YtecmeegnjjhilaaGreatDoor
open Go.RowKit
/-- The program's block and its three rows. -/
structure Pr (w : World) (M : Nat) (vp vn vl : Value) (np nn nl : Nat) (ps ns ls : List Value) : Prop where
  blk : Blk w M 118 #[vp, vn, vl]
  parts : w.ownsRow (M + 1) 121 10 vp np ps
  names : w.ownsRow (M + 1) 9 1 vn nn ns
  places : w.ownsRow (M + 1) 3 1 vl nl ls
section
variable {w w' : World} {M : Nat} {vp vn vl : Value} {np nn nl : Nat} {ps ns ls : List Value}
theorem Pr.below (h : Pr w M vp vn vl np nn nl ps ns ls) (hb : Below w.heap.size w w') : Pr w' M vp vn vl np nn nl ps ns ls :=
  ⟨h.blk.below hb h.blk.lt, own_below h.parts hb, own_below h.names hb, own_below h.places hb⟩
theorem own_store {base n size : Nat} {e : TypeId} {v : Value} {xs : List Value} (h : w.ownsRow base e size v n xs) {b : Nat} (hb : b < base) (i : Nat) (u : Value) : (w.setCell ⟨b, i, none⟩ u).ownsRow base e size v n xs := by
  refine ⟨h.1, ?_⟩
  rcases h.2 with hn | ⟨g, cap, cur, rfl, hg, hgg, rest⟩
  · exact .inl hn
  · exact .inr ⟨g, cap, cur, rfl, hg, (show Blk (w.setCell ⟨b, i, none⟩ u) g e cur from (show Blk w g e cur from hgg).far (p := ⟨b, i, none⟩) (by simp only; omega) u), rest⟩
theorem Pr.put_names (h : Pr w M vp vn vl np nn nl ps ns ls) (hg : w.grownBy w' vn.ownBlock) {vn' : Value} {nn' : Nat} {ns' : List Value} (ho : w'.ownsRow (M + 1) 9 1 vn' nn' ns') :
    Pr (w'.setCell ⟨M, 1, none⟩ vn') M vp vn' vl np nn' nl ps ns' ls := by
  have hB := h.blk.grown hg (own_apart_base h.names (by omega))
  exact ⟨hB.store 1 vn', own_store (h.parts.kept hg (own_ne h.parts h.names (by decide))) (by omega) 1 vn', own_store ho (by omega) 1 vn', own_store (h.places.kept hg (own_ne h.places h.names (by decide))) (by omega) 1 vn'⟩
theorem Pr.put_places (h : Pr w M vp vn vl np nn nl ps ns ls) (hg : w.grownBy w' vl.ownBlock) {vl' : Value} {nl' : Nat} {ls' : List Value} (ho : w'.ownsRow (M + 1) 3 1 vl' nl' ls') :
    Pr (w'.setCell ⟨M, 2, none⟩ vl') M vp vn vl' np nn nl' ps ns ls' := by
  have hB := h.blk.grown hg (own_apart_base h.places (by omega))
  exact ⟨hB.store 2 vl', own_store (h.parts.kept hg (own_ne h.parts h.places (by decide))) (by omega) 2 vl', own_store (h.names.kept hg (own_ne h.names h.places (by decide))) (by omega) 2 vl', own_store ho (by omega) 2 vl'⟩
theorem Pr.put_parts (h : Pr w M vp vn vl np nn nl ps ns ls) (hg : w.grownBy w' vp.ownBlock) {vp' : Value} {np' : Nat} {ps' : List Value} (ho : w'.ownsRow (M + 1) 121 10 vp' np' ps') :
    Pr (w'.setCell ⟨M, 0, none⟩ vp') M vp' vn vl np' nn nl ps' ns ls := by
  have hB := h.blk.grown hg (own_apart_base h.parts (by omega))
  exact ⟨hB.store 0 vp', own_store ho (by omega) 0 vp', own_store (h.names.kept hg (own_ne h.names h.parts (by decide))) (by omega) 0 vp', own_store (h.places.kept hg (own_ne h.places h.parts (by decide))) (by omega) 0 vp'⟩
end
/-- The blocks of texts of world a, but the names' own, are whole in w, and none of them is the names' own there. -/
def KeepS (a w : World) (nb nb' : Option Nat) : Prop := a.heap.size ≤ w.heap.size ∧ ∀ (q : Nat) (cs : Array Value), Blk a q 9 cs → some q ≠ nb → Blk w q 9 cs ∧ some q ≠ nb'
section
variable {a w w' : World} {nb nb' : Option Nat}
theorem KeepS.refl (w : World) (nb : Option Nat) : KeepS w w nb nb := ⟨Nat.le_refl _, fun _ _ h hn => ⟨h, hn⟩⟩
theorem KeepS.below (k : KeepS a w nb nb') (hb : Below w.heap.size w w') : KeepS a w' nb nb' := ⟨Nat.le_trans k.1 hb.size, fun q cs h hn => ⟨(k.2 q cs h hn).1.below hb (k.2 q cs h hn).1.lt, (k.2 q cs h hn).2⟩⟩
theorem KeepS.store (k : KeepS a w nb nb') {B : Nat} {t : TypeId} {cs : Array Value} (hB : Blk w B t cs) (ht : 9 ≠ t) (i : Nat) (u : Value) : KeepS a (w.setCell ⟨B, i, none⟩ u) nb nb' :=
  ⟨Nat.le_trans k.1 (by simp), fun q cs' h hn => ⟨(k.2 q cs' h hn).1.far (p := ⟨B, i, none⟩) ((k.2 q cs' h hn).1.apart hB ht) u, (k.2 q cs' h hn).2⟩⟩
/-- The names have grown. -/
theorem KeepS.names (k : KeepS a w nb nb') (hg : w.grownBy w' nb') {nb2 : Option Nat} (h2 : nb2 = nb' ∨ nb2 = some w.heap.size) : KeepS a w' nb nb2 :=
  ⟨Nat.le_trans k.1 hg.size, fun q cs h hn => ⟨(k.2 q cs h hn).1.grown hg (k.2 q cs h hn).2, by
    rcases h2 with rfl | rfl
    · exact (k.2 q cs h hn).2
    · intro e
      injection e with e
      have := (k.2 q cs h hn).1.lt
      omega⟩⟩
/-- Another row has grown. -/
theorem KeepS.other (k : KeepS a w nb nb') {base size n : Nat} {e : TypeId} {v : Value} {xs : List Value} (ho : w.ownsRow base e size v n xs) (hne : e ≠ 9) (hg : w.grownBy w' v.ownBlock) : KeepS a w' nb nb' :=
  ⟨Nat.le_trans k.1 hg.size, fun q cs h hn => ⟨(k.2 q cs h hn).1.grown hg (own_apart ho (k.2 q cs h hn).1 hne), (k.2 q cs h hn).2⟩⟩
/-- A slice that reads as texts, in blocks that are not the names' own. -/
def StrsA (w : World) (nb : Option Nat) (v : Value) (ss : List ByteArray) : Prop :=
  ∃ A c, v = .slice A ss.length c ∧ ss.length ≤ c ∧ (0 < ss.length → ∃ b o cur, A = some ⟨b, o, none⟩ ∧ Blk w b 9 cur ∧ some b ≠ nb ∧ ∀ (i : Nat) (s : ByteArray), ss[i]? = some s → cur[o + i]? = some (.string s))
theorem StrsA.strs {v : Value} {ss : List ByteArray} (h : StrsA w nb v ss) : StrsV w v ss := by
  obtain ⟨A, c, e, hc, hs⟩ := h
  refine ⟨A, c, e, hc, fun hn => ?_⟩
  obtain ⟨b, o, cur, hA, hB, _, hcur⟩ := hs hn
  exact ⟨b, o, cur, hA, hB, hcur⟩
theorem StrsA.keep {v : Value} {ss : List ByteArray} (h : StrsA a nb v ss) (k : KeepS a w nb nb') : StrsA w nb' v ss := by
  obtain ⟨A, c, e, hc, hs⟩ := h
  refine ⟨A, c, e, hc, fun hn => ?_⟩
  obtain ⟨b, o, cur, hA, hB, hq, hcur⟩ := hs hn
  exact ⟨b, o, cur, hA, (k.2 b cur hB hq).1, (k.2 b cur hB hq).2, hcur⟩
theorem StrsA.cut {b o n c : Nat} {x : ByteArray} {r : List ByteArray} (h : StrsA w nb (.slice (some ⟨b, o, none⟩) (n + 1) c) (x :: r)) :
    StrsA w nb (.slice (if c = 1 then some ⟨b, o, none⟩ else some ⟨b, o + 1, none⟩) n (c - 1)) r := by
  obtain ⟨A', c', e, hc, hs⟩ := h
  injection e with e1 e2 e3
  subst e1 e3
  simp only [List.length_cons] at e2 hc hs
  have e4 : r.length = n := by omega
  refine ⟨_, c - 1, by rw [e4], by omega, fun hn => ?_⟩
  rw [if_neg (by omega)]
  obtain ⟨b', o', cur, e5, hB, hq, hcur⟩ := hs (by omega)
  injection e5 with e5
  injection e5 with e6 e7 _
  subst e6 e7
  refine ⟨b, o + 1, cur, rfl, hB, hq, fun i s hi => ?_⟩
  rw [Nat.add_assoc, Nat.add_comm 1 i]
  exact hcur (i + 1) s (by simpa using hi)
end
theorem last_colon (x : ByteArray) (p : x.size - 1 < x.size) : Lib.hasSuffix x.data.toList [58] = ((x[x.size - 1]'p).toNat == 58) := by
  have hb := byte_at x (x.size - 1) p
  have hz := Lib.size_eq x
  generalize x[x.size - 1]'p = c at hb
  rcases List.eq_nil_or_concat x.data.toList with h | ⟨l, y, h⟩
  · rw [h, List.length_nil] at hz
    omega
  · rw [h] at hz hb ⊢
    have hl : x.size - 1 = l.length := by simp at hz; omega
    rw [hl] at hb
    simp at hb
    subst hb
    unfold Lib.hasSuffix
    rw [Bool.eq_iff_iff, List.isSuffixOf_iff_suffix]
    constructor
    · rintro ⟨t, ht⟩
      have := congrArg List.getLast? ht
      simp at this
      rw [← this]
      rfl
    · intro hc
      have : y = 58 := UInt8.toNat_inj.1 (by simpa using hc)
      rw [this]
      exact ⟨l, by simp⟩
theorem trim_colon (x : ByteArray) (h : Lib.hasSuffix x.data.toList [58] = true) : (x.extract 0 (x.size - 1)).data.toList = Lib.trimSuffix x.data.toList [58] := by
  rw [Lib.extract_data]
  unfold Lib.trimSuffix
  rw [if_pos h, Lib.size_eq]
  simp
theorem words_ne (l acc : List UInt8) : ∀ x ∈ wordsGo l acc, x ≠ [] := by
  induction l generalizing acc with
  | nil =>
    intro x hx
    unfold wordsGo at hx
    split at hx
    · simp at hx
    · rename_i h
      simp only [List.mem_cons, List.not_mem_nil, or_false] at hx
      rw [hx]
      exact h
  | cons c l ih =>
    intro x hx
    unfold wordsGo at hx
    split at hx
    · split at hx
      · exact ih [] x hx
      · rename_i h
        rcases List.mem_cons.1 hx with hx | hx
        · rw [hx]
          exact h
        · exact ih [] x hx
    · exact ih _ x hx
end Go.Proofs.YtecmeegnjjhilaaGreatDoor
