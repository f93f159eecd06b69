/- The document's assembler comes to the program's: instructions, lines, the second pass. Plain. -/
import Derived.Test.YtecmeegnjjhilaaGreatDoorAsmRM
import Derived.Test.YtecmeegnjjhilaaGreatDoorFields
import Derived.Test.YtecmeegnjjhilaaGreatDoorSameM
import Derived.Test.YtecmeegnjjhilaaGreatDoorRAsmM
import Derived.Test.YtecmeegnjjhilaaGreatDoorAsm
import Derived.Test.YtecmeegnjjhilaaGreatDoorSource
import Derived.Test.YtecmeegnjjhilaaGreatDoorListWM
namespace Go.Proofs.YtecmeegnjjhilaaGreatDoor
open Go.RowKit
def jumpB (op : Int) : Bool := decide (48 ≤ op) && decide (op ≤ 54)
theorem form_seven (op : Int) (hf : formOf op ≠ 0) : formOf op = 1 ∨ formOf op = 2 ∨ formOf op = 3 ∨ formOf op = 4 ∨ formOf op = 5 ∨ formOf op = 6 ∨ formOf op = 7 := by
  have := form_range op
  omega
theorem kinds_fields (op : Int) (hf : formOf op ≠ 0) : kindsP (.ins op) = (fieldsR (formOf op)).map fun c => if c = 73 ∨ c = 85 then immK (loR op) (hiR op) (jumpB op) else regK := by
  unfold kindsP loR hiR
  simp only
  rw [show (decide (48 ≤ op) && decide (op ≤ 54)) = jumpB op from rfl]
  generalize jumpB op = j
  rcases form_seven op hf with h | h | h | h | h | h | h
  all_goals
    rw [h]
    rfl
def EndLike (op : Int) (at_ : Nat) (num : Int) (ls : List Late) (r : Part × Nat) (q : List Int × List Late × Nat) : Prop :=
  r.2 = q.2.2 ∧ (r.2 = 0 → r.1.fixed = false ∧ r.1.ins = insOf op q.1 ∧ ls ++ lateOf at_ { r.1 with line := num } = q.2.1 ∧ (r.1.label ≠ [] → r.1.ins.imm = 0 ∧ jumpB op = true))
theorem like_reg (lo hi op : Int) (at_ : Nat) (num : Int) (ls : List Late) (c : UInt8) (hc : ¬(c = 73 ∨ c = 85)) (w : List UInt8) (r : List (UInt8 × List UInt8)) (rk : List (Kind × List UInt8)) (p : Part) (vs : List Int)
    (h : EndLike op at_ num ls (goR lo hi op r { p with ins := setF p.ins c (regP w) }) (opsP at_ num rk (vs ++ [regP w]) ls)) :
    EndLike op at_ num ls (goR lo hi op ((c, w) :: r) p) (opsP at_ num ((regK, w) :: rk) vs ls) := by
  rw [goR, if_neg hc, opsP, opd_reg_cases]
  by_cases h0 : regP w < 0
  · rw [if_pos h0, if_pos h0]
    exact ⟨rfl, fun h => by cases h⟩
  · rw [if_neg h0, if_neg h0]
    exact h
theorem like_end (op : Int) (at_ : Nat) (num : Int) (ls : List Late) (lo hi : Int) (p : Part) (vs : List Int) (h1 : p.fixed = false) (h2 : p.label = []) (h3 : p.ins = insOf op vs) : EndLike op at_ num ls (goR lo hi op [] p) (opsP at_ num [] vs ls) :=
  ⟨rfl, fun _ => ⟨h1, h3, by unfold lateOf; rw [if_neg (fun h => h.2 h2)]; simp [opsP], fun h => absurd h2 h⟩⟩
theorem like_imm (op : Int) (at_ : Nat) (num : Int) (ls : List Late) (lo hi : Int) (c : UInt8) (hc : c = 73 ∨ c = 85) (w : List UInt8) (p : Part) (vs : List Int) (h1 : p.fixed = false) (h2 : p.far = false)
    (h3 : ∀ n, { p.ins with imm := n } = insOf op (vs ++ [n])) : EndLike op at_ num ls (goR lo hi op [(c, w)] p) (opsP at_ num [(immK lo hi (jumpB op), w)] vs ls) := by
  rw [goR, if_pos hc, opsP, opd_imm_cases]
  unfold immR
  by_cases hv : (valP w).2 = true
  · simp only [if_pos hv]
    by_cases hr : (valP w).1 < lo ∨ hi < (valP w).1
    · simp only [if_pos hr]
      exact ⟨rfl, fun h => by cases h⟩
    · simp only [if_neg hr, ne_eq, not_true_eq_false, if_false, goR, opsP]
      refine ⟨rfl, fun _ => ⟨h1, h3 _, ?_, fun h => absurd rfl h⟩⟩
      unfold lateOf
      simp only
      rw [if_neg (fun h => h.2 rfl), List.append_nil]
  · simp only [if_neg hv]
    by_cases hj : jumpB op = true ∧ nameP w = true
    · have hj2 : (48 ≤ op ∧ op ≤ 54) ∧ nameP w = true := by
        refine ⟨?_, hj.2⟩
        have := hj.1
        unfold jumpB at this
        simpa using this
      simp only [if_pos hj, if_pos hj2, ne_eq, not_true_eq_false, if_false, goR, opsP]
      refine ⟨rfl, fun _ => ⟨h1, h3 _, ?_, fun _ => ⟨rfl, hj.1⟩⟩⟩
      unfold lateOf
      simp only
      rw [if_pos ⟨h1, name_ne hj.2⟩, h2, hj.1]
      rfl
    · have hj2 : ¬((48 ≤ op ∧ op ≤ 54) ∧ nameP w = true) := by
        rintro ⟨h1, h2⟩
        refine hj ⟨?_, h2⟩
        unfold jumpB
        simpa using h1
      simp only [if_neg hj, if_neg hj2]
      exact ⟨rfl, fun h => by cases h⟩
theorem plain_like (op : Int) (hf : formOf op ≠ 0) (l : List (List UInt8)) (at_ : Nat) (num : Int) (ls : List Late) (hl : l.length = (fieldsR (formOf op)).length) :
    EndLike op at_ num ls (goR (loR op) (hiR op) op ((fieldsR (formOf op)).zip l) (partI ⟨op, 0, 0, 0, 0⟩)) (opsP at_ num ((kindsP (.ins op)).zip l) [] ls) := by
  rw [kinds_fields op hf]
  generalize loR op = lo
  generalize hiR op = hi
  rcases form_seven op hf with h | h | h | h | h | h | h
  all_goals rw [h] at hl ⊢
  · match l, hl with
    | [x, y, z], _ =>
      exact like_reg lo hi op at_ num ls 65 (by decide) x _ _ _ _ (like_reg lo hi op at_ num ls 66 (by decide) y _ _ _ _ (like_reg lo hi op at_ num ls 67 (by decide) z _ _ _ _ (like_end op at_ num ls lo hi _ _ rfl rfl (by unfold insOf; rw [h]; rfl))))
  · match l, hl with
    | [x, y, z], _ =>
      exact like_reg lo hi op at_ num ls 65 (by decide) x _ _ _ _ (like_reg lo hi op at_ num ls 66 (by decide) y _ _ _ _ (like_imm op at_ num ls lo hi 73 (.inl rfl) z _ _ rfl rfl (fun n => by unfold insOf; rw [h]; rfl)))
  · match l, hl with
    | [x, y, z], _ =>
      exact like_reg lo hi op at_ num ls 65 (by decide) x _ _ _ _ (like_reg lo hi op at_ num ls 66 (by decide) y _ _ _ _ (like_imm op at_ num ls lo hi 85 (.inr rfl) z _ _ rfl rfl (fun n => by unfold insOf; rw [h]; rfl)))
  · match l, hl with
    | [x, y], _ =>
      exact like_reg lo hi op at_ num ls 65 (by decide) x _ _ _ _ (like_imm op at_ num ls lo hi 85 (.inr rfl) y _ _ rfl rfl (fun n => by unfold insOf; rw [h]; rfl))
  · match l, hl with
    | [x, y], _ =>
      exact like_reg lo hi op at_ num ls 65 (by decide) x _ _ _ _ (like_imm op at_ num ls lo hi 73 (.inl rfl) y _ _ rfl rfl (fun n => by unfold insOf; rw [h]; rfl))
  · match l, hl with
    | [x, y], _ =>
      exact like_reg lo hi op at_ num ls 66 (by decide) x _ _ _ _ (like_imm op at_ num ls lo hi 73 (.inl rfl) y _ _ rfl rfl (fun n => by unfold insOf; rw [h]; rfl))
  · match l, hl with
    | [x], _ =>
      exact like_imm op at_ num ls lo hi 85 (.inr rfl) x _ _ rfl rfl (fun n => by unfold insOf; rw [h]; rfl)
theorem check_of {i : Ins} (hf : formOf i.op ≠ 0) (ha : fitsB i.a (usesOf (formOf i.op)).a = true) (hb : fitsB i.b (usesOf (formOf i.op)).b = true) (hc : fitsB i.c (usesOf (formOf i.op)).c = true)
    (hl : (usesOf (formOf i.op)).lo ≤ i.imm) (hh : i.imm ≤ (usesOf (formOf i.op)).hi) : checkC i = 0 := by
  unfold checkC
  simp only
  rw [if_neg hf]
  refine if_pos ?_
  simp only [Bool.and_eq_true, decide_eq_true_eq]
  exact ⟨⟨⟨⟨ha, hb⟩, hc⟩, hl⟩, hh⟩
theorem jump_forms (op : Int) (h : jumpB op = true) : (formOf op = 2 ∨ formOf op = 5) := by
  unfold jumpB at h
  simp only [Bool.and_eq_true, decide_eq_true_eq] at h
  have hall : ([48, 49, 50, 51, 52, 53, 54] : List Int).all (fun o => decide (formOf o = 2 ∨ formOf o = 5)) = true := by decide +kernel
  have := List.all_eq_true.1 hall op (by simp; omega)
  simpa using this
theorem fits_reg (x : Int) (h0 : 0 ≤ x) (h1 : x ≤ 15) : fitsB x true = true := by
  simp [fitsB]
  omega
theorem jump_check (op : Int) (hj : jumpB op = true) (vs : List Int) (hv : ValsOk (kindsP (.ins op)) vs) (hz : (insOf op vs).imm = 0) :
    (insOf op vs).c = 0 ∧ checkC (insOf op vs) = 0 ∧ (usesOf (formOf op)).imm = true ∧ (usesOf (formOf op)).signed = true := by
  have hop : (insOf op vs).op = op := rfl
  have hf0 : formOf op ≠ 0 := by rcases jump_forms op hj with h | h <;> rw [h] <;> decide
  have hk := kinds_fields op hf0
  have hreg : ∀ (j : Nat) (x : Int), vs[j]? = some x → (kindsP (.ins op))[j]? = some regK → 0 ≤ x ∧ x ≤ 15 := fun j x h1 h2 => by
    have := hv.2 j regK x h2 h1
    simpa [okVal, regK] using this
  have hlen := hv.1
  rcases jump_forms op hj with h | h
  · rw [hk, h] at hlen
    match vs, hlen with
    | [x, y, z], _ =>
      have hx := hreg 0 x rfl (by rw [hk, h]; rfl)
      have hy := hreg 1 y rfl (by rw [hk, h]; rfl)
      have e : insOf op [x, y, z] = ⟨op, x, y, 0, z⟩ := by unfold insOf; rw [h]; rfl
      rw [e] at hz ⊢
      simp only at hz
      subst hz
      refine ⟨rfl, check_of (by exact hf0) ?_ ?_ ?_ ?_ ?_, by rw [h]; rfl, by rw [h]; rfl⟩
      · simp only [h]; exact fits_reg x hx.1 hx.2
      · simp only [h]; exact fits_reg y hy.1 hy.2
      · simp only [h]; rfl
      · simp only [h]; decide
      · simp only [h]; decide
  · rw [hk, h] at hlen
    match vs, hlen with
    | [x, z], _ =>
      have hx := hreg 0 x rfl (by rw [hk, h]; rfl)
      have e : insOf op [x, z] = ⟨op, x, 0, 0, z⟩ := by unfold insOf; rw [h]; rfl
      rw [e] at hz ⊢
      simp only at hz
      subst hz
      refine ⟨rfl, check_of (by exact hf0) ?_ ?_ ?_ ?_ ?_, by rw [h]; rfl, by rw [h]; rfl⟩
      · simp only [h]; exact fits_reg x hx.1 hx.2
      · simp only [h]; rfl
      · simp only [h]; rfl
      · simp only [h]; decide
      · simp only [h]; decide
theorem made_like (w : List UInt8) (ops : List ByteArray) (at_ : Nat) (num : Int) (ls : List Late) : MadeLike (madeR w (ops.map fun s => s.data.toList)) at_ num (stmP w) (ops.map fun s => s.data.toList) ls := by
  by_cases hn : ∀ op, stmP w ≠ .ins op
  · exact made_words w _ at_ num ls hn
  · have hn2 : ∃ op, stmP w = .ins op := Classical.byContradiction fun h => hn fun op he => h ⟨op, he⟩
    obtain ⟨op, hop⟩ := hn2
    have hf := stm_bad_zero hop
    have hklen : (kindsP (.ins op)).length = (fieldsR (formOf op)).length := by rw [kinds_fields op hf, List.length_map]
    unfold madeR MadeLike
    rw [hop]
    simp only
    unfold plainR
    by_cases hl : (ops.map fun s => s.data.toList).length = (fieldsR (formOf op)).length
    · have hL := plain_like op hf _ at_ num ls hl
      have hfit := ops_fit at_ num (.ins op) ops ls (by rw [hklen, ← hl, List.length_map])
      rw [if_neg (by rintro (h | h); cases h; exact h (by rw [hl, hklen])), if_neg (fun h => h hl)]
      generalize goR (loR op) (hiR op) op ((fieldsR (formOf op)).zip (ops.map fun s => s.data.toList)) (partI ⟨op, 0, 0, 0, 0⟩) = r at hL
      generalize opsP at_ num ((kindsP (.ins op)).zip (ops.map fun s => s.data.toList)) [] ls = q at hL hfit
      obtain ⟨h1, h2⟩ := hL
      refine ⟨h1, fun h0 => ?_⟩
      obtain ⟨k1, k2, k3, k4⟩ := h2 h0
      refine ⟨?_, ?_, ?_⟩
      · simp only [List.map_cons, List.map_nil, buildP]
        unfold wordOf
        rw [k1, if_neg (by decide), k2]
      · simp only [List.map_cons, List.map_nil, latesOf, List.append_nil]
        exact k3
      · intro p hp
        simp only [List.mem_cons, List.not_mem_nil, or_false] at hp
        subst hp
        intro _ hlab
        obtain ⟨m1, m2⟩ := k4 hlab
        have hv := (hfit (by rw [← h1]; exact h0)).1
        rw [k2] at m1
        have := jump_check op m2 q.1 hv m1
        rw [k2]
        exact ⟨m1, this⟩
    · rw [if_pos (.inr (by rw [hklen]; exact hl)), if_pos hl]

def RelP (st : Src) (g : PrR) : Prop := st.labels = g.labs ∧ st.words = g.parts.map wordOf ∧ st.lates = latesOf 0 g.parts ∧ ∀ p ∈ g.parts, LabOk p
theorem line_like (num : Int) (l : List UInt8) (st : Src) (g : PrR) (h : RelP st g) : (lineP num l st).2 = (lineR num l g).2 ∧ ((lineP num l st).2 = 0 → RelP (lineP num l st).1 (lineR num l g).1) := by
  obtain ⟨h1, h2, h3, h4⟩ := h
  have hlen : st.words.length = g.parts.length := by rw [h2, List.length_map]
  unfold lineP lineR
  rw [h1, hlen]
  generalize labelsP (4 * (g.parts.length : Int)) (fieldsL l) g.labs = q
  obtain ⟨c, ls, r⟩ := q
  simp only
  by_cases hc : c ≠ 0
  · rw [if_pos hc, if_pos hc]
    exact ⟨rfl, fun h => absurd h hc⟩
  · rw [if_neg hc, if_neg hc]
    cases r with
    | nil => exact ⟨rfl, fun _ => ⟨rfl, h2, h3, h4⟩⟩
    | cons w ops =>
      unfold restP restR
      simp only
      have hM := made_like w.data.toList ops st.words.length num st.lates
      generalize madeR w.data.toList (ops.map fun s => s.data.toList) = m at hM
      unfold MadeLike at hM
      rw [List.length_map] at hM
      by_cases hb : stmP w.data.toList = .bad ∨ ops.length ≠ (kindsP (stmP w.data.toList)).length
      · rw [if_pos hb] at hM
        rw [if_pos hb, hM, if_pos (by decide)]
        exact ⟨rfl, fun h => by cases h⟩
      · rw [if_neg hb] at hM
        rw [if_neg hb]
        generalize opsP st.words.length num ((kindsP (stmP w.data.toList)).zip (ops.map fun s => s.data.toList)) [] st.lates = q at hM
        obtain ⟨vs, lts, cd⟩ := q
        obtain ⟨m1, m2⟩ := hM
        simp only at m1 m2 ⊢
        rw [m1]
        by_cases hcd : cd = 0
        · have hcd' : ¬(cd ≠ 0) := fun h => h hcd
          rw [if_neg hcd', if_neg hcd']
          obtain ⟨k1, k2, k3⟩ := m2 (by rw [m1]; exact hcd)
          have hbl : (buildP (stmP w.data.toList) vs).length = m.1.length := by rw [← k1, List.length_map]
          rw [hbl, hlen]
          by_cases hz : 512 < g.parts.length + m.1.length
          · rw [if_pos hz, if_pos hz]
            exact ⟨rfl, fun h => by cases h⟩
          · rw [if_neg hz, if_neg hz]
            refine ⟨rfl, fun _ => ⟨rfl, ?_, ?_, ?_⟩⟩
            · simp only
              rw [List.map_append, List.map_map, ← k1, h2]
              rfl
            · simp only
              rw [latesOf_append, ← k2, h3, Nat.zero_add, hlen]
            · intro p hp
              rcases List.mem_append.1 hp with hp | hp
              · exact h4 p hp
              · obtain ⟨p0, hp0, rfl⟩ := List.mem_map.1 hp
                exact k3 p0 hp0
        · rw [if_pos hcd, if_pos hcd]
          exact ⟨rfl, fun h => absurd h hcd⟩
theorem lines_alike : ∀ (L : List ByteArray) (i : Nat) (st : Src) (g : PrR), RelP st g → (asmLines i L st).2 = (linesR i L g).2 ∧ ((asmLines i L st).2 = none → RelP (asmLines i L st).1 (linesR i L g).1)
  | [], i, st, g, h => ⟨rfl, fun _ => h⟩
  | l :: L, i, st, g, h => by
    obtain ⟨h1, h2⟩ := line_like ((i : Int) + 1) l.data.toList st g h
    unfold asmLines linesR
    rw [← h1]
    by_cases hc : (lineP ((i : Int) + 1) l.data.toList st).2 ≠ 0
    · rw [if_pos hc, if_pos hc]
      exact ⟨rfl, fun h => by cases h⟩
    · rw [if_neg hc, if_neg hc]
      exact lines_alike L (i + 1) _ _ (h2 (by simpa using hc))
theorem line_most (num : Int) (l : List UInt8) (st : Src) (hw : st.words.length ≤ 512) : (lineP num l st).2 = 0 → (lineP num l st).1.words.length ≤ 512 := by
  unfold lineP
  generalize labelsP (4 * (st.words.length : Int)) (fieldsL l) st.labels = q
  obtain ⟨c, ls, r⟩ := q
  simp only
  split
  · rename_i hc
    exact fun h => absurd h hc
  · cases r with
    | nil => exact fun _ => hw
    | cons w ops =>
      unfold restP
      simp only
      split
      · exact fun h => by cases h
      · generalize opsP st.words.length num ((kindsP (stmP w.data.toList)).zip (ops.map fun s => s.data.toList)) [] st.lates = q
        obtain ⟨vs, lts, cd⟩ := q
        simp only
        split
        · rename_i hcd
          exact fun h => absurd h hcd
        · split
          · exact fun h => by cases h
          · rename_i hz
            intro _
            simp only [List.length_append]
            omega
theorem lines_inv : ∀ (L : List ByteArray) (i : Nat) (st : Src), st.words.length ≤ 512 → Inv st → (asmLines i L st).2 = none → Inv (asmLines i L st).1 ∧ (asmLines i L st).1.words.length ≤ 512
  | [], i, st, h, hi, _ => ⟨hi, h⟩
  | l :: L, i, st, h, hi, hn => by
    unfold asmLines at hn ⊢
    split at hn
    · cases hn
    · rename_i hc
      rw [if_neg hc]
      have hc0 : (lineP ((i : Int) + 1) l.data.toList st).2 = 0 := by simpa using hc
      exact lines_inv L (i + 1) _ (line_most _ _ st h hc0) (lineP_inv _ _ st h hi hc0).1 hn

theorem orLow_add (q : Nat) (v : Int) : orLow ((q : Int) * 65536) v = (q : Int) * 65536 + v % 65536 := by
  have h0 : 0 ≤ v % 65536 := Int.emod_nonneg _ (by decide)
  obtain ⟨m, hm⟩ := Int.eq_ofNat_of_zero_le h0
  have hm2 : m < 65536 := by omega
  unfold orLow
  rw [hm]
  have e : ((q : Int) * 65536).toNat = q <<< 16 := by
    rw [Nat.shiftLeft_eq]
    omega
  rw [e, Int.toNat_natCast, ← Nat.shiftLeft_add_eq_or_of_lt (by simpa using hm2), Nat.shiftLeft_eq]
  omega
theorem orLow_enc (i : Ins) (hm : i.imm = 0) (hcc : i.c = 0) (hc : checkC i = 0) (hi : (usesOf (formOf i.op)).imm = true) (hs : (usesOf (formOf i.op)).signed = true) (v : Int) (v0 : -32768 ≤ v) (v1 : v ≤ 32767) :
    orLow (encR i) v = encR { i with imm := v } := by
  obtain ⟨hf, ha, hb, hcf, hl, hh⟩ := check_fields i hc
  obtain ⟨o0, o1, a0, a1, b0, b1, _, _, _, _⟩ := check_ok i hc
  have hc2 : checkC { i with imm := v } = 0 := by
    refine check_of hf ha hb hcf ?_ ?_
    · unfold Uses.lo
      rw [hi, hs]
      exact v0
    · unfold Uses.hi
      rw [hi, hs]
      exact v1
  unfold encR
  rw [if_pos hc, if_pos hc2]
  unfold encW
  simp only
  rw [hm, hcc]
  obtain ⟨q, hq⟩ := Int.eq_ofNat_of_zero_le (show 0 ≤ i.op * 256 + i.a * 16 + i.b by omega)
  have e : i.op * 16777216 + i.a * 1048576 + i.b * 65536 + 0 * 4096 + 0 % 65536 = (q : Int) * 65536 := by omega
  rw [e, orLow_add]
  omega
theorem tdiv_range (x : Int) (h0 : -32768 ≤ x) (h1 : x ≤ 32767) : -32768 ≤ Int.tdiv x 4 ∧ Int.tdiv x 4 ≤ 32767 := by
  by_cases h : 0 ≤ x
  · rw [Int.tdiv_eq_ediv_of_nonneg h]
    omega
  · obtain ⟨y, rfl⟩ : ∃ y : Int, x = -y := ⟨-x, by omega⟩
    rw [Int.neg_tdiv, Int.tdiv_eq_ediv_of_nonneg (by omega)]
    omega
theorem set_at {α : Type} (a : List α) (x y : α) (r : List α) : (a ++ x :: r).set a.length y = a ++ y :: r := by
  induction a with
  | nil => rfl
  | cons z a ih => simp [ih]
theorem getD_at {α : Type} (a : List α) (x d : α) (r : List α) : (a ++ x :: r).getD a.length d = x := by
  rw [List.getD_eq_getElem?_getD, List.getElem?_append_right (Nat.le_refl _)]
  simp
theorem pass_like (ls : List (List UInt8 × Int)) (hls : ∀ l a, lookL ls l = some a → 0 ≤ a ∧ a ≤ 2048) : ∀ (ps : List Part) (i : Nat) (out : List Int), out.length = i → i + ps.length ≤ 512 → (∀ p ∈ ps, LabOk p) →
    (passR ls i ps out).2 = (patchP ls (latesOf i ps) (out ++ ps.map wordOf)).2 ∧ ((passR ls i ps out).2 = none → (passR ls i ps out).1 = (patchP ls (latesOf i ps) (out ++ ps.map wordOf)).1)
  | [], i, out, _, _, _ => by
    simp [passR, latesOf, patchP]
  | p :: ps, i, out, hi, hl, hp => by
    have hpk := hp p (by simp)
    rw [List.length_cons] at hl
    have ih := fun v => pass_like ls hls ps (i + 1) (out ++ [v]) (by simp [hi]) (by omega) (fun q hq => hp q (by simp [hq]))
    have hshift : ∀ v, out ++ [v] ++ ps.map wordOf = out ++ v :: ps.map wordOf := fun v => by simp
    unfold passR latesOf
    rw [List.map_cons]
    by_cases hlate : p.fixed = false ∧ p.label ≠ []
    · obtain ⟨k1, k2, k3, k4, k5⟩ := hpk hlate.1 hlate.2
      have hlo : lateOf i p = [⟨i, p.line, p.label, !p.far⟩] := if_pos hlate
      have hpv : partV ls i p = (lookL ls p.label).map fun ad => encR { p.ins with imm := if p.far then ad else Int.tdiv (ad - 4 * i - 4) 4 } := by
        unfold partV
        rw [if_neg (by rw [hlate.1]; decide), if_neg hlate.2]
      rw [hlo, hpv, List.singleton_append, patchP]
      simp only
      cases hk : lookL ls p.label with
      | none =>
        simp only [Option.map_none]
        exact ⟨trivial, fun h => by cases h⟩
      | some ad =>
        simp only [Option.map_some]
        obtain ⟨d0, d1⟩ := hls _ _ hk
        have hw : wordOf p = encR p.ins := by unfold wordOf; rw [if_neg (by rw [hlate.1]; decide)]
        have hv : orLow (wordOf p) (lateV ad ⟨i, p.line, p.label, !p.far⟩) = encR { p.ins with imm := if p.far then ad else Int.tdiv (ad - 4 * i - 4) 4 } := by
          rw [hw]
          unfold lateV
          simp only
          cases p.far with
          | true =>
            simp only [Bool.not_true, Bool.false_eq_true, if_false, if_true]
            exact orLow_enc p.ins k1 k2 k3 k4 k5 ad (by omega) (by omega)
          | false =>
            simp only [Bool.not_false, Bool.false_eq_true, if_false, if_true]
            have := tdiv_range (ad - 4 * i - 4) (by omega) (by omega)
            exact orLow_enc p.ins k1 k2 k3 k4 k5 _ this.1 this.2
        have hget : (out ++ wordOf p :: ps.map wordOf).getD i 0 = wordOf p := by rw [← hi]; exact getD_at _ _ _ _
        rw [hget, hv]
        have hset : ∀ y, (out ++ wordOf p :: ps.map wordOf).set i y = out ++ [y] ++ ps.map wordOf := fun y => by rw [hshift, ← hi]; exact set_at _ _ _ _
        rw [hset]
        exact ih _
    · have hlo : lateOf i p = [] := if_neg hlate
      have hpv : partV ls i p = some (wordOf p) := by
        unfold partV wordOf
        by_cases hfx : p.fixed = true
        · rw [if_pos hfx, if_pos hfx]
        · rw [if_neg hfx, if_neg hfx]
          have hlb : p.label = [] := Classical.byContradiction fun h => hlate ⟨by simpa using hfx, h⟩
          rw [if_pos hlb]
      rw [hlo, hpv, List.nil_append, ← hshift]
      exact ih _
/-- THE DOCUMENT's ASSEMBLER IS THE PROGRAM's. -/
theorem asm_same (s : ByteArray) : asmR s = asmP s := by
  have hrel : RelP ⟨[], [], []⟩ ⟨[], []⟩ := ⟨rfl, rfl, rfl, fun p hp => by cases hp⟩
  obtain ⟨h1, h2⟩ := lines_alike (linesL s) 0 ⟨[], [], []⟩ ⟨[], []⟩ hrel
  have hinv := lines_inv (linesL s) 0 ⟨[], [], []⟩ (by simp) ⟨by simp, by simp, by simp⟩
  unfold asmR asmP
  generalize asmLines 0 (linesL s) ⟨[], [], []⟩ = a at h1 h2 hinv
  generalize linesR 0 (linesL s) ⟨[], []⟩ = b at h1 h2
  obtain ⟨st, ea⟩ := a
  obtain ⟨g, eb⟩ := b
  simp only at h1 h2 hinv
  subst h1
  cases ea with
  | some x => rfl
  | none =>
    simp only
    obtain ⟨r1, r2, r3, r4⟩ := h2 rfl
    obtain ⟨⟨i1, i2, i3⟩, i4⟩ := hinv rfl
    have hls : ∀ l a, lookL g.labs l = some a → 0 ≤ a ∧ a ≤ 2048 := fun l a h => by
      rw [← r1] at h
      unfold lookL at h
      obtain ⟨p, hp, rfl⟩ := Option.map_eq_some_iff.1 h
      exact i3 p (by simpa using List.mem_of_find?_eq_some hp)
    obtain ⟨p1, p2⟩ := pass_like g.labs hls g.parts 0 [] rfl (by rw [r2, List.length_map] at i4; omega) r4
    rw [List.nil_append] at p1 p2
    rw [r1, r2, r3]
    generalize passR g.labs 0 g.parts [] = x at p1 p2
    generalize patchP g.labs (latesOf 0 g.parts) (g.parts.map wordOf) = y at p1 p2
    obtain ⟨ws, e⟩ := x
    obtain ⟨ws', e'⟩ := y
    simp only at p1 p2
    subst p1
    cases e with
    | some n => rfl
    | none =>
      simp only at p2 ⊢
      rw [p2 trivial]
end Go.Proofs.YtecmeegnjjhilaaGreatDoor

/- The codes that the document's assembler answers. Plain. -/
namespace Go.Proofs.YtecmeegnjjhilaaGreatDoor
open Go.RowKit
def okC (c : Nat) : Prop := c = 0 ∨ c = 4 ∨ c = 11 ∨ c = 12 ∨ c = 18
theorem imm_c (lo hi op : Int) (w : List UInt8) : okC (immR lo hi op w).2.2 := by
  unfold immR okC
  split
  · split <;> simp
  · split <;> simp
theorem go_c (lo hi op : Int) : ∀ (l : List (UInt8 × List UInt8)) (p : Part), okC (goR lo hi op l p).2
  | [], p => by simp [goR, okC]
  | (c, w) :: r, p => by
    unfold goR
    split
    · split
      · exact imm_c lo hi op w
      · exact go_c lo hi op r _
    · split
      · simp [okC]
      · exact go_c lo hi op r _
theorem plain_c (op : Int) (l : List (List UInt8)) : okC (plainR op l).2 := by
  unfold plainR
  split
  · simp [okC]
  · exact go_c _ _ _ _ _
theorem num_c (lo hi r : Int) (l : List (List UInt8)) : okC (numR lo hi r l).2.2 := by
  unfold numR okC
  split
  · split
    · split <;> simp
    · simp
  · simp
theorem li_c (l : List (List UInt8)) : okC (liR l).2.2 := by
  unfold liR
  split
  · split
    · simp [okC]
    · exact num_c _ _ _ _
  · simp [okC]
theorem made_c (w : List UInt8) (l : List (List UInt8)) : okC (madeR w l).2 := by
  unfold madeR
  split
  · simp [okC]
  · split <;> simp [okC]
  · split
    · exact li_c l
    · simp [okC]
  · split
    · exact num_c _ _ _ l
    · simp [okC]
  · split
    · exact num_c _ _ _ l
    · simp [okC]
  · split
    · split <;> simp [okC]
    · simp [okC]
  · exact plain_c _ l
theorem labels_c (at_ : Int) : ∀ (ws : List ByteArray) (ls : List (List UInt8 × Int)), okC (labelsP at_ ws ls).1
  | [], ls => by simp [labelsP, okC]
  | w :: r, ls => by
    unfold labelsP
    split
    · split
      · split
        · simp [okC]
        · exact labels_c at_ r _
      · simp [okC]
    · simp [okC]
theorem rest_c (num : Int) (g : PrR) (ws : List ByteArray) : okC (restR num g ws).2 := by
  unfold restR
  split
  · simp [okC]
  · split
    · exact made_c _ _
    · split <;> simp [okC]
theorem line_c (num : Int) (l : List UInt8) (g : PrR) : okC (lineR num l g).2 := by
  unfold lineR
  have h := labels_c (4 * g.parts.length) (fieldsL l) g.labs
  generalize labelsP (4 * g.parts.length) (fieldsL l) g.labs = q at h ⊢
  obtain ⟨c, ls, r⟩ := q
  simp only at h ⊢
  split
  · exact h
  · exact rest_c _ _ _
theorem lines_c : ∀ (ls : List ByteArray) (i : Nat) (g : PrR) (n c : Nat), (linesR i ls g).2 = some (n, c) → okC c ∧ c ≠ 0
  | [], i, g, n, c, h => by simp [linesR] at h
  | l :: r, i, g, n, c, h => by
    unfold linesR at h
    split at h
    · rename_i h0
      have h2 : (lineR ((i : Int) + 1) l.data.toList g).2 = c := by
        simp only [Option.some.injEq, Prod.mk.injEq] at h
        exact h.2
      rw [h2] at h0
      exact ⟨h2 ▸ line_c _ _ _, h0⟩
    · exact lines_c r _ _ n c h
theorem asm_code (s : ByteArray) (n : Int) (c : Nat) (h : (asmR s).2 = some (n, c)) : isCode c := by
  unfold asmR at h
  have hl := lines_c (linesL s) 0 ⟨[], []⟩
  generalize linesR 0 (linesL s) ⟨[], []⟩ = q at h hl
  obtain ⟨g, _ | ⟨n2, c2⟩⟩ := q
  · simp only at h
    generalize passR g.labs 0 g.parts [] = t at h
    obtain ⟨ws, _ | n2⟩ := t
    · simp at h
    · simp only [Option.some.injEq, Prod.mk.injEq] at h
      rw [← h.2]
      unfold isCode
      omega
  · have h2 := hl n2 c2 rfl
    simp only [Option.some.injEq, Prod.mk.injEq] at h
    rw [← h.2]
    unfold okC at h2
    unfold isCode
    omega
theorem rest_parts (num : Int) (g : PrR) (ws : List ByteArray) (h : g.parts.length ≤ 512) : (restR num g ws).1.parts.length ≤ 512 := by
  unfold restR
  split
  · exact h
  · split
    · exact h
    · split
      · exact h
      · rename_i h5
        simp only [List.length_append, List.length_map]
        omega
theorem line_parts (num : Int) (l : List UInt8) (g : PrR) (h : g.parts.length ≤ 512) : (lineR num l g).1.parts.length ≤ 512 := by
  unfold lineR
  generalize labelsP (4 * g.parts.length) (fieldsL l) g.labs = q
  obtain ⟨c, ls, r⟩ := q
  simp only
  split
  · exact h
  · exact rest_parts _ _ _ h
theorem lines_parts : ∀ (ls : List ByteArray) (i : Nat) (g : PrR), g.parts.length ≤ 512 → (linesR i ls g).1.parts.length ≤ 512
  | [], i, g, h => h
  | l :: r, i, g, h => by
    unfold linesR
    split
    · exact h
    · exact lines_parts r _ _ (line_parts _ _ _ h)
theorem pass_len (ls : List (List UInt8 × Int)) : ∀ (ps : List Part) (i : Nat) (out : List Int), (passR ls i ps out).1.length ≤ out.length + ps.length
  | [], i, out => Nat.le_refl _
  | p :: r, i, out => by
    unfold passR
    split
    · exact Nat.zero_le _
    · refine Nat.le_trans (pass_len ls r _ _) ?_
      simp only [List.length_append, List.length_cons, List.length_nil]
      omega
theorem asm_len (s : ByteArray) : (asmR s).1.length ≤ 512 := by
  unfold asmR
  have hp := lines_parts (linesL s) 0 ⟨[], []⟩ (by simp)
  generalize linesR 0 (linesL s) ⟨[], []⟩ = q at hp
  obtain ⟨g, _ | ⟨n2, c2⟩⟩ := q
  · simp only at hp ⊢
    have hl := pass_len g.labs g.parts 0 []
    generalize passR g.labs 0 g.parts [] = t at hl
    obtain ⟨ws, _ | n2⟩ := t
    · simp only [List.length_nil] at hl ⊢
      omega
    · simp
  · simp
end Go.Proofs.YtecmeegnjjhilaaGreatDoor

/- What Assemble and Words answer, the program's and the document's, said alike: the list, the error's code and place. -/
namespace Go.Proofs.YtecmeegnjjhilaaGreatDoor
open Go.RowKit
def wsR (r : List Int × Option (Int × Nat)) : List Int := match r.2 with | some _ => [] | none => r.1
def codeR (r : List Int × Option (Int × Nat)) : Nat := match r.2 with | some (_, c) => c | none => 0
def placeR (r : List Int × Option (Int × Nat)) : Int := match r.2 with | some (n, _) => n | none => -1
/-- What is asked of an error, from a world on. -/
def ErrSays (x : Value) (C : Nat) (P : Int) (w : World) : Prop := ∀ W, Below w.heap.size w W →
  (Calls Tryz.prog 32 #[x] W fun e w' => e = .returned (.int .i64 C) ∧ w' = W) ∧ Calls Tryz.prog 33 #[x] W fun e w' => e = .returned (.int .i64 P) ∧ Below W.heap.size W w'
theorem asm_ans (er : Nat → Addr) (s : ByteArray) (hs : s.size ≤ 100000000) (w : World) (E : Env2 er w) :
    Calls Tryz.prog 29 #[.string s] w fun e w' => Below w.heap.size w w' ∧ ∃ A c x, e = .returned (.tuple #[.slice A (wsR (asmR s)).length c, x]) ∧
      w'.ownsRow w.heap.size 28 1 (.slice A (wsR (asmR s)).length c) (wsR (asmR s)).length (w32 (wsR (asmR s))) ∧ ErrSays x (codeR (asmR s)) (placeR (asmR s)) w' :=
  (assemble_any er s hs w E.env).mono fun e w' h => by
    unfold AsmOut at h
    rw [← asm_same] at h
    have hc := asm_code s
    generalize asmR s = R at h hc ⊢
    obtain ⟨ws, _ | ⟨n, c⟩⟩ := R
    · obtain ⟨hb, A, c, he, ho⟩ := h
      exact ⟨hb, A, c, .nilIface, he, ho, fun W _ => ⟨Code_nil W, Place_nil W⟩⟩
    · obtain ⟨hb, b, he, _, hB⟩ := h
      have hcd := hc n c rfl
      have hcb := hcd.bounds
      refine ⟨hb, none, 0, _, he, own_nil _ _ _ _, fun W hW => ?_⟩
      have hE := E.below (hb.trans (hW.mono hb.size))
      have hBW := hB.below hW hB.lt
      exact ⟨Code_of er _ _ c hcd W hE (isOf_wrap hE c hcb.1 hcb.2 b 0 (hBW.cell 1)), Place_at er b n W hE (hBW.cell 0)⟩
theorem rasm_ans (s : ByteArray) (hs : s.size ≤ 2000000) (w : World) :
    Calls Tryz.prog 30 #[.string s] w fun e w' => Below w.heap.size w w' ∧ ∃ A c, e = .returned (.tuple #[.slice A (wsR (asmR s)).length c, .agg #[.int .i64 (codeR (asmR s)), .int .i64 (placeR (asmR s))]]) ∧
      w'.ownsRow w.heap.size 28 1 (.slice A (wsR (asmR s)).length c) (wsR (asmR s)).length (w32 (wsR (asmR s))) :=
  (RAssemble_any s hs w).mono fun e w' h => by
    unfold RAsmOut at h
    generalize asmR s = R at h ⊢
    obtain ⟨ws, _ | ⟨n, c⟩⟩ := R
    · obtain ⟨hb, v, he, ho⟩ := h
      obtain ⟨A, c, rfl⟩ := own_slice ho
      exact ⟨hb, A, c, he, ho⟩
    · obtain ⟨hb, he⟩ := h
      exact ⟨hb, none, 0, he, own_nil _ _ _ _⟩
def wdR (xs : List Int) : List Int := if xs.length % 4 ≠ 0 then [] else quad xs
def wdC (xs : List Int) : Nat := if xs.length % 4 ≠ 0 then 5 else 0
theorem wdC_ok (xs : List Int) : wdC xs = 0 ∨ isCode (wdC xs) := by
  unfold wdC isCode
  split <;> simp
theorem words_ans (er : Nat → Addr) (A : Option Addr) (cp : Nat) (xs : List Int) (hn : xs.length ≤ 100000000) (hx : Byte8 xs) (w : World) (hA : NumsAt w .u8 A xs.length xs) (E : Env2 er w) :
    Calls Tryz.prog 38 #[.slice A xs.length cp] w fun e w' => Below w.heap.size w w' ∧ ∃ A c, e = .returned (.tuple #[.slice A (wdR xs).length c, errV er (wdC xs)]) ∧
      w'.ownsRow w.heap.size 28 1 (.slice A (wdR xs).length c) (wdR xs).length (w32 (wdR xs)) :=
  (Words_any (ev (er 5)) A cp xs hn hx w hA (E.sent 5 (by omega) (by omega))).mono fun e w' h => by
    obtain ⟨hb, h⟩ := h
    unfold wdR wdC
    by_cases h4 : xs.length % 4 ≠ 0
    · rw [if_pos h4] at h ⊢
      rw [if_pos h4, errV_pos er 5 (by omega)]
      exact ⟨hb, none, 0, h, own_nil _ _ _ _⟩
    · rw [if_neg h4] at h ⊢
      rw [if_neg h4]
      obtain ⟨A, c, he, ho⟩ := h
      exact ⟨hb, A, c, he, ho⟩
theorem rwords_ans (A : Option Addr) (cp : Nat) (xs : List Int) (hn : xs.length ≤ 100000000) (hx : Byte8 xs) (w : World) (hA : NumsAt w .u8 A xs.length xs) :
    Calls Tryz.prog 39 #[.slice A xs.length cp] w fun e w' => Below w.heap.size w w' ∧ ∃ A c, e = .returned (.tuple #[.slice A (wdR xs).length c, .int .i64 (wdC xs)]) ∧
      w'.ownsRow w.heap.size 28 1 (.slice A (wdR xs).length c) (wdR xs).length (w32 (wdR xs)) :=
  (RWords_any A cp xs hn hx w hA).mono fun e w' h => by
    obtain ⟨hb, h⟩ := h
    unfold wdR wdC
    by_cases h4 : xs.length % 4 ≠ 0
    · rw [if_pos h4] at h ⊢
      rw [if_pos h4]
      exact ⟨hb, none, 0, h, own_nil _ _ _ _⟩
    · rw [if_neg h4] at h ⊢
      rw [if_neg h4]
      obtain ⟨A, c, he, ho⟩ := h
      exact ⟨hb, A, c, he, ho⟩
end Go.Proofs.YtecmeegnjjhilaaGreatDoor
