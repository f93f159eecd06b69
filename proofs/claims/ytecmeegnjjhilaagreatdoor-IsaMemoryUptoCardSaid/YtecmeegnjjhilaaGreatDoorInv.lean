/- What stays true of the assembler's state from line to line. Plain. -/
import Derived.Test.YtecmeegnjjhilaaGreatDoorLab
namespace Go.Proofs.YtecmeegnjjhilaaGreatDoor
open Go.RowKit
def Inv (st : Src) : Prop := (∀ x ∈ st.words, 0 ≤ x ∧ x < 4294967296) ∧ (∀ l ∈ st.lates, l.at_ < st.words.length ∧ l.label.length ≤ 15) ∧ (∀ p ∈ st.labels, 0 ≤ p.2 ∧ p.2 ≤ 2048)

theorem encR_range (i : Ins) : 0 ≤ encR i ∧ encR i < 4294967296 := by
  unfold encR
  split
  · rename_i h
    obtain ⟨h1, h2, h3, h4, h5, h6, h7, h8, h9, h10⟩ := check_ok i h
    unfold encW
    omega
  · omega
theorem build_range (st : Stm) (xs : List Int) (h : ValsOk (kindsP st) xs) : ∀ x ∈ buildP st xs, 0 ≤ x ∧ x < 4294967296 := by
  cases st with
  | bad => simp [buildP]
  | nop => simp [buildP]
  | li =>
    have := h.2 0 regK _ rfl (getD_of xs 0 (by rw [h.1]; decide))
    simp only [okVal, regK, if_true] at this
    intro x hx
    simp only [buildP, List.mem_cons, List.not_mem_nil, or_false] at hx
    generalize xs.getD 0 0 = a at *
    generalize xs.getD 1 0 = b at *
    rcases hx with rfl | rfl <;> omega
  | la =>
    have := h.2 0 regK _ rfl (getD_of xs 0 (by rw [h.1]; decide))
    simp only [okVal, regK, if_true] at this
    intro x hx
    simp only [buildP, List.mem_cons, List.not_mem_nil, or_false] at hx
    omega
  | word =>
    intro x hx
    simp only [buildP, List.mem_cons, List.not_mem_nil, or_false] at hx
    omega
  | space =>
    intro x hx
    simp only [buildP] at hx
    have := (List.mem_replicate.1 hx).2
    omega
  | ins op =>
    intro x hx
    simp only [buildP, List.mem_cons, List.not_mem_nil, or_false] at hx
    rw [hx]
    exact encR_range _

theorem labelsP_inv (a : Int) (ha : 0 ≤ a ∧ a ≤ 2048) : ∀ (r : List ByteArray) (ls : List (List UInt8 × Int)), (∀ p ∈ ls, 0 ≤ p.2 ∧ p.2 ≤ 2048) → ∀ p ∈ (labelsP a r ls).2.1, 0 ≤ p.2 ∧ p.2 ≤ 2048
  | [], ls, h => h
  | w :: r, ls, h => by
    unfold labelsP
    repeat' split
    all_goals first
      | exact h
      | (refine labelsP_inv a ha r _ ?_
         intro p hp
         rcases List.mem_append.1 hp with hp | hp
         · exact h p hp
         · simp only [List.mem_cons, List.not_mem_nil, or_false] at hp
           rw [hp]; exact ha)

theorem name_short (l : List UInt8) (h : nameP l = true) : l.length ≤ 15 := by
  unfold nameP at h
  simp only [Bool.and_eq_true, decide_eq_true_eq] at h
  exact h.1.1.2
theorem opd_late_name (k : Kind) (l : List UInt8) (h : opd k l = .late) : k.label = true ∧ l.length ≤ 15 := by
  unfold opd at h
  split at h
  · split at h <;> cases h
  · split at h
    · split at h <;> cases h
    · split at h
      · rename_i h1
        exact ⟨h1.1, name_short l h1.2⟩
      · cases h
theorem opsP_lates (at_ : Nat) (num : Int) : ∀ (ps : List (Kind × List UInt8)) (vs : List Int) (ls : List Late), ∀ l ∈ (opsP at_ num ps vs ls).2.1, l ∈ ls ∨ ((∃ p ∈ ps, p.1.label = true) ∧ l.at_ = at_ ∧ l.label.length ≤ 15)
  | [], vs, ls, l, h => .inl h
  | (k, x) :: r, vs, ls, l, h => by
    unfold opsP at h
    cases hk : opd k x with
    | val v =>
      simp only [hk] at h
      rcases opsP_lates at_ num r _ _ l h with h | ⟨⟨p, hp, hl⟩, h⟩
      · exact .inl h
      · exact .inr ⟨⟨p, by simp [hp], hl⟩, h⟩
    | late =>
      simp only [hk] at h
      have hn := opd_late_name k x hk
      rcases opsP_lates at_ num r _ _ l h with h | ⟨⟨p, hp, hl⟩, h⟩
      · rcases List.mem_append.1 h with h | h
        · exact .inl h
        · simp only [List.mem_cons, List.not_mem_nil, or_false] at h
          subst h
          exact .inr ⟨⟨(k, x), by simp, hn.1⟩, rfl, hn.2⟩
      · exact .inr ⟨⟨p, by simp [hp], hl⟩, h⟩
    | bad c =>
      simp only [hk] at h
      exact .inl h
theorem build_some (st : Stm) (xs : List Int) (h : ∃ k ∈ kindsP st, k.label = true) : 0 < (buildP st xs).length := by
  obtain ⟨k, hk, hl⟩ := h
  cases st with
  | bad => simp [kindsP] at hk
  | nop => simp [buildP]
  | li => simp [buildP]
  | la => simp [buildP]
  | word => simp [buildP]
  | space =>
    simp only [kindsP, List.mem_cons, List.not_mem_nil, or_false] at hk
    subst hk
    cases hl
  | ins op => simp [buildP]

theorem lineP_inv (num : Int) (l : List UInt8) (st : Src) (hw : st.words.length ≤ 512) (h : Inv st) (h0 : (lineP num l st).2 = 0) : Inv (lineP num l st).1 ∧ st.words.length ≤ (lineP num l st).1.words.length := by
  obtain ⟨i1, i2, i3⟩ := h
  have i4 := labelsP_inv (4 * (st.words.length : Int)) (by omega) (fieldsL l) st.labels i3
  unfold lineP at h0 ⊢
  generalize labelsP (4 * (st.words.length : Int)) (fieldsL l) st.labels = q at h0 i4 ⊢
  obtain ⟨c, ls, r⟩ := q
  simp only at h0 i4 ⊢
  split at h0
  · rename_i hc
    exact absurd h0 hc
  · rename_i hc
    rw [if_neg hc]
    cases r with
    | nil => exact ⟨⟨i1, i2, i4⟩, Nat.le_refl _⟩
    | cons w ops =>
      unfold restP at h0 ⊢
      simp only at h0 ⊢
      split at h0
      · cases h0
      · rename_i hb
        rw [if_neg hb]
        simp only [not_or, Classical.not_not, ne_eq] at hb
        have hfit := ops_fit st.words.length num (stmP w.data.toList) ops st.lates hb.2
        have hlat := opsP_lates st.words.length num ((kindsP (stmP w.data.toList)).zip (ops.map fun s => s.data.toList)) [] st.lates
        generalize hz : (kindsP (stmP w.data.toList)).zip (ops.map fun s => s.data.toList) = ps at h0 hfit hlat ⊢
        generalize opsP st.words.length num ps [] st.lates = res at h0 hfit hlat ⊢
        obtain ⟨vs, lts, cd⟩ := res
        simp only at h0 hfit hlat ⊢
        split at h0
        · rename_i hcd
          exact absurd h0 hcd
        · rename_i hcd
          rw [if_neg hcd]
          split at h0
          · cases h0
          · rename_i hsz
            rw [if_neg hsz]
            have hcd0 : cd = 0 := by simpa using hcd
            have hv := (hfit hcd0).1
            refine ⟨⟨?_, ?_, i4⟩, by simp⟩
            · intro x hx
              rcases List.mem_append.1 hx with hx | hx
              · exact i1 x hx
              · exact build_range _ _ hv x hx
            · intro x hx
              simp only [List.length_append]
              rcases hlat x hx with h | ⟨⟨p, hp, hl⟩, e, h⟩
              · have := i2 x h
                exact ⟨by omega, this.2⟩
              · have hk : p.1 ∈ kindsP (stmP w.data.toList) := by
                  rw [← hz] at hp
                  exact (List.of_mem_zip (a := p.1) (b := p.2) hp).1
                have := build_some (stmP w.data.toList) vs ⟨p.1, hk, hl⟩
                exact ⟨by omega, h⟩
end Go.Proofs.YtecmeegnjjhilaaGreatDoor
