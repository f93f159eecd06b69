/- The function value of a statement, as one; what the operands answer is fit for it. -/
import Derived.Test.YtecmeegnjjhilaaGreatDoorOpd
import Derived.Test.YtecmeegnjjhilaaGreatDoorIns
import Derived.Shelf.Abstract
namespace Go.Proofs.YtecmeegnjjhilaaGreatDoor
open Go.RowKit
def okVal (k : Kind) (x : Int) : Prop := if k.reg then 0 ≤ x ∧ x ≤ 15 else (k.lo ≤ x ∧ x ≤ k.hi) ∨ x = 0
def ValsOk (ks : List Kind) (xs : List Int) : Prop := xs.length = ks.length ∧ ∀ (j : Nat) (k : Kind) (x : Int), ks[j]? = some k → xs[j]? = some x → okVal k x

theorem regP_le (l : List UInt8) : regP l ≤ 15 := by
  unfold regP
  repeat' split
  all_goals omega

theorem opd_ok (k : Kind) (l : List UInt8) (x : Int) (h : opd k l = .val x) : okVal k x := by
  unfold opd at h
  unfold okVal
  split at h
  · split at h
    · cases h
    · rename_i h1 h2
      injection h with h
      subst h
      rw [if_pos h1]
      exact ⟨by omega, regP_le l⟩
  · rename_i h1
    rw [if_neg h1]
    split at h
    · split at h
      · cases h
      · injection h with h
        subst h
        exact .inl (by omega)
    · split at h <;> cases h
theorem opd_late (k : Kind) (l : List UInt8) (h : opd k l = .late) : okVal k 0 := by
  unfold opd at h
  unfold okVal
  split at h
  · split at h <;> cases h
  · rename_i h1
    rw [if_neg h1]
    exact .inr rfl

theorem opsP_ok (at_ : Nat) (line : Int) : ∀ (ps : List (Kind × List UInt8)) (done : List Kind) (vs : List Int) (ls : List Late), ValsOk done vs → (opsP at_ line ps vs ls).2.2 = 0 →
    ValsOk (done ++ ps.map Prod.fst) (opsP at_ line ps vs ls).1 ∧ (opsP at_ line ps vs ls).2.1.length ≤ ls.length + ps.length
  | [], done, vs, ls, h, _ => by
    simp only [List.map_nil, List.append_nil, opsP]
    exact ⟨h, by simp⟩
  | (k, l) :: r, done, vs, ls, h, he => by
    have step : ∀ x, okVal k x → ValsOk (done ++ [k]) (vs ++ [x]) := by
      intro x hx
      refine ⟨by simp [h.1], ?_⟩
      intro j k' x' h1 h2
      rcases Nat.lt_trichotomy j vs.length with hj | hj | hj
      · rw [List.getElem?_append_left (by rw [← h.1]; exact hj)] at h1
        rw [List.getElem?_append_left hj] at h2
        exact h.2 j k' x' h1 h2
      · subst hj
        rw [List.getElem?_append_right (by rw [h.1]; exact Nat.le_refl _)] at h1
        rw [List.getElem?_append_right (Nat.le_refl _)] at h2
        simp [h.1] at h1 h2
        subst h1 h2
        exact hx
      · rw [List.getElem?_eq_none (by simp; omega)] at h2
        cases h2
    unfold opsP at he ⊢
    cases hk : opd k l with
    | val x =>
      rw [hk] at he
      simp only at he ⊢
      have := opsP_ok at_ line r (done ++ [k]) (vs ++ [x]) ls (step x (opd_ok k l x hk)) he
      simp only [List.append_assoc, List.cons_append, List.nil_append, List.map_cons, List.length_cons] at this ⊢
      exact ⟨this.1, by omega⟩
    | late =>
      rw [hk] at he
      simp only at he ⊢
      have := opsP_ok at_ line r (done ++ [k]) (vs ++ [0]) _ (step 0 (opd_late k l hk)) he
      simp only [List.append_assoc, List.cons_append, List.nil_append, List.map_cons, List.length_cons, List.length_append, List.length_nil] at this ⊢
      exact ⟨this.1, by omega⟩
    | bad c =>
      rw [hk] at he
      simp only at he ⊢
      unfold opd at hk
      repeat' split at hk
      all_goals first | cases hk; done | (injection hk with hk; omega) | (cases hk; cases he)

def fnOf : Stm → Nat
  | .bad => 0
  | .nop => 114
  | .li => 115
  | .la => 116
  | .word => 117
  | .space => 118
  | .ins _ => 119
theorem fn_enters (st : Stm) (h : st ≠ .bad) (args : Array Value) (w : World) : (callFunc (fnOf st) args).run Tryz.prog w = .ok (.enter (fnOf st) args) w := by
  cases st with
  | bad => exact absurd rfl h
  | nop => exact enters_of Tryz.func114 (by kernel_rfl) rfl args w
  | li => exact enters_of Tryz.func115 (by kernel_rfl) rfl args w
  | la => exact enters_of Tryz.func116 (by kernel_rfl) rfl args w
  | word => exact enters_of Tryz.func117 (by kernel_rfl) rfl args w
  | space => exact enters_of Tryz.func118 (by kernel_rfl) rfl args w
  | ins op => exact enters_of Tryz.func119 (by kernel_rfl) rfl args w

theorem kinds_ins (op : Int) : (kindsP (.ins op)).length = countOf (usesOf (formOf op)) := by
  unfold kindsP countOf
  simp only
  generalize usesOf (formOf op) = u
  obtain ⟨a, b, c, i, s⟩ := u
  cases a <;> cases b <;> cases c <;> cases i <;> rfl
theorem kinds_le (st : Stm) : (kindsP st).length ≤ 4 := by
  cases st with
  | ins op =>
    rw [kinds_ins]
    unfold countOf
    repeat' split
    all_goals omega
  | _ => simp [kindsP]

theorem getD_of (xs : List Int) (j : Nat) (h : j < xs.length) : xs[j]? = some (xs.getD j 0) := by
  rw [List.getD_eq_getElem?_getD, List.getElem?_eq_getElem h]
  rfl

/-- The function value, by one form; and what its call answers in a later world. -/
theorem build_any {w : World} {fv : Value} {st : Stm} (hF : FnFor w fv st) (hb : st ≠ .bad) : ∃ lb : Array Value, fv = .func (.func (fnOf st)) #[] lb ∧
    ∀ (er : Nat → Addr) (w' : World) (v : Value) (xs : List Int), Env er w' → Keeps w w' → NumsV w' .i64 v xs → ValsOk (kindsP st) xs →
      Calls Tryz.prog (fnOf st) (#[v] ++ lb) w' fun e w2 => WordsOut w' e w2 (buildP st xs) := by
  cases st with
  | bad => exact absurd rfl hb
  | nop => exact ⟨#[], hF, fun er w' v xs _ _ _ _ => build_nop v w'⟩
  | li =>
    refine ⟨#[], hF, fun er w' v xs _ _ hv ho => build_li v xs w' hv ho.1 ?_ ?_⟩
    · have := ho.2 0 regK _ rfl (getD_of xs 0 (by rw [ho.1]; decide))
      simpa [okVal, regK] using this
    · have := ho.2 1 (numK (-2147483648) 4294967295) _ rfl (getD_of xs 1 (by rw [ho.1]; decide))
      simp [okVal, numK] at this
      rw [List.getD_eq_getElem?_getD]
      omega
  | la =>
    refine ⟨#[], hF, fun er w' v xs _ _ hv ho => build_la v xs w' hv (by rw [ho.1]; decide) ?_⟩
    have := ho.2 0 regK _ rfl (getD_of xs 0 (by rw [ho.1]; decide))
    simpa [okVal, regK] using this
  | word =>
    refine ⟨#[], hF, fun er w' v xs _ _ hv ho => build_word v xs w' hv (by rw [ho.1]; decide) ?_⟩
    have := ho.2 0 (numK (-2147483648) 4294967295) _ rfl (getD_of xs 0 (by rw [ho.1]; decide))
    simp [okVal, numK] at this
    rw [List.getD_eq_getElem?_getD]
    omega
  | space =>
    refine ⟨#[], hF, fun er w' v xs _ _ hv ho => build_space v xs w' hv (by rw [ho.1]; decide) ?_⟩
    have := ho.2 0 (numK 0 512) _ rfl (getD_of xs 0 (by rw [ho.1]; decide))
    simp [okVal, numK] at this
    rw [List.getD_eq_getElem?_getD]
    omega
  | ins op =>
    obtain ⟨b5, b6, e, h5, h6⟩ := hF
    refine ⟨#[.pointer (some ⟨b5, 0, none⟩), .pointer (some ⟨b6, 0, none⟩)], e, fun er w' v xs E hk hv ho => ?_⟩
    have g5 := hk _ _ _ h5 (by decide) (by decide) (by decide)
    have g6 := hk _ _ _ h6 (by decide) (by decide) (by decide)
    refine build_ins v xs op b5 b6 er w' E hv (by rw [ho.1, kinds_ins]) (g5.cell 0) ?_
    intro j x hx
    rw [g6.cell j]
    match j, hx with
    | 0, hx => simp at hx; simp [hx]
    | 1, hx => simp at hx; simp [hx]
    | 2, hx => simp at hx; simp [hx]
    | 3, hx => simp at hx; simp [hx]
end Go.Proofs.YtecmeegnjjhilaaGreatDoor
