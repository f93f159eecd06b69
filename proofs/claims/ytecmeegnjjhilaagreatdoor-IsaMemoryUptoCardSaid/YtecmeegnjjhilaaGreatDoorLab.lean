/- The plain line: words, labels; what a map of labels answers; a slice of words that is cut. -/
import Derived.Test.YtecmeegnjjhilaaGreatDoorFn
namespace Go.Proofs.YtecmeegnjjhilaaGreatDoor
open Go.RowKit
open Go.Maps
theorem snocInd {α : Type} {C : List α → Prop} (h0 : C []) (hs : ∀ r x, C r → C (r ++ [x])) (l : List α) : C l := by
  have h : ∀ m : List α, C m.reverse := by
    intro m
    induction m with
    | nil => exact h0
    | cons x r ih => rw [List.reverse_cons]; exact hs _ x ih
  have := h l.reverse
  rwa [List.reverse_reverse] at this
/-- The label's last address. -/
def lookL (ls : List (List UInt8 × Int)) (l : List UInt8) : Option Int := (ls.reverse.find? (fun x => x.1 == l)).map (·.2)
theorem lookL_snoc (ls : List (List UInt8 × Int)) (x : List UInt8 × Int) (l : List UInt8) : lookL (ls ++ [x]) l = if x.1 = l then some x.2 else lookL ls l := by
  unfold lookL
  rw [List.reverse_append, List.reverse_singleton, List.singleton_append, List.find?_cons]
  by_cases h : x.1 = l
  · rw [if_pos h, show (x.1 == l) = true from by simpa using h]; rfl
  · rw [if_neg h, show (x.1 == l) = false from by simpa using h]
theorem labs_isMap (ls : List (List UInt8 × Int)) : IsMap (labsD ls) := by
  refine snocInd (C := fun ls => IsMap (labsD ls)) isMap_empty (fun r x ih => ?_) ls
  rw [labsD_snoc]; exact ih.put _ _
theorem labs_has (ls : List (List UInt8 × Int)) (l : List UInt8) : has (labsD ls) (.string l) = (lookL ls l).isSome := by
  refine snocInd (C := fun ls => has (labsD ls) (.string l) = (lookL ls l).isSome) rfl (fun r x ih => ?_) ls
  · rw [labsD_snoc, lookL_snoc]
    by_cases h : x.1 = l
    · rw [if_pos h, h, has_put_same (labs_isMap r) (by simp [WideAt.IsKeyLit])]; rfl
    · rw [if_neg h, has_put_other (fun e => h (by injection e with e; exact e.symm)), ih]
theorem labs_at (ls : List (List UInt8 × Int)) (l : List UInt8) : (labsD ls).atKey (.string l) (.lit (.int .i64 0)) = .lit (.int .i64 ((lookL ls l).getD 0)) := by
  refine snocInd (C := fun ls => (labsD ls).atKey (.string l) (.lit (.int .i64 0)) = .lit (.int .i64 ((lookL ls l).getD 0))) rfl (fun r x ih => ?_) ls
  · rw [labsD_snoc, lookL_snoc]
    by_cases h : x.1 = l
    · rw [if_pos h, h, atKey_put_same (labs_isMap r) (by simp [WideAt.IsKeyLit])]; rfl
    · rw [if_neg h, atKey_put_other (fun e => h (by injection e with e; exact e.symm)), ih]

theorem spans_count (p : Nat → Bool) (s : ByteArray) : ∀ (f pos : Nat) (st : Option Nat) (acc : List (Nat × Nat)), (Lib.spansFromP p s f pos st acc).1.length ≤ acc.length + f
  | 0, _, _, _ => by simp [Lib.spansFromP]
  | f + 1, pos, st, acc => by
    unfold Lib.spansFromP
    split
    · split
      · cases st with
        | none => have := spans_count p s f (pos + (Utf8.decode s pos).2) none acc; simp only; omega
        | some a => have := spans_count p s f (pos + (Utf8.decode s pos).2) none (acc ++ [(a, pos)]); simp only [List.length_append, List.length_cons, List.length_nil] at this ⊢; omega
      · cases st with
        | none => have := spans_count p s f (pos + (Utf8.decode s pos).2) (some pos) acc; simp only; omega
        | some a => have := spans_count p s f (pos + (Utf8.decode s pos).2) (some a) acc; simp only; omega
    · simp
theorem fields_count (p : Nat → Bool) (s : ByteArray) : (Lib.goFieldsP p s).length ≤ s.size + 1 := by
  unfold Lib.goFieldsP Lib.spansOfP Lib.closeSpans
  have := spans_count p s s.size 0 none []
  rw [List.length_map]
  split <;> simp_all <;> omega
theorem fields_size (p : Nat → Bool) (s : ByteArray) : ∀ x ∈ Lib.goFieldsP p s, x.size ≤ s.size := by
  intro x hx
  unfold Lib.goFieldsP at hx
  obtain ⟨y, _, rfl⟩ := List.mem_map.1 hx
  rw [ByteArray.size_extract]
  omega
theorem cut_size (s : ByteArray) (l : List UInt8) : (⟨(Lib.cut s.data.toList l).1.toArray⟩ : ByteArray).size ≤ s.size := by
  rw [Lib.size_eq, Lib.size_eq]
  unfold Lib.cut
  split
  · simp
    omega
  · simp

/-- The words of a line. -/
def fieldsL (l : List UInt8) : List ByteArray := Lib.goFieldsP blankR ⟨(Lib.cut l [59]).1.toArray⟩
def labelsP (at_ : Int) : List ByteArray → List (List UInt8 × Int) → Nat × List (List UInt8 × Int) × List ByteArray
  | [], ls => (0, ls, [])
  | w :: r, ls => if Lib.hasSuffix w.data.toList [58] = true then
      (if nameP (Lib.trimSuffix w.data.toList [58]) = true then
        (if (lookL ls (Lib.trimSuffix w.data.toList [58])).isSome = true then (12, ls, w :: r) else labelsP at_ r (ls ++ [(Lib.trimSuffix w.data.toList [58], at_)]))
       else (18, ls, w :: r))
    else (0, ls, w :: r)
def restP (num : Int) (st : Src) : List ByteArray → Src × Nat
  | [] => (st, 0)
  | w :: ops => if stmP w.data.toList = .bad ∨ ops.length ≠ (kindsP (stmP w.data.toList)).length then (st, 18) else
     match opsP st.words.length num ((kindsP (stmP w.data.toList)).zip (ops.map fun s => s.data.toList)) [] st.lates with
     | (vs, lts, c) => if c ≠ 0 then (st, c)
       else if 512 < st.words.length + (buildP (stmP w.data.toList) vs).length then (st, 11)
       else ({ words := st.words ++ buildP (stmP w.data.toList) vs, labels := st.labels, lates := lts }, 0)
def lineP (num : Int) (l : List UInt8) (st : Src) : Src × Nat :=
  match labelsP (4 * st.words.length) (fieldsL l) st.labels with
  | (c, ls, r) => if c ≠ 0 then (st, c) else restP num { st with labels := ls } r

theorem StrsV.cut {w : World} {b o n c : Nat} {x : ByteArray} {r : List ByteArray} (h : StrsV w (.slice (some ⟨b, o, none⟩) (n + 1) c) (x :: r)) :
    StrsV w (.slice (if c = 1 then some ⟨b, o, none⟩ else some ⟨b, o + 1, none⟩) n (c - 1)) r := by
  obtain ⟨A', c', e, hc, hs⟩ := h
  injection e with e1 e2 e3
  subst e1 e3
  simp only [List.length_cons] at e2 hc hs
  have e4 : r.length = n := by omega
  refine ⟨_, c - 1, by rw [e4], by omega, fun hn => ?_⟩
  rw [if_neg (by omega)]
  obtain ⟨b', o', cur, e5, hB, hcur⟩ := hs (by omega)
  injection e5 with e5
  injection e5 with e6 e7 _
  subst e6 e7
  refine ⟨b, o + 1, cur, rfl, hB, fun i s hi => ?_⟩
  rw [Nat.add_assoc, Nat.add_comm 1 i]
  exact hcur (i + 1) s (by simpa using hi)
theorem StrsV.of_own {w : World} {base : Nat} {v : Value} {ss : List ByteArray} (h : w.ownsRow base 9 1 v ss.length (ss.map Value.string)) : StrsV w v ss := by
  rcases h.2 with ⟨rfl, h0⟩ | ⟨g, cap, cur, rfl, hb, hh, hcap, _, _, htake⟩
  · have : ss = [] := List.eq_nil_of_length_eq_zero h0
    subst this
    exact ⟨none, 0, rfl, Nat.le_refl _, fun hn => absurd hn (by simp)⟩
  · refine ⟨_, cap, rfl, hcap, fun _ => ⟨g, 0, cur, rfl, hh, fun i s hi => ?_⟩⟩
    have hu : (ss.map Value.string)[i]? = some (.string s) := by simp [hi]
    rw [← htake, List.getElem?_take] at hu
    rw [Nat.zero_add]
    split at hu
    · simpa using hu
    · cases hu

theorem build_len (st : Stm) (xs : List Int) (h : ValsOk (kindsP st) xs) : (buildP st xs).length ≤ 512 := by
  cases st with
  | space =>
    have := h.2 0 (numK 0 512) _ rfl (getD_of xs 0 (by rw [h.1]; decide))
    simp [okVal, numK] at this
    unfold buildP
    rw [List.length_replicate, List.getD_eq_getElem?_getD]
    omega
  | _ => simp [buildP]
/-- What the operands answer, under the statement's own kinds. -/
theorem ops_fit (at_ : Nat) (num : Int) (st : Stm) (r : List ByteArray) (ls : List Late) (h : r.length = (kindsP st).length)
    (h0 : (opsP at_ num ((kindsP st).zip (r.map fun s => s.data.toList)) [] ls).2.2 = 0) :
    ValsOk (kindsP st) (opsP at_ num ((kindsP st).zip (r.map fun s => s.data.toList)) [] ls).1 ∧ (opsP at_ num ((kindsP st).zip (r.map fun s => s.data.toList)) [] ls).2.1.length ≤ ls.length + 4 := by
  have := opsP_ok at_ num ((kindsP st).zip (r.map fun s => s.data.toList)) [] [] ls ⟨rfl, fun j k x h => by simp at h⟩ h0
  rw [List.nil_append, List.map_fst_zip (by simp [h])] at this
  refine ⟨this.1, Nat.le_trans this.2 ?_⟩
  rw [List.length_zip, List.length_map]
  have := kinds_le st
  omega
end Go.Proofs.YtecmeegnjjhilaaGreatDoor
