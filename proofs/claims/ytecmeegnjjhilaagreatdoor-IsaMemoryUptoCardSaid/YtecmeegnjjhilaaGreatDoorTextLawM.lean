/- isa.Parse: the instruction whose print a text is. -/
import Derived.Test.YtecmeegnjjhilaaGreatDoorLab
import Derived.Test.YtecmeegnjjhilaaGreatDoorPrint
import Derived.Test.YtecmeegnjjhilaaGreatDoorAtoi
import Derived.Test.YtecmeegnjjhilaaGreatDoorAsp
import Derived.Test.YtecmeegnjjhilaaGreatDoorLine
import Derived.Lib.SplitLaws
import Derived.Test.YtecmeegnjjhilaaGreatDoorRefEM
namespace Go.Proofs.YtecmeegnjjhilaaGreatDoor
open Go.RowKit
def hd (r : List ByteArray) : List UInt8 := (r.headD ⟨#[]⟩).data.toList
def g2 (u : Uses) (f : Ins) (r : List ByteArray) : Ins × List ByteArray := if u.c then ({ f with c := regP (hd r) }, r.tail) else (f, r)
def g1 (u : Uses) (f : Ins) (r : List ByteArray) : Ins × List ByteArray := if u.b then g2 u { f with b := regP (hd r) } r.tail else g2 u f r
def g0 (u : Uses) (f : Ins) (r : List ByteArray) : Ins × List ByteArray := if u.a then g1 u { f with a := regP (hd r) } r.tail else g1 u f r
def parseOk (s : ByteArray) (i : Ins) : Prop := checkC i = 0 ∧ printT i = s.data.toList
instance (s : ByteArray) (i : Ins) : Decidable (parseOk s i) := by unfold parseOk; infer_instance
end Go.Proofs.YtecmeegnjjhilaaGreatDoor

/- The plain law of printing and reading: what is printed is read back. -/
namespace Go.Proofs.YtecmeegnjjhilaaGreatDoor
open Go.RowKit
theorem dec_ne (u : Nat) : Lib.decDigits u ≠ [] := by
  rw [Lib.decDigits]
  split <;> simp
theorem dec_digit (u : Nat) : ∀ c ∈ Lib.decDigits u, 48 ≤ c.toNat ∧ c.toNat ≤ 57 := by
  induction u using Nat.strongRecOn with
  | ind u ih =>
    intro c hc
    by_cases h : u < 10
    · rw [Lib.decDigits_one h] at hc
      simp only [List.mem_cons, List.not_mem_nil, or_false] at hc
      subst hc
      simp [UInt8.toNat_ofNat']; omega
    · rw [Lib.decDigits, dif_neg h] at hc
      rcases List.mem_append.1 hc with hc | hc
      · exact ih (u / 10) (by omega) c hc
      · simp only [List.mem_cons, List.not_mem_nil, or_false] at hc
        subst hc
        simp [UInt8.toNat_ofNat']; omega
theorem reg_back (n : Int) (h0 : 0 ≤ n) (h1 : n ≤ 15) : regP (regT n) = n := by
  have h : ([0, 1, 2, 3, 4, 5, 6, 7, 8, 9, 10, 11, 12, 13, 14, 15] : List Int).all (fun n => regP (regT n) == n) = true := by decide +kernel
  have := List.all_eq_true.1 h n (by simp; omega)
  simpa using this
/-- The pieces of a print: none is empty, none holds a blank. -/
def Piece (l : List UInt8) : Prop := (32 : UInt8) ∉ l ∧ l ≠ []
theorem piece_word (op : Int) (h : formOf op ≠ 0) : Piece (opRow op).word := by
  have ht : table.all (fun r => decide ((32 : UInt8) ∉ r.word) && decide (r.word ≠ [])) = true := by decide +kernel
  unfold formOf opRow look at h
  unfold opRow look
  cases hf : table.find? (fun r => r.op == op) with
  | none => rw [hf] at h; exact absurd rfl h
  | some r =>
    have := List.all_eq_true.1 ht r (List.mem_of_find?_eq_some hf)
    simp only [Bool.and_eq_true, decide_eq_true_eq] at this
    exact this
theorem piece_dec (u : Nat) (b : UInt8) (hb : b ≠ 32) : Piece (b :: Lib.decDigits u) := by
  refine ⟨fun h => ?_, by simp⟩
  rcases List.mem_cons.1 h with h | h
  · exact hb h.symm
  · have := dec_digit u 32 h
    have e : (32 : UInt8).toNat = 32 := rfl
    omega
theorem piece_itoa (n : Int) : Piece (Lib.itoa n) := by
  unfold Lib.itoa
  split
  · exact piece_dec _ 45 (by decide)
  · refine ⟨fun h => ?_, dec_ne _⟩
    have := dec_digit _ 32 h
    have e : (32 : UInt8).toNat = 32 := rfl
    omega
theorem piece_field (i : Ins) : ∀ x ∈ fieldsT i, Piece x := by
  intro x hx
  unfold fieldsT at hx
  simp only [List.mem_append] at hx
  rcases hx with ((hx | hx) | hx) | hx
  all_goals
    split at hx
    · simp only [List.mem_cons, List.not_mem_nil, or_false] at hx
      rw [hx]
      first | exact piece_dec _ 114 (by decide) | exact piece_itoa _
    · cases hx
theorem pieces (i : Ins) (hc : checkC i = 0) : ∀ l ∈ (opRow i.op).word :: fieldsT i, Piece l := by
  intro l hl
  rcases List.mem_cons.1 hl with rfl | hl
  · exact piece_word i.op (check_fields i hc).1
  · exact piece_field i l hl
end Go.Proofs.YtecmeegnjjhilaaGreatDoor
