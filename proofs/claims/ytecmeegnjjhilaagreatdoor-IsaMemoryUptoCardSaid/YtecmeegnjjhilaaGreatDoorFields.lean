/- The plain law of the coding: words and instructions there and back; a word's bits are its fields. -/
import Derived.Test.YtecmeegnjjhilaaGreatDoorCode
namespace Go.Proofs.YtecmeegnjjhilaaGreatDoor
open Go.RowKit
/-- An instruction that is one, field by field. -/
theorem check_fields (i : Ins) (h : checkC i = 0) : formOf i.op ≠ 0 ∧ fitsB i.a (usesOf (formOf i.op)).a = true ∧ fitsB i.b (usesOf (formOf i.op)).b = true ∧ fitsB i.c (usesOf (formOf i.op)).c = true ∧ (usesOf (formOf i.op)).lo ≤ i.imm ∧ i.imm ≤ (usesOf (formOf i.op)).hi := by
  unfold checkC at h
  simp only at h
  split at h
  · omega
  · rename_i hf
    split at h
    · rename_i hh
      simp only [Bool.and_eq_true, decide_eq_true_eq] at hh
      exact ⟨hf, hh.1.1.1.1, hh.1.1.1.2, hh.1.1.2, hh.1.2, hh.2⟩
    · omega
theorem dec_parts (n : Int) (h : decC n = 0) : checkC (decRaw n) = 0 ∧ encW (decRaw n) = n := by
  unfold decC at h
  split at h
  · omega
  · split at h
    · assumption
    · omega
/-- A word that is taken: it is the instruction's word, and its bits are its fields. -/
theorem dec_bits (n : Int) (h : decC n = 0) : checkC (decI n) = 0 ∧ encR (decI n) = n ∧ (decI n).op = n / 16777216 ∧ (decI n).a = n / 1048576 % 16 ∧ (decI n).b = n / 65536 % 16 ∧
    (formOf (decI n).op = 1 → (decI n).c = n / 4096 % 16 ∧ n % 4096 = 0 ∧ (decI n).imm = 0) ∧ (formOf (decI n).op ≠ 1 → (decI n).imm % 65536 = n % 65536 ∧ (decI n).c = 0) := by
  obtain ⟨hc, he⟩ := dec_parts n h
  rw [dec_good n h]
  refine ⟨hc, by unfold encR; rw [if_pos hc]; exact he, rfl, rfl, rfl, fun hf => ?_, fun hf => ?_⟩
  · have hop : (decRaw n).op = n / 16777216 := rfl
    rw [hop] at hf
    have e : (decRaw n).c = n / 4096 % 16 ∧ (decRaw n).imm = 0 := by
      unfold decRaw
      simp only [hf]
      exact ⟨rfl, rfl⟩
    refine ⟨e.1, ?_, e.2⟩
    unfold encW at he
    rw [e.1, e.2, show (decRaw n).op = n / 16777216 from rfl, show (decRaw n).a = n / 1048576 % 16 from rfl, show (decRaw n).b = n / 65536 % 16 from rfl] at he
    omega
  · have hop : (decRaw n).op = n / 16777216 := rfl
    rw [hop] at hf
    have hu : (usesOf (formOf (n / 16777216))).c = false := by simpa [usesOf] using hf
    unfold decRaw
    simp only [hu, Bool.false_eq_true, if_false]
    refine ⟨?_, trivial⟩
    split <;> omega
end Go.Proofs.YtecmeegnjjhilaaGreatDoor
