/- The plain law of the coding: words and instructions there and back; a word's bits are its fields. -/
import Derived.Test.YtecmeegnjjhilaaGreatDoorCode
namespace Go.Proofs.YtecmeegnjjhilaaGreatDoor
open Go.RowKit

/-- An instruction that is one, field by field. -/
theorem check_fields (i : Ins) (h : checkC i = 0) : formOf i.op ≠ 0 ∧ fitsB i.a (usesOf (formOf i.op)).a = true ∧ fitsB i.b (usesOf (formOf i.op)).b = true ∧ fitsB i.c (usesOf (formOf i.op)).c = true ∧ (usesOf (formOf i.op)).lo ≤ i.imm ∧ i.imm ≤ (usesOf (formOf i.op)).hi := by
  unfold checkC at h
  simp only at h
  split at h
  · omega
  · rename_i hf
    split at h
    · rename_i hh
      simp only [Bool.and_eq_true, decide_eq_true_eq] at hh
      exact ⟨hf, hh.1.1.1.1, hh.1.1.1.2, hh.1.1.2, hh.1.2, hh.2⟩
    · omega
theorem dec_parts (n : Int) (h : decC n = 0) : checkC (decRaw n) = 0 ∧ encW (decRaw n) = n := by
  unfold decC at h
  split at h
  · omega
  · split at h
    · assumption
    · omega
/-- A word that is taken: it is the instruction's word, and its bits are its fields. -/
theorem dec_bits (n : Int) (h : decC n = 0) : checkC (decI n) = 0 ∧ encR (decI n) = n ∧ (decI n).op = n / 16777216 ∧ (decI n).a = n / 1048576 % 16 ∧ (decI n).b = n / 65536 % 16 ∧
    (formOf (decI n).op = 1 → (decI n).c = n / 4096 % 16 ∧ n % 4096 = 0 ∧ (decI n).imm = 0) ∧ (formOf (decI n).op ≠ 1 → (decI n).imm % 65536 = n % 65536 ∧ (decI n).c = 0) := by
  obtain ⟨hc, he⟩ := dec_parts n h
  rw [dec_good n h]
  refine ⟨hc, by unfold encR; rw [if_pos hc]; exact he, rfl, rfl, rfl, fun hf => ?_, fun hf => ?_⟩
  · have hop : (decRaw n).op = n / 16777216 := rfl
    rw [hop] at hf
    have e : (decRaw n).c = n / 4096 % 16 ∧ (decRaw n).imm = 0 := by
      unfold decRaw
      simp only [hf]
      exact ⟨rfl, rfl⟩
    refine ⟨e.1, ?_, e.2⟩
    unfold encW at he
    rw [e.1, e.2, show (decRaw n).op = n / 16777216 from rfl, show (decRaw n).a = n / 1048576 % 16 from rfl, show (decRaw n).b = n / 65536 % 16 from rfl] at he
    omega
  · have hop : (decRaw n).op = n / 16777216 := rfl
    rw [hop] at hf
    have hu : (usesOf (formOf (n / 16777216))).c = false := by simpa [usesOf] using hf
    unfold decRaw
    simp only [hu, Bool.false_eq_true, if_false]
    refine ⟨?_, trivial⟩
    split <;> omega
/-- An instruction that is taken comes back from its word. -/
theorem enc_back (i : Ins) (h : checkC i = 0) : decC (encR i) = 0 ∧ decI (encR i) = i := by
  obtain ⟨o0, o1, a0, a1, b0, b1, c0, c1, i0, i1⟩ := check_ok i h
  obtain ⟨hf, _, _, hc, hl, hh⟩ := check_fields i h
  have hap := check_apart i h
  have hr : encR i = encW i := if_pos h
  rw [hr]
  have e1 : encW i / 16777216 = i.op := by unfold encW; omega
  have e2 : encW i / 1048576 % 16 = i.a := by unfold encW; omega
  have e3 : encW i / 65536 % 16 = i.b := by unfold encW; omega
  have hraw : decRaw (encW i) = i := by
    have e0 : decRaw (encW i) = ⟨i.op, i.a, i.b, if (usesOf (formOf i.op)).c then encW i / 4096 % 16 else 0, if (usesOf (formOf i.op)).c then 0 else if (usesOf (formOf i.op)).signed then (encW i + 32768) % 65536 - 32768 else encW i % 65536⟩ := by
      unfold decRaw
      simp only [e1, e2, e3]
    rw [e0]
    obtain ⟨op, a, b, c, imm⟩ := i
    simp only at *
    by_cases h1 : formOf op = 1
    · rw [h1] at hl hh ⊢
      have him : imm = 0 := by
        have hl' : (0 : Int) ≤ imm := hl
        have hh' : imm ≤ 0 := hh
        omega
      subst him
      have hu1 : (usesOf 1).c = true := rfl
      rw [if_pos hu1, if_pos hu1]
      have : encW ⟨op, a, b, c, 0⟩ / 4096 % 16 = c := by unfold encW; simp only; omega
      rw [this]
    · have hu : (usesOf (formOf op)).c = false := by simpa [usesOf] using h1
      have hi : (usesOf (formOf op)).imm = true := by simpa [usesOf] using h1
      have hc0 : c = 0 := by
        rw [hu] at hc
        simpa [fitsB] using hc
      subst hc0
      rw [hu, if_neg (by decide), if_neg (by decide)]
      unfold Uses.lo at hl
      unfold Uses.hi at hh
      rw [if_pos hi] at hl hh
      split at hl
      · rename_i hs
        rw [if_pos hs] at hh
        rw [if_pos hs]
        have : (encW ⟨op, a, b, 0, imm⟩ + 32768) % 65536 - 32768 = imm := by unfold encW; simp only; omega
        rw [this]
      · rename_i hs
        rw [if_neg hs] at hh
        rw [if_neg hs]
        have : encW ⟨op, a, b, 0, imm⟩ % 65536 = imm := by unfold encW; simp only; omega
        rw [this]
  have h0 : decC (encW i) = 0 := by
    unfold decC
    rw [e1, if_neg hf, hraw]
    exact if_pos ⟨h, rfl⟩
  exact ⟨h0, by rw [dec_good _ h0, hraw]⟩
end Go.Proofs.YtecmeegnjjhilaaGreatDoor
