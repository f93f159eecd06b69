/- The plain law of the assembler's lines: where a text's lines end, what lines one behind the other come to. -/
import Derived.Test.YtecmeegnjjhilaaGreatDoorAsp
namespace Go.Proofs.YtecmeegnjjhilaaGreatDoor
open Go.RowKit

theorem bytes_same {a b : ByteArray} (h : a.data.toList = b.data.toList) : a = b := by
  obtain ⟨⟨a⟩⟩ := a
  obtain ⟨⟨b⟩⟩ := b
  simp only at h
  rw [h]
theorem index_noline : ∀ l : List UInt8, (10 : UInt8) ∉ l → Lib.index l [10] = -1
  | [], _ => by simp [Lib.index]
  | b :: l, h => by
    have hb : b ≠ 10 := fun e => h (by simp [e])
    have hp : ([10] : List UInt8).isPrefixOf (b :: l) = false := by simp [List.isPrefixOf, Ne.symm hb]
    have ih := index_noline l (fun e => h (by simp [e]))
    rw [Lib.index, hp, ih]
    simp
theorem index_line (r : List UInt8) : ∀ l : List UInt8, (10 : UInt8) ∉ l → Lib.index (l ++ 10 :: r) [10] = l.length
  | [], _ => by rw [List.nil_append, Lib.index]; simp [List.isPrefixOf]
  | b :: l, h => by
    have hb : b ≠ 10 := fun e => h (by simp [e])
    have hp : ([10] : List UInt8).isPrefixOf (b :: (l ++ 10 :: r)) = false := by simp [List.isPrefixOf, Ne.symm hb]
    have ih := index_line r l (fun e => h (by simp [e]))
    rw [List.cons_append, Lib.index, hp, ih]
    simp
theorem lines_one (l : List UInt8) (h : (10 : UInt8) ∉ l) : linesL ⟨l.toArray⟩ = [⟨l.toArray⟩] := by
  unfold linesL
  refine Lib.splitB_miss _ _ _ _ ?_
  exact index_noline l h
theorem lines_hit (l r : List UInt8) (h : (10 : UInt8) ∉ l) : linesL ⟨(l ++ 10 :: r).toArray⟩ = ⟨l.toArray⟩ :: linesL ⟨r.toArray⟩ := by
  have hi : Lib.indexB ⟨(l ++ 10 :: r).toArray⟩ ⟨#[10]⟩ = (l.length : Nat) := index_line r l h
  have e1 : (⟨(l ++ 10 :: r).toArray⟩ : ByteArray).extract (l.length + 1) (⟨(l ++ 10 :: r).toArray⟩ : ByteArray).size = ⟨r.toArray⟩ := by
    apply bytes_same
    rw [Lib.extract_to_end]
    simp
  have e0 : (⟨(l ++ 10 :: r).toArray⟩ : ByteArray).extract 0 (l.length + 0) = ⟨l.toArray⟩ := by
    apply bytes_same
    rw [Lib.extract_from_zero]
    simp
  unfold linesL
  rw [Lib.countB_hit _ _ l.length (by decide) hi, Nat.add_comm, Lib.splitB_hit _ _ _ _ l.length hi, e0]
  rw [show ((⟨#[10]⟩ : ByteArray).size) = 1 from rfl, e1]
/-- The text of lines, each with its end. -/
def textL (ls : List (List UInt8)) : List UInt8 := ls.flatMap fun l => l ++ [10]
theorem lines_text : ∀ ls : List (List UInt8), (∀ l ∈ ls, (10 : UInt8) ∉ l) → linesL ⟨(textL ls).toArray⟩ = (ls ++ [[]]).map fun (l : List UInt8) => (⟨l.toArray⟩ : ByteArray)
  | [], _ => lines_one [] (by simp)
  | l :: r, h => by
    have ih := lines_text r (fun x hx => h x (by simp [hx]))
    have e : textL (l :: r) = l ++ 10 :: textL r := by simp [textL]
    rw [e, lines_hit l (textL r) (h l (by simp)), ih]
    simp
/-- Lines one behind the other. -/
theorem asm_append : ∀ (a b : List ByteArray) (i : Nat) (st : Src), (asmLines i a st).2 = none → asmLines i (a ++ b) st = asmLines (i + a.length) b (asmLines i a st).1
  | [], b, i, st, _ => by simp [asmLines]
  | l :: a, b, i, st, h => by
    unfold asmLines at h
    split at h
    · cases h
    · rename_i h0
      rw [List.cons_append]
      rw [asmLines, if_neg h0, asm_append a b (i + 1) _ h, List.length_cons, show i + 1 + a.length = i + (a.length + 1) by omega]
      congr 1
      rw [asmLines, if_neg h0]
end Go.Proofs.YtecmeegnjjhilaaGreatDoor
