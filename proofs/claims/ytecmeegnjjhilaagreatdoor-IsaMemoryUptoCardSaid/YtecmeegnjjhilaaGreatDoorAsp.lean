/- The plain assembler: the lines, the late operands. -/
import Derived.Test.YtecmeegnjjhilaaGreatDoorInv
import Derived.Lib.SplitLaws
namespace Go.Proofs.YtecmeegnjjhilaaGreatDoor
open Go.RowKit
def linesL (s : ByteArray) : List ByteArray := Lib.splitB ⟨#[10]⟩ 0 (Lib.countB s ⟨#[10]⟩) s
/-- The lines from number i on: the state, and the error with its line. -/
def asmLines : Nat → List ByteArray → Src → Src × Option (Nat × Nat)
  | _, [], st => (st, none)
  | i, l :: r, st => if (lineP ((i : Int) + 1) l.data.toList st).2 ≠ 0 then (st, some (i + 1, (lineP ((i : Int) + 1) l.data.toList st).2)) else asmLines (i + 1) r (lineP ((i : Int) + 1) l.data.toList st).1
/-- What a late operand is worth. -/
def lateV (ad : Int) (l : Late) : Int := if l.branch then Int.tdiv (ad - 4 * l.at_ - 4) 4 else ad

theorem split_sizes (sep : ByteArray) (save : Nat) : ∀ (k : Nat) (s : ByteArray), ∀ x ∈ Lib.splitB sep save k s, x.size ≤ s.size
  | 0, s, x, h => by
    simp only [Lib.splitB, List.mem_cons, List.not_mem_nil, or_false] at h
    rw [h]; exact Nat.le_refl _
  | k + 1, s, x, h => by
    unfold Lib.splitB at h
    split at h
    · simp only [List.mem_cons, List.not_mem_nil, or_false] at h
      rw [h]; exact Nat.le_refl _
    · rcases List.mem_cons.1 h with h | h
      · rw [h, ByteArray.size_extract]; omega
      · have := split_sizes sep save k _ x h
        rw [ByteArray.size_extract] at this
        omega
theorem lines_count (s : ByteArray) : (linesL s).length = Lib.countB s ⟨#[10]⟩ + 1 := Lib.splitB_all ⟨#[10]⟩ (by decide) 0 _ s rfl
/-- A word with the late operand's low half. -/
def orLow (x v : Int) : Int := ((x.toNat ||| (v % 65536).toNat : Nat) : Int)
/-- The late operands, in order: the words, or the line whose label is not there. -/
def patchP (labels : List (List UInt8 × Int)) : List Late → List Int → List Int × Option Int
  | [], ws => (ws, none)
  | l :: r, ws => match lookL labels l.label with
    | none => (ws, some l.line)
    | some ad => patchP labels r (ws.set l.at_ (orLow (ws.getD l.at_ 0) (lateV ad l)))
/-- The assembler: the words, or the line and the error's code. -/
def asmP (s : ByteArray) : List Int × Option (Int × Nat) :=
  match asmLines 0 (linesL s) ⟨[], [], []⟩ with
  | (_, some (n, c)) => ([], some ((n : Int), c))
  | (st, none) => match patchP st.labels st.lates st.words with
    | (_, some n) => ([], some (n, 17))
    | (ws, none) => (ws, none)
end Go.Proofs.YtecmeegnjjhilaaGreatDoor
