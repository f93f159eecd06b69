/- strconv.Atoi at a text that is neither a number nor out of range: an error. -/
import Derived.Test.YtecmeegnjjhilaaGreatDoorBase
import Derived.Test.YtecmeegnjjhilaaGreatDoorShelf
namespace Go.Proofs.YtecmeegnjjhilaaGreatDoor
open Go.RowKit Go.Shelf
/-- Neither a number nor beyond the range. -/
def Neither {α : Type} (r : Lib.NumEnd α) : Prop := (∀ v, r ≠ .ok v) ∧ r ≠ .range
theorem neither_cases {α : Type} (r : Lib.NumEnd α) : (∃ v, r = .ok v) ∨ r = .range ∨ Neither r := by
  cases r with
  | ok v => exact .inl ⟨v, rfl⟩
  | range => exact .inr (.inl rfl)
  | _ => exact .inr (.inr ⟨fun _ h => (by cases h), fun h => (by cases h)⟩)
theorem atoi_bad (s : ByteArray) (hlim : s.size ≤ 281474976710656) (h : Neither (Lib.atoiAll s.data.toList)) (tp : TypeId) (p : Value) (w : World) (hvar : w.var? Tryz.prog "strconv.ErrSyntax" = some #[.iface tp p]) :
    Calls Tryz.prog 52 #[.string s] w fun e w' => ∃ N, e = .returned (.tuple #[.int .i64 0, .iface 175 (.pointer (some ⟨N, 0, none⟩))]) ∧ Below w.heap.size w w' := by
  refine Calls.mono (Any.strconv_Atoi_syntax_var Tryz.laysC172 s hlim ?_ tp p w hvar) ?_
  · revert h
    cases Lib.atoiAll s.data.toList <;> intro h
    all_goals first | rfl | exact absurd rfl (h.1 _) | exact absurd rfl h.2
  · rintro e w' ⟨N, he, _, _, hb⟩
    exact ⟨N, he, hb⟩
end Go.Proofs.YtecmeegnjjhilaaGreatDoor
