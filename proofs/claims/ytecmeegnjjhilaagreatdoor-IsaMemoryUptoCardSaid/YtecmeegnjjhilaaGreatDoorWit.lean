/- A world in which all thirty listed variables lie as a row lists them: for the witness of a card. -/
import Derived.Test.YtecmeegnjjhilaaGreatDoorSameM
import Derived.Lay
import Derived.LaidHandle
namespace Go.Proofs.YtecmeegnjjhilaaGreatDoor
open Go.RowKit Go.ChangeShapes
/-- The settled world, the handle of the type of errors in its variable. -/
noncomputable def handW (os : Os) : World :=
  let w0 := World.holding Tryz.prog os ⟨#[], #[], []⟩
  { w0 with heap := w0.heap.modify 20 fun
      | .cells _ t frozen => .cells #[.iface 190 (.agg #[.pointer (some ⟨32, 33, none⟩)])] t frozen
      | o => o }
noncomputable def witW (os : Os) : World := (handW os).layVars Tryz.prog L29
theorem witW_os (os : Os) : (witW os).os = os := World.layVars_os _ _ _
theorem filter30 : (L30.filter fun x => x.2.handleName?.isNone) = L29 := by kernel_rfl
theorem wit_met (os : Os) (args : Array Value) : laidMetH Tryz.prog L30 ((witW os).forCall (fun _ _ => 0) ⟨#[], args, []⟩).memory := by
  refine laidMetH_of_parts ?_ (by kernel_rfl)
  rw [filter30]
  have e1 : (L29.filter fun x => (L29.map (·.1)).contains x.1) = L29 := List.filter_eq_self.2 fun x hx => List.contains_iff_mem.2 (List.mem_map.2 ⟨x, hx, rfl⟩)
  have e2 : (L29.filter fun x => !(L29.map (·.1)).contains x.1) = [] := List.filter_eq_nil_iff.2 fun x hx => by rw [List.contains_iff_mem.2 (List.mem_map.2 ⟨x, hx, rfl⟩)]; simp
  have h : laidMet Tryz.prog L29 (witW os) := laidMet_layVars (w0 := handW os) (L29.map (·.1)) [] (by rw [e1]; rfl) (by rw [e1]; kernel_rfl) (by rw [e1]; kernel_rfl) (by rw [e2]; exact LaidIn.none)
  exact h.of_heap (by simp [World.memory, World.forCall, Input.heap])
end Go.Proofs.YtecmeegnjjhilaaGreatDoor
