/- ferrylaw04.ours: the instruction's fields, handed on. -/
import Derived.Test.YtecmeegnjjhilaaGreatDoorCode
namespace Go.Proofs.YtecmeegnjjhilaaGreatDoor
open Go.RowKit

set_option maxHeartbeats 1000000 in
set_option maxRecDepth 100000 in
theorem ours_any (i : Ins) (w : World) : Calls Tryz.prog 20 #[i.val] w fun e w' => e = .returned i.val ∧ Below w.heap.size w w' := by
  obtain ⟨op, a, b, c, imm⟩ := i
  unfold Ins.val
  go_enter Tryz.func20, Tryz.ntmps20
  go_wp2
  refine bodyPost_ret (v := .agg #[.int .i64 op, .int .i64 a, .int .i64 b, .int .i64 c, .int .i64 imm]) (by simp [results, Tryz.results20, go_sem]) rfl ⟨rfl, ?_⟩
  exact ((Below.refl _ _).alloc (Nat.le_refl _) _).alloc (by simp) _
end Go.Proofs.YtecmeegnjjhilaaGreatDoor
