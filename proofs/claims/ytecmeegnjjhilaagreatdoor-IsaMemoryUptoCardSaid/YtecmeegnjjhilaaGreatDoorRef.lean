/- The document's table of ferryref04: Form, Uses, within; what each returns, in the program's own words. -/
import Derived.Test.YtecmeegnjjhilaaGreatDoorCode
namespace Go.Proofs.YtecmeegnjjhilaaGreatDoor
open Go.RowKit
def refF (op : Int) : Int :=
  if 1 ≤ op ∧ op ≤ 15 then 1
  else if op = 16 ∨ (32 ≤ op ∧ op ≤ 37) ∨ (48 ≤ op ∧ op ≤ 53) then 2
  else if 17 ≤ op ∧ op ≤ 19 then 3
  else if op = 20 then 4
  else if op = 54 then 5
  else if op = 55 then 6
  else if op = 64 then 7 else 0
theorem form_small : (List.range 65).all (fun n => formOf (n : Int) == refF (n : Int)) = true := by decide +kernel
theorem refF_eq (op : Int) : formOf op = refF op := by
  by_cases h : 0 ≤ op ∧ op ≤ 64
  · obtain ⟨n, rfl⟩ := Int.eq_ofNat_of_zero_le h.1
    have := List.all_eq_true.1 form_small n (by simp; omega)
    simpa using this
  · have h0 : formOf op = 0 := by
      by_cases h0 : formOf op = 0
      · exact h0
      · have := op_range op h0
        omega
    rw [h0]
    unfold refF
    repeat' split
    all_goals omega

set_option maxHeartbeats 1000000 in
set_option maxRecDepth 100000 in
theorem RForm_any (op : Int) (w : World) : Calls Tryz.prog 12 #[.int .i64 op] w fun e w' => e = .returned (.int .i64 (formOf op)) ∧ w = w' := by
  have hc : op < 1 ∨ (1 ≤ op ∧ op ≤ 15) ∨ op = 16 ∨ (17 ≤ op ∧ op ≤ 19) ∨ op = 20 ∨ (21 ≤ op ∧ op ≤ 31) ∨ (32 ≤ op ∧ op ≤ 37) ∨ (38 ≤ op ∧ op ≤ 47) ∨ (48 ≤ op ∧ op ≤ 53) ∨ op = 54 ∨ op = 55 ∨ (56 ≤ op ∧ op ≤ 63) ∨ op = 64 ∨ 64 < op := by omega
  rw [refF_eq]
  have go : ∀ c : Int, refF op = c → (Calls Tryz.prog 12 #[.int .i64 op] w fun e w' => e = .returned (.int .i64 c) ∧ w = w') → (Calls Tryz.prog 12 #[.int .i64 op] w fun e w' => e = .returned (.int .i64 (refF op)) ∧ w = w') := fun c h k => by rw [h]; exact k
  rcases hc with h | h | h | h | h | h | h | h | h | h | h | h | h | h
  · refine go 0 (by unfold refF; repeat' split; all_goals omega) ?_
    have e1 : (op == 16) = false := by simp; omega
    have e2 : (op == 20) = false := by simp; omega
    have e3 : (op == 54) = false := by simp; omega
    have e4 : (op == 55) = false := by simp; omega
    have e5 : (op == 64) = false := by simp; omega
    clear go
    go_enter Tryz.func12, Tryz.ntmps12
    go_wp2
    go_ret
    exact ⟨rfl, rfl⟩
  · refine go 1 (by unfold refF; repeat' split; all_goals omega) ?_
    clear go
    obtain ⟨h1, h2⟩ := h
    go_enter Tryz.func12, Tryz.ntmps12
    go_wp2
    go_ret
    exact ⟨rfl, rfl⟩
  · subst h
    refine go 2 (by decide) ?_
    clear go
    go_enter Tryz.func12, Tryz.ntmps12
    go_wp2
    go_ret
    exact ⟨rfl, rfl⟩
  · refine go 3 (by unfold refF; repeat' split; all_goals omega) ?_
    obtain ⟨h1, h2⟩ := h
    have e1 : (op == 16) = false := by simp; omega
    clear go
    go_enter Tryz.func12, Tryz.ntmps12
    go_wp2
    go_ret
    exact ⟨rfl, rfl⟩
  · subst h
    refine go 4 (by decide) ?_
    clear go
    go_enter Tryz.func12, Tryz.ntmps12
    go_wp2
    go_ret
    exact ⟨rfl, rfl⟩
  · refine go 0 (by unfold refF; repeat' split; all_goals omega) ?_
    obtain ⟨h1, h2⟩ := h
    have e1 : (op == 16) = false := by simp; omega
    have e2 : (op == 20) = false := by simp; omega
    have e3 : (op == 54) = false := by simp; omega
    have e4 : (op == 55) = false := by simp; omega
    have e5 : (op == 64) = false := by simp; omega
    clear go
    go_enter Tryz.func12, Tryz.ntmps12
    go_wp2
    go_ret
    exact ⟨rfl, rfl⟩
  · refine go 2 (by unfold refF; repeat' split; all_goals omega) ?_
    obtain ⟨h1, h2⟩ := h
    have e1 : (op == 16) = false := by simp; omega
    clear go
    go_enter Tryz.func12, Tryz.ntmps12
    go_wp2
    go_ret
    exact ⟨rfl, rfl⟩
  · refine go 0 (by unfold refF; repeat' split; all_goals omega) ?_
    obtain ⟨h1, h2⟩ := h
    have e1 : (op == 16) = false := by simp; omega
    have e2 : (op == 20) = false := by simp; omega
    have e3 : (op == 54) = false := by simp; omega
    have e4 : (op == 55) = false := by simp; omega
    have e5 : (op == 64) = false := by simp; omega
    clear go
    go_enter Tryz.func12, Tryz.ntmps12
    go_wp2
    go_ret
    exact ⟨rfl, rfl⟩
  · refine go 2 (by unfold refF; repeat' split; all_goals omega) ?_
    obtain ⟨h1, h2⟩ := h
    have e1 : (op == 16) = false := by simp; omega
    clear go
    go_enter Tryz.func12, Tryz.ntmps12
    go_wp2
    go_ret
    exact ⟨rfl, rfl⟩
  · subst h
    refine go 5 (by decide) ?_
    clear go
    go_enter Tryz.func12, Tryz.ntmps12
    go_wp2
    go_ret
    exact ⟨rfl, rfl⟩
  · subst h
    refine go 6 (by decide) ?_
    clear go
    go_enter Tryz.func12, Tryz.ntmps12
    go_wp2
    go_ret
    exact ⟨rfl, rfl⟩
  · refine go 0 (by unfold refF; repeat' split; all_goals omega) ?_
    obtain ⟨h1, h2⟩ := h
    have e1 : (op == 16) = false := by simp; omega
    have e2 : (op == 20) = false := by simp; omega
    have e3 : (op == 54) = false := by simp; omega
    have e4 : (op == 55) = false := by simp; omega
    have e5 : (op == 64) = false := by simp; omega
    clear go
    go_enter Tryz.func12, Tryz.ntmps12
    go_wp2
    go_ret
    exact ⟨rfl, rfl⟩
  · subst h
    refine go 7 (by decide) ?_
    clear go
    go_enter Tryz.func12, Tryz.ntmps12
    go_wp2
    go_ret
    exact ⟨rfl, rfl⟩
  · refine go 0 (by unfold refF; repeat' split; all_goals omega) ?_
    have e1 : (op == 16) = false := by simp; omega
    have e2 : (op == 20) = false := by simp; omega
    have e3 : (op == 54) = false := by simp; omega
    have e4 : (op == 55) = false := by simp; omega
    have e5 : (op == 64) = false := by simp; omega
    clear go
    go_enter Tryz.func12, Tryz.ntmps12
    go_wp2
    go_ret
    exact ⟨rfl, rfl⟩

/-- Is n from lo to hi where the field is used, and 0 where it isn't? -/
def withinB (used : Bool) (n lo hi : Int) : Bool := if used then decide (lo ≤ n) && decide (n ≤ hi) else n == 0
theorem within_any (used : Bool) (n lo hi : Int) (w : World) : Calls Tryz.prog 47 #[.bool used, .int .i64 n, .int .i64 lo, .int .i64 hi] w fun e w' => e = .returned (.bool (withinB used n lo hi)) ∧ w = w' := by
  cases used with
  | false =>
    rw [show withinB false n lo hi = (n == 0) from rfl]
    go_enter Tryz.func47, Tryz.ntmps47
    go_wp2
    go_ret
    exact ⟨rfl, rfl⟩
  | true =>
    by_cases h1 : lo ≤ n
    · rw [show withinB true n lo hi = decide (n ≤ hi) from by simp [withinB, h1]]
      go_enter Tryz.func47, Tryz.ntmps47
      go_wp2
      go_ret
      exact ⟨rfl, rfl⟩
    · rw [show withinB true n lo hi = false from by simp [withinB, h1]]
      go_enter Tryz.func47, Tryz.ntmps47
      go_wp2
      go_ret
      exact ⟨rfl, rfl⟩
end Go.Proofs.YtecmeegnjjhilaaGreatDoor
