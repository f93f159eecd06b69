/- isa.Parse$1: the next word of the rest. -/
import Derived.Test.YtecmeegnjjhilaaGreatDoorLab
import Derived.Test.YtecmeegnjjhilaaGreatDoorPrint
namespace Go.Proofs.YtecmeegnjjhilaaGreatDoor
open Go.RowKit

theorem StrsV.stored {w : World} {B : Nat} {t : TypeId} {cs : Array Value} {v : Value} {ss : List ByteArray} (h : StrsV w v ss) (hB : Blk w B t cs) (ht : 9 ≠ t) (i : Nat) (u : Value) : StrsV (w.setCell ⟨B, i, none⟩ u) v ss := by
  obtain ⟨A, c, e, hc, hs⟩ := h
  refine ⟨A, c, e, hc, fun hn => ?_⟩
  obtain ⟨b, o, cur, hA, hb, hcur⟩ := hs hn
  exact ⟨b, o, cur, hA, hb.far (p := ⟨B, i, none⟩) (hb.apart hB ht) u, hcur⟩
theorem set_other (w : World) (B i : Nat) (u : Value) (g : Nat) (hg : g ≠ B) : (w.setCell ⟨B, i, none⟩ u).heap[g]? = w.heap[g]? := Below.heap_setCell w ⟨B, i, none⟩ u g hg
set_option maxHeartbeats 1000000 in
set_option maxRecDepth 100000 in
theorem next_any (B : Nat) (rs : List ByteArray) (v : Value) (w : World) (hB : Blk w B 54 #[v]) (hv : StrsV w v rs) (hn : rs.length ≤ 1000000000) :
    Calls Tryz.prog 50 #[.pointer (some ⟨B, 0, none⟩)] w fun e w' => e = .returned (.string (rs.headD ⟨#[]⟩)) ∧
      ∃ v', Blk w' B 54 #[v'] ∧ StrsV w' v' rs.tail ∧ Below B w w' ∧ (∀ g, g ≠ B → w'.heap[g]? = w.heap[g]?) ∧ w'.heap.size = w.heap.size := by
  have c0 : w.cell? ⟨B, 0, none⟩ = some v := hB.cell 0
  have f0 : w.frozen? ⟨B, 0, none⟩ = false := hB.frozen 0
  have hlt := hB.lt
  cases rs with
  | nil =>
    obtain ⟨A, c, rfl, _, _⟩ := hv
    simp only [List.length_nil] at c0
    go_enter Tryz.func50, Tryz.ntmps50
    go_wp2_with fail
    go_ret
    exact ⟨rfl, _, hB, ⟨A, c, rfl, Nat.zero_le _, fun h => absurd h (by simp)⟩, Below.refl _ _, fun _ _ => rfl, rfl⟩
  | cons x r =>
    obtain ⟨A, c, rfl, hcl, hcc⟩ := hv
    simp only [List.length_cons] at c0 hcl hcc hn hB
    obtain ⟨b, o, cur, rfl, hb, hcur⟩ := hcc (by omega)
    have hV : StrsV w (.slice (some ⟨b, o, none⟩) (r.length + 1) c) (x :: r) := ⟨_, c, rfl, hcl, fun _ => ⟨b, o, cur, rfl, hb, hcur⟩⟩
    have hcut := hV.cut
    have hx : w.cell? ⟨b, o, none⟩ = some (.string x) := by
      have := hcur 0 x rfl
      rw [Nat.add_zero] at this
      rw [hb.cell]
      exact this
    have hne : b ≠ B := (hb.apart hB (by decide))
    have hbl := hb.lt
    have n1 : (0 : Int) < ((r.length : Int) + 1) := by omega
    have n2 : (1 : Int) ≤ ((r.length : Int) + 1) := by omega
    have n3 : (((r.length : Int) + 1) == 0) = false := by rw [beq_eq_false_iff_ne]; omega
    have n4 : ((r.length : Int) + 1) ≤ (c : Int) := by omega
    clear hV hcc hcur hb
    by_cases h1 : c = 1
    · rw [if_pos h1] at hcut
      have hr0 : r = [] := List.eq_nil_of_length_eq_zero (by omega)
      subst hr0 h1
      go_enter Tryz.func50, Tryz.ntmps50
      go_wp2_with fail
      go_ret
      exact ⟨rfl, _, hB.store 0 _, hcut.stored hB (by decide) 0 _, (Below.refl _ _).setCell (by simp) _, fun g hg => set_other w B 0 _ g hg, by simp⟩
    · rw [if_neg h1] at hcut
      go_enter Tryz.func50, Tryz.ntmps50
      go_wp2_with fail
      go_ret
      exact ⟨rfl, _, hB.store 0 _, hcut.stored hB (by decide) 0 _, (Below.refl _ _).setCell (by simp) _, fun g hg => set_other w B 0 _ g hg, by simp⟩
end Go.Proofs.YtecmeegnjjhilaaGreatDoor
