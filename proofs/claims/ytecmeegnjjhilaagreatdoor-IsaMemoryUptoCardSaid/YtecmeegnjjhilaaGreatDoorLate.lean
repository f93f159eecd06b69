/- A late label put down: what the memory is behind it. -/
import Derived.Test.YtecmeegnjjhilaaGreatDoorSrc
namespace Go.Proofs.YtecmeegnjjhilaaGreatDoor
open Go.RowKit
open Go.Maps
theorem late_store {w3 w4 : World} {M : Nat} {st : Src} {ls : List Late} {l : Late} {AWs ALs : Option Addr} {cWs cLs gg cap : Nat} {o : Obj}
    (hSb : Blk w3 (M + 1) 106 #[.slice AWs st.words.length cWs, .map (some M), .slice ALs ls.length cLs])
    (hSw : w3.ownsRow (M + 2) 28 1 (.slice AWs st.words.length cWs) st.words.length (w32 st.words))
    (hSl : w3.ownsRow (M + 2) 112 4 (.slice ALs ls.length cLs) ls.length (lencs ls))
    (hSm : w3.ownsMap Tryz.prog 9 (plainElem Tryz.prog 3) M st.labels.length (labsD st.labels))
    (hown4 : w4.ownsRow (M + 2) 112 4 (.slice (some ⟨gg, 0, none⟩) (ls.length + 1) cap) (ls.length + 1) (lencs ls ++ l.enc))
    (hgrow : (w3.alloc o).drew.grownBy w4 (Value.slice ALs ls.length cLs).ownBlock) :
    SrcAt (w4.setCell ⟨M + 1, 2, none⟩ (.slice (some ⟨gg, 0, none⟩) (ls.length + 1) cap)) M { st with lates := ls ++ [l] } ∧
    (∀ w, Keeps w w3 → Keeps w (w4.setCell ⟨M + 1, 2, none⟩ (.slice (some ⟨gg, 0, none⟩) (ls.length + 1) cap))) ∧
    (∀ w0, Below M w0 w3 → Below M w0 (w4.setCell ⟨M + 1, 2, none⟩ (.slice (some ⟨gg, 0, none⟩) (ls.length + 1) cap))) ∧
    w3.heap.size ≤ (w4.setCell ⟨M + 1, 2, none⟩ (.slice (some ⟨gg, 0, none⟩) (ls.length + 1) cap)).heap.size ∧
    ∀ base v n xs, w3.ownsRow base 3 1 v n xs → M + 1 < base → (w4.setCell ⟨M + 1, 2, none⟩ (.slice (some ⟨gg, 0, none⟩) (ls.length + 1) cap)).ownsRow base 3 1 v n xs := by
  have nS : some (M + 1) ≠ (Value.slice ALs ls.length cLs).ownBlock := own_apart_base hSl (by omega)
  have hM3 : M + 1 < w3.heap.size := hSb.lt
  have hsz : w3.heap.size ≤ w4.heap.size := by have := hgrow.size; simp at this; omega
  have hB4 : Blk w4 (M + 1) 106 #[.slice AWs st.words.length cWs, .map (some M), .slice ALs ls.length cLs] := ((hSb.alloc o).drewN 1).grown hgrow nS
  have hW4 : w4.ownsRow (M + 2) 28 1 (.slice AWs st.words.length cWs) st.words.length (w32 st.words) := ((hSw.alloc o).drew).kept hgrow (own_ne (hSw.alloc o).drew (hSl.alloc o).drew (by decide))
  have hm4 : w4.ownsMap Tryz.prog 9 (plainElem Tryz.prog 3) M st.labels.length (labsD st.labels) := ((hSm.alloc o).drew).kept hgrow (own_apart_base hSl (by omega))
  refine ⟨?_, ?_, ?_, ?_, ?_⟩
  · refine ⟨AWs, cWs, some ⟨gg, 0, none⟩, cap, ?_, ownsRow_setCell_below hW4 (by simp) _, ?_, hm4.setCell (by simp) _⟩
    · have := hB4.store 2 (.slice (some ⟨gg, 0, none⟩) (ls.length + 1) cap)
      rw [List.length_append]
      exact this
    · rw [List.length_append, lencs_append]
      refine ownsRow_setCell_below ?_ (by simp) _
      rw [show lencs [l] = l.enc from by simp [lencs]]
      exact hown4
  · intro w hk
    exact ((((hk.alloc o).drew).late (hSl.alloc o).drew hgrow)).store hB4 2 _
  · intro w0 hb
    exact (((hb.alloc (by omega) o).drew).grown hgrow (by simp; omega) (fun k hk => by have := own_from hSl k hk; omega)).setCell (by simp) _
  · simp only [World.size_setCell]
    exact hsz
  · intro base v n xs h hb
    exact ownsRow_setCell_below (((h.alloc o).drew).kept hgrow (own_ne (h.alloc o).drew (hSl.alloc o).drew (by decide))) (by simp; omega) _

end Go.Proofs.YtecmeegnjjhilaaGreatDoor
