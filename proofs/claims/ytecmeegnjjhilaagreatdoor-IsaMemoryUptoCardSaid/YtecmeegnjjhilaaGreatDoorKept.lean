/- A list of blocks that are known whole in every world that a law's walk comes to. -/
import Derived.Test.YtecmeegnjjhilaaGreatDoorBase
namespace Go.Proofs.YtecmeegnjjhilaaGreatDoor
open Go.RowKit
/-- W is w with more memory, and the listed blocks lie in it as they are listed. -/
def Kept (w : World) (l : List (Nat × TypeId × Array Value)) (W : World) : Prop := Below w.heap.size w W ∧ ∀ (i : Nat) (x : Nat × TypeId × Array Value), l[i]? = some x → Blk W x.1 x.2.1 x.2.2
section
variable {w W W' : World} {l : List (Nat × TypeId × Array Value)}
theorem Kept.at_ (k : Kept w l W) (i : Nat) {b : Nat} {t : TypeId} {cs : Array Value} (h : l[i]? = some (b, t, cs)) : Blk W b t cs := k.2 i _ h
theorem Kept.step (k : Kept w l W) (hb : Below W.heap.size W W') : Kept w l W' := ⟨k.1.trans (hb.mono k.1.size), fun i x h => (k.2 i x h).below hb (k.2 i x h).lt⟩
theorem Kept.drew (k : Kept w l W) : Kept w l W.drew := k.step ((Below.refl _ _).drew)
theorem Kept.alloc (k : Kept w l W) (o : Obj) : Kept w l (W.alloc o) := k.step ((Below.refl _ _).alloc (Nat.le_refl _) o)
theorem Kept.more (k : Kept w l W) {b : Nat} {t : TypeId} {cs : Array Value} (h : Blk W b t cs) : Kept w ((b, t, cs) :: l) W := ⟨k.1, fun i x hx => by
  cases i with
  | zero =>
    simp only [List.getElem?_cons_zero, Option.some.injEq] at hx
    subst hx
    exact h
  | succ i => exact k.2 i x (by simpa using hx)⟩
theorem Kept.new (k : Kept w l W) (t : TypeId) (cs : Array Value) : Kept w ((W.heap.size, t, cs) :: l) (W.alloc (.cells cs t)) := (k.alloc _).more (Blk.new W t cs)
/-- A callee that only makes memory. -/
theorem Kept.call {P : Program} {f : FuncId} {args : Array Value} {v : Value} (k : Kept w l W) (h : Calls P f args W fun e w' => e = .returned v ∧ Below W.heap.size W w') :
    Calls P f args W fun e w' => e = .returned v ∧ Kept w l w' := h.mono fun _ _ ⟨a, b⟩ => ⟨a, k.step b⟩
end
theorem Kept.start (w : World) : Kept w [] w := ⟨Below.refl _ _, fun i x h => by simp at h⟩
end Go.Proofs.YtecmeegnjjhilaaGreatDoor
