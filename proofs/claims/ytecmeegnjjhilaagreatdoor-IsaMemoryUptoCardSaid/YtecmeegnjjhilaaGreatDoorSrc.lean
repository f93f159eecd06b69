/- The assembler's state in memory: words, labels, late operands; what its steps keep. -/
import Derived.Test.YtecmeegnjjhilaaGreatDoorStm
import Derived.Test.YtecmeegnjjhilaaGreatDoorVal
import Derived.Test.YtecmeegnjjhilaaGreatDoorName
import Derived.Maps.OwnOps
import Derived.Maps.OwnSet
import Derived.Maps.Views
import Derived.Deep.RegionHeld3
import Derived.StillTailTactics
namespace Go.Proofs.YtecmeegnjjhilaaGreatDoor
open Go.RowKit
open Go.Maps
/-- An operand that is a label. -/
structure Late where
  at_ : Nat
  line : Int
  label : List UInt8
  branch : Bool
def Late.enc (l : Late) : List Value := [.int .i64 l.at_, .int .i64 l.line, .string ⟨l.label.toArray⟩, .bool l.branch]
def lencs (ls : List Late) : List Value := ls.flatMap Late.enc
theorem lencs_append (a b : List Late) : lencs (a ++ b) = lencs a ++ lencs b := by simp [lencs]
theorem lencs_at : ∀ (ls : List Late) (j : Nat) (l : Late), ls[j]? = some l → ∀ (i : Nat) (v : Value), l.enc[i]? = some v → (lencs ls)[j * 4 + i]? = some v
  | [], j, k, h, _, _, _ => by simp at h
  | x :: ks, 0, k, h, i, v, hv => by
    simp only [List.getElem?_cons_zero, Option.some.injEq] at h
    subst h
    have hi : i < x.enc.length := (List.getElem?_eq_some_iff.1 hv).1
    simp only [lencs, List.flatMap_cons, Nat.zero_mul, Nat.zero_add]
    rw [List.getElem?_append_left hi]
    exact hv
  | x :: ks, j + 1, k, h, i, v, hv => by
    have ih := lencs_at ks j k (by simpa using h) i v hv
    have e : lencs (x :: ks) = x.enc ++ lencs ks := by simp [lencs]
    have hl : x.enc.length = 4 := rfl
    rw [e, List.getElem?_append_right (by rw [hl]; omega), hl]
    rw [show (j + 1) * 4 + i - 4 = j * 4 + i from by omega]
    exact ih
structure Src where
  words : List Int
  labels : List (List UInt8 × Int)
  lates : List Late
/-- The labels as the map's reading. -/
def labsD (ls : List (List UInt8 × Int)) : DataW Unit := ls.foldl (fun D x => D.put (.string x.1) (.lit (.int .i64 x.2))) (.map [])
theorem labsD_snoc (ls : List (List UInt8 × Int)) (x : List UInt8 × Int) : labsD (ls ++ [x]) = (labsD ls).put (.string x.1) (.lit (.int .i64 x.2)) := by simp [labsD, List.foldl_append]
def w32 (xs : List Int) : List Value := xs.map fun x => .int .u32 x

def SrcAt (w : World) (M : Nat) (st : Src) : Prop := ∃ (AW : Option Addr) (cW : Nat) (AL : Option Addr) (cL : Nat),
  Blk w (M + 1) 106 #[.slice AW st.words.length cW, .map (some M), .slice AL st.lates.length cL] ∧
  w.ownsRow (M + 2) 28 1 (.slice AW st.words.length cW) st.words.length (w32 st.words) ∧
  w.ownsRow (M + 2) 112 4 (.slice AL st.lates.length cL) st.lates.length (lencs st.lates) ∧
  w.ownsMap Tryz.prog 9 (plainElem Tryz.prog 3) M st.labels.length (labsD st.labels)
theorem map_below {w w' : World} {b n : Nat} {D : DataW Unit} (h : w.ownsMap Tryz.prog 9 (plainElem Tryz.prog 3) b n D) (hb : Below w.heap.size w w') : w'.ownsMap Tryz.prog 9 (plainElem Tryz.prog 3) b n D :=
  h.kept (row := none) ⟨hb.os, hb.tape, hb.output, hb.size, fun i hi _ => hb.block i hi⟩ (by simp)
theorem SrcAt.below {w w' : World} {M : Nat} {st : Src} (h : SrcAt w M st) (hb : Below w.heap.size w w') : SrcAt w' M st := by
  obtain ⟨AW, cW, AL, cL, h1, h2, h3, h4⟩ := h
  exact ⟨AW, cW, AL, cL, h1.below hb h1.lt, own_below h2 hb, own_below h3 hb, map_below h4 hb⟩
theorem SrcAt.lt {w : World} {M : Nat} {st : Src} (h : SrcAt w M st) : M + 1 < w.heap.size := by
  obtain ⟨AW, cW, AL, cL, h1, _⟩ := h
  exact h1.lt

/-- Blocks that the assembler's steps don't write: all but the state and its two rows. -/
def Keeps (w w' : World) : Prop := ∀ (g : Nat) (t : TypeId) (cs : Array Value), Blk w g t cs → t ≠ 106 → t ≠ 112 → t ≠ 28 → Blk w' g t cs
theorem Keeps.refl (w : World) : Keeps w w := fun _ _ _ h _ _ _ => h
theorem Keeps.trans {a b c : World} (h : Keeps a b) (k : Keeps b c) : Keeps a c := fun g t cs hb h1 h2 h3 => k g t cs (h g t cs hb h1 h2 h3) h1 h2 h3
theorem Keeps.of_below {w w' : World} (hb : Below w.heap.size w w') : Keeps w w' := fun _ _ _ h _ _ _ => h.below hb h.lt
theorem Keeps.alloc {a w : World} (h : Keeps a w) (o : Obj) : Keeps a (w.alloc o) := fun g t cs hb h1 h2 h3 => (h g t cs hb h1 h2 h3).alloc o
theorem Keeps.drew {a w : World} (h : Keeps a w) : Keeps a w.drew := h
theorem Keeps.drewN {a w : World} (h : Keeps a w) (n : Nat) : Keeps a (w.drewN n) := h
theorem Keeps.below {a w w' : World} (h : Keeps a w) (hb : Below w.heap.size w w') : Keeps a w' := h.trans (Keeps.of_below hb)
theorem Keeps.store {a w : World} (h : Keeps a w) {S : Nat} {cs : Array Value} (hS : Blk w S 106 cs) (i : Nat) (u : Value) : Keeps a (w.setCell ⟨S, i, none⟩ u) := fun g t cs' hb h1 h2 h3 =>
  (h g t cs' hb h1 h2 h3).far (p := ⟨S, i, none⟩) ((h g t cs' hb h1 h2 h3).apart hS h1) u
theorem Keeps.late {a w w' : World} (h : Keeps a w) {base n : Nat} {v : Value} {xs : List Value} (ho : w.ownsRow base 112 4 v n xs) (hg : w.grownBy w' v.ownBlock) : Keeps a w' := fun g t cs hb h1 h2 h3 =>
  (h g t cs hb h1 h2 h3).grown hg (own_apart ho (h g t cs hb h1 h2 h3) (Ne.symm h2))
theorem Keeps.word {a w w' : World} (h : Keeps a w) {base n : Nat} {v : Value} {xs : List Value} (ho : w.ownsRow base 28 1 v n xs) (hg : w.grownBy w' v.ownBlock) : Keeps a w' := fun g t cs hb h1 h2 h3 =>
  (h g t cs hb h1 h2 h3).grown hg (own_apart ho (h g t cs hb h1 h2 h3) (Ne.symm h3))

/-- A slice that reads as texts, in blocks that are known whole. -/
def StrsV (w : World) (v : Value) (ss : List ByteArray) : Prop :=
  ∃ A c, v = .slice A ss.length c ∧ ss.length ≤ c ∧ (0 < ss.length → ∃ b o cur, A = some ⟨b, o, none⟩ ∧ Blk w b 9 cur ∧ ∀ (i : Nat) (s : ByteArray), ss[i]? = some s → cur[o + i]? = some (.string s))
theorem StrsV.keep {w w' : World} {v : Value} {ss : List ByteArray} (h : StrsV w v ss) (k : Keeps w w') : StrsV w' v ss := by
  obtain ⟨A, c, e, hc, hs⟩ := h
  refine ⟨A, c, e, hc, fun hn => ?_⟩
  obtain ⟨b, o, cur, hA, hB, hcur⟩ := hs hn
  exact ⟨b, o, cur, hA, k _ _ _ hB (by decide) (by decide) (by decide), hcur⟩
theorem KindsV.keep {w w' : World} {v : Value} {ks : List Kind} (h : KindsV w v ks) (k : Keeps w w') : KindsV w' v ks := by
  obtain ⟨A, c, e, hs⟩ := h
  refine ⟨A, c, e, fun hn => ?_⟩
  obtain ⟨b, cur, hA, hB, hcur⟩ := hs hn
  exact ⟨b, cur, hA, k _ _ _ hB (by decide) (by decide) (by decide), hcur⟩
theorem StrsV.at_ {w : World} {A : Option Addr} {n c : Nat} {ss : List ByteArray} (h : StrsV w (.slice A n c) ss) (j : Nat) (s : ByteArray) (hs : ss[j]? = some s) : ∃ b o, A = some ⟨b, o, none⟩ ∧ w.cell? ⟨b, o + j, none⟩ = some (.string s) := by
  obtain ⟨A', c', e, _, hc⟩ := h
  injection e with e1 _ _
  subst e1
  have hl : j < ss.length := (List.getElem?_eq_some_iff.1 hs).1
  obtain ⟨b, o, cur, rfl, hB, hcur⟩ := hc (by omega)
  exact ⟨b, o, rfl, by rw [hB.cell]; exact hcur j s hs⟩
theorem own_ne {w : World} {base base' size size' n n' : Nat} {e e' : TypeId} {v v' : Value} {xs xs' : List Value} (h : w.ownsRow base e size v n xs) (h' : w.ownsRow base' e' size' v' n' xs') (hne : e ≠ e') : v.ownBlock = none ∨ v.ownBlock ≠ v'.ownBlock := by
  rcases h.2 with ⟨rfl, _⟩ | ⟨g, cap, cur, rfl, hb, hh, _⟩
  · exact .inl rfl
  · exact .inr (own_apart h' (show Blk w g e cur from hh) (Ne.symm hne))
theorem lateinfo : (Tryz.prog.info? 112).map (fun i => (i.zero, i.size, i.bytes)) = some (some (.agg #[.int .i64 0, .int .i64 0, .string ByteArray.empty, .bool false]), 4, 40) := by kernel_rfl
theorem intinfo : (Tryz.prog.info? 3).map (fun i => (i.zero, i.size, i.bytes)) = some (some (.int .i64 0), 1, 8) := by kernel_rfl
end Go.Proofs.YtecmeegnjjhilaaGreatDoor
