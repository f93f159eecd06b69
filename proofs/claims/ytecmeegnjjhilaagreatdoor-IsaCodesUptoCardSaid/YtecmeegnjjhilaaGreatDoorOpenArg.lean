/- A law's argument, opened: the instruction, the word, the two texts. -/
import Derived.Test.YtecmeegnjjhilaaGreatDoorEnc
import Derived.Lib.SmallJoins
namespace Go.Proofs.YtecmeegnjjhilaaGreatDoor
open Go.ChangeShapes Go.WideShapes Go.RowKit

set_option maxRecDepth 100000 in
theorem open_instr {H : Type} {enc : TypeId × Value → H} {W : World} {b : Nat} {sp : Nat → Bool} {held : Bool} {fuel : Nat} {cs : List Value} {x : DataW H × List MemPlace} (h : DataW.trod enc Tryz.prog W b sp held fuel 27 cs = some x) :
    ∃ i : Ins, cs = [.int .i64 i.op, .int .i64 i.a, .int .i64 i.b, .int .i64 i.c, .int .i64 i.imm] ∧ x.1 = .agg [.lit (.int .i64 i.op), .lit (.int .i64 i.a), .lit (.int .i64 i.b), .lit (.int .i64 i.c), .lit (.int .i64 i.imm)] := by
  obtain ⟨xs, n, _, rfl, hl, hlen, hf⟩ := DataW.trod_struct Tryz.underlying27 h
  have c5 : Tryz.prog.cellsOf 27 = 5 := by kernel_rfl
  have c1 : Tryz.prog.cellsOf 3 = 1 := by kernel_rfl
  rw [c5] at hl
  match cs, hl, xs, hlen with
  | [v0, v1, v2, v3, v4], _, [y0, y1, y2, y3, y4], _ =>
    have f0 := hf 0 _ rfl
    have f1 := hf 1 _ rfl
    have f2 := hf 2 _ rfl
    have f3 := hf 3 _ rfl
    have f4 := hf 4 _ rfl
    obtain ⟨z0, e0, rfl, _⟩ := DataW.trod_int Tryz.underlying3 (show DataW.trod enc Tryz.prog W b sp held n 3 [v0] = some y0 from f0)
    obtain ⟨z1, e1, rfl, _⟩ := DataW.trod_int Tryz.underlying3 (show DataW.trod enc Tryz.prog W b sp held n 3 [v1] = some y1 from f1)
    obtain ⟨z2, e2, rfl, _⟩ := DataW.trod_int Tryz.underlying3 (show DataW.trod enc Tryz.prog W b sp held n 3 [v2] = some y2 from f2)
    obtain ⟨z3, e3, rfl, _⟩ := DataW.trod_int Tryz.underlying3 (show DataW.trod enc Tryz.prog W b sp held n 3 [v3] = some y3 from f3)
    obtain ⟨z4, e4, rfl, _⟩ := DataW.trod_int Tryz.underlying3 (show DataW.trod enc Tryz.prog W b sp held n 3 [v4] = some y4 from f4)
    simp only [List.cons.injEq, and_true] at e0 e1 e2 e3 e4
    subst e0 e1 e2 e3 e4
    exact ⟨⟨z0, z1, z2, z3, z4⟩, rfl, rfl⟩

set_option maxRecDepth 100000 in
theorem open_case {H : Type} {enc : TypeId × Value → H} {W : World} {base b : Nat} {sp : Nat → Bool} {held : Bool} {v : Value} {d : DataW H} {p : List MemPlace}
    (hv : Value.okWide Tryz.prog W .any base 30 v) (h : DataW.Trod enc Tryz.prog W b sp held 30 v d p) :
    ∃ (i : Ins) (n : Int) (nm tx : ByteArray), v = .agg #[.int .i64 i.op, .int .i64 i.a, .int .i64 i.b, .int .i64 i.c, .int .i64 i.imm, .int .u32 n, .string nm, .string tx] ∧ 0 ≤ n ∧ n < 4294967296 ∧ nm.size ≤ maxLen ∧ tx.size ≤ maxLen ∧
      d = .agg [.agg [.lit (.int .i64 i.op), .lit (.int .i64 i.a), .lit (.int .i64 i.b), .lit (.int .i64 i.c), .lit (.int .i64 i.imm)], .lit (.int .u32 n), .lit (.string nm.data.toList), .lit (.string tx.data.toList)] := by
  obtain ⟨cs, rfl, hsz⟩ := okWide_struct Tryz.underlying30 hv
  have c8 : Tryz.prog.cellsOf 30 = 8 := by kernel_rfl
  have c5 : Tryz.prog.cellsOf 27 = 5 := by kernel_rfl
  have c1 : Tryz.prog.cellsOf 28 = 1 := by kernel_rfl
  have c2 : Tryz.prog.cellsOf 9 = 1 := by kernel_rfl
  rw [c8] at hsz
  obtain ⟨fuel, hf⟩ := h
  obtain ⟨y0, y1, y2, y3, n, hx, _, k0, k1, k2, k3⟩ := Joins.trod_struct4 Tryz.underlying30 hf
  obtain ⟨l⟩ := cs
  match l, hsz with
  | [v0, v1, v2, v3, v4, v5, v6, v7], _ =>
    simp only [c5, c1, c2] at k0 k1 k2 k3
    obtain ⟨i, ei, hy0⟩ := open_instr (cs := [v0, v1, v2, v3, v4]) k0
    obtain ⟨z, e5, rfl, hwf⟩ := DataW.trod_int Tryz.underlying28 (show DataW.trod enc Tryz.prog W b sp held n 28 [v5] = some y1 from k1)
    obtain ⟨nm, e6, rfl, hn⟩ := DataW.trod_string Tryz.underlying9 (show DataW.trod enc Tryz.prog W b sp held n 9 [v6] = some y2 from k2)
    obtain ⟨tx, e7, rfl, ht⟩ := DataW.trod_string Tryz.underlying9 (show DataW.trod enc Tryz.prog W b sp held n 9 [v7] = some y3 from k3)
    simp only [List.cons.injEq, and_true] at ei e5 e6 e7
    obtain ⟨rfl, rfl, rfl, rfl, rfl⟩ := ei
    subst e5 e6 e7
    simp only [Prod.mk.injEq] at hx
    have hr : 0 ≤ z ∧ z < 4294967296 := by
      have := hwf
      simp only [Lit.wf, Bool.and_eq_true, decide_eq_true_eq] at this
      have m0 : IntKind.u32.min = 0 := by decide
      have m1 : IntKind.u32.max = 4294967295 := by decide
      omega
    exact ⟨i, z, nm, tx, rfl, hr.1, hr.2, hn, ht, by rw [hx.1, hy0]⟩
end Go.Proofs.YtecmeegnjjhilaaGreatDoor
