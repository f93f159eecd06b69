/- What a row's listed variables give a walk: the tables and the sentinel errors lie as the walks ask. -/
import Derived.Test.YtecmeegnjjhilaaGreatDoorEnv
import Derived.Test.YtecmeegnjjhilaaGreatDoorShelf
import Derived.Test.YtecmeegnjjhilaaGreatDoorRows
import Derived.Lib.LaidTab
import Derived.Lib.LaidU8T
import Derived.LaidMore
import Derived.Stop.LaidErr
namespace Go.Proofs.YtecmeegnjjhilaaGreatDoor
open Go.RowKit Go.ChangeShapes
theorem tab_of_reads {P : Program} {W : World} {name : String} {k : IntKind} {zs : List Int} {g : Nat} {t e : TypeId} {n : Nat}
    (hg : P.globalNamed name = some g) (hty : (P.globals[g]?).map (·.type) = some t) (ht : P.underlying t = some (.array n e)) (he : P.underlying e = some (.int k)) (hce : P.cellsOf e = 1) (hct : P.cellsOf t = n)
    (h : Lib.VarReads P W name (Lib.tabData k zs)) : Lib.TabIs P W name k zs := by
  obtain ⟨g', t', cs, fuel, p, hg', ht', hvar, hd⟩ := h
  obtain rfl := Option.some.inj (hg.symm.trans hg')
  obtain rfl := Option.some.inj (hty.symm.trans ht')
  unfold Lib.TabIs
  rw [hvar, ← Lib.cells_of_tab ht he hce hct hd]

def rho : Shelf.Ren := ⟨fun x => x, fun x => if x = 5 then 5 else if x = 119 then 211 else if x = 138 then 251 else 252, fun x => if x = 3 then 27 else 28⟩
theorem star_err : "*" ++ "errors.errorString" = "*errors.errorString" := by decide
theorem row_err (u : TypeId) (h : Tryz.prog.typeName? 3 u = some "*errors.errorString") : u = 236 :=
  typeName_ptr_named (nm := "errors.errorString") (by rw [star_err]; kernel_rfl) (by kernel_rfl) (by decide) u (by rw [star_err]; exact h)
/-- One sentinel: its variable's cell. -/
theorem err_of {W : World} {n : String} {g : Nat} {text : List UInt8} {r : List (String × DataW Unit)} (h : laidMet Tryz.prog ((n, .iface "*errors.errorString" (.ptr (.agg [.lit (.string text)]))) :: r) W)
    (hg : Tryz.prog.globalNamed n = some g) (ht : (Tryz.prog.globals[g]?).map (·.type) = some 33) : ∃ a : Addr, W.var? Tryz.prog n = some #[.iface 236 (.pointer (some a))] ∧ W.cell? ⟨g, 0, none⟩ = some (.iface 236 (.pointer (some a))) := by
  obtain ⟨a, s, hv, _⟩ := laid_sentinel h hg ht Tryz.underlying33 row_err Tryz.underlying236 Tryz.underlying238 rfl rfl Tryz.underlying9 (by kernel_rfl) (by kernel_rfl)
  refine ⟨a, hv, ?_⟩
  simpa using World.var?_cell hg hv 0

end Go.Proofs.YtecmeegnjjhilaaGreatDoor
