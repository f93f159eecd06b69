/- What a row's listed variables give a walk: the tables and the sentinel errors lie as the walks ask. -/
import Derived.Test.YtecmeegnjjhilaaGreatDoorEnv
import Derived.Test.YtecmeegnjjhilaaGreatDoorShelf
import Derived.Test.YtecmeegnjjhilaaGreatDoorRows
import Derived.Lib.LaidTab
import Derived.Lib.LaidU8T
import Derived.LaidMore
import Derived.Stop.LaidErr
namespace Go.Proofs.YtecmeegnjjhilaaGreatDoor
open Go.RowKit Go.ChangeShapes

def L15 : List (String × DataW Unit) := [("math/bits.deBruijn32tab", Rows.laid_math_bits_deBruijn32tab), ("math/bits.deBruijn64tab", Rows.laid_math_bits_deBruijn64tab), ("internal/strconv.uint64pow10", Rows.laid_internal_strconv_uint64pow10), ("unicode/utf8.acceptRanges", Rows.laid_unicode_utf8_acceptRanges), ("ferry/api.ErrRange", Rows.laid_ferry_api_ErrRange), ("ferry/api.ErrKind", Rows.laid_ferry_api_ErrKind), ("ferry/api.ErrSize", Rows.laid_ferry_api_ErrSize), ("ferry/api.ErrArg", Rows.laid_ferry_api_ErrArg), ("ferry/api.ErrNone", Rows.laid_ferry_api_ErrNone), ("ferry/api.ErrText", Rows.laid_ferry_api_ErrText), ("strconv.ErrRange", Rows.laid_strconv_ErrRange), ("strconv.ErrSyntax", Rows.laid_strconv_ErrSyntax), ("unicode.White_Space", Rows.laid_unicode_White_Space), ("strings.asciiSpace", Rows.laid_strings_asciiSpace), ("unicode/utf8.first", Rows.laid_unicode_utf8_first)]

theorem tab_of_reads {P : Program} {W : World} {name : String} {k : IntKind} {zs : List Int} {g : Nat} {t e : TypeId} {n : Nat}
    (hg : P.globalNamed name = some g) (hty : (P.globals[g]?).map (·.type) = some t) (ht : P.underlying t = some (.array n e)) (he : P.underlying e = some (.int k)) (hce : P.cellsOf e = 1) (hct : P.cellsOf t = n)
    (h : Lib.VarReads P W name (Lib.tabData k zs)) : Lib.TabIs P W name k zs := by
  obtain ⟨g', t', cs, fuel, p, hg', ht', hvar, hd⟩ := h
  obtain rfl := Option.some.inj (hg.symm.trans hg')
  obtain rfl := Option.some.inj (hty.symm.trans ht')
  unfold Lib.TabIs
  rw [hvar, ← Lib.cells_of_tab ht he hce hct hd]

def rho : Shelf.Ren := ⟨fun x => x, fun x => if x = 5 then 5 else if x = 119 then 211 else if x = 138 then 251 else 252, fun x => if x = 3 then 27 else 28⟩
theorem star_err : "*" ++ "errors.errorString" = "*errors.errorString" := by decide
theorem row_err (u : TypeId) (h : Tryz.prog.typeName? 3 u = some "*errors.errorString") : u = 236 :=
  typeName_ptr_named (nm := "errors.errorString") (by rw [star_err]; kernel_rfl) (by kernel_rfl) (by decide) u (by rw [star_err]; exact h)
/-- One sentinel: its variable's cell. -/
theorem err_of {W : World} {n : String} {g : Nat} {text : List UInt8} {r : List (String × DataW Unit)} (h : laidMet Tryz.prog ((n, .iface "*errors.errorString" (.ptr (.agg [.lit (.string text)]))) :: r) W)
    (hg : Tryz.prog.globalNamed n = some g) (ht : (Tryz.prog.globals[g]?).map (·.type) = some 33) : ∃ a : Addr, W.var? Tryz.prog n = some #[.iface 236 (.pointer (some a))] ∧ W.cell? ⟨g, 0, none⟩ = some (.iface 236 (.pointer (some a))) := by
  obtain ⟨a, s, hv, _⟩ := laid_sentinel h hg ht Tryz.underlying33 row_err Tryz.underlying236 Tryz.underlying238 rfl rfl Tryz.underlying9 (by kernel_rfl) (by kernel_rfl)
  refine ⟨a, hv, ?_⟩
  simpa using World.var?_cell hg hv 0

def erOf (a4 a7 a11 a12 a17 a18 : Addr) (c : Nat) : Addr := if c = 4 then a4 else if c = 7 then a7 else if c = 11 then a11 else if c = 12 then a12 else if c = 17 then a17 else a18

set_option maxRecDepth 100000 in
theorem env_of {W : World} (h0 : laidMetH Tryz.prog L15 W) (hsh : W.ShapedOpen Tryz.prog) : ∃ er : Nat → Addr, Env er W := by
  have h : laidMet Tryz.prog L15 W := by rw [MakeChecks.laidMetH_plain _ _ _ (by kernel_rfl)] at h0; exact h0
  have r2 : Lib.VarReads Tryz.prog W "internal/strconv.uint64pow10" Rows.laid_internal_strconv_uint64pow10 := Lib.laidMet.reads h (.tail _ (.tail _ (.head _)))
  have r3 : Lib.VarReads Tryz.prog W "unicode/utf8.acceptRanges" Rows.laid_unicode_utf8_acceptRanges := Lib.laidMet.reads h (.tail _ (.tail _ (.tail _ (.head _))))
  have r13 : Lib.VarReads Tryz.prog W "strings.asciiSpace" Rows.laid_strings_asciiSpace := Lib.laidMet.reads h (.tail _ (.tail _ (.tail _ (.tail _ (.tail _ (.tail _ (.tail _ (.tail _ (.tail _ (.tail _ (.tail _ (.tail _ (.tail _ (.head _))))))))))))))
  have r14 : Lib.VarReads Tryz.prog W "unicode/utf8.first" Rows.laid_unicode_utf8_first := Lib.laidMet.reads h (.tail _ (.tail _ (.tail _ (.tail _ (.tail _ (.tail _ (.tail _ (.tail _ (.tail _ (.tail _ (.tail _ (.tail _ (.tail _ (.tail _ (.head _)))))))))))))))
  rw [show (Rows.laid_internal_strconv_uint64pow10 : DataW Unit) = Lib.tabData .u64 Lib.pow10Tab by kernel_rfl] at r2
  rw [show (Rows.laid_unicode_utf8_acceptRanges : DataW Unit) = Lib.acceptData by kernel_rfl] at r3
  rw [show (Rows.laid_strings_asciiSpace : DataW Unit) = Lib.tabData .u8 Lib.asciiSpaceTab by kernel_rfl] at r13
  rw [show Rows.laid_unicode_utf8_first = Lib.firstData by kernel_rfl] at r14
  have g4 := h.tail.tail.tail.tail
  obtain ⟨a4, _, c4⟩ := err_of (g := 1) g4 (by kernel_rfl) (by kernel_rfl)
  obtain ⟨a7, _, c7⟩ := err_of (g := 0) g4.tail (by kernel_rfl) (by kernel_rfl)
  obtain ⟨a11, _, c11⟩ := err_of (g := 13) g4.tail.tail (by kernel_rfl) (by kernel_rfl)
  obtain ⟨a12, _, c12⟩ := err_of (g := 12) g4.tail.tail.tail (by kernel_rfl) (by kernel_rfl)
  obtain ⟨a17, _, c17⟩ := err_of (g := 3) g4.tail.tail.tail.tail (by kernel_rfl) (by kernel_rfl)
  obtain ⟨a18, _, c18⟩ := err_of (g := 2) g4.tail.tail.tail.tail.tail (by kernel_rfl) (by kernel_rfl)
  obtain ⟨aR, vR, _⟩ := err_of (g := 23) g4.tail.tail.tail.tail.tail.tail (by kernel_rfl) (by kernel_rfl)
  obtain ⟨aS, vS, _⟩ := err_of (g := 22) g4.tail.tail.tail.tail.tail.tail.tail (by kernel_rfl) (by kernel_rfl)
  refine ⟨erOf a4 a7 a11 a12 a17 a18, ?_⟩
  exact {
    space := tab_of_reads (g := 21) (by kernel_rfl) (by kernel_rfl) Tryz.underlying211 Tryz.underlying5 (by kernel_rfl) (by kernel_rfl) r13
    pow := tab_of_reads (g := 24) (by kernel_rfl) (by kernel_rfl) Tryz.underlying229 Tryz.underlying130 (by kernel_rfl) (by kernel_rfl) r2
    utf := utf8Tabs_of_readsT (ρ := rho) ⟨Tryz.underlying5, Tryz.underlying211, Tryz.underlying251, Tryz.underlying252⟩ ⟨by kernel_rfl, by kernel_rfl, by kernel_rfl, by kernel_rfl, by kernel_rfl, by kernel_rfl, by kernel_rfl⟩ r14 r3
    maxl := Tryz.laysM143.s1_3 W hsh
    syn := ⟨_, _, vS⟩
    rng := ⟨_, _, vR⟩
    eRange := c4
    eKind := c7
    eSize := c11
    eArg := c12
    eNone := c17
    eText := c18 }
end Go.Proofs.YtecmeegnjjhilaaGreatDoor
