/- What the walks ask of the program's variables: tables as laid, the sentinel errors at their addresses. -/
import Derived.Test.YtecmeegnjjhilaaGreatDoorFind
namespace Go.Proofs.YtecmeegnjjhilaaGreatDoor
open Go.RowKit
/-- A sentinel error: a pointer to its text. -/
@[reducible] def ev (a : Addr) : Value := .iface 236 (.pointer (some a))
/-- The error of a code: none for 0. -/
def errV (er : Nat → Addr) (c : Nat) : Value := if c = 0 then .nilIface else ev (er c)
theorem errV_zero (er : Nat → Addr) : errV er 0 = .nilIface := rfl
theorem errV_pos (er : Nat → Addr) (c : Nat) (h : c ≠ 0) : errV er c = ev (er c) := if_neg h

structure Env (er : Nat → Addr) (w : World) : Prop where
  space : Lib.TabIs Tryz.prog w "strings.asciiSpace" .u8 Lib.asciiSpaceTab
  pow : Lib.TabIs Tryz.prog w "internal/strconv.uint64pow10" .u64 Lib.pow10Tab
  utf : Lib.Utf8Tabs 27 28 w
  maxl : ∃ m, w.cell? ⟨26, 0, none⟩ = some (.int .i64 m)
  syn : ∃ tp p, w.var? Tryz.prog "strconv.ErrSyntax" = some #[.iface tp p]
  rng : ∃ tp p, w.var? Tryz.prog "strconv.ErrRange" = some #[.iface tp p]
  eRange : w.cell? ⟨1, 0, none⟩ = some (ev (er 4))
  eKind : w.cell? ⟨0, 0, none⟩ = some (ev (er 7))
  eSize : w.cell? ⟨13, 0, none⟩ = some (ev (er 11))
  eArg : w.cell? ⟨12, 0, none⟩ = some (ev (er 12))
  eNone : w.cell? ⟨3, 0, none⟩ = some (ev (er 17))
  eText : w.cell? ⟨2, 0, none⟩ = some (ev (er 18))

theorem cell_below {w w' : World} {a : Addr} {v : Value} (h : w.cell? a = some v) (hb : Below w.heap.size w w') : w'.cell? a = some v := (hb.cell (World.block_lt_of_cell? w a h)).trans h
theorem var_below {P : Program} {w w' : World} {n : String} {cs : Array Value} (h : w.var? P n = some cs) (hb : Below w.heap.size w w') : w'.var? P n = some cs := by
  unfold World.var? at h ⊢
  cases hg : P.globalNamed n with
  | none => rw [hg] at h; simp at h
  | some g =>
    rw [hg] at h
    simp only [Option.bind_some] at h ⊢
    have hlt : g < w.heap.size := by
      rcases Nat.lt_or_ge g w.heap.size with hl | hl
      · exact hl
      · rw [Array.getElem?_eq_none hl] at h; simp at h
    rw [hb.block g hlt]
    exact h
theorem Env.below {er : Nat → Addr} {w w' : World} (h : Env er w) (hb : Below w.heap.size w w') : Env er w' where
  space := tab_below h.space hb
  pow := tab_below h.pow hb
  utf := ⟨fun c hc => cell_below (h.utf.1 c hc) hb, fun i hi => ⟨cell_below (h.utf.2 i hi).1 hb, cell_below (h.utf.2 i hi).2 hb⟩⟩
  maxl := ⟨_, cell_below h.maxl.choose_spec hb⟩
  syn := ⟨_, _, var_below h.syn.choose_spec.choose_spec hb⟩
  rng := ⟨_, _, var_below h.rng.choose_spec.choose_spec hb⟩
  eRange := cell_below h.eRange hb
  eKind := cell_below h.eKind hb
  eSize := cell_below h.eSize hb
  eArg := cell_below h.eArg hb
  eNone := cell_below h.eNone hb
  eText := cell_below h.eText hb
theorem Env.belowAt {er : Nat → Addr} {w w' : World} {B : Nat} (h : Env er w) (hb : Below B w w') (hB : w.heap.size ≤ B) : Env er w' := h.below (hb.mono hB)
end Go.Proofs.YtecmeegnjjhilaaGreatDoor
