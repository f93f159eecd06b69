/- The closures that make a statement's words of its operands' values (isa.statement$1 .. $6): what each returns. -/
import Derived.Test.YtecmeegnjjhilaaGreatDoorCode
import Derived.Deep.RegionWith
namespace Go.Proofs.YtecmeegnjjhilaaGreatDoor
open Go.RowKit
/-- A slice value that reads as whole numbers of the kind q. -/
def NumsAt (w : World) (q : IntKind) (A : Option Addr) (n : Nat) (xs : List Int) : Prop :=
  xs.length = n ∧ (0 < n → ∃ b o, A = some ⟨b, o, none⟩ ∧ ∀ (j : Nat) (x : Int), xs[j]? = some x → w.cell? ⟨b, o + j, none⟩ = some (.int q x))
theorem NumsAt.below {w w' : World} {q : IntKind} {A : Option Addr} {n : Nat} {xs : List Int} (h : NumsAt w q A n xs) (hb : Below w.heap.size w w') : NumsAt w' q A n xs :=
  ⟨h.1, fun hn => by
    obtain ⟨b, o, e, hc⟩ := h.2 hn
    exact ⟨b, o, e, fun j x hx => cell_below (hc j x hx) hb⟩⟩
def NumsV (w : World) (q : IntKind) (v : Value) (xs : List Int) : Prop := ∃ A c, v = .slice A xs.length c ∧ NumsAt w q A xs.length xs ∧ xs.length ≤ c
theorem NumsV.of_own {w : World} {q : IntKind} {base : Nat} {e : TypeId} {v : Value} {xs : List Int} (h : w.ownsRow base e 1 v xs.length (xs.map fun x => Value.int q x)) : NumsV w q v xs := by
  rcases h.2 with ⟨rfl, h0⟩ | ⟨g, cap, cur, rfl, hb, hh, hcap, _⟩
  · have : xs = [] := List.eq_nil_of_length_eq_zero h0
    subst this
    exact ⟨none, 0, rfl, ⟨rfl, fun hn => absurd hn (by simp)⟩, Nat.le_refl _⟩
  · refine ⟨_, cap, rfl, ⟨rfl, fun _ => ⟨g, 0, rfl, fun j x hx => ?_⟩⟩, hcap⟩
    have := h.cells (g := g) rfl j (.int q x) (by simp [hx])
    rwa [add_at] at this

/-- What a word of the source opens. -/
inductive Stm where
  | bad
  | nop
  | li
  | la
  | word
  | space
  | ins (op : Int)
deriving DecidableEq

/-- The fields of an instruction, taken from the values in their order. -/
def insOf (op : Int) (xs : List Int) : Ins :=
  let u := usesOf (formOf op)
  let n1 := if u.a then 1 else 0
  let n2 := if u.b then n1 + 1 else n1
  let n3 := if u.c then n2 + 1 else n2
  ⟨op, if u.a then xs.getD 0 0 else 0, if u.b then xs.getD n1 0 else 0, if u.c then xs.getD n2 0 else 0, if u.imm then xs.getD n3 0 else 0⟩
def countOf (u : Uses) : Nat := (if u.a then 1 else 0) + (if u.b then 1 else 0) + (if u.c then 1 else 0) + (if u.imm then 1 else 0)
def buildP : Stm → List Int → List Int
  | .bad, _ => []
  | .nop, _ => [268435456]
  | .li, xs => [335544320 + xs.getD 0 0 * 1048576 + xs.getD 1 0 % 4294967296 / 65536, 301989888 + xs.getD 0 0 * 1048576 + xs.getD 0 0 * 65536 + xs.getD 1 0 % 65536]
  | .la, xs => [268435456 + xs.getD 0 0 * 1048576]
  | .word, xs => [xs.getD 0 0 % 4294967296]
  | .space, xs => List.replicate (xs.getD 0 0).toNat 0
  | .ins op, xs => [encR (insOf op xs)]

/-- New words, in a block of their own. -/
def NumsW (w : World) (v : Value) (ys : List Int) : Prop := ∃ b, v = .slice (some ⟨b, 0, none⟩) ys.length ys.length ∧ Blk w b 28 (ys.map fun x => Value.int .u32 x).toArray
theorem NumsW.of_blk {w : World} {b : Nat} {ys : List Int} (h : Blk w b 28 (ys.map fun x => Value.int .u32 x).toArray) : NumsW w (.slice (some ⟨b, 0, none⟩) ys.length ys.length) ys := ⟨b, rfl, h⟩
def WordsOut (w : World) (e : Ending) (w' : World) (ys : List Int) : Prop := ∃ v, e = .returned v ∧ NumsW w' v ys ∧ Below w.heap.size w w'

theorem one_word (w : World) (x : Int) : NumsW (w.alloc (.cells #[.int .u32 x] 28)) (.slice (some ⟨w.heap.size, 0, none⟩) 1 1) [x] := NumsW.of_blk (ys := [x]) (Blk.new w 28 #[.int .u32 x])
theorem two_words (w : World) (x y : Int) : NumsW (w.alloc (.cells #[.int .u32 x, .int .u32 y] 28)) (.slice (some ⟨w.heap.size, 0, none⟩) 2 2) [x, y] := NumsW.of_blk (ys := [x, y]) (Blk.new w 28 #[.int .u32 x, .int .u32 y])

theorem build_nop (v : Value) (w : World) : Calls Tryz.prog 114 #[v] w fun e w' => WordsOut w e w' (buildP .nop []) := by
  go_enter Tryz.func114, Tryz.ntmps114
  go_wp2
  go_ret
  exact ⟨_, rfl, one_word _ _, (Below.refl _ _).alloc (Nat.le_refl _) _⟩

theorem cell_at {w : World} {q : IntKind} {A : Option Addr} {n : Nat} {xs : List Int} (h : NumsAt w q A n xs) (hn : 0 < n) : ∃ b o, A = some ⟨b, o, none⟩ ∧ ∀ j, j < n → w.cell? ⟨b, o + j, none⟩ = some (.int q (xs.getD j 0)) := by
  obtain ⟨b, o, e, hc⟩ := h.2 hn
  refine ⟨b, o, e, fun j hj => hc j _ ?_⟩
  have hl : j < xs.length := by rw [h.1]; exact hj
  rw [List.getD_eq_getElem?_getD, List.getElem?_eq_getElem hl]
  rfl

theorem build_li (v : Value) (xs : List Int) (w : World) (hv : NumsV w .i64 v xs) (hl : xs.length = 2) (h0 : 0 ≤ xs.getD 0 0 ∧ xs.getD 0 0 ≤ 15) (h1 : -2147483648 ≤ xs.getD 1 0 ∧ xs.getD 1 0 ≤ 4294967295) :
    Calls Tryz.prog 115 #[v] w fun e w' => WordsOut w e w' (buildP .li xs) := by
  obtain ⟨A, c, rfl, hn, hc⟩ := hv
  rw [hl] at hn hc ⊢
  obtain ⟨b, o, rfl, hcell⟩ := cell_at hn (by omega)
  have c0 := hcell 0 (by omega)
  have c1 := hcell 1 (by omega)
  rw [Nat.add_zero] at c0
  have HB : Hid (buildP .li xs = [335544320 + xs.getD 0 0 * 1048576 + xs.getD 1 0 % 4294967296 / 65536, 301989888 + xs.getD 0 0 * 1048576 + xs.getD 0 0 * 65536 + xs.getD 1 0 % 65536]) := Lib.hid rfl
  generalize xs.getD 0 0 = a at h0 c0 HB
  generalize xs.getD 1 0 = n at h1 c1 HB
  obtain ⟨a0, a1⟩ := h0
  obtain ⟨n0, n1⟩ := h1
  clear hn hcell hl
  go_enter Tryz.func115, Tryz.ntmps115
  go_wp2_with fail
  go_quiet (fail)
  go_wp2
  go_ret
  refine ⟨.slice _ 2 2, rfl, ?_, (below_drewN (Below.refl _ _) nq).alloc (Nat.le_refl _) _⟩
  rw [HB.out]
  have e1 : bits .or .u32 (bits .or .u32 335544320 (a * 1048576)) (n % 4294967296 / 65536) = 335544320 + a * 1048576 + n % 4294967296 / 65536 := by
    have := join_fields 20 a 0 0 (n % 4294967296 / 65536) (by omega) (by omega) (by omega) (by omega) (by omega) (by omega) (by omega) (by omega) (by omega) (by omega) (by omega)
    rw [or_sum (335544320) (a * 1048576) 20 24 (by decide) (by omega) (by omega) (by omega) (by omega), or_sum (335544320 + a * 1048576) _ (320 + a).toNat 20 (by rw [Int.toNat_of_nonneg (by omega)]; omega) (by omega) (by omega) (by omega) (by omega)]
  have e2 : bits .or .u32 (bits .or .u32 (bits .or .u32 301989888 (a * 1048576)) (a * 65536)) (bits .and .u32 (n % 4294967296) 65535) = 301989888 + a * 1048576 + a * 65536 + n % 65536 := by
    have hm : bits .and .u32 (n % 4294967296) 65535 = n % 65536 := by
      rw [and_low (n % 4294967296) 16 65535 (by decide) (by omega) (by omega) (by omega)]
      omega
    rw [hm, or_sum (301989888) (a * 1048576) 18 24 (by decide) (by omega) (by omega) (by omega) (by omega), or_sum (301989888 + a * 1048576) (a * 65536) (288 + a).toNat 20 (by rw [Int.toNat_of_nonneg (by omega)]; omega) (by omega) (by omega) (by omega) (by omega),
      or_sum (301989888 + a * 1048576 + a * 65536) (n % 65536) (288 * 16 + a * 16 + a).toNat 16 (by rw [Int.toNat_of_nonneg (by omega)]; omega) (by omega) (by omega) (by omega) (by omega)]
  rw [e1, e2]
  exact two_words (w.drewN nq) _ _

theorem build_la (v : Value) (xs : List Int) (w : World) (hv : NumsV w .i64 v xs) (hl : 0 < xs.length) (h0 : 0 ≤ xs.getD 0 0 ∧ xs.getD 0 0 ≤ 15) :
    Calls Tryz.prog 116 #[v] w fun e w' => WordsOut w e w' (buildP .la xs) := by
  obtain ⟨A, c, rfl, hn, hc⟩ := hv
  obtain ⟨b, o, rfl, hcell⟩ := cell_at hn hl
  have c0 := hcell 0 hl
  rw [Nat.add_zero] at c0
  have HB : Hid (buildP .la xs = [268435456 + xs.getD 0 0 * 1048576]) := Lib.hid rfl
  generalize xs.getD 0 0 = a at h0 c0 HB
  obtain ⟨a0, a1⟩ := h0
  generalize xs.length = n at hn hc hl
  have hl' : (0 : Int) < (n : Int) := by omega
  clear hn hcell
  go_enter Tryz.func116, Tryz.ntmps116
  go_wp2
  go_ret
  refine ⟨.slice _ 1 1, rfl, ?_, (Below.refl _ _).alloc (Nat.le_refl _) _⟩
  rw [HB.out]
  have e1 : bits .or .u32 268435456 (a * 1048576) = 268435456 + a * 1048576 := or_sum 268435456 (a * 1048576) 16 24 (by decide) (by omega) (by omega) (by omega) (by omega)
  rw [e1]
  exact one_word w _

theorem build_word (v : Value) (xs : List Int) (w : World) (hv : NumsV w .i64 v xs) (hl : 0 < xs.length) (h0 : -2147483648 ≤ xs.getD 0 0 ∧ xs.getD 0 0 ≤ 4294967295) :
    Calls Tryz.prog 117 #[v] w fun e w' => WordsOut w e w' (buildP .word xs) := by
  obtain ⟨A, c, rfl, hn, hc⟩ := hv
  obtain ⟨b, o, rfl, hcell⟩ := cell_at hn hl
  have c0 := hcell 0 hl
  rw [Nat.add_zero] at c0
  have HB : Hid (buildP .word xs = [xs.getD 0 0 % 4294967296]) := Lib.hid rfl
  generalize xs.getD 0 0 = a at h0 c0 HB
  obtain ⟨a0, a1⟩ := h0
  generalize xs.length = n at hn hc hl
  have hl' : (0 : Int) < (n : Int) := by omega
  clear hn hcell
  go_enter Tryz.func117, Tryz.ntmps117
  go_wp2
  go_ret
  refine ⟨.slice _ 1 1, rfl, ?_, (Below.refl _ _).alloc (Nat.le_refl _) _⟩
  rw [HB.out]
  exact one_word w _

def zerosA (m : Nat) : Array Value := ((List.replicate m (0 : Int)).map fun x => Value.int .u32 x).toArray
theorem made_zeros (m : Nat) : madeCells #[.int .u32 0] m = zerosA m := by
  apply Array.ext
  · simp [madeCells, zerosA]
  · intro i h1 h2
    simp [madeCells, zerosA, Nat.mod_one]
theorem u32info : (Tryz.prog.info? 28).map (fun i => (i.zero, i.size, i.bytes)) = some (some (.int .u32 0), 1, 4) := by kernel_rfl

set_option maxRecDepth 100000 in
theorem build_space (v : Value) (xs : List Int) (w : World) (hv : NumsV w .i64 v xs) (hl : 0 < xs.length) (h0 : 0 ≤ xs.getD 0 0 ∧ xs.getD 0 0 ≤ 512) :
    Calls Tryz.prog 118 #[v] w fun e w' => WordsOut w e w' (buildP .space xs) := by
  obtain ⟨A, c, rfl, hn, hc⟩ := hv
  obtain ⟨b, o, rfl, hcell⟩ := cell_at hn hl
  have c0 := hcell 0 hl
  rw [Nat.add_zero] at c0
  have HB : Hid (buildP .space xs = List.replicate (xs.getD 0 0).toNat 0) := Lib.hid rfl
  generalize xs.getD 0 0 = a at h0 c0 HB
  obtain ⟨a0, a1⟩ := h0
  obtain ⟨m, rfl⟩ := Int.eq_ofNat_of_zero_le a0
  generalize xs.length = n at hn hc hl
  have hl' : (0 : Int) < (n : Int) := by omega
  have hmk : ∀ W : World, (Instr.makeSlice 31 (.int .i64 (m : Int)) (.int .i64 (m : Int))).run Tryz.prog W = .ok (.slice (some ⟨W.heap.size, 0, none⟩) m m) (W.alloc (.cells (zerosA m) 28)) := by
    intro W
    obtain ⟨i0, hi, hz0, hz1, hz2⟩ := info_parts u32info
    have h := run_make (P := Tryz.prog) W 31 28 i0 _ Tryz.underlying31 hi hz0 .i64 .i64 (m : Int) (m : Int) (by omega) (by omega) (by rw [hz2]; omega) (by omega)
    rw [hz1] at h
    simp only [Int.toNat_natCast, Nat.mul_one] at h
    rw [h, ← made_zeros]
    rfl
  have HB2 : Hid (buildP .space xs = List.replicate m 0) := Lib.hid (by rw [HB.out]; rfl)
  clear hn hcell HB
  go_enter Tryz.func118, Tryz.ntmps118
  go_wp2
  go_ret
  refine ⟨.slice (some ⟨w.heap.size, 0, none⟩) m m, rfl, ?_, (Below.refl _ _).alloc (Nat.le_refl _) _⟩
  rw [HB2.out]
  have hB := NumsW.of_blk (ys := List.replicate m (0 : Int)) (Blk.new w 28 (zerosA m))
  rw [List.length_replicate] at hB
  exact hB
end Go.Proofs.YtecmeegnjjhilaaGreatDoor
