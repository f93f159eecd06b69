/- The closure that makes an instruction's word of its operands' values (isa.statement$6). -/
import Derived.Test.YtecmeegnjjhilaaGreatDoorBuild
namespace Go.Proofs.YtecmeegnjjhilaaGreatDoor
open Go.RowKit
def run3 (u : Uses) (f : Ins) (r : List Int) : Ins := if u.imm then { f with imm := r.headD 0 } else f
def run2 (u : Uses) (f : Ins) (r : List Int) : Ins := if u.c then run3 u { f with c := r.headD 0 } r.tail else run3 u f r
def run1 (u : Uses) (f : Ins) (r : List Int) : Ins := if u.b then run2 u { f with b := r.headD 0 } r.tail else run2 u f r
def run0 (u : Uses) (f : Ins) (r : List Int) : Ins := if u.a then run1 u { f with a := r.headD 0 } r.tail else run1 u f r
def goOn (u : Uses) (k : Nat) (f : Ins) (r : List Int) : Ins := match k with | 0 => run0 u f r | 1 => run1 u f r | 2 => run2 u f r | 3 => run3 u f r | _ => f
def leftOf (u : Uses) (k : Nat) : Nat := match k with
  | 0 => (if u.a then 1 else 0) + ((if u.b then 1 else 0) + ((if u.c then 1 else 0) + (if u.imm then 1 else 0)))
  | 1 => (if u.b then 1 else 0) + ((if u.c then 1 else 0) + (if u.imm then 1 else 0))
  | 2 => (if u.c then 1 else 0) + (if u.imm then 1 else 0)
  | 3 => if u.imm then 1 else 0
  | _ => 0
theorem insOf_run (op : Int) (xs : List Int) : insOf op xs = run0 (usesOf (formOf op)) ⟨op, 0, 0, 0, 0⟩ xs := by
  unfold insOf
  simp only
  generalize usesOf (formOf op) = u
  obtain ⟨a, b, c, i, s⟩ := u
  rcases xs with _ | ⟨x0, _ | ⟨x1, _ | ⟨x2, _ | ⟨x3, xs⟩⟩⟩⟩ <;> cases a <;> cases b <;> cases c <;> cases i <;> rfl
theorem count_left (u : Uses) : countOf u = leftOf u 0 := by
  unfold countOf leftOf
  simp only
  omega

theorem NumsAt.cut {w : World} {b o : Nat} {n c : Nat} {x : Int} {r : List Int} (h : NumsAt w .i64 (some ⟨b, o, none⟩) (n + 1) (x :: r)) (hc : n + 1 ≤ c) :
    NumsAt w .i64 (if c = 1 then some ⟨b, o, none⟩ else some ⟨b, o + 1, none⟩) n r := by
  refine ⟨by have := h.1; simpa using this, fun hn => ?_⟩
  rw [if_neg (by omega)]
  refine ⟨b, o + 1, rfl, fun j y hy => ?_⟩
  obtain ⟨b', o', e, hcell⟩ := h.2 (by omega)
  injection e with e
  injection e with e1 e2 _
  subst e1 e2
  rw [Nat.add_assoc, Nat.add_comm 1 j]
  exact hcell (j + 1) y (by simpa using hy)
def arr (H : Nat) (u : Uses) : Array Value := #[.bool u.a, .pointer (some ⟨H, 1, none⟩), .bool u.b, .pointer (some ⟨H, 2, none⟩), .bool u.c, .pointer (some ⟨H, 3, none⟩), .bool u.imm, .pointer (some ⟨H, 4, none⟩)]

set_option maxHeartbeats 4000000 in
set_option maxRecDepth 100000 in
theorem build_ins (v : Value) (xs : List Int) (op : Int) (b5 b6 : Nat) (er : Nat → Addr) (w : World) (E : Env er w) (hv : NumsV w .i64 v xs) (hl : xs.length = countOf (usesOf (formOf op)))
    (c5 : w.cell? ⟨b5, 0, none⟩ = some (.int .i64 op)) (c6 : ∀ j x, [(usesOf (formOf op)).a, (usesOf (formOf op)).b, (usesOf (formOf op)).c, (usesOf (formOf op)).imm][j]? = some x → w.cell? ⟨b6, j, none⟩ = some (.bool x)) :
    Calls Tryz.prog 119 #[v, .pointer (some ⟨b5, 0, none⟩), .pointer (some ⟨b6, 0, none⟩)] w fun e w' => WordsOut w e w' (buildP (.ins op) xs) := by
  obtain ⟨A, c, rfl, hn, hc⟩ := hv
  have HB : Hid (buildP (.ins op) xs = [encR (run0 (usesOf (formOf op)) ⟨op, 0, 0, 0, 0⟩ xs)]) := Lib.hid (by rw [← insOf_run]; rfl)
  rw [count_left] at hl
  have c60 := c6 0 _ rfl
  have c61 := c6 1 _ rfl
  have c62 := c6 2 _ rfl
  have c63 := c6 3 _ rfl
  clear c6
  generalize usesOf (formOf op) = u at c60 c61 c62 c63 HB hl
  have hlt5 : b5 < w.heap.size := World.block_lt_of_cell? w _ c5
  have hlt6 : b6 < w.heap.size := World.block_lt_of_cell? w _ c60
  have HL := Lib.hid hl
  clear hl
  go_enter Tryz.func119, Tryz.ntmps119
  go_wp2
  go_loopw [0, 30] (fun s0 s30 wr => ∃ (k : Nat) (f : Ins) (r : List Int) (A' : Option Addr) (n' c' : Nat), k ≤ 4 ∧ s30 = .int .i64 k ∧ s0 = .slice A' n' c' ∧ NumsAt w .i64 A' n' r ∧ n' ≤ c' ∧ Hid (r.length = leftOf u k) ∧ Hid (run0 u ⟨op, 0, 0, 0, 0⟩ xs = goOn u k f r) ∧
      Blk wr w.heap.size 27 #[.int .i64 f.op, .int .i64 f.a, .int .i64 f.b, .int .i64 f.c, .int .i64 f.imm] ∧ Blk wr (w.heap.size + 1) 94 (arr w.heap.size u) ∧ Below w.heap.size w wr) (fun _ i _ => 4 - (intOf i).toNat)
  case atStart =>
    refine ⟨0, ⟨op, 0, 0, 0, 0⟩, xs, A, _, c, by omega, rfl, rfl, hn, hc, HL, rfl, (Blk.new w _ _).alloc _, ?_, ((Below.refl _ _).alloc (Nat.le_refl _) _).alloc (by simp) _⟩
    have := Blk.new (w.alloc (.cells #[.int .i64 op, .int .i64 0, .int .i64 0, .int .i64 0, .int .i64 0] 27)) 94 (arr w.heap.size u)
    have e : (w.alloc (.cells #[.int .i64 op, .int .i64 0, .int .i64 0, .int .i64 0, .int .i64 0] 27)).heap.size = w.heap.size + 1 := by simp
    rw [e] at this
    exact this
  case round =>
    obtain ⟨k, f, r, A', n', c', hk, rfl, rfl, hn', hc', HLr, HGo, hI, hA, hb⟩ := hrel
    have a0 : wr.cell? ⟨w.heap.size + 1, 0, none⟩ = some (.bool u.a) := hA.cell 0
    have a1 : wr.cell? ⟨w.heap.size + 1, 1, none⟩ = some (.pointer (some ⟨w.heap.size, 1, none⟩)) := hA.cell 1
    have a2 : wr.cell? ⟨w.heap.size + 1, 2, none⟩ = some (.bool u.b) := hA.cell 2
    have a3 : wr.cell? ⟨w.heap.size + 1, 3, none⟩ = some (.pointer (some ⟨w.heap.size, 2, none⟩)) := hA.cell 3
    have a4 : wr.cell? ⟨w.heap.size + 1, 4, none⟩ = some (.bool u.c) := hA.cell 4
    have a5 : wr.cell? ⟨w.heap.size + 1, 5, none⟩ = some (.pointer (some ⟨w.heap.size, 3, none⟩)) := hA.cell 5
    have a6 : wr.cell? ⟨w.heap.size + 1, 6, none⟩ = some (.bool u.imm) := hA.cell 6
    have a7 : wr.cell? ⟨w.heap.size + 1, 7, none⟩ = some (.pointer (some ⟨w.heap.size, 4, none⟩)) := hA.cell 7
    have i0 : wr.cell? ⟨w.heap.size, 0, none⟩ = some (.int .i64 f.op) := hI.cell 0
    have i1 : wr.cell? ⟨w.heap.size, 1, none⟩ = some (.int .i64 f.a) := hI.cell 1
    have i2 : wr.cell? ⟨w.heap.size, 2, none⟩ = some (.int .i64 f.b) := hI.cell 2
    have i3 : wr.cell? ⟨w.heap.size, 3, none⟩ = some (.int .i64 f.c) := hI.cell 3
    have i4 : wr.cell? ⟨w.heap.size, 4, none⟩ = some (.int .i64 f.imm) := hI.cell 4
    have z1 : wr.frozen? ⟨w.heap.size, 1, none⟩ = false := hI.frozen 1
    have z2 : wr.frozen? ⟨w.heap.size, 2, none⟩ = false := hI.frozen 2
    have z3 : wr.frozen? ⟨w.heap.size, 3, none⟩ = false := hI.frozen 3
    have z4 : wr.frozen? ⟨w.heap.size, 4, none⟩ = false := hI.frozen 4
    have hlt : w.heap.size + 1 < wr.heap.size := hA.lt
    have hcases : k = 0 ∨ k = 1 ∨ k = 2 ∨ k = 3 ∨ k = 4 := by omega
    clear c5 c60 c61 c62 c63 hlt5 hlt6 hn hc HL
    rcases hcases with rfl | rfl | rfl | rfl | rfl
    · clear a2 a3 a4 a5 a6 a7 z2 z3 z4
      cases hu : u.a with
      | false =>
        rw [hu] at a0
        have HU := Lib.hid hu
        clear hu
        go_wp2
        go_roundw
        case rel =>
          refine ⟨1, f, r, A', n', c', by omega, by rfl, rfl, hn', hc', ?_, ?_, hI.alloc _, hA.alloc _, hb.alloc (by omega) _⟩
          · rw [HLr.out]
            unfold leftOf
            simp only [HU.out]
            exact Lib.hid (by simp)
          · rw [HGo.out]
            unfold goOn
            simp only [run0, HU.out]
            exact Lib.hid (by simp)
        case measure => simp [intOf]
      | true =>
        rw [hu] at a0
        have HU := Lib.hid hu
        obtain ⟨x, r, rfl⟩ : ∃ x r', r = x :: r' := by
          cases r with
          | nil =>
            have := HLr.out
            unfold leftOf at this
            simp [hu] at this
            try omega
          | cons x r' => exact ⟨x, r', rfl⟩
        obtain ⟨m, rfl⟩ : ∃ m, n' = m + 1 := ⟨n' - 1, by have := hn'.1; simp at this; omega⟩
        obtain ⟨b, o, rfl, hcell⟩ := hn'.2 (by omega)
        have hx0 := hcell 0 x rfl
        rw [Nat.add_zero] at hx0
        have hx : wr.cell? ⟨b, o, none⟩ = some (.int .i64 x) := cell_below hx0 hb
        have hbl : b < w.heap.size := World.block_lt_of_cell? w _ hx0
        have hne : ¬ b = w.heap.size := by omega
        have hne' : ¬ w.heap.size = b := by omega
        have hbw : b < wr.heap.size := by omega
        have hlt0 : w.heap.size < wr.heap.size := by omega
        have hcut := hn'.cut hc'
        have hm1 : (0 : Int) < ((m : Int) + 1) := by omega
        have hm2 : (1 : Int) ≤ ((m : Int) + 1) := by omega
        clear hu hcell hx0 hn'
        by_cases h1 : c' = 1
        · rw [if_pos h1] at hcut
          obtain rfl : m = 0 := by omega
          subst h1
          go_wp2_with fail
          go_region
          all_goals go_wp2
          all_goals go_roundw
          case rel =>
            refine ⟨1, { f with a := x }, r, _, _, _, by omega, by rfl, rfl, hcut, by omega, ?_, ?_, (hI.store 1 _).alloc _, (hA.far (p := ⟨w.heap.size, 1, none⟩) (by simp) _).alloc _, ((hb.setCell (p := ⟨w.heap.size, 1, none⟩) (by simp) _).alloc (by simp [World.setCell]; omega) _).drew⟩
            · have := HLr.out
              unfold leftOf at this ⊢
              simp only [HU.out, List.length_cons] at this
              exact Lib.hid (by simp at this ⊢; omega)
            · rw [HGo.out]
              unfold goOn
              simp only [run0, HU.out]
              exact Lib.hid (by simp)
          case measure => simp [intOf]
        · rw [if_neg h1] at hcut
          have hm3 : ¬ (c' : Int) = 1 := by omega
          go_wp2_with fail
          go_region
          all_goals go_wp2
          all_goals go_roundw
          case rel =>
            refine ⟨1, { f with a := x }, r, _, _, _, by omega, by rfl, rfl, hcut, by omega, ?_, ?_, (hI.store 1 _).alloc _, (hA.far (p := ⟨w.heap.size, 1, none⟩) (by simp) _).alloc _, ((hb.setCell (p := ⟨w.heap.size, 1, none⟩) (by simp) _).alloc (by simp [World.setCell]; omega) _).drew⟩
            · have := HLr.out
              unfold leftOf at this ⊢
              simp only [HU.out, List.length_cons] at this
              exact Lib.hid (by simp at this ⊢; omega)
            · rw [HGo.out]
              unfold goOn
              simp only [run0, HU.out]
              exact Lib.hid (by simp)
          case measure => simp [intOf]
    · clear a0 a1 a4 a5 a6 a7 z1 z3 z4
      cases hu : u.b with
      | false =>
        rw [hu] at a2
        have HU := Lib.hid hu
        clear hu
        go_wp2
        go_roundw
        case rel =>
          refine ⟨2, f, r, A', n', c', by omega, by rfl, rfl, hn', hc', ?_, ?_, hI.alloc _, hA.alloc _, hb.alloc (by omega) _⟩
          · rw [HLr.out]
            unfold leftOf
            simp only [HU.out]
            exact Lib.hid (by simp)
          · rw [HGo.out]
            unfold goOn
            simp only [run1, HU.out]
            exact Lib.hid (by simp)
        case measure => simp [intOf]
      | true =>
        rw [hu] at a2
        have HU := Lib.hid hu
        obtain ⟨x, r, rfl⟩ : ∃ x r', r = x :: r' := by
          cases r with
          | nil =>
            have := HLr.out
            unfold leftOf at this
            simp [hu] at this
            try omega
          | cons x r' => exact ⟨x, r', rfl⟩
        obtain ⟨m, rfl⟩ : ∃ m, n' = m + 1 := ⟨n' - 1, by have := hn'.1; simp at this; omega⟩
        obtain ⟨b, o, rfl, hcell⟩ := hn'.2 (by omega)
        have hx0 := hcell 0 x rfl
        rw [Nat.add_zero] at hx0
        have hx : wr.cell? ⟨b, o, none⟩ = some (.int .i64 x) := cell_below hx0 hb
        have hbl : b < w.heap.size := World.block_lt_of_cell? w _ hx0
        have hne : ¬ b = w.heap.size := by omega
        have hne' : ¬ w.heap.size = b := by omega
        have hbw : b < wr.heap.size := by omega
        have hlt0 : w.heap.size < wr.heap.size := by omega
        have hcut := hn'.cut hc'
        have hm1 : (0 : Int) < ((m : Int) + 1) := by omega
        have hm2 : (1 : Int) ≤ ((m : Int) + 1) := by omega
        clear hu hcell hx0 hn'
        by_cases h1 : c' = 1
        · rw [if_pos h1] at hcut
          obtain rfl : m = 0 := by omega
          subst h1
          go_wp2_with fail
          go_region
          all_goals go_wp2
          all_goals go_roundw
          case rel =>
            refine ⟨2, { f with b := x }, r, _, _, _, by omega, by rfl, rfl, hcut, by omega, ?_, ?_, (hI.store 2 _).alloc _, (hA.far (p := ⟨w.heap.size, 2, none⟩) (by simp) _).alloc _, ((hb.setCell (p := ⟨w.heap.size, 2, none⟩) (by simp) _).alloc (by simp [World.setCell]; omega) _).drew⟩
            · have := HLr.out
              unfold leftOf at this ⊢
              simp only [HU.out, List.length_cons] at this
              exact Lib.hid (by simp at this ⊢; omega)
            · rw [HGo.out]
              unfold goOn
              simp only [run1, HU.out]
              exact Lib.hid (by simp)
          case measure => simp [intOf]
        · rw [if_neg h1] at hcut
          have hm3 : ¬ (c' : Int) = 1 := by omega
          go_wp2_with fail
          go_region
          all_goals go_wp2
          all_goals go_roundw
          case rel =>
            refine ⟨2, { f with b := x }, r, _, _, _, by omega, by rfl, rfl, hcut, by omega, ?_, ?_, (hI.store 2 _).alloc _, (hA.far (p := ⟨w.heap.size, 2, none⟩) (by simp) _).alloc _, ((hb.setCell (p := ⟨w.heap.size, 2, none⟩) (by simp) _).alloc (by simp [World.setCell]; omega) _).drew⟩
            · have := HLr.out
              unfold leftOf at this ⊢
              simp only [HU.out, List.length_cons] at this
              exact Lib.hid (by simp at this ⊢; omega)
            · rw [HGo.out]
              unfold goOn
              simp only [run1, HU.out]
              exact Lib.hid (by simp)
          case measure => simp [intOf]
    · clear a0 a1 a2 a3 a6 a7 z1 z2 z4
      cases hu : u.c with
      | false =>
        rw [hu] at a4
        have HU := Lib.hid hu
        clear hu
        go_wp2
        go_roundw
        case rel =>
          refine ⟨3, f, r, A', n', c', by omega, by rfl, rfl, hn', hc', ?_, ?_, hI.alloc _, hA.alloc _, hb.alloc (by omega) _⟩
          · rw [HLr.out]
            unfold leftOf
            simp only [HU.out]
            exact Lib.hid (by simp)
          · rw [HGo.out]
            unfold goOn
            simp only [run2, HU.out]
            exact Lib.hid (by simp)
        case measure => simp [intOf]
      | true =>
        rw [hu] at a4
        have HU := Lib.hid hu
        obtain ⟨x, r, rfl⟩ : ∃ x r', r = x :: r' := by
          cases r with
          | nil =>
            have := HLr.out
            unfold leftOf at this
            simp [hu] at this
            try omega
          | cons x r' => exact ⟨x, r', rfl⟩
        obtain ⟨m, rfl⟩ : ∃ m, n' = m + 1 := ⟨n' - 1, by have := hn'.1; simp at this; omega⟩
        obtain ⟨b, o, rfl, hcell⟩ := hn'.2 (by omega)
        have hx0 := hcell 0 x rfl
        rw [Nat.add_zero] at hx0
        have hx : wr.cell? ⟨b, o, none⟩ = some (.int .i64 x) := cell_below hx0 hb
        have hbl : b < w.heap.size := World.block_lt_of_cell? w _ hx0
        have hne : ¬ b = w.heap.size := by omega
        have hne' : ¬ w.heap.size = b := by omega
        have hbw : b < wr.heap.size := by omega
        have hlt0 : w.heap.size < wr.heap.size := by omega
        have hcut := hn'.cut hc'
        have hm1 : (0 : Int) < ((m : Int) + 1) := by omega
        have hm2 : (1 : Int) ≤ ((m : Int) + 1) := by omega
        clear hu hcell hx0 hn'
        by_cases h1 : c' = 1
        · rw [if_pos h1] at hcut
          obtain rfl : m = 0 := by omega
          subst h1
          go_wp2_with fail
          go_region
          all_goals go_wp2
          all_goals go_roundw
          case rel =>
            refine ⟨3, { f with c := x }, r, _, _, _, by omega, by rfl, rfl, hcut, by omega, ?_, ?_, (hI.store 3 _).alloc _, (hA.far (p := ⟨w.heap.size, 3, none⟩) (by simp) _).alloc _, ((hb.setCell (p := ⟨w.heap.size, 3, none⟩) (by simp) _).alloc (by simp [World.setCell]; omega) _).drew⟩
            · have := HLr.out
              unfold leftOf at this ⊢
              simp only [HU.out, List.length_cons] at this
              exact Lib.hid (by simp at this ⊢; omega)
            · rw [HGo.out]
              unfold goOn
              simp only [run2, HU.out]
              exact Lib.hid (by simp)
          case measure => simp [intOf]
        · rw [if_neg h1] at hcut
          have hm3 : ¬ (c' : Int) = 1 := by omega
          go_wp2_with fail
          go_region
          all_goals go_wp2
          all_goals go_roundw
          case rel =>
            refine ⟨3, { f with c := x }, r, _, _, _, by omega, by rfl, rfl, hcut, by omega, ?_, ?_, (hI.store 3 _).alloc _, (hA.far (p := ⟨w.heap.size, 3, none⟩) (by simp) _).alloc _, ((hb.setCell (p := ⟨w.heap.size, 3, none⟩) (by simp) _).alloc (by simp [World.setCell]; omega) _).drew⟩
            · have := HLr.out
              unfold leftOf at this ⊢
              simp only [HU.out, List.length_cons] at this
              exact Lib.hid (by simp at this ⊢; omega)
            · rw [HGo.out]
              unfold goOn
              simp only [run2, HU.out]
              exact Lib.hid (by simp)
          case measure => simp [intOf]
    · clear a0 a1 a2 a3 a4 a5 z1 z2 z3
      cases hu : u.imm with
      | false =>
        rw [hu] at a6
        have HU := Lib.hid hu
        clear hu
        go_wp2
        go_roundw
        case rel =>
          refine ⟨4, f, r, A', n', c', by omega, by rfl, rfl, hn', hc', ?_, ?_, hI.alloc _, hA.alloc _, hb.alloc (by omega) _⟩
          · rw [HLr.out]
            unfold leftOf
            simp only [HU.out]
            exact Lib.hid (by simp)
          · rw [HGo.out]
            unfold goOn
            simp only [run3, HU.out]
            exact Lib.hid (by simp)
        case measure => simp [intOf]
      | true =>
        rw [hu] at a6
        have HU := Lib.hid hu
        obtain ⟨x, r, rfl⟩ : ∃ x r', r = x :: r' := by
          cases r with
          | nil =>
            have := HLr.out
            unfold leftOf at this
            simp [hu] at this
            try omega
          | cons x r' => exact ⟨x, r', rfl⟩
        obtain ⟨m, rfl⟩ : ∃ m, n' = m + 1 := ⟨n' - 1, by have := hn'.1; simp at this; omega⟩
        obtain ⟨b, o, rfl, hcell⟩ := hn'.2 (by omega)
        have hx0 := hcell 0 x rfl
        rw [Nat.add_zero] at hx0
        have hx : wr.cell? ⟨b, o, none⟩ = some (.int .i64 x) := cell_below hx0 hb
        have hbl : b < w.heap.size := World.block_lt_of_cell? w _ hx0
        have hne : ¬ b = w.heap.size := by omega
        have hne' : ¬ w.heap.size = b := by omega
        have hbw : b < wr.heap.size := by omega
        have hlt0 : w.heap.size < wr.heap.size := by omega
        have hcut := hn'.cut hc'
        have hm1 : (0 : Int) < ((m : Int) + 1) := by omega
        have hm2 : (1 : Int) ≤ ((m : Int) + 1) := by omega
        clear hu hcell hx0 hn'
        by_cases h1 : c' = 1
        · rw [if_pos h1] at hcut
          obtain rfl : m = 0 := by omega
          subst h1
          go_wp2_with fail
          go_region
          all_goals go_wp2
          all_goals go_roundw
          case rel =>
            refine ⟨4, { f with imm := x }, r, _, _, _, by omega, by rfl, rfl, hcut, by omega, ?_, ?_, (hI.store 4 _).alloc _, (hA.far (p := ⟨w.heap.size, 4, none⟩) (by simp) _).alloc _, ((hb.setCell (p := ⟨w.heap.size, 4, none⟩) (by simp) _).alloc (by simp [World.setCell]; omega) _).drew⟩
            · have := HLr.out
              unfold leftOf at this ⊢
              simp only [HU.out, List.length_cons] at this
              exact Lib.hid (by simp at this ⊢; omega)
            · rw [HGo.out]
              unfold goOn
              simp only [run3, HU.out]
              exact Lib.hid (by simp)
          case measure => simp [intOf]
        · rw [if_neg h1] at hcut
          have hm3 : ¬ (c' : Int) = 1 := by omega
          go_wp2_with fail
          go_region
          all_goals go_wp2
          all_goals go_roundw
          case rel =>
            refine ⟨4, { f with imm := x }, r, _, _, _, by omega, by rfl, rfl, hcut, by omega, ?_, ?_, (hI.store 4 _).alloc _, (hA.far (p := ⟨w.heap.size, 4, none⟩) (by simp) _).alloc _, ((hb.setCell (p := ⟨w.heap.size, 4, none⟩) (by simp) _).alloc (by simp [World.setCell]; omega) _).drew⟩
            · have := HLr.out
              unfold leftOf at this ⊢
              simp only [HU.out, List.length_cons] at this
              exact Lib.hid (by simp at this ⊢; omega)
            · rw [HGo.out]
              unfold goOn
              simp only [run3, HU.out]
              exact Lib.hid (by simp)
          case measure => simp [intOf]
    · have HQ : Hid (buildP (.ins op) xs = [encR f]) := Lib.hid (by rw [HB.out, HGo.out]; rfl)
      have HE := Lib.hid (fun W (hE : Env er W) => Encode_any f er W hE)
      have hEnv := Lib.hid (E.below hb)
      obtain ⟨fo, fa, fb, fc, fi⟩ := f
      simp only at i0 i1 i2 i3 i4
      unfold Ins.val at HE
      clear HB HGo HLr a0 a1 a2 a3 a4 a5 a6 a7 z1 z2 z3 z4 hI hA hn' hc' E
      go_wp2_with fail
      refine (HE.out _ hEnv.out).mono ?_
      rintro e w2 ⟨rfl, hb2⟩
      have hb02 := hb.trans (hb2.mono hb.size)
      go_wp2
      go_ret
      refine ⟨.slice _ 1 1, rfl, ?_, hb02.alloc hb02.size _⟩
      rw [HQ.out]
      exact one_word w2 _
end Go.Proofs.YtecmeegnjjhilaaGreatDoor
