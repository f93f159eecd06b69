/- isa.Parse: the instruction whose print a text is. -/
import Derived.Test.YtecmeegnjjhilaaGreatDoorNext
import Derived.Test.YtecmeegnjjhilaaGreatDoorAtoi
import Derived.Test.YtecmeegnjjhilaaGreatDoorAsp
import Derived.Test.YtecmeegnjjhilaaGreatDoorLine
import Derived.Lib.SplitLaws
namespace Go.Proofs.YtecmeegnjjhilaaGreatDoor
open Go.RowKit

def hd (r : List ByteArray) : List UInt8 := (r.headD ⟨#[]⟩).data.toList
def g2 (u : Uses) (f : Ins) (r : List ByteArray) : Ins × List ByteArray := if u.c then ({ f with c := regP (hd r) }, r.tail) else (f, r)
def g1 (u : Uses) (f : Ins) (r : List ByteArray) : Ins × List ByteArray := if u.b then g2 u { f with b := regP (hd r) } r.tail else g2 u f r
def g0 (u : Uses) (f : Ins) (r : List ByteArray) : Ins × List ByteArray := if u.a then g1 u { f with a := regP (hd r) } r.tail else g1 u f r
def goQ (u : Uses) (k : Nat) (f : Ins) (r : List ByteArray) : Ins × List ByteArray := match k with | 0 => g0 u f r | 1 => g1 u f r | 2 => g2 u f r | _ => (f, r)
def wordsS (s : ByteArray) : List ByteArray := Lib.splitB ⟨#[32]⟩ 0 (Lib.countB s ⟨#[32]⟩) s
def immP (u : Uses) (x : Ins × List ByteArray) : Option Ins := if u.imm then (match Lib.atoiAll (hd x.2) with | .ok v => some { x.1 with imm := v } | _ => none) else some x.1
def parseRaw (s : ByteArray) : Option Ins :=
  if (wordRow (hd (wordsS s))).op = 0 then none
  else immP (usesOf (formOf (wordRow (hd (wordsS s))).op)) (g0 (usesOf (formOf (wordRow (hd (wordsS s))).op)) ⟨(wordRow (hd (wordsS s))).op, 0, 0, 0, 0⟩ (wordsS s).tail)
def parseOk (s : ByteArray) (i : Ins) : Prop := checkC i = 0 ∧ printT i = s.data.toList
instance (s : ByteArray) (i : Ins) : Decidable (parseOk s i) := by unfold parseOk; infer_instance
def parseS (s : ByteArray) (o : Option Ins) : Ins × Nat := match o with
  | none => (⟨0, 0, 0, 0, 0⟩, 18)
  | some i => if parseOk s i then (i, 0) else (⟨0, 0, 0, 0, 0⟩, 18)
def parseP (s : ByteArray) : Ins × Nat := parseS s (parseRaw s)

theorem lines_like (s : ByteArray) : (wordsS s).length = Lib.countB s ⟨#[32]⟩ + 1 := Lib.splitB_all ⟨#[32]⟩ (by decide) 0 _ s rfl
theorem split_small (s : ByteArray) : ∀ x ∈ wordsS s, x.size ≤ s.size := split_sizes ⟨#[32]⟩ 0 (Lib.countB s ⟨#[32]⟩) s
theorem Blk.same {w w' : World} {g : Nat} {t : TypeId} {cs : Array Value} (h : Blk w g t cs) (hs : w'.heap[g]? = w.heap[g]?) : Blk w' g t cs := hs.trans h

theorem head_small (r : List ByteArray) (h : ∀ x ∈ r, x.size ≤ 100000000) : (r.headD ⟨#[]⟩).size ≤ 1000000000 := by
  cases r with
  | nil => decide
  | cons x r => exact Nat.le_trans (h x (by simp)) (by decide)
attribute [local irreducible] Calls in
set_option maxHeartbeats 2000000 in
set_option maxRecDepth 100000 in
theorem Parse_any (s : ByteArray) (hs : s.size ≤ 100000000) (er : Nat → Addr) (w : World) (E : Env er w) :
    Calls Tryz.prog 21 #[.string s] w fun e w' => e = .returned (.tuple #[(parseP s).1.val, errV er (parseP s).2]) ∧ Below w.heap.size w w' := by
  have HE := Lib.hid E
  have hlE : 2 < w.heap.size := World.block_lt_of_cell? w _ E.eText
  obtain ⟨m, hm⟩ := E.maxl
  clear E
  have hmf : ∀ (fn : Fn) (first cap : Array Value) (w : World), (Instr.makeFunc fn first cap).run Tryz.prog w = .ok (.func fn first cap) w := fun _ _ _ _ => rfl
  have hb0 : Below w.heap.size w (w.alloc (.cells #[.int .i64 0, .int .i64 0, .int .i64 0, .int .i64 0, .int .i64 0] 27)) := (Below.refl _ _).alloc (Nat.le_refl _) _
  have HSp := Lib.hid (Tryz.strings_Split s ⟨#[32]⟩ m (w.alloc (.cells #[.int .i64 0, .int .i64 0, .int .i64 0, .int .i64 0, .int .i64 0] 27)) (by omega) (cell_below hm hb0) (by decide))
  have hZ := Blk.new w 27 #[.int .i64 0, .int .i64 0, .int .i64 0, .int .i64 0, .int .i64 0]
  have hWn := lines_like s
  have hsz := split_small s
  have HP : Hid (parseP s = parseS s (if (wordRow (hd (wordsS s))).op = 0 then none
    else immP (usesOf (formOf (wordRow (hd (wordsS s))).op)) (g0 (usesOf (formOf (wordRow (hd (wordsS s))).op)) ⟨(wordRow (hd (wordsS s))).op, 0, 0, 0, 0⟩ (wordsS s).tail))) := Lib.hid rfl
  go_enter Tryz.func21, Tryz.ntmps21
  go_wp2_with fail
  refine HSp.out.mono ?_
  rintro e w1 ⟨rfl, rfl⟩
  obtain ⟨x0, r0, hx0⟩ : ∃ x0 r0, wordsS s = x0 :: r0 := by
    cases h : wordsS s with
    | nil => rw [h] at hWn; cases hWn
    | cons x r => exact ⟨x, r, rfl⟩
  have hcells : Blk ((w.alloc (.cells #[.int .i64 0, .int .i64 0, .int .i64 0, .int .i64 0, .int .i64 0] 27)).alloc (.cells ((Lib.splitB ⟨#[32]⟩ 0 (Lib.countB s ⟨#[32]⟩) s).map Value.string).toArray 9)) (w.heap.size + 1) 9 ((wordsS s).map Value.string).toArray := by
    have := Blk.new (w.alloc (.cells #[.int .i64 0, .int .i64 0, .int .i64 0, .int .i64 0, .int .i64 0] 27)) 9 ((wordsS s).map Value.string).toArray
    simp only [World.size_alloc] at this
    exact this
  rw [hx0] at hWn hsz HP hcells
  have hcn : Lib.countB s ⟨#[32]⟩ = r0.length := by simp at hWn; omega
  have hZ1 := hZ.alloc (.cells ((Lib.splitB ⟨#[32]⟩ 0 (Lib.countB s ⟨#[32]⟩) s).map Value.string).toArray 9)
  have hb1 := hb0.alloc (by simp) (.cells ((Lib.splitB ⟨#[32]⟩ 0 (Lib.countB s ⟨#[32]⟩) s).map Value.string).toArray 9)
  have hn9 : r0.length ≤ 100000000 := by have := Lib.countB_le ⟨#[32]⟩ (by decide) _ s (Nat.le_refl _); omega
  generalize (w.alloc (.cells #[.int .i64 0, .int .i64 0, .int .i64 0, .int .i64 0, .int .i64 0] 27)).alloc (.cells ((Lib.splitB ⟨#[32]⟩ 0 (Lib.countB s ⟨#[32]⟩) s).map Value.string).toArray 9) = w1 at hcells hZ1 hb1 ⊢
  rw [hcn]
  have hW1 : StrsV w1 (.slice (some ⟨w.heap.size + 1, 0, none⟩) (r0.length + 1) (r0.length + 1)) (x0 :: r0) := ⟨_, _, rfl, Nat.le_refl _, fun _ => ⟨w.heap.size + 1, 0, _, rfl, hcells, fun i y hy => by rw [Nat.zero_add, List.getElem?_toArray, List.getElem?_map, hy]; rfl⟩⟩
  have k0 : w1.cell? ⟨w.heap.size + 1, 0, none⟩ = some (.string x0) := by rw [hcells.cell 0]; simp
  have Hsz : Hid (∀ x ∈ r0, x.size ≤ 100000000) := Lib.hid (fun x hx => Nat.le_trans (hsz x (by simp [hx])) hs)
  have HNu := Lib.hid (Number_any x0 w1 (HE.out.below hb1).space)
  have hhd : hd (x0 :: r0) = x0.data.toList := rfl
  rw [hhd] at HP
  simp only [List.tail_cons] at HP
  clear hWn hsz hx0 hcn hb0 HSp hZ hm hcells hhd
  generalize (wordRow x0.data.toList).op = o at HNu HP
  go_wp2_with fail
  refine HNu.out.mono ?_
  rintro e w2 ⟨rfl, hb2⟩
  have hb02 : Below w.heap.size w w2 := hb1.trans (hb2.mono hb1.size)
  have hZ2 := hZ1.below hb2 hZ1.lt
  have hW2 := hW1.keep (Keeps.of_below hb2)
  have hI2 := Blk.new w2 27 #[.int .i64 o, .int .i64 0, .int .i64 0, .int .i64 0, .int .i64 0]
  have hZ3 := hZ2.alloc (.cells #[.int .i64 o, .int .i64 0, .int .i64 0, .int .i64 0, .int .i64 0] 27)
  have hW3 := hW2.keep (Keeps.of_below ((Below.refl w2.heap.size w2).alloc (Nat.le_refl _) (.cells #[.int .i64 o, .int .i64 0, .int .i64 0, .int .i64 0, .int .i64 0] 27)))
  have hb03 := hb02.alloc hb02.size (.cells #[.int .i64 o, .int .i64 0, .int .i64 0, .int .i64 0, .int .i64 0] 27)
  have hIH : w.heap.size < w2.heap.size := hZ2.lt
  clear HNu hb2 hb1 hb02 hZ1 hZ2 hW1 hW2 k0
  by_cases ho : o = 0
  · subst ho
    have HF : Hid (parseP s = (⟨0, 0, 0, 0, 0⟩, 18)) := Lib.hid (by rw [HP.out, if_pos rfl]; rfl)
    clear HP hW3 Hsz hn9
    go_wp2_with fail
    generalize w2.alloc (.cells #[.int .i64 0, .int .i64 0, .int .i64 0, .int .i64 0, .int .i64 0] 27) = w3 at hI2 hZ3 hb03 ⊢
    have z0 : w3.cell? ⟨w.heap.size, 0, none⟩ = some (.int .i64 0) := hZ3.cell 0
    have z1 : w3.cell? ⟨w.heap.size, 1, none⟩ = some (.int .i64 0) := hZ3.cell 1
    have z2 : w3.cell? ⟨w.heap.size, 2, none⟩ = some (.int .i64 0) := hZ3.cell 2
    have z3 : w3.cell? ⟨w.heap.size, 3, none⟩ = some (.int .i64 0) := hZ3.cell 3
    have z4 : w3.cell? ⟨w.heap.size, 4, none⟩ = some (.int .i64 0) := hZ3.cell 4
    have y0 : w3.frozen? ⟨w.heap.size, 0, none⟩ = false := hZ3.frozen 0
    have y1 : w3.frozen? ⟨w.heap.size, 1, none⟩ = false := hZ3.frozen 1
    have y2 : w3.frozen? ⟨w.heap.size, 2, none⟩ = false := hZ3.frozen 2
    have y3 : w3.frozen? ⟨w.heap.size, 3, none⟩ = false := hZ3.frozen 3
    have y4 : w3.frozen? ⟨w.heap.size, 4, none⟩ = false := hZ3.frozen 4
    have hk := (HE.out.below hb03).eText
    have hne : ¬ w.heap.size = 2 := by omega
    go_region
    all_goals go_wp2
    all_goals refine bodyPost_ret (v := .tuple #[.agg #[.int .i64 0, .int .i64 0, .int .i64 0, .int .i64 0, .int .i64 0], ev (er 18)]) (by simp [results, Tryz.results21, go_sem, z0, z1, z2, z3, z4]) rfl ⟨?_, ?_⟩
    · rw [HF.out, errV_pos er 18 (by decide)]
    · exact (((((hb03.setCell (Nat.le_refl _) _).setCell (Nat.le_refl _) _).setCell (Nat.le_refl _) _).setCell (Nat.le_refl _) _).setCell (Nat.le_refl _) _).drew
  · have ho' : (o == 0) = false := by simpa using ho
    have HP2 : Hid (parseP s = parseS s (immP (usesOf (formOf o)) (g0 (usesOf (formOf o)) ⟨o, 0, 0, 0, 0⟩ r0))) := Lib.hid (by rw [HP.out, if_neg ho])
    have HFo := Lib.hid (fun W (h : Env er W) => Form_f er o W h)
    have HFm := Lib.hid (fun W => form_any (formOf o) W (form_range o).1 (form_range o).2)
    clear HP ho
    generalize usesOf (formOf o) = u at HP2 HFm
    obtain ⟨G0, hG0⟩ : ∃ G, g0 u ⟨o, 0, 0, 0, 0⟩ r0 = G := ⟨_, rfl⟩
    rw [hG0] at HP2
    have HG0 := Lib.hid hG0.symm
    clear hG0
    generalize formOf o = f at HFo HFm
    obtain ⟨ua, ub, uc, ui, us⟩ := u
    go_wp2_with fail
    generalize hw3 : w2.alloc (.cells #[.int .i64 o, .int .i64 0, .int .i64 0, .int .i64 0, .int .i64 0] 27) = w3 at hI2 hZ3 hW3 hb03 ⊢
    clear hw3
    generalize w2.heap.size = I at hI2 hIH ⊢
    refine (HFo.out _ (HE.out.below hb03)).mono ?_
    rintro e w4 ⟨rfl, hb4⟩
    have hb04 : Below w.heap.size w w4 := hb03.trans (hb4.mono hb03.size)
    have hZ4 := hZ3.below hb4 hZ3.lt
    have hI4 := hI2.below hb4 hI2.lt
    have hW4 := hW3.keep (Keeps.of_below hb4)
    clear hb4 hb03 hZ3 hI2 hW3 HFo
    go_wp2_with fail
    refine (HFm.out _).mono ?_
    rintro e w5 ⟨rfl, hb5⟩
    have hb05 : Below w.heap.size w w5 := hb04.trans (hb5.mono hb04.size)
    have hZ5 := hZ4.below hb5 hZ4.lt
    have hI5 := hI4.below hb5 hI4.lt
    have hW5 := hW4.keep (Keeps.of_below hb5)
    clear hb5 hb04 hZ4 hI4 hW4 HFm
    have hcut := hW5.cut
    rw [Nat.add_sub_cancel] at hcut
    have n1 : (1 : Int) ≤ ((r0.length : Int) + 1) := by omega
    have hI5l := hI5.lt
    have hcase : r0.length + 1 = 1 ∨ ¬ r0.length + 1 = 1 := by omega
    rcases hcase with hr0 | hr0
    · rw [if_pos hr0] at hcut
      obtain rfl : r0 = [] := List.eq_nil_of_length_eq_zero (by omega)
      clear hr0
      go_wp2_with fail
      have hZ6 := ((hZ5.alloc (.cells #[.bool ua, .bool ub, .bool uc, .bool ui, .bool us] 83)).alloc (.cells #[(.slice (some ⟨w.heap.size + 1, 0, none⟩) 0 0)] 54)).alloc (.cells #[.bool ua, .pointer (some ⟨I, 1, none⟩), .bool ub, .pointer (some ⟨I, 2, none⟩), .bool uc, .pointer (some ⟨I, 3, none⟩)] 94)
      have hI6 := ((hI5.alloc (.cells #[.bool ua, .bool ub, .bool uc, .bool ui, .bool us] 83)).alloc (.cells #[(.slice (some ⟨w.heap.size + 1, 0, none⟩) 0 0)] 54)).alloc (.cells #[.bool ua, .pointer (some ⟨I, 1, none⟩), .bool ub, .pointer (some ⟨I, 2, none⟩), .bool uc, .pointer (some ⟨I, 3, none⟩)] 94)
      have hU6 := ((Blk.new w5 83 #[.bool ua, .bool ub, .bool uc, .bool ui, .bool us]).alloc (.cells #[(.slice (some ⟨w.heap.size + 1, 0, none⟩) 0 0)] 54)).alloc (.cells #[.bool ua, .pointer (some ⟨I, 1, none⟩), .bool ub, .pointer (some ⟨I, 2, none⟩), .bool uc, .pointer (some ⟨I, 3, none⟩)] 94)
      have hR6 := (Blk.new (w5.alloc (.cells #[.bool ua, .bool ub, .bool uc, .bool ui, .bool us] 83)) 54 #[(.slice (some ⟨w.heap.size + 1, 0, none⟩) 0 0)]).alloc (.cells #[.bool ua, .pointer (some ⟨I, 1, none⟩), .bool ub, .pointer (some ⟨I, 2, none⟩), .bool uc, .pointer (some ⟨I, 3, none⟩)] 94)
      have hA6 := Blk.new ((w5.alloc (.cells #[.bool ua, .bool ub, .bool uc, .bool ui, .bool us] 83)).alloc (.cells #[(.slice (some ⟨w.heap.size + 1, 0, none⟩) 0 0)] 54)) 94 #[.bool ua, .pointer (some ⟨I, 1, none⟩), .bool ub, .pointer (some ⟨I, 2, none⟩), .bool uc, .pointer (some ⟨I, 3, none⟩)]
      have hV6 := hcut.keep (((((Keeps.refl w5).alloc (.cells #[.bool ua, .bool ub, .bool uc, .bool ui, .bool us] 83)).alloc (.cells #[(.slice (some ⟨w.heap.size + 1, 0, none⟩) 0 0)] 54))).alloc (.cells #[.bool ua, .pointer (some ⟨I, 1, none⟩), .bool ub, .pointer (some ⟨I, 2, none⟩), .bool uc, .pointer (some ⟨I, 3, none⟩)] 94))
      have hb06 : Below w.heap.size w (((w5.alloc (.cells #[.bool ua, .bool ub, .bool uc, .bool ui, .bool us] 83)).alloc (.cells #[(.slice (some ⟨w.heap.size + 1, 0, none⟩) 0 0)] 54)).alloc (.cells #[.bool ua, .pointer (some ⟨I, 1, none⟩), .bool ub, .pointer (some ⟨I, 2, none⟩), .bool uc, .pointer (some ⟨I, 3, none⟩)] 94)) := ((hb05.alloc hb05.size (.cells #[.bool ua, .bool ub, .bool uc, .bool ui, .bool us] 83)).alloc (by have := hb05.size; simp; omega) (.cells #[(.slice (some ⟨w.heap.size + 1, 0, none⟩) 0 0)] 54)).alloc (by have := hb05.size; simp; omega) (.cells #[.bool ua, .pointer (some ⟨I, 1, none⟩), .bool ub, .pointer (some ⟨I, 2, none⟩), .bool uc, .pointer (some ⟨I, 3, none⟩)] 94)
      simp only [World.size_alloc] at hR6 hA6
      generalize ((w5.alloc (.cells #[.bool ua, .bool ub, .bool uc, .bool ui, .bool us] 83)).alloc (.cells #[(.slice (some ⟨w.heap.size + 1, 0, none⟩) 0 0)] 54)).alloc (.cells #[.bool ua, .pointer (some ⟨I, 1, none⟩), .bool ub, .pointer (some ⟨I, 2, none⟩), .bool uc, .pointer (some ⟨I, 3, none⟩)] 94) = w6 at hZ6 hI6 hU6 hR6 hA6 hV6 hb06 ⊢
      obtain ⟨U, hU⟩ : ∃ U, w5.heap.size = U := ⟨_, rfl⟩
      rw [hU] at hU6 hR6 hA6 hI5l ⊢
      have hUR : U < U + 1 ∧ U + 1 < U + 1 + 1 := ⟨Nat.lt_succ_self _, Nat.lt_succ_self _⟩
      obtain ⟨AA, hAA⟩ : ∃ AA, U + 1 + 1 = AA := ⟨_, rfl⟩
      rw [hAA] at hA6 hUR ⊢
      obtain ⟨R, hRR⟩ : ∃ R, U + 1 = R := ⟨_, rfl⟩
      rw [hRR] at hR6 hUR ⊢
      clear hU hAA hRR hZ5 hI5 hW5 hcut hb05
      go_loopw [48] (fun s48 wr => ∃ (k : Nat) (f : Ins) (r : List ByteArray) (v : Value), k ≤ 3 ∧ s48 = .int .i64 k ∧ Blk wr w.heap.size 27 #[.int .i64 0, .int .i64 0, .int .i64 0, .int .i64 0, .int .i64 0] ∧ Blk wr I 27 #[.int .i64 f.op, .int .i64 f.a, .int .i64 f.b, .int .i64 f.c, .int .i64 f.imm] ∧ Blk wr U 83 #[.bool ua, .bool ub, .bool uc, .bool ui, .bool us] ∧ Blk wr R 54 #[v] ∧ StrsV wr v r ∧ Blk wr AA 94 #[.bool ua, .pointer (some ⟨I, 1, none⟩), .bool ub, .pointer (some ⟨I, 2, none⟩), .bool uc, .pointer (some ⟨I, 3, none⟩)] ∧ Below w.heap.size w wr ∧ r.length ≤ 100000000 ∧ Hid (∀ x ∈ r, x.size ≤ 100000000) ∧ Hid (G0 = goQ ⟨ua, ub, uc, ui, us⟩ k f r)) (fun s48 _ => 3 - (intOf s48).toNat)
      case atStart => exact ⟨0, ⟨o, 0, 0, 0, 0⟩, _, _, by omega, rfl, hZ6, hI6, hU6, hR6, hV6, hA6, hb06, hn9, Hsz, HG0⟩
      case round =>
        obtain ⟨k, f, r, v, hk, rfl, hZ, hI, hU, hR, hV, hA, hb, hn, Hr, HG⟩ := hrel
        clear hZ6 hI6 hU6 hR6 hV6 hA6 hb06
        have hk2 : k = 0 ∨ k = 1 ∨ k = 2 ∨ k = 3 := by omega
        have hIl := hI.lt
        have hAl := hA.lt
        have hRl := hR.lt
        clear hk
        rcases hk2 with rfl | rfl | rfl | rfl
        · have a0 : wr.cell? ⟨AA, 0, none⟩ = some (.bool ua) := hA.cell 0
          have a1 : wr.cell? ⟨AA, 1, none⟩ = some (.pointer (some ⟨I, 1, none⟩)) := hA.cell 1
          cases ua with
          | false =>
            have HG2 : Hid (G0 = goQ ⟨false, ub, uc, ui, us⟩ 1 f r) := Lib.hid (by rw [HG.out]; rfl)
            have hV2 := hV.keep (Keeps.of_below ((Below.refl wr.heap.size wr).alloc (Nat.le_refl _) (.cells #[.bool false, .pointer (some ⟨I, 1, none⟩)] 94)))
            have hZ2 := hZ.alloc (.cells #[.bool false, .pointer (some ⟨I, 1, none⟩)] 94)
            have hI2 := hI.alloc (.cells #[.bool false, .pointer (some ⟨I, 1, none⟩)] 94)
            have hU2 := hU.alloc (.cells #[.bool false, .pointer (some ⟨I, 1, none⟩)] 94)
            have hR2 := hR.alloc (.cells #[.bool false, .pointer (some ⟨I, 1, none⟩)] 94)
            have hA2 := hA.alloc (.cells #[.bool false, .pointer (some ⟨I, 1, none⟩)] 94)
            have hb2 := hb.alloc hb.size (.cells #[.bool false, .pointer (some ⟨I, 1, none⟩)] 94)
            clear HG hV hZ hI hU hR hA hb
            go_wp2_with fail
            go_roundw
            case rel => exact ⟨1, f, r, v, by omega, by rfl, hZ2, hI2, hU2, hR2, hV2, hA2, hb2, hn, Hr, HG2⟩
            case measure => simp [intOf]
          | true =>
            obtain ⟨X, hX⟩ : ∃ X, r.headD (⟨#[]⟩ : ByteArray) = X := ⟨_, rfl⟩
            have hXd : hd r = X.data.toList := by unfold hd; rw [hX]
            have HG2 : Hid (G0 = goQ ⟨true, ub, uc, ui, us⟩ 1 { f with a := regP X.data.toList } r.tail) := Lib.hid (by rw [HG.out, ← hXd]; rfl)
            have hZ2 := hZ.alloc (.cells #[.bool true, .pointer (some ⟨I, 1, none⟩)] 94)
            have hI2 := hI.alloc (.cells #[.bool true, .pointer (some ⟨I, 1, none⟩)] 94)
            have hU2 := hU.alloc (.cells #[.bool true, .pointer (some ⟨I, 1, none⟩)] 94)
            have hR2 := hR.alloc (.cells #[.bool true, .pointer (some ⟨I, 1, none⟩)] 94)
            have hA2 := hA.alloc (.cells #[.bool true, .pointer (some ⟨I, 1, none⟩)] 94)
            have hV2 := hV.keep (Keeps.of_below ((Below.refl wr.heap.size wr).alloc (Nat.le_refl _) (.cells #[.bool true, .pointer (some ⟨I, 1, none⟩)] 94)))
            have hb2 := hb.alloc hb.size (.cells #[.bool true, .pointer (some ⟨I, 1, none⟩)] 94)
            have hL2 := Blk.new wr 94 #[.bool true, .pointer (some ⟨I, 1, none⟩)]
            clear HG hV hZ hI hU hR hA hb
            go_wp2_with fail
            generalize wr.alloc (.cells #[.bool true, .pointer (some ⟨I, 1, none⟩)] 94) = wx at hZ2 hI2 hU2 hR2 hA2 hV2 hb2 hL2 ⊢
            have HNx := Lib.hid (next_any R r v wx.drew hR2 hV2 (by omega))
            have hlL := hL2.lt
            have l0 : wx.cell? ⟨wr.heap.size, 1, none⟩ = some (.pointer (some ⟨I, 1, none⟩)) := hL2.cell 1
            have HX := Lib.hid (fun (w6 : World) (h : ∀ g, g ≠ R → w6.heap[g]? = wx.heap[g]?) (hb : Below R wx.drew w6) => (⟨hZ2.same (h _ (by omega)), hI2.same (h _ (by omega)), hU2.same (h _ (by omega)), hA2.same (h _ (by omega)), hL2.same (h _ (by omega)), (below_drewN hb2 1).trans (hb.mono (by omega))⟩ : Blk w6 w.heap.size 27 _ ∧ Blk w6 I 27 _ ∧ Blk w6 U 83 _ ∧ Blk w6 AA 94 _ ∧ Blk w6 wr.heap.size 94 _ ∧ Below w.heap.size w w6))
            have hXs := head_small r Hr.out
            have hNx := HNx.out
            rw [hX] at hXs hNx
            have HNy := Lib.hid hNx
            have HRg := Lib.hid (fun W (h : Env er W) => register_any X hXs er W h)
            clear hX hXd hNx HNx
            go_region_law ((first | (go_simp; go_at_call 50; refine HNy.out.mono ?_; rintro e w6 ⟨rfl, v6, hR6, hV6, hbR, hs6, hz6⟩; obtain ⟨hZ6, hI6, hU6, hA6, hL6, hb6⟩ := HX.out w6 hs6 hbR; have E6 := HE.out.below hb6; have l1 : w6.cell? ⟨wr.heap.size, 1, none⟩ = some (.pointer (some ⟨I, 1, none⟩)) := hL6.cell 1) | (go_simp; go_at_call 51; refine (HRg.out w6 E6).mono ?_; rintro e w7 ⟨rfl, hb7⟩; have hI7 := hI6.below hb7 hI6.lt; have l2 : w7.cell? ⟨wr.heap.size, 1, none⟩ = some (.pointer (some ⟨I, 1, none⟩)) := cell_below l1 hb7; have y7 : w7.frozen? ⟨I, 1, none⟩ = false := hI7.frozen 1; have q7 : w7.cell? ⟨I, 1, none⟩ = some (.int .i64 f.a) := hI7.cell 1)))
            all_goals
              have hZ7 := (hZ6.below hb7 hZ6.lt).far (p := ⟨I, 1, none⟩) (by simp; omega) (.int .i64 (regP X.data.toList))
              have hU7 := (hU6.below hb7 hU6.lt).far (p := ⟨I, 1, none⟩) (by simp; omega) (.int .i64 (regP X.data.toList))
              have hA7 := (hA6.below hb7 hA6.lt).far (p := ⟨I, 1, none⟩) (by simp; omega) (.int .i64 (regP X.data.toList))
              have hR7 := (hR6.below hb7 hR6.lt).far (p := ⟨I, 1, none⟩) (by simp; omega) (.int .i64 (regP X.data.toList))
              have hV7 := (hV6.keep (Keeps.of_below hb7)).stored hI7 (by decide) 1 (.int .i64 (regP X.data.toList))
              have hI8 := hI7.store 1 (.int .i64 (regP X.data.toList))
              have hb8 : Below w.heap.size w (w7.setCell ⟨I, 1, none⟩ (.int .i64 (regP X.data.toList))) := (hb6.trans (hb7.mono hb6.size)).setCell (by simp; omega) _
              go_wp2_with fail
              go_roundw
              case rel => exact ⟨1, { f with a := regP X.data.toList }, r.tail, v6, by omega, by rfl, hZ7, hI8, hU7, hR7, hV7, hA7, hb8, by rw [List.length_tail]; omega, Lib.hid (fun y hy => Hr.out y (List.mem_of_mem_tail hy)), HG2⟩
              case measure => simp [intOf]
        · have a0 : wr.cell? ⟨AA, 2, none⟩ = some (.bool ub) := hA.cell 2
          have a1 : wr.cell? ⟨AA, 3, none⟩ = some (.pointer (some ⟨I, 2, none⟩)) := hA.cell 3
          cases ub with
          | false =>
            have HG2 : Hid (G0 = goQ ⟨ua, false, uc, ui, us⟩ 2 f r) := Lib.hid (by rw [HG.out]; rfl)
            have hV2 := hV.keep (Keeps.of_below ((Below.refl wr.heap.size wr).alloc (Nat.le_refl _) (.cells #[.bool false, .pointer (some ⟨I, 2, none⟩)] 94)))
            have hZ2 := hZ.alloc (.cells #[.bool false, .pointer (some ⟨I, 2, none⟩)] 94)
            have hI2 := hI.alloc (.cells #[.bool false, .pointer (some ⟨I, 2, none⟩)] 94)
            have hU2 := hU.alloc (.cells #[.bool false, .pointer (some ⟨I, 2, none⟩)] 94)
            have hR2 := hR.alloc (.cells #[.bool false, .pointer (some ⟨I, 2, none⟩)] 94)
            have hA2 := hA.alloc (.cells #[.bool false, .pointer (some ⟨I, 2, none⟩)] 94)
            have hb2 := hb.alloc hb.size (.cells #[.bool false, .pointer (some ⟨I, 2, none⟩)] 94)
            clear HG hV hZ hI hU hR hA hb
            go_wp2_with fail
            go_roundw
            case rel => exact ⟨2, f, r, v, by omega, by rfl, hZ2, hI2, hU2, hR2, hV2, hA2, hb2, hn, Hr, HG2⟩
            case measure => simp [intOf]
          | true =>
            obtain ⟨X, hX⟩ : ∃ X, r.headD (⟨#[]⟩ : ByteArray) = X := ⟨_, rfl⟩
            have hXd : hd r = X.data.toList := by unfold hd; rw [hX]
            have HG2 : Hid (G0 = goQ ⟨ua, true, uc, ui, us⟩ 2 { f with b := regP X.data.toList } r.tail) := Lib.hid (by rw [HG.out, ← hXd]; rfl)
            have hZ2 := hZ.alloc (.cells #[.bool true, .pointer (some ⟨I, 2, none⟩)] 94)
            have hI2 := hI.alloc (.cells #[.bool true, .pointer (some ⟨I, 2, none⟩)] 94)
            have hU2 := hU.alloc (.cells #[.bool true, .pointer (some ⟨I, 2, none⟩)] 94)
            have hR2 := hR.alloc (.cells #[.bool true, .pointer (some ⟨I, 2, none⟩)] 94)
            have hA2 := hA.alloc (.cells #[.bool true, .pointer (some ⟨I, 2, none⟩)] 94)
            have hV2 := hV.keep (Keeps.of_below ((Below.refl wr.heap.size wr).alloc (Nat.le_refl _) (.cells #[.bool true, .pointer (some ⟨I, 2, none⟩)] 94)))
            have hb2 := hb.alloc hb.size (.cells #[.bool true, .pointer (some ⟨I, 2, none⟩)] 94)
            have hL2 := Blk.new wr 94 #[.bool true, .pointer (some ⟨I, 2, none⟩)]
            clear HG hV hZ hI hU hR hA hb
            go_wp2_with fail
            generalize wr.alloc (.cells #[.bool true, .pointer (some ⟨I, 2, none⟩)] 94) = wx at hZ2 hI2 hU2 hR2 hA2 hV2 hb2 hL2 ⊢
            have HNx := Lib.hid (next_any R r v wx.drew hR2 hV2 (by omega))
            have hlL := hL2.lt
            have l0 : wx.cell? ⟨wr.heap.size, 1, none⟩ = some (.pointer (some ⟨I, 2, none⟩)) := hL2.cell 1
            have HX := Lib.hid (fun (w6 : World) (h : ∀ g, g ≠ R → w6.heap[g]? = wx.heap[g]?) (hb : Below R wx.drew w6) => (⟨hZ2.same (h _ (by omega)), hI2.same (h _ (by omega)), hU2.same (h _ (by omega)), hA2.same (h _ (by omega)), hL2.same (h _ (by omega)), (below_drewN hb2 1).trans (hb.mono (by omega))⟩ : Blk w6 w.heap.size 27 _ ∧ Blk w6 I 27 _ ∧ Blk w6 U 83 _ ∧ Blk w6 AA 94 _ ∧ Blk w6 wr.heap.size 94 _ ∧ Below w.heap.size w w6))
            have hXs := head_small r Hr.out
            have hNx := HNx.out
            rw [hX] at hXs hNx
            have HNy := Lib.hid hNx
            have HRg := Lib.hid (fun W (h : Env er W) => register_any X hXs er W h)
            clear hX hXd hNx HNx
            go_region_law ((first | (go_simp; go_at_call 50; refine HNy.out.mono ?_; rintro e w6 ⟨rfl, v6, hR6, hV6, hbR, hs6, hz6⟩; obtain ⟨hZ6, hI6, hU6, hA6, hL6, hb6⟩ := HX.out w6 hs6 hbR; have E6 := HE.out.below hb6; have l1 : w6.cell? ⟨wr.heap.size, 1, none⟩ = some (.pointer (some ⟨I, 2, none⟩)) := hL6.cell 1) | (go_simp; go_at_call 51; refine (HRg.out w6 E6).mono ?_; rintro e w7 ⟨rfl, hb7⟩; have hI7 := hI6.below hb7 hI6.lt; have l2 : w7.cell? ⟨wr.heap.size, 1, none⟩ = some (.pointer (some ⟨I, 2, none⟩)) := cell_below l1 hb7; have y7 : w7.frozen? ⟨I, 2, none⟩ = false := hI7.frozen 2; have q7 : w7.cell? ⟨I, 2, none⟩ = some (.int .i64 f.b) := hI7.cell 2)))
            all_goals
              have hZ7 := (hZ6.below hb7 hZ6.lt).far (p := ⟨I, 2, none⟩) (by simp; omega) (.int .i64 (regP X.data.toList))
              have hU7 := (hU6.below hb7 hU6.lt).far (p := ⟨I, 2, none⟩) (by simp; omega) (.int .i64 (regP X.data.toList))
              have hA7 := (hA6.below hb7 hA6.lt).far (p := ⟨I, 2, none⟩) (by simp; omega) (.int .i64 (regP X.data.toList))
              have hR7 := (hR6.below hb7 hR6.lt).far (p := ⟨I, 2, none⟩) (by simp; omega) (.int .i64 (regP X.data.toList))
              have hV7 := (hV6.keep (Keeps.of_below hb7)).stored hI7 (by decide) 2 (.int .i64 (regP X.data.toList))
              have hI8 := hI7.store 2 (.int .i64 (regP X.data.toList))
              have hb8 : Below w.heap.size w (w7.setCell ⟨I, 2, none⟩ (.int .i64 (regP X.data.toList))) := (hb6.trans (hb7.mono hb6.size)).setCell (by simp; omega) _
              go_wp2_with fail
              go_roundw
              case rel => exact ⟨2, { f with b := regP X.data.toList }, r.tail, v6, by omega, by rfl, hZ7, hI8, hU7, hR7, hV7, hA7, hb8, by rw [List.length_tail]; omega, Lib.hid (fun y hy => Hr.out y (List.mem_of_mem_tail hy)), HG2⟩
              case measure => simp [intOf]
        · have a0 : wr.cell? ⟨AA, 4, none⟩ = some (.bool uc) := hA.cell 4
          have a1 : wr.cell? ⟨AA, 5, none⟩ = some (.pointer (some ⟨I, 3, none⟩)) := hA.cell 5
          cases uc with
          | false =>
            have HG2 : Hid (G0 = goQ ⟨ua, ub, false, ui, us⟩ 3 f r) := Lib.hid (by rw [HG.out]; rfl)
            have hV2 := hV.keep (Keeps.of_below ((Below.refl wr.heap.size wr).alloc (Nat.le_refl _) (.cells #[.bool false, .pointer (some ⟨I, 3, none⟩)] 94)))
            have hZ2 := hZ.alloc (.cells #[.bool false, .pointer (some ⟨I, 3, none⟩)] 94)
            have hI2 := hI.alloc (.cells #[.bool false, .pointer (some ⟨I, 3, none⟩)] 94)
            have hU2 := hU.alloc (.cells #[.bool false, .pointer (some ⟨I, 3, none⟩)] 94)
            have hR2 := hR.alloc (.cells #[.bool false, .pointer (some ⟨I, 3, none⟩)] 94)
            have hA2 := hA.alloc (.cells #[.bool false, .pointer (some ⟨I, 3, none⟩)] 94)
            have hb2 := hb.alloc hb.size (.cells #[.bool false, .pointer (some ⟨I, 3, none⟩)] 94)
            clear HG hV hZ hI hU hR hA hb
            go_wp2_with fail
            go_roundw
            case rel => exact ⟨3, f, r, v, by omega, by rfl, hZ2, hI2, hU2, hR2, hV2, hA2, hb2, hn, Hr, HG2⟩
            case measure => simp [intOf]
          | true =>
            obtain ⟨X, hX⟩ : ∃ X, r.headD (⟨#[]⟩ : ByteArray) = X := ⟨_, rfl⟩
            have hXd : hd r = X.data.toList := by unfold hd; rw [hX]
            have HG2 : Hid (G0 = goQ ⟨ua, ub, true, ui, us⟩ 3 { f with c := regP X.data.toList } r.tail) := Lib.hid (by rw [HG.out, ← hXd]; rfl)
            have hZ2 := hZ.alloc (.cells #[.bool true, .pointer (some ⟨I, 3, none⟩)] 94)
            have hI2 := hI.alloc (.cells #[.bool true, .pointer (some ⟨I, 3, none⟩)] 94)
            have hU2 := hU.alloc (.cells #[.bool true, .pointer (some ⟨I, 3, none⟩)] 94)
            have hR2 := hR.alloc (.cells #[.bool true, .pointer (some ⟨I, 3, none⟩)] 94)
            have hA2 := hA.alloc (.cells #[.bool true, .pointer (some ⟨I, 3, none⟩)] 94)
            have hV2 := hV.keep (Keeps.of_below ((Below.refl wr.heap.size wr).alloc (Nat.le_refl _) (.cells #[.bool true, .pointer (some ⟨I, 3, none⟩)] 94)))
            have hb2 := hb.alloc hb.size (.cells #[.bool true, .pointer (some ⟨I, 3, none⟩)] 94)
            have hL2 := Blk.new wr 94 #[.bool true, .pointer (some ⟨I, 3, none⟩)]
            clear HG hV hZ hI hU hR hA hb
            go_wp2_with fail
            generalize wr.alloc (.cells #[.bool true, .pointer (some ⟨I, 3, none⟩)] 94) = wx at hZ2 hI2 hU2 hR2 hA2 hV2 hb2 hL2 ⊢
            have HNx := Lib.hid (next_any R r v wx.drew hR2 hV2 (by omega))
            have hlL := hL2.lt
            have l0 : wx.cell? ⟨wr.heap.size, 1, none⟩ = some (.pointer (some ⟨I, 3, none⟩)) := hL2.cell 1
            have HX := Lib.hid (fun (w6 : World) (h : ∀ g, g ≠ R → w6.heap[g]? = wx.heap[g]?) (hb : Below R wx.drew w6) => (⟨hZ2.same (h _ (by omega)), hI2.same (h _ (by omega)), hU2.same (h _ (by omega)), hA2.same (h _ (by omega)), hL2.same (h _ (by omega)), (below_drewN hb2 1).trans (hb.mono (by omega))⟩ : Blk w6 w.heap.size 27 _ ∧ Blk w6 I 27 _ ∧ Blk w6 U 83 _ ∧ Blk w6 AA 94 _ ∧ Blk w6 wr.heap.size 94 _ ∧ Below w.heap.size w w6))
            have hXs := head_small r Hr.out
            have hNx := HNx.out
            rw [hX] at hXs hNx
            have HNy := Lib.hid hNx
            have HRg := Lib.hid (fun W (h : Env er W) => register_any X hXs er W h)
            clear hX hXd hNx HNx
            go_region_law ((first | (go_simp; go_at_call 50; refine HNy.out.mono ?_; rintro e w6 ⟨rfl, v6, hR6, hV6, hbR, hs6, hz6⟩; obtain ⟨hZ6, hI6, hU6, hA6, hL6, hb6⟩ := HX.out w6 hs6 hbR; have E6 := HE.out.below hb6; have l1 : w6.cell? ⟨wr.heap.size, 1, none⟩ = some (.pointer (some ⟨I, 3, none⟩)) := hL6.cell 1) | (go_simp; go_at_call 51; refine (HRg.out w6 E6).mono ?_; rintro e w7 ⟨rfl, hb7⟩; have hI7 := hI6.below hb7 hI6.lt; have l2 : w7.cell? ⟨wr.heap.size, 1, none⟩ = some (.pointer (some ⟨I, 3, none⟩)) := cell_below l1 hb7; have y7 : w7.frozen? ⟨I, 3, none⟩ = false := hI7.frozen 3; have q7 : w7.cell? ⟨I, 3, none⟩ = some (.int .i64 f.c) := hI7.cell 3)))
            all_goals
              have hZ7 := (hZ6.below hb7 hZ6.lt).far (p := ⟨I, 3, none⟩) (by simp; omega) (.int .i64 (regP X.data.toList))
              have hU7 := (hU6.below hb7 hU6.lt).far (p := ⟨I, 3, none⟩) (by simp; omega) (.int .i64 (regP X.data.toList))
              have hA7 := (hA6.below hb7 hA6.lt).far (p := ⟨I, 3, none⟩) (by simp; omega) (.int .i64 (regP X.data.toList))
              have hR7 := (hR6.below hb7 hR6.lt).far (p := ⟨I, 3, none⟩) (by simp; omega) (.int .i64 (regP X.data.toList))
              have hV7 := (hV6.keep (Keeps.of_below hb7)).stored hI7 (by decide) 3 (.int .i64 (regP X.data.toList))
              have hI8 := hI7.store 3 (.int .i64 (regP X.data.toList))
              have hb8 : Below w.heap.size w (w7.setCell ⟨I, 3, none⟩ (.int .i64 (regP X.data.toList))) := (hb6.trans (hb7.mono hb6.size)).setCell (by simp; omega) _
              go_wp2_with fail
              go_roundw
              case rel => exact ⟨3, { f with c := regP X.data.toList }, r.tail, v6, by omega, by rfl, hZ7, hI8, hU7, hR7, hV7, hA7, hb8, by rw [List.length_tail]; omega, Lib.hid (fun y hy => Hr.out y (List.mem_of_mem_tail hy)), HG2⟩
              case measure => simp [intOf]
        · have HG3 : Hid (G0 = (f, r)) := HG
          clear HG
          have t3 : wr.cell? ⟨U, 3, none⟩ = some (.bool ui) := hU.cell 3
          have HQ : Hid (parseP s = parseS s (immP ⟨ua, ub, uc, ui, us⟩ (f, r))) := Lib.hid (by rw [HP2.out, HG3.out])
          clear HG3 HP2 hU hA
          cases ui with
          | false =>
            have HQ2 : Hid (parseP s = parseS s (some f)) := Lib.hid (by rw [HQ.out]; rfl)
            clear HQ hR hV
            have i0 : wr.cell? ⟨I, 0, none⟩ = some (.int .i64 f.op) := hI.cell 0
            have i1 : wr.cell? ⟨I, 1, none⟩ = some (.int .i64 f.a) := hI.cell 1
            have i2 : wr.cell? ⟨I, 2, none⟩ = some (.int .i64 f.b) := hI.cell 2
            have i3 : wr.cell? ⟨I, 3, none⟩ = some (.int .i64 f.c) := hI.cell 3
            have i4 : wr.cell? ⟨I, 4, none⟩ = some (.int .i64 f.imm) := hI.cell 4
            have hPr := Print_any f er wr (HE.out.below hb)
            unfold Ins.val at hPr
            try simp only at hPr
            by_cases hok : parseOk s f
            · have HF : Hid (parseP s = (f, 0)) := Lib.hid (by rw [HQ2.out]; exact if_pos hok)
              rw [hok.1, if_pos rfl, errV_zero, hok.2] at hPr
              have hs1 : (⟨s.data.toList.toArray⟩ : ByteArray) = s := by cases s; simp
              rw [hs1] at hPr
              have HPr := Lib.hid hPr
              clear hPr hok hs1 HQ2
              go_wp2_with fail
              refine HPr.out.mono ?_
              rintro e w9 ⟨rfl, hb9⟩
              have hb09 : Below w.heap.size w w9 := hb.trans (hb9.mono hb.size)
              have hZ9 := hZ.below hb9 hZ.lt
              have hI9 := hI.below hb9 hI.lt
              have j0 : w9.cell? ⟨I, 0, none⟩ = some (.int .i64 f.op) := hI9.cell 0
              have j1 : w9.cell? ⟨I, 1, none⟩ = some (.int .i64 f.a) := hI9.cell 1
              have j2 : w9.cell? ⟨I, 2, none⟩ = some (.int .i64 f.b) := hI9.cell 2
              have j3 : w9.cell? ⟨I, 3, none⟩ = some (.int .i64 f.c) := hI9.cell 3
              have j4 : w9.cell? ⟨I, 4, none⟩ = some (.int .i64 f.imm) := hI9.cell 4
              have z0 : w9.cell? ⟨w.heap.size, 0, none⟩ = some (.int .i64 0) := hZ9.cell 0
              have z1 : w9.cell? ⟨w.heap.size, 1, none⟩ = some (.int .i64 0) := hZ9.cell 1
              have z2 : w9.cell? ⟨w.heap.size, 2, none⟩ = some (.int .i64 0) := hZ9.cell 2
              have z3 : w9.cell? ⟨w.heap.size, 3, none⟩ = some (.int .i64 0) := hZ9.cell 3
              have z4 : w9.cell? ⟨w.heap.size, 4, none⟩ = some (.int .i64 0) := hZ9.cell 4
              have y0 : w9.frozen? ⟨w.heap.size, 0, none⟩ = false := hZ9.frozen 0
              have y1 : w9.frozen? ⟨w.heap.size, 1, none⟩ = false := hZ9.frozen 1
              have y2 : w9.frozen? ⟨w.heap.size, 2, none⟩ = false := hZ9.frozen 2
              have y3 : w9.frozen? ⟨w.heap.size, 3, none⟩ = false := hZ9.frozen 3
              have y4 : w9.frozen? ⟨w.heap.size, 4, none⟩ = false := hZ9.frozen 4
              have hlZ := hZ9.lt
              clear HPr hb9 i0 i1 i2 i3 i4
              go_wp2
              refine bodyPost_ret (v := .tuple #[.agg #[.int .i64 f.op, .int .i64 f.a, .int .i64 f.b, .int .i64 f.c, .int .i64 f.imm], .nilIface]) (by simp [results, Tryz.results21, go_sem, z0, z1, z2, z3, z4]) rfl ⟨?_, ?_⟩
              · rw [HF.out, errV_zero]
              · exact ((((hb09.setCell (Nat.le_refl _) _).setCell (Nat.le_refl _) _).setCell (Nat.le_refl _) _).setCell (Nat.le_refl _) _).setCell (Nat.le_refl _) _
            · have HF : Hid (parseP s = (⟨0, 0, 0, 0, 0⟩, 18)) := Lib.hid (by rw [HQ2.out]; exact if_neg hok)
              by_cases hcc : checkC f = 0
              · have hne1 : (printT f) ≠ s.data.toList := fun h => hok ⟨hcc, h⟩
                rw [hcc, if_pos rfl, errV_zero] at hPr
                generalize printT f = T at hPr hne1
                obtain ⟨Y, hY⟩ : ∃ Y : ByteArray, (⟨T.toArray⟩ : ByteArray) = Y := ⟨_, rfl⟩
                have hne2 : (Y.toList == s.toList) = false := by
                  rw [ByteArray.toList_eq, ByteArray.toList_eq, ← hY]
                  rw [beq_eq_false_iff_ne]
                  exact hne1
                rw [hY] at hPr
                have HPr := Lib.hid hPr
                clear hPr hok hcc hne1 hY HQ2
                go_wp2_with fail
                refine HPr.out.mono ?_
                rintro e w9 ⟨rfl, hb9⟩
                have hb09 : Below w.heap.size w w9 := hb.trans (hb9.mono hb.size)
                have hZ9 := hZ.below hb9 hZ.lt
                clear HPr hb9 i0 i1 i2 i3 i4
                go_wp2_with fail
                have z0 : w9.cell? ⟨w.heap.size, 0, none⟩ = some (.int .i64 0) := hZ9.cell 0
                have z1 : w9.cell? ⟨w.heap.size, 1, none⟩ = some (.int .i64 0) := hZ9.cell 1
                have z2 : w9.cell? ⟨w.heap.size, 2, none⟩ = some (.int .i64 0) := hZ9.cell 2
                have z3 : w9.cell? ⟨w.heap.size, 3, none⟩ = some (.int .i64 0) := hZ9.cell 3
                have z4 : w9.cell? ⟨w.heap.size, 4, none⟩ = some (.int .i64 0) := hZ9.cell 4
                have y0 : w9.frozen? ⟨w.heap.size, 0, none⟩ = false := hZ9.frozen 0
                have y1 : w9.frozen? ⟨w.heap.size, 1, none⟩ = false := hZ9.frozen 1
                have y2 : w9.frozen? ⟨w.heap.size, 2, none⟩ = false := hZ9.frozen 2
                have y3 : w9.frozen? ⟨w.heap.size, 3, none⟩ = false := hZ9.frozen 3
                have y4 : w9.frozen? ⟨w.heap.size, 4, none⟩ = false := hZ9.frozen 4
                have hk := (HE.out.below hb09).eText
                have hne : ¬ w.heap.size = 2 := by omega
                go_region
                all_goals go_wp2
                all_goals refine bodyPost_ret (v := .tuple #[.agg #[.int .i64 0, .int .i64 0, .int .i64 0, .int .i64 0, .int .i64 0], ev (er 18)]) (by simp [results, Tryz.results21, go_sem, z0, z1, z2, z3, z4]) rfl ⟨?_, ?_⟩
                · rw [HF.out, errV_pos er 18 (by decide)]
                · exact (((((hb09.setCell (Nat.le_refl _) _).setCell (Nat.le_refl _) _).setCell (Nat.le_refl _) _).setCell (Nat.le_refl _) _).setCell (Nat.le_refl _) _).drew
              · rw [errV_pos er _ hcc, if_neg hcc] at hPr
                have HPr := Lib.hid hPr
                clear hPr hok HQ2
                generalize er (checkC f) = ea at HPr
                clear hcc
                go_wp2_with fail
                refine HPr.out.mono ?_
                rintro e w9 ⟨rfl, hb9⟩
                have hb09 : Below w.heap.size w w9 := hb.trans (hb9.mono hb.size)
                have hZ9 := hZ.below hb9 hZ.lt
                clear HPr hb9 i0 i1 i2 i3 i4
                go_wp2_with fail
                have z0 : w9.cell? ⟨w.heap.size, 0, none⟩ = some (.int .i64 0) := hZ9.cell 0
                have z1 : w9.cell? ⟨w.heap.size, 1, none⟩ = some (.int .i64 0) := hZ9.cell 1
                have z2 : w9.cell? ⟨w.heap.size, 2, none⟩ = some (.int .i64 0) := hZ9.cell 2
                have z3 : w9.cell? ⟨w.heap.size, 3, none⟩ = some (.int .i64 0) := hZ9.cell 3
                have z4 : w9.cell? ⟨w.heap.size, 4, none⟩ = some (.int .i64 0) := hZ9.cell 4
                have y0 : w9.frozen? ⟨w.heap.size, 0, none⟩ = false := hZ9.frozen 0
                have y1 : w9.frozen? ⟨w.heap.size, 1, none⟩ = false := hZ9.frozen 1
                have y2 : w9.frozen? ⟨w.heap.size, 2, none⟩ = false := hZ9.frozen 2
                have y3 : w9.frozen? ⟨w.heap.size, 3, none⟩ = false := hZ9.frozen 3
                have y4 : w9.frozen? ⟨w.heap.size, 4, none⟩ = false := hZ9.frozen 4
                have hk := (HE.out.below hb09).eText
                have hne : ¬ w.heap.size = 2 := by omega
                go_region
                all_goals go_wp2
                all_goals refine bodyPost_ret (v := .tuple #[.agg #[.int .i64 0, .int .i64 0, .int .i64 0, .int .i64 0, .int .i64 0], ev (er 18)]) (by simp [results, Tryz.results21, go_sem, z0, z1, z2, z3, z4]) rfl ⟨?_, ?_⟩
                · rw [HF.out, errV_pos er 18 (by decide)]
                · exact (((((hb09.setCell (Nat.le_refl _) _).setCell (Nat.le_refl _) _).setCell (Nat.le_refl _) _).setCell (Nat.le_refl _) _).setCell (Nat.le_refl _) _).drew
          | true =>
            obtain ⟨X, hX⟩ : ∃ X, r.headD (⟨#[]⟩ : ByteArray) = X := ⟨_, rfl⟩
            have hXd : hd r = X.data.toList := by unfold hd; rw [hX]
            have hNx := next_any R r v wr hR hV (by omega)
            have hXs := head_small r Hr.out
            rw [hX] at hXs hNx
            have HNy := Lib.hid hNx
            have HQ1 : Hid (parseP s = parseS s (match Lib.atoiAll X.data.toList with | .ok v => some { f with imm := v } | _ => none)) := Lib.hid (by rw [HQ.out, ← hXd]; rfl)
            clear HQ hX hXd hNx hR hV
            go_wp2_with fail
            refine HNy.out.mono ?_
            rintro e w6 ⟨rfl, v6, hR6, hV6, hbR, hs6, hz6⟩
            have hZ6 := hZ.same (hs6 _ (by omega))
            have hI6 := hI.same (hs6 _ (by omega))
            have hb6 : Below w.heap.size w w6 := hb.trans (hbR.mono (by omega))
            clear HNy hZ hI hb hR6 hV6 hbR hs6
            rcases neither_cases (Lib.atoiAll X.data.toList) with ⟨n, ha⟩ | ha | ha
            · have HQ2 : Hid (parseP s = parseS s (some { f with imm := n })) := Lib.hid (by rw [HQ1.out, ha])
              have HA := Lib.hid (Tryz.strconv_Atoi_ok X (by omega) n ha w6)
              clear HQ1 ha
              go_wp2_with fail
              refine HA.out.mono ?_
              rintro e w7 ⟨rfl, hbw⟩
              have hb67 : Below w6.heap.size w6 w7 := by
                rcases hbw with rfl | ⟨t, rfl⟩
                · exact Below.refl _ _
                · exact Lib.bytesWorld_below _ _ _
              have hZ7 := (hZ6.below hb67 hZ6.lt).far (p := ⟨I, 4, none⟩) (by simp; omega) (.int .i64 n)
              have hI7 := hI6.below hb67 hI6.lt
              have hI8 := hI7.store 4 (.int .i64 n)
              have hb7 : Below w.heap.size w (w7.setCell ⟨I, 4, none⟩ (.int .i64 n)) := (hb6.trans (hb67.mono hb6.size)).setCell (by simp; omega) _
              have q0 : w7.cell? ⟨I, 0, none⟩ = some (.int .i64 f.op) := hI7.cell 0
              have q1 : w7.cell? ⟨I, 1, none⟩ = some (.int .i64 f.a) := hI7.cell 1
              have q2 : w7.cell? ⟨I, 2, none⟩ = some (.int .i64 f.b) := hI7.cell 2
              have q3 : w7.cell? ⟨I, 3, none⟩ = some (.int .i64 f.c) := hI7.cell 3
              have q4 : w7.cell? ⟨I, 4, none⟩ = some (.int .i64 f.imm) := hI7.cell 4
              have y4 : w7.frozen? ⟨I, 4, none⟩ = false := hI7.frozen 4
              clear HA hbw hb67 hZ6 hI6 hI7 hb6
              go_wp2_with fail
              generalize w7.setCell ⟨I, 4, none⟩ (.int .i64 n) = w8 at hZ7 hI8 hb7 ⊢
              have i0 : w8.cell? ⟨I, 0, none⟩ = some (.int .i64 f.op) := hI8.cell 0
              have i1 : w8.cell? ⟨I, 1, none⟩ = some (.int .i64 f.a) := hI8.cell 1
              have i2 : w8.cell? ⟨I, 2, none⟩ = some (.int .i64 f.b) := hI8.cell 2
              have i3 : w8.cell? ⟨I, 3, none⟩ = some (.int .i64 f.c) := hI8.cell 3
              have i4 : w8.cell? ⟨I, 4, none⟩ = some (.int .i64 n) := hI8.cell 4
              have hPr := Print_any { f with imm := n } er w8 (HE.out.below hb7)
              unfold Ins.val at hPr
              try simp only at hPr
              by_cases hok : parseOk s { f with imm := n }
              · have HF : Hid (parseP s = ({ f with imm := n }, 0)) := Lib.hid (by rw [HQ2.out]; exact if_pos hok)
                rw [hok.1, if_pos rfl, errV_zero, hok.2] at hPr
                have hs1 : (⟨s.data.toList.toArray⟩ : ByteArray) = s := by cases s; simp
                rw [hs1] at hPr
                have HPr := Lib.hid hPr
                clear hPr hok hs1 HQ2
                refine HPr.out.mono ?_
                rintro e w9 ⟨rfl, hb9⟩
                have hb09 : Below w.heap.size w w9 := hb7.trans (hb9.mono hb7.size)
                have hZ9 := hZ7.below hb9 hZ7.lt
                have hI9 := hI8.below hb9 hI8.lt
                have j0 : w9.cell? ⟨I, 0, none⟩ = some (.int .i64 f.op) := hI9.cell 0
                have j1 : w9.cell? ⟨I, 1, none⟩ = some (.int .i64 f.a) := hI9.cell 1
                have j2 : w9.cell? ⟨I, 2, none⟩ = some (.int .i64 f.b) := hI9.cell 2
                have j3 : w9.cell? ⟨I, 3, none⟩ = some (.int .i64 f.c) := hI9.cell 3
                have j4 : w9.cell? ⟨I, 4, none⟩ = some (.int .i64 n) := hI9.cell 4
                have z0 : w9.cell? ⟨w.heap.size, 0, none⟩ = some (.int .i64 0) := hZ9.cell 0
                have z1 : w9.cell? ⟨w.heap.size, 1, none⟩ = some (.int .i64 0) := hZ9.cell 1
                have z2 : w9.cell? ⟨w.heap.size, 2, none⟩ = some (.int .i64 0) := hZ9.cell 2
                have z3 : w9.cell? ⟨w.heap.size, 3, none⟩ = some (.int .i64 0) := hZ9.cell 3
                have z4 : w9.cell? ⟨w.heap.size, 4, none⟩ = some (.int .i64 0) := hZ9.cell 4
                have y0 : w9.frozen? ⟨w.heap.size, 0, none⟩ = false := hZ9.frozen 0
                have y1 : w9.frozen? ⟨w.heap.size, 1, none⟩ = false := hZ9.frozen 1
                have y2 : w9.frozen? ⟨w.heap.size, 2, none⟩ = false := hZ9.frozen 2
                have y3 : w9.frozen? ⟨w.heap.size, 3, none⟩ = false := hZ9.frozen 3
                have y4 : w9.frozen? ⟨w.heap.size, 4, none⟩ = false := hZ9.frozen 4
                have hlZ := hZ9.lt
                clear HPr hb9 i0 i1 i2 i3 i4
                go_wp2
                refine bodyPost_ret (v := .tuple #[.agg #[.int .i64 f.op, .int .i64 f.a, .int .i64 f.b, .int .i64 f.c, .int .i64 n], .nilIface]) (by simp [results, Tryz.results21, go_sem, z0, z1, z2, z3, z4]) rfl ⟨?_, ?_⟩
                · rw [HF.out, errV_zero]
                · exact ((((hb09.setCell (Nat.le_refl _) _).setCell (Nat.le_refl _) _).setCell (Nat.le_refl _) _).setCell (Nat.le_refl _) _).setCell (Nat.le_refl _) _
              · have HF : Hid (parseP s = (⟨0, 0, 0, 0, 0⟩, 18)) := Lib.hid (by rw [HQ2.out]; exact if_neg hok)
                by_cases hcc : checkC { f with imm := n } = 0
                · have hne1 : (printT { f with imm := n }) ≠ s.data.toList := fun h => hok ⟨hcc, h⟩
                  rw [hcc, if_pos rfl, errV_zero] at hPr
                  generalize printT { f with imm := n } = T at hPr hne1
                  obtain ⟨Y, hY⟩ : ∃ Y : ByteArray, (⟨T.toArray⟩ : ByteArray) = Y := ⟨_, rfl⟩
                  have hne2 : (Y.toList == s.toList) = false := by
                    rw [ByteArray.toList_eq, ByteArray.toList_eq, ← hY]
                    rw [beq_eq_false_iff_ne]
                    exact hne1
                  rw [hY] at hPr
                  have HPr := Lib.hid hPr
                  clear hPr hok hcc hne1 hY HQ2
                  refine HPr.out.mono ?_
                  rintro e w9 ⟨rfl, hb9⟩
                  have hb09 : Below w.heap.size w w9 := hb7.trans (hb9.mono hb7.size)
                  have hZ9 := hZ7.below hb9 hZ7.lt
                  clear HPr hb9 i0 i1 i2 i3 i4
                  go_wp2_with fail
                  have z0 : w9.cell? ⟨w.heap.size, 0, none⟩ = some (.int .i64 0) := hZ9.cell 0
                  have z1 : w9.cell? ⟨w.heap.size, 1, none⟩ = some (.int .i64 0) := hZ9.cell 1
                  have z2 : w9.cell? ⟨w.heap.size, 2, none⟩ = some (.int .i64 0) := hZ9.cell 2
                  have z3 : w9.cell? ⟨w.heap.size, 3, none⟩ = some (.int .i64 0) := hZ9.cell 3
                  have z4 : w9.cell? ⟨w.heap.size, 4, none⟩ = some (.int .i64 0) := hZ9.cell 4
                  have y0 : w9.frozen? ⟨w.heap.size, 0, none⟩ = false := hZ9.frozen 0
                  have y1 : w9.frozen? ⟨w.heap.size, 1, none⟩ = false := hZ9.frozen 1
                  have y2 : w9.frozen? ⟨w.heap.size, 2, none⟩ = false := hZ9.frozen 2
                  have y3 : w9.frozen? ⟨w.heap.size, 3, none⟩ = false := hZ9.frozen 3
                  have y4 : w9.frozen? ⟨w.heap.size, 4, none⟩ = false := hZ9.frozen 4
                  have hk := (HE.out.below hb09).eText
                  have hne : ¬ w.heap.size = 2 := by omega
                  go_region
                  all_goals go_wp2
                  all_goals refine bodyPost_ret (v := .tuple #[.agg #[.int .i64 0, .int .i64 0, .int .i64 0, .int .i64 0, .int .i64 0], ev (er 18)]) (by simp [results, Tryz.results21, go_sem, z0, z1, z2, z3, z4]) rfl ⟨?_, ?_⟩
                  · rw [HF.out, errV_pos er 18 (by decide)]
                  · exact (((((hb09.setCell (Nat.le_refl _) _).setCell (Nat.le_refl _) _).setCell (Nat.le_refl _) _).setCell (Nat.le_refl _) _).setCell (Nat.le_refl _) _).drew
                · rw [errV_pos er _ hcc, if_neg hcc] at hPr
                  have HPr := Lib.hid hPr
                  clear hPr hok HQ2
                  generalize er (checkC { f with imm := n }) = ea at HPr
                  clear hcc
                  refine HPr.out.mono ?_
                  rintro e w9 ⟨rfl, hb9⟩
                  have hb09 : Below w.heap.size w w9 := hb7.trans (hb9.mono hb7.size)
                  have hZ9 := hZ7.below hb9 hZ7.lt
                  clear HPr hb9 i0 i1 i2 i3 i4
                  go_wp2_with fail
                  have z0 : w9.cell? ⟨w.heap.size, 0, none⟩ = some (.int .i64 0) := hZ9.cell 0
                  have z1 : w9.cell? ⟨w.heap.size, 1, none⟩ = some (.int .i64 0) := hZ9.cell 1
                  have z2 : w9.cell? ⟨w.heap.size, 2, none⟩ = some (.int .i64 0) := hZ9.cell 2
                  have z3 : w9.cell? ⟨w.heap.size, 3, none⟩ = some (.int .i64 0) := hZ9.cell 3
                  have z4 : w9.cell? ⟨w.heap.size, 4, none⟩ = some (.int .i64 0) := hZ9.cell 4
                  have y0 : w9.frozen? ⟨w.heap.size, 0, none⟩ = false := hZ9.frozen 0
                  have y1 : w9.frozen? ⟨w.heap.size, 1, none⟩ = false := hZ9.frozen 1
                  have y2 : w9.frozen? ⟨w.heap.size, 2, none⟩ = false := hZ9.frozen 2
                  have y3 : w9.frozen? ⟨w.heap.size, 3, none⟩ = false := hZ9.frozen 3
                  have y4 : w9.frozen? ⟨w.heap.size, 4, none⟩ = false := hZ9.frozen 4
                  have hk := (HE.out.below hb09).eText
                  have hne : ¬ w.heap.size = 2 := by omega
                  go_region
                  all_goals go_wp2
                  all_goals refine bodyPost_ret (v := .tuple #[.agg #[.int .i64 0, .int .i64 0, .int .i64 0, .int .i64 0, .int .i64 0], ev (er 18)]) (by simp [results, Tryz.results21, go_sem, z0, z1, z2, z3, z4]) rfl ⟨?_, ?_⟩
                  · rw [HF.out, errV_pos er 18 (by decide)]
                  · exact (((((hb09.setCell (Nat.le_refl _) _).setCell (Nat.le_refl _) _).setCell (Nat.le_refl _) _).setCell (Nat.le_refl _) _).setCell (Nat.le_refl _) _).drew
            · have HF : Hid (parseP s = (⟨0, 0, 0, 0, 0⟩, 18)) := Lib.hid (by
                rw [HQ1.out, ha]
                rfl)
              obtain ⟨tp, p, hv⟩ := (HE.out.below hb6).rng
              have HA := Lib.hid (Tryz.strconv_Atoi_range_var X (by omega) ha tp p w6 hv)
              clear HQ1 ha hv
              go_wp2_with fail
              refine HA.out.mono ?_
              rintro e w9 ⟨N, rfl, _, _, hb9⟩
              have hb09 : Below w.heap.size w w9 := hb6.trans (hb9.mono hb6.size)
              have hZ9 := hZ6.below hb9 hZ6.lt
              clear HA hb9
              go_wp2_with fail
              have z0 : w9.cell? ⟨w.heap.size, 0, none⟩ = some (.int .i64 0) := hZ9.cell 0
              have z1 : w9.cell? ⟨w.heap.size, 1, none⟩ = some (.int .i64 0) := hZ9.cell 1
              have z2 : w9.cell? ⟨w.heap.size, 2, none⟩ = some (.int .i64 0) := hZ9.cell 2
              have z3 : w9.cell? ⟨w.heap.size, 3, none⟩ = some (.int .i64 0) := hZ9.cell 3
              have z4 : w9.cell? ⟨w.heap.size, 4, none⟩ = some (.int .i64 0) := hZ9.cell 4
              have y0 : w9.frozen? ⟨w.heap.size, 0, none⟩ = false := hZ9.frozen 0
              have y1 : w9.frozen? ⟨w.heap.size, 1, none⟩ = false := hZ9.frozen 1
              have y2 : w9.frozen? ⟨w.heap.size, 2, none⟩ = false := hZ9.frozen 2
              have y3 : w9.frozen? ⟨w.heap.size, 3, none⟩ = false := hZ9.frozen 3
              have y4 : w9.frozen? ⟨w.heap.size, 4, none⟩ = false := hZ9.frozen 4
              have hk := (HE.out.below hb09).eText
              have hne : ¬ w.heap.size = 2 := by omega
              go_region
              all_goals go_wp2
              all_goals refine bodyPost_ret (v := .tuple #[.agg #[.int .i64 0, .int .i64 0, .int .i64 0, .int .i64 0, .int .i64 0], ev (er 18)]) (by simp [results, Tryz.results21, go_sem, z0, z1, z2, z3, z4]) rfl ⟨?_, ?_⟩
              · rw [HF.out, errV_pos er 18 (by decide)]
              · exact (((((hb09.setCell (Nat.le_refl _) _).setCell (Nat.le_refl _) _).setCell (Nat.le_refl _) _).setCell (Nat.le_refl _) _).setCell (Nat.le_refl _) _).drew
            · have HF : Hid (parseP s = (⟨0, 0, 0, 0, 0⟩, 18)) := Lib.hid (by
                have h1 := HQ1.out
                revert h1 ha
                cases Lib.atoiAll X.data.toList <;> intro ha h1
                all_goals first | exact absurd rfl (ha.1 _) | exact absurd rfl ha.2 | exact h1)
              obtain ⟨tp, p, hv⟩ := (HE.out.below hb6).syn
              have HA := Lib.hid (atoi_bad X (by omega) ha tp p w6 hv)
              clear HQ1 ha hv
              go_wp2_with fail
              refine HA.out.mono ?_
              rintro e w9 ⟨N, rfl, hb9⟩
              have hb09 : Below w.heap.size w w9 := hb6.trans (hb9.mono hb6.size)
              have hZ9 := hZ6.below hb9 hZ6.lt
              clear HA hb9
              go_wp2_with fail
              have z0 : w9.cell? ⟨w.heap.size, 0, none⟩ = some (.int .i64 0) := hZ9.cell 0
              have z1 : w9.cell? ⟨w.heap.size, 1, none⟩ = some (.int .i64 0) := hZ9.cell 1
              have z2 : w9.cell? ⟨w.heap.size, 2, none⟩ = some (.int .i64 0) := hZ9.cell 2
              have z3 : w9.cell? ⟨w.heap.size, 3, none⟩ = some (.int .i64 0) := hZ9.cell 3
              have z4 : w9.cell? ⟨w.heap.size, 4, none⟩ = some (.int .i64 0) := hZ9.cell 4
              have y0 : w9.frozen? ⟨w.heap.size, 0, none⟩ = false := hZ9.frozen 0
              have y1 : w9.frozen? ⟨w.heap.size, 1, none⟩ = false := hZ9.frozen 1
              have y2 : w9.frozen? ⟨w.heap.size, 2, none⟩ = false := hZ9.frozen 2
              have y3 : w9.frozen? ⟨w.heap.size, 3, none⟩ = false := hZ9.frozen 3
              have y4 : w9.frozen? ⟨w.heap.size, 4, none⟩ = false := hZ9.frozen 4
              have hk := (HE.out.below hb09).eText
              have hne : ¬ w.heap.size = 2 := by omega
              go_region
              all_goals go_wp2
              all_goals refine bodyPost_ret (v := .tuple #[.agg #[.int .i64 0, .int .i64 0, .int .i64 0, .int .i64 0, .int .i64 0], ev (er 18)]) (by simp [results, Tryz.results21, go_sem, z0, z1, z2, z3, z4]) rfl ⟨?_, ?_⟩
              · rw [HF.out, errV_pos er 18 (by decide)]
              · exact (((((hb09.setCell (Nat.le_refl _) _).setCell (Nat.le_refl _) _).setCell (Nat.le_refl _) _).setCell (Nat.le_refl _) _).setCell (Nat.le_refl _) _).drew
    · rw [if_neg hr0] at hcut
      go_wp2_with fail
      have hZ6 := ((hZ5.alloc (.cells #[.bool ua, .bool ub, .bool uc, .bool ui, .bool us] 83)).alloc (.cells #[(.slice (some ⟨w.heap.size + 1, 1, none⟩) r0.length r0.length)] 54)).alloc (.cells #[.bool ua, .pointer (some ⟨I, 1, none⟩), .bool ub, .pointer (some ⟨I, 2, none⟩), .bool uc, .pointer (some ⟨I, 3, none⟩)] 94)
      have hI6 := ((hI5.alloc (.cells #[.bool ua, .bool ub, .bool uc, .bool ui, .bool us] 83)).alloc (.cells #[(.slice (some ⟨w.heap.size + 1, 1, none⟩) r0.length r0.length)] 54)).alloc (.cells #[.bool ua, .pointer (some ⟨I, 1, none⟩), .bool ub, .pointer (some ⟨I, 2, none⟩), .bool uc, .pointer (some ⟨I, 3, none⟩)] 94)
      have hU6 := ((Blk.new w5 83 #[.bool ua, .bool ub, .bool uc, .bool ui, .bool us]).alloc (.cells #[(.slice (some ⟨w.heap.size + 1, 1, none⟩) r0.length r0.length)] 54)).alloc (.cells #[.bool ua, .pointer (some ⟨I, 1, none⟩), .bool ub, .pointer (some ⟨I, 2, none⟩), .bool uc, .pointer (some ⟨I, 3, none⟩)] 94)
      have hR6 := (Blk.new (w5.alloc (.cells #[.bool ua, .bool ub, .bool uc, .bool ui, .bool us] 83)) 54 #[(.slice (some ⟨w.heap.size + 1, 1, none⟩) r0.length r0.length)]).alloc (.cells #[.bool ua, .pointer (some ⟨I, 1, none⟩), .bool ub, .pointer (some ⟨I, 2, none⟩), .bool uc, .pointer (some ⟨I, 3, none⟩)] 94)
      have hA6 := Blk.new ((w5.alloc (.cells #[.bool ua, .bool ub, .bool uc, .bool ui, .bool us] 83)).alloc (.cells #[(.slice (some ⟨w.heap.size + 1, 1, none⟩) r0.length r0.length)] 54)) 94 #[.bool ua, .pointer (some ⟨I, 1, none⟩), .bool ub, .pointer (some ⟨I, 2, none⟩), .bool uc, .pointer (some ⟨I, 3, none⟩)]
      have hV6 := hcut.keep (((((Keeps.refl w5).alloc (.cells #[.bool ua, .bool ub, .bool uc, .bool ui, .bool us] 83)).alloc (.cells #[(.slice (some ⟨w.heap.size + 1, 1, none⟩) r0.length r0.length)] 54))).alloc (.cells #[.bool ua, .pointer (some ⟨I, 1, none⟩), .bool ub, .pointer (some ⟨I, 2, none⟩), .bool uc, .pointer (some ⟨I, 3, none⟩)] 94))
      have hb06 : Below w.heap.size w (((w5.alloc (.cells #[.bool ua, .bool ub, .bool uc, .bool ui, .bool us] 83)).alloc (.cells #[(.slice (some ⟨w.heap.size + 1, 1, none⟩) r0.length r0.length)] 54)).alloc (.cells #[.bool ua, .pointer (some ⟨I, 1, none⟩), .bool ub, .pointer (some ⟨I, 2, none⟩), .bool uc, .pointer (some ⟨I, 3, none⟩)] 94)) := ((hb05.alloc hb05.size (.cells #[.bool ua, .bool ub, .bool uc, .bool ui, .bool us] 83)).alloc (by have := hb05.size; simp; omega) (.cells #[(.slice (some ⟨w.heap.size + 1, 1, none⟩) r0.length r0.length)] 54)).alloc (by have := hb05.size; simp; omega) (.cells #[.bool ua, .pointer (some ⟨I, 1, none⟩), .bool ub, .pointer (some ⟨I, 2, none⟩), .bool uc, .pointer (some ⟨I, 3, none⟩)] 94)
      simp only [World.size_alloc] at hR6 hA6
      generalize ((w5.alloc (.cells #[.bool ua, .bool ub, .bool uc, .bool ui, .bool us] 83)).alloc (.cells #[(.slice (some ⟨w.heap.size + 1, 1, none⟩) r0.length r0.length)] 54)).alloc (.cells #[.bool ua, .pointer (some ⟨I, 1, none⟩), .bool ub, .pointer (some ⟨I, 2, none⟩), .bool uc, .pointer (some ⟨I, 3, none⟩)] 94) = w6 at hZ6 hI6 hU6 hR6 hA6 hV6 hb06 ⊢
      obtain ⟨U, hU⟩ : ∃ U, w5.heap.size = U := ⟨_, rfl⟩
      rw [hU] at hU6 hR6 hA6 hI5l ⊢
      have hUR : U < U + 1 ∧ U + 1 < U + 1 + 1 := ⟨Nat.lt_succ_self _, Nat.lt_succ_self _⟩
      obtain ⟨AA, hAA⟩ : ∃ AA, U + 1 + 1 = AA := ⟨_, rfl⟩
      rw [hAA] at hA6 hUR ⊢
      obtain ⟨R, hRR⟩ : ∃ R, U + 1 = R := ⟨_, rfl⟩
      rw [hRR] at hR6 hUR ⊢
      clear hU hAA hRR hZ5 hI5 hW5 hcut hb05
      go_loopw [48] (fun s48 wr => ∃ (k : Nat) (f : Ins) (r : List ByteArray) (v : Value), k ≤ 3 ∧ s48 = .int .i64 k ∧ Blk wr w.heap.size 27 #[.int .i64 0, .int .i64 0, .int .i64 0, .int .i64 0, .int .i64 0] ∧ Blk wr I 27 #[.int .i64 f.op, .int .i64 f.a, .int .i64 f.b, .int .i64 f.c, .int .i64 f.imm] ∧ Blk wr U 83 #[.bool ua, .bool ub, .bool uc, .bool ui, .bool us] ∧ Blk wr R 54 #[v] ∧ StrsV wr v r ∧ Blk wr AA 94 #[.bool ua, .pointer (some ⟨I, 1, none⟩), .bool ub, .pointer (some ⟨I, 2, none⟩), .bool uc, .pointer (some ⟨I, 3, none⟩)] ∧ Below w.heap.size w wr ∧ r.length ≤ 100000000 ∧ Hid (∀ x ∈ r, x.size ≤ 100000000) ∧ Hid (G0 = goQ ⟨ua, ub, uc, ui, us⟩ k f r)) (fun s48 _ => 3 - (intOf s48).toNat)
      case atStart => exact ⟨0, ⟨o, 0, 0, 0, 0⟩, _, _, by omega, rfl, hZ6, hI6, hU6, hR6, hV6, hA6, hb06, hn9, Hsz, HG0⟩
      case round =>
        obtain ⟨k, f, r, v, hk, rfl, hZ, hI, hU, hR, hV, hA, hb, hn, Hr, HG⟩ := hrel
        clear hZ6 hI6 hU6 hR6 hV6 hA6 hb06
        have hk2 : k = 0 ∨ k = 1 ∨ k = 2 ∨ k = 3 := by omega
        have hIl := hI.lt
        have hAl := hA.lt
        have hRl := hR.lt
        clear hk
        rcases hk2 with rfl | rfl | rfl | rfl
        · have a0 : wr.cell? ⟨AA, 0, none⟩ = some (.bool ua) := hA.cell 0
          have a1 : wr.cell? ⟨AA, 1, none⟩ = some (.pointer (some ⟨I, 1, none⟩)) := hA.cell 1
          cases ua with
          | false =>
            have HG2 : Hid (G0 = goQ ⟨false, ub, uc, ui, us⟩ 1 f r) := Lib.hid (by rw [HG.out]; rfl)
            have hV2 := hV.keep (Keeps.of_below ((Below.refl wr.heap.size wr).alloc (Nat.le_refl _) (.cells #[.bool false, .pointer (some ⟨I, 1, none⟩)] 94)))
            have hZ2 := hZ.alloc (.cells #[.bool false, .pointer (some ⟨I, 1, none⟩)] 94)
            have hI2 := hI.alloc (.cells #[.bool false, .pointer (some ⟨I, 1, none⟩)] 94)
            have hU2 := hU.alloc (.cells #[.bool false, .pointer (some ⟨I, 1, none⟩)] 94)
            have hR2 := hR.alloc (.cells #[.bool false, .pointer (some ⟨I, 1, none⟩)] 94)
            have hA2 := hA.alloc (.cells #[.bool false, .pointer (some ⟨I, 1, none⟩)] 94)
            have hb2 := hb.alloc hb.size (.cells #[.bool false, .pointer (some ⟨I, 1, none⟩)] 94)
            clear HG hV hZ hI hU hR hA hb
            go_wp2_with fail
            go_roundw
            case rel => exact ⟨1, f, r, v, by omega, by rfl, hZ2, hI2, hU2, hR2, hV2, hA2, hb2, hn, Hr, HG2⟩
            case measure => simp [intOf]
          | true =>
            obtain ⟨X, hX⟩ : ∃ X, r.headD (⟨#[]⟩ : ByteArray) = X := ⟨_, rfl⟩
            have hXd : hd r = X.data.toList := by unfold hd; rw [hX]
            have HG2 : Hid (G0 = goQ ⟨true, ub, uc, ui, us⟩ 1 { f with a := regP X.data.toList } r.tail) := Lib.hid (by rw [HG.out, ← hXd]; rfl)
            have hZ2 := hZ.alloc (.cells #[.bool true, .pointer (some ⟨I, 1, none⟩)] 94)
            have hI2 := hI.alloc (.cells #[.bool true, .pointer (some ⟨I, 1, none⟩)] 94)
            have hU2 := hU.alloc (.cells #[.bool true, .pointer (some ⟨I, 1, none⟩)] 94)
            have hR2 := hR.alloc (.cells #[.bool true, .pointer (some ⟨I, 1, none⟩)] 94)
            have hA2 := hA.alloc (.cells #[.bool true, .pointer (some ⟨I, 1, none⟩)] 94)
            have hV2 := hV.keep (Keeps.of_below ((Below.refl wr.heap.size wr).alloc (Nat.le_refl _) (.cells #[.bool true, .pointer (some ⟨I, 1, none⟩)] 94)))
            have hb2 := hb.alloc hb.size (.cells #[.bool true, .pointer (some ⟨I, 1, none⟩)] 94)
            have hL2 := Blk.new wr 94 #[.bool true, .pointer (some ⟨I, 1, none⟩)]
            clear HG hV hZ hI hU hR hA hb
            go_wp2_with fail
            generalize wr.alloc (.cells #[.bool true, .pointer (some ⟨I, 1, none⟩)] 94) = wx at hZ2 hI2 hU2 hR2 hA2 hV2 hb2 hL2 ⊢
            have HNx := Lib.hid (next_any R r v wx.drew hR2 hV2 (by omega))
            have hlL := hL2.lt
            have l0 : wx.cell? ⟨wr.heap.size, 1, none⟩ = some (.pointer (some ⟨I, 1, none⟩)) := hL2.cell 1
            have HX := Lib.hid (fun (w6 : World) (h : ∀ g, g ≠ R → w6.heap[g]? = wx.heap[g]?) (hb : Below R wx.drew w6) => (⟨hZ2.same (h _ (by omega)), hI2.same (h _ (by omega)), hU2.same (h _ (by omega)), hA2.same (h _ (by omega)), hL2.same (h _ (by omega)), (below_drewN hb2 1).trans (hb.mono (by omega))⟩ : Blk w6 w.heap.size 27 _ ∧ Blk w6 I 27 _ ∧ Blk w6 U 83 _ ∧ Blk w6 AA 94 _ ∧ Blk w6 wr.heap.size 94 _ ∧ Below w.heap.size w w6))
            have hXs := head_small r Hr.out
            have hNx := HNx.out
            rw [hX] at hXs hNx
            have HNy := Lib.hid hNx
            have HRg := Lib.hid (fun W (h : Env er W) => register_any X hXs er W h)
            clear hX hXd hNx HNx
            go_region_law ((first | (go_simp; go_at_call 50; refine HNy.out.mono ?_; rintro e w6 ⟨rfl, v6, hR6, hV6, hbR, hs6, hz6⟩; obtain ⟨hZ6, hI6, hU6, hA6, hL6, hb6⟩ := HX.out w6 hs6 hbR; have E6 := HE.out.below hb6; have l1 : w6.cell? ⟨wr.heap.size, 1, none⟩ = some (.pointer (some ⟨I, 1, none⟩)) := hL6.cell 1) | (go_simp; go_at_call 51; refine (HRg.out w6 E6).mono ?_; rintro e w7 ⟨rfl, hb7⟩; have hI7 := hI6.below hb7 hI6.lt; have l2 : w7.cell? ⟨wr.heap.size, 1, none⟩ = some (.pointer (some ⟨I, 1, none⟩)) := cell_below l1 hb7; have y7 : w7.frozen? ⟨I, 1, none⟩ = false := hI7.frozen 1; have q7 : w7.cell? ⟨I, 1, none⟩ = some (.int .i64 f.a) := hI7.cell 1)))
            all_goals
              have hZ7 := (hZ6.below hb7 hZ6.lt).far (p := ⟨I, 1, none⟩) (by simp; omega) (.int .i64 (regP X.data.toList))
              have hU7 := (hU6.below hb7 hU6.lt).far (p := ⟨I, 1, none⟩) (by simp; omega) (.int .i64 (regP X.data.toList))
              have hA7 := (hA6.below hb7 hA6.lt).far (p := ⟨I, 1, none⟩) (by simp; omega) (.int .i64 (regP X.data.toList))
              have hR7 := (hR6.below hb7 hR6.lt).far (p := ⟨I, 1, none⟩) (by simp; omega) (.int .i64 (regP X.data.toList))
              have hV7 := (hV6.keep (Keeps.of_below hb7)).stored hI7 (by decide) 1 (.int .i64 (regP X.data.toList))
              have hI8 := hI7.store 1 (.int .i64 (regP X.data.toList))
              have hb8 : Below w.heap.size w (w7.setCell ⟨I, 1, none⟩ (.int .i64 (regP X.data.toList))) := (hb6.trans (hb7.mono hb6.size)).setCell (by simp; omega) _
              go_wp2_with fail
              go_roundw
              case rel => exact ⟨1, { f with a := regP X.data.toList }, r.tail, v6, by omega, by rfl, hZ7, hI8, hU7, hR7, hV7, hA7, hb8, by rw [List.length_tail]; omega, Lib.hid (fun y hy => Hr.out y (List.mem_of_mem_tail hy)), HG2⟩
              case measure => simp [intOf]
        · have a0 : wr.cell? ⟨AA, 2, none⟩ = some (.bool ub) := hA.cell 2
          have a1 : wr.cell? ⟨AA, 3, none⟩ = some (.pointer (some ⟨I, 2, none⟩)) := hA.cell 3
          cases ub with
          | false =>
            have HG2 : Hid (G0 = goQ ⟨ua, false, uc, ui, us⟩ 2 f r) := Lib.hid (by rw [HG.out]; rfl)
            have hV2 := hV.keep (Keeps.of_below ((Below.refl wr.heap.size wr).alloc (Nat.le_refl _) (.cells #[.bool false, .pointer (some ⟨I, 2, none⟩)] 94)))
            have hZ2 := hZ.alloc (.cells #[.bool false, .pointer (some ⟨I, 2, none⟩)] 94)
            have hI2 := hI.alloc (.cells #[.bool false, .pointer (some ⟨I, 2, none⟩)] 94)
            have hU2 := hU.alloc (.cells #[.bool false, .pointer (some ⟨I, 2, none⟩)] 94)
            have hR2 := hR.alloc (.cells #[.bool false, .pointer (some ⟨I, 2, none⟩)] 94)
            have hA2 := hA.alloc (.cells #[.bool false, .pointer (some ⟨I, 2, none⟩)] 94)
            have hb2 := hb.alloc hb.size (.cells #[.bool false, .pointer (some ⟨I, 2, none⟩)] 94)
            clear HG hV hZ hI hU hR hA hb
            go_wp2_with fail
            go_roundw
            case rel => exact ⟨2, f, r, v, by omega, by rfl, hZ2, hI2, hU2, hR2, hV2, hA2, hb2, hn, Hr, HG2⟩
            case measure => simp [intOf]
          | true =>
            obtain ⟨X, hX⟩ : ∃ X, r.headD (⟨#[]⟩ : ByteArray) = X := ⟨_, rfl⟩
            have hXd : hd r = X.data.toList := by unfold hd; rw [hX]
            have HG2 : Hid (G0 = goQ ⟨ua, true, uc, ui, us⟩ 2 { f with b := regP X.data.toList } r.tail) := Lib.hid (by rw [HG.out, ← hXd]; rfl)
            have hZ2 := hZ.alloc (.cells #[.bool true, .pointer (some ⟨I, 2, none⟩)] 94)
            have hI2 := hI.alloc (.cells #[.bool true, .pointer (some ⟨I, 2, none⟩)] 94)
            have hU2 := hU.alloc (.cells #[.bool true, .pointer (some ⟨I, 2, none⟩)] 94)
            have hR2 := hR.alloc (.cells #[.bool true, .pointer (some ⟨I, 2, none⟩)] 94)
            have hA2 := hA.alloc (.cells #[.bool true, .pointer (some ⟨I, 2, none⟩)] 94)
            have hV2 := hV.keep (Keeps.of_below ((Below.refl wr.heap.size wr).alloc (Nat.le_refl _) (.cells #[.bool true, .pointer (some ⟨I, 2, none⟩)] 94)))
            have hb2 := hb.alloc hb.size (.cells #[.bool true, .pointer (some ⟨I, 2, none⟩)] 94)
            have hL2 := Blk.new wr 94 #[.bool true, .pointer (some ⟨I, 2, none⟩)]
            clear HG hV hZ hI hU hR hA hb
            go_wp2_with fail
            generalize wr.alloc (.cells #[.bool true, .pointer (some ⟨I, 2, none⟩)] 94) = wx at hZ2 hI2 hU2 hR2 hA2 hV2 hb2 hL2 ⊢
            have HNx := Lib.hid (next_any R r v wx.drew hR2 hV2 (by omega))
            have hlL := hL2.lt
            have l0 : wx.cell? ⟨wr.heap.size, 1, none⟩ = some (.pointer (some ⟨I, 2, none⟩)) := hL2.cell 1
            have HX := Lib.hid (fun (w6 : World) (h : ∀ g, g ≠ R → w6.heap[g]? = wx.heap[g]?) (hb : Below R wx.drew w6) => (⟨hZ2.same (h _ (by omega)), hI2.same (h _ (by omega)), hU2.same (h _ (by omega)), hA2.same (h _ (by omega)), hL2.same (h _ (by omega)), (below_drewN hb2 1).trans (hb.mono (by omega))⟩ : Blk w6 w.heap.size 27 _ ∧ Blk w6 I 27 _ ∧ Blk w6 U 83 _ ∧ Blk w6 AA 94 _ ∧ Blk w6 wr.heap.size 94 _ ∧ Below w.heap.size w w6))
            have hXs := head_small r Hr.out
            have hNx := HNx.out
            rw [hX] at hXs hNx
            have HNy := Lib.hid hNx
            have HRg := Lib.hid (fun W (h : Env er W) => register_any X hXs er W h)
            clear hX hXd hNx HNx
            go_region_law ((first | (go_simp; go_at_call 50; refine HNy.out.mono ?_; rintro e w6 ⟨rfl, v6, hR6, hV6, hbR, hs6, hz6⟩; obtain ⟨hZ6, hI6, hU6, hA6, hL6, hb6⟩ := HX.out w6 hs6 hbR; have E6 := HE.out.below hb6; have l1 : w6.cell? ⟨wr.heap.size, 1, none⟩ = some (.pointer (some ⟨I, 2, none⟩)) := hL6.cell 1) | (go_simp; go_at_call 51; refine (HRg.out w6 E6).mono ?_; rintro e w7 ⟨rfl, hb7⟩; have hI7 := hI6.below hb7 hI6.lt; have l2 : w7.cell? ⟨wr.heap.size, 1, none⟩ = some (.pointer (some ⟨I, 2, none⟩)) := cell_below l1 hb7; have y7 : w7.frozen? ⟨I, 2, none⟩ = false := hI7.frozen 2; have q7 : w7.cell? ⟨I, 2, none⟩ = some (.int .i64 f.b) := hI7.cell 2)))
            all_goals
              have hZ7 := (hZ6.below hb7 hZ6.lt).far (p := ⟨I, 2, none⟩) (by simp; omega) (.int .i64 (regP X.data.toList))
              have hU7 := (hU6.below hb7 hU6.lt).far (p := ⟨I, 2, none⟩) (by simp; omega) (.int .i64 (regP X.data.toList))
              have hA7 := (hA6.below hb7 hA6.lt).far (p := ⟨I, 2, none⟩) (by simp; omega) (.int .i64 (regP X.data.toList))
              have hR7 := (hR6.below hb7 hR6.lt).far (p := ⟨I, 2, none⟩) (by simp; omega) (.int .i64 (regP X.data.toList))
              have hV7 := (hV6.keep (Keeps.of_below hb7)).stored hI7 (by decide) 2 (.int .i64 (regP X.data.toList))
              have hI8 := hI7.store 2 (.int .i64 (regP X.data.toList))
              have hb8 : Below w.heap.size w (w7.setCell ⟨I, 2, none⟩ (.int .i64 (regP X.data.toList))) := (hb6.trans (hb7.mono hb6.size)).setCell (by simp; omega) _
              go_wp2_with fail
              go_roundw
              case rel => exact ⟨2, { f with b := regP X.data.toList }, r.tail, v6, by omega, by rfl, hZ7, hI8, hU7, hR7, hV7, hA7, hb8, by rw [List.length_tail]; omega, Lib.hid (fun y hy => Hr.out y (List.mem_of_mem_tail hy)), HG2⟩
              case measure => simp [intOf]
        · have a0 : wr.cell? ⟨AA, 4, none⟩ = some (.bool uc) := hA.cell 4
          have a1 : wr.cell? ⟨AA, 5, none⟩ = some (.pointer (some ⟨I, 3, none⟩)) := hA.cell 5
          cases uc with
          | false =>
            have HG2 : Hid (G0 = goQ ⟨ua, ub, false, ui, us⟩ 3 f r) := Lib.hid (by rw [HG.out]; rfl)
            have hV2 := hV.keep (Keeps.of_below ((Below.refl wr.heap.size wr).alloc (Nat.le_refl _) (.cells #[.bool false, .pointer (some ⟨I, 3, none⟩)] 94)))
            have hZ2 := hZ.alloc (.cells #[.bool false, .pointer (some ⟨I, 3, none⟩)] 94)
            have hI2 := hI.alloc (.cells #[.bool false, .pointer (some ⟨I, 3, none⟩)] 94)
            have hU2 := hU.alloc (.cells #[.bool false, .pointer (some ⟨I, 3, none⟩)] 94)
            have hR2 := hR.alloc (.cells #[.bool false, .pointer (some ⟨I, 3, none⟩)] 94)
            have hA2 := hA.alloc (.cells #[.bool false, .pointer (some ⟨I, 3, none⟩)] 94)
            have hb2 := hb.alloc hb.size (.cells #[.bool false, .pointer (some ⟨I, 3, none⟩)] 94)
            clear HG hV hZ hI hU hR hA hb
            go_wp2_with fail
            go_roundw
            case rel => exact ⟨3, f, r, v, by omega, by rfl, hZ2, hI2, hU2, hR2, hV2, hA2, hb2, hn, Hr, HG2⟩
            case measure => simp [intOf]
          | true =>
            obtain ⟨X, hX⟩ : ∃ X, r.headD (⟨#[]⟩ : ByteArray) = X := ⟨_, rfl⟩
            have hXd : hd r = X.data.toList := by unfold hd; rw [hX]
            have HG2 : Hid (G0 = goQ ⟨ua, ub, true, ui, us⟩ 3 { f with c := regP X.data.toList } r.tail) := Lib.hid (by rw [HG.out, ← hXd]; rfl)
            have hZ2 := hZ.alloc (.cells #[.bool true, .pointer (some ⟨I, 3, none⟩)] 94)
            have hI2 := hI.alloc (.cells #[.bool true, .pointer (some ⟨I, 3, none⟩)] 94)
            have hU2 := hU.alloc (.cells #[.bool true, .pointer (some ⟨I, 3, none⟩)] 94)
            have hR2 := hR.alloc (.cells #[.bool true, .pointer (some ⟨I, 3, none⟩)] 94)
            have hA2 := hA.alloc (.cells #[.bool true, .pointer (some ⟨I, 3, none⟩)] 94)
            have hV2 := hV.keep (Keeps.of_below ((Below.refl wr.heap.size wr).alloc (Nat.le_refl _) (.cells #[.bool true, .pointer (some ⟨I, 3, none⟩)] 94)))
            have hb2 := hb.alloc hb.size (.cells #[.bool true, .pointer (some ⟨I, 3, none⟩)] 94)
            have hL2 := Blk.new wr 94 #[.bool true, .pointer (some ⟨I, 3, none⟩)]
            clear HG hV hZ hI hU hR hA hb
            go_wp2_with fail
            generalize wr.alloc (.cells #[.bool true, .pointer (some ⟨I, 3, none⟩)] 94) = wx at hZ2 hI2 hU2 hR2 hA2 hV2 hb2 hL2 ⊢
            have HNx := Lib.hid (next_any R r v wx.drew hR2 hV2 (by omega))
            have hlL := hL2.lt
            have l0 : wx.cell? ⟨wr.heap.size, 1, none⟩ = some (.pointer (some ⟨I, 3, none⟩)) := hL2.cell 1
            have HX := Lib.hid (fun (w6 : World) (h : ∀ g, g ≠ R → w6.heap[g]? = wx.heap[g]?) (hb : Below R wx.drew w6) => (⟨hZ2.same (h _ (by omega)), hI2.same (h _ (by omega)), hU2.same (h _ (by omega)), hA2.same (h _ (by omega)), hL2.same (h _ (by omega)), (below_drewN hb2 1).trans (hb.mono (by omega))⟩ : Blk w6 w.heap.size 27 _ ∧ Blk w6 I 27 _ ∧ Blk w6 U 83 _ ∧ Blk w6 AA 94 _ ∧ Blk w6 wr.heap.size 94 _ ∧ Below w.heap.size w w6))
            have hXs := head_small r Hr.out
            have hNx := HNx.out
            rw [hX] at hXs hNx
            have HNy := Lib.hid hNx
            have HRg := Lib.hid (fun W (h : Env er W) => register_any X hXs er W h)
            clear hX hXd hNx HNx
            go_region_law ((first | (go_simp; go_at_call 50; refine HNy.out.mono ?_; rintro e w6 ⟨rfl, v6, hR6, hV6, hbR, hs6, hz6⟩; obtain ⟨hZ6, hI6, hU6, hA6, hL6, hb6⟩ := HX.out w6 hs6 hbR; have E6 := HE.out.below hb6; have l1 : w6.cell? ⟨wr.heap.size, 1, none⟩ = some (.pointer (some ⟨I, 3, none⟩)) := hL6.cell 1) | (go_simp; go_at_call 51; refine (HRg.out w6 E6).mono ?_; rintro e w7 ⟨rfl, hb7⟩; have hI7 := hI6.below hb7 hI6.lt; have l2 : w7.cell? ⟨wr.heap.size, 1, none⟩ = some (.pointer (some ⟨I, 3, none⟩)) := cell_below l1 hb7; have y7 : w7.frozen? ⟨I, 3, none⟩ = false := hI7.frozen 3; have q7 : w7.cell? ⟨I, 3, none⟩ = some (.int .i64 f.c) := hI7.cell 3)))
            all_goals
              have hZ7 := (hZ6.below hb7 hZ6.lt).far (p := ⟨I, 3, none⟩) (by simp; omega) (.int .i64 (regP X.data.toList))
              have hU7 := (hU6.below hb7 hU6.lt).far (p := ⟨I, 3, none⟩) (by simp; omega) (.int .i64 (regP X.data.toList))
              have hA7 := (hA6.below hb7 hA6.lt).far (p := ⟨I, 3, none⟩) (by simp; omega) (.int .i64 (regP X.data.toList))
              have hR7 := (hR6.below hb7 hR6.lt).far (p := ⟨I, 3, none⟩) (by simp; omega) (.int .i64 (regP X.data.toList))
              have hV7 := (hV6.keep (Keeps.of_below hb7)).stored hI7 (by decide) 3 (.int .i64 (regP X.data.toList))
              have hI8 := hI7.store 3 (.int .i64 (regP X.data.toList))
              have hb8 : Below w.heap.size w (w7.setCell ⟨I, 3, none⟩ (.int .i64 (regP X.data.toList))) := (hb6.trans (hb7.mono hb6.size)).setCell (by simp; omega) _
              go_wp2_with fail
              go_roundw
              case rel => exact ⟨3, { f with c := regP X.data.toList }, r.tail, v6, by omega, by rfl, hZ7, hI8, hU7, hR7, hV7, hA7, hb8, by rw [List.length_tail]; omega, Lib.hid (fun y hy => Hr.out y (List.mem_of_mem_tail hy)), HG2⟩
              case measure => simp [intOf]
        · have HG3 : Hid (G0 = (f, r)) := HG
          clear HG
          have t3 : wr.cell? ⟨U, 3, none⟩ = some (.bool ui) := hU.cell 3
          have HQ : Hid (parseP s = parseS s (immP ⟨ua, ub, uc, ui, us⟩ (f, r))) := Lib.hid (by rw [HP2.out, HG3.out])
          clear HG3 HP2 hU hA
          cases ui with
          | false =>
            have HQ2 : Hid (parseP s = parseS s (some f)) := Lib.hid (by rw [HQ.out]; rfl)
            clear HQ hR hV
            have i0 : wr.cell? ⟨I, 0, none⟩ = some (.int .i64 f.op) := hI.cell 0
            have i1 : wr.cell? ⟨I, 1, none⟩ = some (.int .i64 f.a) := hI.cell 1
            have i2 : wr.cell? ⟨I, 2, none⟩ = some (.int .i64 f.b) := hI.cell 2
            have i3 : wr.cell? ⟨I, 3, none⟩ = some (.int .i64 f.c) := hI.cell 3
            have i4 : wr.cell? ⟨I, 4, none⟩ = some (.int .i64 f.imm) := hI.cell 4
            have hPr := Print_any f er wr (HE.out.below hb)
            unfold Ins.val at hPr
            try simp only at hPr
            by_cases hok : parseOk s f
            · have HF : Hid (parseP s = (f, 0)) := Lib.hid (by rw [HQ2.out]; exact if_pos hok)
              rw [hok.1, if_pos rfl, errV_zero, hok.2] at hPr
              have hs1 : (⟨s.data.toList.toArray⟩ : ByteArray) = s := by cases s; simp
              rw [hs1] at hPr
              have HPr := Lib.hid hPr
              clear hPr hok hs1 HQ2
              go_wp2_with fail
              refine HPr.out.mono ?_
              rintro e w9 ⟨rfl, hb9⟩
              have hb09 : Below w.heap.size w w9 := hb.trans (hb9.mono hb.size)
              have hZ9 := hZ.below hb9 hZ.lt
              have hI9 := hI.below hb9 hI.lt
              have j0 : w9.cell? ⟨I, 0, none⟩ = some (.int .i64 f.op) := hI9.cell 0
              have j1 : w9.cell? ⟨I, 1, none⟩ = some (.int .i64 f.a) := hI9.cell 1
              have j2 : w9.cell? ⟨I, 2, none⟩ = some (.int .i64 f.b) := hI9.cell 2
              have j3 : w9.cell? ⟨I, 3, none⟩ = some (.int .i64 f.c) := hI9.cell 3
              have j4 : w9.cell? ⟨I, 4, none⟩ = some (.int .i64 f.imm) := hI9.cell 4
              have z0 : w9.cell? ⟨w.heap.size, 0, none⟩ = some (.int .i64 0) := hZ9.cell 0
              have z1 : w9.cell? ⟨w.heap.size, 1, none⟩ = some (.int .i64 0) := hZ9.cell 1
              have z2 : w9.cell? ⟨w.heap.size, 2, none⟩ = some (.int .i64 0) := hZ9.cell 2
              have z3 : w9.cell? ⟨w.heap.size, 3, none⟩ = some (.int .i64 0) := hZ9.cell 3
              have z4 : w9.cell? ⟨w.heap.size, 4, none⟩ = some (.int .i64 0) := hZ9.cell 4
              have y0 : w9.frozen? ⟨w.heap.size, 0, none⟩ = false := hZ9.frozen 0
              have y1 : w9.frozen? ⟨w.heap.size, 1, none⟩ = false := hZ9.frozen 1
              have y2 : w9.frozen? ⟨w.heap.size, 2, none⟩ = false := hZ9.frozen 2
              have y3 : w9.frozen? ⟨w.heap.size, 3, none⟩ = false := hZ9.frozen 3
              have y4 : w9.frozen? ⟨w.heap.size, 4, none⟩ = false := hZ9.frozen 4
              have hlZ := hZ9.lt
              clear HPr hb9 i0 i1 i2 i3 i4
              go_wp2
              refine bodyPost_ret (v := .tuple #[.agg #[.int .i64 f.op, .int .i64 f.a, .int .i64 f.b, .int .i64 f.c, .int .i64 f.imm], .nilIface]) (by simp [results, Tryz.results21, go_sem, z0, z1, z2, z3, z4]) rfl ⟨?_, ?_⟩
              · rw [HF.out, errV_zero]
              · exact ((((hb09.setCell (Nat.le_refl _) _).setCell (Nat.le_refl _) _).setCell (Nat.le_refl _) _).setCell (Nat.le_refl _) _).setCell (Nat.le_refl _) _
            · have HF : Hid (parseP s = (⟨0, 0, 0, 0, 0⟩, 18)) := Lib.hid (by rw [HQ2.out]; exact if_neg hok)
              by_cases hcc : checkC f = 0
              · have hne1 : (printT f) ≠ s.data.toList := fun h => hok ⟨hcc, h⟩
                rw [hcc, if_pos rfl, errV_zero] at hPr
                generalize printT f = T at hPr hne1
                obtain ⟨Y, hY⟩ : ∃ Y : ByteArray, (⟨T.toArray⟩ : ByteArray) = Y := ⟨_, rfl⟩
                have hne2 : (Y.toList == s.toList) = false := by
                  rw [ByteArray.toList_eq, ByteArray.toList_eq, ← hY]
                  rw [beq_eq_false_iff_ne]
                  exact hne1
                rw [hY] at hPr
                have HPr := Lib.hid hPr
                clear hPr hok hcc hne1 hY HQ2
                go_wp2_with fail
                refine HPr.out.mono ?_
                rintro e w9 ⟨rfl, hb9⟩
                have hb09 : Below w.heap.size w w9 := hb.trans (hb9.mono hb.size)
                have hZ9 := hZ.below hb9 hZ.lt
                clear HPr hb9 i0 i1 i2 i3 i4
                go_wp2_with fail
                have z0 : w9.cell? ⟨w.heap.size, 0, none⟩ = some (.int .i64 0) := hZ9.cell 0
                have z1 : w9.cell? ⟨w.heap.size, 1, none⟩ = some (.int .i64 0) := hZ9.cell 1
                have z2 : w9.cell? ⟨w.heap.size, 2, none⟩ = some (.int .i64 0) := hZ9.cell 2
                have z3 : w9.cell? ⟨w.heap.size, 3, none⟩ = some (.int .i64 0) := hZ9.cell 3
                have z4 : w9.cell? ⟨w.heap.size, 4, none⟩ = some (.int .i64 0) := hZ9.cell 4
                have y0 : w9.frozen? ⟨w.heap.size, 0, none⟩ = false := hZ9.frozen 0
                have y1 : w9.frozen? ⟨w.heap.size, 1, none⟩ = false := hZ9.frozen 1
                have y2 : w9.frozen? ⟨w.heap.size, 2, none⟩ = false := hZ9.frozen 2
                have y3 : w9.frozen? ⟨w.heap.size, 3, none⟩ = false := hZ9.frozen 3
                have y4 : w9.frozen? ⟨w.heap.size, 4, none⟩ = false := hZ9.frozen 4
                have hk := (HE.out.below hb09).eText
                have hne : ¬ w.heap.size = 2 := by omega
                go_region
                all_goals go_wp2
                all_goals refine bodyPost_ret (v := .tuple #[.agg #[.int .i64 0, .int .i64 0, .int .i64 0, .int .i64 0, .int .i64 0], ev (er 18)]) (by simp [results, Tryz.results21, go_sem, z0, z1, z2, z3, z4]) rfl ⟨?_, ?_⟩
                · rw [HF.out, errV_pos er 18 (by decide)]
                · exact (((((hb09.setCell (Nat.le_refl _) _).setCell (Nat.le_refl _) _).setCell (Nat.le_refl _) _).setCell (Nat.le_refl _) _).setCell (Nat.le_refl _) _).drew
              · rw [errV_pos er _ hcc, if_neg hcc] at hPr
                have HPr := Lib.hid hPr
                clear hPr hok HQ2
                generalize er (checkC f) = ea at HPr
                clear hcc
                go_wp2_with fail
                refine HPr.out.mono ?_
                rintro e w9 ⟨rfl, hb9⟩
                have hb09 : Below w.heap.size w w9 := hb.trans (hb9.mono hb.size)
                have hZ9 := hZ.below hb9 hZ.lt
                clear HPr hb9 i0 i1 i2 i3 i4
                go_wp2_with fail
                have z0 : w9.cell? ⟨w.heap.size, 0, none⟩ = some (.int .i64 0) := hZ9.cell 0
                have z1 : w9.cell? ⟨w.heap.size, 1, none⟩ = some (.int .i64 0) := hZ9.cell 1
                have z2 : w9.cell? ⟨w.heap.size, 2, none⟩ = some (.int .i64 0) := hZ9.cell 2
                have z3 : w9.cell? ⟨w.heap.size, 3, none⟩ = some (.int .i64 0) := hZ9.cell 3
                have z4 : w9.cell? ⟨w.heap.size, 4, none⟩ = some (.int .i64 0) := hZ9.cell 4
                have y0 : w9.frozen? ⟨w.heap.size, 0, none⟩ = false := hZ9.frozen 0
                have y1 : w9.frozen? ⟨w.heap.size, 1, none⟩ = false := hZ9.frozen 1
                have y2 : w9.frozen? ⟨w.heap.size, 2, none⟩ = false := hZ9.frozen 2
                have y3 : w9.frozen? ⟨w.heap.size, 3, none⟩ = false := hZ9.frozen 3
                have y4 : w9.frozen? ⟨w.heap.size, 4, none⟩ = false := hZ9.frozen 4
                have hk := (HE.out.below hb09).eText
                have hne : ¬ w.heap.size = 2 := by omega
                go_region
                all_goals go_wp2
                all_goals refine bodyPost_ret (v := .tuple #[.agg #[.int .i64 0, .int .i64 0, .int .i64 0, .int .i64 0, .int .i64 0], ev (er 18)]) (by simp [results, Tryz.results21, go_sem, z0, z1, z2, z3, z4]) rfl ⟨?_, ?_⟩
                · rw [HF.out, errV_pos er 18 (by decide)]
                · exact (((((hb09.setCell (Nat.le_refl _) _).setCell (Nat.le_refl _) _).setCell (Nat.le_refl _) _).setCell (Nat.le_refl _) _).setCell (Nat.le_refl _) _).drew
          | true =>
            obtain ⟨X, hX⟩ : ∃ X, r.headD (⟨#[]⟩ : ByteArray) = X := ⟨_, rfl⟩
            have hXd : hd r = X.data.toList := by unfold hd; rw [hX]
            have hNx := next_any R r v wr hR hV (by omega)
            have hXs := head_small r Hr.out
            rw [hX] at hXs hNx
            have HNy := Lib.hid hNx
            have HQ1 : Hid (parseP s = parseS s (match Lib.atoiAll X.data.toList with | .ok v => some { f with imm := v } | _ => none)) := Lib.hid (by rw [HQ.out, ← hXd]; rfl)
            clear HQ hX hXd hNx hR hV
            go_wp2_with fail
            refine HNy.out.mono ?_
            rintro e w6 ⟨rfl, v6, hR6, hV6, hbR, hs6, hz6⟩
            have hZ6 := hZ.same (hs6 _ (by omega))
            have hI6 := hI.same (hs6 _ (by omega))
            have hb6 : Below w.heap.size w w6 := hb.trans (hbR.mono (by omega))
            clear HNy hZ hI hb hR6 hV6 hbR hs6
            rcases neither_cases (Lib.atoiAll X.data.toList) with ⟨n, ha⟩ | ha | ha
            · have HQ2 : Hid (parseP s = parseS s (some { f with imm := n })) := Lib.hid (by rw [HQ1.out, ha])
              have HA := Lib.hid (Tryz.strconv_Atoi_ok X (by omega) n ha w6)
              clear HQ1 ha
              go_wp2_with fail
              refine HA.out.mono ?_
              rintro e w7 ⟨rfl, hbw⟩
              have hb67 : Below w6.heap.size w6 w7 := by
                rcases hbw with rfl | ⟨t, rfl⟩
                · exact Below.refl _ _
                · exact Lib.bytesWorld_below _ _ _
              have hZ7 := (hZ6.below hb67 hZ6.lt).far (p := ⟨I, 4, none⟩) (by simp; omega) (.int .i64 n)
              have hI7 := hI6.below hb67 hI6.lt
              have hI8 := hI7.store 4 (.int .i64 n)
              have hb7 : Below w.heap.size w (w7.setCell ⟨I, 4, none⟩ (.int .i64 n)) := (hb6.trans (hb67.mono hb6.size)).setCell (by simp; omega) _
              have q0 : w7.cell? ⟨I, 0, none⟩ = some (.int .i64 f.op) := hI7.cell 0
              have q1 : w7.cell? ⟨I, 1, none⟩ = some (.int .i64 f.a) := hI7.cell 1
              have q2 : w7.cell? ⟨I, 2, none⟩ = some (.int .i64 f.b) := hI7.cell 2
              have q3 : w7.cell? ⟨I, 3, none⟩ = some (.int .i64 f.c) := hI7.cell 3
              have q4 : w7.cell? ⟨I, 4, none⟩ = some (.int .i64 f.imm) := hI7.cell 4
              have y4 : w7.frozen? ⟨I, 4, none⟩ = false := hI7.frozen 4
              clear HA hbw hb67 hZ6 hI6 hI7 hb6
              go_wp2_with fail
              generalize w7.setCell ⟨I, 4, none⟩ (.int .i64 n) = w8 at hZ7 hI8 hb7 ⊢
              have i0 : w8.cell? ⟨I, 0, none⟩ = some (.int .i64 f.op) := hI8.cell 0
              have i1 : w8.cell? ⟨I, 1, none⟩ = some (.int .i64 f.a) := hI8.cell 1
              have i2 : w8.cell? ⟨I, 2, none⟩ = some (.int .i64 f.b) := hI8.cell 2
              have i3 : w8.cell? ⟨I, 3, none⟩ = some (.int .i64 f.c) := hI8.cell 3
              have i4 : w8.cell? ⟨I, 4, none⟩ = some (.int .i64 n) := hI8.cell 4
              have hPr := Print_any { f with imm := n } er w8 (HE.out.below hb7)
              unfold Ins.val at hPr
              try simp only at hPr
              by_cases hok : parseOk s { f with imm := n }
              · have HF : Hid (parseP s = ({ f with imm := n }, 0)) := Lib.hid (by rw [HQ2.out]; exact if_pos hok)
                rw [hok.1, if_pos rfl, errV_zero, hok.2] at hPr
                have hs1 : (⟨s.data.toList.toArray⟩ : ByteArray) = s := by cases s; simp
                rw [hs1] at hPr
                have HPr := Lib.hid hPr
                clear hPr hok hs1 HQ2
                refine HPr.out.mono ?_
                rintro e w9 ⟨rfl, hb9⟩
                have hb09 : Below w.heap.size w w9 := hb7.trans (hb9.mono hb7.size)
                have hZ9 := hZ7.below hb9 hZ7.lt
                have hI9 := hI8.below hb9 hI8.lt
                have j0 : w9.cell? ⟨I, 0, none⟩ = some (.int .i64 f.op) := hI9.cell 0
                have j1 : w9.cell? ⟨I, 1, none⟩ = some (.int .i64 f.a) := hI9.cell 1
                have j2 : w9.cell? ⟨I, 2, none⟩ = some (.int .i64 f.b) := hI9.cell 2
                have j3 : w9.cell? ⟨I, 3, none⟩ = some (.int .i64 f.c) := hI9.cell 3
                have j4 : w9.cell? ⟨I, 4, none⟩ = some (.int .i64 n) := hI9.cell 4
                have z0 : w9.cell? ⟨w.heap.size, 0, none⟩ = some (.int .i64 0) := hZ9.cell 0
                have z1 : w9.cell? ⟨w.heap.size, 1, none⟩ = some (.int .i64 0) := hZ9.cell 1
                have z2 : w9.cell? ⟨w.heap.size, 2, none⟩ = some (.int .i64 0) := hZ9.cell 2
                have z3 : w9.cell? ⟨w.heap.size, 3, none⟩ = some (.int .i64 0) := hZ9.cell 3
                have z4 : w9.cell? ⟨w.heap.size, 4, none⟩ = some (.int .i64 0) := hZ9.cell 4
                have y0 : w9.frozen? ⟨w.heap.size, 0, none⟩ = false := hZ9.frozen 0
                have y1 : w9.frozen? ⟨w.heap.size, 1, none⟩ = false := hZ9.frozen 1
                have y2 : w9.frozen? ⟨w.heap.size, 2, none⟩ = false := hZ9.frozen 2
                have y3 : w9.frozen? ⟨w.heap.size, 3, none⟩ = false := hZ9.frozen 3
                have y4 : w9.frozen? ⟨w.heap.size, 4, none⟩ = false := hZ9.frozen 4
                have hlZ := hZ9.lt
                clear HPr hb9 i0 i1 i2 i3 i4
                go_wp2
                refine bodyPost_ret (v := .tuple #[.agg #[.int .i64 f.op, .int .i64 f.a, .int .i64 f.b, .int .i64 f.c, .int .i64 n], .nilIface]) (by simp [results, Tryz.results21, go_sem, z0, z1, z2, z3, z4]) rfl ⟨?_, ?_⟩
                · rw [HF.out, errV_zero]
                · exact ((((hb09.setCell (Nat.le_refl _) _).setCell (Nat.le_refl _) _).setCell (Nat.le_refl _) _).setCell (Nat.le_refl _) _).setCell (Nat.le_refl _) _
              · have HF : Hid (parseP s = (⟨0, 0, 0, 0, 0⟩, 18)) := Lib.hid (by rw [HQ2.out]; exact if_neg hok)
                by_cases hcc : checkC { f with imm := n } = 0
                · have hne1 : (printT { f with imm := n }) ≠ s.data.toList := fun h => hok ⟨hcc, h⟩
                  rw [hcc, if_pos rfl, errV_zero] at hPr
                  generalize printT { f with imm := n } = T at hPr hne1
                  obtain ⟨Y, hY⟩ : ∃ Y : ByteArray, (⟨T.toArray⟩ : ByteArray) = Y := ⟨_, rfl⟩
                  have hne2 : (Y.toList == s.toList) = false := by
                    rw [ByteArray.toList_eq, ByteArray.toList_eq, ← hY]
                    rw [beq_eq_false_iff_ne]
                    exact hne1
                  rw [hY] at hPr
                  have HPr := Lib.hid hPr
                  clear hPr hok hcc hne1 hY HQ2
                  refine HPr.out.mono ?_
                  rintro e w9 ⟨rfl, hb9⟩
                  have hb09 : Below w.heap.size w w9 := hb7.trans (hb9.mono hb7.size)
                  have hZ9 := hZ7.below hb9 hZ7.lt
                  clear HPr hb9 i0 i1 i2 i3 i4
                  go_wp2_with fail
                  have z0 : w9.cell? ⟨w.heap.size, 0, none⟩ = some (.int .i64 0) := hZ9.cell 0
                  have z1 : w9.cell? ⟨w.heap.size, 1, none⟩ = some (.int .i64 0) := hZ9.cell 1
                  have z2 : w9.cell? ⟨w.heap.size, 2, none⟩ = some (.int .i64 0) := hZ9.cell 2
                  have z3 : w9.cell? ⟨w.heap.size, 3, none⟩ = some (.int .i64 0) := hZ9.cell 3
                  have z4 : w9.cell? ⟨w.heap.size, 4, none⟩ = some (.int .i64 0) := hZ9.cell 4
                  have y0 : w9.frozen? ⟨w.heap.size, 0, none⟩ = false := hZ9.frozen 0
                  have y1 : w9.frozen? ⟨w.heap.size, 1, none⟩ = false := hZ9.frozen 1
                  have y2 : w9.frozen? ⟨w.heap.size, 2, none⟩ = false := hZ9.frozen 2
                  have y3 : w9.frozen? ⟨w.heap.size, 3, none⟩ = false := hZ9.frozen 3
                  have y4 : w9.frozen? ⟨w.heap.size, 4, none⟩ = false := hZ9.frozen 4
                  have hk := (HE.out.below hb09).eText
                  have hne : ¬ w.heap.size = 2 := by omega
                  go_region
                  all_goals go_wp2
                  all_goals refine bodyPost_ret (v := .tuple #[.agg #[.int .i64 0, .int .i64 0, .int .i64 0, .int .i64 0, .int .i64 0], ev (er 18)]) (by simp [results, Tryz.results21, go_sem, z0, z1, z2, z3, z4]) rfl ⟨?_, ?_⟩
                  · rw [HF.out, errV_pos er 18 (by decide)]
                  · exact (((((hb09.setCell (Nat.le_refl _) _).setCell (Nat.le_refl _) _).setCell (Nat.le_refl _) _).setCell (Nat.le_refl _) _).setCell (Nat.le_refl _) _).drew
                · rw [errV_pos er _ hcc, if_neg hcc] at hPr
                  have HPr := Lib.hid hPr
                  clear hPr hok HQ2
                  generalize er (checkC { f with imm := n }) = ea at HPr
                  clear hcc
                  refine HPr.out.mono ?_
                  rintro e w9 ⟨rfl, hb9⟩
                  have hb09 : Below w.heap.size w w9 := hb7.trans (hb9.mono hb7.size)
                  have hZ9 := hZ7.below hb9 hZ7.lt
                  clear HPr hb9 i0 i1 i2 i3 i4
                  go_wp2_with fail
                  have z0 : w9.cell? ⟨w.heap.size, 0, none⟩ = some (.int .i64 0) := hZ9.cell 0
                  have z1 : w9.cell? ⟨w.heap.size, 1, none⟩ = some (.int .i64 0) := hZ9.cell 1
                  have z2 : w9.cell? ⟨w.heap.size, 2, none⟩ = some (.int .i64 0) := hZ9.cell 2
                  have z3 : w9.cell? ⟨w.heap.size, 3, none⟩ = some (.int .i64 0) := hZ9.cell 3
                  have z4 : w9.cell? ⟨w.heap.size, 4, none⟩ = some (.int .i64 0) := hZ9.cell 4
                  have y0 : w9.frozen? ⟨w.heap.size, 0, none⟩ = false := hZ9.frozen 0
                  have y1 : w9.frozen? ⟨w.heap.size, 1, none⟩ = false := hZ9.frozen 1
                  have y2 : w9.frozen? ⟨w.heap.size, 2, none⟩ = false := hZ9.frozen 2
                  have y3 : w9.frozen? ⟨w.heap.size, 3, none⟩ = false := hZ9.frozen 3
                  have y4 : w9.frozen? ⟨w.heap.size, 4, none⟩ = false := hZ9.frozen 4
                  have hk := (HE.out.below hb09).eText
                  have hne : ¬ w.heap.size = 2 := by omega
                  go_region
                  all_goals go_wp2
                  all_goals refine bodyPost_ret (v := .tuple #[.agg #[.int .i64 0, .int .i64 0, .int .i64 0, .int .i64 0, .int .i64 0], ev (er 18)]) (by simp [results, Tryz.results21, go_sem, z0, z1, z2, z3, z4]) rfl ⟨?_, ?_⟩
                  · rw [HF.out, errV_pos er 18 (by decide)]
                  · exact (((((hb09.setCell (Nat.le_refl _) _).setCell (Nat.le_refl _) _).setCell (Nat.le_refl _) _).setCell (Nat.le_refl _) _).setCell (Nat.le_refl _) _).drew
            · have HF : Hid (parseP s = (⟨0, 0, 0, 0, 0⟩, 18)) := Lib.hid (by
                rw [HQ1.out, ha]
                rfl)
              obtain ⟨tp, p, hv⟩ := (HE.out.below hb6).rng
              have HA := Lib.hid (Tryz.strconv_Atoi_range_var X (by omega) ha tp p w6 hv)
              clear HQ1 ha hv
              go_wp2_with fail
              refine HA.out.mono ?_
              rintro e w9 ⟨N, rfl, _, _, hb9⟩
              have hb09 : Below w.heap.size w w9 := hb6.trans (hb9.mono hb6.size)
              have hZ9 := hZ6.below hb9 hZ6.lt
              clear HA hb9
              go_wp2_with fail
              have z0 : w9.cell? ⟨w.heap.size, 0, none⟩ = some (.int .i64 0) := hZ9.cell 0
              have z1 : w9.cell? ⟨w.heap.size, 1, none⟩ = some (.int .i64 0) := hZ9.cell 1
              have z2 : w9.cell? ⟨w.heap.size, 2, none⟩ = some (.int .i64 0) := hZ9.cell 2
              have z3 : w9.cell? ⟨w.heap.size, 3, none⟩ = some (.int .i64 0) := hZ9.cell 3
              have z4 : w9.cell? ⟨w.heap.size, 4, none⟩ = some (.int .i64 0) := hZ9.cell 4
              have y0 : w9.frozen? ⟨w.heap.size, 0, none⟩ = false := hZ9.frozen 0
              have y1 : w9.frozen? ⟨w.heap.size, 1, none⟩ = false := hZ9.frozen 1
              have y2 : w9.frozen? ⟨w.heap.size, 2, none⟩ = false := hZ9.frozen 2
              have y3 : w9.frozen? ⟨w.heap.size, 3, none⟩ = false := hZ9.frozen 3
              have y4 : w9.frozen? ⟨w.heap.size, 4, none⟩ = false := hZ9.frozen 4
              have hk := (HE.out.below hb09).eText
              have hne : ¬ w.heap.size = 2 := by omega
              go_region
              all_goals go_wp2
              all_goals refine bodyPost_ret (v := .tuple #[.agg #[.int .i64 0, .int .i64 0, .int .i64 0, .int .i64 0, .int .i64 0], ev (er 18)]) (by simp [results, Tryz.results21, go_sem, z0, z1, z2, z3, z4]) rfl ⟨?_, ?_⟩
              · rw [HF.out, errV_pos er 18 (by decide)]
              · exact (((((hb09.setCell (Nat.le_refl _) _).setCell (Nat.le_refl _) _).setCell (Nat.le_refl _) _).setCell (Nat.le_refl _) _).setCell (Nat.le_refl _) _).drew
            · have HF : Hid (parseP s = (⟨0, 0, 0, 0, 0⟩, 18)) := Lib.hid (by
                have h1 := HQ1.out
                revert h1 ha
                cases Lib.atoiAll X.data.toList <;> intro ha h1
                all_goals first | exact absurd rfl (ha.1 _) | exact absurd rfl ha.2 | exact h1)
              obtain ⟨tp, p, hv⟩ := (HE.out.below hb6).syn
              have HA := Lib.hid (atoi_bad X (by omega) ha tp p w6 hv)
              clear HQ1 ha hv
              go_wp2_with fail
              refine HA.out.mono ?_
              rintro e w9 ⟨N, rfl, hb9⟩
              have hb09 : Below w.heap.size w w9 := hb6.trans (hb9.mono hb6.size)
              have hZ9 := hZ6.below hb9 hZ6.lt
              clear HA hb9
              go_wp2_with fail
              have z0 : w9.cell? ⟨w.heap.size, 0, none⟩ = some (.int .i64 0) := hZ9.cell 0
              have z1 : w9.cell? ⟨w.heap.size, 1, none⟩ = some (.int .i64 0) := hZ9.cell 1
              have z2 : w9.cell? ⟨w.heap.size, 2, none⟩ = some (.int .i64 0) := hZ9.cell 2
              have z3 : w9.cell? ⟨w.heap.size, 3, none⟩ = some (.int .i64 0) := hZ9.cell 3
              have z4 : w9.cell? ⟨w.heap.size, 4, none⟩ = some (.int .i64 0) := hZ9.cell 4
              have y0 : w9.frozen? ⟨w.heap.size, 0, none⟩ = false := hZ9.frozen 0
              have y1 : w9.frozen? ⟨w.heap.size, 1, none⟩ = false := hZ9.frozen 1
              have y2 : w9.frozen? ⟨w.heap.size, 2, none⟩ = false := hZ9.frozen 2
              have y3 : w9.frozen? ⟨w.heap.size, 3, none⟩ = false := hZ9.frozen 3
              have y4 : w9.frozen? ⟨w.heap.size, 4, none⟩ = false := hZ9.frozen 4
              have hk := (HE.out.below hb09).eText
              have hne : ¬ w.heap.size = 2 := by omega
              go_region
              all_goals go_wp2
              all_goals refine bodyPost_ret (v := .tuple #[.agg #[.int .i64 0, .int .i64 0, .int .i64 0, .int .i64 0, .int .i64 0], ev (er 18)]) (by simp [results, Tryz.results21, go_sem, z0, z1, z2, z3, z4]) rfl ⟨?_, ?_⟩
              · rw [HF.out, errV_pos er 18 (by decide)]
              · exact (((((hb09.setCell (Nat.le_refl _) _).setCell (Nat.le_refl _) _).setCell (Nat.le_refl _) _).setCell (Nat.le_refl _) _).setCell (Nat.le_refl _) _).drew
end Go.Proofs.YtecmeegnjjhilaaGreatDoor
