/- isa.Encode, isa.Decode: what each returns. -/
import Derived.Test.YtecmeegnjjhilaaGreatDoorEnc
import Derived.Test.YtecmeegnjjhilaaGreatDoorBits
namespace Go.Proofs.YtecmeegnjjhilaaGreatDoor
open Go.RowKit
theorem table_ops : table.all (fun r => decide (1 ≤ r.op) && decide (r.op ≤ 64)) = true := by decide +kernel
theorem op_range (op : Int) (h : formOf op ≠ 0) : 1 ≤ op ∧ op ≤ 64 := by
  unfold formOf opRow look at h
  cases hf : table.find? (fun r => r.op == op) with
  | none => rw [hf] at h; simp at h
  | some r =>
    have hm := List.all_eq_true.1 table_ops r (List.mem_of_find?_eq_some hf)
    have he := List.find?_some hf
    simp at hm he
    omega
theorem fits_range (n : Int) (u : Bool) (h : fitsB n u = true) : 0 ≤ n ∧ n ≤ 15 := by
  unfold fitsB at h
  simp at h
  omega
theorem bounds_range (u : Uses) (n : Int) (h0 : u.lo ≤ n) (h1 : n ≤ u.hi) : -32768 ≤ n ∧ n ≤ 65535 := by
  unfold Uses.lo at h0
  unfold Uses.hi at h1
  split at h0 <;> split at h1 <;> (try split at h0) <;> (try split at h1) <;> omega
theorem check_ok (i : Ins) (h : checkC i = 0) : 1 ≤ i.op ∧ i.op ≤ 64 ∧ 0 ≤ i.a ∧ i.a ≤ 15 ∧ 0 ≤ i.b ∧ i.b ≤ 15 ∧ 0 ≤ i.c ∧ i.c ≤ 15 ∧ -32768 ≤ i.imm ∧ i.imm ≤ 65535 := by
  unfold checkC at h
  simp only at h
  split at h
  · omega
  · rename_i hf
    split at h
    · rename_i hh
      simp only [Bool.and_eq_true, decide_eq_true_eq] at hh
      obtain ⟨⟨⟨⟨ha, hb⟩, hc⟩, hl⟩, hu⟩ := hh
      have h1 := op_range _ hf
      have h2 := fits_range _ _ ha
      have h3 := fits_range _ _ hb
      have h4 := fits_range _ _ hc
      have h5 := bounds_range _ _ hl hu
      omega
    · omega
/-- The word of an instruction that is one. -/
def encW (i : Ins) : Int := i.op * 16777216 + i.a * 1048576 + i.b * 65536 + i.c * 4096 + i.imm % 65536
theorem check_apart (i : Ins) (h : checkC i = 0) : i.c = 0 ∨ i.imm = 0 := by
  unfold checkC at h
  simp only at h
  split at h
  · omega
  · split at h
    · rename_i hh
      simp only [Bool.and_eq_true, decide_eq_true_eq] at hh
      obtain ⟨⟨⟨⟨_, _⟩, hc⟩, hl⟩, hu⟩ := hh
      by_cases hf : formOf i.op = 1
      · right
        rw [hf] at hl hu
        simp [usesOf, Uses.lo, Uses.hi] at hl hu
        omega
      · left
        have : (formOf i.op == 1) = false := by simpa using hf
        simp [usesOf, fitsB, this] at hc
        omega
    · omega
def encR (i : Ins) : Int := if checkC i = 0 then encW i else 0
theorem enc_join (i : Ins) (h : checkC i = 0) :
    bits .or .u32 (bits .or .u32 (bits .or .u32 (bits .or .u32 (i.op * 16777216) (i.a * 1048576)) (i.b * 65536)) (i.c * 4096)) (bits .and .u32 (i.imm % 4294967296) 65535) = encR i := by
  obtain ⟨o0, o1, a0, a1, b0, b1, c0, c1, i0, i1⟩ := check_ok i h
  have hm : bits .and .u32 (i.imm % 4294967296) 65535 = i.imm % 65536 := by
    rw [and_low (i.imm % 4294967296) 16 65535 (by decide) (by omega) (by omega) (by omega)]
    omega
  rw [hm, join_fields i.op i.a i.b i.c (i.imm % 65536) (by omega) (by omega) a0 (by omega) b0 (by omega) c0 (by omega) (by omega) (by omega) (by have := check_apart i h; omega)]
  unfold encR encW
  rw [if_pos h]

set_option maxHeartbeats 1000000 in
set_option maxRecDepth 100000 in
theorem Encode_any (i : Ins) (er : Nat → Addr) (w : World) (E : Env er w) :
    Calls Tryz.prog 17 #[i.val] w fun e w' => e = .returned (.tuple #[.int .u32 (encR i), errV er (checkC i)]) ∧ Below w.heap.size w w' := by
  have hbox : Below w.heap.size w (w.alloc (.cells #[.int .i64 i.op, .int .i64 i.a, .int .i64 i.b, .int .i64 i.c, .int .i64 i.imm] 27)) := (Below.refl _ _).alloc (Nat.le_refl _) _
  have HC := Lib.hid (Check_any i er _ (E.below hbox))
  have hk := check_ok i
  have HJ := Lib.hid (enc_join i)
  obtain ⟨op, a, b, c, imm⟩ := i
  unfold Ins.val
  unfold Ins.val at HC
  simp only at hk hbox
  go_enter Tryz.func17, Tryz.ntmps17
  go_wp2_with fail
  refine HC.out.mono ?_
  rintro e w1 ⟨rfl, hb1⟩
  have hb01 : Below w.heap.size w w1 := hbox.trans (hb1.mono (by simp))
  have hI1 : Blk w1 w.heap.size 27 #[.int .i64 op, .int .i64 a, .int .i64 b, .int .i64 c, .int .i64 imm] := (Blk.new w _ _).below hb1 (by simp)
  by_cases h0 : checkC ⟨op, a, b, c, imm⟩ = 0
  · obtain ⟨o0, o1, a0, a1, b0, b1, c0, c1, i0, i1⟩ := hk h0
    have d0 : w1.cell? ⟨w.heap.size, 0, none⟩ = some (.int .i64 op) := hI1.cell 0
    have d1 : w1.cell? ⟨w.heap.size, 1, none⟩ = some (.int .i64 a) := hI1.cell 1
    have d2 : w1.cell? ⟨w.heap.size, 2, none⟩ = some (.int .i64 b) := hI1.cell 2
    have d3 : w1.cell? ⟨w.heap.size, 3, none⟩ = some (.int .i64 c) := hI1.cell 3
    have d4 : w1.cell? ⟨w.heap.size, 4, none⟩ = some (.int .i64 imm) := hI1.cell 4
    have HE := Lib.hid (HJ.out h0)
    rw [h0, errV_zero]
    have H0 := Lib.hid h0
    clear h0 hk hI1 HC hb1 hbox HJ
    go_wp2
    go_ret2
    refine ⟨(?_ : Ending.returned (.tuple #[.int .u32 _, .nilIface]) = _), hb01⟩
    rw [HE.out, H0.out]
    rfl
  · have h0' := errV_pos er _ h0
    rw [h0']
    have H0 := Lib.hid h0
    have H1 := Lib.hid h0'
    clear h0 h0' hk hI1 HC hb1 hbox HJ
    go_wp2
    go_ret2
    exact ⟨by simp only [encR, if_neg H0.out, H1.out]; rfl, hb01⟩

/-- A word's fields, read for the form that its op has. -/
def decRaw (n : Int) : Ins :=
  let op := n / 16777216
  let u := usesOf (formOf op)
  ⟨op, n / 1048576 % 16, n / 65536 % 16, if u.c then n / 4096 % 16 else 0, if u.c then 0 else if u.signed then (n + 32768) % 65536 - 32768 else n % 65536⟩
def decC (n : Int) : Nat := if formOf (n / 16777216) = 0 then 7 else if checkC (decRaw n) = 0 ∧ encW (decRaw n) = n then 0 else 4
def decI (n : Int) : Ins := if decC n = 0 then decRaw n else ⟨0, 0, 0, 0, 0⟩

theorem wrap16_u (n : Int) : IntKind.i16.wrap n = (n + 32768) % 65536 - 32768 := by
  have hb : IntKind.i16.bits = 16 := rfl
  have hs : IntKind.i16.signed = true := rfl
  unfold IntKind.wrap
  rw [hb, hs]
  simp only [Bool.true_and, decide_eq_true_eq]
  show (if n % 65536 ≥ 32768 then n % 65536 - 65536 else n % 65536) = _
  split <;> omega

theorem dec_bad (n : Int) (h : decC n ≠ 0) : decI n = ⟨0, 0, 0, 0, 0⟩ := if_neg h
theorem dec_good (n : Int) (h : decC n = 0) : decI n = decRaw n := if_pos h

set_option maxHeartbeats 4000000 in
set_option maxRecDepth 100000 in
theorem Decode_any (n : Int) (h0 : 0 ≤ n) (h1 : n < 4294967296) (er : Nat → Addr) (w : World) (E : Env er w) :
    Calls Tryz.prog 16 #[.int .u32 n] w fun e w' => e = .returned (.tuple #[(decI n).val, errV er (decC n)]) ∧ Below w.heap.size w w' := by
  have e15 : bits .and .u32 (n / 1048576) 15 = n / 1048576 % 16 := and_low (n / 1048576) 4 15 (by decide) (by omega) (by omega) (by omega)
  have e16 : bits .and .u32 (n / 65536) 15 = n / 65536 % 16 := and_low (n / 65536) 4 15 (by decide) (by omega) (by omega) (by omega)
  have e17 : bits .and .u32 (n / 4096) 15 = n / 4096 % 16 := and_low (n / 4096) 4 15 (by decide) (by omega) (by omega) (by omega)
  have e18 : bits .and .u32 n 65535 = n % 65536 := and_low n 16 65535 (by decide) (by omega) (by omega) (by omega)
  have w16 : IntKind.i16.wrap n = (n + 32768) % 65536 - 32768 := wrap16_u n
  have hw1 : Below w.heap.size w ((w.alloc (.cells #[.int .i64 0, .int .i64 0, .int .i64 0, .int .i64 0, .int .i64 0] 27)).alloc (.cells #[.int .i64 (n / 16777216), .int .i64 (n / 1048576 % 16), .int .i64 (n / 65536 % 16), .int .i64 0, .int .i64 0] 27)) := ((Below.refl _ _).alloc (Nat.le_refl _) _).alloc (by simp) _
  have HF := Lib.hid (Form_f er (n / 16777216) _ (E.below hw1))
  obtain ⟨hf0, hf7⟩ := form_range (n / 16777216)
  have HR : Hid (decRaw n = ⟨n / 16777216, n / 1048576 % 16, n / 65536 % 16, if (usesOf (formOf (n / 16777216))).c then n / 4096 % 16 else 0, if (usesOf (formOf (n / 16777216))).c then 0 else if (usesOf (formOf (n / 16777216))).signed then (n + 32768) % 65536 - 32768 else n % 65536⟩) := rfl
  have HC : Hid (decC n = if formOf (n / 16777216) = 0 then 7 else if checkC (decRaw n) = 0 ∧ encW (decRaw n) = n then 0 else 4) := rfl
  generalize formOf (n / 16777216) = f at hf0 hf7 HF HC HR
  go_enter Tryz.func16, Tryz.ntmps16
  go_wp2_with fail
  refine HF.out.mono ?_
  rintro e w1 ⟨rfl, hb1⟩
  have hb01 : Below w.heap.size w w1 := hw1.trans (hb1.mono (by simp; omega))
  have hR1 : Blk w1 w.heap.size 27 #[.int .i64 0, .int .i64 0, .int .i64 0, .int .i64 0, .int .i64 0] := ((Blk.new w _ _).alloc _).below hb1 (by simp; omega)
  have hI1 : Blk w1 (w.heap.size + 1) 27 #[.int .i64 (n / 16777216), .int .i64 (n / 1048576 % 16), .int .i64 (n / 65536 % 16), .int .i64 0, .int .i64 0] := by
    have := (Blk.new (w.alloc (.cells #[.int .i64 0, .int .i64 0, .int .i64 0, .int .i64 0, .int .i64 0] 27)) 27 #[.int .i64 (n / 16777216), .int .i64 (n / 1048576 % 16), .int .i64 (n / 65536 % 16), .int .i64 0, .int .i64 0]).below hb1 (by simp)
    simpa using this
  have hz1 : w.heap.size + 1 < w1.heap.size := by have := hb1.size; simp at this; omega
  have E1 := E.below hb01
  by_cases hz : f = 0
  · have H7 : Hid (decC n = 7) := Lib.hid (HC.out.trans (if_pos hz))
    subst hz
    have r0 : w1.cell? ⟨w.heap.size, 0, none⟩ = some (.int .i64 0) := hR1.cell 0
    have r1 : w1.cell? ⟨w.heap.size, 1, none⟩ = some (.int .i64 0) := hR1.cell 1
    have r2 : w1.cell? ⟨w.heap.size, 2, none⟩ = some (.int .i64 0) := hR1.cell 2
    have r3 : w1.cell? ⟨w.heap.size, 3, none⟩ = some (.int .i64 0) := hR1.cell 3
    have r4 : w1.cell? ⟨w.heap.size, 4, none⟩ = some (.int .i64 0) := hR1.cell 4
    have g0 : w1.frozen? ⟨w.heap.size, 0, none⟩ = false := hR1.frozen 0
    have g1 : w1.frozen? ⟨w.heap.size, 1, none⟩ = false := hR1.frozen 1
    have g2 : w1.frozen? ⟨w.heap.size, 2, none⟩ = false := hR1.frozen 2
    have g3 : w1.frozen? ⟨w.heap.size, 3, none⟩ = false := hR1.frozen 3
    have g4 : w1.frozen? ⟨w.heap.size, 4, none⟩ = false := hR1.frozen 4
    have hk := E1.eKind
    have hlt := World.block_lt_of_cell? w _ E.eKind
    have hne : ¬ w.heap.size = 0 := by simp only at hlt; omega
    clear hlt
    clear HF HR HC hf0 hf7 E E1 hb1 hw1 hR1 hI1 e15 e16 e17 e18 w16
    go_wp2_with fail
    go_region
    all_goals go_wp2
    all_goals refine bodyPost_ret (v := .tuple #[.agg #[.int .i64 0, .int .i64 0, .int .i64 0, .int .i64 0, .int .i64 0], ev (er 7)]) (by simp [results, Tryz.results16, go_sem, r0, r1, r2, r3, r4]) rfl ⟨?_, ?_⟩
    · have hd : decC n ≠ 0 := by rw [H7.out]; omega
      rw [dec_bad n hd, H7.out, errV_pos er 7 (by decide)]
    · exact (((((hb01.setCell (Nat.le_refl _) _).setCell (Nat.le_refl _) _).setCell (Nat.le_refl _) _).setCell (Nat.le_refl _) _).setCell (Nat.le_refl _) _).drew
  · have HC2 : Hid (decC n = if checkC (decRaw n) = 0 ∧ encW (decRaw n) = n then 0 else 4) := Lib.hid (HC.out.trans (if_neg hz))
    have hz' : (f == 0) = false := by simpa using hz
    have HG := Lib.hid (form_any f w1 hf0 hf7)
    clear HF HC hf0 hf7 hw1 hz hb1 E1
    go_wp2_with fail
    generalize usesOf f = u at HG HR
    obtain ⟨ua, ub, uc, ui, us⟩ := u
    refine HG.out.mono ?_
    rintro e w2 ⟨rfl, hb2⟩
    have hb02 : Below w.heap.size w w2 := hb01.trans (hb2.mono hb01.size)
    have hR2 := hR1.below hb2 hR1.lt
    have hI2 := hI1.below hb2 hI1.lt
    have hz2 : w.heap.size + 1 < w2.heap.size := Nat.lt_of_lt_of_le hz1 hb2.size
    clear HG hR1 hI1 hb2 hz' hb01 hz1
    have i0 : w2.cell? ⟨w.heap.size + 1, 0, none⟩ = some (.int .i64 (n / 16777216)) := hI2.cell 0
    have i1 : w2.cell? ⟨w.heap.size + 1, 1, none⟩ = some (.int .i64 (n / 1048576 % 16)) := hI2.cell 1
    have i2 : w2.cell? ⟨w.heap.size + 1, 2, none⟩ = some (.int .i64 (n / 65536 % 16)) := hI2.cell 2
    have i3 : w2.cell? ⟨w.heap.size + 1, 3, none⟩ = some (.int .i64 0) := hI2.cell 3
    have i4 : w2.cell? ⟨w.heap.size + 1, 4, none⟩ = some (.int .i64 0) := hI2.cell 4
    have j3 : w2.frozen? ⟨w.heap.size + 1, 3, none⟩ = false := hI2.frozen 3
    have j4 : w2.frozen? ⟨w.heap.size + 1, 4, none⟩ = false := hI2.frozen 4
    have tail : ∀ (cc ii : Int), decRaw n = ⟨n / 16777216, n / 1048576 % 16, n / 65536 % 16, cc, ii⟩ →
        ∃ (r : Int) (k : Nat), Hid (k ≠ 0 → decC n = 4) ∧ Hid (k = 0 → r ≠ n → decC n = 4) ∧ Hid (k = 0 → r = n → decC n = 0 ∧ decI n = ⟨n / 16777216, n / 1048576 % 16, n / 65536 % 16, cc, ii⟩) ∧
          Hid (∀ W : World, Env er W → Calls Tryz.prog 17 #[.agg #[.int .i64 (n / 16777216), .int .i64 (n / 1048576 % 16), .int .i64 (n / 65536 % 16), .int .i64 cc, .int .i64 ii]] W fun e w' => e = .returned (.tuple #[.int .u32 r, errV er k]) ∧ Below W.heap.size W w') := by
      intro cc ii hraw
      refine ⟨encR ⟨n / 16777216, n / 1048576 % 16, n / 65536 % 16, cc, ii⟩, checkC ⟨n / 16777216, n / 1048576 % 16, n / 65536 % 16, cc, ii⟩, ?_, ?_, ?_, fun W hE => Encode_any ⟨n / 16777216, n / 1048576 % 16, n / 65536 % 16, cc, ii⟩ er W hE⟩
      · intro hk
        rw [HC2.out, hraw, if_neg (by intro h; exact hk h.1)]
      · intro hk hr
        have he : encR ⟨n / 16777216, n / 1048576 % 16, n / 65536 % 16, cc, ii⟩ = encW ⟨n / 16777216, n / 1048576 % 16, n / 65536 % 16, cc, ii⟩ := if_pos hk
        rw [HC2.out, hraw, if_neg (by intro h; exact hr (he.trans h.2))]
      · intro hk hr
        have he : encR ⟨n / 16777216, n / 1048576 % 16, n / 65536 % 16, cc, ii⟩ = encW ⟨n / 16777216, n / 1048576 % 16, n / 65536 % 16, cc, ii⟩ := if_pos hk
        have hd : decC n = 0 := by rw [HC2.out, hraw, if_pos ⟨hk, he ▸ hr⟩]
        exact ⟨hd, by rw [dec_good n hd, hraw]⟩
    have htail := Lib.hid tail
    clear tail HC2
    cases uc with
    | true =>
      obtain ⟨r, k, HK, HN, HY, HEnc⟩ := htail.out (n / 4096 % 16) (0) (by rw [HR.out]; rfl)
      clear htail HR
      have hRx : Blk ((w2.setCell ⟨w.heap.size + 1, 3, none⟩ (.int .i64 (n / 4096 % 16))).alloc (.cells #[.bool ua, .bool ub, .bool true, .bool ui, .bool us] 83)) w.heap.size 27 #[.int .i64 0, .int .i64 0, .int .i64 0, .int .i64 0, .int .i64 0] := (hR2.far (p := ⟨w.heap.size + 1, 3, none⟩) (by simp) _).alloc _
      have hIx : Blk ((w2.setCell ⟨w.heap.size + 1, 3, none⟩ (.int .i64 (n / 4096 % 16))).alloc (.cells #[.bool ua, .bool ub, .bool true, .bool ui, .bool us] 83)) (w.heap.size + 1) 27 #[.int .i64 (n / 16777216), .int .i64 (n / 1048576 % 16), .int .i64 (n / 65536 % 16), .int .i64 (n / 4096 % 16), .int .i64 (0)] := (hI2.store 3 _).alloc _
      have hbx : Below w.heap.size w ((w2.setCell ⟨w.heap.size + 1, 3, none⟩ (.int .i64 (n / 4096 % 16))).alloc (.cells #[.bool ua, .bool ub, .bool true, .bool ui, .bool us] 83)) := (hb02.setCell (by simp) _).alloc (by simp [World.setCell]; omega) _
      clear hR2 hI2 hb02
      go_wp2_with fail
      generalize ((w2.setCell ⟨w.heap.size + 1, 3, none⟩ (.int .i64 (n / 4096 % 16))).alloc (.cells #[.bool ua, .bool ub, .bool true, .bool ui, .bool us] 83)) = wx at hRx hIx hbx ⊢
      have HE4 := Lib.hid (HEnc.out wx (E.below hbx))
      refine HE4.out.mono ?_
      rintro e w4 ⟨rfl, hb4⟩
      have hb04 := hbx.trans (hb4.mono hbx.size)
      have hR4 := hRx.below hb4 hRx.lt
      have hI4 := hIx.below hb4 hIx.lt
      have hrg := (E.below hb04).eRange
      have hlt := World.block_lt_of_cell? w _ E.eRange
      have hne : ¬ w.heap.size = 1 := by simp only at hlt; omega
      clear hlt E HEnc HE4 hRx hIx hb4 i0 i1 i2 i3 i4 j3 j4
      have r0 : w4.cell? ⟨w.heap.size, 0, none⟩ = some (.int .i64 0) := hR4.cell 0
      have r1 : w4.cell? ⟨w.heap.size, 1, none⟩ = some (.int .i64 0) := hR4.cell 1
      have r2 : w4.cell? ⟨w.heap.size, 2, none⟩ = some (.int .i64 0) := hR4.cell 2
      have r3 : w4.cell? ⟨w.heap.size, 3, none⟩ = some (.int .i64 0) := hR4.cell 3
      have r4 : w4.cell? ⟨w.heap.size, 4, none⟩ = some (.int .i64 0) := hR4.cell 4
      have g0 : w4.frozen? ⟨w.heap.size, 0, none⟩ = false := hR4.frozen 0
      have g1 : w4.frozen? ⟨w.heap.size, 1, none⟩ = false := hR4.frozen 1
      have g2 : w4.frozen? ⟨w.heap.size, 2, none⟩ = false := hR4.frozen 2
      have g3 : w4.frozen? ⟨w.heap.size, 3, none⟩ = false := hR4.frozen 3
      have g4 : w4.frozen? ⟨w.heap.size, 4, none⟩ = false := hR4.frozen 4
      have i0 : w4.cell? ⟨w.heap.size + 1, 0, none⟩ = some (.int .i64 (n / 16777216)) := hI4.cell 0
      have i1 : w4.cell? ⟨w.heap.size + 1, 1, none⟩ = some (.int .i64 (n / 1048576 % 16)) := hI4.cell 1
      have i2 : w4.cell? ⟨w.heap.size + 1, 2, none⟩ = some (.int .i64 (n / 65536 % 16)) := hI4.cell 2
      have i3 : w4.cell? ⟨w.heap.size + 1, 3, none⟩ = some (.int .i64 (n / 4096 % 16)) := hI4.cell 3
      have i4 : w4.cell? ⟨w.heap.size + 1, 4, none⟩ = some (.int .i64 (0)) := hI4.cell 4
      clear hR4 hI4 hbx
      by_cases hk : k = 0
      · rw [hk, errV_zero]
        by_cases hrn : r = n
        · have hq : (r != n) = false := by simp [hrn]
          obtain ⟨hd, hi⟩ := HY.out hk hrn
          have HD := Lib.hid hd
          have HI := Lib.hid hi
          clear hd hi hrn hk HY HN HK
          go_wp2
          refine bodyPost_ret (v := .tuple #[.agg #[.int .i64 (n / 16777216), .int .i64 (n / 1048576 % 16), .int .i64 (n / 65536 % 16), .int .i64 (n / 4096 % 16), .int .i64 (0)], .nilIface]) (by simp [results, Tryz.results16, go_sem, r0, r1, r2, r3, r4]) rfl ⟨?_, ?_⟩
          · rw [HI.out, HD.out, errV_zero]
          · exact ((((hb04.setCell (Nat.le_refl _) _).setCell (Nat.le_refl _) _).setCell (Nat.le_refl _) _).setCell (Nat.le_refl _) _).setCell (Nat.le_refl _) _
        · have hq : (r != n) = true := by simp [hrn]
          have HD := Lib.hid (HN.out hk hrn)
          clear hrn hk HY HN HK
          go_wp2_with fail
          go_region
          all_goals go_wp2
          all_goals refine bodyPost_ret (v := .tuple #[.agg #[.int .i64 0, .int .i64 0, .int .i64 0, .int .i64 0, .int .i64 0], ev (er 4)]) (by simp [results, Tryz.results16, go_sem, r0, r1, r2, r3, r4]) rfl ⟨?_, ?_⟩
          · have hd := HD.out
            rw [dec_bad n (by rw [hd]; omega), hd, errV_pos er 4 (by decide)]
          · exact (((((hb04.setCell (Nat.le_refl _) _).setCell (Nat.le_refl _) _).setCell (Nat.le_refl _) _).setCell (Nat.le_refl _) _).setCell (Nat.le_refl _) _).drew
      · have hp := errV_pos er k hk
        rw [hp]
        have HP := Lib.hid hp
        have HD := Lib.hid (HK.out hk)
        clear hp hk HY HN HK
        go_wp2_with fail
        go_region
        all_goals go_wp2
        all_goals refine bodyPost_ret (v := .tuple #[.agg #[.int .i64 0, .int .i64 0, .int .i64 0, .int .i64 0, .int .i64 0], ev (er 4)]) (by simp [results, Tryz.results16, go_sem, r0, r1, r2, r3, r4]) rfl ⟨?_, ?_⟩
        · have hd := HD.out
          rw [dec_bad n (by rw [hd]; omega), hd, errV_pos er 4 (by decide)]
        · exact (((((hb04.setCell (Nat.le_refl _) _).setCell (Nat.le_refl _) _).setCell (Nat.le_refl _) _).setCell (Nat.le_refl _) _).setCell (Nat.le_refl _) _).drew
    | false =>
      cases us with
      | true =>
        obtain ⟨r, k, HK, HN, HY, HEnc⟩ := htail.out (0) ((n + 32768) % 65536 - 32768) (by rw [HR.out]; rfl)
        clear htail HR
        have hRx : Blk ((w2.setCell ⟨w.heap.size + 1, 4, none⟩ (.int .i64 ((n + 32768) % 65536 - 32768))).alloc (.cells #[.bool ua, .bool ub, .bool false, .bool ui, .bool true] 83)) w.heap.size 27 #[.int .i64 0, .int .i64 0, .int .i64 0, .int .i64 0, .int .i64 0] := (hR2.far (p := ⟨w.heap.size + 1, 4, none⟩) (by simp) _).alloc _
        have hIx : Blk ((w2.setCell ⟨w.heap.size + 1, 4, none⟩ (.int .i64 ((n + 32768) % 65536 - 32768))).alloc (.cells #[.bool ua, .bool ub, .bool false, .bool ui, .bool true] 83)) (w.heap.size + 1) 27 #[.int .i64 (n / 16777216), .int .i64 (n / 1048576 % 16), .int .i64 (n / 65536 % 16), .int .i64 (0), .int .i64 ((n + 32768) % 65536 - 32768)] := (hI2.store 4 _).alloc _
        have hbx : Below w.heap.size w ((w2.setCell ⟨w.heap.size + 1, 4, none⟩ (.int .i64 ((n + 32768) % 65536 - 32768))).alloc (.cells #[.bool ua, .bool ub, .bool false, .bool ui, .bool true] 83)) := (hb02.setCell (by simp) _).alloc (by simp [World.setCell]; omega) _
        clear hR2 hI2 hb02
        go_wp2_with fail
        generalize ((w2.setCell ⟨w.heap.size + 1, 4, none⟩ (.int .i64 ((n + 32768) % 65536 - 32768))).alloc (.cells #[.bool ua, .bool ub, .bool false, .bool ui, .bool true] 83)) = wx at hRx hIx hbx ⊢
        have HE4 := Lib.hid (HEnc.out wx (E.below hbx))
        refine HE4.out.mono ?_
        rintro e w4 ⟨rfl, hb4⟩
        have hb04 := hbx.trans (hb4.mono hbx.size)
        have hR4 := hRx.below hb4 hRx.lt
        have hI4 := hIx.below hb4 hIx.lt
        have hrg := (E.below hb04).eRange
        have hlt := World.block_lt_of_cell? w _ E.eRange
        have hne : ¬ w.heap.size = 1 := by simp only at hlt; omega
        clear hlt E HEnc HE4 hRx hIx hb4 i0 i1 i2 i3 i4 j3 j4
        have r0 : w4.cell? ⟨w.heap.size, 0, none⟩ = some (.int .i64 0) := hR4.cell 0
        have r1 : w4.cell? ⟨w.heap.size, 1, none⟩ = some (.int .i64 0) := hR4.cell 1
        have r2 : w4.cell? ⟨w.heap.size, 2, none⟩ = some (.int .i64 0) := hR4.cell 2
        have r3 : w4.cell? ⟨w.heap.size, 3, none⟩ = some (.int .i64 0) := hR4.cell 3
        have r4 : w4.cell? ⟨w.heap.size, 4, none⟩ = some (.int .i64 0) := hR4.cell 4
        have g0 : w4.frozen? ⟨w.heap.size, 0, none⟩ = false := hR4.frozen 0
        have g1 : w4.frozen? ⟨w.heap.size, 1, none⟩ = false := hR4.frozen 1
        have g2 : w4.frozen? ⟨w.heap.size, 2, none⟩ = false := hR4.frozen 2
        have g3 : w4.frozen? ⟨w.heap.size, 3, none⟩ = false := hR4.frozen 3
        have g4 : w4.frozen? ⟨w.heap.size, 4, none⟩ = false := hR4.frozen 4
        have i0 : w4.cell? ⟨w.heap.size + 1, 0, none⟩ = some (.int .i64 (n / 16777216)) := hI4.cell 0
        have i1 : w4.cell? ⟨w.heap.size + 1, 1, none⟩ = some (.int .i64 (n / 1048576 % 16)) := hI4.cell 1
        have i2 : w4.cell? ⟨w.heap.size + 1, 2, none⟩ = some (.int .i64 (n / 65536 % 16)) := hI4.cell 2
        have i3 : w4.cell? ⟨w.heap.size + 1, 3, none⟩ = some (.int .i64 (0)) := hI4.cell 3
        have i4 : w4.cell? ⟨w.heap.size + 1, 4, none⟩ = some (.int .i64 ((n + 32768) % 65536 - 32768)) := hI4.cell 4
        clear hR4 hI4 hbx
        by_cases hk : k = 0
        · rw [hk, errV_zero]
          by_cases hrn : r = n
          · have hq : (r != n) = false := by simp [hrn]
            obtain ⟨hd, hi⟩ := HY.out hk hrn
            have HD := Lib.hid hd
            have HI := Lib.hid hi
            clear hd hi hrn hk HY HN HK
            go_wp2
            refine bodyPost_ret (v := .tuple #[.agg #[.int .i64 (n / 16777216), .int .i64 (n / 1048576 % 16), .int .i64 (n / 65536 % 16), .int .i64 (0), .int .i64 ((n + 32768) % 65536 - 32768)], .nilIface]) (by simp [results, Tryz.results16, go_sem, r0, r1, r2, r3, r4]) rfl ⟨?_, ?_⟩
            · rw [HI.out, HD.out, errV_zero]
            · exact ((((hb04.setCell (Nat.le_refl _) _).setCell (Nat.le_refl _) _).setCell (Nat.le_refl _) _).setCell (Nat.le_refl _) _).setCell (Nat.le_refl _) _
          · have hq : (r != n) = true := by simp [hrn]
            have HD := Lib.hid (HN.out hk hrn)
            clear hrn hk HY HN HK
            go_wp2_with fail
            go_region
            all_goals go_wp2
            all_goals refine bodyPost_ret (v := .tuple #[.agg #[.int .i64 0, .int .i64 0, .int .i64 0, .int .i64 0, .int .i64 0], ev (er 4)]) (by simp [results, Tryz.results16, go_sem, r0, r1, r2, r3, r4]) rfl ⟨?_, ?_⟩
            · have hd := HD.out
              rw [dec_bad n (by rw [hd]; omega), hd, errV_pos er 4 (by decide)]
            · exact (((((hb04.setCell (Nat.le_refl _) _).setCell (Nat.le_refl _) _).setCell (Nat.le_refl _) _).setCell (Nat.le_refl _) _).setCell (Nat.le_refl _) _).drew
        · have hp := errV_pos er k hk
          rw [hp]
          have HP := Lib.hid hp
          have HD := Lib.hid (HK.out hk)
          clear hp hk HY HN HK
          go_wp2_with fail
          go_region
          all_goals go_wp2
          all_goals refine bodyPost_ret (v := .tuple #[.agg #[.int .i64 0, .int .i64 0, .int .i64 0, .int .i64 0, .int .i64 0], ev (er 4)]) (by simp [results, Tryz.results16, go_sem, r0, r1, r2, r3, r4]) rfl ⟨?_, ?_⟩
          · have hd := HD.out
            rw [dec_bad n (by rw [hd]; omega), hd, errV_pos er 4 (by decide)]
          · exact (((((hb04.setCell (Nat.le_refl _) _).setCell (Nat.le_refl _) _).setCell (Nat.le_refl _) _).setCell (Nat.le_refl _) _).setCell (Nat.le_refl _) _).drew
      | false =>
        obtain ⟨r, k, HK, HN, HY, HEnc⟩ := htail.out (0) (n % 65536) (by rw [HR.out]; rfl)
        clear htail HR
        have hRx : Blk ((w2.setCell ⟨w.heap.size + 1, 4, none⟩ (.int .i64 (n % 65536))).alloc (.cells #[.bool ua, .bool ub, .bool false, .bool ui, .bool false] 83)) w.heap.size 27 #[.int .i64 0, .int .i64 0, .int .i64 0, .int .i64 0, .int .i64 0] := (hR2.far (p := ⟨w.heap.size + 1, 4, none⟩) (by simp) _).alloc _
        have hIx : Blk ((w2.setCell ⟨w.heap.size + 1, 4, none⟩ (.int .i64 (n % 65536))).alloc (.cells #[.bool ua, .bool ub, .bool false, .bool ui, .bool false] 83)) (w.heap.size + 1) 27 #[.int .i64 (n / 16777216), .int .i64 (n / 1048576 % 16), .int .i64 (n / 65536 % 16), .int .i64 (0), .int .i64 (n % 65536)] := (hI2.store 4 _).alloc _
        have hbx : Below w.heap.size w ((w2.setCell ⟨w.heap.size + 1, 4, none⟩ (.int .i64 (n % 65536))).alloc (.cells #[.bool ua, .bool ub, .bool false, .bool ui, .bool false] 83)) := (hb02.setCell (by simp) _).alloc (by simp [World.setCell]; omega) _
        clear hR2 hI2 hb02
        go_wp2_with fail
        generalize ((w2.setCell ⟨w.heap.size + 1, 4, none⟩ (.int .i64 (n % 65536))).alloc (.cells #[.bool ua, .bool ub, .bool false, .bool ui, .bool false] 83)) = wx at hRx hIx hbx ⊢
        have HE4 := Lib.hid (HEnc.out wx (E.below hbx))
        refine HE4.out.mono ?_
        rintro e w4 ⟨rfl, hb4⟩
        have hb04 := hbx.trans (hb4.mono hbx.size)
        have hR4 := hRx.below hb4 hRx.lt
        have hI4 := hIx.below hb4 hIx.lt
        have hrg := (E.below hb04).eRange
        have hlt := World.block_lt_of_cell? w _ E.eRange
        have hne : ¬ w.heap.size = 1 := by simp only at hlt; omega
        clear hlt E HEnc HE4 hRx hIx hb4 i0 i1 i2 i3 i4 j3 j4
        have r0 : w4.cell? ⟨w.heap.size, 0, none⟩ = some (.int .i64 0) := hR4.cell 0
        have r1 : w4.cell? ⟨w.heap.size, 1, none⟩ = some (.int .i64 0) := hR4.cell 1
        have r2 : w4.cell? ⟨w.heap.size, 2, none⟩ = some (.int .i64 0) := hR4.cell 2
        have r3 : w4.cell? ⟨w.heap.size, 3, none⟩ = some (.int .i64 0) := hR4.cell 3
        have r4 : w4.cell? ⟨w.heap.size, 4, none⟩ = some (.int .i64 0) := hR4.cell 4
        have g0 : w4.frozen? ⟨w.heap.size, 0, none⟩ = false := hR4.frozen 0
        have g1 : w4.frozen? ⟨w.heap.size, 1, none⟩ = false := hR4.frozen 1
        have g2 : w4.frozen? ⟨w.heap.size, 2, none⟩ = false := hR4.frozen 2
        have g3 : w4.frozen? ⟨w.heap.size, 3, none⟩ = false := hR4.frozen 3
        have g4 : w4.frozen? ⟨w.heap.size, 4, none⟩ = false := hR4.frozen 4
        have i0 : w4.cell? ⟨w.heap.size + 1, 0, none⟩ = some (.int .i64 (n / 16777216)) := hI4.cell 0
        have i1 : w4.cell? ⟨w.heap.size + 1, 1, none⟩ = some (.int .i64 (n / 1048576 % 16)) := hI4.cell 1
        have i2 : w4.cell? ⟨w.heap.size + 1, 2, none⟩ = some (.int .i64 (n / 65536 % 16)) := hI4.cell 2
        have i3 : w4.cell? ⟨w.heap.size + 1, 3, none⟩ = some (.int .i64 (0)) := hI4.cell 3
        have i4 : w4.cell? ⟨w.heap.size + 1, 4, none⟩ = some (.int .i64 (n % 65536)) := hI4.cell 4
        clear hR4 hI4 hbx
        by_cases hk : k = 0
        · rw [hk, errV_zero]
          by_cases hrn : r = n
          · have hq : (r != n) = false := by simp [hrn]
            obtain ⟨hd, hi⟩ := HY.out hk hrn
            have HD := Lib.hid hd
            have HI := Lib.hid hi
            clear hd hi hrn hk HY HN HK
            go_wp2
            refine bodyPost_ret (v := .tuple #[.agg #[.int .i64 (n / 16777216), .int .i64 (n / 1048576 % 16), .int .i64 (n / 65536 % 16), .int .i64 (0), .int .i64 (n % 65536)], .nilIface]) (by simp [results, Tryz.results16, go_sem, r0, r1, r2, r3, r4]) rfl ⟨?_, ?_⟩
            · rw [HI.out, HD.out, errV_zero]
            · exact ((((hb04.setCell (Nat.le_refl _) _).setCell (Nat.le_refl _) _).setCell (Nat.le_refl _) _).setCell (Nat.le_refl _) _).setCell (Nat.le_refl _) _
          · have hq : (r != n) = true := by simp [hrn]
            have HD := Lib.hid (HN.out hk hrn)
            clear hrn hk HY HN HK
            go_wp2_with fail
            go_region
            all_goals go_wp2
            all_goals refine bodyPost_ret (v := .tuple #[.agg #[.int .i64 0, .int .i64 0, .int .i64 0, .int .i64 0, .int .i64 0], ev (er 4)]) (by simp [results, Tryz.results16, go_sem, r0, r1, r2, r3, r4]) rfl ⟨?_, ?_⟩
            · have hd := HD.out
              rw [dec_bad n (by rw [hd]; omega), hd, errV_pos er 4 (by decide)]
            · exact (((((hb04.setCell (Nat.le_refl _) _).setCell (Nat.le_refl _) _).setCell (Nat.le_refl _) _).setCell (Nat.le_refl _) _).setCell (Nat.le_refl _) _).drew
        · have hp := errV_pos er k hk
          rw [hp]
          have HP := Lib.hid hp
          have HD := Lib.hid (HK.out hk)
          clear hp hk HY HN HK
          go_wp2_with fail
          go_region
          all_goals go_wp2
          all_goals refine bodyPost_ret (v := .tuple #[.agg #[.int .i64 0, .int .i64 0, .int .i64 0, .int .i64 0, .int .i64 0], ev (er 4)]) (by simp [results, Tryz.results16, go_sem, r0, r1, r2, r3, r4]) rfl ⟨?_, ?_⟩
          · have hd := HD.out
            rw [dec_bad n (by rw [hd]; omega), hd, errV_pos er 4 (by decide)]
          · exact (((((hb04.setCell (Nat.le_refl _) _).setCell (Nat.le_refl _) _).setCell (Nat.le_refl _) _).setCell (Nat.le_refl _) _).setCell (Nat.le_refl _) _).drew
end Go.Proofs.YtecmeegnjjhilaaGreatDoor
