/- ferryref04.Check: the document's check is the program's. -/
import Derived.Test.YtecmeegnjjhilaaGreatDoorRefU
namespace Go.Proofs.YtecmeegnjjhilaaGreatDoor
open Go.RowKit

theorem fits_within (n : Int) (u : Bool) : fitsB n u = withinB u n 0 15 := by
  cases u with
  | false => simp [fitsB, withinB]
  | true =>
    simp only [fitsB, withinB, if_true, Bool.true_and]
    by_cases h : n = 0
    · subst h; rfl
    · rw [show (n == 0) = false from by simpa using h, Bool.false_or]
theorem uses_all : ([1, 2, 3, 4, 5, 6, 7] : List Int).all (fun f => usesB f 65 == (usesOf f).a && usesB f 66 == (usesOf f).b && usesB f 67 == (usesOf f).c && usesB f 73 == ((usesOf f).imm && (usesOf f).signed) && usesB f 85 == ((usesOf f).imm && !(usesOf f).signed)) = true := by decide +kernel
theorem uses_parts (f : Int) (h1 : 1 ≤ f) (h7 : f ≤ 7) : usesB f 65 = (usesOf f).a ∧ usesB f 66 = (usesOf f).b ∧ usesB f 67 = (usesOf f).c ∧ usesB f 73 = ((usesOf f).imm && (usesOf f).signed) ∧ usesB f 85 = ((usesOf f).imm && !(usesOf f).signed) := by
  have := List.all_eq_true.1 uses_all f (by simp; omega)
  simp only [Bool.and_eq_true, beq_iff_eq] at this
  obtain ⟨⟨⟨⟨a, b⟩, c⟩, d⟩, e⟩ := this
  exact ⟨a, b, c, d, e⟩
/-- The Imm, as the document asks it. -/
def immB (sI sU : Bool) (n : Int) : Bool := if sI then withinB true n (-32768) 32767 else withinB sU n 0 65535
theorem imm_within (u : Uses) (n : Int) : (decide (u.lo ≤ n) && decide (n ≤ u.hi)) = immB (u.imm && u.signed) (u.imm && !u.signed) n := by
  obtain ⟨ua, ub, uc, ui, us⟩ := u
  cases ui <;> cases us
  all_goals simp only [Uses.lo, Uses.hi, immB, withinB, Bool.and_true, Bool.and_false, Bool.false_and, Bool.true_and, Bool.not_true, Bool.not_false, if_true, if_false, Bool.false_eq_true]
  all_goals
    by_cases h : n = 0
    · subst h; rfl
    · rw [show (n == 0) = false from by simpa using h]
      by_cases h1 : 0 ≤ n <;> by_cases h2 : n ≤ 0 <;> simp [h1, h2] <;> omega
theorem check_ref (i : Ins) (f : Int) (hf : formOf i.op = f) (h0 : f ≠ 0) : checkC i = if fitsB i.a (usesOf f).a && fitsB i.b (usesOf f).b && fitsB i.c (usesOf f).c && immB ((usesOf f).imm && (usesOf f).signed) ((usesOf f).imm && !(usesOf f).signed) i.imm then 0 else 4 := by
  unfold checkC
  simp only [hf, if_neg h0]
  rw [Bool.and_assoc (fitsB i.a (usesOf f).a && fitsB i.b (usesOf f).b && fitsB i.c (usesOf f).c), imm_within]

attribute [local irreducible] Calls in
set_option maxHeartbeats 600000 in
set_option maxRecDepth 100000 in
theorem RCheck_any (i : Ins) (w : World) : Calls Tryz.prog 19 #[i.val] w fun e w' => e = .returned (.int .i64 (checkC i)) ∧ Below w.heap.size w w' := by
  obtain ⟨op, a, b, c, imm⟩ := i
  have hbox : Below w.heap.size w (w.alloc (.cells #[.int .i64 op, .int .i64 a, .int .i64 b, .int .i64 c, .int .i64 imm] 27)) := (Below.refl _ _).alloc (Nat.le_refl _) _
  have hI := Blk.new w 27 #[.int .i64 op, .int .i64 a, .int .i64 b, .int .i64 c, .int .i64 imm]
  have HF := Lib.hid (RForm_any op (w.alloc (.cells #[.int .i64 op, .int .i64 a, .int .i64 b, .int .i64 c, .int .i64 imm] 27)))
  obtain ⟨hf0, hf7⟩ := form_range op
  by_cases h0 : formOf op = 0
  · have HC : Hid (checkC ⟨op, a, b, c, imm⟩ = 7) := Lib.hid (by unfold checkC; simp only [h0]; rfl)
    rw [h0] at HF
    clear h0 hf0 hf7
    unfold Ins.val
    go_enter Tryz.func19, Tryz.ntmps19
    go_wp2_with fail
    refine HF.out.mono ?_
    rintro e w' ⟨rfl, rfl⟩
    go_wp2
    go_ret
    exact ⟨by rw [HC.out]; rfl, hbox⟩
  · have HU : ∀ (k : Int) (W : World), Calls Tryz.prog 48 #[.int .i64 (formOf op), .int .u8 k] W fun e w' => e = .returned (.bool (usesB (formOf op) k)) ∧ w' = W := fun k W => (Uses_any (formOf op) k ⟨hf0, hf7⟩ W).mono fun _ _ h => ⟨h.1, h.2.symm⟩
    have HWt : ∀ (u : Bool) (n lo hi : Int) (W : World), Calls Tryz.prog 47 #[.bool u, .int .i64 n, .int .i64 lo, .int .i64 hi] W fun e w' => e = .returned (.bool (withinB u n lo hi)) ∧ w' = W := fun u n lo hi W => (within_any u n lo hi W).mono fun _ _ h => ⟨h.1, h.2.symm⟩
    obtain ⟨ha, hb, hc, hi, hu⟩ := uses_parts (formOf op) (by omega) hf7
    have hC := check_ref ⟨op, a, b, c, imm⟩ (formOf op) rfl h0
    rw [← hi, ← hu, ← ha, ← hb, ← hc, fits_within, fits_within, fits_within] at hC
    have HC := Lib.hid hC
    have hf : (formOf op == 0) = false := by simpa using h0
    have U65 := Lib.hid (HU 65)
    have U66 := Lib.hid (HU 66)
    have U67 := Lib.hid (HU 67)
    have U73 := Lib.hid (HU 73)
    have U85 := Lib.hid (HU 85)
    clear ha hb hc hi hu h0 hf0 hf7 hC HU
    unfold immB at HC
    simp only at HC
    unfold Ins.val
    generalize checkC ⟨op, a, b, c, imm⟩ = cc at HC ⊢
    generalize usesB (formOf op) 65 = ua at HC U65
    generalize usesB (formOf op) 66 = ub at HC U66
    generalize usesB (formOf op) 67 = uc at HC U67
    generalize usesB (formOf op) 73 = sI at HC U73
    generalize usesB (formOf op) 85 = sU at HC U85
    generalize formOf op = f at HF HC U65 U66 U67 U73 U85 hf
    simp only
    have Wa := Lib.hid (HWt ua a 0 15)
    have Wb := Lib.hid (HWt ub b 0 15)
    have Wc := Lib.hid (HWt uc c 0 15)
    have Wi := Lib.hid (HWt true imm (-32768) 32767)
    have Wu := Lib.hid (HWt sU imm 0 65535)
    clear HWt
    cases hA : withinB ua a 0 15 with
    | false =>
      rw [hA] at Wa
      have HV : Hid (cc = 4) := Lib.hid (by rw [HC.out]; simp [hA])
      clear HC hA
      go_enter Tryz.func19, Tryz.ntmps19
      go_wp2_with fail
      refine HF.out.mono ?_
      rintro e w' ⟨rfl, rfl⟩
      go_wp2_with fail
      go_quiet (first | (go_at_call 48; first | exact Calls.quiet_of_same (U65.out _) | exact Calls.quiet_of_same (U66.out _) | exact Calls.quiet_of_same (U67.out _) | exact Calls.quiet_of_same (U73.out _) | exact Calls.quiet_of_same (U85.out _)) | (go_at_call 47; first | exact Calls.quiet_of_same (Wa.out _) | exact Calls.quiet_of_same (Wb.out _) | exact Calls.quiet_of_same (Wc.out _) | exact Calls.quiet_of_same (Wi.out _) | exact Calls.quiet_of_same (Wu.out _)))
      go_wp2_with fail
      go_ret
      exact ⟨by rw [HV.out]; rfl, below_drewN hbox _⟩
    | true =>
      rw [hA] at Wa
      cases hB : withinB ub b 0 15 with
      | false =>
        rw [hB] at Wb
        have HV : Hid (cc = 4) := Lib.hid (by rw [HC.out]; simp [hA, hB])
        clear HC hA hB
        go_enter Tryz.func19, Tryz.ntmps19
        go_wp2_with fail
        refine HF.out.mono ?_
        rintro e w' ⟨rfl, rfl⟩
        go_wp2_with fail
        go_quiet (first | (go_at_call 48; first | exact Calls.quiet_of_same (U65.out _) | exact Calls.quiet_of_same (U66.out _) | exact Calls.quiet_of_same (U67.out _) | exact Calls.quiet_of_same (U73.out _) | exact Calls.quiet_of_same (U85.out _)) | (go_at_call 47; first | exact Calls.quiet_of_same (Wa.out _) | exact Calls.quiet_of_same (Wb.out _) | exact Calls.quiet_of_same (Wc.out _) | exact Calls.quiet_of_same (Wi.out _) | exact Calls.quiet_of_same (Wu.out _)))
        go_wp2_with fail
        go_ret
        exact ⟨by rw [HV.out]; rfl, below_drewN hbox _⟩
      | true =>
        rw [hB] at Wb
        cases hD : withinB uc c 0 15 with
        | false =>
          rw [hD] at Wc
          have HV : Hid (cc = 4) := Lib.hid (by rw [HC.out]; simp [hA, hB, hD])
          clear HC hA hB hD
          go_enter Tryz.func19, Tryz.ntmps19
          go_wp2_with fail
          refine HF.out.mono ?_
          rintro e w' ⟨rfl, rfl⟩
          go_wp2_with fail
          go_quiet (first | (go_at_call 48; first | exact Calls.quiet_of_same (U65.out _) | exact Calls.quiet_of_same (U66.out _) | exact Calls.quiet_of_same (U67.out _) | exact Calls.quiet_of_same (U73.out _) | exact Calls.quiet_of_same (U85.out _)) | (go_at_call 47; first | exact Calls.quiet_of_same (Wa.out _) | exact Calls.quiet_of_same (Wb.out _) | exact Calls.quiet_of_same (Wc.out _) | exact Calls.quiet_of_same (Wi.out _) | exact Calls.quiet_of_same (Wu.out _)))
          go_wp2_with fail
          go_ret
          exact ⟨by rw [HV.out]; rfl, below_drewN hbox _⟩
        | true =>
          rw [hD] at Wc
          cases hS : sI with
          | false =>
            rw [hS] at U73
            cases hW : withinB sU imm 0 65535 with
            | false =>
              rw [hW] at Wu
              have HV : Hid (cc = 4) := Lib.hid (by rw [HC.out]; simp [hA, hB, hD, hS, hW])
              clear HC hA hB hD hS hW
              go_enter Tryz.func19, Tryz.ntmps19
              go_wp2_with fail
              refine HF.out.mono ?_
              rintro e w' ⟨rfl, rfl⟩
              go_wp2_with fail
              go_quiet (first | (go_at_call 48; first | exact Calls.quiet_of_same (U65.out _) | exact Calls.quiet_of_same (U66.out _) | exact Calls.quiet_of_same (U67.out _) | exact Calls.quiet_of_same (U73.out _) | exact Calls.quiet_of_same (U85.out _)) | (go_at_call 47; first | exact Calls.quiet_of_same (Wa.out _) | exact Calls.quiet_of_same (Wb.out _) | exact Calls.quiet_of_same (Wc.out _) | exact Calls.quiet_of_same (Wi.out _) | exact Calls.quiet_of_same (Wu.out _)))
              go_wp2_with fail
              have d4 : ((w.alloc (.cells #[.int .i64 op, .int .i64 a, .int .i64 b, .int .i64 c, .int .i64 imm] 27)).drewN nq).cell? ⟨w.heap.size, 4, none⟩ = some (.int .i64 imm) := hI.cell 4
              have hbd : Below w.heap.size w ((w.alloc (.cells #[.int .i64 op, .int .i64 a, .int .i64 b, .int .i64 c, .int .i64 imm] 27)).drewN nq) := below_drewN hbox nq
              generalize (w.alloc (.cells #[.int .i64 op, .int .i64 a, .int .i64 b, .int .i64 c, .int .i64 imm] 27)).drewN nq = wy at d4 hbd ⊢
              go_quiet (first | (go_at_call 48; first | exact Calls.quiet_of_same (U65.out _) | exact Calls.quiet_of_same (U66.out _) | exact Calls.quiet_of_same (U67.out _) | exact Calls.quiet_of_same (U73.out _) | exact Calls.quiet_of_same (U85.out _)) | (go_at_call 47; first | exact Calls.quiet_of_same (Wa.out _) | exact Calls.quiet_of_same (Wb.out _) | exact Calls.quiet_of_same (Wc.out _) | exact Calls.quiet_of_same (Wi.out _) | exact Calls.quiet_of_same (Wu.out _)))
              go_wp2_with fail
              go_ret
              exact ⟨by rw [HV.out]; rfl, below_drewN hbd _⟩
            | true =>
              rw [hW] at Wu
              have HV : Hid (cc = 0) := Lib.hid (by rw [HC.out]; simp [hA, hB, hD, hS, hW])
              clear HC hA hB hD hS hW
              go_enter Tryz.func19, Tryz.ntmps19
              go_wp2_with fail
              refine HF.out.mono ?_
              rintro e w' ⟨rfl, rfl⟩
              go_wp2_with fail
              go_quiet (first | (go_at_call 48; first | exact Calls.quiet_of_same (U65.out _) | exact Calls.quiet_of_same (U66.out _) | exact Calls.quiet_of_same (U67.out _) | exact Calls.quiet_of_same (U73.out _) | exact Calls.quiet_of_same (U85.out _)) | (go_at_call 47; first | exact Calls.quiet_of_same (Wa.out _) | exact Calls.quiet_of_same (Wb.out _) | exact Calls.quiet_of_same (Wc.out _) | exact Calls.quiet_of_same (Wi.out _) | exact Calls.quiet_of_same (Wu.out _)))
              go_wp2_with fail
              have d4 : ((w.alloc (.cells #[.int .i64 op, .int .i64 a, .int .i64 b, .int .i64 c, .int .i64 imm] 27)).drewN nq).cell? ⟨w.heap.size, 4, none⟩ = some (.int .i64 imm) := hI.cell 4
              have hbd : Below w.heap.size w ((w.alloc (.cells #[.int .i64 op, .int .i64 a, .int .i64 b, .int .i64 c, .int .i64 imm] 27)).drewN nq) := below_drewN hbox nq
              generalize (w.alloc (.cells #[.int .i64 op, .int .i64 a, .int .i64 b, .int .i64 c, .int .i64 imm] 27)).drewN nq = wy at d4 hbd ⊢
              go_quiet (first | (go_at_call 48; first | exact Calls.quiet_of_same (U65.out _) | exact Calls.quiet_of_same (U66.out _) | exact Calls.quiet_of_same (U67.out _) | exact Calls.quiet_of_same (U73.out _) | exact Calls.quiet_of_same (U85.out _)) | (go_at_call 47; first | exact Calls.quiet_of_same (Wa.out _) | exact Calls.quiet_of_same (Wb.out _) | exact Calls.quiet_of_same (Wc.out _) | exact Calls.quiet_of_same (Wi.out _) | exact Calls.quiet_of_same (Wu.out _)))
              go_wp2_with fail
              go_ret
              exact ⟨by rw [HV.out]; rfl, below_drewN hbd _⟩
          | true =>
            rw [hS] at U73
            cases hW : withinB true imm (-32768) 32767 with
            | false =>
              rw [hW] at Wi
              have HV : Hid (cc = 4) := Lib.hid (by rw [HC.out]; simp [hA, hB, hD, hS, hW])
              clear HC hA hB hD hS hW
              go_enter Tryz.func19, Tryz.ntmps19
              go_wp2_with fail
              refine HF.out.mono ?_
              rintro e w' ⟨rfl, rfl⟩
              go_wp2_with fail
              go_quiet (first | (go_at_call 48; first | exact Calls.quiet_of_same (U65.out _) | exact Calls.quiet_of_same (U66.out _) | exact Calls.quiet_of_same (U67.out _) | exact Calls.quiet_of_same (U73.out _) | exact Calls.quiet_of_same (U85.out _)) | (go_at_call 47; first | exact Calls.quiet_of_same (Wa.out _) | exact Calls.quiet_of_same (Wb.out _) | exact Calls.quiet_of_same (Wc.out _) | exact Calls.quiet_of_same (Wi.out _) | exact Calls.quiet_of_same (Wu.out _)))
              go_wp2_with fail
              have d4 : ((w.alloc (.cells #[.int .i64 op, .int .i64 a, .int .i64 b, .int .i64 c, .int .i64 imm] 27)).drewN nq).cell? ⟨w.heap.size, 4, none⟩ = some (.int .i64 imm) := hI.cell 4
              have hbd : Below w.heap.size w ((w.alloc (.cells #[.int .i64 op, .int .i64 a, .int .i64 b, .int .i64 c, .int .i64 imm] 27)).drewN nq) := below_drewN hbox nq
              generalize (w.alloc (.cells #[.int .i64 op, .int .i64 a, .int .i64 b, .int .i64 c, .int .i64 imm] 27)).drewN nq = wy at d4 hbd ⊢
              go_quiet (first | (go_at_call 48; first | exact Calls.quiet_of_same (U65.out _) | exact Calls.quiet_of_same (U66.out _) | exact Calls.quiet_of_same (U67.out _) | exact Calls.quiet_of_same (U73.out _) | exact Calls.quiet_of_same (U85.out _)) | (go_at_call 47; first | exact Calls.quiet_of_same (Wa.out _) | exact Calls.quiet_of_same (Wb.out _) | exact Calls.quiet_of_same (Wc.out _) | exact Calls.quiet_of_same (Wi.out _) | exact Calls.quiet_of_same (Wu.out _)))
              go_wp2_with fail
              go_ret
              exact ⟨by rw [HV.out]; rfl, below_drewN hbd _⟩
            | true =>
              rw [hW] at Wi
              have HV : Hid (cc = 0) := Lib.hid (by rw [HC.out]; simp [hA, hB, hD, hS, hW])
              clear HC hA hB hD hS hW
              go_enter Tryz.func19, Tryz.ntmps19
              go_wp2_with fail
              refine HF.out.mono ?_
              rintro e w' ⟨rfl, rfl⟩
              go_wp2_with fail
              go_quiet (first | (go_at_call 48; first | exact Calls.quiet_of_same (U65.out _) | exact Calls.quiet_of_same (U66.out _) | exact Calls.quiet_of_same (U67.out _) | exact Calls.quiet_of_same (U73.out _) | exact Calls.quiet_of_same (U85.out _)) | (go_at_call 47; first | exact Calls.quiet_of_same (Wa.out _) | exact Calls.quiet_of_same (Wb.out _) | exact Calls.quiet_of_same (Wc.out _) | exact Calls.quiet_of_same (Wi.out _) | exact Calls.quiet_of_same (Wu.out _)))
              go_wp2_with fail
              have d4 : ((w.alloc (.cells #[.int .i64 op, .int .i64 a, .int .i64 b, .int .i64 c, .int .i64 imm] 27)).drewN nq).cell? ⟨w.heap.size, 4, none⟩ = some (.int .i64 imm) := hI.cell 4
              have hbd : Below w.heap.size w ((w.alloc (.cells #[.int .i64 op, .int .i64 a, .int .i64 b, .int .i64 c, .int .i64 imm] 27)).drewN nq) := below_drewN hbox nq
              generalize (w.alloc (.cells #[.int .i64 op, .int .i64 a, .int .i64 b, .int .i64 c, .int .i64 imm] 27)).drewN nq = wy at d4 hbd ⊢
              go_quiet (first | (go_at_call 48; first | exact Calls.quiet_of_same (U65.out _) | exact Calls.quiet_of_same (U66.out _) | exact Calls.quiet_of_same (U67.out _) | exact Calls.quiet_of_same (U73.out _) | exact Calls.quiet_of_same (U85.out _)) | (go_at_call 47; first | exact Calls.quiet_of_same (Wa.out _) | exact Calls.quiet_of_same (Wb.out _) | exact Calls.quiet_of_same (Wc.out _) | exact Calls.quiet_of_same (Wi.out _) | exact Calls.quiet_of_same (Wu.out _)))
              go_wp2_with fail
              go_ret
              exact ⟨by rw [HV.out]; rfl, below_drewN hbd _⟩
end Go.Proofs.YtecmeegnjjhilaaGreatDoor
