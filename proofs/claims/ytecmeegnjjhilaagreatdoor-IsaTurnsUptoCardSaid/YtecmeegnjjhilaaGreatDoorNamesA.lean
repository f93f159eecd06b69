/- ferrylaw04.IsaNames: the walk. -/
import Derived.Test.YtecmeegnjjhilaaGreatDoorFixed
import Derived.Test.YtecmeegnjjhilaaGreatDoorRefN
namespace Go.Proofs.YtecmeegnjjhilaaGreatDoor
open Go.RowKit

def cntN (j : Nat) : Nat := ((List.range j).filter fun (m : Nat) => formOf ((m : Int) - 1) != 0).length
theorem cnt_succ (j : Nat) : cntN (j + 1) = cntN j + (if formOf ((j : Int) - 1) = 0 then 0 else 1) := by
  unfold cntN
  rw [List.range_succ, List.filter_append, List.length_append]
  by_cases h : formOf ((j : Int) - 1) = 0
  · simp [h]
  · simp [h]
theorem cnt_le (j : Nat) : cntN j ≤ j := by
  unfold cntN
  exact Nat.le_trans (List.length_filter_le _ _) (by simp)
theorem cnt_all : cntN 302 = 35 := by decide +kernel
theorem back_small : (List.range 65).all (fun (n : Nat) => formOf (n : Int) == 0 || (wordRow (opRow (n : Int)).word).op == (n : Int)) = true := by decide +kernel
theorem name_back (op : Int) (h : formOf op ≠ 0) : (wordRow (opRow op).word).op = op := by
  obtain ⟨h1, h2⟩ := op_range op h
  obtain ⟨m, rfl⟩ := Int.eq_ofNat_of_zero_le (show 0 ≤ op by omega)
  have := List.all_eq_true.1 back_small m (by simp; omega)
  simp only [Bool.or_eq_true, beq_iff_eq] at this
  rcases this with h3 | h3
  · exact absurd h3 h
  · exact h3
theorem num_empty : (wordRow []).op = 0 := by decide +kernel
theorem num_dash : (wordRow [45]).op = 0 := by decide +kernel
theorem num_add : (wordRow [65, 68, 68]).op = 0 := by decide +kernel

set_option maxHeartbeats 2000000 in
set_option maxRecDepth 100000 in
theorem names_walk (er : Nat → Addr) (w : World) (E : Env er w) :
    Calls Tryz.prog 3 #[] w fun e w' => e = .returned (.bool true) ∧ Below w.heap.size w w' := by
  have HE := Lib.hid E
  have HF := Lib.hid (fixed_any er w E)
  clear E
  go_enter Tryz.func3, Tryz.ntmps3
  go_wp2_with fail
  refine HF.out.mono ?_
  rintro e w1 ⟨rfl, hb1⟩
  clear HF
  go_wp2_with fail
  go_loopw [1, 2] (fun s1 s2 wr => ∃ (j n : Nat), j ≤ 302 ∧ n ≤ j ∧ s2 = .int .i64 ((j : Int) - 1) ∧ s1 = .int .i64 n ∧ Hid (n = cntN j) ∧ Below w.heap.size w wr) (fun _ s2 _ => 302 - (intOf s2 + 1).toNat)
  case atStart => exact ⟨0, 0, by omega, by omega, rfl, rfl, Lib.hid rfl, hb1⟩
  case round =>
    obtain ⟨j, n, hj, hnj, rfl, rfl, HN, hb⟩ := hrel
    clear hb1
    by_cases hlt : j < 302
    · have hz := hb.size
      have HFm := Lib.hid (Form_f er ((j : Int) - 1) wr (HE.out.below hb))
      have HRF := Lib.hid (fun W => RForm_any ((j : Int) - 1) W)
      have HRN := Lib.hid (fun W => RName_any ((j : Int) - 1) W)
      have HNm := Lib.hid (fun W (h : Env er W) => Name_any ((j : Int) - 1) W h.space)
      have HFm2 := Lib.hid (fun W (h : Env er W) => Form_f er ((j : Int) - 1) W h)
      have HC := Lib.hid (cnt_succ j)
      have HB := Lib.hid (name_back ((j : Int) - 1))
      have HNu := Lib.hid (fun W (h : Env er W) => Number_any ⟨(opRow ((j : Int) - 1)).word.toArray⟩ W h.space)
      simp only at HNu
      generalize (opRow ((j : Int) - 1)).word = X at HRN HNm HB HNu
      generalize formOf ((j : Int) - 1) = f at HFm HRF HFm2 HC HB
      generalize wordRow X = R at HB HNu
      go_wp2_with fail
      refine HFm.out.mono ?_
      rintro e w2 ⟨rfl, hb2⟩
      have hb02 : Below w.heap.size w w2 := hb.trans (hb2.mono hz)
      go_wp2_with fail
      refine (HRF.out w2).mono ?_
      rintro e w2 ⟨rfl, rfl⟩
      go_wp2_with fail
      refine (HNm.out w2 (HE.out.below hb02)).mono ?_
      rintro e w3 ⟨rfl, hb3⟩
      have hb03 : Below w.heap.size w w3 := hb02.trans (hb3.mono hb02.size)
      go_wp2_with fail
      refine (HRN.out w3).mono ?_
      rintro e w3 ⟨rfl, rfl⟩
      go_wp2_with fail
      refine (HFm2.out w3 (HE.out.below hb03)).mono ?_
      rintro e w4 ⟨rfl, hb4⟩
      have hb04 : Below w.heap.size w w4 := hb03.trans (hb4.mono hb03.size)
      clear HFm HRF HRN HFm2 hb2 hb3 hb4 hb02 hb03 hb hz
      by_cases hf : f = 0
      · subst hf
        have HC2 : Hid (n = cntN (j + 1)) := Lib.hid (by rw [HC.out, if_pos rfl]; exact HN.out)
        clear HC HB HN
        go_wp2_with fail
        go_roundw
        case rel => exact ⟨j + 1, n, by omega, by omega, by go_num, rfl, HC2, hb04⟩
        case measure => simp [intOf]; omega
      · have hf' : (f != 0) = true := by simpa using hf
        have HC2 : Hid (n + 1 = cntN (j + 1)) := Lib.hid (by rw [HC.out, if_neg hf, HN.out])
        have HR : Hid (R.op = (j : Int) - 1) := Lib.hid (HB.out hf)
        clear HC HB HN hf
        go_wp2_with fail
        refine (HNm.out w4 (HE.out.below hb04)).mono ?_
        rintro e w5 ⟨rfl, hb5⟩
        have hb05 : Below w.heap.size w w5 := hb04.trans (hb5.mono hb04.size)
        go_wp2_with fail
        refine (HNu.out w5 (HE.out.below hb05)).mono ?_
        rintro e w6 ⟨rfl, hb6⟩
        have hb06 : Below w.heap.size w w6 := hb05.trans (hb6.mono hb05.size)
        rw [HR.out]
        clear HNm HNu hb5 hb6 hb04 hb05 hf'
        go_wp2_with fail
        go_roundw
        case rel => exact ⟨j + 1, n + 1, by omega, by omega, by go_num, by go_num, HC2, hb06⟩
        case measure => simp [intOf]; omega
    · have hjn : j = 302 := by omega
      subst hjn
      obtain rfl : n = 35 := HN.out.trans cnt_all
      have H1 := Number_any ⟨#[]⟩ wr (HE.out.below hb).space
      rw [show (⟨#[]⟩ : ByteArray).data.toList = [] from rfl, num_empty] at H1
      have HN1 := Lib.hid H1
      clear H1 HN
      go_wp2_with fail
      refine HN1.out.mono ?_
      rintro e w2 ⟨rfl, hb2⟩
      have hb02 : Below w.heap.size w w2 := hb.trans (hb2.mono hb.size)
      have H2 := Number_any ⟨#[45]⟩ w2 (HE.out.below hb02).space
      rw [show (⟨#[45]⟩ : ByteArray).data.toList = [45] from rfl, num_dash] at H2
      have HN2 := Lib.hid H2
      clear H2 HN1 hb2
      go_wp2_with fail
      refine HN2.out.mono ?_
      rintro e w3 ⟨rfl, hb3⟩
      have hb03 : Below w.heap.size w w3 := hb02.trans (hb3.mono hb02.size)
      have H3 := Number_any ⟨#[65, 68, 68]⟩ w3 (HE.out.below hb03).space
      rw [show (⟨#[65, 68, 68]⟩ : ByteArray).data.toList = [65, 68, 68] from rfl, num_add] at H3
      have HN3 := Lib.hid H3
      clear H3 HN2 hb3
      go_wp2_with fail
      refine HN3.out.mono ?_
      rintro e w4 ⟨rfl, hb4⟩
      have hb04 : Below w.heap.size w w4 := hb03.trans (hb4.mono hb03.size)
      clear HN3 hb4
      go_wp2
      go_ret
      exact ⟨rfl, hb04⟩
end Go.Proofs.YtecmeegnjjhilaaGreatDoor
