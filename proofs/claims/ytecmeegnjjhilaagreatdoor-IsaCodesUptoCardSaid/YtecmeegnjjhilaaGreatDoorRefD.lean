/- The document's Number and Encode. -/
import Derived.Test.YtecmeegnjjhilaaGreatDoorRefN
import Derived.Test.YtecmeegnjjhilaaGreatDoorRefC
import Derived.Test.YtecmeegnjjhilaaGreatDoorNamesA
import Derived.Test.YtecmeegnjjhilaaGreatDoorFields
namespace Go.Proofs.YtecmeegnjjhilaaGreatDoor
open Go.RowKit

theorem table_words : table.all (fun r => formOf r.op != 0 && (opRow r.op).word == r.word) = true := by decide +kernel
theorem word_op (X : List UInt8) (h : (wordRow X).op ≠ 0) : formOf (wordRow X).op ≠ 0 ∧ (opRow (wordRow X).op).word = X := by
  unfold wordRow look at h ⊢
  cases hf : table.find? (fun r => r.word == X) with
  | none =>
    rw [hf] at h
    exact absurd rfl h
  | some r =>
    have hm := List.all_eq_true.1 table_words r (List.mem_of_find?_eq_some hf)
    have hx := List.find?_some hf
    simp only [Option.getD_some, Bool.and_eq_true, bne_iff_ne, ne_eq, beq_iff_eq] at hm hx ⊢
    exact ⟨hm.1, hm.2.trans hx⟩
/-- What the document's search leaves: no number below j has the word. -/
def NoneYet (X : List UInt8) (j : Nat) : Prop := ∀ m : Nat, 1 ≤ m → m < j → ¬(formOf (m : Int) ≠ 0 ∧ (opRow (m : Int)).word = X)
theorem none_yet_all (X : List UInt8) (h : NoneYet X 65) : (wordRow X).op = 0 := by
  by_cases h0 : (wordRow X).op = 0
  · exact h0
  · obtain ⟨h1, h2⟩ := word_op X h0
    obtain ⟨o1, o2⟩ := op_range _ h1
    obtain ⟨m, hm⟩ := Int.eq_ofNat_of_zero_le (show 0 ≤ (wordRow X).op by omega)
    rw [hm] at h1 h2
    exact absurd ⟨h1, h2⟩ (h m (by omega) (by omega))

set_option maxHeartbeats 1000000 in
theorem RNumber_any (s : ByteArray) (w : World) : Calls Tryz.prog 23 #[.string s] w fun e w' => e = .returned (.int .i64 (wordRow s.data.toList).op) ∧ w = w' := by
  go_enter Tryz.func23, Tryz.ntmps23
  go_wp2_with fail
  go_loopw [3] (fun s3 wr => wr = w ∧ ∃ j : Nat, 1 ≤ j ∧ j ≤ 65 ∧ s3 = .int .i64 j ∧ Hid (NoneYet s.data.toList j)) (fun s3 _ => 65 - (intOf s3).toNat)
  case atStart => exact ⟨rfl, 1, by omega, by omega, rfl, Lib.hid (fun m h1 h2 => by omega)⟩
  case round =>
    obtain ⟨rfl, j, hj1, hj, rfl, HN⟩ := hrel
    by_cases hlt : j ≤ 64
    · have HF := Lib.hid (RForm_any (j : Int) wr)
      have HNm := Lib.hid (RName_any (j : Int) wr)
      have HB := Lib.hid (name_back (j : Int))
      have HSn : Hid ((¬(formOf (j : Int) ≠ 0 ∧ (opRow (j : Int)).word = s.data.toList)) → NoneYet s.data.toList (j + 1)) := Lib.hid (fun hn m h1 h2 => by
        rcases Nat.lt_or_ge m j with h | h
        · exact HN.out m h1 h
        · obtain rfl : m = j := by omega
          exact hn)
      clear HN
      generalize hX : (opRow (j : Int)).word = X at HNm HB HSn
      generalize formOf (j : Int) = f at HF HB HSn
      clear hX
      go_wp2_with fail
      refine HF.out.mono ?_
      rintro e w1 ⟨rfl, rfl⟩
      by_cases hf : f = 0
      · subst hf
        have HNx := Lib.hid (HSn.out (fun h => h.1 rfl))
        clear HF HNm HB HSn
        go_wp2_with fail
        go_roundw
        case rel => exact ⟨trivial, j + 1, by omega, by omega, by go_num, HNx⟩
        case measure => simp [intOf]; omega
      · have hf' : (f != 0) = true := by simpa using hf
        have HSn2 : Hid (X ≠ s.data.toList → NoneYet s.data.toList (j + 1)) := Lib.hid (fun h => HSn.out (fun h2 => h h2.2))
        have HB2 := Lib.hid (HB.out hf)
        clear HF HB HSn hf
        go_wp2_with fail
        refine HNm.out.mono ?_
        rintro e w1 ⟨rfl, rfl⟩
        clear HNm
        by_cases hx : X = s.data.toList
        · have hq : (X == s.toList) = true := by rw [ByteArray.toList_eq, beq_iff_eq]; exact hx
          rw [hx] at HB2
          clear hx HSn2
          go_wp2_with fail
          go_ret
          rw [HB2.out]
          exact ⟨rfl, rfl⟩
        · have hq : (X == s.toList) = false := by rw [ByteArray.toList_eq, beq_eq_false_iff_ne]; exact hx
          have HNx := Lib.hid (HSn2.out hx)
          clear hx HSn2 HB2
          go_wp2_with fail
          go_roundw
          case rel => exact ⟨trivial, j + 1, by omega, by omega, by go_num, HNx⟩
          case measure => simp [intOf]; omega
    · obtain rfl : j = 65 := by omega
      have H0 := Lib.hid (none_yet_all _ HN.out)
      clear HN
      go_wp2_with fail
      go_ret
      rw [H0.out]
      exact ⟨rfl, rfl⟩

set_option maxHeartbeats 1000000 in
theorem REncode_any (i : Ins) (w : World) : Calls Tryz.prog 25 #[i.val] w fun e w' => e = .returned (.tuple #[.int .u32 (encR i), .int .i64 (checkC i)]) ∧ Below w.heap.size w w' := by
  have hbox : Below w.heap.size w (w.alloc (.cells #[.int .i64 i.op, .int .i64 i.a, .int .i64 i.b, .int .i64 i.c, .int .i64 i.imm] 27)) := (Below.refl _ _).alloc (Nat.le_refl _) _
  have HC := Lib.hid (RCheck_any i (w.alloc (.cells #[.int .i64 i.op, .int .i64 i.a, .int .i64 i.b, .int .i64 i.c, .int .i64 i.imm] 27)))
  have hk := check_ok i
  have hE : Hid (encR i = if checkC i = 0 then i.op * 16777216 + i.a * 1048576 + i.b * 65536 + i.c * 4096 + i.imm % 65536 else 0) := Lib.hid rfl
  obtain ⟨op, a, b, c, imm⟩ := i
  unfold Ins.val
  unfold Ins.val at HC
  simp only at hk hbox hE
  generalize encR ⟨op, a, b, c, imm⟩ = R at hE ⊢
  generalize checkC ⟨op, a, b, c, imm⟩ = cd at hE hk HC ⊢
  go_enter Tryz.func25, Tryz.ntmps25
  go_wp2_with fail
  refine HC.out.mono ?_
  rintro e w1 ⟨rfl, hb1⟩
  have hb01 : Below w.heap.size w w1 := hbox.trans (hb1.mono (by simp))
  have hI1 : Blk w1 w.heap.size 27 #[.int .i64 op, .int .i64 a, .int .i64 b, .int .i64 c, .int .i64 imm] := (Blk.new w _ _).below hb1 (by simp)
  by_cases h0 : cd = 0
  · obtain ⟨o0, o1, a0, a1, b0, b1, c0, c1, i0, i1⟩ := hk h0
    have d0 : w1.cell? ⟨w.heap.size, 0, none⟩ = some (.int .i64 op) := hI1.cell 0
    have d1 : w1.cell? ⟨w.heap.size, 1, none⟩ = some (.int .i64 a) := hI1.cell 1
    have d2 : w1.cell? ⟨w.heap.size, 2, none⟩ = some (.int .i64 b) := hI1.cell 2
    have d3 : w1.cell? ⟨w.heap.size, 3, none⟩ = some (.int .i64 c) := hI1.cell 3
    have d4 : w1.cell? ⟨w.heap.size, 4, none⟩ = some (.int .i64 imm) := hI1.cell 4
    have HR : Hid (R = op * 16777216 + a * 1048576 + b * 65536 + c * 4096 + imm % 65536) := Lib.hid (hE.out.trans (if_pos h0))
    subst h0
    clear hk hI1 HC hb1 hbox hE
    by_cases hi : imm < 0
    · have HQ : Hid (R = op * 16777216 + a * 1048576 + b * 65536 + c * 4096 + 65536 + imm) := Lib.hid (by rw [HR.out]; omega)
      clear HR
      go_wp2_with fail
      go_ret2
      refine ⟨?_, hb01⟩
      rw [HQ.out]
      rfl
    · have HQ : Hid (R = op * 16777216 + a * 1048576 + b * 65536 + c * 4096 + imm) := Lib.hid (by rw [HR.out]; omega)
      clear HR
      go_wp2_with fail
      go_ret2
      refine ⟨?_, hb01⟩
      rw [HQ.out]
      rfl
  · have h0' : ((cd : Int) != 0) = true := by simp [h0]
    have HR : Hid (R = 0) := Lib.hid (hE.out.trans (if_neg h0))
    clear h0 hk hI1 HC hb1 hbox hE
    go_wp2_with fail
    go_ret2
    refine ⟨?_, hb01⟩
    rw [HR.out]
    rfl
end Go.Proofs.YtecmeegnjjhilaaGreatDoor
