/- ferrylaw04.IsaNames: the walk. -/
import Derived.Test.YtecmeegnjjhilaaGreatDoorFixed
import Derived.Test.YtecmeegnjjhilaaGreatDoorRefCM
import Derived.Test.YtecmeegnjjhilaaGreatDoorFields
namespace Go.Proofs.YtecmeegnjjhilaaGreatDoor
open Go.RowKit
theorem back_small : (List.range 65).all (fun (n : Nat) => formOf (n : Int) == 0 || (wordRow (opRow (n : Int)).word).op == (n : Int)) = true := by decide +kernel
theorem name_back (op : Int) (h : formOf op ≠ 0) : (wordRow (opRow op).word).op = op := by
  obtain ⟨h1, h2⟩ := op_range op h
  obtain ⟨m, rfl⟩ := Int.eq_ofNat_of_zero_le (show 0 ≤ op by omega)
  have := List.all_eq_true.1 back_small m (by simp; omega)
  simp only [Bool.or_eq_true, beq_iff_eq] at this
  rcases this with h3 | h3
  · exact absurd h3 h
  · exact h3
end Go.Proofs.YtecmeegnjjhilaaGreatDoor

/- The document's Number and Encode. -/
namespace Go.Proofs.YtecmeegnjjhilaaGreatDoor
open Go.RowKit
theorem table_words : table.all (fun r => formOf r.op != 0 && (opRow r.op).word == r.word) = true := by decide +kernel
theorem word_op (X : List UInt8) (h : (wordRow X).op ≠ 0) : formOf (wordRow X).op ≠ 0 ∧ (opRow (wordRow X).op).word = X := by
  unfold wordRow look at h ⊢
  cases hf : table.find? (fun r => r.word == X) with
  | none =>
    rw [hf] at h
    exact absurd rfl h
  | some r =>
    have hm := List.all_eq_true.1 table_words r (List.mem_of_find?_eq_some hf)
    have hx := List.find?_some hf
    simp only [Option.getD_some, Bool.and_eq_true, bne_iff_ne, ne_eq, beq_iff_eq] at hm hx ⊢
    exact ⟨hm.1, hm.2.trans hx⟩
/-- What the document's search leaves: no number below j has the word. -/
def NoneYet (X : List UInt8) (j : Nat) : Prop := ∀ m : Nat, 1 ≤ m → m < j → ¬(formOf (m : Int) ≠ 0 ∧ (opRow (m : Int)).word = X)
theorem none_yet_all (X : List UInt8) (h : NoneYet X 65) : (wordRow X).op = 0 := by
  by_cases h0 : (wordRow X).op = 0
  · exact h0
  · obtain ⟨h1, h2⟩ := word_op X h0
    obtain ⟨o1, o2⟩ := op_range _ h1
    obtain ⟨m, hm⟩ := Int.eq_ofNat_of_zero_le (show 0 ≤ (wordRow X).op by omega)
    rw [hm] at h1 h2
    exact absurd ⟨h1, h2⟩ (h m (by omega) (by omega))

set_option maxHeartbeats 1000000 in
theorem RNumber_any (s : ByteArray) (w : World) : Calls Tryz.prog 23 #[.string s] w fun e w' => e = .returned (.int .i64 (wordRow s.data.toList).op) ∧ w = w' := by
  go_enter Tryz.func23, Tryz.ntmps23
  go_wp2_with fail
  go_loopw [3] (fun s3 wr => wr = w ∧ ∃ j : Nat, 1 ≤ j ∧ j ≤ 65 ∧ s3 = .int .i64 j ∧ Hid (NoneYet s.data.toList j)) (fun s3 _ => 65 - (intOf s3).toNat)
  case atStart => exact ⟨rfl, 1, by omega, by omega, rfl, Lib.hid (fun m h1 h2 => by omega)⟩
  case round =>
    obtain ⟨rfl, j, hj1, hj, rfl, HN⟩ := hrel
    by_cases hlt : j ≤ 64
    · have HF := Lib.hid (RForm_any (j : Int) wr)
      have HNm := Lib.hid (RName_any (j : Int) wr)
      have HB := Lib.hid (name_back (j : Int))
      have HSn : Hid ((¬(formOf (j : Int) ≠ 0 ∧ (opRow (j : Int)).word = s.data.toList)) → NoneYet s.data.toList (j + 1)) := Lib.hid (fun hn m h1 h2 => by
        rcases Nat.lt_or_ge m j with h | h
        · exact HN.out m h1 h
        · obtain rfl : m = j := by omega
          exact hn)
      clear HN
      generalize hX : (opRow (j : Int)).word = X at HNm HB HSn
      generalize formOf (j : Int) = f at HF HB HSn
      clear hX
      go_wp2_with fail
      refine HF.out.mono ?_
      rintro e w1 ⟨rfl, rfl⟩
      by_cases hf : f = 0
      · subst hf
        have HNx := Lib.hid (HSn.out (fun h => h.1 rfl))
        clear HF HNm HB HSn
        go_wp2_with fail
        go_roundw
        case rel => exact ⟨trivial, j + 1, by omega, by omega, by go_num, HNx⟩
        case measure => simp [intOf]; omega
      · have hf' : (f != 0) = true := by simpa using hf
        have HSn2 : Hid (X ≠ s.data.toList → NoneYet s.data.toList (j + 1)) := Lib.hid (fun h => HSn.out (fun h2 => h h2.2))
        have HB2 := Lib.hid (HB.out hf)
        clear HF HB HSn hf
        go_wp2_with fail
        refine HNm.out.mono ?_
        rintro e w1 ⟨rfl, rfl⟩
        clear HNm
        by_cases hx : X = s.data.toList
        · have hq : (X == s.toList) = true := by rw [ByteArray.toList_eq, beq_iff_eq]; exact hx
          rw [hx] at HB2
          clear hx HSn2
          go_wp2_with fail
          go_ret
          rw [HB2.out]
          exact ⟨rfl, rfl⟩
        · have hq : (X == s.toList) = false := by rw [ByteArray.toList_eq, beq_eq_false_iff_ne]; exact hx
          have HNx := Lib.hid (HSn2.out hx)
          clear hx HSn2 HB2
          go_wp2_with fail
          go_roundw
          case rel => exact ⟨trivial, j + 1, by omega, by omega, by go_num, HNx⟩
          case measure => simp [intOf]; omega
    · obtain rfl : j = 65 := by omega
      have H0 := Lib.hid (none_yet_all _ HN.out)
      clear HN
      go_wp2_with fail
      go_ret
      rw [H0.out]
      exact ⟨rfl, rfl⟩

set_option maxHeartbeats 1000000 in
theorem REncode_any (i : Ins) (w : World) : Calls Tryz.prog 25 #[i.val] w fun e w' => e = .returned (.tuple #[.int .u32 (encR i), .int .i64 (checkC i)]) ∧ Below w.heap.size w w' := by
  have hbox : Below w.heap.size w (w.alloc (.cells #[.int .i64 i.op, .int .i64 i.a, .int .i64 i.b, .int .i64 i.c, .int .i64 i.imm] 27)) := (Below.refl _ _).alloc (Nat.le_refl _) _
  have HC := Lib.hid (RCheck_any i (w.alloc (.cells #[.int .i64 i.op, .int .i64 i.a, .int .i64 i.b, .int .i64 i.c, .int .i64 i.imm] 27)))
  have hk := check_ok i
  have hE : Hid (encR i = if checkC i = 0 then i.op * 16777216 + i.a * 1048576 + i.b * 65536 + i.c * 4096 + i.imm % 65536 else 0) := Lib.hid rfl
  obtain ⟨op, a, b, c, imm⟩ := i
  unfold Ins.val
  unfold Ins.val at HC
  simp only at hk hbox hE
  generalize encR ⟨op, a, b, c, imm⟩ = R at hE ⊢
  generalize checkC ⟨op, a, b, c, imm⟩ = cd at hE hk HC ⊢
  go_enter Tryz.func25, Tryz.ntmps25
  go_wp2_with fail
  refine HC.out.mono ?_
  rintro e w1 ⟨rfl, hb1⟩
  have hb01 : Below w.heap.size w w1 := hbox.trans (hb1.mono (by simp))
  have hI1 : Blk w1 w.heap.size 27 #[.int .i64 op, .int .i64 a, .int .i64 b, .int .i64 c, .int .i64 imm] := (Blk.new w _ _).below hb1 (by simp)
  by_cases h0 : cd = 0
  · obtain ⟨o0, o1, a0, a1, b0, b1, c0, c1, i0, i1⟩ := hk h0
    have d0 : w1.cell? ⟨w.heap.size, 0, none⟩ = some (.int .i64 op) := hI1.cell 0
    have d1 : w1.cell? ⟨w.heap.size, 1, none⟩ = some (.int .i64 a) := hI1.cell 1
    have d2 : w1.cell? ⟨w.heap.size, 2, none⟩ = some (.int .i64 b) := hI1.cell 2
    have d3 : w1.cell? ⟨w.heap.size, 3, none⟩ = some (.int .i64 c) := hI1.cell 3
    have d4 : w1.cell? ⟨w.heap.size, 4, none⟩ = some (.int .i64 imm) := hI1.cell 4
    have HR : Hid (R = op * 16777216 + a * 1048576 + b * 65536 + c * 4096 + imm % 65536) := Lib.hid (hE.out.trans (if_pos h0))
    subst h0
    clear hk hI1 HC hb1 hbox hE
    by_cases hi : imm < 0
    · have HQ : Hid (R = op * 16777216 + a * 1048576 + b * 65536 + c * 4096 + 65536 + imm) := Lib.hid (by rw [HR.out]; omega)
      clear HR
      go_wp2_with fail
      go_ret2
      refine ⟨?_, hb01⟩
      rw [HQ.out]
      rfl
    · have HQ : Hid (R = op * 16777216 + a * 1048576 + b * 65536 + c * 4096 + imm) := Lib.hid (by rw [HR.out]; omega)
      clear HR
      go_wp2_with fail
      go_ret2
      refine ⟨?_, hb01⟩
      rw [HQ.out]
      rfl
  · have h0' : ((cd : Int) != 0) = true := by simp [h0]
    have HR : Hid (R = 0) := Lib.hid (hE.out.trans (if_neg h0))
    clear h0 hk hI1 HC hb1 hbox hE
    go_wp2_with fail
    go_ret2
    refine ⟨?_, hb01⟩
    rw [HR.out]
    rfl
end Go.Proofs.YtecmeegnjjhilaaGreatDoor

/- The document's Decode. -/
namespace Go.Proofs.YtecmeegnjjhilaaGreatDoor
open Go.RowKit
set_option maxHeartbeats 2000000 in
set_option maxRecDepth 100000 in
theorem RDecode_any (n : Int) (h0 : 0 ≤ n) (h1 : n < 4294967296) (w : World) :
    Calls Tryz.prog 27 #[.int .u32 n] w fun e w' => e = .returned (.tuple #[(decI n).val, .int .i64 (decC n)]) ∧ Below w.heap.size w w' := by
  have q1 : Int.tdiv n 16777216 = n / 16777216 := Int.tdiv_eq_ediv_of_nonneg h0
  have q2 : Int.tdiv n 1048576 = n / 1048576 := Int.tdiv_eq_ediv_of_nonneg h0
  have q3 : Int.tdiv n 65536 = n / 65536 := Int.tdiv_eq_ediv_of_nonneg h0
  have q4 : Int.tmod (n / 1048576) 16 = n / 1048576 % 16 := Int.tmod_eq_emod_of_nonneg (by omega)
  have q5 : Int.tmod (n / 65536) 16 = n / 65536 % 16 := Int.tmod_eq_emod_of_nonneg (by omega)
  have q6 : Int.tmod n 65536 = n % 65536 := Int.tmod_eq_emod_of_nonneg h0
  have q7 : Int.tdiv (n % 65536) 4096 = n % 65536 / 4096 := Int.tdiv_eq_ediv_of_nonneg (by omega)
  have hb01 : Below w.heap.size w ((w.alloc (.cells #[.int .i64 0, .int .i64 0, .int .i64 0, .int .i64 0, .int .i64 0] 27)).alloc (.cells #[.int .i64 (n / 16777216), .int .i64 (n / 1048576 % 16), .int .i64 (n / 65536 % 16), .int .i64 0, .int .i64 0] 27)) := ((Below.refl _ _).alloc (Nat.le_refl _) _).alloc (by simp) _
  have hR1 : Blk ((w.alloc (.cells #[.int .i64 0, .int .i64 0, .int .i64 0, .int .i64 0, .int .i64 0] 27)).alloc (.cells #[.int .i64 (n / 16777216), .int .i64 (n / 1048576 % 16), .int .i64 (n / 65536 % 16), .int .i64 0, .int .i64 0] 27)) w.heap.size 27 #[.int .i64 0, .int .i64 0, .int .i64 0, .int .i64 0, .int .i64 0] := (Blk.new w _ _).alloc _
  have hI1 : Blk ((w.alloc (.cells #[.int .i64 0, .int .i64 0, .int .i64 0, .int .i64 0, .int .i64 0] 27)).alloc (.cells #[.int .i64 (n / 16777216), .int .i64 (n / 1048576 % 16), .int .i64 (n / 65536 % 16), .int .i64 0, .int .i64 0] 27)) (w.heap.size + 1) 27 #[.int .i64 (n / 16777216), .int .i64 (n / 1048576 % 16), .int .i64 (n / 65536 % 16), .int .i64 0, .int .i64 0] := by
    have := Blk.new (w.alloc (.cells #[.int .i64 0, .int .i64 0, .int .i64 0, .int .i64 0, .int .i64 0] 27)) 27 #[.int .i64 (n / 16777216), .int .i64 (n / 1048576 % 16), .int .i64 (n / 65536 % 16), .int .i64 0, .int .i64 0]
    simpa using this
  have HF := Lib.hid (fun W => RForm_any (n / 16777216) W)
  obtain ⟨hf0, hf7⟩ := form_range (n / 16777216)
  have HR : Hid (decRaw n = ⟨n / 16777216, n / 1048576 % 16, n / 65536 % 16, if (usesOf (formOf (n / 16777216))).c then n / 4096 % 16 else 0, if (usesOf (formOf (n / 16777216))).c then 0 else if (usesOf (formOf (n / 16777216))).signed then (n + 32768) % 65536 - 32768 else n % 65536⟩) := Lib.hid rfl
  have HC : Hid (decC n = if formOf (n / 16777216) = 0 then 7 else if checkC (decRaw n) = 0 ∧ encW (decRaw n) = n then 0 else 4) := Lib.hid rfl
  generalize formOf (n / 16777216) = f at hf0 hf7 HF HC HR
  go_enter Tryz.func27, Tryz.ntmps27
  go_wp2_with fail
  generalize ((w.alloc (.cells #[.int .i64 0, .int .i64 0, .int .i64 0, .int .i64 0, .int .i64 0] 27)).alloc (.cells #[.int .i64 (n / 16777216), .int .i64 (n / 1048576 % 16), .int .i64 (n / 65536 % 16), .int .i64 0, .int .i64 0] 27)) = w1 at hb01 hR1 hI1 ⊢
  refine (HF.out w1).mono ?_
  rintro e w1 ⟨rfl, rfl⟩
  have i0 : w1.cell? ⟨w.heap.size + 1, 0, none⟩ = some (.int .i64 (n / 16777216)) := hI1.cell 0
  have i1 : w1.cell? ⟨w.heap.size + 1, 1, none⟩ = some (.int .i64 (n / 1048576 % 16)) := hI1.cell 1
  have i2 : w1.cell? ⟨w.heap.size + 1, 2, none⟩ = some (.int .i64 (n / 65536 % 16)) := hI1.cell 2
  have i3 : w1.cell? ⟨w.heap.size + 1, 3, none⟩ = some (.int .i64 0) := hI1.cell 3
  have i4 : w1.cell? ⟨w.heap.size + 1, 4, none⟩ = some (.int .i64 0) := hI1.cell 4
  have j3 : w1.frozen? ⟨w.heap.size + 1, 3, none⟩ = false := hI1.frozen 3
  have j4 : w1.frozen? ⟨w.heap.size + 1, 4, none⟩ = false := hI1.frozen 4
  clear HF
  by_cases hz : f = 0
  · have HD : Hid (decC n = 7) := Lib.hid (HC.out.trans (if_pos hz))
    subst hz
    have r0 : w1.cell? ⟨w.heap.size, 0, none⟩ = some (.int .i64 0) := hR1.cell 0
    have r1 : w1.cell? ⟨w.heap.size, 1, none⟩ = some (.int .i64 0) := hR1.cell 1
    have r2 : w1.cell? ⟨w.heap.size, 2, none⟩ = some (.int .i64 0) := hR1.cell 2
    have r3 : w1.cell? ⟨w.heap.size, 3, none⟩ = some (.int .i64 0) := hR1.cell 3
    have r4 : w1.cell? ⟨w.heap.size, 4, none⟩ = some (.int .i64 0) := hR1.cell 4
    have g0 : w1.frozen? ⟨w.heap.size, 0, none⟩ = false := hR1.frozen 0
    have g1 : w1.frozen? ⟨w.heap.size, 1, none⟩ = false := hR1.frozen 1
    have g2 : w1.frozen? ⟨w.heap.size, 2, none⟩ = false := hR1.frozen 2
    have g3 : w1.frozen? ⟨w.heap.size, 3, none⟩ = false := hR1.frozen 3
    have g4 : w1.frozen? ⟨w.heap.size, 4, none⟩ = false := hR1.frozen 4
    clear HR HC hR1 hI1 i0 i1 i2 i3 i4 j3 j4
    go_wp2
    refine bodyPost_ret (v := .tuple #[.agg #[.int .i64 0, .int .i64 0, .int .i64 0, .int .i64 0, .int .i64 0], .int .i64 7]) (by simp [results, Tryz.results27, go_sem, r0, r1, r2, r3, r4]) rfl ⟨?_, ?_⟩
    · rw [dec_bad n (by rw [HD.out]; omega), HD.out]
      rfl
    · exact (((((hb01.setCell (Nat.le_refl _) _).setCell (Nat.le_refl _) _).setCell (Nat.le_refl _) _).setCell (Nat.le_refl _) _).setCell (Nat.le_refl _) _)
  · have hz' : (f == 0) = false := by simpa using hz
    have tail : ∀ (cc ii : Int), decRaw n = ⟨n / 16777216, n / 1048576 % 16, n / 65536 % 16, cc, ii⟩ →
        ∃ (r : Int) (k : Nat), Hid (k ≠ 0 → decC n = 4) ∧ Hid (k = 0 → r ≠ n → decC n = 4) ∧ Hid (k = 0 → r = n → decC n = 0 ∧ decI n = ⟨n / 16777216, n / 1048576 % 16, n / 65536 % 16, cc, ii⟩) ∧
          Hid (∀ W : World, Calls Tryz.prog 25 #[.agg #[.int .i64 (n / 16777216), .int .i64 (n / 1048576 % 16), .int .i64 (n / 65536 % 16), .int .i64 cc, .int .i64 ii]] W fun e w' => e = .returned (.tuple #[.int .u32 r, .int .i64 k]) ∧ Below W.heap.size W w') := by
      intro cc ii hraw
      have HC2 : decC n = if checkC (decRaw n) = 0 ∧ encW (decRaw n) = n then 0 else 4 := HC.out.trans (if_neg hz)
      refine ⟨encR ⟨n / 16777216, n / 1048576 % 16, n / 65536 % 16, cc, ii⟩, checkC ⟨n / 16777216, n / 1048576 % 16, n / 65536 % 16, cc, ii⟩, Lib.hid ?_, Lib.hid ?_, Lib.hid ?_, Lib.hid (fun W => REncode_any ⟨n / 16777216, n / 1048576 % 16, n / 65536 % 16, cc, ii⟩ W)⟩
      · intro hk
        rw [HC2, hraw, if_neg (by intro h; exact hk h.1)]
      · intro hk hr
        have he : encR ⟨n / 16777216, n / 1048576 % 16, n / 65536 % 16, cc, ii⟩ = encW ⟨n / 16777216, n / 1048576 % 16, n / 65536 % 16, cc, ii⟩ := if_pos hk
        rw [HC2, hraw, if_neg (by intro h; exact hr (he.trans h.2))]
      · intro hk hr
        have he : encR ⟨n / 16777216, n / 1048576 % 16, n / 65536 % 16, cc, ii⟩ = encW ⟨n / 16777216, n / 1048576 % 16, n / 65536 % 16, cc, ii⟩ := if_pos hk
        have hd : decC n = 0 := by rw [HC2, hraw, if_pos ⟨hk, he ▸ hr⟩]
        exact ⟨hd, by rw [dec_good n hd, hraw]⟩
    have htail := Lib.hid tail
    clear tail HC
    by_cases h1f : f = 1
    · subst h1f
      have hraw : decRaw n = ⟨n / 16777216, n / 1048576 % 16, n / 65536 % 16, n % 65536 / 4096, 0⟩ := by
        rw [HR.out]
        have : n / 4096 % 16 = n % 65536 / 4096 := by omega
        simp [usesOf, this]
      clear HR hz hz' hf0 hf7
      obtain ⟨r, cd, HK, HN, HY, HEnc⟩ := htail.out (n % 65536 / 4096) (0) hraw
      have hRx : Blk (w1.setCell ⟨w.heap.size + 1, 3, none⟩ (.int .i64 (n % 65536 / 4096))) w.heap.size 27 #[.int .i64 0, .int .i64 0, .int .i64 0, .int .i64 0, .int .i64 0] := hR1.far (p := ⟨w.heap.size + 1, 3, none⟩) (by simp) _
      have hIx : Blk (w1.setCell ⟨w.heap.size + 1, 3, none⟩ (.int .i64 (n % 65536 / 4096))) (w.heap.size + 1) 27 #[.int .i64 (n / 16777216), .int .i64 (n / 1048576 % 16), .int .i64 (n / 65536 % 16), .int .i64 (n % 65536 / 4096), .int .i64 (0)] := hI1.store 3 _
      have hbx : Below w.heap.size w (w1.setCell ⟨w.heap.size + 1, 3, none⟩ (.int .i64 (n % 65536 / 4096))) := hb01.setCell (by simp) _
      clear hR1 hI1 hb01 htail hraw
      go_wp2_with fail
      generalize (w1.setCell ⟨w.heap.size + 1, 3, none⟩ (.int .i64 (n % 65536 / 4096))) = wx at hRx hIx hbx ⊢
      refine (HEnc.out wx).mono ?_
      rintro e w4 ⟨rfl, hb4⟩
      have hb04 := hbx.trans (hb4.mono hbx.size)
      have hR4 := hRx.below hb4 hRx.lt
      have hI4 := hIx.below hb4 hIx.lt
      clear hRx hIx hbx hb4 i0 i1 i2 i3 i4 j3 j4 HEnc
      have r0 : w4.cell? ⟨w.heap.size, 0, none⟩ = some (.int .i64 0) := hR4.cell 0
      have g0 : w4.frozen? ⟨w.heap.size, 0, none⟩ = false := hR4.frozen 0
      have i0 : w4.cell? ⟨w.heap.size + 1, 0, none⟩ = some (.int .i64 (n / 16777216)) := hI4.cell 0
      have r1 : w4.cell? ⟨w.heap.size, 1, none⟩ = some (.int .i64 0) := hR4.cell 1
      have g1 : w4.frozen? ⟨w.heap.size, 1, none⟩ = false := hR4.frozen 1
      have i1 : w4.cell? ⟨w.heap.size + 1, 1, none⟩ = some (.int .i64 (n / 1048576 % 16)) := hI4.cell 1
      have r2 : w4.cell? ⟨w.heap.size, 2, none⟩ = some (.int .i64 0) := hR4.cell 2
      have g2 : w4.frozen? ⟨w.heap.size, 2, none⟩ = false := hR4.frozen 2
      have i2 : w4.cell? ⟨w.heap.size + 1, 2, none⟩ = some (.int .i64 (n / 65536 % 16)) := hI4.cell 2
      have r3 : w4.cell? ⟨w.heap.size, 3, none⟩ = some (.int .i64 0) := hR4.cell 3
      have g3 : w4.frozen? ⟨w.heap.size, 3, none⟩ = false := hR4.frozen 3
      have i3 : w4.cell? ⟨w.heap.size + 1, 3, none⟩ = some (.int .i64 (n % 65536 / 4096)) := hI4.cell 3
      have r4 : w4.cell? ⟨w.heap.size, 4, none⟩ = some (.int .i64 0) := hR4.cell 4
      have g4 : w4.frozen? ⟨w.heap.size, 4, none⟩ = false := hR4.frozen 4
      have i4 : w4.cell? ⟨w.heap.size + 1, 4, none⟩ = some (.int .i64 (0)) := hI4.cell 4
      clear hR4 hI4
      by_cases hk : cd = 0
      · subst hk
        by_cases hrn : r = n
        · obtain ⟨hd, hi⟩ := HY.out rfl hrn
          subst hrn
          have HD := Lib.hid hd
          have HI := Lib.hid hi
          clear hd hi HY HN HK
          go_wp2
          refine bodyPost_ret (v := .tuple #[.agg #[.int .i64 (r / 16777216), .int .i64 (r / 1048576 % 16), .int .i64 (r / 65536 % 16), .int .i64 (r % 65536 / 4096), .int .i64 (0)], .int .i64 0]) (by simp [results, Tryz.results27, go_sem, r0, r1, r2, r3, r4]) rfl ⟨?_, ?_⟩
          · rw [HI.out, HD.out]
            rfl
          · exact (((((hb04.setCell (Nat.le_refl _) _).setCell (Nat.le_refl _) _).setCell (Nat.le_refl _) _).setCell (Nat.le_refl _) _).setCell (Nat.le_refl _) _)
        · have hq : (r != n) = true := by simp [hrn]
          have HD := Lib.hid (HN.out rfl hrn)
          clear hrn HY HN HK
          go_wp2
          refine bodyPost_ret (v := .tuple #[.agg #[.int .i64 0, .int .i64 0, .int .i64 0, .int .i64 0, .int .i64 0], .int .i64 4]) (by simp [results, Tryz.results27, go_sem, r0, r1, r2, r3, r4]) rfl ⟨?_, ?_⟩
          · rw [dec_bad n (by rw [HD.out]; omega), HD.out]
            rfl
          · exact (((((hb04.setCell (Nat.le_refl _) _).setCell (Nat.le_refl _) _).setCell (Nat.le_refl _) _).setCell (Nat.le_refl _) _).setCell (Nat.le_refl _) _)
      · have hq : ((cd : Int) != 0) = true := by simp [hk]
        have HD := Lib.hid (HK.out hk)
        clear hk HY HN HK
        go_wp2
        refine bodyPost_ret (v := .tuple #[.agg #[.int .i64 0, .int .i64 0, .int .i64 0, .int .i64 0, .int .i64 0], .int .i64 4]) (by simp [results, Tryz.results27, go_sem, r0, r1, r2, r3, r4]) rfl ⟨?_, ?_⟩
        · rw [dec_bad n (by rw [HD.out]; omega), HD.out]
          rfl
        · exact (((((hb04.setCell (Nat.le_refl _) _).setCell (Nat.le_refl _) _).setCell (Nat.le_refl _) _).setCell (Nat.le_refl _) _).setCell (Nat.le_refl _) _)
    · have h1f' : (f == 1) = false := by simpa using h1f
      have HU := Lib.hid (fun W => Uses_any f 73 ⟨hf0, hf7⟩ W)
      have hul : usesB f 73 = (usesOf f).signed := by
        have h := (uses_parts f (by omega) hf7).2.2.2.1
        rw [h]
        have hi : (usesOf f).imm = true := by simpa [usesOf] using h1f
        rw [hi]
        rfl
      have hc0 : (usesOf f).c = false := by simpa [usesOf] using h1f
      rw [hc0, ← hul] at HR
      generalize usesB f 73 = us at HU HR
      by_cases hs : us = true ∧ 32768 ≤ n % 65536
      · obtain ⟨rfl, hlow⟩ := hs
        have hraw : decRaw n = ⟨n / 16777216, n / 1048576 % 16, n / 65536 % 16, 0, n % 65536 - 65536⟩ := by
          rw [HR.out]
          have : (n + 32768) % 65536 - 32768 = n % 65536 - 65536 := by omega
          simp [this]
        clear HR hz h1f hul hc0 hf0 hf7
        go_wp2_with fail
        refine (HU.out _).mono ?_
        rintro e w1 ⟨rfl, rfl⟩
        clear HU
        obtain ⟨r, cd, HK, HN, HY, HEnc⟩ := htail.out (0) (n % 65536 - 65536) hraw
        have hRx : Blk (w1.setCell ⟨w.heap.size + 1, 4, none⟩ (.int .i64 (n % 65536 - 65536))) w.heap.size 27 #[.int .i64 0, .int .i64 0, .int .i64 0, .int .i64 0, .int .i64 0] := hR1.far (p := ⟨w.heap.size + 1, 4, none⟩) (by simp) _
        have hIx : Blk (w1.setCell ⟨w.heap.size + 1, 4, none⟩ (.int .i64 (n % 65536 - 65536))) (w.heap.size + 1) 27 #[.int .i64 (n / 16777216), .int .i64 (n / 1048576 % 16), .int .i64 (n / 65536 % 16), .int .i64 (0), .int .i64 (n % 65536 - 65536)] := hI1.store 4 _
        have hbx : Below w.heap.size w (w1.setCell ⟨w.heap.size + 1, 4, none⟩ (.int .i64 (n % 65536 - 65536))) := hb01.setCell (by simp) _
        clear hR1 hI1 hb01 htail hraw
        go_wp2_with fail
        generalize (w1.setCell ⟨w.heap.size + 1, 4, none⟩ (.int .i64 (n % 65536 - 65536))) = wx at hRx hIx hbx ⊢
        refine (HEnc.out wx).mono ?_
        rintro e w4 ⟨rfl, hb4⟩
        have hb04 := hbx.trans (hb4.mono hbx.size)
        have hR4 := hRx.below hb4 hRx.lt
        have hI4 := hIx.below hb4 hIx.lt
        clear hRx hIx hbx hb4 i0 i1 i2 i3 i4 j3 j4 HEnc
        have r0 : w4.cell? ⟨w.heap.size, 0, none⟩ = some (.int .i64 0) := hR4.cell 0
        have g0 : w4.frozen? ⟨w.heap.size, 0, none⟩ = false := hR4.frozen 0
        have i0 : w4.cell? ⟨w.heap.size + 1, 0, none⟩ = some (.int .i64 (n / 16777216)) := hI4.cell 0
        have r1 : w4.cell? ⟨w.heap.size, 1, none⟩ = some (.int .i64 0) := hR4.cell 1
        have g1 : w4.frozen? ⟨w.heap.size, 1, none⟩ = false := hR4.frozen 1
        have i1 : w4.cell? ⟨w.heap.size + 1, 1, none⟩ = some (.int .i64 (n / 1048576 % 16)) := hI4.cell 1
        have r2 : w4.cell? ⟨w.heap.size, 2, none⟩ = some (.int .i64 0) := hR4.cell 2
        have g2 : w4.frozen? ⟨w.heap.size, 2, none⟩ = false := hR4.frozen 2
        have i2 : w4.cell? ⟨w.heap.size + 1, 2, none⟩ = some (.int .i64 (n / 65536 % 16)) := hI4.cell 2
        have r3 : w4.cell? ⟨w.heap.size, 3, none⟩ = some (.int .i64 0) := hR4.cell 3
        have g3 : w4.frozen? ⟨w.heap.size, 3, none⟩ = false := hR4.frozen 3
        have i3 : w4.cell? ⟨w.heap.size + 1, 3, none⟩ = some (.int .i64 (0)) := hI4.cell 3
        have r4 : w4.cell? ⟨w.heap.size, 4, none⟩ = some (.int .i64 0) := hR4.cell 4
        have g4 : w4.frozen? ⟨w.heap.size, 4, none⟩ = false := hR4.frozen 4
        have i4 : w4.cell? ⟨w.heap.size + 1, 4, none⟩ = some (.int .i64 (n % 65536 - 65536)) := hI4.cell 4
        clear hR4 hI4
        by_cases hk : cd = 0
        · subst hk
          by_cases hrn : r = n
          · obtain ⟨hd, hi⟩ := HY.out rfl hrn
            subst hrn
            have HD := Lib.hid hd
            have HI := Lib.hid hi
            clear hd hi HY HN HK
            go_wp2
            refine bodyPost_ret (v := .tuple #[.agg #[.int .i64 (r / 16777216), .int .i64 (r / 1048576 % 16), .int .i64 (r / 65536 % 16), .int .i64 (0), .int .i64 (r % 65536 - 65536)], .int .i64 0]) (by simp [results, Tryz.results27, go_sem, r0, r1, r2, r3, r4]) rfl ⟨?_, ?_⟩
            · rw [HI.out, HD.out]
              rfl
            · exact (((((hb04.setCell (Nat.le_refl _) _).setCell (Nat.le_refl _) _).setCell (Nat.le_refl _) _).setCell (Nat.le_refl _) _).setCell (Nat.le_refl _) _)
          · have hq : (r != n) = true := by simp [hrn]
            have HD := Lib.hid (HN.out rfl hrn)
            clear hrn HY HN HK
            go_wp2
            refine bodyPost_ret (v := .tuple #[.agg #[.int .i64 0, .int .i64 0, .int .i64 0, .int .i64 0, .int .i64 0], .int .i64 4]) (by simp [results, Tryz.results27, go_sem, r0, r1, r2, r3, r4]) rfl ⟨?_, ?_⟩
            · rw [dec_bad n (by rw [HD.out]; omega), HD.out]
              rfl
            · exact (((((hb04.setCell (Nat.le_refl _) _).setCell (Nat.le_refl _) _).setCell (Nat.le_refl _) _).setCell (Nat.le_refl _) _).setCell (Nat.le_refl _) _)
        · have hq : ((cd : Int) != 0) = true := by simp [hk]
          have HD := Lib.hid (HK.out hk)
          clear hk HY HN HK
          go_wp2
          refine bodyPost_ret (v := .tuple #[.agg #[.int .i64 0, .int .i64 0, .int .i64 0, .int .i64 0, .int .i64 0], .int .i64 4]) (by simp [results, Tryz.results27, go_sem, r0, r1, r2, r3, r4]) rfl ⟨?_, ?_⟩
          · rw [dec_bad n (by rw [HD.out]; omega), HD.out]
            rfl
          · exact (((((hb04.setCell (Nat.le_refl _) _).setCell (Nat.le_refl _) _).setCell (Nat.le_refl _) _).setCell (Nat.le_refl _) _).setCell (Nat.le_refl _) _)
      · have hraw : decRaw n = ⟨n / 16777216, n / 1048576 % 16, n / 65536 % 16, 0, n % 65536⟩ := by
          rw [HR.out]
          cases us with
          | false => simp
          | true =>
            have : (n + 32768) % 65536 - 32768 = n % 65536 := by have : ¬ 32768 ≤ n % 65536 := fun h => hs ⟨rfl, h⟩; omega
            simp [this]
        clear HR hz h1f hul hc0 hf0 hf7
        go_wp2_with fail
        refine (HU.out _).mono ?_
        rintro e w1 ⟨rfl, rfl⟩
        clear HU
        cases us with
        | false =>
          clear hs
          obtain ⟨r, cd, HK, HN, HY, HEnc⟩ := htail.out (0) (n % 65536) hraw
          have hRx : Blk (w1.setCell ⟨w.heap.size + 1, 4, none⟩ (.int .i64 (n % 65536))) w.heap.size 27 #[.int .i64 0, .int .i64 0, .int .i64 0, .int .i64 0, .int .i64 0] := hR1.far (p := ⟨w.heap.size + 1, 4, none⟩) (by simp) _
          have hIx : Blk (w1.setCell ⟨w.heap.size + 1, 4, none⟩ (.int .i64 (n % 65536))) (w.heap.size + 1) 27 #[.int .i64 (n / 16777216), .int .i64 (n / 1048576 % 16), .int .i64 (n / 65536 % 16), .int .i64 (0), .int .i64 (n % 65536)] := hI1.store 4 _
          have hbx : Below w.heap.size w (w1.setCell ⟨w.heap.size + 1, 4, none⟩ (.int .i64 (n % 65536))) := hb01.setCell (by simp) _
          clear hR1 hI1 hb01 htail hraw
          go_wp2_with fail
          generalize (w1.setCell ⟨w.heap.size + 1, 4, none⟩ (.int .i64 (n % 65536))) = wx at hRx hIx hbx ⊢
          refine (HEnc.out wx).mono ?_
          rintro e w4 ⟨rfl, hb4⟩
          have hb04 := hbx.trans (hb4.mono hbx.size)
          have hR4 := hRx.below hb4 hRx.lt
          have hI4 := hIx.below hb4 hIx.lt
          clear hRx hIx hbx hb4 i0 i1 i2 i3 i4 j3 j4 HEnc
          have r0 : w4.cell? ⟨w.heap.size, 0, none⟩ = some (.int .i64 0) := hR4.cell 0
          have g0 : w4.frozen? ⟨w.heap.size, 0, none⟩ = false := hR4.frozen 0
          have i0 : w4.cell? ⟨w.heap.size + 1, 0, none⟩ = some (.int .i64 (n / 16777216)) := hI4.cell 0
          have r1 : w4.cell? ⟨w.heap.size, 1, none⟩ = some (.int .i64 0) := hR4.cell 1
          have g1 : w4.frozen? ⟨w.heap.size, 1, none⟩ = false := hR4.frozen 1
          have i1 : w4.cell? ⟨w.heap.size + 1, 1, none⟩ = some (.int .i64 (n / 1048576 % 16)) := hI4.cell 1
          have r2 : w4.cell? ⟨w.heap.size, 2, none⟩ = some (.int .i64 0) := hR4.cell 2
          have g2 : w4.frozen? ⟨w.heap.size, 2, none⟩ = false := hR4.frozen 2
          have i2 : w4.cell? ⟨w.heap.size + 1, 2, none⟩ = some (.int .i64 (n / 65536 % 16)) := hI4.cell 2
          have r3 : w4.cell? ⟨w.heap.size, 3, none⟩ = some (.int .i64 0) := hR4.cell 3
          have g3 : w4.frozen? ⟨w.heap.size, 3, none⟩ = false := hR4.frozen 3
          have i3 : w4.cell? ⟨w.heap.size + 1, 3, none⟩ = some (.int .i64 (0)) := hI4.cell 3
          have r4 : w4.cell? ⟨w.heap.size, 4, none⟩ = some (.int .i64 0) := hR4.cell 4
          have g4 : w4.frozen? ⟨w.heap.size, 4, none⟩ = false := hR4.frozen 4
          have i4 : w4.cell? ⟨w.heap.size + 1, 4, none⟩ = some (.int .i64 (n % 65536)) := hI4.cell 4
          clear hR4 hI4
          by_cases hk : cd = 0
          · subst hk
            by_cases hrn : r = n
            · obtain ⟨hd, hi⟩ := HY.out rfl hrn
              subst hrn
              have HD := Lib.hid hd
              have HI := Lib.hid hi
              clear hd hi HY HN HK
              go_wp2
              refine bodyPost_ret (v := .tuple #[.agg #[.int .i64 (r / 16777216), .int .i64 (r / 1048576 % 16), .int .i64 (r / 65536 % 16), .int .i64 (0), .int .i64 (r % 65536)], .int .i64 0]) (by simp [results, Tryz.results27, go_sem, r0, r1, r2, r3, r4]) rfl ⟨?_, ?_⟩
              · rw [HI.out, HD.out]
                rfl
              · exact (((((hb04.setCell (Nat.le_refl _) _).setCell (Nat.le_refl _) _).setCell (Nat.le_refl _) _).setCell (Nat.le_refl _) _).setCell (Nat.le_refl _) _)
            · have hq : (r != n) = true := by simp [hrn]
              have HD := Lib.hid (HN.out rfl hrn)
              clear hrn HY HN HK
              go_wp2
              refine bodyPost_ret (v := .tuple #[.agg #[.int .i64 0, .int .i64 0, .int .i64 0, .int .i64 0, .int .i64 0], .int .i64 4]) (by simp [results, Tryz.results27, go_sem, r0, r1, r2, r3, r4]) rfl ⟨?_, ?_⟩
              · rw [dec_bad n (by rw [HD.out]; omega), HD.out]
                rfl
              · exact (((((hb04.setCell (Nat.le_refl _) _).setCell (Nat.le_refl _) _).setCell (Nat.le_refl _) _).setCell (Nat.le_refl _) _).setCell (Nat.le_refl _) _)
          · have hq : ((cd : Int) != 0) = true := by simp [hk]
            have HD := Lib.hid (HK.out hk)
            clear hk HY HN HK
            go_wp2
            refine bodyPost_ret (v := .tuple #[.agg #[.int .i64 0, .int .i64 0, .int .i64 0, .int .i64 0, .int .i64 0], .int .i64 4]) (by simp [results, Tryz.results27, go_sem, r0, r1, r2, r3, r4]) rfl ⟨?_, ?_⟩
            · rw [dec_bad n (by rw [HD.out]; omega), HD.out]
              rfl
            · exact (((((hb04.setCell (Nat.le_refl _) _).setCell (Nat.le_refl _) _).setCell (Nat.le_refl _) _).setCell (Nat.le_refl _) _).setCell (Nat.le_refl _) _)
        | true =>
          have hlow : ¬ 32768 ≤ n % 65536 := fun h => hs ⟨rfl, h⟩
          clear hs
          obtain ⟨r, cd, HK, HN, HY, HEnc⟩ := htail.out (0) (n % 65536) hraw
          have hRx : Blk (w1.setCell ⟨w.heap.size + 1, 4, none⟩ (.int .i64 (n % 65536))) w.heap.size 27 #[.int .i64 0, .int .i64 0, .int .i64 0, .int .i64 0, .int .i64 0] := hR1.far (p := ⟨w.heap.size + 1, 4, none⟩) (by simp) _
          have hIx : Blk (w1.setCell ⟨w.heap.size + 1, 4, none⟩ (.int .i64 (n % 65536))) (w.heap.size + 1) 27 #[.int .i64 (n / 16777216), .int .i64 (n / 1048576 % 16), .int .i64 (n / 65536 % 16), .int .i64 (0), .int .i64 (n % 65536)] := hI1.store 4 _
          have hbx : Below w.heap.size w (w1.setCell ⟨w.heap.size + 1, 4, none⟩ (.int .i64 (n % 65536))) := hb01.setCell (by simp) _
          clear hR1 hI1 hb01 htail hraw
          go_wp2_with fail
          generalize (w1.setCell ⟨w.heap.size + 1, 4, none⟩ (.int .i64 (n % 65536))) = wx at hRx hIx hbx ⊢
          refine (HEnc.out wx).mono ?_
          rintro e w4 ⟨rfl, hb4⟩
          have hb04 := hbx.trans (hb4.mono hbx.size)
          have hR4 := hRx.below hb4 hRx.lt
          have hI4 := hIx.below hb4 hIx.lt
          clear hRx hIx hbx hb4 i0 i1 i2 i3 i4 j3 j4 HEnc
          have r0 : w4.cell? ⟨w.heap.size, 0, none⟩ = some (.int .i64 0) := hR4.cell 0
          have g0 : w4.frozen? ⟨w.heap.size, 0, none⟩ = false := hR4.frozen 0
          have i0 : w4.cell? ⟨w.heap.size + 1, 0, none⟩ = some (.int .i64 (n / 16777216)) := hI4.cell 0
          have r1 : w4.cell? ⟨w.heap.size, 1, none⟩ = some (.int .i64 0) := hR4.cell 1
          have g1 : w4.frozen? ⟨w.heap.size, 1, none⟩ = false := hR4.frozen 1
          have i1 : w4.cell? ⟨w.heap.size + 1, 1, none⟩ = some (.int .i64 (n / 1048576 % 16)) := hI4.cell 1
          have r2 : w4.cell? ⟨w.heap.size, 2, none⟩ = some (.int .i64 0) := hR4.cell 2
          have g2 : w4.frozen? ⟨w.heap.size, 2, none⟩ = false := hR4.frozen 2
          have i2 : w4.cell? ⟨w.heap.size + 1, 2, none⟩ = some (.int .i64 (n / 65536 % 16)) := hI4.cell 2
          have r3 : w4.cell? ⟨w.heap.size, 3, none⟩ = some (.int .i64 0) := hR4.cell 3
          have g3 : w4.frozen? ⟨w.heap.size, 3, none⟩ = false := hR4.frozen 3
          have i3 : w4.cell? ⟨w.heap.size + 1, 3, none⟩ = some (.int .i64 (0)) := hI4.cell 3
          have r4 : w4.cell? ⟨w.heap.size, 4, none⟩ = some (.int .i64 0) := hR4.cell 4
          have g4 : w4.frozen? ⟨w.heap.size, 4, none⟩ = false := hR4.frozen 4
          have i4 : w4.cell? ⟨w.heap.size + 1, 4, none⟩ = some (.int .i64 (n % 65536)) := hI4.cell 4
          clear hR4 hI4
          by_cases hk : cd = 0
          · subst hk
            by_cases hrn : r = n
            · obtain ⟨hd, hi⟩ := HY.out rfl hrn
              subst hrn
              have HD := Lib.hid hd
              have HI := Lib.hid hi
              clear hd hi HY HN HK
              go_wp2
              refine bodyPost_ret (v := .tuple #[.agg #[.int .i64 (r / 16777216), .int .i64 (r / 1048576 % 16), .int .i64 (r / 65536 % 16), .int .i64 (0), .int .i64 (r % 65536)], .int .i64 0]) (by simp [results, Tryz.results27, go_sem, r0, r1, r2, r3, r4]) rfl ⟨?_, ?_⟩
              · rw [HI.out, HD.out]
                rfl
              · exact (((((hb04.setCell (Nat.le_refl _) _).setCell (Nat.le_refl _) _).setCell (Nat.le_refl _) _).setCell (Nat.le_refl _) _).setCell (Nat.le_refl _) _)
            · have hq : (r != n) = true := by simp [hrn]
              have HD := Lib.hid (HN.out rfl hrn)
              clear hrn HY HN HK
              go_wp2
              refine bodyPost_ret (v := .tuple #[.agg #[.int .i64 0, .int .i64 0, .int .i64 0, .int .i64 0, .int .i64 0], .int .i64 4]) (by simp [results, Tryz.results27, go_sem, r0, r1, r2, r3, r4]) rfl ⟨?_, ?_⟩
              · rw [dec_bad n (by rw [HD.out]; omega), HD.out]
                rfl
              · exact (((((hb04.setCell (Nat.le_refl _) _).setCell (Nat.le_refl _) _).setCell (Nat.le_refl _) _).setCell (Nat.le_refl _) _).setCell (Nat.le_refl _) _)
          · have hq : ((cd : Int) != 0) = true := by simp [hk]
            have HD := Lib.hid (HK.out hk)
            clear hk HY HN HK
            go_wp2
            refine bodyPost_ret (v := .tuple #[.agg #[.int .i64 0, .int .i64 0, .int .i64 0, .int .i64 0, .int .i64 0], .int .i64 4]) (by simp [results, Tryz.results27, go_sem, r0, r1, r2, r3, r4]) rfl ⟨?_, ?_⟩
            · rw [dec_bad n (by rw [HD.out]; omega), HD.out]
              rfl
            · exact (((((hb04.setCell (Nat.le_refl _) _).setCell (Nat.le_refl _) _).setCell (Nat.le_refl _) _).setCell (Nat.le_refl _) _).setCell (Nat.le_refl _) _)
end Go.Proofs.YtecmeegnjjhilaaGreatDoor
