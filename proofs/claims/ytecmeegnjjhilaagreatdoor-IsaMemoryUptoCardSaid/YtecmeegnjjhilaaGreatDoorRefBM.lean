/- The document's numbers in decimal, and its Print. -/
import Derived.Test.YtecmeegnjjhilaaGreatDoorRefEM
import Derived.Test.YtecmeegnjjhilaaGreatDoorTextLawM
import Derived.Laws.IdiomStrings
namespace Go.Proofs.YtecmeegnjjhilaaGreatDoor
open Go.RowKit
theorem dec_step (m : Nat) (h : ¬ m < 10) : Lib.decDigits m = Lib.decDigits (m / 10) ++ [UInt8.ofNat (48 + m % 10)] := by
  rw [Lib.decDigits, dif_neg h]

set_option maxRecDepth 100000 in
set_option maxHeartbeats 1000000 in
theorem unsigned_any (n : Nat) (hn : n < 10000000000) (w : World) : Calls Tryz.prog 79 #[.int .u64 n] w fun e w' => e = .returned (.string ⟨(Lib.decDigits n).toArray⟩) ∧ Below w.heap.size w w' := by
  have hr := Below.refl w.heap.size w
  go_enter Tryz.func79, Tryz.ntmps79
  go_wp2_with fail
  go_loopw [0, 3] (fun s0 s3 wr => ∃ (m k : Nat) (t : ByteArray), m < 10000000000 ∧ k ≤ 100 ∧ t.size + k ≤ 100 ∧ m < 10 ^ k ∧ s0 = .int .u64 m ∧ s3 = .string t ∧ Hid (Lib.decDigits n = Lib.decDigits m ++ t.data.toList) ∧ Below w.heap.size w wr) (fun s0 _ _ => (intOf s0).toNat)
  case atStart => exact ⟨n, 10, _, hn, by omega, by decide, hn, rfl, rfl, Lib.hid (by simp), hr⟩
  case round =>
    obtain ⟨m, k, t, hm, hk, ht, hmk, rfl, rfl, HD, hb⟩ := hrel
    have hcat : ¬ 9223372036854775807 < 1 + t.size := by omega
    obtain ⟨d, hd⟩ : ∃ d : UInt8, d = UInt8.ofNat (48 + m % 10) := ⟨_, rfl⟩
    have hdn : (d.toNat : Int) = 48 + (m : Int) % 10 := by
      rw [hd]
      have : (UInt8.ofNat (48 + m % 10)).toNat = 48 + m % 10 := by
        rw [UInt8.toNat_ofNat']
        omega
      rw [this]
      omega
    have hcv : (convert 56 9 (.slice (some ⟨wr.heap.size, 0, none⟩) 1 1)).run Tryz.prog (wr.alloc (.cells #[.int .u8 (48 + (m : Int) % 10)] 5)) = .ok (.string ⟨#[d]⟩) (wr.alloc (.cells #[.int .u8 (48 + (m : Int) % 10)] 5)) := by
      have h := run_convert_bytes_back (P := Tryz.prog) (wr.alloc (.cells #[.int .u8 (48 + (m : Int) % 10)] 5)) 56 9 5 ⟨wr.heap.size, 0, none⟩ 1 [d] Tryz.underlying56 Tryz.underlying5 Tryz.underlying9 (fun j hj => by
        obtain rfl : j = 0 := by simpa using hj
        rw [add_at]
        simp [hdn])
      exact h
    have hb2 := hb.alloc hb.size (.cells #[.int .u8 (48 + (m : Int) % 10)] 5)
    by_cases hz : m < 10
    · have hz2 : (m : Int) / 10 = 0 := by omega
      have HF : Hid (Lib.decDigits n = d :: t.data.toList) := Lib.hid (by
        rw [HD.out, Lib.decDigits_one hz, hd, Nat.mod_eq_of_lt hz]
        rfl)
      clear HD hd hdn
      go_wp2_with fail
      go_ret
      refine ⟨?_, hb2⟩
      rw [HF.out]
      rfl
    · have HF : Hid (Lib.decDigits n = Lib.decDigits (m / 10) ++ ((⟨#[d]⟩ : ByteArray) ++ t).data.toList) := Lib.hid (by
        rw [HD.out, dec_step m hz, hd, Joins.data_append]
        simp)
      have hz2 : ¬ (m : Int) / 10 = 0 := by omega
      have hs1 : ((⟨#[d]⟩ : ByteArray) ++ t).size = 1 + t.size := by rw [ByteArray.size_append]; rfl
      have hk1 : 1 ≤ k := by
        cases k with
        | zero => simp at hmk; omega
        | succ k => omega
      have hmk1 : m / 10 < 10 ^ (k - 1) := by
        obtain ⟨q, rfl⟩ : ∃ q, k = q + 1 := ⟨k - 1, by omega⟩
        rw [Nat.pow_succ] at hmk
        rw [Nat.add_sub_cancel]
        omega
      clear HD hd hdn
      go_wp2_with fail
      go_roundw
      case rel => exact ⟨m / 10, k - 1, _, by omega, by omega, by rw [hs1]; omega, hmk1, by go_num, rfl, HF, hb2⟩
      case measure => simp [intOf]; omega
end Go.Proofs.YtecmeegnjjhilaaGreatDoor

/- The document's Number10 and Print. -/
namespace Go.Proofs.YtecmeegnjjhilaaGreatDoor
open Go.RowKit
theorem itoa_short (n : Int) (h0 : -1000000 < n) (h1 : n < 10000000000) : (Lib.itoa n).length ≤ 1000 := by
  have h := Lib.itoa_length_le n (by omega) (by omega)
  omega

set_option maxRecDepth 100000 in
set_option maxHeartbeats 1000000 in
theorem Number10_any (n : Int) (h0 : -1000000 < n) (h1 : n < 10000000000) (w : World) : Calls Tryz.prog 55 #[.int .i64 n] w fun e w' => e = .returned (.string ⟨(Lib.itoa n).toArray⟩) ∧ Below w.heap.size w w' := by
  by_cases hn : n < 0
  · obtain ⟨u, rfl⟩ : ∃ u : Nat, n = -((u : Int) + 1) := ⟨(-n).toNat - 1, by omega⟩
    have HU0 := unsigned_any (u + 1) (by omega) w
    rw [show ((u + 1 : Nat) : Int) = (u : Int) + 1 by omega] at HU0
    have HU := Lib.hid HU0
    clear HU0
    have HT : Hid (Lib.itoa (-((u : Int) + 1)) = 45 :: Lib.decDigits (u + 1)) := Lib.hid (Lib.itoa_neg (u + 1) (by omega))
    have hl : (Lib.decDigits (u + 1)).length ≤ 1000 := by
      have h := itoa_short (-((u : Int) + 1)) (by omega) (by omega)
      rw [HT.out, List.length_cons] at h
      omega
    generalize Lib.decDigits (u + 1) = D at HU HT hl
    have hcat : ¬ 9223372036854775807 < 1 + D.length := by omega
    go_enter Tryz.func55, Tryz.ntmps55
    go_wp2_with fail
    rw [show -(-((u : Int) + 1) + 1) + 1 = (u : Int) + 1 by omega]
    refine HU.out.mono ?_
    rintro e w' ⟨rfl, hb⟩
    go_wp2_with fail
    go_ret
    refine ⟨?_, hb⟩
    rw [HT.out]
    rw [ByteArray.mk_append_mk]
    simp
  · obtain ⟨u, rfl⟩ := Int.eq_ofNat_of_zero_le (show 0 ≤ n by omega)
    have HU := Lib.hid (unsigned_any u (by omega) w)
    rw [Lib.itoa_nonneg]
    generalize Lib.decDigits u = D at HU ⊢
    go_enter Tryz.func55, Tryz.ntmps55
    go_wp2_with fail
    refine HU.out.mono ?_
    rintro e w' ⟨rfl, hb⟩
    go_wp2_with fail
    go_ret
    exact ⟨rfl, hb⟩

theorem reg_dec (n : Int) (h : 0 ≤ n) : regT n = 114 :: Lib.itoa n := by
  obtain ⟨u, rfl⟩ := Int.eq_ofNat_of_zero_le h
  rw [Lib.itoa_nonneg]
  rfl
theorem print_cat (i : Ins) (_ : checkC i = 0) : printT i = (opRow i.op).word ++ Lib.joinTail [32] (fieldsT i) := by
  unfold printT
  cases h : fieldsT i with
  | nil => simp [Lib.join, Lib.joinTail, List.intercalate]
  | cons x r => exact Lib.join_cons _ _ _

theorem print_1 (i : Ins) (hc : checkC i = 0) (hf : formOf i.op = 1) : printT i = (opRow i.op).word ++ (32 :: 114 :: Lib.itoa i.a) ++ (32 :: 114 :: Lib.itoa i.b) ++ (32 :: 114 :: Lib.itoa i.c) := by
  obtain ⟨_, _, a0, a1, b0, b1, c0, c1, m0, m1⟩ := check_ok i hc
  rw [print_cat i hc]
  simp [fieldsT, hf, usesOf, Lib.joinTail, reg_dec, a0, b0, c0]

set_option maxHeartbeats 1000000 in
theorem RPrint_1 (i : Ins) (hc : checkC i = 0) (hf : formOf i.op = 1) (w : World) : Calls Tryz.prog 26 #[i.val] w fun e w' => e = .returned (.tuple #[.string ⟨(printT i).toArray⟩, .int .i64 0]) ∧ Below w.heap.size w w' := by
  have HT := Lib.hid (print_1 i hc hf)
  obtain ⟨_, _, a0, a1, b0, b1, c0, c1, m0, m1⟩ := check_ok i hc
  have hbox : Below w.heap.size w (w.alloc (.cells #[.int .i64 i.op, .int .i64 i.a, .int .i64 i.b, .int .i64 i.c, .int .i64 i.imm] 27)) := (Below.refl _ _).alloc (Nat.le_refl _) _
  have HC := RCheck_any i (w.alloc (.cells #[.int .i64 i.op, .int .i64 i.a, .int .i64 i.b, .int .i64 i.c, .int .i64 i.imm] 27))
  rw [hc] at HC
  have HC := Lib.hid HC
  have HF := Lib.hid (fun W => RForm_any i.op W)
  rw [hf] at HF
  have HN := Lib.hid (fun W => RName_any i.op W)
  have hwl := word_len i.op
  have HU65 := Lib.hid (fun W => (Uses_any 1 65 (by decide) W).mono (fun e w' h => by rw [show usesB 1 65 = true by decide +kernel] at h; exact h))
  have HU66 := Lib.hid (fun W => (Uses_any 1 66 (by decide) W).mono (fun e w' h => by rw [show usesB 1 66 = true by decide +kernel] at h; exact h))
  have HU67 := Lib.hid (fun W => (Uses_any 1 67 (by decide) W).mono (fun e w' h => by rw [show usesB 1 67 = true by decide +kernel] at h; exact h))
  have HU73 := Lib.hid (fun W => (Uses_any 1 73 (by decide) W).mono (fun e w' h => by rw [show usesB 1 73 = false by decide +kernel] at h; exact h))
  have HU85 := Lib.hid (fun W => (Uses_any 1 85 (by decide) W).mono (fun e w' h => by rw [show usesB 1 85 = false by decide +kernel] at h; exact h))
  have Ha := Lib.hid (fun W => Number10_any i.a (by omega) (by omega) W)
  have hla := itoa_short i.a (by omega) (by omega)
  have Hb := Lib.hid (fun W => Number10_any i.b (by omega) (by omega) W)
  have hlb := itoa_short i.b (by omega) (by omega)
  have Hc := Lib.hid (fun W => Number10_any i.c (by omega) (by omega) W)
  have hlc := itoa_short i.c (by omega) (by omega)
  generalize (opRow i.op).word = X at HT HN hwl
  generalize printT i = R at HT ⊢
  clear hc hf
  obtain ⟨op, a, b, c, imm⟩ := i
  unfold Ins.val at HC ⊢
  simp only at HC HT HF HN hbox a0 a1 b0 b1 c0 c1 m0 m1 Ha hla Hb hlb Hc hlc
  generalize Lib.itoa a = Ta at HT Ha hla
  generalize Lib.itoa b = Tb at HT Hb hlb
  generalize Lib.itoa c = Tc at HT Hc hlc
  clear a0 a1 b0 b1 c0 c1 m0 m1
  go_enter Tryz.func26, Tryz.ntmps26
  go_wp2_with fail
  refine HC.out.mono ?_
  rintro e w1 ⟨rfl, hb1⟩
  have hb01 : Below w.heap.size w w1 := hbox.trans (hb1.mono (by simp))
  have hI1 : Blk w1 w.heap.size 27 #[.int .i64 op, .int .i64 a, .int .i64 b, .int .i64 c, .int .i64 imm] := (Blk.new w _ _).below hb1 (by simp)
  have d0 : w1.cell? ⟨w.heap.size, 0, none⟩ = some (.int .i64 op) := hI1.cell 0
  clear HC hbox hb1
  go_wp2_with fail
  refine (HF.out w1).mono ?_
  rintro e w1 ⟨rfl, rfl⟩
  go_wp2_with fail
  refine (HN.out w1).mono ?_
  rintro e w1 ⟨rfl, rfl⟩
  clear HF HN d0
  go_wp2_with fail
  refine (HU65.out _).mono ?_
  rintro e w1 ⟨rfl, rfl⟩
  have e1 : w1.cell? ⟨w.heap.size, 1, none⟩ = some (.int .i64 a) := hI1.cell 1
  have ca1 : ¬ 9223372036854775807 < 2 + Ta.length := by omega
  obtain ⟨Y1, hY1⟩ : ∃ Y : ByteArray, ((⟨#[32, 114]⟩ : ByteArray) ++ ⟨Ta.toArray⟩) = Y := ⟨_, rfl⟩
  have hYs1 : Y1.size = 2 + Ta.length := by rw [← hY1, ByteArray.size_append]; simp [ByteArray.size]
  go_wp2_with fail
  refine (Ha.out w1).mono ?_
  rintro e w2 ⟨rfl, hb2⟩
  have hb02 : Below w.heap.size w w2 := hb01.trans (hb2.mono hb01.size)
  have hI2 := hI1.below hb2 hI1.lt
  clear hb2 hb01 hI1 e1
  go_wp2_with fail
  refine (HU66.out _).mono ?_
  rintro e w2 ⟨rfl, rfl⟩
  have e2 : w2.cell? ⟨w.heap.size, 2, none⟩ = some (.int .i64 b) := hI2.cell 2
  have ca2 : ¬ 9223372036854775807 < 2 + Tb.length := by omega
  obtain ⟨Y2, hY2⟩ : ∃ Y : ByteArray, ((⟨#[32, 114]⟩ : ByteArray) ++ ⟨Tb.toArray⟩) = Y := ⟨_, rfl⟩
  have hYs2 : Y2.size = 2 + Tb.length := by rw [← hY2, ByteArray.size_append]; simp [ByteArray.size]
  go_wp2_with fail
  refine (Hb.out w2).mono ?_
  rintro e w3 ⟨rfl, hb3⟩
  have hb03 : Below w.heap.size w w3 := hb02.trans (hb3.mono hb02.size)
  have hI3 := hI2.below hb3 hI2.lt
  clear hb3 hb02 hI2 e2
  go_wp2_with fail
  refine (HU67.out _).mono ?_
  rintro e w3 ⟨rfl, rfl⟩
  have e3 : w3.cell? ⟨w.heap.size, 3, none⟩ = some (.int .i64 c) := hI3.cell 3
  have ca3 : ¬ 9223372036854775807 < 2 + Tc.length := by omega
  obtain ⟨Y3, hY3⟩ : ∃ Y : ByteArray, ((⟨#[32, 114]⟩ : ByteArray) ++ ⟨Tc.toArray⟩) = Y := ⟨_, rfl⟩
  have hYs3 : Y3.size = 2 + Tc.length := by rw [← hY3, ByteArray.size_append]; simp [ByteArray.size]
  go_wp2_with fail
  refine (Hc.out w3).mono ?_
  rintro e w4 ⟨rfl, hb4⟩
  have hb04 : Below w.heap.size w w4 := hb03.trans (hb4.mono hb03.size)
  have hI4 := hI3.below hb4 hI3.lt
  clear hb4 hb03 hI3 e3
  go_wp2_with fail
  refine (HU73.out _).mono ?_
  rintro e w4 ⟨rfl, rfl⟩
  go_wp2_with fail
  refine (HU85.out _).mono ?_
  rintro e w4 ⟨rfl, rfl⟩
  have HB : Hid ((⟨X.toArray⟩ : ByteArray) ++ Y1 ++ Y2 ++ Y3 = ⟨(X ++ (32 :: 114 :: Ta) ++ (32 :: 114 :: Tb) ++ (32 :: 114 :: Tc)).toArray⟩) := Lib.hid (bytes_eq (by
    rw [← hY1, ← hY2, ← hY3]
    simp))
  go_wp2_with fail
  go_ret2
  refine ⟨?_, hb04⟩
  rw [HT.out, ← HB.out]
  rfl

theorem print_2 (i : Ins) (hc : checkC i = 0) (hf : formOf i.op = 2) : printT i = (opRow i.op).word ++ (32 :: 114 :: Lib.itoa i.a) ++ (32 :: 114 :: Lib.itoa i.b) ++ (32 :: Lib.itoa i.imm) := by
  obtain ⟨_, _, a0, a1, b0, b1, c0, c1, m0, m1⟩ := check_ok i hc
  rw [print_cat i hc]
  simp [fieldsT, hf, usesOf, Lib.joinTail, reg_dec, a0, b0]

set_option maxHeartbeats 1000000 in
theorem RPrint_2 (i : Ins) (hc : checkC i = 0) (hf : formOf i.op = 2) (w : World) : Calls Tryz.prog 26 #[i.val] w fun e w' => e = .returned (.tuple #[.string ⟨(printT i).toArray⟩, .int .i64 0]) ∧ Below w.heap.size w w' := by
  have HT := Lib.hid (print_2 i hc hf)
  obtain ⟨_, _, a0, a1, b0, b1, c0, c1, m0, m1⟩ := check_ok i hc
  have hbox : Below w.heap.size w (w.alloc (.cells #[.int .i64 i.op, .int .i64 i.a, .int .i64 i.b, .int .i64 i.c, .int .i64 i.imm] 27)) := (Below.refl _ _).alloc (Nat.le_refl _) _
  have HC := RCheck_any i (w.alloc (.cells #[.int .i64 i.op, .int .i64 i.a, .int .i64 i.b, .int .i64 i.c, .int .i64 i.imm] 27))
  rw [hc] at HC
  have HC := Lib.hid HC
  have HF := Lib.hid (fun W => RForm_any i.op W)
  rw [hf] at HF
  have HN := Lib.hid (fun W => RName_any i.op W)
  have hwl := word_len i.op
  have HU65 := Lib.hid (fun W => (Uses_any 2 65 (by decide) W).mono (fun e w' h => by rw [show usesB 2 65 = true by decide +kernel] at h; exact h))
  have HU66 := Lib.hid (fun W => (Uses_any 2 66 (by decide) W).mono (fun e w' h => by rw [show usesB 2 66 = true by decide +kernel] at h; exact h))
  have HU67 := Lib.hid (fun W => (Uses_any 2 67 (by decide) W).mono (fun e w' h => by rw [show usesB 2 67 = false by decide +kernel] at h; exact h))
  have HU73 := Lib.hid (fun W => (Uses_any 2 73 (by decide) W).mono (fun e w' h => by rw [show usesB 2 73 = true by decide +kernel] at h; exact h))
  have HU85 := Lib.hid (fun W => (Uses_any 2 85 (by decide) W).mono (fun e w' h => by rw [show usesB 2 85 = false by decide +kernel] at h; exact h))
  have Ha := Lib.hid (fun W => Number10_any i.a (by omega) (by omega) W)
  have hla := itoa_short i.a (by omega) (by omega)
  have Hb := Lib.hid (fun W => Number10_any i.b (by omega) (by omega) W)
  have hlb := itoa_short i.b (by omega) (by omega)
  have Himm := Lib.hid (fun W => Number10_any i.imm (by omega) (by omega) W)
  have hlimm := itoa_short i.imm (by omega) (by omega)
  generalize (opRow i.op).word = X at HT HN hwl
  generalize printT i = R at HT ⊢
  clear hc hf
  obtain ⟨op, a, b, c, imm⟩ := i
  unfold Ins.val at HC ⊢
  simp only at HC HT HF HN hbox a0 a1 b0 b1 c0 c1 m0 m1 Ha hla Hb hlb Himm hlimm
  generalize Lib.itoa a = Ta at HT Ha hla
  generalize Lib.itoa b = Tb at HT Hb hlb
  generalize Lib.itoa imm = Timm at HT Himm hlimm
  clear a0 a1 b0 b1 c0 c1 m0 m1
  go_enter Tryz.func26, Tryz.ntmps26
  go_wp2_with fail
  refine HC.out.mono ?_
  rintro e w1 ⟨rfl, hb1⟩
  have hb01 : Below w.heap.size w w1 := hbox.trans (hb1.mono (by simp))
  have hI1 : Blk w1 w.heap.size 27 #[.int .i64 op, .int .i64 a, .int .i64 b, .int .i64 c, .int .i64 imm] := (Blk.new w _ _).below hb1 (by simp)
  have d0 : w1.cell? ⟨w.heap.size, 0, none⟩ = some (.int .i64 op) := hI1.cell 0
  clear HC hbox hb1
  go_wp2_with fail
  refine (HF.out w1).mono ?_
  rintro e w1 ⟨rfl, rfl⟩
  go_wp2_with fail
  refine (HN.out w1).mono ?_
  rintro e w1 ⟨rfl, rfl⟩
  clear HF HN d0
  go_wp2_with fail
  refine (HU65.out _).mono ?_
  rintro e w1 ⟨rfl, rfl⟩
  have e1 : w1.cell? ⟨w.heap.size, 1, none⟩ = some (.int .i64 a) := hI1.cell 1
  have ca1 : ¬ 9223372036854775807 < 2 + Ta.length := by omega
  obtain ⟨Y1, hY1⟩ : ∃ Y : ByteArray, ((⟨#[32, 114]⟩ : ByteArray) ++ ⟨Ta.toArray⟩) = Y := ⟨_, rfl⟩
  have hYs1 : Y1.size = 2 + Ta.length := by rw [← hY1, ByteArray.size_append]; simp [ByteArray.size]
  go_wp2_with fail
  refine (Ha.out w1).mono ?_
  rintro e w2 ⟨rfl, hb2⟩
  have hb02 : Below w.heap.size w w2 := hb01.trans (hb2.mono hb01.size)
  have hI2 := hI1.below hb2 hI1.lt
  clear hb2 hb01 hI1 e1
  go_wp2_with fail
  refine (HU66.out _).mono ?_
  rintro e w2 ⟨rfl, rfl⟩
  have e2 : w2.cell? ⟨w.heap.size, 2, none⟩ = some (.int .i64 b) := hI2.cell 2
  have ca2 : ¬ 9223372036854775807 < 2 + Tb.length := by omega
  obtain ⟨Y2, hY2⟩ : ∃ Y : ByteArray, ((⟨#[32, 114]⟩ : ByteArray) ++ ⟨Tb.toArray⟩) = Y := ⟨_, rfl⟩
  have hYs2 : Y2.size = 2 + Tb.length := by rw [← hY2, ByteArray.size_append]; simp [ByteArray.size]
  go_wp2_with fail
  refine (Hb.out w2).mono ?_
  rintro e w3 ⟨rfl, hb3⟩
  have hb03 : Below w.heap.size w w3 := hb02.trans (hb3.mono hb02.size)
  have hI3 := hI2.below hb3 hI2.lt
  clear hb3 hb02 hI2 e2
  go_wp2_with fail
  refine (HU67.out _).mono ?_
  rintro e w3 ⟨rfl, rfl⟩
  go_wp2_with fail
  refine (HU73.out _).mono ?_
  rintro e w3 ⟨rfl, rfl⟩
  have e4 : w3.cell? ⟨w.heap.size, 4, none⟩ = some (.int .i64 imm) := hI3.cell 4
  have ca3 : ¬ 9223372036854775807 < 1 + Timm.length := by omega
  obtain ⟨Y3, hY3⟩ : ∃ Y : ByteArray, ((⟨#[32]⟩ : ByteArray) ++ ⟨Timm.toArray⟩) = Y := ⟨_, rfl⟩
  have hYs3 : Y3.size = 1 + Timm.length := by rw [← hY3, ByteArray.size_append]; simp [ByteArray.size]
  go_wp2_with fail
  refine (Himm.out w3).mono ?_
  rintro e w4 ⟨rfl, hb4⟩
  have hb04 : Below w.heap.size w w4 := hb03.trans (hb4.mono hb03.size)
  have hI4 := hI3.below hb4 hI3.lt
  clear hb4 hb03 hI3 e4
  have HB : Hid ((⟨X.toArray⟩ : ByteArray) ++ Y1 ++ Y2 ++ Y3 = ⟨(X ++ (32 :: 114 :: Ta) ++ (32 :: 114 :: Tb) ++ (32 :: Timm)).toArray⟩) := Lib.hid (bytes_eq (by
    rw [← hY1, ← hY2, ← hY3]
    simp))
  go_wp2_with fail
  go_ret2
  refine ⟨?_, hb04⟩
  rw [HT.out, ← HB.out]
  rfl

theorem print_3 (i : Ins) (hc : checkC i = 0) (hf : formOf i.op = 3) : printT i = (opRow i.op).word ++ (32 :: 114 :: Lib.itoa i.a) ++ (32 :: 114 :: Lib.itoa i.b) ++ (32 :: Lib.itoa i.imm) := by
  obtain ⟨_, _, a0, a1, b0, b1, c0, c1, m0, m1⟩ := check_ok i hc
  rw [print_cat i hc]
  simp [fieldsT, hf, usesOf, Lib.joinTail, reg_dec, a0, b0]

set_option maxHeartbeats 1000000 in
theorem RPrint_3 (i : Ins) (hc : checkC i = 0) (hf : formOf i.op = 3) (w : World) : Calls Tryz.prog 26 #[i.val] w fun e w' => e = .returned (.tuple #[.string ⟨(printT i).toArray⟩, .int .i64 0]) ∧ Below w.heap.size w w' := by
  have HT := Lib.hid (print_3 i hc hf)
  obtain ⟨_, _, a0, a1, b0, b1, c0, c1, m0, m1⟩ := check_ok i hc
  have hbox : Below w.heap.size w (w.alloc (.cells #[.int .i64 i.op, .int .i64 i.a, .int .i64 i.b, .int .i64 i.c, .int .i64 i.imm] 27)) := (Below.refl _ _).alloc (Nat.le_refl _) _
  have HC := RCheck_any i (w.alloc (.cells #[.int .i64 i.op, .int .i64 i.a, .int .i64 i.b, .int .i64 i.c, .int .i64 i.imm] 27))
  rw [hc] at HC
  have HC := Lib.hid HC
  have HF := Lib.hid (fun W => RForm_any i.op W)
  rw [hf] at HF
  have HN := Lib.hid (fun W => RName_any i.op W)
  have hwl := word_len i.op
  have HU65 := Lib.hid (fun W => (Uses_any 3 65 (by decide) W).mono (fun e w' h => by rw [show usesB 3 65 = true by decide +kernel] at h; exact h))
  have HU66 := Lib.hid (fun W => (Uses_any 3 66 (by decide) W).mono (fun e w' h => by rw [show usesB 3 66 = true by decide +kernel] at h; exact h))
  have HU67 := Lib.hid (fun W => (Uses_any 3 67 (by decide) W).mono (fun e w' h => by rw [show usesB 3 67 = false by decide +kernel] at h; exact h))
  have HU73 := Lib.hid (fun W => (Uses_any 3 73 (by decide) W).mono (fun e w' h => by rw [show usesB 3 73 = false by decide +kernel] at h; exact h))
  have HU85 := Lib.hid (fun W => (Uses_any 3 85 (by decide) W).mono (fun e w' h => by rw [show usesB 3 85 = true by decide +kernel] at h; exact h))
  have Ha := Lib.hid (fun W => Number10_any i.a (by omega) (by omega) W)
  have hla := itoa_short i.a (by omega) (by omega)
  have Hb := Lib.hid (fun W => Number10_any i.b (by omega) (by omega) W)
  have hlb := itoa_short i.b (by omega) (by omega)
  have Himm := Lib.hid (fun W => Number10_any i.imm (by omega) (by omega) W)
  have hlimm := itoa_short i.imm (by omega) (by omega)
  generalize (opRow i.op).word = X at HT HN hwl
  generalize printT i = R at HT ⊢
  clear hc hf
  obtain ⟨op, a, b, c, imm⟩ := i
  unfold Ins.val at HC ⊢
  simp only at HC HT HF HN hbox a0 a1 b0 b1 c0 c1 m0 m1 Ha hla Hb hlb Himm hlimm
  generalize Lib.itoa a = Ta at HT Ha hla
  generalize Lib.itoa b = Tb at HT Hb hlb
  generalize Lib.itoa imm = Timm at HT Himm hlimm
  clear a0 a1 b0 b1 c0 c1 m0 m1
  go_enter Tryz.func26, Tryz.ntmps26
  go_wp2_with fail
  refine HC.out.mono ?_
  rintro e w1 ⟨rfl, hb1⟩
  have hb01 : Below w.heap.size w w1 := hbox.trans (hb1.mono (by simp))
  have hI1 : Blk w1 w.heap.size 27 #[.int .i64 op, .int .i64 a, .int .i64 b, .int .i64 c, .int .i64 imm] := (Blk.new w _ _).below hb1 (by simp)
  have d0 : w1.cell? ⟨w.heap.size, 0, none⟩ = some (.int .i64 op) := hI1.cell 0
  clear HC hbox hb1
  go_wp2_with fail
  refine (HF.out w1).mono ?_
  rintro e w1 ⟨rfl, rfl⟩
  go_wp2_with fail
  refine (HN.out w1).mono ?_
  rintro e w1 ⟨rfl, rfl⟩
  clear HF HN d0
  go_wp2_with fail
  refine (HU65.out _).mono ?_
  rintro e w1 ⟨rfl, rfl⟩
  have e1 : w1.cell? ⟨w.heap.size, 1, none⟩ = some (.int .i64 a) := hI1.cell 1
  have ca1 : ¬ 9223372036854775807 < 2 + Ta.length := by omega
  obtain ⟨Y1, hY1⟩ : ∃ Y : ByteArray, ((⟨#[32, 114]⟩ : ByteArray) ++ ⟨Ta.toArray⟩) = Y := ⟨_, rfl⟩
  have hYs1 : Y1.size = 2 + Ta.length := by rw [← hY1, ByteArray.size_append]; simp [ByteArray.size]
  go_wp2_with fail
  refine (Ha.out w1).mono ?_
  rintro e w2 ⟨rfl, hb2⟩
  have hb02 : Below w.heap.size w w2 := hb01.trans (hb2.mono hb01.size)
  have hI2 := hI1.below hb2 hI1.lt
  clear hb2 hb01 hI1 e1
  go_wp2_with fail
  refine (HU66.out _).mono ?_
  rintro e w2 ⟨rfl, rfl⟩
  have e2 : w2.cell? ⟨w.heap.size, 2, none⟩ = some (.int .i64 b) := hI2.cell 2
  have ca2 : ¬ 9223372036854775807 < 2 + Tb.length := by omega
  obtain ⟨Y2, hY2⟩ : ∃ Y : ByteArray, ((⟨#[32, 114]⟩ : ByteArray) ++ ⟨Tb.toArray⟩) = Y := ⟨_, rfl⟩
  have hYs2 : Y2.size = 2 + Tb.length := by rw [← hY2, ByteArray.size_append]; simp [ByteArray.size]
  go_wp2_with fail
  refine (Hb.out w2).mono ?_
  rintro e w3 ⟨rfl, hb3⟩
  have hb03 : Below w.heap.size w w3 := hb02.trans (hb3.mono hb02.size)
  have hI3 := hI2.below hb3 hI2.lt
  clear hb3 hb02 hI2 e2
  go_wp2_with fail
  refine (HU67.out _).mono ?_
  rintro e w3 ⟨rfl, rfl⟩
  go_wp2_with fail
  refine (HU73.out _).mono ?_
  rintro e w3 ⟨rfl, rfl⟩
  go_wp2_with fail
  refine (HU85.out _).mono ?_
  rintro e w3 ⟨rfl, rfl⟩
  have e4 : w3.cell? ⟨w.heap.size, 4, none⟩ = some (.int .i64 imm) := hI3.cell 4
  have ca3 : ¬ 9223372036854775807 < 1 + Timm.length := by omega
  obtain ⟨Y3, hY3⟩ : ∃ Y : ByteArray, ((⟨#[32]⟩ : ByteArray) ++ ⟨Timm.toArray⟩) = Y := ⟨_, rfl⟩
  have hYs3 : Y3.size = 1 + Timm.length := by rw [← hY3, ByteArray.size_append]; simp [ByteArray.size]
  go_wp2_with fail
  refine (Himm.out w3).mono ?_
  rintro e w4 ⟨rfl, hb4⟩
  have hb04 : Below w.heap.size w w4 := hb03.trans (hb4.mono hb03.size)
  have hI4 := hI3.below hb4 hI3.lt
  clear hb4 hb03 hI3 e4
  have HB : Hid ((⟨X.toArray⟩ : ByteArray) ++ Y1 ++ Y2 ++ Y3 = ⟨(X ++ (32 :: 114 :: Ta) ++ (32 :: 114 :: Tb) ++ (32 :: Timm)).toArray⟩) := Lib.hid (bytes_eq (by
    rw [← hY1, ← hY2, ← hY3]
    simp))
  go_wp2_with fail
  go_ret2
  refine ⟨?_, hb04⟩
  rw [HT.out, ← HB.out]
  rfl

theorem print_4 (i : Ins) (hc : checkC i = 0) (hf : formOf i.op = 4) : printT i = (opRow i.op).word ++ (32 :: 114 :: Lib.itoa i.a) ++ (32 :: Lib.itoa i.imm) := by
  obtain ⟨_, _, a0, a1, b0, b1, c0, c1, m0, m1⟩ := check_ok i hc
  rw [print_cat i hc]
  simp [fieldsT, hf, usesOf, Lib.joinTail, reg_dec, a0]

set_option maxHeartbeats 1000000 in
theorem RPrint_4 (i : Ins) (hc : checkC i = 0) (hf : formOf i.op = 4) (w : World) : Calls Tryz.prog 26 #[i.val] w fun e w' => e = .returned (.tuple #[.string ⟨(printT i).toArray⟩, .int .i64 0]) ∧ Below w.heap.size w w' := by
  have HT := Lib.hid (print_4 i hc hf)
  obtain ⟨_, _, a0, a1, b0, b1, c0, c1, m0, m1⟩ := check_ok i hc
  have hbox : Below w.heap.size w (w.alloc (.cells #[.int .i64 i.op, .int .i64 i.a, .int .i64 i.b, .int .i64 i.c, .int .i64 i.imm] 27)) := (Below.refl _ _).alloc (Nat.le_refl _) _
  have HC := RCheck_any i (w.alloc (.cells #[.int .i64 i.op, .int .i64 i.a, .int .i64 i.b, .int .i64 i.c, .int .i64 i.imm] 27))
  rw [hc] at HC
  have HC := Lib.hid HC
  have HF := Lib.hid (fun W => RForm_any i.op W)
  rw [hf] at HF
  have HN := Lib.hid (fun W => RName_any i.op W)
  have hwl := word_len i.op
  have HU65 := Lib.hid (fun W => (Uses_any 4 65 (by decide) W).mono (fun e w' h => by rw [show usesB 4 65 = true by decide +kernel] at h; exact h))
  have HU66 := Lib.hid (fun W => (Uses_any 4 66 (by decide) W).mono (fun e w' h => by rw [show usesB 4 66 = false by decide +kernel] at h; exact h))
  have HU67 := Lib.hid (fun W => (Uses_any 4 67 (by decide) W).mono (fun e w' h => by rw [show usesB 4 67 = false by decide +kernel] at h; exact h))
  have HU73 := Lib.hid (fun W => (Uses_any 4 73 (by decide) W).mono (fun e w' h => by rw [show usesB 4 73 = false by decide +kernel] at h; exact h))
  have HU85 := Lib.hid (fun W => (Uses_any 4 85 (by decide) W).mono (fun e w' h => by rw [show usesB 4 85 = true by decide +kernel] at h; exact h))
  have Ha := Lib.hid (fun W => Number10_any i.a (by omega) (by omega) W)
  have hla := itoa_short i.a (by omega) (by omega)
  have Himm := Lib.hid (fun W => Number10_any i.imm (by omega) (by omega) W)
  have hlimm := itoa_short i.imm (by omega) (by omega)
  generalize (opRow i.op).word = X at HT HN hwl
  generalize printT i = R at HT ⊢
  clear hc hf
  obtain ⟨op, a, b, c, imm⟩ := i
  unfold Ins.val at HC ⊢
  simp only at HC HT HF HN hbox a0 a1 b0 b1 c0 c1 m0 m1 Ha hla Himm hlimm
  generalize Lib.itoa a = Ta at HT Ha hla
  generalize Lib.itoa imm = Timm at HT Himm hlimm
  clear a0 a1 b0 b1 c0 c1 m0 m1
  go_enter Tryz.func26, Tryz.ntmps26
  go_wp2_with fail
  refine HC.out.mono ?_
  rintro e w1 ⟨rfl, hb1⟩
  have hb01 : Below w.heap.size w w1 := hbox.trans (hb1.mono (by simp))
  have hI1 : Blk w1 w.heap.size 27 #[.int .i64 op, .int .i64 a, .int .i64 b, .int .i64 c, .int .i64 imm] := (Blk.new w _ _).below hb1 (by simp)
  have d0 : w1.cell? ⟨w.heap.size, 0, none⟩ = some (.int .i64 op) := hI1.cell 0
  clear HC hbox hb1
  go_wp2_with fail
  refine (HF.out w1).mono ?_
  rintro e w1 ⟨rfl, rfl⟩
  go_wp2_with fail
  refine (HN.out w1).mono ?_
  rintro e w1 ⟨rfl, rfl⟩
  clear HF HN d0
  go_wp2_with fail
  refine (HU65.out _).mono ?_
  rintro e w1 ⟨rfl, rfl⟩
  have e1 : w1.cell? ⟨w.heap.size, 1, none⟩ = some (.int .i64 a) := hI1.cell 1
  have ca1 : ¬ 9223372036854775807 < 2 + Ta.length := by omega
  obtain ⟨Y1, hY1⟩ : ∃ Y : ByteArray, ((⟨#[32, 114]⟩ : ByteArray) ++ ⟨Ta.toArray⟩) = Y := ⟨_, rfl⟩
  have hYs1 : Y1.size = 2 + Ta.length := by rw [← hY1, ByteArray.size_append]; simp [ByteArray.size]
  go_wp2_with fail
  refine (Ha.out w1).mono ?_
  rintro e w2 ⟨rfl, hb2⟩
  have hb02 : Below w.heap.size w w2 := hb01.trans (hb2.mono hb01.size)
  have hI2 := hI1.below hb2 hI1.lt
  clear hb2 hb01 hI1 e1
  go_wp2_with fail
  refine (HU66.out _).mono ?_
  rintro e w2 ⟨rfl, rfl⟩
  go_wp2_with fail
  refine (HU67.out _).mono ?_
  rintro e w2 ⟨rfl, rfl⟩
  go_wp2_with fail
  refine (HU73.out _).mono ?_
  rintro e w2 ⟨rfl, rfl⟩
  go_wp2_with fail
  refine (HU85.out _).mono ?_
  rintro e w2 ⟨rfl, rfl⟩
  have e4 : w2.cell? ⟨w.heap.size, 4, none⟩ = some (.int .i64 imm) := hI2.cell 4
  have ca2 : ¬ 9223372036854775807 < 1 + Timm.length := by omega
  obtain ⟨Y2, hY2⟩ : ∃ Y : ByteArray, ((⟨#[32]⟩ : ByteArray) ++ ⟨Timm.toArray⟩) = Y := ⟨_, rfl⟩
  have hYs2 : Y2.size = 1 + Timm.length := by rw [← hY2, ByteArray.size_append]; simp [ByteArray.size]
  go_wp2_with fail
  refine (Himm.out w2).mono ?_
  rintro e w3 ⟨rfl, hb3⟩
  have hb03 : Below w.heap.size w w3 := hb02.trans (hb3.mono hb02.size)
  have hI3 := hI2.below hb3 hI2.lt
  clear hb3 hb02 hI2 e4
  have HB : Hid ((⟨X.toArray⟩ : ByteArray) ++ Y1 ++ Y2 = ⟨(X ++ (32 :: 114 :: Ta) ++ (32 :: Timm)).toArray⟩) := Lib.hid (bytes_eq (by
    rw [← hY1, ← hY2]
    simp))
  go_wp2_with fail
  go_ret2
  refine ⟨?_, hb03⟩
  rw [HT.out, ← HB.out]
  rfl

theorem print_5 (i : Ins) (hc : checkC i = 0) (hf : formOf i.op = 5) : printT i = (opRow i.op).word ++ (32 :: 114 :: Lib.itoa i.a) ++ (32 :: Lib.itoa i.imm) := by
  obtain ⟨_, _, a0, a1, b0, b1, c0, c1, m0, m1⟩ := check_ok i hc
  rw [print_cat i hc]
  simp [fieldsT, hf, usesOf, Lib.joinTail, reg_dec, a0]

set_option maxHeartbeats 1000000 in
theorem RPrint_5 (i : Ins) (hc : checkC i = 0) (hf : formOf i.op = 5) (w : World) : Calls Tryz.prog 26 #[i.val] w fun e w' => e = .returned (.tuple #[.string ⟨(printT i).toArray⟩, .int .i64 0]) ∧ Below w.heap.size w w' := by
  have HT := Lib.hid (print_5 i hc hf)
  obtain ⟨_, _, a0, a1, b0, b1, c0, c1, m0, m1⟩ := check_ok i hc
  have hbox : Below w.heap.size w (w.alloc (.cells #[.int .i64 i.op, .int .i64 i.a, .int .i64 i.b, .int .i64 i.c, .int .i64 i.imm] 27)) := (Below.refl _ _).alloc (Nat.le_refl _) _
  have HC := RCheck_any i (w.alloc (.cells #[.int .i64 i.op, .int .i64 i.a, .int .i64 i.b, .int .i64 i.c, .int .i64 i.imm] 27))
  rw [hc] at HC
  have HC := Lib.hid HC
  have HF := Lib.hid (fun W => RForm_any i.op W)
  rw [hf] at HF
  have HN := Lib.hid (fun W => RName_any i.op W)
  have hwl := word_len i.op
  have HU65 := Lib.hid (fun W => (Uses_any 5 65 (by decide) W).mono (fun e w' h => by rw [show usesB 5 65 = true by decide +kernel] at h; exact h))
  have HU66 := Lib.hid (fun W => (Uses_any 5 66 (by decide) W).mono (fun e w' h => by rw [show usesB 5 66 = false by decide +kernel] at h; exact h))
  have HU67 := Lib.hid (fun W => (Uses_any 5 67 (by decide) W).mono (fun e w' h => by rw [show usesB 5 67 = false by decide +kernel] at h; exact h))
  have HU73 := Lib.hid (fun W => (Uses_any 5 73 (by decide) W).mono (fun e w' h => by rw [show usesB 5 73 = true by decide +kernel] at h; exact h))
  have HU85 := Lib.hid (fun W => (Uses_any 5 85 (by decide) W).mono (fun e w' h => by rw [show usesB 5 85 = false by decide +kernel] at h; exact h))
  have Ha := Lib.hid (fun W => Number10_any i.a (by omega) (by omega) W)
  have hla := itoa_short i.a (by omega) (by omega)
  have Himm := Lib.hid (fun W => Number10_any i.imm (by omega) (by omega) W)
  have hlimm := itoa_short i.imm (by omega) (by omega)
  generalize (opRow i.op).word = X at HT HN hwl
  generalize printT i = R at HT ⊢
  clear hc hf
  obtain ⟨op, a, b, c, imm⟩ := i
  unfold Ins.val at HC ⊢
  simp only at HC HT HF HN hbox a0 a1 b0 b1 c0 c1 m0 m1 Ha hla Himm hlimm
  generalize Lib.itoa a = Ta at HT Ha hla
  generalize Lib.itoa imm = Timm at HT Himm hlimm
  clear a0 a1 b0 b1 c0 c1 m0 m1
  go_enter Tryz.func26, Tryz.ntmps26
  go_wp2_with fail
  refine HC.out.mono ?_
  rintro e w1 ⟨rfl, hb1⟩
  have hb01 : Below w.heap.size w w1 := hbox.trans (hb1.mono (by simp))
  have hI1 : Blk w1 w.heap.size 27 #[.int .i64 op, .int .i64 a, .int .i64 b, .int .i64 c, .int .i64 imm] := (Blk.new w _ _).below hb1 (by simp)
  have d0 : w1.cell? ⟨w.heap.size, 0, none⟩ = some (.int .i64 op) := hI1.cell 0
  clear HC hbox hb1
  go_wp2_with fail
  refine (HF.out w1).mono ?_
  rintro e w1 ⟨rfl, rfl⟩
  go_wp2_with fail
  refine (HN.out w1).mono ?_
  rintro e w1 ⟨rfl, rfl⟩
  clear HF HN d0
  go_wp2_with fail
  refine (HU65.out _).mono ?_
  rintro e w1 ⟨rfl, rfl⟩
  have e1 : w1.cell? ⟨w.heap.size, 1, none⟩ = some (.int .i64 a) := hI1.cell 1
  have ca1 : ¬ 9223372036854775807 < 2 + Ta.length := by omega
  obtain ⟨Y1, hY1⟩ : ∃ Y : ByteArray, ((⟨#[32, 114]⟩ : ByteArray) ++ ⟨Ta.toArray⟩) = Y := ⟨_, rfl⟩
  have hYs1 : Y1.size = 2 + Ta.length := by rw [← hY1, ByteArray.size_append]; simp [ByteArray.size]
  go_wp2_with fail
  refine (Ha.out w1).mono ?_
  rintro e w2 ⟨rfl, hb2⟩
  have hb02 : Below w.heap.size w w2 := hb01.trans (hb2.mono hb01.size)
  have hI2 := hI1.below hb2 hI1.lt
  clear hb2 hb01 hI1 e1
  go_wp2_with fail
  refine (HU66.out _).mono ?_
  rintro e w2 ⟨rfl, rfl⟩
  go_wp2_with fail
  refine (HU67.out _).mono ?_
  rintro e w2 ⟨rfl, rfl⟩
  go_wp2_with fail
  refine (HU73.out _).mono ?_
  rintro e w2 ⟨rfl, rfl⟩
  have e4 : w2.cell? ⟨w.heap.size, 4, none⟩ = some (.int .i64 imm) := hI2.cell 4
  have ca2 : ¬ 9223372036854775807 < 1 + Timm.length := by omega
  obtain ⟨Y2, hY2⟩ : ∃ Y : ByteArray, ((⟨#[32]⟩ : ByteArray) ++ ⟨Timm.toArray⟩) = Y := ⟨_, rfl⟩
  have hYs2 : Y2.size = 1 + Timm.length := by rw [← hY2, ByteArray.size_append]; simp [ByteArray.size]
  go_wp2_with fail
  refine (Himm.out w2).mono ?_
  rintro e w3 ⟨rfl, hb3⟩
  have hb03 : Below w.heap.size w w3 := hb02.trans (hb3.mono hb02.size)
  have hI3 := hI2.below hb3 hI2.lt
  clear hb3 hb02 hI2 e4
  have HB : Hid ((⟨X.toArray⟩ : ByteArray) ++ Y1 ++ Y2 = ⟨(X ++ (32 :: 114 :: Ta) ++ (32 :: Timm)).toArray⟩) := Lib.hid (bytes_eq (by
    rw [← hY1, ← hY2]
    simp))
  go_wp2_with fail
  go_ret2
  refine ⟨?_, hb03⟩
  rw [HT.out, ← HB.out]
  rfl

theorem print_6 (i : Ins) (hc : checkC i = 0) (hf : formOf i.op = 6) : printT i = (opRow i.op).word ++ (32 :: 114 :: Lib.itoa i.b) ++ (32 :: Lib.itoa i.imm) := by
  obtain ⟨_, _, a0, a1, b0, b1, c0, c1, m0, m1⟩ := check_ok i hc
  rw [print_cat i hc]
  simp [fieldsT, hf, usesOf, Lib.joinTail, reg_dec, b0]

set_option maxHeartbeats 1000000 in
theorem RPrint_6 (i : Ins) (hc : checkC i = 0) (hf : formOf i.op = 6) (w : World) : Calls Tryz.prog 26 #[i.val] w fun e w' => e = .returned (.tuple #[.string ⟨(printT i).toArray⟩, .int .i64 0]) ∧ Below w.heap.size w w' := by
  have HT := Lib.hid (print_6 i hc hf)
  obtain ⟨_, _, a0, a1, b0, b1, c0, c1, m0, m1⟩ := check_ok i hc
  have hbox : Below w.heap.size w (w.alloc (.cells #[.int .i64 i.op, .int .i64 i.a, .int .i64 i.b, .int .i64 i.c, .int .i64 i.imm] 27)) := (Below.refl _ _).alloc (Nat.le_refl _) _
  have HC := RCheck_any i (w.alloc (.cells #[.int .i64 i.op, .int .i64 i.a, .int .i64 i.b, .int .i64 i.c, .int .i64 i.imm] 27))
  rw [hc] at HC
  have HC := Lib.hid HC
  have HF := Lib.hid (fun W => RForm_any i.op W)
  rw [hf] at HF
  have HN := Lib.hid (fun W => RName_any i.op W)
  have hwl := word_len i.op
  have HU65 := Lib.hid (fun W => (Uses_any 6 65 (by decide) W).mono (fun e w' h => by rw [show usesB 6 65 = false by decide +kernel] at h; exact h))
  have HU66 := Lib.hid (fun W => (Uses_any 6 66 (by decide) W).mono (fun e w' h => by rw [show usesB 6 66 = true by decide +kernel] at h; exact h))
  have HU67 := Lib.hid (fun W => (Uses_any 6 67 (by decide) W).mono (fun e w' h => by rw [show usesB 6 67 = false by decide +kernel] at h; exact h))
  have HU73 := Lib.hid (fun W => (Uses_any 6 73 (by decide) W).mono (fun e w' h => by rw [show usesB 6 73 = true by decide +kernel] at h; exact h))
  have HU85 := Lib.hid (fun W => (Uses_any 6 85 (by decide) W).mono (fun e w' h => by rw [show usesB 6 85 = false by decide +kernel] at h; exact h))
  have Hb := Lib.hid (fun W => Number10_any i.b (by omega) (by omega) W)
  have hlb := itoa_short i.b (by omega) (by omega)
  have Himm := Lib.hid (fun W => Number10_any i.imm (by omega) (by omega) W)
  have hlimm := itoa_short i.imm (by omega) (by omega)
  generalize (opRow i.op).word = X at HT HN hwl
  generalize printT i = R at HT ⊢
  clear hc hf
  obtain ⟨op, a, b, c, imm⟩ := i
  unfold Ins.val at HC ⊢
  simp only at HC HT HF HN hbox a0 a1 b0 b1 c0 c1 m0 m1 Hb hlb Himm hlimm
  generalize Lib.itoa b = Tb at HT Hb hlb
  generalize Lib.itoa imm = Timm at HT Himm hlimm
  clear a0 a1 b0 b1 c0 c1 m0 m1
  go_enter Tryz.func26, Tryz.ntmps26
  go_wp2_with fail
  refine HC.out.mono ?_
  rintro e w1 ⟨rfl, hb1⟩
  have hb01 : Below w.heap.size w w1 := hbox.trans (hb1.mono (by simp))
  have hI1 : Blk w1 w.heap.size 27 #[.int .i64 op, .int .i64 a, .int .i64 b, .int .i64 c, .int .i64 imm] := (Blk.new w _ _).below hb1 (by simp)
  have d0 : w1.cell? ⟨w.heap.size, 0, none⟩ = some (.int .i64 op) := hI1.cell 0
  clear HC hbox hb1
  go_wp2_with fail
  refine (HF.out w1).mono ?_
  rintro e w1 ⟨rfl, rfl⟩
  go_wp2_with fail
  refine (HN.out w1).mono ?_
  rintro e w1 ⟨rfl, rfl⟩
  clear HF HN d0
  go_wp2_with fail
  refine (HU65.out _).mono ?_
  rintro e w1 ⟨rfl, rfl⟩
  go_wp2_with fail
  refine (HU66.out _).mono ?_
  rintro e w1 ⟨rfl, rfl⟩
  have e2 : w1.cell? ⟨w.heap.size, 2, none⟩ = some (.int .i64 b) := hI1.cell 2
  have ca1 : ¬ 9223372036854775807 < 2 + Tb.length := by omega
  obtain ⟨Y1, hY1⟩ : ∃ Y : ByteArray, ((⟨#[32, 114]⟩ : ByteArray) ++ ⟨Tb.toArray⟩) = Y := ⟨_, rfl⟩
  have hYs1 : Y1.size = 2 + Tb.length := by rw [← hY1, ByteArray.size_append]; simp [ByteArray.size]
  go_wp2_with fail
  refine (Hb.out w1).mono ?_
  rintro e w2 ⟨rfl, hb2⟩
  have hb02 : Below w.heap.size w w2 := hb01.trans (hb2.mono hb01.size)
  have hI2 := hI1.below hb2 hI1.lt
  clear hb2 hb01 hI1 e2
  go_wp2_with fail
  refine (HU67.out _).mono ?_
  rintro e w2 ⟨rfl, rfl⟩
  go_wp2_with fail
  refine (HU73.out _).mono ?_
  rintro e w2 ⟨rfl, rfl⟩
  have e4 : w2.cell? ⟨w.heap.size, 4, none⟩ = some (.int .i64 imm) := hI2.cell 4
  have ca2 : ¬ 9223372036854775807 < 1 + Timm.length := by omega
  obtain ⟨Y2, hY2⟩ : ∃ Y : ByteArray, ((⟨#[32]⟩ : ByteArray) ++ ⟨Timm.toArray⟩) = Y := ⟨_, rfl⟩
  have hYs2 : Y2.size = 1 + Timm.length := by rw [← hY2, ByteArray.size_append]; simp [ByteArray.size]
  go_wp2_with fail
  refine (Himm.out w2).mono ?_
  rintro e w3 ⟨rfl, hb3⟩
  have hb03 : Below w.heap.size w w3 := hb02.trans (hb3.mono hb02.size)
  have hI3 := hI2.below hb3 hI2.lt
  clear hb3 hb02 hI2 e4
  have HB : Hid ((⟨X.toArray⟩ : ByteArray) ++ Y1 ++ Y2 = ⟨(X ++ (32 :: 114 :: Tb) ++ (32 :: Timm)).toArray⟩) := Lib.hid (bytes_eq (by
    rw [← hY1, ← hY2]
    simp))
  go_wp2_with fail
  go_ret2
  refine ⟨?_, hb03⟩
  rw [HT.out, ← HB.out]
  rfl

theorem print_7 (i : Ins) (hc : checkC i = 0) (hf : formOf i.op = 7) : printT i = (opRow i.op).word ++ (32 :: Lib.itoa i.imm) := by
  obtain ⟨_, _, a0, a1, b0, b1, c0, c1, m0, m1⟩ := check_ok i hc
  rw [print_cat i hc]
  simp [fieldsT, hf, usesOf, Lib.joinTail]

set_option maxHeartbeats 1000000 in
theorem RPrint_7 (i : Ins) (hc : checkC i = 0) (hf : formOf i.op = 7) (w : World) : Calls Tryz.prog 26 #[i.val] w fun e w' => e = .returned (.tuple #[.string ⟨(printT i).toArray⟩, .int .i64 0]) ∧ Below w.heap.size w w' := by
  have HT := Lib.hid (print_7 i hc hf)
  obtain ⟨_, _, a0, a1, b0, b1, c0, c1, m0, m1⟩ := check_ok i hc
  have hbox : Below w.heap.size w (w.alloc (.cells #[.int .i64 i.op, .int .i64 i.a, .int .i64 i.b, .int .i64 i.c, .int .i64 i.imm] 27)) := (Below.refl _ _).alloc (Nat.le_refl _) _
  have HC := RCheck_any i (w.alloc (.cells #[.int .i64 i.op, .int .i64 i.a, .int .i64 i.b, .int .i64 i.c, .int .i64 i.imm] 27))
  rw [hc] at HC
  have HC := Lib.hid HC
  have HF := Lib.hid (fun W => RForm_any i.op W)
  rw [hf] at HF
  have HN := Lib.hid (fun W => RName_any i.op W)
  have hwl := word_len i.op
  have HU65 := Lib.hid (fun W => (Uses_any 7 65 (by decide) W).mono (fun e w' h => by rw [show usesB 7 65 = false by decide +kernel] at h; exact h))
  have HU66 := Lib.hid (fun W => (Uses_any 7 66 (by decide) W).mono (fun e w' h => by rw [show usesB 7 66 = false by decide +kernel] at h; exact h))
  have HU67 := Lib.hid (fun W => (Uses_any 7 67 (by decide) W).mono (fun e w' h => by rw [show usesB 7 67 = false by decide +kernel] at h; exact h))
  have HU73 := Lib.hid (fun W => (Uses_any 7 73 (by decide) W).mono (fun e w' h => by rw [show usesB 7 73 = false by decide +kernel] at h; exact h))
  have HU85 := Lib.hid (fun W => (Uses_any 7 85 (by decide) W).mono (fun e w' h => by rw [show usesB 7 85 = true by decide +kernel] at h; exact h))
  have Himm := Lib.hid (fun W => Number10_any i.imm (by omega) (by omega) W)
  have hlimm := itoa_short i.imm (by omega) (by omega)
  generalize (opRow i.op).word = X at HT HN hwl
  generalize printT i = R at HT ⊢
  clear hc hf
  obtain ⟨op, a, b, c, imm⟩ := i
  unfold Ins.val at HC ⊢
  simp only at HC HT HF HN hbox a0 a1 b0 b1 c0 c1 m0 m1 Himm hlimm
  generalize Lib.itoa imm = Timm at HT Himm hlimm
  clear a0 a1 b0 b1 c0 c1 m0 m1
  go_enter Tryz.func26, Tryz.ntmps26
  go_wp2_with fail
  refine HC.out.mono ?_
  rintro e w1 ⟨rfl, hb1⟩
  have hb01 : Below w.heap.size w w1 := hbox.trans (hb1.mono (by simp))
  have hI1 : Blk w1 w.heap.size 27 #[.int .i64 op, .int .i64 a, .int .i64 b, .int .i64 c, .int .i64 imm] := (Blk.new w _ _).below hb1 (by simp)
  have d0 : w1.cell? ⟨w.heap.size, 0, none⟩ = some (.int .i64 op) := hI1.cell 0
  clear HC hbox hb1
  go_wp2_with fail
  refine (HF.out w1).mono ?_
  rintro e w1 ⟨rfl, rfl⟩
  go_wp2_with fail
  refine (HN.out w1).mono ?_
  rintro e w1 ⟨rfl, rfl⟩
  clear HF HN d0
  go_wp2_with fail
  refine (HU65.out _).mono ?_
  rintro e w1 ⟨rfl, rfl⟩
  go_wp2_with fail
  refine (HU66.out _).mono ?_
  rintro e w1 ⟨rfl, rfl⟩
  go_wp2_with fail
  refine (HU67.out _).mono ?_
  rintro e w1 ⟨rfl, rfl⟩
  go_wp2_with fail
  refine (HU73.out _).mono ?_
  rintro e w1 ⟨rfl, rfl⟩
  go_wp2_with fail
  refine (HU85.out _).mono ?_
  rintro e w1 ⟨rfl, rfl⟩
  have e4 : w1.cell? ⟨w.heap.size, 4, none⟩ = some (.int .i64 imm) := hI1.cell 4
  have ca1 : ¬ 9223372036854775807 < 1 + Timm.length := by omega
  obtain ⟨Y1, hY1⟩ : ∃ Y : ByteArray, ((⟨#[32]⟩ : ByteArray) ++ ⟨Timm.toArray⟩) = Y := ⟨_, rfl⟩
  have hYs1 : Y1.size = 1 + Timm.length := by rw [← hY1, ByteArray.size_append]; simp [ByteArray.size]
  go_wp2_with fail
  refine (Himm.out w1).mono ?_
  rintro e w2 ⟨rfl, hb2⟩
  have hb02 : Below w.heap.size w w2 := hb01.trans (hb2.mono hb01.size)
  have hI2 := hI1.below hb2 hI1.lt
  clear hb2 hb01 hI1 e4
  have HB : Hid ((⟨X.toArray⟩ : ByteArray) ++ Y1 = ⟨(X ++ (32 :: Timm)).toArray⟩) := Lib.hid (bytes_eq (by
    rw [← hY1]
    simp))
  go_wp2_with fail
  go_ret2
  refine ⟨?_, hb02⟩
  rw [HT.out, ← HB.out]
  rfl

theorem RPrint_any (i : Ins) (w : World) : Calls Tryz.prog 26 #[i.val] w fun e w' => e = .returned (.tuple #[.string ⟨(if checkC i = 0 then printT i else []).toArray⟩, .int .i64 (checkC i)]) ∧ Below w.heap.size w w' := by
  by_cases hc : checkC i = 0
  · rw [if_pos hc, hc]
    obtain ⟨_, _, _, _, _, _, _, _, _, _⟩ := check_ok i hc
    obtain ⟨hf0, hf7⟩ := form_range i.op
    have hne := (check_fields i hc).1
    have hf : formOf i.op = 1 ∨ formOf i.op = 2 ∨ formOf i.op = 3 ∨ formOf i.op = 4 ∨ formOf i.op = 5 ∨ formOf i.op = 6 ∨ formOf i.op = 7 := by omega
    rcases hf with h | h | h | h | h | h | h
    · exact RPrint_1 i hc h w
    · exact RPrint_2 i hc h w
    · exact RPrint_3 i hc h w
    · exact RPrint_4 i hc h w
    · exact RPrint_5 i hc h w
    · exact RPrint_6 i hc h w
    · exact RPrint_7 i hc h w
  · rw [if_neg hc]
    have hbox : Below w.heap.size w (w.alloc (.cells #[.int .i64 i.op, .int .i64 i.a, .int .i64 i.b, .int .i64 i.c, .int .i64 i.imm] 27)) := (Below.refl _ _).alloc (Nat.le_refl _) _
    have HC := Lib.hid (RCheck_any i (w.alloc (.cells #[.int .i64 i.op, .int .i64 i.a, .int .i64 i.b, .int .i64 i.c, .int .i64 i.imm] 27)))
    generalize checkC i = cd at HC hc ⊢
    have hq : ((cd : Int) != 0) = true := by simp [hc]
    clear hc
    obtain ⟨op, a, b, c, imm⟩ := i
    unfold Ins.val at HC ⊢
    simp only at HC hbox
    go_enter Tryz.func26, Tryz.ntmps26
    go_wp2_with fail
    refine HC.out.mono ?_
    rintro e w1 ⟨rfl, hb1⟩
    have hb01 : Below w.heap.size w w1 := hbox.trans (hb1.mono (by simp))
    clear HC hbox hb1
    go_wp2_with fail
    go_ret2
    exact ⟨rfl, hb01⟩
end Go.Proofs.YtecmeegnjjhilaaGreatDoor

/- The document's loose reading of a number, and of a field. -/
namespace Go.Proofs.YtecmeegnjjhilaaGreatDoor
open Go.RowKit
def looseN : List UInt8 → Int → Int
  | [], n => n
  | c :: r, n => if 48 ≤ c.toNat ∧ c.toNat ≤ 57 ∧ n < 1000000 then looseN r (n * 10 + ((c.toNat : Int) - 48)) else looseN r n
def looseP (l : List UInt8) : Int := if (45 : UInt8) ∈ l then -looseN l 0 else looseN l 0

set_option maxHeartbeats 1000000 in
set_option maxRecDepth 100000 in
theorem loose_any (s : ByteArray) (hs : s.size ≤ 1000) (w : World) : Calls Tryz.prog 80 #[.string s] w fun e w' => e = .returned (.int .i64 (looseP s.data.toList)) ∧ w = w' := by
  have HZ : Hid (s.size = s.data.toList.length) := Lib.hid (Lib.size_eq s)
  go_enter Tryz.func80, Tryz.ntmps80
  go_wp2_with fail
  go_loopw [3, 4, 5] (fun s3 s4 s5 wr => wr = w ∧ ∃ (n : Int) (i : Nat) (g : Bool), 0 ≤ n ∧ n < 10000000 ∧ i ≤ s.size ∧ s3 = .int .i64 n ∧ s4 = .int .i64 (if g then -1 else 1) ∧ s5 = .int .i64 i ∧ Hid (looseN s.data.toList 0 = looseN (s.data.toList.drop i) n) ∧ Hid (g = true ↔ (45 : UInt8) ∈ s.data.toList.take i)) (fun _ _ s5 _ => s.size - (intOf s5).toNat)
  case atStart => exact ⟨rfl, 0, 0, false, by omega, by omega, by omega, rfl, rfl, rfl, Lib.hid rfl, Lib.hid (by simp)⟩
  case round =>
    obtain ⟨rfl, n, i, g, hn0, hn, hi, rfl, rfl, rfl, HN, HG⟩ := hrel
    by_cases hlt : i < s.size
    · have hb : s.data.toList[i]? = some (s[i]'hlt) := by
        have hsz := HZ.out
        rw [List.getElem?_eq_getElem (by omega)]
        rfl
      have HSt : Hid (looseN (s.data.toList.drop i) n = if 48 ≤ (s[i]'hlt).toNat ∧ (s[i]'hlt).toNat ≤ 57 ∧ n < 1000000 then looseN (s.data.toList.drop (i + 1)) (n * 10 + (((s[i]'hlt).toNat : Int) - 48)) else looseN (s.data.toList.drop (i + 1)) n) := Lib.hid (by
        obtain ⟨hl1, he⟩ := List.getElem?_eq_some_iff.1 hb
        rw [List.drop_eq_getElem_cons hl1, he]
        rfl)
      have HG2 : Hid ((45 : UInt8) ∈ s.data.toList.take (i + 1) ↔ ((45 : UInt8) ∈ s.data.toList.take i ∨ (s[i]'hlt).toNat = 45)) := Lib.hid (by
        rw [List.take_add_one, hb]
        simp only [Option.toList_some, List.mem_append, List.mem_singleton]
        constructor
        · rintro (h | h)
          · exact .inl h
          · exact .inr (by rw [← h]; rfl)
        · rintro (h | h)
          · exact .inl h
          · exact .inr (UInt8.toNat_inj.1 h.symm))
      clear hb
      generalize hx : (s[i]'hlt).toNat = x at HSt HG2
      by_cases h45 : x = 45
      · subst h45
        have HNx : Hid (looseN s.data.toList 0 = looseN (s.data.toList.drop (i + 1)) n) := Lib.hid (by rw [HN.out, HSt.out]; simp)
        have HGx : Hid (true = true ↔ (45 : UInt8) ∈ s.data.toList.take (i + 1)) := Lib.hid (by simp [HG2.out])
        clear HN HSt HG HG2
        go_wp2_with fail
        go_roundw
        case rel => exact ⟨trivial, n, i + 1, true, by omega, by omega, by omega, rfl, rfl, by go_num, HNx, HGx⟩
        case measure => simp [intOf]; omega
      · have HGx : Hid (g = true ↔ (45 : UInt8) ∈ s.data.toList.take (i + 1)) := Lib.hid (by rw [HG2.out, HG.out]; simp [h45])
        clear HG HG2
        by_cases d1 : 48 ≤ x
        · by_cases d2 : x ≤ 57
          · by_cases d3 : n < 1000000
            · have HNx : Hid (looseN s.data.toList 0 = looseN (s.data.toList.drop (i + 1)) (n * 10 + ((x : Int) - 48))) := Lib.hid (by rw [HN.out, HSt.out, if_pos ⟨d1, d2, by omega⟩])
              clear HN HSt
              go_wp2_with fail
              go_roundw
              case rel => exact ⟨trivial, n * 10 + ((x : Int) - 48), i + 1, g, by omega, by omega, by omega, by go_num, rfl, by go_num, HNx, HGx⟩
              case measure => simp [intOf]; omega
            · have HNx : Hid (looseN s.data.toList 0 = looseN (s.data.toList.drop (i + 1)) n) := Lib.hid (by rw [HN.out, HSt.out, if_neg (fun h => by omega)])
              clear HN HSt
              go_wp2_with fail
              go_roundw
              case rel => exact ⟨trivial, n, i + 1, g, by omega, by omega, by omega, rfl, rfl, by go_num, HNx, HGx⟩
              case measure => simp [intOf]; omega
          · have HNx : Hid (looseN s.data.toList 0 = looseN (s.data.toList.drop (i + 1)) n) := Lib.hid (by rw [HN.out, HSt.out, if_neg (fun h => by omega)])
            clear HN HSt
            go_wp2_with fail
            go_roundw
            case rel => exact ⟨trivial, n, i + 1, g, by omega, by omega, by omega, rfl, rfl, by go_num, HNx, HGx⟩
            case measure => simp [intOf]; omega
        · have HNx : Hid (looseN s.data.toList 0 = looseN (s.data.toList.drop (i + 1)) n) := Lib.hid (by rw [HN.out, HSt.out, if_neg (fun h => by omega)])
          clear HN HSt
          go_wp2_with fail
          go_roundw
          case rel => exact ⟨trivial, n, i + 1, g, by omega, by omega, by omega, rfl, rfl, by go_num, HNx, HGx⟩
          case measure => simp [intOf]; omega
    · obtain rfl : i = s.size := by omega
      have HR : Hid (looseP s.data.toList = if g then -n else n) := Lib.hid (by
        have hsz := HZ.out
        have h1 := HG.out
        rw [hsz, List.take_length] at h1
        have h2 := HN.out
        rw [hsz, List.drop_length] at h2
        unfold looseP
        rw [h2]
        cases g with
        | true => rw [if_pos (h1.1 rfl), if_pos rfl]; rfl
        | false => rw [if_neg (fun h => by simpa using h1.2 h), if_neg (by simp)]; rfl)
      clear HN HG
      cases g with
      | true =>
        go_wp2_with fail
        go_ret
        rw [HR.out]
        exact ⟨by simp, rfl⟩
      | false =>
        go_wp2_with fail
        go_ret
        rw [HR.out]
        exact ⟨by simp, rfl⟩
-- WITH

set_option maxHeartbeats 1000000 in
theorem with_65 (op a b c imm : Int) (s : ByteArray) (hs : s.size ≤ 1000) (w : World) : Calls Tryz.prog 57 #[.agg #[.int .i64 op, .int .i64 a, .int .i64 b, .int .i64 c, .int .i64 imm], .int .u8 65, .string s] w fun e w' => e = .returned (.agg #[.int .i64 op, .int .i64 (looseP s.data.toList), .int .i64 b, .int .i64 c, .int .i64 imm]) ∧ Below w.heap.size w w' := by
  have HL := Lib.hid (fun W => loose_any s hs W)
  generalize looseP s.data.toList = V at HL ⊢
  have hb0 : Below w.heap.size w ((w.alloc (.cells #[.int .i64 op, .int .i64 a, .int .i64 b, .int .i64 c, .int .i64 imm] 27)).alloc (.cells #[.int .i64 0, .int .i64 0, .int .i64 0, .int .i64 0, .int .i64 0] 27)) := ((Below.refl _ _).alloc (Nat.le_refl _) _).alloc (by simp) _
  have hI : Blk ((w.alloc (.cells #[.int .i64 op, .int .i64 a, .int .i64 b, .int .i64 c, .int .i64 imm] 27)).alloc (.cells #[.int .i64 0, .int .i64 0, .int .i64 0, .int .i64 0, .int .i64 0] 27)) w.heap.size 27 #[.int .i64 op, .int .i64 a, .int .i64 b, .int .i64 c, .int .i64 imm] := (Blk.new w _ _).alloc _
  have hR : Blk ((w.alloc (.cells #[.int .i64 op, .int .i64 a, .int .i64 b, .int .i64 c, .int .i64 imm] 27)).alloc (.cells #[.int .i64 0, .int .i64 0, .int .i64 0, .int .i64 0, .int .i64 0] 27)) (w.heap.size + 1) 27 #[.int .i64 0, .int .i64 0, .int .i64 0, .int .i64 0, .int .i64 0] := by
    have := Blk.new (w.alloc (.cells #[.int .i64 op, .int .i64 a, .int .i64 b, .int .i64 c, .int .i64 imm] 27)) 27 #[.int .i64 0, .int .i64 0, .int .i64 0, .int .i64 0, .int .i64 0]
    simpa using this
  go_enter Tryz.func57, Tryz.ntmps57
  go_wp2_with fail
  generalize ((w.alloc (.cells #[.int .i64 op, .int .i64 a, .int .i64 b, .int .i64 c, .int .i64 imm] 27)).alloc (.cells #[.int .i64 0, .int .i64 0, .int .i64 0, .int .i64 0, .int .i64 0] 27)) = w1 at hb0 hI hR ⊢
  refine (HL.out w1).mono ?_
  rintro e w1 ⟨rfl, rfl⟩
  have i0 : w1.cell? ⟨w.heap.size, 0, none⟩ = some (.int .i64 op) := hI.cell 0
  have r0 : w1.cell? ⟨w.heap.size + 1, 0, none⟩ = some (.int .i64 0) := hR.cell 0
  have g0 : w1.frozen? ⟨w.heap.size + 1, 0, none⟩ = false := hR.frozen 0
  have i1 : w1.cell? ⟨w.heap.size, 1, none⟩ = some (.int .i64 a) := hI.cell 1
  have r1 : w1.cell? ⟨w.heap.size + 1, 1, none⟩ = some (.int .i64 0) := hR.cell 1
  have g1 : w1.frozen? ⟨w.heap.size + 1, 1, none⟩ = false := hR.frozen 1
  have i2 : w1.cell? ⟨w.heap.size, 2, none⟩ = some (.int .i64 b) := hI.cell 2
  have r2 : w1.cell? ⟨w.heap.size + 1, 2, none⟩ = some (.int .i64 0) := hR.cell 2
  have g2 : w1.frozen? ⟨w.heap.size + 1, 2, none⟩ = false := hR.frozen 2
  have i3 : w1.cell? ⟨w.heap.size, 3, none⟩ = some (.int .i64 c) := hI.cell 3
  have r3 : w1.cell? ⟨w.heap.size + 1, 3, none⟩ = some (.int .i64 0) := hR.cell 3
  have g3 : w1.frozen? ⟨w.heap.size + 1, 3, none⟩ = false := hR.frozen 3
  have i4 : w1.cell? ⟨w.heap.size, 4, none⟩ = some (.int .i64 imm) := hI.cell 4
  have r4 : w1.cell? ⟨w.heap.size + 1, 4, none⟩ = some (.int .i64 0) := hR.cell 4
  have g4 : w1.frozen? ⟨w.heap.size + 1, 4, none⟩ = false := hR.frozen 4
  have j1 : w1.frozen? ⟨w.heap.size, 1, none⟩ = false := hI.frozen 1
  clear hI hR HL
  go_wp2
  refine bodyPost_ret (v := .agg #[.int .i64 op, .int .i64 V, .int .i64 b, .int .i64 c, .int .i64 imm]) (by simp [results, Tryz.results57, go_sem, r0, r1, r2, r3, r4]) rfl ⟨rfl, ?_⟩
  exact (((((hb0.setCell (Nat.le_refl _) _).setCell (by simp) _).setCell (by simp) _).setCell (by simp) _).setCell (by simp) _).setCell (by simp) _

set_option maxHeartbeats 1000000 in
theorem with_66 (op a b c imm : Int) (s : ByteArray) (hs : s.size ≤ 1000) (w : World) : Calls Tryz.prog 57 #[.agg #[.int .i64 op, .int .i64 a, .int .i64 b, .int .i64 c, .int .i64 imm], .int .u8 66, .string s] w fun e w' => e = .returned (.agg #[.int .i64 op, .int .i64 a, .int .i64 (looseP s.data.toList), .int .i64 c, .int .i64 imm]) ∧ Below w.heap.size w w' := by
  have HL := Lib.hid (fun W => loose_any s hs W)
  generalize looseP s.data.toList = V at HL ⊢
  have hb0 : Below w.heap.size w ((w.alloc (.cells #[.int .i64 op, .int .i64 a, .int .i64 b, .int .i64 c, .int .i64 imm] 27)).alloc (.cells #[.int .i64 0, .int .i64 0, .int .i64 0, .int .i64 0, .int .i64 0] 27)) := ((Below.refl _ _).alloc (Nat.le_refl _) _).alloc (by simp) _
  have hI : Blk ((w.alloc (.cells #[.int .i64 op, .int .i64 a, .int .i64 b, .int .i64 c, .int .i64 imm] 27)).alloc (.cells #[.int .i64 0, .int .i64 0, .int .i64 0, .int .i64 0, .int .i64 0] 27)) w.heap.size 27 #[.int .i64 op, .int .i64 a, .int .i64 b, .int .i64 c, .int .i64 imm] := (Blk.new w _ _).alloc _
  have hR : Blk ((w.alloc (.cells #[.int .i64 op, .int .i64 a, .int .i64 b, .int .i64 c, .int .i64 imm] 27)).alloc (.cells #[.int .i64 0, .int .i64 0, .int .i64 0, .int .i64 0, .int .i64 0] 27)) (w.heap.size + 1) 27 #[.int .i64 0, .int .i64 0, .int .i64 0, .int .i64 0, .int .i64 0] := by
    have := Blk.new (w.alloc (.cells #[.int .i64 op, .int .i64 a, .int .i64 b, .int .i64 c, .int .i64 imm] 27)) 27 #[.int .i64 0, .int .i64 0, .int .i64 0, .int .i64 0, .int .i64 0]
    simpa using this
  go_enter Tryz.func57, Tryz.ntmps57
  go_wp2_with fail
  generalize ((w.alloc (.cells #[.int .i64 op, .int .i64 a, .int .i64 b, .int .i64 c, .int .i64 imm] 27)).alloc (.cells #[.int .i64 0, .int .i64 0, .int .i64 0, .int .i64 0, .int .i64 0] 27)) = w1 at hb0 hI hR ⊢
  refine (HL.out w1).mono ?_
  rintro e w1 ⟨rfl, rfl⟩
  have i0 : w1.cell? ⟨w.heap.size, 0, none⟩ = some (.int .i64 op) := hI.cell 0
  have r0 : w1.cell? ⟨w.heap.size + 1, 0, none⟩ = some (.int .i64 0) := hR.cell 0
  have g0 : w1.frozen? ⟨w.heap.size + 1, 0, none⟩ = false := hR.frozen 0
  have i1 : w1.cell? ⟨w.heap.size, 1, none⟩ = some (.int .i64 a) := hI.cell 1
  have r1 : w1.cell? ⟨w.heap.size + 1, 1, none⟩ = some (.int .i64 0) := hR.cell 1
  have g1 : w1.frozen? ⟨w.heap.size + 1, 1, none⟩ = false := hR.frozen 1
  have i2 : w1.cell? ⟨w.heap.size, 2, none⟩ = some (.int .i64 b) := hI.cell 2
  have r2 : w1.cell? ⟨w.heap.size + 1, 2, none⟩ = some (.int .i64 0) := hR.cell 2
  have g2 : w1.frozen? ⟨w.heap.size + 1, 2, none⟩ = false := hR.frozen 2
  have i3 : w1.cell? ⟨w.heap.size, 3, none⟩ = some (.int .i64 c) := hI.cell 3
  have r3 : w1.cell? ⟨w.heap.size + 1, 3, none⟩ = some (.int .i64 0) := hR.cell 3
  have g3 : w1.frozen? ⟨w.heap.size + 1, 3, none⟩ = false := hR.frozen 3
  have i4 : w1.cell? ⟨w.heap.size, 4, none⟩ = some (.int .i64 imm) := hI.cell 4
  have r4 : w1.cell? ⟨w.heap.size + 1, 4, none⟩ = some (.int .i64 0) := hR.cell 4
  have g4 : w1.frozen? ⟨w.heap.size + 1, 4, none⟩ = false := hR.frozen 4
  have j2 : w1.frozen? ⟨w.heap.size, 2, none⟩ = false := hI.frozen 2
  clear hI hR HL
  go_wp2
  refine bodyPost_ret (v := .agg #[.int .i64 op, .int .i64 a, .int .i64 V, .int .i64 c, .int .i64 imm]) (by simp [results, Tryz.results57, go_sem, r0, r1, r2, r3, r4]) rfl ⟨rfl, ?_⟩
  exact (((((hb0.setCell (Nat.le_refl _) _).setCell (by simp) _).setCell (by simp) _).setCell (by simp) _).setCell (by simp) _).setCell (by simp) _

set_option maxHeartbeats 1000000 in
theorem with_67 (op a b c imm : Int) (s : ByteArray) (hs : s.size ≤ 1000) (w : World) : Calls Tryz.prog 57 #[.agg #[.int .i64 op, .int .i64 a, .int .i64 b, .int .i64 c, .int .i64 imm], .int .u8 67, .string s] w fun e w' => e = .returned (.agg #[.int .i64 op, .int .i64 a, .int .i64 b, .int .i64 (looseP s.data.toList), .int .i64 imm]) ∧ Below w.heap.size w w' := by
  have HL := Lib.hid (fun W => loose_any s hs W)
  generalize looseP s.data.toList = V at HL ⊢
  have hb0 : Below w.heap.size w ((w.alloc (.cells #[.int .i64 op, .int .i64 a, .int .i64 b, .int .i64 c, .int .i64 imm] 27)).alloc (.cells #[.int .i64 0, .int .i64 0, .int .i64 0, .int .i64 0, .int .i64 0] 27)) := ((Below.refl _ _).alloc (Nat.le_refl _) _).alloc (by simp) _
  have hI : Blk ((w.alloc (.cells #[.int .i64 op, .int .i64 a, .int .i64 b, .int .i64 c, .int .i64 imm] 27)).alloc (.cells #[.int .i64 0, .int .i64 0, .int .i64 0, .int .i64 0, .int .i64 0] 27)) w.heap.size 27 #[.int .i64 op, .int .i64 a, .int .i64 b, .int .i64 c, .int .i64 imm] := (Blk.new w _ _).alloc _
  have hR : Blk ((w.alloc (.cells #[.int .i64 op, .int .i64 a, .int .i64 b, .int .i64 c, .int .i64 imm] 27)).alloc (.cells #[.int .i64 0, .int .i64 0, .int .i64 0, .int .i64 0, .int .i64 0] 27)) (w.heap.size + 1) 27 #[.int .i64 0, .int .i64 0, .int .i64 0, .int .i64 0, .int .i64 0] := by
    have := Blk.new (w.alloc (.cells #[.int .i64 op, .int .i64 a, .int .i64 b, .int .i64 c, .int .i64 imm] 27)) 27 #[.int .i64 0, .int .i64 0, .int .i64 0, .int .i64 0, .int .i64 0]
    simpa using this
  go_enter Tryz.func57, Tryz.ntmps57
  go_wp2_with fail
  generalize ((w.alloc (.cells #[.int .i64 op, .int .i64 a, .int .i64 b, .int .i64 c, .int .i64 imm] 27)).alloc (.cells #[.int .i64 0, .int .i64 0, .int .i64 0, .int .i64 0, .int .i64 0] 27)) = w1 at hb0 hI hR ⊢
  refine (HL.out w1).mono ?_
  rintro e w1 ⟨rfl, rfl⟩
  have i0 : w1.cell? ⟨w.heap.size, 0, none⟩ = some (.int .i64 op) := hI.cell 0
  have r0 : w1.cell? ⟨w.heap.size + 1, 0, none⟩ = some (.int .i64 0) := hR.cell 0
  have g0 : w1.frozen? ⟨w.heap.size + 1, 0, none⟩ = false := hR.frozen 0
  have i1 : w1.cell? ⟨w.heap.size, 1, none⟩ = some (.int .i64 a) := hI.cell 1
  have r1 : w1.cell? ⟨w.heap.size + 1, 1, none⟩ = some (.int .i64 0) := hR.cell 1
  have g1 : w1.frozen? ⟨w.heap.size + 1, 1, none⟩ = false := hR.frozen 1
  have i2 : w1.cell? ⟨w.heap.size, 2, none⟩ = some (.int .i64 b) := hI.cell 2
  have r2 : w1.cell? ⟨w.heap.size + 1, 2, none⟩ = some (.int .i64 0) := hR.cell 2
  have g2 : w1.frozen? ⟨w.heap.size + 1, 2, none⟩ = false := hR.frozen 2
  have i3 : w1.cell? ⟨w.heap.size, 3, none⟩ = some (.int .i64 c) := hI.cell 3
  have r3 : w1.cell? ⟨w.heap.size + 1, 3, none⟩ = some (.int .i64 0) := hR.cell 3
  have g3 : w1.frozen? ⟨w.heap.size + 1, 3, none⟩ = false := hR.frozen 3
  have i4 : w1.cell? ⟨w.heap.size, 4, none⟩ = some (.int .i64 imm) := hI.cell 4
  have r4 : w1.cell? ⟨w.heap.size + 1, 4, none⟩ = some (.int .i64 0) := hR.cell 4
  have g4 : w1.frozen? ⟨w.heap.size + 1, 4, none⟩ = false := hR.frozen 4
  have j3 : w1.frozen? ⟨w.heap.size, 3, none⟩ = false := hI.frozen 3
  clear hI hR HL
  go_wp2
  refine bodyPost_ret (v := .agg #[.int .i64 op, .int .i64 a, .int .i64 b, .int .i64 V, .int .i64 imm]) (by simp [results, Tryz.results57, go_sem, r0, r1, r2, r3, r4]) rfl ⟨rfl, ?_⟩
  exact (((((hb0.setCell (Nat.le_refl _) _).setCell (by simp) _).setCell (by simp) _).setCell (by simp) _).setCell (by simp) _).setCell (by simp) _

end Go.Proofs.YtecmeegnjjhilaaGreatDoor

/- The document's cut at blanks. -/
namespace Go.Proofs.YtecmeegnjjhilaaGreatDoor
open Go.RowKit
def cutGo (d : UInt8) : List UInt8 → List UInt8 → List (List UInt8)
  | [], acc => [acc]
  | c :: r, acc => if c = d then acc :: cutGo d r [] else cutGo d r (acc ++ [c])
/-- The pieces between the bytes d. -/
def cutL (d : UInt8) (l : List UInt8) : List (List UInt8) := cutGo d l []
/-- Where the cut stands before byte i: the pieces so far, the piece that is open from byte k on. -/
def CutAt (d : UInt8) (l : List UInt8) (L : List (List UInt8)) (k i : Nat) : Prop :=
  if i ≤ l.length then cutL d l = L ++ cutGo d (l.drop i) ((l.drop k).take (i - k)) else cutL d l = L
theorem CutAt.step {d : UInt8} {l : List UInt8} {L : List (List UInt8)} {k i : Nat} (h : CutAt d l L k i) (hk : k ≤ i) (c : UInt8) (hc : l[i]? = some c) :
    if c = d then CutAt d l (L ++ [(l.drop k).take (i - k)]) (i + 1) (i + 1) else CutAt d l L k (i + 1) := by
  obtain ⟨hl, he⟩ := List.getElem?_eq_some_iff.1 hc
  unfold CutAt at h ⊢
  rw [if_pos (by omega), List.drop_eq_getElem_cons hl, he] at h
  rw [if_pos (show i + 1 ≤ l.length by omega), if_pos (show i + 1 ≤ l.length by omega)]
  unfold cutGo at h
  split
  · rename_i hcd
    rw [if_pos hcd] at h
    rw [h, Nat.sub_self, List.take_zero]
    simp
  · rename_i hcd
    rw [if_neg hcd] at h
    rw [h, show i + 1 - k = (i - k) + 1 by omega, List.take_add_one, List.getElem?_drop, show k + (i - k) = i by omega, hc]
    rfl
theorem CutAt.hit {d : UInt8} {l : List UInt8} {L : List (List UInt8)} {k i : Nat} (h : CutAt d l L k i) (hk : k ≤ i) (c : UInt8) (hc : l[i]? = some c) (he : c = d) : CutAt d l (L ++ [(l.drop k).take (i - k)]) (i + 1) (i + 1) := by
  have := h.step hk c hc
  rw [if_pos he] at this
  exact this
theorem CutAt.go {d : UInt8} {l : List UInt8} {L : List (List UInt8)} {k i : Nat} (h : CutAt d l L k i) (hk : k ≤ i) (c : UInt8) (hc : l[i]? = some c) (he : c ≠ d) : CutAt d l L k (i + 1) := by
  have := h.step hk c hc
  rw [if_neg he] at this
  exact this
theorem CutAt.last {d : UInt8} {l : List UInt8} {L : List (List UInt8)} {k : Nat} (h : CutAt d l L k l.length) : CutAt d l (L ++ [(l.drop k).take (l.length - k)]) (l.length + 1) (l.length + 1) := by
  unfold CutAt at h ⊢
  rw [if_pos (Nat.le_refl _), List.drop_length] at h
  rw [if_neg (by omega), h]
  rfl

end Go.Proofs.YtecmeegnjjhilaaGreatDoor
