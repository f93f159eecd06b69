/- The document's numbers in decimal, and its Print. -/
import Derived.Test.YtecmeegnjjhilaaGreatDoorRefE
import Derived.Test.YtecmeegnjjhilaaGreatDoorTextLaw
import Derived.Laws.IdiomStrings
import Derived.Test.YtecmeegnjjhilaaGreatDoorSrc
import Derived.StillTailTactics
namespace Go.Proofs.YtecmeegnjjhilaaGreatDoor
open Go.RowKit

theorem dec_step (m : Nat) (h : ¬ m < 10) : Lib.decDigits m = Lib.decDigits (m / 10) ++ [UInt8.ofNat (48 + m % 10)] := by
  rw [Lib.decDigits, dif_neg h]

set_option maxRecDepth 100000 in
set_option maxHeartbeats 1000000 in
theorem unsigned_any (n : Nat) (hn : n < 10000000000) (w : World) : Calls Tryz.prog 79 #[.int .u64 n] w fun e w' => e = .returned (.string ⟨(Lib.decDigits n).toArray⟩) ∧ Below w.heap.size w w' := by
  have hr := Below.refl w.heap.size w
  go_enter Tryz.func79, Tryz.ntmps79
  go_wp2_with fail
  go_loopw [0, 3] (fun s0 s3 wr => ∃ (m k : Nat) (t : ByteArray), m < 10000000000 ∧ k ≤ 100 ∧ t.size + k ≤ 100 ∧ m < 10 ^ k ∧ s0 = .int .u64 m ∧ s3 = .string t ∧ Hid (Lib.decDigits n = Lib.decDigits m ++ t.data.toList) ∧ Below w.heap.size w wr) (fun s0 _ _ => (intOf s0).toNat)
  case atStart => exact ⟨n, 10, _, hn, by omega, by decide, hn, rfl, rfl, Lib.hid (by simp), hr⟩
  case round =>
    obtain ⟨m, k, t, hm, hk, ht, hmk, rfl, rfl, HD, hb⟩ := hrel
    have hcat : ¬ 9223372036854775807 < 1 + t.size := by omega
    obtain ⟨d, hd⟩ : ∃ d : UInt8, d = UInt8.ofNat (48 + m % 10) := ⟨_, rfl⟩
    have hdn : (d.toNat : Int) = 48 + (m : Int) % 10 := by
      rw [hd]
      have : (UInt8.ofNat (48 + m % 10)).toNat = 48 + m % 10 := by
        rw [UInt8.toNat_ofNat']
        omega
      rw [this]
      omega
    have hcv : (convert 56 9 (.slice (some ⟨wr.heap.size, 0, none⟩) 1 1)).run Tryz.prog (wr.alloc (.cells #[.int .u8 (48 + (m : Int) % 10)] 5)) = .ok (.string ⟨#[d]⟩) (wr.alloc (.cells #[.int .u8 (48 + (m : Int) % 10)] 5)) := by
      have h := run_convert_bytes_back (P := Tryz.prog) (wr.alloc (.cells #[.int .u8 (48 + (m : Int) % 10)] 5)) 56 9 5 ⟨wr.heap.size, 0, none⟩ 1 [d] Tryz.underlying56 Tryz.underlying5 Tryz.underlying9 (fun j hj => by
        obtain rfl : j = 0 := by simpa using hj
        rw [add_at]
        simp [hdn])
      exact h
    have hb2 := hb.alloc hb.size (.cells #[.int .u8 (48 + (m : Int) % 10)] 5)
    by_cases hz : m < 10
    · have hz2 : (m : Int) / 10 = 0 := by omega
      have HF : Hid (Lib.decDigits n = d :: t.data.toList) := Lib.hid (by
        rw [HD.out, Lib.decDigits_one hz, hd, Nat.mod_eq_of_lt hz]
        rfl)
      clear HD hd hdn
      go_wp2_with fail
      go_ret
      refine ⟨?_, hb2⟩
      rw [HF.out]
      rfl
    · have HF : Hid (Lib.decDigits n = Lib.decDigits (m / 10) ++ ((⟨#[d]⟩ : ByteArray) ++ t).data.toList) := Lib.hid (by
        rw [HD.out, dec_step m hz, hd, Joins.data_append]
        simp)
      have hz2 : ¬ (m : Int) / 10 = 0 := by omega
      have hs1 : ((⟨#[d]⟩ : ByteArray) ++ t).size = 1 + t.size := by rw [ByteArray.size_append]; rfl
      have hk1 : 1 ≤ k := by
        cases k with
        | zero => simp at hmk; omega
        | succ k => omega
      have hmk1 : m / 10 < 10 ^ (k - 1) := by
        obtain ⟨q, rfl⟩ : ∃ q, k = q + 1 := ⟨k - 1, by omega⟩
        rw [Nat.pow_succ] at hmk
        rw [Nat.add_sub_cancel]
        omega
      clear HD hd hdn
      go_wp2_with fail
      go_roundw
      case rel => exact ⟨m / 10, k - 1, _, by omega, by omega, by rw [hs1]; omega, hmk1, by go_num, rfl, HF, hb2⟩
      case measure => simp [intOf]; omega
end Go.Proofs.YtecmeegnjjhilaaGreatDoor

/- The document's Number10 and Print. -/
namespace Go.Proofs.YtecmeegnjjhilaaGreatDoor
open Go.RowKit

theorem itoa_short (n : Int) (h0 : -1000000 < n) (h1 : n < 10000000000) : (Lib.itoa n).length ≤ 1000 := by
  have h := Lib.itoa_length_le n (by omega) (by omega)
  omega

set_option maxRecDepth 100000 in
set_option maxHeartbeats 1000000 in
theorem Number10_any (n : Int) (h0 : -1000000 < n) (h1 : n < 10000000000) (w : World) : Calls Tryz.prog 55 #[.int .i64 n] w fun e w' => e = .returned (.string ⟨(Lib.itoa n).toArray⟩) ∧ Below w.heap.size w w' := by
  by_cases hn : n < 0
  · obtain ⟨u, rfl⟩ : ∃ u : Nat, n = -((u : Int) + 1) := ⟨(-n).toNat - 1, by omega⟩
    have HU0 := unsigned_any (u + 1) (by omega) w
    rw [show ((u + 1 : Nat) : Int) = (u : Int) + 1 by omega] at HU0
    have HU := Lib.hid HU0
    clear HU0
    have HT : Hid (Lib.itoa (-((u : Int) + 1)) = 45 :: Lib.decDigits (u + 1)) := Lib.hid (Lib.itoa_neg (u + 1) (by omega))
    have hl : (Lib.decDigits (u + 1)).length ≤ 1000 := by
      have h := itoa_short (-((u : Int) + 1)) (by omega) (by omega)
      rw [HT.out, List.length_cons] at h
      omega
    generalize Lib.decDigits (u + 1) = D at HU HT hl
    have hcat : ¬ 9223372036854775807 < 1 + D.length := by omega
    go_enter Tryz.func55, Tryz.ntmps55
    go_wp2_with fail
    rw [show -(-((u : Int) + 1) + 1) + 1 = (u : Int) + 1 by omega]
    refine HU.out.mono ?_
    rintro e w' ⟨rfl, hb⟩
    go_wp2_with fail
    go_ret
    refine ⟨?_, hb⟩
    rw [HT.out]
    rw [ByteArray.mk_append_mk]
    simp
  · obtain ⟨u, rfl⟩ := Int.eq_ofNat_of_zero_le (show 0 ≤ n by omega)
    have HU := Lib.hid (unsigned_any u (by omega) w)
    rw [Lib.itoa_nonneg]
    generalize Lib.decDigits u = D at HU ⊢
    go_enter Tryz.func55, Tryz.ntmps55
    go_wp2_with fail
    refine HU.out.mono ?_
    rintro e w' ⟨rfl, hb⟩
    go_wp2_with fail
    go_ret
    exact ⟨rfl, hb⟩

theorem reg_dec (n : Int) (h : 0 ≤ n) : regT n = 114 :: Lib.itoa n := by
  obtain ⟨u, rfl⟩ := Int.eq_ofNat_of_zero_le h
  rw [Lib.itoa_nonneg]
  rfl
theorem print_cat (i : Ins) (hc : checkC i = 0) : printT i = (opRow i.op).word ++ Lib.joinTail [32] (fieldsT i) := by
  unfold printT
  cases h : fieldsT i with
  | nil => simp [Lib.join, Lib.joinTail, List.intercalate]
  | cons x r => exact Lib.join_cons _ _ _

theorem print_1 (i : Ins) (hc : checkC i = 0) (hf : formOf i.op = 1) : printT i = (opRow i.op).word ++ (32 :: 114 :: Lib.itoa i.a) ++ (32 :: 114 :: Lib.itoa i.b) ++ (32 :: 114 :: Lib.itoa i.c) := by
  obtain ⟨_, _, a0, a1, b0, b1, c0, c1, m0, m1⟩ := check_ok i hc
  rw [print_cat i hc]
  simp [fieldsT, hf, usesOf, Lib.joinTail, reg_dec, a0, b0, c0]

set_option maxHeartbeats 1000000 in
theorem RPrint_1 (i : Ins) (hc : checkC i = 0) (hf : formOf i.op = 1) (w : World) : Calls Tryz.prog 26 #[i.val] w fun e w' => e = .returned (.tuple #[.string ⟨(printT i).toArray⟩, .int .i64 0]) ∧ Below w.heap.size w w' := by
  have HT := Lib.hid (print_1 i hc hf)
  obtain ⟨_, _, a0, a1, b0, b1, c0, c1, m0, m1⟩ := check_ok i hc
  have hbox : Below w.heap.size w (w.alloc (.cells #[.int .i64 i.op, .int .i64 i.a, .int .i64 i.b, .int .i64 i.c, .int .i64 i.imm] 27)) := (Below.refl _ _).alloc (Nat.le_refl _) _
  have HC := RCheck_any i (w.alloc (.cells #[.int .i64 i.op, .int .i64 i.a, .int .i64 i.b, .int .i64 i.c, .int .i64 i.imm] 27))
  rw [hc] at HC
  have HC := Lib.hid HC
  have HF := Lib.hid (fun W => RForm_any i.op W)
  rw [hf] at HF
  have HN := Lib.hid (fun W => RName_any i.op W)
  have hwl := word_len i.op
  have HU65 := Lib.hid (fun W => (Uses_any 1 65 (by decide) W).mono (fun e w' h => by rw [show usesB 1 65 = true by decide +kernel] at h; exact h))
  have HU66 := Lib.hid (fun W => (Uses_any 1 66 (by decide) W).mono (fun e w' h => by rw [show usesB 1 66 = true by decide +kernel] at h; exact h))
  have HU67 := Lib.hid (fun W => (Uses_any 1 67 (by decide) W).mono (fun e w' h => by rw [show usesB 1 67 = true by decide +kernel] at h; exact h))
  have HU73 := Lib.hid (fun W => (Uses_any 1 73 (by decide) W).mono (fun e w' h => by rw [show usesB 1 73 = false by decide +kernel] at h; exact h))
  have HU85 := Lib.hid (fun W => (Uses_any 1 85 (by decide) W).mono (fun e w' h => by rw [show usesB 1 85 = false by decide +kernel] at h; exact h))
  have Ha := Lib.hid (fun W => Number10_any i.a (by omega) (by omega) W)
  have hla := itoa_short i.a (by omega) (by omega)
  have Hb := Lib.hid (fun W => Number10_any i.b (by omega) (by omega) W)
  have hlb := itoa_short i.b (by omega) (by omega)
  have Hc := Lib.hid (fun W => Number10_any i.c (by omega) (by omega) W)
  have hlc := itoa_short i.c (by omega) (by omega)
  generalize (opRow i.op).word = X at HT HN hwl
  generalize printT i = R at HT ⊢
  clear hc hf
  obtain ⟨op, a, b, c, imm⟩ := i
  unfold Ins.val at HC ⊢
  simp only at HC HT HF HN hbox a0 a1 b0 b1 c0 c1 m0 m1 Ha hla Hb hlb Hc hlc
  generalize Lib.itoa a = Ta at HT Ha hla
  generalize Lib.itoa b = Tb at HT Hb hlb
  generalize Lib.itoa c = Tc at HT Hc hlc
  clear a0 a1 b0 b1 c0 c1 m0 m1
  go_enter Tryz.func26, Tryz.ntmps26
  go_wp2_with fail
  refine HC.out.mono ?_
  rintro e w1 ⟨rfl, hb1⟩
  have hb01 : Below w.heap.size w w1 := hbox.trans (hb1.mono (by simp))
  have hI1 : Blk w1 w.heap.size 27 #[.int .i64 op, .int .i64 a, .int .i64 b, .int .i64 c, .int .i64 imm] := (Blk.new w _ _).below hb1 (by simp)
  have d0 : w1.cell? ⟨w.heap.size, 0, none⟩ = some (.int .i64 op) := hI1.cell 0
  clear HC hbox hb1
  go_wp2_with fail
  refine (HF.out w1).mono ?_
  rintro e w1 ⟨rfl, rfl⟩
  go_wp2_with fail
  refine (HN.out w1).mono ?_
  rintro e w1 ⟨rfl, rfl⟩
  clear HF HN d0
  go_wp2_with fail
  refine (HU65.out _).mono ?_
  rintro e w1 ⟨rfl, rfl⟩
  have e1 : w1.cell? ⟨w.heap.size, 1, none⟩ = some (.int .i64 a) := hI1.cell 1
  have ca1 : ¬ 9223372036854775807 < 2 + Ta.length := by omega
  obtain ⟨Y1, hY1⟩ : ∃ Y : ByteArray, ((⟨#[32, 114]⟩ : ByteArray) ++ ⟨Ta.toArray⟩) = Y := ⟨_, rfl⟩
  have hYs1 : Y1.size = 2 + Ta.length := by rw [← hY1, ByteArray.size_append]; simp [ByteArray.size]
  go_wp2_with fail
  refine (Ha.out w1).mono ?_
  rintro e w2 ⟨rfl, hb2⟩
  have hb02 : Below w.heap.size w w2 := hb01.trans (hb2.mono hb01.size)
  have hI2 := hI1.below hb2 hI1.lt
  clear hb2 hb01 hI1 e1
  go_wp2_with fail
  refine (HU66.out _).mono ?_
  rintro e w2 ⟨rfl, rfl⟩
  have e2 : w2.cell? ⟨w.heap.size, 2, none⟩ = some (.int .i64 b) := hI2.cell 2
  have ca2 : ¬ 9223372036854775807 < 2 + Tb.length := by omega
  obtain ⟨Y2, hY2⟩ : ∃ Y : ByteArray, ((⟨#[32, 114]⟩ : ByteArray) ++ ⟨Tb.toArray⟩) = Y := ⟨_, rfl⟩
  have hYs2 : Y2.size = 2 + Tb.length := by rw [← hY2, ByteArray.size_append]; simp [ByteArray.size]
  go_wp2_with fail
  refine (Hb.out w2).mono ?_
  rintro e w3 ⟨rfl, hb3⟩
  have hb03 : Below w.heap.size w w3 := hb02.trans (hb3.mono hb02.size)
  have hI3 := hI2.below hb3 hI2.lt
  clear hb3 hb02 hI2 e2
  go_wp2_with fail
  refine (HU67.out _).mono ?_
  rintro e w3 ⟨rfl, rfl⟩
  have e3 : w3.cell? ⟨w.heap.size, 3, none⟩ = some (.int .i64 c) := hI3.cell 3
  have ca3 : ¬ 9223372036854775807 < 2 + Tc.length := by omega
  obtain ⟨Y3, hY3⟩ : ∃ Y : ByteArray, ((⟨#[32, 114]⟩ : ByteArray) ++ ⟨Tc.toArray⟩) = Y := ⟨_, rfl⟩
  have hYs3 : Y3.size = 2 + Tc.length := by rw [← hY3, ByteArray.size_append]; simp [ByteArray.size]
  go_wp2_with fail
  refine (Hc.out w3).mono ?_
  rintro e w4 ⟨rfl, hb4⟩
  have hb04 : Below w.heap.size w w4 := hb03.trans (hb4.mono hb03.size)
  have hI4 := hI3.below hb4 hI3.lt
  clear hb4 hb03 hI3 e3
  go_wp2_with fail
  refine (HU73.out _).mono ?_
  rintro e w4 ⟨rfl, rfl⟩
  go_wp2_with fail
  refine (HU85.out _).mono ?_
  rintro e w4 ⟨rfl, rfl⟩
  have HB : Hid ((⟨X.toArray⟩ : ByteArray) ++ Y1 ++ Y2 ++ Y3 = ⟨(X ++ (32 :: 114 :: Ta) ++ (32 :: 114 :: Tb) ++ (32 :: 114 :: Tc)).toArray⟩) := Lib.hid (bytes_eq (by
    rw [← hY1, ← hY2, ← hY3]
    simp [Joins.data_append]))
  go_wp2_with fail
  go_ret2
  refine ⟨?_, hb04⟩
  rw [HT.out, ← HB.out]
  rfl

theorem print_2 (i : Ins) (hc : checkC i = 0) (hf : formOf i.op = 2) : printT i = (opRow i.op).word ++ (32 :: 114 :: Lib.itoa i.a) ++ (32 :: 114 :: Lib.itoa i.b) ++ (32 :: Lib.itoa i.imm) := by
  obtain ⟨_, _, a0, a1, b0, b1, c0, c1, m0, m1⟩ := check_ok i hc
  rw [print_cat i hc]
  simp [fieldsT, hf, usesOf, Lib.joinTail, reg_dec, a0, b0, c0]

set_option maxHeartbeats 1000000 in
theorem RPrint_2 (i : Ins) (hc : checkC i = 0) (hf : formOf i.op = 2) (w : World) : Calls Tryz.prog 26 #[i.val] w fun e w' => e = .returned (.tuple #[.string ⟨(printT i).toArray⟩, .int .i64 0]) ∧ Below w.heap.size w w' := by
  have HT := Lib.hid (print_2 i hc hf)
  obtain ⟨_, _, a0, a1, b0, b1, c0, c1, m0, m1⟩ := check_ok i hc
  have hbox : Below w.heap.size w (w.alloc (.cells #[.int .i64 i.op, .int .i64 i.a, .int .i64 i.b, .int .i64 i.c, .int .i64 i.imm] 27)) := (Below.refl _ _).alloc (Nat.le_refl _) _
  have HC := RCheck_any i (w.alloc (.cells #[.int .i64 i.op, .int .i64 i.a, .int .i64 i.b, .int .i64 i.c, .int .i64 i.imm] 27))
  rw [hc] at HC
  have HC := Lib.hid HC
  have HF := Lib.hid (fun W => RForm_any i.op W)
  rw [hf] at HF
  have HN := Lib.hid (fun W => RName_any i.op W)
  have hwl := word_len i.op
  have HU65 := Lib.hid (fun W => (Uses_any 2 65 (by decide) W).mono (fun e w' h => by rw [show usesB 2 65 = true by decide +kernel] at h; exact h))
  have HU66 := Lib.hid (fun W => (Uses_any 2 66 (by decide) W).mono (fun e w' h => by rw [show usesB 2 66 = true by decide +kernel] at h; exact h))
  have HU67 := Lib.hid (fun W => (Uses_any 2 67 (by decide) W).mono (fun e w' h => by rw [show usesB 2 67 = false by decide +kernel] at h; exact h))
  have HU73 := Lib.hid (fun W => (Uses_any 2 73 (by decide) W).mono (fun e w' h => by rw [show usesB 2 73 = true by decide +kernel] at h; exact h))
  have HU85 := Lib.hid (fun W => (Uses_any 2 85 (by decide) W).mono (fun e w' h => by rw [show usesB 2 85 = false by decide +kernel] at h; exact h))
  have Ha := Lib.hid (fun W => Number10_any i.a (by omega) (by omega) W)
  have hla := itoa_short i.a (by omega) (by omega)
  have Hb := Lib.hid (fun W => Number10_any i.b (by omega) (by omega) W)
  have hlb := itoa_short i.b (by omega) (by omega)
  have Himm := Lib.hid (fun W => Number10_any i.imm (by omega) (by omega) W)
  have hlimm := itoa_short i.imm (by omega) (by omega)
  generalize (opRow i.op).word = X at HT HN hwl
  generalize printT i = R at HT ⊢
  clear hc hf
  obtain ⟨op, a, b, c, imm⟩ := i
  unfold Ins.val at HC ⊢
  simp only at HC HT HF HN hbox a0 a1 b0 b1 c0 c1 m0 m1 Ha hla Hb hlb Himm hlimm
  generalize Lib.itoa a = Ta at HT Ha hla
  generalize Lib.itoa b = Tb at HT Hb hlb
  generalize Lib.itoa imm = Timm at HT Himm hlimm
  clear a0 a1 b0 b1 c0 c1 m0 m1
  go_enter Tryz.func26, Tryz.ntmps26
  go_wp2_with fail
  refine HC.out.mono ?_
  rintro e w1 ⟨rfl, hb1⟩
  have hb01 : Below w.heap.size w w1 := hbox.trans (hb1.mono (by simp))
  have hI1 : Blk w1 w.heap.size 27 #[.int .i64 op, .int .i64 a, .int .i64 b, .int .i64 c, .int .i64 imm] := (Blk.new w _ _).below hb1 (by simp)
  have d0 : w1.cell? ⟨w.heap.size, 0, none⟩ = some (.int .i64 op) := hI1.cell 0
  clear HC hbox hb1
  go_wp2_with fail
  refine (HF.out w1).mono ?_
  rintro e w1 ⟨rfl, rfl⟩
  go_wp2_with fail
  refine (HN.out w1).mono ?_
  rintro e w1 ⟨rfl, rfl⟩
  clear HF HN d0
  go_wp2_with fail
  refine (HU65.out _).mono ?_
  rintro e w1 ⟨rfl, rfl⟩
  have e1 : w1.cell? ⟨w.heap.size, 1, none⟩ = some (.int .i64 a) := hI1.cell 1
  have ca1 : ¬ 9223372036854775807 < 2 + Ta.length := by omega
  obtain ⟨Y1, hY1⟩ : ∃ Y : ByteArray, ((⟨#[32, 114]⟩ : ByteArray) ++ ⟨Ta.toArray⟩) = Y := ⟨_, rfl⟩
  have hYs1 : Y1.size = 2 + Ta.length := by rw [← hY1, ByteArray.size_append]; simp [ByteArray.size]
  go_wp2_with fail
  refine (Ha.out w1).mono ?_
  rintro e w2 ⟨rfl, hb2⟩
  have hb02 : Below w.heap.size w w2 := hb01.trans (hb2.mono hb01.size)
  have hI2 := hI1.below hb2 hI1.lt
  clear hb2 hb01 hI1 e1
  go_wp2_with fail
  refine (HU66.out _).mono ?_
  rintro e w2 ⟨rfl, rfl⟩
  have e2 : w2.cell? ⟨w.heap.size, 2, none⟩ = some (.int .i64 b) := hI2.cell 2
  have ca2 : ¬ 9223372036854775807 < 2 + Tb.length := by omega
  obtain ⟨Y2, hY2⟩ : ∃ Y : ByteArray, ((⟨#[32, 114]⟩ : ByteArray) ++ ⟨Tb.toArray⟩) = Y := ⟨_, rfl⟩
  have hYs2 : Y2.size = 2 + Tb.length := by rw [← hY2, ByteArray.size_append]; simp [ByteArray.size]
  go_wp2_with fail
  refine (Hb.out w2).mono ?_
  rintro e w3 ⟨rfl, hb3⟩
  have hb03 : Below w.heap.size w w3 := hb02.trans (hb3.mono hb02.size)
  have hI3 := hI2.below hb3 hI2.lt
  clear hb3 hb02 hI2 e2
  go_wp2_with fail
  refine (HU67.out _).mono ?_
  rintro e w3 ⟨rfl, rfl⟩
  go_wp2_with fail
  refine (HU73.out _).mono ?_
  rintro e w3 ⟨rfl, rfl⟩
  have e4 : w3.cell? ⟨w.heap.size, 4, none⟩ = some (.int .i64 imm) := hI3.cell 4
  have ca3 : ¬ 9223372036854775807 < 1 + Timm.length := by omega
  obtain ⟨Y3, hY3⟩ : ∃ Y : ByteArray, ((⟨#[32]⟩ : ByteArray) ++ ⟨Timm.toArray⟩) = Y := ⟨_, rfl⟩
  have hYs3 : Y3.size = 1 + Timm.length := by rw [← hY3, ByteArray.size_append]; simp [ByteArray.size]
  go_wp2_with fail
  refine (Himm.out w3).mono ?_
  rintro e w4 ⟨rfl, hb4⟩
  have hb04 : Below w.heap.size w w4 := hb03.trans (hb4.mono hb03.size)
  have hI4 := hI3.below hb4 hI3.lt
  clear hb4 hb03 hI3 e4
  have HB : Hid ((⟨X.toArray⟩ : ByteArray) ++ Y1 ++ Y2 ++ Y3 = ⟨(X ++ (32 :: 114 :: Ta) ++ (32 :: 114 :: Tb) ++ (32 :: Timm)).toArray⟩) := Lib.hid (bytes_eq (by
    rw [← hY1, ← hY2, ← hY3]
    simp [Joins.data_append]))
  go_wp2_with fail
  go_ret2
  refine ⟨?_, hb04⟩
  rw [HT.out, ← HB.out]
  rfl

theorem print_3 (i : Ins) (hc : checkC i = 0) (hf : formOf i.op = 3) : printT i = (opRow i.op).word ++ (32 :: 114 :: Lib.itoa i.a) ++ (32 :: 114 :: Lib.itoa i.b) ++ (32 :: Lib.itoa i.imm) := by
  obtain ⟨_, _, a0, a1, b0, b1, c0, c1, m0, m1⟩ := check_ok i hc
  rw [print_cat i hc]
  simp [fieldsT, hf, usesOf, Lib.joinTail, reg_dec, a0, b0, c0]

set_option maxHeartbeats 1000000 in
theorem RPrint_3 (i : Ins) (hc : checkC i = 0) (hf : formOf i.op = 3) (w : World) : Calls Tryz.prog 26 #[i.val] w fun e w' => e = .returned (.tuple #[.string ⟨(printT i).toArray⟩, .int .i64 0]) ∧ Below w.heap.size w w' := by
  have HT := Lib.hid (print_3 i hc hf)
  obtain ⟨_, _, a0, a1, b0, b1, c0, c1, m0, m1⟩ := check_ok i hc
  have hbox : Below w.heap.size w (w.alloc (.cells #[.int .i64 i.op, .int .i64 i.a, .int .i64 i.b, .int .i64 i.c, .int .i64 i.imm] 27)) := (Below.refl _ _).alloc (Nat.le_refl _) _
  have HC := RCheck_any i (w.alloc (.cells #[.int .i64 i.op, .int .i64 i.a, .int .i64 i.b, .int .i64 i.c, .int .i64 i.imm] 27))
  rw [hc] at HC
  have HC := Lib.hid HC
  have HF := Lib.hid (fun W => RForm_any i.op W)
  rw [hf] at HF
  have HN := Lib.hid (fun W => RName_any i.op W)
  have hwl := word_len i.op
  have HU65 := Lib.hid (fun W => (Uses_any 3 65 (by decide) W).mono (fun e w' h => by rw [show usesB 3 65 = true by decide +kernel] at h; exact h))
  have HU66 := Lib.hid (fun W => (Uses_any 3 66 (by decide) W).mono (fun e w' h => by rw [show usesB 3 66 = true by decide +kernel] at h; exact h))
  have HU67 := Lib.hid (fun W => (Uses_any 3 67 (by decide) W).mono (fun e w' h => by rw [show usesB 3 67 = false by decide +kernel] at h; exact h))
  have HU73 := Lib.hid (fun W => (Uses_any 3 73 (by decide) W).mono (fun e w' h => by rw [show usesB 3 73 = false by decide +kernel] at h; exact h))
  have HU85 := Lib.hid (fun W => (Uses_any 3 85 (by decide) W).mono (fun e w' h => by rw [show usesB 3 85 = true by decide +kernel] at h; exact h))
  have Ha := Lib.hid (fun W => Number10_any i.a (by omega) (by omega) W)
  have hla := itoa_short i.a (by omega) (by omega)
  have Hb := Lib.hid (fun W => Number10_any i.b (by omega) (by omega) W)
  have hlb := itoa_short i.b (by omega) (by omega)
  have Himm := Lib.hid (fun W => Number10_any i.imm (by omega) (by omega) W)
  have hlimm := itoa_short i.imm (by omega) (by omega)
  generalize (opRow i.op).word = X at HT HN hwl
  generalize printT i = R at HT ⊢
  clear hc hf
  obtain ⟨op, a, b, c, imm⟩ := i
  unfold Ins.val at HC ⊢
  simp only at HC HT HF HN hbox a0 a1 b0 b1 c0 c1 m0 m1 Ha hla Hb hlb Himm hlimm
  generalize Lib.itoa a = Ta at HT Ha hla
  generalize Lib.itoa b = Tb at HT Hb hlb
  generalize Lib.itoa imm = Timm at HT Himm hlimm
  clear a0 a1 b0 b1 c0 c1 m0 m1
  go_enter Tryz.func26, Tryz.ntmps26
  go_wp2_with fail
  refine HC.out.mono ?_
  rintro e w1 ⟨rfl, hb1⟩
  have hb01 : Below w.heap.size w w1 := hbox.trans (hb1.mono (by simp))
  have hI1 : Blk w1 w.heap.size 27 #[.int .i64 op, .int .i64 a, .int .i64 b, .int .i64 c, .int .i64 imm] := (Blk.new w _ _).below hb1 (by simp)
  have d0 : w1.cell? ⟨w.heap.size, 0, none⟩ = some (.int .i64 op) := hI1.cell 0
  clear HC hbox hb1
  go_wp2_with fail
  refine (HF.out w1).mono ?_
  rintro e w1 ⟨rfl, rfl⟩
  go_wp2_with fail
  refine (HN.out w1).mono ?_
  rintro e w1 ⟨rfl, rfl⟩
  clear HF HN d0
  go_wp2_with fail
  refine (HU65.out _).mono ?_
  rintro e w1 ⟨rfl, rfl⟩
  have e1 : w1.cell? ⟨w.heap.size, 1, none⟩ = some (.int .i64 a) := hI1.cell 1
  have ca1 : ¬ 9223372036854775807 < 2 + Ta.length := by omega
  obtain ⟨Y1, hY1⟩ : ∃ Y : ByteArray, ((⟨#[32, 114]⟩ : ByteArray) ++ ⟨Ta.toArray⟩) = Y := ⟨_, rfl⟩
  have hYs1 : Y1.size = 2 + Ta.length := by rw [← hY1, ByteArray.size_append]; simp [ByteArray.size]
  go_wp2_with fail
  refine (Ha.out w1).mono ?_
  rintro e w2 ⟨rfl, hb2⟩
  have hb02 : Below w.heap.size w w2 := hb01.trans (hb2.mono hb01.size)
  have hI2 := hI1.below hb2 hI1.lt
  clear hb2 hb01 hI1 e1
  go_wp2_with fail
  refine (HU66.out _).mono ?_
  rintro e w2 ⟨rfl, rfl⟩
  have e2 : w2.cell? ⟨w.heap.size, 2, none⟩ = some (.int .i64 b) := hI2.cell 2
  have ca2 : ¬ 9223372036854775807 < 2 + Tb.length := by omega
  obtain ⟨Y2, hY2⟩ : ∃ Y : ByteArray, ((⟨#[32, 114]⟩ : ByteArray) ++ ⟨Tb.toArray⟩) = Y := ⟨_, rfl⟩
  have hYs2 : Y2.size = 2 + Tb.length := by rw [← hY2, ByteArray.size_append]; simp [ByteArray.size]
  go_wp2_with fail
  refine (Hb.out w2).mono ?_
  rintro e w3 ⟨rfl, hb3⟩
  have hb03 : Below w.heap.size w w3 := hb02.trans (hb3.mono hb02.size)
  have hI3 := hI2.below hb3 hI2.lt
  clear hb3 hb02 hI2 e2
  go_wp2_with fail
  refine (HU67.out _).mono ?_
  rintro e w3 ⟨rfl, rfl⟩
  go_wp2_with fail
  refine (HU73.out _).mono ?_
  rintro e w3 ⟨rfl, rfl⟩
  go_wp2_with fail
  refine (HU85.out _).mono ?_
  rintro e w3 ⟨rfl, rfl⟩
  have e4 : w3.cell? ⟨w.heap.size, 4, none⟩ = some (.int .i64 imm) := hI3.cell 4
  have ca3 : ¬ 9223372036854775807 < 1 + Timm.length := by omega
  obtain ⟨Y3, hY3⟩ : ∃ Y : ByteArray, ((⟨#[32]⟩ : ByteArray) ++ ⟨Timm.toArray⟩) = Y := ⟨_, rfl⟩
  have hYs3 : Y3.size = 1 + Timm.length := by rw [← hY3, ByteArray.size_append]; simp [ByteArray.size]
  go_wp2_with fail
  refine (Himm.out w3).mono ?_
  rintro e w4 ⟨rfl, hb4⟩
  have hb04 : Below w.heap.size w w4 := hb03.trans (hb4.mono hb03.size)
  have hI4 := hI3.below hb4 hI3.lt
  clear hb4 hb03 hI3 e4
  have HB : Hid ((⟨X.toArray⟩ : ByteArray) ++ Y1 ++ Y2 ++ Y3 = ⟨(X ++ (32 :: 114 :: Ta) ++ (32 :: 114 :: Tb) ++ (32 :: Timm)).toArray⟩) := Lib.hid (bytes_eq (by
    rw [← hY1, ← hY2, ← hY3]
    simp [Joins.data_append]))
  go_wp2_with fail
  go_ret2
  refine ⟨?_, hb04⟩
  rw [HT.out, ← HB.out]
  rfl

theorem print_4 (i : Ins) (hc : checkC i = 0) (hf : formOf i.op = 4) : printT i = (opRow i.op).word ++ (32 :: 114 :: Lib.itoa i.a) ++ (32 :: Lib.itoa i.imm) := by
  obtain ⟨_, _, a0, a1, b0, b1, c0, c1, m0, m1⟩ := check_ok i hc
  rw [print_cat i hc]
  simp [fieldsT, hf, usesOf, Lib.joinTail, reg_dec, a0, b0, c0]

set_option maxHeartbeats 1000000 in
theorem RPrint_4 (i : Ins) (hc : checkC i = 0) (hf : formOf i.op = 4) (w : World) : Calls Tryz.prog 26 #[i.val] w fun e w' => e = .returned (.tuple #[.string ⟨(printT i).toArray⟩, .int .i64 0]) ∧ Below w.heap.size w w' := by
  have HT := Lib.hid (print_4 i hc hf)
  obtain ⟨_, _, a0, a1, b0, b1, c0, c1, m0, m1⟩ := check_ok i hc
  have hbox : Below w.heap.size w (w.alloc (.cells #[.int .i64 i.op, .int .i64 i.a, .int .i64 i.b, .int .i64 i.c, .int .i64 i.imm] 27)) := (Below.refl _ _).alloc (Nat.le_refl _) _
  have HC := RCheck_any i (w.alloc (.cells #[.int .i64 i.op, .int .i64 i.a, .int .i64 i.b, .int .i64 i.c, .int .i64 i.imm] 27))
  rw [hc] at HC
  have HC := Lib.hid HC
  have HF := Lib.hid (fun W => RForm_any i.op W)
  rw [hf] at HF
  have HN := Lib.hid (fun W => RName_any i.op W)
  have hwl := word_len i.op
  have HU65 := Lib.hid (fun W => (Uses_any 4 65 (by decide) W).mono (fun e w' h => by rw [show usesB 4 65 = true by decide +kernel] at h; exact h))
  have HU66 := Lib.hid (fun W => (Uses_any 4 66 (by decide) W).mono (fun e w' h => by rw [show usesB 4 66 = false by decide +kernel] at h; exact h))
  have HU67 := Lib.hid (fun W => (Uses_any 4 67 (by decide) W).mono (fun e w' h => by rw [show usesB 4 67 = false by decide +kernel] at h; exact h))
  have HU73 := Lib.hid (fun W => (Uses_any 4 73 (by decide) W).mono (fun e w' h => by rw [show usesB 4 73 = false by decide +kernel] at h; exact h))
  have HU85 := Lib.hid (fun W => (Uses_any 4 85 (by decide) W).mono (fun e w' h => by rw [show usesB 4 85 = true by decide +kernel] at h; exact h))
  have Ha := Lib.hid (fun W => Number10_any i.a (by omega) (by omega) W)
  have hla := itoa_short i.a (by omega) (by omega)
  have Himm := Lib.hid (fun W => Number10_any i.imm (by omega) (by omega) W)
  have hlimm := itoa_short i.imm (by omega) (by omega)
  generalize (opRow i.op).word = X at HT HN hwl
  generalize printT i = R at HT ⊢
  clear hc hf
  obtain ⟨op, a, b, c, imm⟩ := i
  unfold Ins.val at HC ⊢
  simp only at HC HT HF HN hbox a0 a1 b0 b1 c0 c1 m0 m1 Ha hla Himm hlimm
  generalize Lib.itoa a = Ta at HT Ha hla
  generalize Lib.itoa imm = Timm at HT Himm hlimm
  clear a0 a1 b0 b1 c0 c1 m0 m1
  go_enter Tryz.func26, Tryz.ntmps26
  go_wp2_with fail
  refine HC.out.mono ?_
  rintro e w1 ⟨rfl, hb1⟩
  have hb01 : Below w.heap.size w w1 := hbox.trans (hb1.mono (by simp))
  have hI1 : Blk w1 w.heap.size 27 #[.int .i64 op, .int .i64 a, .int .i64 b, .int .i64 c, .int .i64 imm] := (Blk.new w _ _).below hb1 (by simp)
  have d0 : w1.cell? ⟨w.heap.size, 0, none⟩ = some (.int .i64 op) := hI1.cell 0
  clear HC hbox hb1
  go_wp2_with fail
  refine (HF.out w1).mono ?_
  rintro e w1 ⟨rfl, rfl⟩
  go_wp2_with fail
  refine (HN.out w1).mono ?_
  rintro e w1 ⟨rfl, rfl⟩
  clear HF HN d0
  go_wp2_with fail
  refine (HU65.out _).mono ?_
  rintro e w1 ⟨rfl, rfl⟩
  have e1 : w1.cell? ⟨w.heap.size, 1, none⟩ = some (.int .i64 a) := hI1.cell 1
  have ca1 : ¬ 9223372036854775807 < 2 + Ta.length := by omega
  obtain ⟨Y1, hY1⟩ : ∃ Y : ByteArray, ((⟨#[32, 114]⟩ : ByteArray) ++ ⟨Ta.toArray⟩) = Y := ⟨_, rfl⟩
  have hYs1 : Y1.size = 2 + Ta.length := by rw [← hY1, ByteArray.size_append]; simp [ByteArray.size]
  go_wp2_with fail
  refine (Ha.out w1).mono ?_
  rintro e w2 ⟨rfl, hb2⟩
  have hb02 : Below w.heap.size w w2 := hb01.trans (hb2.mono hb01.size)
  have hI2 := hI1.below hb2 hI1.lt
  clear hb2 hb01 hI1 e1
  go_wp2_with fail
  refine (HU66.out _).mono ?_
  rintro e w2 ⟨rfl, rfl⟩
  go_wp2_with fail
  refine (HU67.out _).mono ?_
  rintro e w2 ⟨rfl, rfl⟩
  go_wp2_with fail
  refine (HU73.out _).mono ?_
  rintro e w2 ⟨rfl, rfl⟩
  go_wp2_with fail
  refine (HU85.out _).mono ?_
  rintro e w2 ⟨rfl, rfl⟩
  have e4 : w2.cell? ⟨w.heap.size, 4, none⟩ = some (.int .i64 imm) := hI2.cell 4
  have ca2 : ¬ 9223372036854775807 < 1 + Timm.length := by omega
  obtain ⟨Y2, hY2⟩ : ∃ Y : ByteArray, ((⟨#[32]⟩ : ByteArray) ++ ⟨Timm.toArray⟩) = Y := ⟨_, rfl⟩
  have hYs2 : Y2.size = 1 + Timm.length := by rw [← hY2, ByteArray.size_append]; simp [ByteArray.size]
  go_wp2_with fail
  refine (Himm.out w2).mono ?_
  rintro e w3 ⟨rfl, hb3⟩
  have hb03 : Below w.heap.size w w3 := hb02.trans (hb3.mono hb02.size)
  have hI3 := hI2.below hb3 hI2.lt
  clear hb3 hb02 hI2 e4
  have HB : Hid ((⟨X.toArray⟩ : ByteArray) ++ Y1 ++ Y2 = ⟨(X ++ (32 :: 114 :: Ta) ++ (32 :: Timm)).toArray⟩) := Lib.hid (bytes_eq (by
    rw [← hY1, ← hY2]
    simp [Joins.data_append]))
  go_wp2_with fail
  go_ret2
  refine ⟨?_, hb03⟩
  rw [HT.out, ← HB.out]
  rfl

theorem print_5 (i : Ins) (hc : checkC i = 0) (hf : formOf i.op = 5) : printT i = (opRow i.op).word ++ (32 :: 114 :: Lib.itoa i.a) ++ (32 :: Lib.itoa i.imm) := by
  obtain ⟨_, _, a0, a1, b0, b1, c0, c1, m0, m1⟩ := check_ok i hc
  rw [print_cat i hc]
  simp [fieldsT, hf, usesOf, Lib.joinTail, reg_dec, a0, b0, c0]

set_option maxHeartbeats 1000000 in
theorem RPrint_5 (i : Ins) (hc : checkC i = 0) (hf : formOf i.op = 5) (w : World) : Calls Tryz.prog 26 #[i.val] w fun e w' => e = .returned (.tuple #[.string ⟨(printT i).toArray⟩, .int .i64 0]) ∧ Below w.heap.size w w' := by
  have HT := Lib.hid (print_5 i hc hf)
  obtain ⟨_, _, a0, a1, b0, b1, c0, c1, m0, m1⟩ := check_ok i hc
  have hbox : Below w.heap.size w (w.alloc (.cells #[.int .i64 i.op, .int .i64 i.a, .int .i64 i.b, .int .i64 i.c, .int .i64 i.imm] 27)) := (Below.refl _ _).alloc (Nat.le_refl _) _
  have HC := RCheck_any i (w.alloc (.cells #[.int .i64 i.op, .int .i64 i.a, .int .i64 i.b, .int .i64 i.c, .int .i64 i.imm] 27))
  rw [hc] at HC
  have HC := Lib.hid HC
  have HF := Lib.hid (fun W => RForm_any i.op W)
  rw [hf] at HF
  have HN := Lib.hid (fun W => RName_any i.op W)
  have hwl := word_len i.op
  have HU65 := Lib.hid (fun W => (Uses_any 5 65 (by decide) W).mono (fun e w' h => by rw [show usesB 5 65 = true by decide +kernel] at h; exact h))
  have HU66 := Lib.hid (fun W => (Uses_any 5 66 (by decide) W).mono (fun e w' h => by rw [show usesB 5 66 = false by decide +kernel] at h; exact h))
  have HU67 := Lib.hid (fun W => (Uses_any 5 67 (by decide) W).mono (fun e w' h => by rw [show usesB 5 67 = false by decide +kernel] at h; exact h))
  have HU73 := Lib.hid (fun W => (Uses_any 5 73 (by decide) W).mono (fun e w' h => by rw [show usesB 5 73 = true by decide +kernel] at h; exact h))
  have HU85 := Lib.hid (fun W => (Uses_any 5 85 (by decide) W).mono (fun e w' h => by rw [show usesB 5 85 = false by decide +kernel] at h; exact h))
  have Ha := Lib.hid (fun W => Number10_any i.a (by omega) (by omega) W)
  have hla := itoa_short i.a (by omega) (by omega)
  have Himm := Lib.hid (fun W => Number10_any i.imm (by omega) (by omega) W)
  have hlimm := itoa_short i.imm (by omega) (by omega)
  generalize (opRow i.op).word = X at HT HN hwl
  generalize printT i = R at HT ⊢
  clear hc hf
  obtain ⟨op, a, b, c, imm⟩ := i
  unfold Ins.val at HC ⊢
  simp only at HC HT HF HN hbox a0 a1 b0 b1 c0 c1 m0 m1 Ha hla Himm hlimm
  generalize Lib.itoa a = Ta at HT Ha hla
  generalize Lib.itoa imm = Timm at HT Himm hlimm
  clear a0 a1 b0 b1 c0 c1 m0 m1
  go_enter Tryz.func26, Tryz.ntmps26
  go_wp2_with fail
  refine HC.out.mono ?_
  rintro e w1 ⟨rfl, hb1⟩
  have hb01 : Below w.heap.size w w1 := hbox.trans (hb1.mono (by simp))
  have hI1 : Blk w1 w.heap.size 27 #[.int .i64 op, .int .i64 a, .int .i64 b, .int .i64 c, .int .i64 imm] := (Blk.new w _ _).below hb1 (by simp)
  have d0 : w1.cell? ⟨w.heap.size, 0, none⟩ = some (.int .i64 op) := hI1.cell 0
  clear HC hbox hb1
  go_wp2_with fail
  refine (HF.out w1).mono ?_
  rintro e w1 ⟨rfl, rfl⟩
  go_wp2_with fail
  refine (HN.out w1).mono ?_
  rintro e w1 ⟨rfl, rfl⟩
  clear HF HN d0
  go_wp2_with fail
  refine (HU65.out _).mono ?_
  rintro e w1 ⟨rfl, rfl⟩
  have e1 : w1.cell? ⟨w.heap.size, 1, none⟩ = some (.int .i64 a) := hI1.cell 1
  have ca1 : ¬ 9223372036854775807 < 2 + Ta.length := by omega
  obtain ⟨Y1, hY1⟩ : ∃ Y : ByteArray, ((⟨#[32, 114]⟩ : ByteArray) ++ ⟨Ta.toArray⟩) = Y := ⟨_, rfl⟩
  have hYs1 : Y1.size = 2 + Ta.length := by rw [← hY1, ByteArray.size_append]; simp [ByteArray.size]
  go_wp2_with fail
  refine (Ha.out w1).mono ?_
  rintro e w2 ⟨rfl, hb2⟩
  have hb02 : Below w.heap.size w w2 := hb01.trans (hb2.mono hb01.size)
  have hI2 := hI1.below hb2 hI1.lt
  clear hb2 hb01 hI1 e1
  go_wp2_with fail
  refine (HU66.out _).mono ?_
  rintro e w2 ⟨rfl, rfl⟩
  go_wp2_with fail
  refine (HU67.out _).mono ?_
  rintro e w2 ⟨rfl, rfl⟩
  go_wp2_with fail
  refine (HU73.out _).mono ?_
  rintro e w2 ⟨rfl, rfl⟩
  have e4 : w2.cell? ⟨w.heap.size, 4, none⟩ = some (.int .i64 imm) := hI2.cell 4
  have ca2 : ¬ 9223372036854775807 < 1 + Timm.length := by omega
  obtain ⟨Y2, hY2⟩ : ∃ Y : ByteArray, ((⟨#[32]⟩ : ByteArray) ++ ⟨Timm.toArray⟩) = Y := ⟨_, rfl⟩
  have hYs2 : Y2.size = 1 + Timm.length := by rw [← hY2, ByteArray.size_append]; simp [ByteArray.size]
  go_wp2_with fail
  refine (Himm.out w2).mono ?_
  rintro e w3 ⟨rfl, hb3⟩
  have hb03 : Below w.heap.size w w3 := hb02.trans (hb3.mono hb02.size)
  have hI3 := hI2.below hb3 hI2.lt
  clear hb3 hb02 hI2 e4
  have HB : Hid ((⟨X.toArray⟩ : ByteArray) ++ Y1 ++ Y2 = ⟨(X ++ (32 :: 114 :: Ta) ++ (32 :: Timm)).toArray⟩) := Lib.hid (bytes_eq (by
    rw [← hY1, ← hY2]
    simp [Joins.data_append]))
  go_wp2_with fail
  go_ret2
  refine ⟨?_, hb03⟩
  rw [HT.out, ← HB.out]
  rfl

theorem print_6 (i : Ins) (hc : checkC i = 0) (hf : formOf i.op = 6) : printT i = (opRow i.op).word ++ (32 :: 114 :: Lib.itoa i.b) ++ (32 :: Lib.itoa i.imm) := by
  obtain ⟨_, _, a0, a1, b0, b1, c0, c1, m0, m1⟩ := check_ok i hc
  rw [print_cat i hc]
  simp [fieldsT, hf, usesOf, Lib.joinTail, reg_dec, a0, b0, c0]

set_option maxHeartbeats 1000000 in
theorem RPrint_6 (i : Ins) (hc : checkC i = 0) (hf : formOf i.op = 6) (w : World) : Calls Tryz.prog 26 #[i.val] w fun e w' => e = .returned (.tuple #[.string ⟨(printT i).toArray⟩, .int .i64 0]) ∧ Below w.heap.size w w' := by
  have HT := Lib.hid (print_6 i hc hf)
  obtain ⟨_, _, a0, a1, b0, b1, c0, c1, m0, m1⟩ := check_ok i hc
  have hbox : Below w.heap.size w (w.alloc (.cells #[.int .i64 i.op, .int .i64 i.a, .int .i64 i.b, .int .i64 i.c, .int .i64 i.imm] 27)) := (Below.refl _ _).alloc (Nat.le_refl _) _
  have HC := RCheck_any i (w.alloc (.cells #[.int .i64 i.op, .int .i64 i.a, .int .i64 i.b, .int .i64 i.c, .int .i64 i.imm] 27))
  rw [hc] at HC
  have HC := Lib.hid HC
  have HF := Lib.hid (fun W => RForm_any i.op W)
  rw [hf] at HF
  have HN := Lib.hid (fun W => RName_any i.op W)
  have hwl := word_len i.op
  have HU65 := Lib.hid (fun W => (Uses_any 6 65 (by decide) W).mono (fun e w' h => by rw [show usesB 6 65 = false by decide +kernel] at h; exact h))
  have HU66 := Lib.hid (fun W => (Uses_any 6 66 (by decide) W).mono (fun e w' h => by rw [show usesB 6 66 = true by decide +kernel] at h; exact h))
  have HU67 := Lib.hid (fun W => (Uses_any 6 67 (by decide) W).mono (fun e w' h => by rw [show usesB 6 67 = false by decide +kernel] at h; exact h))
  have HU73 := Lib.hid (fun W => (Uses_any 6 73 (by decide) W).mono (fun e w' h => by rw [show usesB 6 73 = true by decide +kernel] at h; exact h))
  have HU85 := Lib.hid (fun W => (Uses_any 6 85 (by decide) W).mono (fun e w' h => by rw [show usesB 6 85 = false by decide +kernel] at h; exact h))
  have Hb := Lib.hid (fun W => Number10_any i.b (by omega) (by omega) W)
  have hlb := itoa_short i.b (by omega) (by omega)
  have Himm := Lib.hid (fun W => Number10_any i.imm (by omega) (by omega) W)
  have hlimm := itoa_short i.imm (by omega) (by omega)
  generalize (opRow i.op).word = X at HT HN hwl
  generalize printT i = R at HT ⊢
  clear hc hf
  obtain ⟨op, a, b, c, imm⟩ := i
  unfold Ins.val at HC ⊢
  simp only at HC HT HF HN hbox a0 a1 b0 b1 c0 c1 m0 m1 Hb hlb Himm hlimm
  generalize Lib.itoa b = Tb at HT Hb hlb
  generalize Lib.itoa imm = Timm at HT Himm hlimm
  clear a0 a1 b0 b1 c0 c1 m0 m1
  go_enter Tryz.func26, Tryz.ntmps26
  go_wp2_with fail
  refine HC.out.mono ?_
  rintro e w1 ⟨rfl, hb1⟩
  have hb01 : Below w.heap.size w w1 := hbox.trans (hb1.mono (by simp))
  have hI1 : Blk w1 w.heap.size 27 #[.int .i64 op, .int .i64 a, .int .i64 b, .int .i64 c, .int .i64 imm] := (Blk.new w _ _).below hb1 (by simp)
  have d0 : w1.cell? ⟨w.heap.size, 0, none⟩ = some (.int .i64 op) := hI1.cell 0
  clear HC hbox hb1
  go_wp2_with fail
  refine (HF.out w1).mono ?_
  rintro e w1 ⟨rfl, rfl⟩
  go_wp2_with fail
  refine (HN.out w1).mono ?_
  rintro e w1 ⟨rfl, rfl⟩
  clear HF HN d0
  go_wp2_with fail
  refine (HU65.out _).mono ?_
  rintro e w1 ⟨rfl, rfl⟩
  go_wp2_with fail
  refine (HU66.out _).mono ?_
  rintro e w1 ⟨rfl, rfl⟩
  have e2 : w1.cell? ⟨w.heap.size, 2, none⟩ = some (.int .i64 b) := hI1.cell 2
  have ca1 : ¬ 9223372036854775807 < 2 + Tb.length := by omega
  obtain ⟨Y1, hY1⟩ : ∃ Y : ByteArray, ((⟨#[32, 114]⟩ : ByteArray) ++ ⟨Tb.toArray⟩) = Y := ⟨_, rfl⟩
  have hYs1 : Y1.size = 2 + Tb.length := by rw [← hY1, ByteArray.size_append]; simp [ByteArray.size]
  go_wp2_with fail
  refine (Hb.out w1).mono ?_
  rintro e w2 ⟨rfl, hb2⟩
  have hb02 : Below w.heap.size w w2 := hb01.trans (hb2.mono hb01.size)
  have hI2 := hI1.below hb2 hI1.lt
  clear hb2 hb01 hI1 e2
  go_wp2_with fail
  refine (HU67.out _).mono ?_
  rintro e w2 ⟨rfl, rfl⟩
  go_wp2_with fail
  refine (HU73.out _).mono ?_
  rintro e w2 ⟨rfl, rfl⟩
  have e4 : w2.cell? ⟨w.heap.size, 4, none⟩ = some (.int .i64 imm) := hI2.cell 4
  have ca2 : ¬ 9223372036854775807 < 1 + Timm.length := by omega
  obtain ⟨Y2, hY2⟩ : ∃ Y : ByteArray, ((⟨#[32]⟩ : ByteArray) ++ ⟨Timm.toArray⟩) = Y := ⟨_, rfl⟩
  have hYs2 : Y2.size = 1 + Timm.length := by rw [← hY2, ByteArray.size_append]; simp [ByteArray.size]
  go_wp2_with fail
  refine (Himm.out w2).mono ?_
  rintro e w3 ⟨rfl, hb3⟩
  have hb03 : Below w.heap.size w w3 := hb02.trans (hb3.mono hb02.size)
  have hI3 := hI2.below hb3 hI2.lt
  clear hb3 hb02 hI2 e4
  have HB : Hid ((⟨X.toArray⟩ : ByteArray) ++ Y1 ++ Y2 = ⟨(X ++ (32 :: 114 :: Tb) ++ (32 :: Timm)).toArray⟩) := Lib.hid (bytes_eq (by
    rw [← hY1, ← hY2]
    simp [Joins.data_append]))
  go_wp2_with fail
  go_ret2
  refine ⟨?_, hb03⟩
  rw [HT.out, ← HB.out]
  rfl

theorem print_7 (i : Ins) (hc : checkC i = 0) (hf : formOf i.op = 7) : printT i = (opRow i.op).word ++ (32 :: Lib.itoa i.imm) := by
  obtain ⟨_, _, a0, a1, b0, b1, c0, c1, m0, m1⟩ := check_ok i hc
  rw [print_cat i hc]
  simp [fieldsT, hf, usesOf, Lib.joinTail, reg_dec, a0, b0, c0]

set_option maxHeartbeats 1000000 in
theorem RPrint_7 (i : Ins) (hc : checkC i = 0) (hf : formOf i.op = 7) (w : World) : Calls Tryz.prog 26 #[i.val] w fun e w' => e = .returned (.tuple #[.string ⟨(printT i).toArray⟩, .int .i64 0]) ∧ Below w.heap.size w w' := by
  have HT := Lib.hid (print_7 i hc hf)
  obtain ⟨_, _, a0, a1, b0, b1, c0, c1, m0, m1⟩ := check_ok i hc
  have hbox : Below w.heap.size w (w.alloc (.cells #[.int .i64 i.op, .int .i64 i.a, .int .i64 i.b, .int .i64 i.c, .int .i64 i.imm] 27)) := (Below.refl _ _).alloc (Nat.le_refl _) _
  have HC := RCheck_any i (w.alloc (.cells #[.int .i64 i.op, .int .i64 i.a, .int .i64 i.b, .int .i64 i.c, .int .i64 i.imm] 27))
  rw [hc] at HC
  have HC := Lib.hid HC
  have HF := Lib.hid (fun W => RForm_any i.op W)
  rw [hf] at HF
  have HN := Lib.hid (fun W => RName_any i.op W)
  have hwl := word_len i.op
  have HU65 := Lib.hid (fun W => (Uses_any 7 65 (by decide) W).mono (fun e w' h => by rw [show usesB 7 65 = false by decide +kernel] at h; exact h))
  have HU66 := Lib.hid (fun W => (Uses_any 7 66 (by decide) W).mono (fun e w' h => by rw [show usesB 7 66 = false by decide +kernel] at h; exact h))
  have HU67 := Lib.hid (fun W => (Uses_any 7 67 (by decide) W).mono (fun e w' h => by rw [show usesB 7 67 = false by decide +kernel] at h; exact h))
  have HU73 := Lib.hid (fun W => (Uses_any 7 73 (by decide) W).mono (fun e w' h => by rw [show usesB 7 73 = false by decide +kernel] at h; exact h))
  have HU85 := Lib.hid (fun W => (Uses_any 7 85 (by decide) W).mono (fun e w' h => by rw [show usesB 7 85 = true by decide +kernel] at h; exact h))
  have Himm := Lib.hid (fun W => Number10_any i.imm (by omega) (by omega) W)
  have hlimm := itoa_short i.imm (by omega) (by omega)
  generalize (opRow i.op).word = X at HT HN hwl
  generalize printT i = R at HT ⊢
  clear hc hf
  obtain ⟨op, a, b, c, imm⟩ := i
  unfold Ins.val at HC ⊢
  simp only at HC HT HF HN hbox a0 a1 b0 b1 c0 c1 m0 m1 Himm hlimm
  generalize Lib.itoa imm = Timm at HT Himm hlimm
  clear a0 a1 b0 b1 c0 c1 m0 m1
  go_enter Tryz.func26, Tryz.ntmps26
  go_wp2_with fail
  refine HC.out.mono ?_
  rintro e w1 ⟨rfl, hb1⟩
  have hb01 : Below w.heap.size w w1 := hbox.trans (hb1.mono (by simp))
  have hI1 : Blk w1 w.heap.size 27 #[.int .i64 op, .int .i64 a, .int .i64 b, .int .i64 c, .int .i64 imm] := (Blk.new w _ _).below hb1 (by simp)
  have d0 : w1.cell? ⟨w.heap.size, 0, none⟩ = some (.int .i64 op) := hI1.cell 0
  clear HC hbox hb1
  go_wp2_with fail
  refine (HF.out w1).mono ?_
  rintro e w1 ⟨rfl, rfl⟩
  go_wp2_with fail
  refine (HN.out w1).mono ?_
  rintro e w1 ⟨rfl, rfl⟩
  clear HF HN d0
  go_wp2_with fail
  refine (HU65.out _).mono ?_
  rintro e w1 ⟨rfl, rfl⟩
  go_wp2_with fail
  refine (HU66.out _).mono ?_
  rintro e w1 ⟨rfl, rfl⟩
  go_wp2_with fail
  refine (HU67.out _).mono ?_
  rintro e w1 ⟨rfl, rfl⟩
  go_wp2_with fail
  refine (HU73.out _).mono ?_
  rintro e w1 ⟨rfl, rfl⟩
  go_wp2_with fail
  refine (HU85.out _).mono ?_
  rintro e w1 ⟨rfl, rfl⟩
  have e4 : w1.cell? ⟨w.heap.size, 4, none⟩ = some (.int .i64 imm) := hI1.cell 4
  have ca1 : ¬ 9223372036854775807 < 1 + Timm.length := by omega
  obtain ⟨Y1, hY1⟩ : ∃ Y : ByteArray, ((⟨#[32]⟩ : ByteArray) ++ ⟨Timm.toArray⟩) = Y := ⟨_, rfl⟩
  have hYs1 : Y1.size = 1 + Timm.length := by rw [← hY1, ByteArray.size_append]; simp [ByteArray.size]
  go_wp2_with fail
  refine (Himm.out w1).mono ?_
  rintro e w2 ⟨rfl, hb2⟩
  have hb02 : Below w.heap.size w w2 := hb01.trans (hb2.mono hb01.size)
  have hI2 := hI1.below hb2 hI1.lt
  clear hb2 hb01 hI1 e4
  have HB : Hid ((⟨X.toArray⟩ : ByteArray) ++ Y1 = ⟨(X ++ (32 :: Timm)).toArray⟩) := Lib.hid (bytes_eq (by
    rw [← hY1]
    simp [Joins.data_append]))
  go_wp2_with fail
  go_ret2
  refine ⟨?_, hb02⟩
  rw [HT.out, ← HB.out]
  rfl

theorem RPrint_any (i : Ins) (w : World) : Calls Tryz.prog 26 #[i.val] w fun e w' => e = .returned (.tuple #[.string ⟨(if checkC i = 0 then printT i else []).toArray⟩, .int .i64 (checkC i)]) ∧ Below w.heap.size w w' := by
  by_cases hc : checkC i = 0
  · rw [if_pos hc, hc]
    obtain ⟨_, _, _, _, _, _, _, _, _, _⟩ := check_ok i hc
    obtain ⟨hf0, hf7⟩ := form_range i.op
    have hne := (check_fields i hc).1
    have hf : formOf i.op = 1 ∨ formOf i.op = 2 ∨ formOf i.op = 3 ∨ formOf i.op = 4 ∨ formOf i.op = 5 ∨ formOf i.op = 6 ∨ formOf i.op = 7 := by omega
    rcases hf with h | h | h | h | h | h | h
    · exact RPrint_1 i hc h w
    · exact RPrint_2 i hc h w
    · exact RPrint_3 i hc h w
    · exact RPrint_4 i hc h w
    · exact RPrint_5 i hc h w
    · exact RPrint_6 i hc h w
    · exact RPrint_7 i hc h w
  · rw [if_neg hc]
    have hbox : Below w.heap.size w (w.alloc (.cells #[.int .i64 i.op, .int .i64 i.a, .int .i64 i.b, .int .i64 i.c, .int .i64 i.imm] 27)) := (Below.refl _ _).alloc (Nat.le_refl _) _
    have HC := Lib.hid (RCheck_any i (w.alloc (.cells #[.int .i64 i.op, .int .i64 i.a, .int .i64 i.b, .int .i64 i.c, .int .i64 i.imm] 27)))
    generalize checkC i = cd at HC hc ⊢
    have hq : ((cd : Int) != 0) = true := by simp [hc]
    clear hc
    obtain ⟨op, a, b, c, imm⟩ := i
    unfold Ins.val at HC ⊢
    simp only at HC hbox
    go_enter Tryz.func26, Tryz.ntmps26
    go_wp2_with fail
    refine HC.out.mono ?_
    rintro e w1 ⟨rfl, hb1⟩
    have hb01 : Below w.heap.size w w1 := hbox.trans (hb1.mono (by simp))
    clear HC hbox hb1
    go_wp2_with fail
    go_ret2
    exact ⟨rfl, hb01⟩
end Go.Proofs.YtecmeegnjjhilaaGreatDoor

/- The document's loose reading of a number, and of a field. -/
namespace Go.Proofs.YtecmeegnjjhilaaGreatDoor
open Go.RowKit

def looseN : List UInt8 → Int → Int
  | [], n => n
  | c :: r, n => if 48 ≤ c.toNat ∧ c.toNat ≤ 57 ∧ n < 1000000 then looseN r (n * 10 + ((c.toNat : Int) - 48)) else looseN r n
def looseP (l : List UInt8) : Int := if (45 : UInt8) ∈ l then -looseN l 0 else looseN l 0

set_option maxHeartbeats 1000000 in
set_option maxRecDepth 100000 in
theorem loose_any (s : ByteArray) (hs : s.size ≤ 1000) (w : World) : Calls Tryz.prog 80 #[.string s] w fun e w' => e = .returned (.int .i64 (looseP s.data.toList)) ∧ w = w' := by
  have HZ : Hid (s.size = s.data.toList.length) := Lib.hid (Lib.size_eq s)
  go_enter Tryz.func80, Tryz.ntmps80
  go_wp2_with fail
  go_loopw [3, 4, 5] (fun s3 s4 s5 wr => wr = w ∧ ∃ (n : Int) (i : Nat) (g : Bool), 0 ≤ n ∧ n < 10000000 ∧ i ≤ s.size ∧ s3 = .int .i64 n ∧ s4 = .int .i64 (if g then -1 else 1) ∧ s5 = .int .i64 i ∧ Hid (looseN s.data.toList 0 = looseN (s.data.toList.drop i) n) ∧ Hid (g = true ↔ (45 : UInt8) ∈ s.data.toList.take i)) (fun _ _ s5 _ => s.size - (intOf s5).toNat)
  case atStart => exact ⟨rfl, 0, 0, false, by omega, by omega, by omega, rfl, rfl, rfl, Lib.hid rfl, Lib.hid (by simp)⟩
  case round =>
    obtain ⟨rfl, n, i, g, hn0, hn, hi, rfl, rfl, rfl, HN, HG⟩ := hrel
    by_cases hlt : i < s.size
    · have hb : s.data.toList[i]? = some (s[i]'hlt) := by
        have hsz := HZ.out
        rw [List.getElem?_eq_getElem (by omega)]
        rfl
      have HSt : Hid (looseN (s.data.toList.drop i) n = if 48 ≤ (s[i]'hlt).toNat ∧ (s[i]'hlt).toNat ≤ 57 ∧ n < 1000000 then looseN (s.data.toList.drop (i + 1)) (n * 10 + (((s[i]'hlt).toNat : Int) - 48)) else looseN (s.data.toList.drop (i + 1)) n) := Lib.hid (by
        obtain ⟨hl1, he⟩ := List.getElem?_eq_some_iff.1 hb
        rw [List.drop_eq_getElem_cons hl1, he]
        rfl)
      have HG2 : Hid ((45 : UInt8) ∈ s.data.toList.take (i + 1) ↔ ((45 : UInt8) ∈ s.data.toList.take i ∨ (s[i]'hlt).toNat = 45)) := Lib.hid (by
        rw [List.take_add_one, hb]
        simp only [Option.toList_some, List.mem_append, List.mem_singleton]
        constructor
        · rintro (h | h)
          · exact .inl h
          · exact .inr (by rw [← h]; rfl)
        · rintro (h | h)
          · exact .inl h
          · exact .inr (UInt8.toNat_inj.1 h.symm))
      clear hb
      generalize hx : (s[i]'hlt).toNat = x at HSt HG2
      by_cases h45 : x = 45
      · subst h45
        have HNx : Hid (looseN s.data.toList 0 = looseN (s.data.toList.drop (i + 1)) n) := Lib.hid (by rw [HN.out, HSt.out]; simp)
        have HGx : Hid (true = true ↔ (45 : UInt8) ∈ s.data.toList.take (i + 1)) := Lib.hid (by simp [HG2.out])
        clear HN HSt HG HG2
        go_wp2_with fail
        go_roundw
        case rel => exact ⟨trivial, n, i + 1, true, by omega, by omega, by omega, rfl, rfl, by go_num, HNx, HGx⟩
        case measure => simp [intOf]; omega
      · have HGx : Hid (g = true ↔ (45 : UInt8) ∈ s.data.toList.take (i + 1)) := Lib.hid (by rw [HG2.out, HG.out]; simp [h45])
        clear HG HG2
        by_cases d1 : 48 ≤ x
        · by_cases d2 : x ≤ 57
          · by_cases d3 : n < 1000000
            · have HNx : Hid (looseN s.data.toList 0 = looseN (s.data.toList.drop (i + 1)) (n * 10 + ((x : Int) - 48))) := Lib.hid (by rw [HN.out, HSt.out, if_pos ⟨d1, d2, by omega⟩])
              clear HN HSt
              go_wp2_with fail
              go_roundw
              case rel => exact ⟨trivial, n * 10 + ((x : Int) - 48), i + 1, g, by omega, by omega, by omega, by go_num, rfl, by go_num, HNx, HGx⟩
              case measure => simp [intOf]; omega
            · have HNx : Hid (looseN s.data.toList 0 = looseN (s.data.toList.drop (i + 1)) n) := Lib.hid (by rw [HN.out, HSt.out, if_neg (fun h => by omega)])
              clear HN HSt
              go_wp2_with fail
              go_roundw
              case rel => exact ⟨trivial, n, i + 1, g, by omega, by omega, by omega, rfl, rfl, by go_num, HNx, HGx⟩
              case measure => simp [intOf]; omega
          · have HNx : Hid (looseN s.data.toList 0 = looseN (s.data.toList.drop (i + 1)) n) := Lib.hid (by rw [HN.out, HSt.out, if_neg (fun h => by omega)])
            clear HN HSt
            go_wp2_with fail
            go_roundw
            case rel => exact ⟨trivial, n, i + 1, g, by omega, by omega, by omega, rfl, rfl, by go_num, HNx, HGx⟩
            case measure => simp [intOf]; omega
        · have HNx : Hid (looseN s.data.toList 0 = looseN (s.data.toList.drop (i + 1)) n) := Lib.hid (by rw [HN.out, HSt.out, if_neg (fun h => by omega)])
          clear HN HSt
          go_wp2_with fail
          go_roundw
          case rel => exact ⟨trivial, n, i + 1, g, by omega, by omega, by omega, rfl, rfl, by go_num, HNx, HGx⟩
          case measure => simp [intOf]; omega
    · obtain rfl : i = s.size := by omega
      have HR : Hid (looseP s.data.toList = if g then -n else n) := Lib.hid (by
        have hsz := HZ.out
        have h1 := HG.out
        rw [hsz, List.take_length] at h1
        have h2 := HN.out
        rw [hsz, List.drop_length] at h2
        unfold looseP
        rw [h2]
        cases g with
        | true => rw [if_pos (h1.1 rfl), if_pos rfl]; rfl
        | false => rw [if_neg (fun h => by simpa using h1.2 h), if_neg (by simp)]; rfl)
      clear HN HG
      cases g with
      | true =>
        go_wp2_with fail
        go_ret
        rw [HR.out]
        exact ⟨by simp, rfl⟩
      | false =>
        go_wp2_with fail
        go_ret
        rw [HR.out]
        exact ⟨by simp, rfl⟩
-- WITH

set_option maxHeartbeats 1000000 in
theorem with_65 (op a b c imm : Int) (s : ByteArray) (hs : s.size ≤ 1000) (w : World) : Calls Tryz.prog 57 #[.agg #[.int .i64 op, .int .i64 a, .int .i64 b, .int .i64 c, .int .i64 imm], .int .u8 65, .string s] w fun e w' => e = .returned (.agg #[.int .i64 op, .int .i64 (looseP s.data.toList), .int .i64 b, .int .i64 c, .int .i64 imm]) ∧ Below w.heap.size w w' := by
  have HL := Lib.hid (fun W => loose_any s hs W)
  generalize looseP s.data.toList = V at HL ⊢
  have hb0 : Below w.heap.size w ((w.alloc (.cells #[.int .i64 op, .int .i64 a, .int .i64 b, .int .i64 c, .int .i64 imm] 27)).alloc (.cells #[.int .i64 0, .int .i64 0, .int .i64 0, .int .i64 0, .int .i64 0] 27)) := ((Below.refl _ _).alloc (Nat.le_refl _) _).alloc (by simp) _
  have hI : Blk ((w.alloc (.cells #[.int .i64 op, .int .i64 a, .int .i64 b, .int .i64 c, .int .i64 imm] 27)).alloc (.cells #[.int .i64 0, .int .i64 0, .int .i64 0, .int .i64 0, .int .i64 0] 27)) w.heap.size 27 #[.int .i64 op, .int .i64 a, .int .i64 b, .int .i64 c, .int .i64 imm] := (Blk.new w _ _).alloc _
  have hR : Blk ((w.alloc (.cells #[.int .i64 op, .int .i64 a, .int .i64 b, .int .i64 c, .int .i64 imm] 27)).alloc (.cells #[.int .i64 0, .int .i64 0, .int .i64 0, .int .i64 0, .int .i64 0] 27)) (w.heap.size + 1) 27 #[.int .i64 0, .int .i64 0, .int .i64 0, .int .i64 0, .int .i64 0] := by
    have := Blk.new (w.alloc (.cells #[.int .i64 op, .int .i64 a, .int .i64 b, .int .i64 c, .int .i64 imm] 27)) 27 #[.int .i64 0, .int .i64 0, .int .i64 0, .int .i64 0, .int .i64 0]
    simpa using this
  go_enter Tryz.func57, Tryz.ntmps57
  go_wp2_with fail
  generalize ((w.alloc (.cells #[.int .i64 op, .int .i64 a, .int .i64 b, .int .i64 c, .int .i64 imm] 27)).alloc (.cells #[.int .i64 0, .int .i64 0, .int .i64 0, .int .i64 0, .int .i64 0] 27)) = w1 at hb0 hI hR ⊢
  refine (HL.out w1).mono ?_
  rintro e w1 ⟨rfl, rfl⟩
  have i0 : w1.cell? ⟨w.heap.size, 0, none⟩ = some (.int .i64 op) := hI.cell 0
  have r0 : w1.cell? ⟨w.heap.size + 1, 0, none⟩ = some (.int .i64 0) := hR.cell 0
  have g0 : w1.frozen? ⟨w.heap.size + 1, 0, none⟩ = false := hR.frozen 0
  have i1 : w1.cell? ⟨w.heap.size, 1, none⟩ = some (.int .i64 a) := hI.cell 1
  have r1 : w1.cell? ⟨w.heap.size + 1, 1, none⟩ = some (.int .i64 0) := hR.cell 1
  have g1 : w1.frozen? ⟨w.heap.size + 1, 1, none⟩ = false := hR.frozen 1
  have i2 : w1.cell? ⟨w.heap.size, 2, none⟩ = some (.int .i64 b) := hI.cell 2
  have r2 : w1.cell? ⟨w.heap.size + 1, 2, none⟩ = some (.int .i64 0) := hR.cell 2
  have g2 : w1.frozen? ⟨w.heap.size + 1, 2, none⟩ = false := hR.frozen 2
  have i3 : w1.cell? ⟨w.heap.size, 3, none⟩ = some (.int .i64 c) := hI.cell 3
  have r3 : w1.cell? ⟨w.heap.size + 1, 3, none⟩ = some (.int .i64 0) := hR.cell 3
  have g3 : w1.frozen? ⟨w.heap.size + 1, 3, none⟩ = false := hR.frozen 3
  have i4 : w1.cell? ⟨w.heap.size, 4, none⟩ = some (.int .i64 imm) := hI.cell 4
  have r4 : w1.cell? ⟨w.heap.size + 1, 4, none⟩ = some (.int .i64 0) := hR.cell 4
  have g4 : w1.frozen? ⟨w.heap.size + 1, 4, none⟩ = false := hR.frozen 4
  have j1 : w1.frozen? ⟨w.heap.size, 1, none⟩ = false := hI.frozen 1
  clear hI hR HL
  go_wp2
  refine bodyPost_ret (v := .agg #[.int .i64 op, .int .i64 V, .int .i64 b, .int .i64 c, .int .i64 imm]) (by simp [results, Tryz.results57, go_sem, i0, i1, i2, i3, i4, r0, r1, r2, r3, r4]) rfl ⟨rfl, ?_⟩
  exact (((((hb0.setCell (Nat.le_refl _) _).setCell (by simp) _).setCell (by simp) _).setCell (by simp) _).setCell (by simp) _).setCell (by simp) _

set_option maxHeartbeats 1000000 in
theorem with_66 (op a b c imm : Int) (s : ByteArray) (hs : s.size ≤ 1000) (w : World) : Calls Tryz.prog 57 #[.agg #[.int .i64 op, .int .i64 a, .int .i64 b, .int .i64 c, .int .i64 imm], .int .u8 66, .string s] w fun e w' => e = .returned (.agg #[.int .i64 op, .int .i64 a, .int .i64 (looseP s.data.toList), .int .i64 c, .int .i64 imm]) ∧ Below w.heap.size w w' := by
  have HL := Lib.hid (fun W => loose_any s hs W)
  generalize looseP s.data.toList = V at HL ⊢
  have hb0 : Below w.heap.size w ((w.alloc (.cells #[.int .i64 op, .int .i64 a, .int .i64 b, .int .i64 c, .int .i64 imm] 27)).alloc (.cells #[.int .i64 0, .int .i64 0, .int .i64 0, .int .i64 0, .int .i64 0] 27)) := ((Below.refl _ _).alloc (Nat.le_refl _) _).alloc (by simp) _
  have hI : Blk ((w.alloc (.cells #[.int .i64 op, .int .i64 a, .int .i64 b, .int .i64 c, .int .i64 imm] 27)).alloc (.cells #[.int .i64 0, .int .i64 0, .int .i64 0, .int .i64 0, .int .i64 0] 27)) w.heap.size 27 #[.int .i64 op, .int .i64 a, .int .i64 b, .int .i64 c, .int .i64 imm] := (Blk.new w _ _).alloc _
  have hR : Blk ((w.alloc (.cells #[.int .i64 op, .int .i64 a, .int .i64 b, .int .i64 c, .int .i64 imm] 27)).alloc (.cells #[.int .i64 0, .int .i64 0, .int .i64 0, .int .i64 0, .int .i64 0] 27)) (w.heap.size + 1) 27 #[.int .i64 0, .int .i64 0, .int .i64 0, .int .i64 0, .int .i64 0] := by
    have := Blk.new (w.alloc (.cells #[.int .i64 op, .int .i64 a, .int .i64 b, .int .i64 c, .int .i64 imm] 27)) 27 #[.int .i64 0, .int .i64 0, .int .i64 0, .int .i64 0, .int .i64 0]
    simpa using this
  go_enter Tryz.func57, Tryz.ntmps57
  go_wp2_with fail
  generalize ((w.alloc (.cells #[.int .i64 op, .int .i64 a, .int .i64 b, .int .i64 c, .int .i64 imm] 27)).alloc (.cells #[.int .i64 0, .int .i64 0, .int .i64 0, .int .i64 0, .int .i64 0] 27)) = w1 at hb0 hI hR ⊢
  refine (HL.out w1).mono ?_
  rintro e w1 ⟨rfl, rfl⟩
  have i0 : w1.cell? ⟨w.heap.size, 0, none⟩ = some (.int .i64 op) := hI.cell 0
  have r0 : w1.cell? ⟨w.heap.size + 1, 0, none⟩ = some (.int .i64 0) := hR.cell 0
  have g0 : w1.frozen? ⟨w.heap.size + 1, 0, none⟩ = false := hR.frozen 0
  have i1 : w1.cell? ⟨w.heap.size, 1, none⟩ = some (.int .i64 a) := hI.cell 1
  have r1 : w1.cell? ⟨w.heap.size + 1, 1, none⟩ = some (.int .i64 0) := hR.cell 1
  have g1 : w1.frozen? ⟨w.heap.size + 1, 1, none⟩ = false := hR.frozen 1
  have i2 : w1.cell? ⟨w.heap.size, 2, none⟩ = some (.int .i64 b) := hI.cell 2
  have r2 : w1.cell? ⟨w.heap.size + 1, 2, none⟩ = some (.int .i64 0) := hR.cell 2
  have g2 : w1.frozen? ⟨w.heap.size + 1, 2, none⟩ = false := hR.frozen 2
  have i3 : w1.cell? ⟨w.heap.size, 3, none⟩ = some (.int .i64 c) := hI.cell 3
  have r3 : w1.cell? ⟨w.heap.size + 1, 3, none⟩ = some (.int .i64 0) := hR.cell 3
  have g3 : w1.frozen? ⟨w.heap.size + 1, 3, none⟩ = false := hR.frozen 3
  have i4 : w1.cell? ⟨w.heap.size, 4, none⟩ = some (.int .i64 imm) := hI.cell 4
  have r4 : w1.cell? ⟨w.heap.size + 1, 4, none⟩ = some (.int .i64 0) := hR.cell 4
  have g4 : w1.frozen? ⟨w.heap.size + 1, 4, none⟩ = false := hR.frozen 4
  have j2 : w1.frozen? ⟨w.heap.size, 2, none⟩ = false := hI.frozen 2
  clear hI hR HL
  go_wp2
  refine bodyPost_ret (v := .agg #[.int .i64 op, .int .i64 a, .int .i64 V, .int .i64 c, .int .i64 imm]) (by simp [results, Tryz.results57, go_sem, i0, i1, i2, i3, i4, r0, r1, r2, r3, r4]) rfl ⟨rfl, ?_⟩
  exact (((((hb0.setCell (Nat.le_refl _) _).setCell (by simp) _).setCell (by simp) _).setCell (by simp) _).setCell (by simp) _).setCell (by simp) _

set_option maxHeartbeats 1000000 in
theorem with_67 (op a b c imm : Int) (s : ByteArray) (hs : s.size ≤ 1000) (w : World) : Calls Tryz.prog 57 #[.agg #[.int .i64 op, .int .i64 a, .int .i64 b, .int .i64 c, .int .i64 imm], .int .u8 67, .string s] w fun e w' => e = .returned (.agg #[.int .i64 op, .int .i64 a, .int .i64 b, .int .i64 (looseP s.data.toList), .int .i64 imm]) ∧ Below w.heap.size w w' := by
  have HL := Lib.hid (fun W => loose_any s hs W)
  generalize looseP s.data.toList = V at HL ⊢
  have hb0 : Below w.heap.size w ((w.alloc (.cells #[.int .i64 op, .int .i64 a, .int .i64 b, .int .i64 c, .int .i64 imm] 27)).alloc (.cells #[.int .i64 0, .int .i64 0, .int .i64 0, .int .i64 0, .int .i64 0] 27)) := ((Below.refl _ _).alloc (Nat.le_refl _) _).alloc (by simp) _
  have hI : Blk ((w.alloc (.cells #[.int .i64 op, .int .i64 a, .int .i64 b, .int .i64 c, .int .i64 imm] 27)).alloc (.cells #[.int .i64 0, .int .i64 0, .int .i64 0, .int .i64 0, .int .i64 0] 27)) w.heap.size 27 #[.int .i64 op, .int .i64 a, .int .i64 b, .int .i64 c, .int .i64 imm] := (Blk.new w _ _).alloc _
  have hR : Blk ((w.alloc (.cells #[.int .i64 op, .int .i64 a, .int .i64 b, .int .i64 c, .int .i64 imm] 27)).alloc (.cells #[.int .i64 0, .int .i64 0, .int .i64 0, .int .i64 0, .int .i64 0] 27)) (w.heap.size + 1) 27 #[.int .i64 0, .int .i64 0, .int .i64 0, .int .i64 0, .int .i64 0] := by
    have := Blk.new (w.alloc (.cells #[.int .i64 op, .int .i64 a, .int .i64 b, .int .i64 c, .int .i64 imm] 27)) 27 #[.int .i64 0, .int .i64 0, .int .i64 0, .int .i64 0, .int .i64 0]
    simpa using this
  go_enter Tryz.func57, Tryz.ntmps57
  go_wp2_with fail
  generalize ((w.alloc (.cells #[.int .i64 op, .int .i64 a, .int .i64 b, .int .i64 c, .int .i64 imm] 27)).alloc (.cells #[.int .i64 0, .int .i64 0, .int .i64 0, .int .i64 0, .int .i64 0] 27)) = w1 at hb0 hI hR ⊢
  refine (HL.out w1).mono ?_
  rintro e w1 ⟨rfl, rfl⟩
  have i0 : w1.cell? ⟨w.heap.size, 0, none⟩ = some (.int .i64 op) := hI.cell 0
  have r0 : w1.cell? ⟨w.heap.size + 1, 0, none⟩ = some (.int .i64 0) := hR.cell 0
  have g0 : w1.frozen? ⟨w.heap.size + 1, 0, none⟩ = false := hR.frozen 0
  have i1 : w1.cell? ⟨w.heap.size, 1, none⟩ = some (.int .i64 a) := hI.cell 1
  have r1 : w1.cell? ⟨w.heap.size + 1, 1, none⟩ = some (.int .i64 0) := hR.cell 1
  have g1 : w1.frozen? ⟨w.heap.size + 1, 1, none⟩ = false := hR.frozen 1
  have i2 : w1.cell? ⟨w.heap.size, 2, none⟩ = some (.int .i64 b) := hI.cell 2
  have r2 : w1.cell? ⟨w.heap.size + 1, 2, none⟩ = some (.int .i64 0) := hR.cell 2
  have g2 : w1.frozen? ⟨w.heap.size + 1, 2, none⟩ = false := hR.frozen 2
  have i3 : w1.cell? ⟨w.heap.size, 3, none⟩ = some (.int .i64 c) := hI.cell 3
  have r3 : w1.cell? ⟨w.heap.size + 1, 3, none⟩ = some (.int .i64 0) := hR.cell 3
  have g3 : w1.frozen? ⟨w.heap.size + 1, 3, none⟩ = false := hR.frozen 3
  have i4 : w1.cell? ⟨w.heap.size, 4, none⟩ = some (.int .i64 imm) := hI.cell 4
  have r4 : w1.cell? ⟨w.heap.size + 1, 4, none⟩ = some (.int .i64 0) := hR.cell 4
  have g4 : w1.frozen? ⟨w.heap.size + 1, 4, none⟩ = false := hR.frozen 4
  have j3 : w1.frozen? ⟨w.heap.size, 3, none⟩ = false := hI.frozen 3
  clear hI hR HL
  go_wp2
  refine bodyPost_ret (v := .agg #[.int .i64 op, .int .i64 a, .int .i64 b, .int .i64 V, .int .i64 imm]) (by simp [results, Tryz.results57, go_sem, i0, i1, i2, i3, i4, r0, r1, r2, r3, r4]) rfl ⟨rfl, ?_⟩
  exact (((((hb0.setCell (Nat.le_refl _) _).setCell (by simp) _).setCell (by simp) _).setCell (by simp) _).setCell (by simp) _).setCell (by simp) _

set_option maxHeartbeats 1000000 in
theorem with_73 (op a b c imm : Int) (s : ByteArray) (hs : s.size ≤ 1000) (w : World) : Calls Tryz.prog 57 #[.agg #[.int .i64 op, .int .i64 a, .int .i64 b, .int .i64 c, .int .i64 imm], .int .u8 73, .string s] w fun e w' => e = .returned (.agg #[.int .i64 op, .int .i64 a, .int .i64 b, .int .i64 c, .int .i64 (looseP s.data.toList)]) ∧ Below w.heap.size w w' := by
  have HL := Lib.hid (fun W => loose_any s hs W)
  generalize looseP s.data.toList = V at HL ⊢
  have hb0 : Below w.heap.size w ((w.alloc (.cells #[.int .i64 op, .int .i64 a, .int .i64 b, .int .i64 c, .int .i64 imm] 27)).alloc (.cells #[.int .i64 0, .int .i64 0, .int .i64 0, .int .i64 0, .int .i64 0] 27)) := ((Below.refl _ _).alloc (Nat.le_refl _) _).alloc (by simp) _
  have hI : Blk ((w.alloc (.cells #[.int .i64 op, .int .i64 a, .int .i64 b, .int .i64 c, .int .i64 imm] 27)).alloc (.cells #[.int .i64 0, .int .i64 0, .int .i64 0, .int .i64 0, .int .i64 0] 27)) w.heap.size 27 #[.int .i64 op, .int .i64 a, .int .i64 b, .int .i64 c, .int .i64 imm] := (Blk.new w _ _).alloc _
  have hR : Blk ((w.alloc (.cells #[.int .i64 op, .int .i64 a, .int .i64 b, .int .i64 c, .int .i64 imm] 27)).alloc (.cells #[.int .i64 0, .int .i64 0, .int .i64 0, .int .i64 0, .int .i64 0] 27)) (w.heap.size + 1) 27 #[.int .i64 0, .int .i64 0, .int .i64 0, .int .i64 0, .int .i64 0] := by
    have := Blk.new (w.alloc (.cells #[.int .i64 op, .int .i64 a, .int .i64 b, .int .i64 c, .int .i64 imm] 27)) 27 #[.int .i64 0, .int .i64 0, .int .i64 0, .int .i64 0, .int .i64 0]
    simpa using this
  go_enter Tryz.func57, Tryz.ntmps57
  go_wp2_with fail
  generalize ((w.alloc (.cells #[.int .i64 op, .int .i64 a, .int .i64 b, .int .i64 c, .int .i64 imm] 27)).alloc (.cells #[.int .i64 0, .int .i64 0, .int .i64 0, .int .i64 0, .int .i64 0] 27)) = w1 at hb0 hI hR ⊢
  refine (HL.out w1).mono ?_
  rintro e w1 ⟨rfl, rfl⟩
  have i0 : w1.cell? ⟨w.heap.size, 0, none⟩ = some (.int .i64 op) := hI.cell 0
  have r0 : w1.cell? ⟨w.heap.size + 1, 0, none⟩ = some (.int .i64 0) := hR.cell 0
  have g0 : w1.frozen? ⟨w.heap.size + 1, 0, none⟩ = false := hR.frozen 0
  have i1 : w1.cell? ⟨w.heap.size, 1, none⟩ = some (.int .i64 a) := hI.cell 1
  have r1 : w1.cell? ⟨w.heap.size + 1, 1, none⟩ = some (.int .i64 0) := hR.cell 1
  have g1 : w1.frozen? ⟨w.heap.size + 1, 1, none⟩ = false := hR.frozen 1
  have i2 : w1.cell? ⟨w.heap.size, 2, none⟩ = some (.int .i64 b) := hI.cell 2
  have r2 : w1.cell? ⟨w.heap.size + 1, 2, none⟩ = some (.int .i64 0) := hR.cell 2
  have g2 : w1.frozen? ⟨w.heap.size + 1, 2, none⟩ = false := hR.frozen 2
  have i3 : w1.cell? ⟨w.heap.size, 3, none⟩ = some (.int .i64 c) := hI.cell 3
  have r3 : w1.cell? ⟨w.heap.size + 1, 3, none⟩ = some (.int .i64 0) := hR.cell 3
  have g3 : w1.frozen? ⟨w.heap.size + 1, 3, none⟩ = false := hR.frozen 3
  have i4 : w1.cell? ⟨w.heap.size, 4, none⟩ = some (.int .i64 imm) := hI.cell 4
  have r4 : w1.cell? ⟨w.heap.size + 1, 4, none⟩ = some (.int .i64 0) := hR.cell 4
  have g4 : w1.frozen? ⟨w.heap.size + 1, 4, none⟩ = false := hR.frozen 4
  have j4 : w1.frozen? ⟨w.heap.size, 4, none⟩ = false := hI.frozen 4
  clear hI hR HL
  go_wp2
  refine bodyPost_ret (v := .agg #[.int .i64 op, .int .i64 a, .int .i64 b, .int .i64 c, .int .i64 V]) (by simp [results, Tryz.results57, go_sem, i0, i1, i2, i3, i4, r0, r1, r2, r3, r4]) rfl ⟨rfl, ?_⟩
  exact (((((hb0.setCell (Nat.le_refl _) _).setCell (by simp) _).setCell (by simp) _).setCell (by simp) _).setCell (by simp) _).setCell (by simp) _

set_option maxHeartbeats 1000000 in
theorem with_85 (op a b c imm : Int) (s : ByteArray) (hs : s.size ≤ 1000) (w : World) : Calls Tryz.prog 57 #[.agg #[.int .i64 op, .int .i64 a, .int .i64 b, .int .i64 c, .int .i64 imm], .int .u8 85, .string s] w fun e w' => e = .returned (.agg #[.int .i64 op, .int .i64 a, .int .i64 b, .int .i64 c, .int .i64 (looseP s.data.toList)]) ∧ Below w.heap.size w w' := by
  have HL := Lib.hid (fun W => loose_any s hs W)
  generalize looseP s.data.toList = V at HL ⊢
  have hb0 : Below w.heap.size w ((w.alloc (.cells #[.int .i64 op, .int .i64 a, .int .i64 b, .int .i64 c, .int .i64 imm] 27)).alloc (.cells #[.int .i64 0, .int .i64 0, .int .i64 0, .int .i64 0, .int .i64 0] 27)) := ((Below.refl _ _).alloc (Nat.le_refl _) _).alloc (by simp) _
  have hI : Blk ((w.alloc (.cells #[.int .i64 op, .int .i64 a, .int .i64 b, .int .i64 c, .int .i64 imm] 27)).alloc (.cells #[.int .i64 0, .int .i64 0, .int .i64 0, .int .i64 0, .int .i64 0] 27)) w.heap.size 27 #[.int .i64 op, .int .i64 a, .int .i64 b, .int .i64 c, .int .i64 imm] := (Blk.new w _ _).alloc _
  have hR : Blk ((w.alloc (.cells #[.int .i64 op, .int .i64 a, .int .i64 b, .int .i64 c, .int .i64 imm] 27)).alloc (.cells #[.int .i64 0, .int .i64 0, .int .i64 0, .int .i64 0, .int .i64 0] 27)) (w.heap.size + 1) 27 #[.int .i64 0, .int .i64 0, .int .i64 0, .int .i64 0, .int .i64 0] := by
    have := Blk.new (w.alloc (.cells #[.int .i64 op, .int .i64 a, .int .i64 b, .int .i64 c, .int .i64 imm] 27)) 27 #[.int .i64 0, .int .i64 0, .int .i64 0, .int .i64 0, .int .i64 0]
    simpa using this
  go_enter Tryz.func57, Tryz.ntmps57
  go_wp2_with fail
  generalize ((w.alloc (.cells #[.int .i64 op, .int .i64 a, .int .i64 b, .int .i64 c, .int .i64 imm] 27)).alloc (.cells #[.int .i64 0, .int .i64 0, .int .i64 0, .int .i64 0, .int .i64 0] 27)) = w1 at hb0 hI hR ⊢
  refine (HL.out w1).mono ?_
  rintro e w1 ⟨rfl, rfl⟩
  have i0 : w1.cell? ⟨w.heap.size, 0, none⟩ = some (.int .i64 op) := hI.cell 0
  have r0 : w1.cell? ⟨w.heap.size + 1, 0, none⟩ = some (.int .i64 0) := hR.cell 0
  have g0 : w1.frozen? ⟨w.heap.size + 1, 0, none⟩ = false := hR.frozen 0
  have i1 : w1.cell? ⟨w.heap.size, 1, none⟩ = some (.int .i64 a) := hI.cell 1
  have r1 : w1.cell? ⟨w.heap.size + 1, 1, none⟩ = some (.int .i64 0) := hR.cell 1
  have g1 : w1.frozen? ⟨w.heap.size + 1, 1, none⟩ = false := hR.frozen 1
  have i2 : w1.cell? ⟨w.heap.size, 2, none⟩ = some (.int .i64 b) := hI.cell 2
  have r2 : w1.cell? ⟨w.heap.size + 1, 2, none⟩ = some (.int .i64 0) := hR.cell 2
  have g2 : w1.frozen? ⟨w.heap.size + 1, 2, none⟩ = false := hR.frozen 2
  have i3 : w1.cell? ⟨w.heap.size, 3, none⟩ = some (.int .i64 c) := hI.cell 3
  have r3 : w1.cell? ⟨w.heap.size + 1, 3, none⟩ = some (.int .i64 0) := hR.cell 3
  have g3 : w1.frozen? ⟨w.heap.size + 1, 3, none⟩ = false := hR.frozen 3
  have i4 : w1.cell? ⟨w.heap.size, 4, none⟩ = some (.int .i64 imm) := hI.cell 4
  have r4 : w1.cell? ⟨w.heap.size + 1, 4, none⟩ = some (.int .i64 0) := hR.cell 4
  have g4 : w1.frozen? ⟨w.heap.size + 1, 4, none⟩ = false := hR.frozen 4
  have j4 : w1.frozen? ⟨w.heap.size, 4, none⟩ = false := hI.frozen 4
  clear hI hR HL
  go_wp2
  refine bodyPost_ret (v := .agg #[.int .i64 op, .int .i64 a, .int .i64 b, .int .i64 c, .int .i64 V]) (by simp [results, Tryz.results57, go_sem, i0, i1, i2, i3, i4, r0, r1, r2, r3, r4]) rfl ⟨rfl, ?_⟩
  exact (((((hb0.setCell (Nat.le_refl _) _).setCell (by simp) _).setCell (by simp) _).setCell (by simp) _).setCell (by simp) _).setCell (by simp) _
end Go.Proofs.YtecmeegnjjhilaaGreatDoor

/- The document's cut at blanks. -/
namespace Go.Proofs.YtecmeegnjjhilaaGreatDoor
open Go.RowKit

def cutGo (d : UInt8) : List UInt8 → List UInt8 → List (List UInt8)
  | [], acc => [acc]
  | c :: r, acc => if c = d then acc :: cutGo d r [] else cutGo d r (acc ++ [c])
/-- The pieces between the bytes d. -/
def cutL (d : UInt8) (l : List UInt8) : List (List UInt8) := cutGo d l []
theorem cut_ne (d : UInt8) : ∀ (l acc : List UInt8), cutGo d l acc ≠ []
  | [], acc => by simp [cutGo]
  | c :: r, acc => by
    unfold cutGo
    split
    · simp
    · exact cut_ne d r _
/-- Where the cut stands before byte i: the pieces so far, the piece that is open from byte k on. -/
def CutAt (d : UInt8) (l : List UInt8) (L : List (List UInt8)) (k i : Nat) : Prop :=
  if i ≤ l.length then cutL d l = L ++ cutGo d (l.drop i) ((l.drop k).take (i - k)) else cutL d l = L
theorem CutAt.step {d : UInt8} {l : List UInt8} {L : List (List UInt8)} {k i : Nat} (h : CutAt d l L k i) (hk : k ≤ i) (c : UInt8) (hc : l[i]? = some c) :
    if c = d then CutAt d l (L ++ [(l.drop k).take (i - k)]) (i + 1) (i + 1) else CutAt d l L k (i + 1) := by
  obtain ⟨hl, he⟩ := List.getElem?_eq_some_iff.1 hc
  unfold CutAt at h ⊢
  rw [if_pos (by omega), List.drop_eq_getElem_cons hl, he] at h
  rw [if_pos (show i + 1 ≤ l.length by omega), if_pos (show i + 1 ≤ l.length by omega)]
  unfold cutGo at h
  split
  · rename_i hcd
    rw [if_pos hcd] at h
    rw [h, Nat.sub_self, List.take_zero]
    simp
  · rename_i hcd
    rw [if_neg hcd] at h
    rw [h, show i + 1 - k = (i - k) + 1 by omega, List.take_add_one, List.getElem?_drop, show k + (i - k) = i by omega, hc]
    rfl
theorem CutAt.hit {d : UInt8} {l : List UInt8} {L : List (List UInt8)} {k i : Nat} (h : CutAt d l L k i) (hk : k ≤ i) (c : UInt8) (hc : l[i]? = some c) (he : c = d) : CutAt d l (L ++ [(l.drop k).take (i - k)]) (i + 1) (i + 1) := by
  have := h.step hk c hc
  rw [if_pos he] at this
  exact this
theorem CutAt.go {d : UInt8} {l : List UInt8} {L : List (List UInt8)} {k i : Nat} (h : CutAt d l L k i) (hk : k ≤ i) (c : UInt8) (hc : l[i]? = some c) (he : c ≠ d) : CutAt d l L k (i + 1) := by
  have := h.step hk c hc
  rw [if_neg he] at this
  exact this
theorem CutAt.last {d : UInt8} {l : List UInt8} {L : List (List UInt8)} {k : Nat} (h : CutAt d l L k l.length) : CutAt d l (L ++ [(l.drop k).take (l.length - k)]) (l.length + 1) (l.length + 1) := by
  unfold CutAt at h ⊢
  rw [if_pos (Nat.le_refl _), List.drop_length] at h
  rw [if_neg (by omega), h]
  rfl

set_option maxRecDepth 100000 in
set_option maxHeartbeats 2000000 in
theorem blanks_any (s : ByteArray) (hs : s.size ≤ 1000) (w : World) : Calls Tryz.prog 56 #[.string s] w fun e w' => ∃ A c, e = .returned (.slice A (cutL 32 s.data.toList).length c) ∧ w'.ownsRow w.heap.size 9 1 (.slice A (cutL 32 s.data.toList).length c) (cutL 32 s.data.toList).length (strs (cutL 32 s.data.toList)) ∧ Below w.heap.size w w' := by
  have HZ : Hid (s.size = s.data.toList.length) := Lib.hid (Lib.size_eq s)
  obtain ⟨i0, hi0, hz0, hz1, hz2⟩ := info_parts strinfo
  have hr := Below.refl w.heap.size w
  go_enter Tryz.func56, Tryz.ntmps56
  go_wp2_with fail
  go_loopw [3, 4, 5] (fun s3 s4 s5 wr => ∃ (k i : Nat) (L : List (List UInt8)) (A : Option Addr) (c : Nat), i ≤ s.size + 1 ∧ k ≤ i ∧ L.length ≤ i ∧ s3 = .slice A L.length c ∧ s4 = .int .i64 k ∧ s5 = .int .i64 i ∧
      Hid (CutAt 32 s.data.toList L k i) ∧ wr.ownsRow w.heap.size 9 1 (.slice A L.length c) L.length (strs L) ∧ Below w.heap.size w wr) (fun _ _ s5 _ => s.size + 1 - (intOf s5).toNat)
  case atStart => exact ⟨0, 0, [], none, 0, by omega, by omega, by simp, rfl, rfl, rfl, Lib.hid (by unfold CutAt; rw [if_pos (Nat.zero_le _)]; rfl), own_nil _ _ _ _, hr⟩
  case round =>
    obtain ⟨k, i, L, A, c, hi, hk, hLi, rfl, rfl, rfl, HC, hown, hb⟩ := hrel
    clear hr
    by_cases hlt : i < s.size
    · have hb2 : s.data.toList[i]? = some (s[i]'hlt) := by
        have hsz := HZ.out
        rw [List.getElem?_eq_getElem (by omega)]
        rfl
      have HH := Lib.hid (CutAt.hit HC.out hk _ hb2)
      have HGo := Lib.hid (CutAt.go HC.out hk _ hb2)
      have HE : Hid ((s[i]'hlt) = 32 ↔ (s[i]'hlt).toNat = 32) := Lib.hid ⟨fun h => by rw [h]; rfl, fun h => UInt8.toNat_inj.1 h⟩
      clear hb2 HC
      by_cases h32 : (s[i]'hlt).toNat = 32
      · have HN := Lib.hid (HH.out (HE.out.2 h32))
        have HX : Hid (s.extract k i = ⟨((s.data.toList.drop k).take (i - k)).toArray⟩) := Lib.hid (bytes_eq (by rw [Lib.extract_data]))
        clear HH HGo HE
        generalize (s.data.toList.drop k).take (i - k) = P at HN HX
        have hL2 : (L ++ [P]).length = L.length + 1 := by simp
        generalize hLP : L ++ [P] = L2 at HN hL2
        have HLP := Lib.hid hLP
        clear hLP
        go_wp2_with (at_builtin; refine wpList_append_own _ rfl (.tmp 22) (.tmp 27) _ rfl w.heap.size 9 i0 _ 1 16 Tryz.underlying54 hi0 hz0 hz1 hz2 rfl (by decide) (.slice A L.length c) L.length (strs L) rfl (hown.alloc _) ⟨wr.heap.size, 0, none⟩ 1 1 [.string (s.extract k i)] rfl rfl ?c1 ?c2 ?c3 ?c4 ?c5 ?_)
        case c1 => exact fun j u hu => new_cells wr _ _ j u hu
        case c2 => intro u hu; simp only [List.mem_cons, List.not_mem_nil, or_false] at hu; subst hu; rfl
        case c3 => unfold maxLen; omega
        case c4 => omega
        case c5 => exact Nat.le_trans hb.size (by simp)
        intro v9 w9 hown9 hg9 _
        have hv9 : ∃ A c, v9 = .slice A (L.length + 1) c := by
          rcases hown9.2 with ⟨_, h⟩ | ⟨g, cap, cur, h, _⟩
          · omega
          · exact ⟨_, _, h⟩
        obtain ⟨A9, c9, rfl⟩ := hv9
        have hb9 : Below w.heap.size w w9 := (hb.alloc hb.size (.cells #[.string (s.extract k i)] 9)).grown hg9 (Nat.le_trans hb.size (by simp)) (fun q hq => by have := own_from hown q hq; omega)
        have ho9 : w9.ownsRow w.heap.size 9 1 (.slice A9 L2.length c9) L2.length (strs L2) := by
          rw [hL2, ← HLP.out]
          rw [HX.out] at hown9
          have he : strs (L ++ [P]) = strs L ++ [Value.string (⟨P.toArray⟩ : ByteArray)] := by simp [strs]
          rw [he]
          exact hown9
        rw [← hL2]
        clear hown9 hg9 hown hb HLP
        go_wp2_with fail
        go_roundw
        case rel => exact ⟨i + 1, i + 1, L2, A9, c9, by omega, by omega, by omega, rfl, by go_num, by go_num, HN, ho9, hb9⟩
        case measure => simp [intOf]; omega
      · have HN := Lib.hid (HGo.out (fun h => h32 (HE.out.1 h)))
        have hc1 : (((s[i]'hlt).toNat : Int) == 32) = false := by rw [beq_eq_false_iff_ne]; omega
        clear HH HGo HE
        go_wp2_with fail
        go_roundw
        case rel => exact ⟨k, i + 1, L, A, c, by omega, by omega, by omega, rfl, rfl, by go_num, HN, hown, hb⟩
        case measure => simp [intOf]; omega
    · by_cases hin : i = s.size
      · subst hin
        have HC1 : CutAt 32 s.data.toList L k s.data.toList.length := by have h := HC.out; rw [HZ.out] at h; exact h
        have HN : Hid (CutAt 32 s.data.toList (L ++ [(s.data.toList.drop k).take (s.size - k)]) (s.size + 1) (s.size + 1)) := Lib.hid (by rw [HZ.out]; exact HC1.last)
        have HX : Hid (s.extract k s.size = ⟨((s.data.toList.drop k).take (s.size - k)).toArray⟩) := Lib.hid (bytes_eq (by rw [Lib.extract_data]))
        clear HC HC1
        generalize (s.data.toList.drop k).take (s.size - k) = P at HN HX
        have hL2 : (L ++ [P]).length = L.length + 1 := by simp
        generalize hLP : L ++ [P] = L2 at HN hL2
        have HLP := Lib.hid hLP
        clear hLP
        go_wp2_with (at_builtin; refine wpList_append_own _ rfl (.tmp 22) (.tmp 27) _ rfl w.heap.size 9 i0 _ 1 16 Tryz.underlying54 hi0 hz0 hz1 hz2 rfl (by decide) (.slice A L.length c) L.length (strs L) rfl (hown.alloc _) ⟨wr.heap.size, 0, none⟩ 1 1 [.string (s.extract k s.size)] rfl rfl ?c1 ?c2 ?c3 ?c4 ?c5 ?_)
        case c1 => exact fun j u hu => new_cells wr _ _ j u hu
        case c2 => intro u hu; simp only [List.mem_cons, List.not_mem_nil, or_false] at hu; subst hu; rfl
        case c3 => unfold maxLen; omega
        case c4 => omega
        case c5 => exact Nat.le_trans hb.size (by simp)
        intro v9 w9 hown9 hg9 _
        have hv9 : ∃ A c, v9 = .slice A (L.length + 1) c := by
          rcases hown9.2 with ⟨_, h⟩ | ⟨g, cap, cur, h, _⟩
          · omega
          · exact ⟨_, _, h⟩
        obtain ⟨A9, c9, rfl⟩ := hv9
        have hb9 : Below w.heap.size w w9 := (hb.alloc hb.size (.cells #[.string (s.extract k s.size)] 9)).grown hg9 (Nat.le_trans hb.size (by simp)) (fun q hq => by have := own_from hown q hq; omega)
        have ho9 : w9.ownsRow w.heap.size 9 1 (.slice A9 L2.length c9) L2.length (strs L2) := by
          rw [hL2, ← HLP.out]
          rw [HX.out] at hown9
          have he : strs (L ++ [P]) = strs L ++ [Value.string (⟨P.toArray⟩ : ByteArray)] := by simp [strs]
          rw [he]
          exact hown9
        rw [← hL2]
        clear hown9 hg9 hown hb HLP
        go_wp2_with fail
        go_roundw
        case rel => exact ⟨s.size + 1, s.size + 1, L2, A9, c9, by omega, by omega, by omega, rfl, by go_num, by go_num, HN, ho9, hb9⟩
        case measure => simp [intOf]
      · have hL : cutL 32 s.data.toList = L := by
          have h := HC.out
          unfold CutAt at h
          rw [if_neg (by have := HZ.out; omega)] at h
          exact h
        have HL := Lib.hid hL
        clear HC hL
        go_wp2_with fail
        go_ret
        rw [HL.out]
        exact ⟨A, c, rfl, hown, hb⟩
end Go.Proofs.YtecmeegnjjhilaaGreatDoor

/- Why the document's loose reading finds what was printed: the plain part. -/
namespace Go.Proofs.YtecmeegnjjhilaaGreatDoor
open Go.RowKit

theorem loose_snoc (c : UInt8) (hc : 48 ≤ c.toNat ∧ c.toNat ≤ 57) : ∀ (l : List UInt8) (n : Int), looseN l n < 1000000 → looseN (l ++ [c]) n = looseN l n * 10 + ((c.toNat : Int) - 48)
  | [], n, h => by
    simp only [looseN, List.nil_append] at h ⊢
    rw [if_pos ⟨hc.1, hc.2, h⟩]
  | x :: l, n, h => by
    simp only [looseN, List.cons_append] at h ⊢
    split
    · rename_i hx
      rw [if_pos hx] at h
      exact loose_snoc c hc l _ h
    · rename_i hx
      rw [if_neg hx] at h
      exact loose_snoc c hc l _ h
theorem loose_dec (u : Nat) : u < 1000000 → looseN (Lib.decDigits u) 0 = u := by
  induction u using Nat.strongRecOn with
  | ind u ih =>
    intro hu
    by_cases h : u < 10
    · rw [Lib.decDigits_one h]
      have hc : (UInt8.ofNat (48 + u)).toNat = 48 + u := by simp [UInt8.toNat_ofNat']; omega
      simp only [looseN]
      rw [if_pos ⟨by omega, by omega, by omega⟩, hc]
      omega
    · rw [dec_step u h]
      have hc : (UInt8.ofNat (48 + u % 10)).toNat = 48 + u % 10 := by simp [UInt8.toNat_ofNat']; omega
      have ih2 := ih (u / 10) (by omega) (by omega)
      rw [loose_snoc _ (by rw [hc]; omega) _ 0 (by rw [ih2]; omega), ih2, hc]
      omega
theorem no_minus (u : Nat) : (45 : UInt8) ∉ Lib.decDigits u := fun h => by
  have h1 := dec_digit u 45 h
  have e : (45 : UInt8).toNat = 45 := rfl
  omega
theorem loose_reg (n : Int) (h0 : 0 ≤ n) (h1 : n ≤ 15) : looseP (regT n) = n := by
  obtain ⟨u, rfl⟩ := Int.eq_ofNat_of_zero_le h0
  have hm : (45 : UInt8) ∉ regT (u : Int) := fun h => by
    rcases List.mem_cons.1 h with h | h
    · exact absurd h (by decide)
    · exact no_minus _ h
  unfold looseP
  rw [if_neg hm]
  show looseN (114 :: Lib.decDigits ((u : Int).toNat)) 0 = u
  simp only [looseN]
  rw [if_neg (fun h => absurd h.2.1 (by decide)), Int.toNat_natCast, loose_dec u (by omega)]
theorem loose_itoa (n : Int) (h0 : -1000000 < n) (h1 : n < 1000000) : looseP (Lib.itoa n) = n := by
  by_cases hn : n < 0
  · obtain ⟨u, rfl⟩ : ∃ u : Nat, n = -((u : Int) + 1) := ⟨(-n).toNat - 1, by omega⟩
    have e : Lib.itoa (-((u : Int) + 1)) = 45 :: Lib.decDigits (u + 1) := Lib.itoa_neg (u + 1) (by omega)
    rw [e]
    unfold looseP
    rw [if_pos (List.mem_cons_self ..)]
    simp only [looseN]
    rw [if_neg (fun h => absurd h.1 (by decide)), loose_dec (u + 1) (by omega)]
    omega
  · obtain ⟨u, rfl⟩ := Int.eq_ofNat_of_zero_le (show 0 ≤ n by omega)
    rw [Lib.itoa_nonneg]
    unfold looseP
    rw [if_neg (no_minus u), loose_dec u (by omega)]
theorem dec_len (u : Nat) : ∀ k, 1 ≤ k → u < 10 ^ k → (Lib.decDigits u).length ≤ k := by
  induction u using Nat.strongRecOn with
  | ind u ih =>
    intro k hk hu
    by_cases h : u < 10
    · rw [Lib.decDigits_one h]
      exact hk
    · rw [dec_step u h, List.length_append]
      obtain ⟨q, rfl⟩ : ∃ q, k = q + 1 := ⟨k - 1, by omega⟩
      rw [Nat.pow_succ] at hu
      have hq : 1 ≤ q := by
        cases q with
        | zero => omega
        | succ q => omega
      have := ih (u / 10) (by omega) q hq (by omega)
      simp only [List.length_cons, List.length_nil]
      omega
theorem reg_len3 (n : Int) (h0 : 0 ≤ n) (h1 : n ≤ 15) : (regT n).length ≤ 3 := by
  have := dec_len n.toNat 2 (by omega) (by omega)
  unfold regT
  rw [List.length_cons]
  omega
theorem itoa_len6 (n : Int) (h0 : -32768 ≤ n) (h1 : n ≤ 65535) : (Lib.itoa n).length ≤ 6 := by
  unfold Lib.itoa
  split
  · have := dec_len n.natAbs 5 (by omega) (by omega)
    rw [List.length_cons]
    omega
  · have := dec_len n.toNat 5 (by omega) (by omega)
    omega
theorem print_len40 (i : Ins) (hc : checkC i = 0) : (printT i).length ≤ 40 := by
  obtain ⟨_, _, a0, a1, b0, b1, c0, c1, m0, m1⟩ := check_ok i hc
  have ha := reg_len3 i.a a0 a1
  have hb := reg_len3 i.b b0 b1
  have hcc := reg_len3 i.c c0 c1
  have hm := itoa_len6 i.imm m0 m1
  have hw := word_len i.op
  rw [print_cat i hc]
  unfold fieldsT
  simp only
  generalize regT i.a = A at ha
  generalize regT i.b = B at hb
  generalize regT i.c = C at hcc
  generalize Lib.itoa i.imm = M at hm
  generalize (opRow i.op).word = W at hw
  generalize usesOf (formOf i.op) = u
  obtain ⟨ua, ub, uc, ui, us⟩ := u
  cases ua <;> cases ub <;> cases uc <;> cases ui <;> simp [Lib.joinTail] <;> omega

theorem cutGo_one (d : UInt8) : ∀ (l acc : List UInt8), d ∉ l → cutGo d l acc = [acc ++ l]
  | [], acc, _ => by simp [cutGo]
  | c :: l, acc, h => by
    unfold cutGo
    rw [if_neg (fun e => h (by simp [e])), cutGo_one d l _ (fun e => h (by simp [e]))]
    simp
theorem cutGo_hit (d : UInt8) (r : List UInt8) : ∀ (l acc : List UInt8), d ∉ l → cutGo d (l ++ d :: r) acc = (acc ++ l) :: cutL d r
  | [], acc, _ => by
    show cutGo d (d :: r) acc = _
    unfold cutGo
    rw [if_pos rfl, List.append_nil]
    rfl
  | c :: l, acc, h => by
    rw [List.cons_append]
    unfold cutGo
    rw [if_neg (fun e => h (by simp [e])), cutGo_hit d r l _ (fun e => h (by simp [e]))]
    simp
theorem cut_join (d : UInt8) : ∀ (r : List (List UInt8)) (x : List UInt8), (∀ l ∈ x :: r, d ∉ l) → cutL d (Lib.join (x :: r) [d]) = x :: r
  | [], x, h => by
    rw [Lib.join_one]
    exact cutGo_one d x [] (h x (by simp))
  | y :: r, x, h => by
    have ih := cut_join d r y (fun l hl => h l (by simp at hl ⊢; right; exact hl))
    have e : Lib.join (x :: y :: r) [d] = x ++ d :: Lib.join (y :: r) [d] := by
      rw [Lib.join_cons, Lib.join_cons]
      simp [Lib.joinTail]
    rw [e]
    unfold cutL
    rw [cutGo_hit d _ x [] (h x (by simp)), ih]
    rfl
theorem known_cut {s : ByteArray} {i : Ins} (h : parseOk s i) : cutL 32 s.data.toList = (opRow i.op).word :: fieldsT i := by
  rw [← h.2]
  exact cut_join 32 _ _ (fun l hl => (pieces i h.1 l hl).1)

def nB (b : Bool) : Nat := if b then 1 else 0
theorem slot_all (i : Ins) : ((usesOf (formOf i.op)).a = true → (fieldsT i)[0]? = some (regT i.a)) ∧ ((usesOf (formOf i.op)).b = true → (fieldsT i)[nB (usesOf (formOf i.op)).a]? = some (regT i.b)) ∧
    ((usesOf (formOf i.op)).c = true → (fieldsT i)[nB (usesOf (formOf i.op)).a + nB (usesOf (formOf i.op)).b]? = some (regT i.c)) ∧
    ((usesOf (formOf i.op)).imm = true → (fieldsT i)[nB (usesOf (formOf i.op)).a + nB (usesOf (formOf i.op)).b + nB (usesOf (formOf i.op)).c]? = some (Lib.itoa i.imm)) := by
  unfold fieldsT
  simp only
  generalize usesOf (formOf i.op) = u
  obtain ⟨ua, ub, uc, ui, us⟩ := u
  cases ua <;> cases ub <;> cases uc <;> cases ui <;> simp [nB]

/-- Where the document's loop over the letters stands before letter j: if s is the text of i, the number of the next piece and the fields read so far are i's. -/
def Good (s : ByteArray) (o f : Int) (j k : Nat) (a b c m : Int) : Prop := ∀ i, parseOk s i → o = i.op ∧ f = formOf i.op ∧
  k = 1 + (if 1 ≤ j then nB (usesB f 65) else 0) + (if 2 ≤ j then nB (usesB f 66) else 0) + (if 3 ≤ j then nB (usesB f 67) else 0) + (if 4 ≤ j then nB (usesB f 73) else 0) + (if 5 ≤ j then nB (usesB f 85) else 0) ∧
  a = (if 1 ≤ j then i.a else 0) ∧ b = (if 2 ≤ j then i.b else 0) ∧ c = (if 3 ≤ j then i.c else 0) ∧ m = (if 5 ≤ j then i.imm else if 4 ≤ j then (if usesB f 73 then i.imm else 0) else 0)
theorem good_start (s : ByteArray) (o : Int) (h : ∀ i, parseOk s i → o = i.op) : Good s o (formOf o) 0 1 0 0 0 0 := fun i hi => by
  have := h i hi
  subst this
  simp
theorem good_end {s : ByteArray} {o f : Int} {k : Nat} {a b c m : Int} (h : Good s o f 5 k a b c m) (i : Ins) (hi : parseOk s i) : (⟨o, a, b, c, m⟩ : Ins) = i := by
  obtain ⟨h1, _, _, h2, h3, h4, h5⟩ := h i hi
  subst h1 h2 h3 h4 h5
  simp
/-- One letter more that the form has: its piece is there and reads as the field. -/
theorem good_piece {s : ByteArray} {o f : Int} {j k : Nat} {a b c m : Int} (h : Good s o f j k a b c m) (hj : j < 5) (i : Ins) (hi : parseOk s i) :
    (j = 0 → usesB f 65 = true → ∃ l, (cutL 32 s.data.toList)[k]? = some l ∧ looseP l = i.a) ∧ (j = 1 → usesB f 66 = true → ∃ l, (cutL 32 s.data.toList)[k]? = some l ∧ looseP l = i.b) ∧
    (j = 2 → usesB f 67 = true → ∃ l, (cutL 32 s.data.toList)[k]? = some l ∧ looseP l = i.c) ∧ (j = 3 → usesB f 73 = true → ∃ l, (cutL 32 s.data.toList)[k]? = some l ∧ looseP l = i.imm) ∧
    (j = 4 → usesB f 85 = true → ∃ l, (cutL 32 s.data.toList)[k]? = some l ∧ looseP l = i.imm) := by
  obtain ⟨_, _, a0, a1, b0, b1, c0, c1, m0, m1⟩ := check_ok i hi.1
  obtain ⟨_, hf, hk, _, _, _, _⟩ := h i hi
  have hne := (check_fields i hi.1).1
  obtain ⟨hf0, hf7⟩ := form_range i.op
  obtain ⟨p1, p2, p3, p4, p5⟩ := uses_parts (formOf i.op) (by omega) hf7
  obtain ⟨q1, q2, q3, q4⟩ := slot_all i
  rw [known_cut hi]
  subst hf
  rw [p1, p2, p3, p4, p5] at hk
  rw [p1, p2, p3, p4, p5]
  refine ⟨fun hj hu => ⟨_, ?_, loose_reg i.a a0 a1⟩, fun hj hu => ⟨_, ?_, loose_reg i.b b0 b1⟩, fun hj hu => ⟨_, ?_, loose_reg i.c c0 c1⟩, fun hj hu => ⟨_, ?_, loose_itoa i.imm (by omega) (by omega)⟩, fun hj hu => ⟨_, ?_, loose_itoa i.imm (by omega) (by omega)⟩⟩
  · subst hj hk
    exact q1 hu
  · subst hj hk
    rw [if_pos (by omega), if_neg (by omega), if_neg (by omega), if_neg (by omega), if_neg (by omega)]
    simp only [Nat.add_zero]
    rw [show 1 + nB (usesOf (formOf i.op)).a = nB (usesOf (formOf i.op)).a + 1 by omega, List.getElem?_cons_succ]
    exact q2 hu
  · subst hj hk
    rw [if_pos (by omega), if_pos (by omega), if_neg (by omega), if_neg (by omega), if_neg (by omega)]
    simp only [Nat.add_zero]
    rw [show 1 + nB (usesOf (formOf i.op)).a + nB (usesOf (formOf i.op)).b = nB (usesOf (formOf i.op)).a + nB (usesOf (formOf i.op)).b + 1 by omega, List.getElem?_cons_succ]
    exact q3 hu
  · subst hj hk
    simp only [Bool.and_eq_true] at hu
    rw [if_pos (by omega), if_pos (by omega), if_pos (by omega), if_neg (by omega), if_neg (by omega)]
    simp only [Nat.add_zero]
    rw [show 1 + nB (usesOf (formOf i.op)).a + nB (usesOf (formOf i.op)).b + nB (usesOf (formOf i.op)).c = nB (usesOf (formOf i.op)).a + nB (usesOf (formOf i.op)).b + nB (usesOf (formOf i.op)).c + 1 by omega, List.getElem?_cons_succ]
    exact q4 hu.1
  · subst hj hk
    simp only [Bool.and_eq_true, Bool.not_eq_true'] at hu
    rw [if_pos (by omega), if_pos (by omega), if_pos (by omega), if_pos (by omega), if_neg (by omega), hu.2, Bool.and_false, show nB false = 0 from rfl]
    simp only [Nat.add_zero]
    rw [show 1 + nB (usesOf (formOf i.op)).a + nB (usesOf (formOf i.op)).b + nB (usesOf (formOf i.op)).c = nB (usesOf (formOf i.op)).a + nB (usesOf (formOf i.op)).b + nB (usesOf (formOf i.op)).c + 1 by omega, List.getElem?_cons_succ]
    exact q4 hu.1
/-- A letter that the form lacks: the field is 0. -/
theorem good_lack (i : Ins) (hc : checkC i = 0) : (usesB (formOf i.op) 65 = false → i.a = 0) ∧ (usesB (formOf i.op) 66 = false → i.b = 0) ∧ (usesB (formOf i.op) 67 = false → i.c = 0) ∧ (usesB (formOf i.op) 73 = false → usesB (formOf i.op) 85 = false → i.imm = 0) := by
  obtain ⟨hne, ha, hb, hcc, hl, hh⟩ := check_fields i hc
  obtain ⟨hf0, hf7⟩ := form_range i.op
  obtain ⟨p1, p2, p3, p4, p5⟩ := uses_parts (formOf i.op) (by omega) hf7
  rw [p1, p2, p3, p4, p5]
  generalize usesOf (formOf i.op) = u at *
  obtain ⟨ua, ub, uc, ui, us⟩ := u
  simp only at ha hb hcc hl hh ⊢
  refine ⟨fun h => ?_, fun h => ?_, fun h => ?_, fun h1 h2 => ?_⟩
  · rw [h] at ha; simpa [fitsB] using ha
  · rw [h] at hb; simpa [fitsB] using hb
  · rw [h] at hcc; simpa [fitsB] using hcc
  · have hui : ui = false := by
      cases ui with
      | false => rfl
      | true => cases us <;> simp at h1 h2
    subst hui
    simp only [Uses.lo, Uses.hi, Bool.false_eq_true, if_false] at hl hh
    omega
end Go.Proofs.YtecmeegnjjhilaaGreatDoor

/- The document's Parse. -/
namespace Go.Proofs.YtecmeegnjjhilaaGreatDoor
open Go.RowKit

theorem good_skip0 {s : ByteArray} {o f : Int} {k : Nat} {a b c m : Int} (h : Good s o f 0 k a b c m) (hu : usesB f 65 = false) : Good s o f 1 k a b c m := fun i hi => by
  obtain ⟨h1, h2, h3, h4, h5, h6, h7⟩ := h i hi
  obtain ⟨l1, l2, l3, l4⟩ := good_lack i hi.1
  rw [← h2] at l1 l2 l3 l4
  have hn : nB false = 0 := rfl
  refine ⟨h1, h2, ?_, ?_, ?_, ?_, ?_⟩
  · rw [h3]
    simp [hu, hn]
  · simpa [hu, l1] using h4
  · simpa [hu, l2] using h5
  · simpa [hu, l3] using h6
  · simpa using h7
theorem good_take0 {s : ByteArray} {o f : Int} {k : Nat} {a b c m : Int} (h : Good s o f 0 k a b c m) (hu : usesB f 65 = true) (x : List UInt8) (hx : (cutL 32 s.data.toList)[k]? = some x) : Good s o f 1 (k + 1) (looseP x) b c m := fun i hi => by
  obtain ⟨l, hl, hv⟩ := (good_piece h (by decide) i hi).1 rfl hu
  rw [hx] at hl
  injection hl with hl
  subst hl
  obtain ⟨h1, h2, h3, h4, h5, h6, h7⟩ := h i hi
  have hn : nB true = 1 := rfl
  have hn0 : nB false = 0 := rfl
  refine ⟨h1, h2, ?_, ?_, ?_, ?_, ?_⟩
  · rw [h3]
    simp [hu, hn]
    try omega
  · simp [hv]
  · simpa using h5
  · simpa using h6
  · simpa using h7
theorem good_short0 {s : ByteArray} {o f : Int} {k : Nat} {a b c m : Int} (h : Good s o f 0 k a b c m) (hu : usesB f 65 = true) (hk : (cutL 32 s.data.toList).length ≤ k) : parseP s = (⟨0, 0, 0, 0, 0⟩, 18) := parse_bad s fun i hi => by
  obtain ⟨l, hl, _⟩ := (good_piece h (by decide) i hi).1 rfl hu
  rw [List.getElem?_eq_none hk] at hl
  cases hl
theorem good_skip1 {s : ByteArray} {o f : Int} {k : Nat} {a b c m : Int} (h : Good s o f 1 k a b c m) (hu : usesB f 66 = false) : Good s o f 2 k a b c m := fun i hi => by
  obtain ⟨h1, h2, h3, h4, h5, h6, h7⟩ := h i hi
  obtain ⟨l1, l2, l3, l4⟩ := good_lack i hi.1
  rw [← h2] at l1 l2 l3 l4
  have hn : nB false = 0 := rfl
  refine ⟨h1, h2, ?_, ?_, ?_, ?_, ?_⟩
  · rw [h3]
    simp [hu, hn]
  · simpa [hu, l1] using h4
  · simpa [hu, l2] using h5
  · simpa [hu, l3] using h6
  · simpa using h7
theorem good_take1 {s : ByteArray} {o f : Int} {k : Nat} {a b c m : Int} (h : Good s o f 1 k a b c m) (hu : usesB f 66 = true) (x : List UInt8) (hx : (cutL 32 s.data.toList)[k]? = some x) : Good s o f 2 (k + 1) a (looseP x) c m := fun i hi => by
  obtain ⟨l, hl, hv⟩ := (good_piece h (by decide) i hi).2.1 rfl hu
  rw [hx] at hl
  injection hl with hl
  subst hl
  obtain ⟨h1, h2, h3, h4, h5, h6, h7⟩ := h i hi
  have hn : nB true = 1 := rfl
  have hn0 : nB false = 0 := rfl
  refine ⟨h1, h2, ?_, ?_, ?_, ?_, ?_⟩
  · rw [h3]
    simp [hu, hn]
    try omega
  · simpa using h4
  · simp [hv]
  · simpa using h6
  · simpa using h7
theorem good_short1 {s : ByteArray} {o f : Int} {k : Nat} {a b c m : Int} (h : Good s o f 1 k a b c m) (hu : usesB f 66 = true) (hk : (cutL 32 s.data.toList).length ≤ k) : parseP s = (⟨0, 0, 0, 0, 0⟩, 18) := parse_bad s fun i hi => by
  obtain ⟨l, hl, _⟩ := (good_piece h (by decide) i hi).2.1 rfl hu
  rw [List.getElem?_eq_none hk] at hl
  cases hl
theorem good_skip2 {s : ByteArray} {o f : Int} {k : Nat} {a b c m : Int} (h : Good s o f 2 k a b c m) (hu : usesB f 67 = false) : Good s o f 3 k a b c m := fun i hi => by
  obtain ⟨h1, h2, h3, h4, h5, h6, h7⟩ := h i hi
  obtain ⟨l1, l2, l3, l4⟩ := good_lack i hi.1
  rw [← h2] at l1 l2 l3 l4
  have hn : nB false = 0 := rfl
  refine ⟨h1, h2, ?_, ?_, ?_, ?_, ?_⟩
  · rw [h3]
    simp [hu, hn]
  · simpa [hu, l1] using h4
  · simpa [hu, l2] using h5
  · simpa [hu, l3] using h6
  · simpa using h7
theorem good_take2 {s : ByteArray} {o f : Int} {k : Nat} {a b c m : Int} (h : Good s o f 2 k a b c m) (hu : usesB f 67 = true) (x : List UInt8) (hx : (cutL 32 s.data.toList)[k]? = some x) : Good s o f 3 (k + 1) a b (looseP x) m := fun i hi => by
  obtain ⟨l, hl, hv⟩ := (good_piece h (by decide) i hi).2.2.1 rfl hu
  rw [hx] at hl
  injection hl with hl
  subst hl
  obtain ⟨h1, h2, h3, h4, h5, h6, h7⟩ := h i hi
  have hn : nB true = 1 := rfl
  have hn0 : nB false = 0 := rfl
  refine ⟨h1, h2, ?_, ?_, ?_, ?_, ?_⟩
  · rw [h3]
    simp [hu, hn]
    try omega
  · simpa using h4
  · simpa using h5
  · simp [hv]
  · simpa using h7
theorem good_short2 {s : ByteArray} {o f : Int} {k : Nat} {a b c m : Int} (h : Good s o f 2 k a b c m) (hu : usesB f 67 = true) (hk : (cutL 32 s.data.toList).length ≤ k) : parseP s = (⟨0, 0, 0, 0, 0⟩, 18) := parse_bad s fun i hi => by
  obtain ⟨l, hl, _⟩ := (good_piece h (by decide) i hi).2.2.1 rfl hu
  rw [List.getElem?_eq_none hk] at hl
  cases hl
theorem good_skip3 {s : ByteArray} {o f : Int} {k : Nat} {a b c m : Int} (h : Good s o f 3 k a b c m) (hu : usesB f 73 = false) : Good s o f 4 k a b c m := fun i hi => by
  obtain ⟨h1, h2, h3, h4, h5, h6, h7⟩ := h i hi
  obtain ⟨l1, l2, l3, l4⟩ := good_lack i hi.1
  rw [← h2] at l1 l2 l3 l4
  have hn : nB false = 0 := rfl
  refine ⟨h1, h2, ?_, ?_, ?_, ?_, ?_⟩
  · rw [h3]
    simp [hu, hn]
  · simpa [hu, l1] using h4
  · simpa [hu, l2] using h5
  · simpa [hu, l3] using h6
  · simp [hu]
    simpa using h7
theorem good_take3 {s : ByteArray} {o f : Int} {k : Nat} {a b c m : Int} (h : Good s o f 3 k a b c m) (hu : usesB f 73 = true) (x : List UInt8) (hx : (cutL 32 s.data.toList)[k]? = some x) : Good s o f 4 (k + 1) a b c (looseP x) := fun i hi => by
  obtain ⟨l, hl, hv⟩ := (good_piece h (by decide) i hi).2.2.2.1 rfl hu
  rw [hx] at hl
  injection hl with hl
  subst hl
  obtain ⟨h1, h2, h3, h4, h5, h6, h7⟩ := h i hi
  have hn : nB true = 1 := rfl
  have hn0 : nB false = 0 := rfl
  refine ⟨h1, h2, ?_, ?_, ?_, ?_, ?_⟩
  · rw [h3]
    simp [hu, hn]
    try omega
  · simpa using h4
  · simpa using h5
  · simpa using h6
  · simp [hu, hv]
theorem good_short3 {s : ByteArray} {o f : Int} {k : Nat} {a b c m : Int} (h : Good s o f 3 k a b c m) (hu : usesB f 73 = true) (hk : (cutL 32 s.data.toList).length ≤ k) : parseP s = (⟨0, 0, 0, 0, 0⟩, 18) := parse_bad s fun i hi => by
  obtain ⟨l, hl, _⟩ := (good_piece h (by decide) i hi).2.2.2.1 rfl hu
  rw [List.getElem?_eq_none hk] at hl
  cases hl
theorem good_skip4 {s : ByteArray} {o f : Int} {k : Nat} {a b c m : Int} (h : Good s o f 4 k a b c m) (hu : usesB f 85 = false) : Good s o f 5 k a b c m := fun i hi => by
  obtain ⟨h1, h2, h3, h4, h5, h6, h7⟩ := h i hi
  obtain ⟨l1, l2, l3, l4⟩ := good_lack i hi.1
  rw [← h2] at l1 l2 l3 l4
  have hn : nB false = 0 := rfl
  refine ⟨h1, h2, ?_, ?_, ?_, ?_, ?_⟩
  · rw [h3]
    simp [hu, hn]
  · simpa [hu, l1] using h4
  · simpa [hu, l2] using h5
  · simpa [hu, l3] using h6
  · by_cases h73 : usesB f 73 = true
    · simpa [h73] using h7
    · have h73f : usesB f 73 = false := by simpa using h73
      rw [l4 h73f hu]
      simpa [h73f] using h7
theorem good_take4 {s : ByteArray} {o f : Int} {k : Nat} {a b c m : Int} (h : Good s o f 4 k a b c m) (hu : usesB f 85 = true) (x : List UInt8) (hx : (cutL 32 s.data.toList)[k]? = some x) : Good s o f 5 (k + 1) a b c (looseP x) := fun i hi => by
  obtain ⟨l, hl, hv⟩ := (good_piece h (by decide) i hi).2.2.2.2 rfl hu
  rw [hx] at hl
  injection hl with hl
  subst hl
  obtain ⟨h1, h2, h3, h4, h5, h6, h7⟩ := h i hi
  have hn : nB true = 1 := rfl
  have hn0 : nB false = 0 := rfl
  refine ⟨h1, h2, ?_, ?_, ?_, ?_, ?_⟩
  · rw [h3]
    simp [hu, hn]
    try omega
  · simpa using h4
  · simpa using h5
  · simpa using h6
  · simp [hv]
theorem good_short4 {s : ByteArray} {o f : Int} {k : Nat} {a b c m : Int} (h : Good s o f 4 k a b c m) (hu : usesB f 85 = true) (hk : (cutL 32 s.data.toList).length ≤ k) : parseP s = (⟨0, 0, 0, 0, 0⟩, 18) := parse_bad s fun i hi => by
  obtain ⟨l, hl, _⟩ := (good_piece h (by decide) i hi).2.2.2.2 rfl hu
  rw [List.getElem?_eq_none hk] at hl
  cases hl

theorem strs_bytes (L : List (List UInt8)) : strs L = (L.map fun (l : List UInt8) => (⟨l.toArray⟩ : ByteArray)).map Value.string := by simp [strs]
theorem StrsV.below {w w' : World} {v : Value} {ss : List ByteArray} (h : StrsV w v ss) (hb : Below w.heap.size w w') : StrsV w' v ss := by
  obtain ⟨A, c, e, hc, hs⟩ := h
  refine ⟨A, c, e, hc, fun hn => ?_⟩
  obtain ⟨b, o, cur, hA, hB, hcur⟩ := hs hn
  exact ⟨b, o, cur, hA, hB.below hb hB.lt, hcur⟩
theorem StrsV.store {w : World} {B : Nat} {t : TypeId} {cs : Array Value} {v : Value} {ss : List ByteArray} (h : StrsV w v ss) (hB : Blk w B t cs) (ht : 9 ≠ t) (i : Nat) (u : Value) : StrsV (w.setCell ⟨B, i, none⟩ u) v ss := by
  obtain ⟨A, c, e, hc, hs⟩ := h
  refine ⟨A, c, e, hc, fun hn => ?_⟩
  obtain ⟨b, o, cur, hA, hb, hcur⟩ := hs hn
  exact ⟨b, o, cur, hA, hb.far (p := ⟨B, i, none⟩) (hb.apart hB ht) u, hcur⟩
theorem cut_small (d : UInt8) : ∀ (l acc : List UInt8), ∀ x ∈ cutGo d l acc, x.length ≤ acc.length + l.length
  | [], acc, x, h => by
    simp only [cutGo, List.mem_cons, List.not_mem_nil, or_false] at h
    rw [h]; simp
  | c :: l, acc, x, h => by
    unfold cutGo at h
    split at h
    · rcases List.mem_cons.1 h with h | h
      · rw [h]; simp
      · have := cut_small d l [] x h
        simp at this ⊢; omega
    · have := cut_small d l _ x h
      simp at this ⊢; omega
theorem cut_count (d : UInt8) : ∀ (l acc : List UInt8), (cutGo d l acc).length ≤ l.length + 1
  | [], acc => by simp [cutGo]
  | c :: l, acc => by
    unfold cutGo
    split
    · have := cut_count d l []
      simp; omega
    · have := cut_count d l (acc ++ [c])
      simp; omega

set_option maxHeartbeats 8000000 in
set_option maxRecDepth 100000 in
theorem RParse_any (s : ByteArray) (hs : s.size ≤ 100000000) (w : World) :
    Calls Tryz.prog 28 #[.string s] w fun e w' => e = .returned (.tuple #[(parseP s).1.val, .int .i64 (parseP s).2]) ∧ Below w.heap.size w w' := by
  have hR := Blk.new w 27 #[.int .i64 0, .int .i64 0, .int .i64 0, .int .i64 0, .int .i64 0]
  have hb0 := (Below.refl w.heap.size w).alloc (Nat.le_refl _) (.cells #[.int .i64 0, .int .i64 0, .int .i64 0, .int .i64 0, .int .i64 0] 27)
  by_cases h40 : 40 < s.size
  · have HP : Hid (parseP s = (⟨0, 0, 0, 0, 0⟩, 18)) := Lib.hid (parse_bad s fun i hi => by
      have h1 := print_len40 i hi.1
      rw [hi.2, ← Lib.size_eq] at h1
      omega)
    have r0 : (w.alloc (.cells #[.int .i64 0, .int .i64 0, .int .i64 0, .int .i64 0, .int .i64 0] 27)).cell? ⟨w.heap.size, 0, none⟩ = some (.int .i64 0) := hR.cell 0
    go_enter Tryz.func28, Tryz.ntmps28
    go_wp2
    refine bodyPost_ret (v := .tuple #[.agg #[.int .i64 0, .int .i64 0, .int .i64 0, .int .i64 0, .int .i64 0], .int .i64 18]) (by simp [results, Tryz.results28, go_sem]) rfl ⟨?_, ?_⟩
    · rw [HP.out]
      rfl
    · repeat (refine Below.setCell ?_ (Nat.le_refl _) _)
      exact hb0
  · have HBl := Lib.hid (blanks_any s (by omega) (w.alloc (.cells #[.int .i64 0, .int .i64 0, .int .i64 0, .int .i64 0, .int .i64 0] 27)))
    have hlen := cut_count 32 s.data.toList []
    have hsz := Lib.size_eq s
    have hne := cut_ne 32 s.data.toList []
    have HSm : Hid (∀ x ∈ cutL 32 s.data.toList, x.length ≤ s.size) := Lib.hid (fun x hx => by have := cut_small 32 s.data.toList [] x hx; simp at this; omega)
    have HLn : Hid ((cutL 32 s.data.toList).length ≤ 41) := Lib.hid (by unfold cutL; omega)
    obtain ⟨x0, hx0⟩ : ∃ x0, (cutL 32 s.data.toList)[0]? = some x0 := by
      cases h : cutL 32 s.data.toList with
      | nil => exact absurd h hne
      | cons x r => exact ⟨x, rfl⟩
    have HPO : Hid (∀ i, parseOk s i → (wordRow x0).op = i.op) := Lib.hid (fun i hi => by
      have h1 := known_cut hi
      rw [h1] at hx0
      injection hx0 with hx0
      rw [← hx0]
      exact name_back i.op (check_fields i hi.1).1)
    have hNm := fun W => RNumber_any ⟨x0.toArray⟩ W
    simp only at hNm
    have HNm := Lib.hid hNm
    have hx0b : ((cutL 32 s.data.toList).map fun (l : List UInt8) => (⟨l.toArray⟩ : ByteArray))[0]? = some ⟨x0.toArray⟩ := by rw [List.getElem?_map, hx0]; rfl
    have Hx0b := Lib.hid hx0b
    clear hne hx0 hNm hlen hsz hx0b
    generalize hop : (wordRow x0).op = op at HPO HNm
    have HF := Lib.hid (fun W => RForm_any op W)
    have hG := good_start s op HPO.out
    generalize hf : formOf op = f at HF hG
    have Hf7 : Hid (0 ≤ f ∧ f ≤ 7) := Lib.hid (by rw [← hf]; exact form_range op)
    clear hop hf HPO
    have HG := Lib.hid hG
    clear hG
    go_enter Tryz.func28, Tryz.ntmps28
    go_wp2_with fail
    refine HBl.out.mono ?_
    rintro e w1 ⟨A, cp, rfl, hown1, hb1⟩
    have hR1 := hR.below hb1 hR.lt
    have hb01 := hb0.trans (hb1.mono (by simp))
    rw [strs_bytes, show (cutL 32 s.data.toList).length = ((cutL 32 s.data.toList).map fun (l : List UInt8) => (⟨l.toArray⟩ : ByteArray)).length by rw [List.length_map]] at hown1
    have hV1 := StrsV.of_own hown1
    rw [List.length_map] at hV1
    have hRl := hR1.lt
    obtain ⟨g0, o0, rfl, hx1⟩ := hV1.at_ 0 _ Hx0b.out
    rw [Nat.add_zero] at hx1
    have hnp : (0 : Int) < ((cutL 32 s.data.toList).length : Int) := by
      have := (List.getElem?_eq_some_iff.1 Hx0b.out).1
      rw [List.length_map] at this
      omega
    clear HBl hown1 hb1 hR hb0 Hx0b
    have HLS : Hid (∀ (k : Nat), (cutL 32 s.data.toList).length ≤ k ∨ ∃ x, (cutL 32 s.data.toList)[k]? = some x ∧ ((cutL 32 s.data.toList).map fun (l : List UInt8) => (⟨l.toArray⟩ : ByteArray))[k]? = some ⟨x.toArray⟩ ∧ (⟨x.toArray⟩ : ByteArray).size ≤ 1000) := Lib.hid (fun k => by
      rcases Nat.lt_or_ge k (cutL 32 s.data.toList).length with h | h
      · refine .inr ⟨_, List.getElem?_eq_getElem h, ?_, ?_⟩
        · rw [List.getElem?_map, List.getElem?_eq_getElem h]
          rfl
        · have := HSm.out _ (List.getElem_mem h)
          rw [Lib.size_eq]
          simp
          omega
      · exact .inl h)
    generalize hL : (cutL 32 s.data.toList).length = nL at hV1 hnp HLS HLn ⊢
    have HL := Lib.hid hL
    have hnL : nL ≤ 41 := HLn.out
    clear hL HSm HLn
    generalize hLB : ((cutL 32 s.data.toList).map fun (l : List UInt8) => (⟨l.toArray⟩ : ByteArray)) = LB at hV1 HLS
    clear hLB
    go_wp2_with fail
    refine (HNm.out _).mono ?_
    rintro e w1 ⟨rfl, rfl⟩
    clear HNm hx1 hnp
    have hI := Blk.new w1 27 #[.int .i64 op, .int .i64 0, .int .i64 0, .int .i64 0, .int .i64 0]
    have hR2 := hR1.alloc (.cells #[.int .i64 op, .int .i64 0, .int .i64 0, .int .i64 0, .int .i64 0] 27)
    have hV2 := hV1.below ((Below.refl w1.heap.size w1).alloc (Nat.le_refl _) (.cells #[.int .i64 op, .int .i64 0, .int .i64 0, .int .i64 0, .int .i64 0] 27))
    have hb2 := hb01.alloc hb01.size (.cells #[.int .i64 op, .int .i64 0, .int .i64 0, .int .i64 0, .int .i64 0] 27)
    clear hR1 hV1 hb01
    go_wp2_with fail
    refine (HF.out _).mono ?_
    rintro e w2 ⟨rfl, rfl⟩
    clear HF
    generalize w1.alloc (.cells #[.int .i64 op, .int .i64 0, .int .i64 0, .int .i64 0, .int .i64 0] 27) = w2 at hI hR2 hV2 hb2 ⊢
    generalize w1.heap.size = I at hI hRl ⊢
    go_wp2_with fail
    go_loopw [7, 9] (fun s7 s9 wr => ∃ (k j : Nat) (a b c m : Int), j ≤ 5 ∧ k ≤ j + 1 ∧ s7 = .int .i64 k ∧ s9 = .int .i64 j ∧ Hid (Good s op f j k a b c m) ∧ Blk wr I 27 #[.int .i64 op, .int .i64 a, .int .i64 b, .int .i64 c, .int .i64 m] ∧
        Blk wr w.heap.size 27 #[.int .i64 0, .int .i64 0, .int .i64 0, .int .i64 0, .int .i64 0] ∧ StrsV wr (.slice (some ⟨g0, o0, none⟩) nL cp) LB ∧ Below w.heap.size w wr) (fun _ s9 _ => 5 - (intOf s9).toNat)
    case atStart => exact ⟨1, 0, 0, 0, 0, 0, by omega, by omega, rfl, rfl, HG, hI, hR2, hV2, hb2⟩
    case round =>
      obtain ⟨k, j, a, b, c, m, hj, hk, rfl, rfl, HGd, hI, hR, hV, hb⟩ := hrel
      clear HG hR2 hV2 hb2
      have hj5 : j = 0 ∨ j = 1 ∨ j = 2 ∨ j = 3 ∨ j = 4 ∨ j = 5 := by omega
      rcases hj5 with rfl | rfl | rfl | rfl | rfl | rfl
      · by_cases hu : usesB f 65 = true
        · have HU := Lib.hid (fun W => (Uses_any f 65 Hf7.out W).mono (fun e w' h => by rw [hu] at h; exact h))
          rcases HLS.out k with hsh | ⟨x, hx, hxb, hxs⟩
          · have HP := Lib.hid (good_short0 HGd.out hu (by rw [HL.out]; exact hsh))
            have hsi : (nL : Int) ≤ (k : Int) := by omega
            clear hu HGd HLS
            go_wp2_with fail
            refine (HU.out _).mono ?_
            rintro e wr ⟨rfl, rfl⟩
            have z0 : wr.frozen? ⟨w.heap.size, 0, none⟩ = false := hR.frozen 0
            have z1 : wr.frozen? ⟨w.heap.size, 1, none⟩ = false := hR.frozen 1
            have z2 : wr.frozen? ⟨w.heap.size, 2, none⟩ = false := hR.frozen 2
            have z3 : wr.frozen? ⟨w.heap.size, 3, none⟩ = false := hR.frozen 3
            have z4 : wr.frozen? ⟨w.heap.size, 4, none⟩ = false := hR.frozen 4
            have y0 : wr.cell? ⟨w.heap.size, 0, none⟩ = some (.int .i64 0) := hR.cell 0
            have y1 : wr.cell? ⟨w.heap.size, 1, none⟩ = some (.int .i64 0) := hR.cell 1
            have y2 : wr.cell? ⟨w.heap.size, 2, none⟩ = some (.int .i64 0) := hR.cell 2
            have y3 : wr.cell? ⟨w.heap.size, 3, none⟩ = some (.int .i64 0) := hR.cell 3
            have y4 : wr.cell? ⟨w.heap.size, 4, none⟩ = some (.int .i64 0) := hR.cell 4
            go_wp2
            refine bodyPost_ret (v := .tuple #[.agg #[.int .i64 0, .int .i64 0, .int .i64 0, .int .i64 0, .int .i64 0], .int .i64 18]) (by simp [results, Tryz.results28, go_sem, y0, y1, y2, y3, y4]) rfl ⟨?_, ?_⟩
            · rw [HP.out]
              rfl
            · exact ((((hb.setCell (Nat.le_refl _) _).setCell (Nat.le_refl _) _).setCell (Nat.le_refl _) _).setCell (Nat.le_refl _) _).setCell (Nat.le_refl _) _
          · have HGn := Lib.hid (good_take0 HGd.out hu x hx)
            obtain ⟨b2, o2, he2, hxc⟩ := hV.at_ k _ hxb
            injection he2 with he2
            injection he2 with e1 e2 _
            subst e1 e2
            have hkl : k < nL := by
              have := (List.getElem?_eq_some_iff.1 hx).1
              rw [HL.out] at this
              exact this
            have hsi : (k : Int) < (nL : Int) := by omega
            have hsi2 : ¬ (nL : Int) ≤ (k : Int) := by omega
            have HW := Lib.hid (fun W => with_65 op a b c m ⟨x.toArray⟩ hxs W)
            simp only at HW
            generalize hX : looseP x = X at HGn HW
            have i0 : wr.cell? ⟨I, 0, none⟩ = some (.int .i64 op) := hI.cell 0
            have i1 : wr.cell? ⟨I, 1, none⟩ = some (.int .i64 a) := hI.cell 1
            have i2 : wr.cell? ⟨I, 2, none⟩ = some (.int .i64 b) := hI.cell 2
            have i3 : wr.cell? ⟨I, 3, none⟩ = some (.int .i64 c) := hI.cell 3
            have i4 : wr.cell? ⟨I, 4, none⟩ = some (.int .i64 m) := hI.cell 4
            clear hu HGd HLS hx hxb hX hxs
            go_wp2_with fail
            refine (HU.out _).mono ?_
            rintro e wr ⟨rfl, rfl⟩
            go_wp2_with fail
            go_still_tail 8, (by kernel_rfl)
            change wpList _ _ _ _ _ wr.drew
            have hIq : Blk wr.drew I 27 #[.int .i64 op, .int .i64 a, .int .i64 b, .int .i64 c, .int .i64 m] := hI
            have hRq : Blk wr.drew w.heap.size 27 #[.int .i64 0, .int .i64 0, .int .i64 0, .int .i64 0, .int .i64 0] := hR
            have hVq : StrsV wr.drew (.slice (some ⟨g0, o0, none⟩) nL cp) LB := hV
            have hbq : Below w.heap.size w wr.drew := below_drewN hb 1
            clear hI hR hV hb i0 i1 i2 i3 i4 hxc
            generalize wr.drew = wd at hIq hRq hVq hbq ⊢
            go_wp2_with fail
            refine (HW.out wd).mono ?_
            rintro e w4 ⟨rfl, hb4⟩
            have hI4 := hIq.below hb4 hIq.lt
            have hR4 := hRq.below hb4 hRq.lt
            have hV4 := hVq.below hb4
            have hb04 : Below w.heap.size w w4 := hbq.trans (hb4.mono hbq.size)
            have f0 : w4.frozen? ⟨I, 0, none⟩ = false := hI4.frozen 0
            have f1 : w4.frozen? ⟨I, 1, none⟩ = false := hI4.frozen 1
            have f2 : w4.frozen? ⟨I, 2, none⟩ = false := hI4.frozen 2
            have f3 : w4.frozen? ⟨I, 3, none⟩ = false := hI4.frozen 3
            have f4 : w4.frozen? ⟨I, 4, none⟩ = false := hI4.frozen 4
            have i0 : w4.cell? ⟨I, 0, none⟩ = some (.int .i64 op) := hI4.cell 0
            have i1 : w4.cell? ⟨I, 1, none⟩ = some (.int .i64 a) := hI4.cell 1
            have i2 : w4.cell? ⟨I, 2, none⟩ = some (.int .i64 b) := hI4.cell 2
            have i3 : w4.cell? ⟨I, 3, none⟩ = some (.int .i64 c) := hI4.cell 3
            have i4 : w4.cell? ⟨I, 4, none⟩ = some (.int .i64 m) := hI4.cell 4
            have hI5 : Blk (((((w4.setCell ⟨I, 0, none⟩ (.int .i64 op)).setCell ⟨I, 1, none⟩ (.int .i64 X)).setCell ⟨I, 2, none⟩ (.int .i64 b)).setCell ⟨I, 3, none⟩ (.int .i64 c)).setCell ⟨I, 4, none⟩ (.int .i64 m)) I 27 #[.int .i64 op, .int .i64 X, .int .i64 b, .int .i64 c, .int .i64 m] := ((((hI4.store 0 _).store 1 _).store 2 _).store 3 _).store 4 _
            have hR5 : Blk (((((w4.setCell ⟨I, 0, none⟩ (.int .i64 op)).setCell ⟨I, 1, none⟩ (.int .i64 X)).setCell ⟨I, 2, none⟩ (.int .i64 b)).setCell ⟨I, 3, none⟩ (.int .i64 c)).setCell ⟨I, 4, none⟩ (.int .i64 m)) w.heap.size 27 #[.int .i64 0, .int .i64 0, .int .i64 0, .int .i64 0, .int .i64 0] := ((((hR4.far (by simp; omega) _).far (by simp; omega) _).far (by simp; omega) _).far (by simp; omega) _).far (by simp; omega) _
            have hV5 : StrsV (((((w4.setCell ⟨I, 0, none⟩ (.int .i64 op)).setCell ⟨I, 1, none⟩ (.int .i64 X)).setCell ⟨I, 2, none⟩ (.int .i64 b)).setCell ⟨I, 3, none⟩ (.int .i64 c)).setCell ⟨I, 4, none⟩ (.int .i64 m)) (.slice (some ⟨g0, o0, none⟩) nL cp) LB := ((((hV4.store hI4 (by decide) 0 _).store (hI4.store 0 _) (by decide) 1 _).store ((hI4.store 0 _).store 1 _) (by decide) 2 _).store (((hI4.store 0 _).store 1 _).store 2 _) (by decide) 3 _).store ((((hI4.store 0 _).store 1 _).store 2 _).store 3 _) (by decide) 4 _
            have hb5 : Below w.heap.size w (((((w4.setCell ⟨I, 0, none⟩ (.int .i64 op)).setCell ⟨I, 1, none⟩ (.int .i64 X)).setCell ⟨I, 2, none⟩ (.int .i64 b)).setCell ⟨I, 3, none⟩ (.int .i64 c)).setCell ⟨I, 4, none⟩ (.int .i64 m)) := ((((hb04.setCell (by simp; omega) _).setCell (by simp; omega) _).setCell (by simp; omega) _).setCell (by simp; omega) _).setCell (by simp; omega) _
            clear HW hb4 hbq hIq hRq hVq hI4 hR4 hV4 hb04 HU
            go_wp2_with fail
            go_roundw
            case rel => exact ⟨k + 1, 1, X, b, c, m, by omega, by omega, by go_num, rfl, HGn, hI5, hR5, hV5, hb5⟩
            case measure => simp [intOf]
        · have huf : usesB f 65 = false := by simpa using hu
          have HU := Lib.hid (fun W => (Uses_any f 65 Hf7.out W).mono (fun e w' h => by rw [huf] at h; exact h))
          have HGn := Lib.hid (good_skip0 HGd.out huf)
          clear hu huf HGd
          go_wp2_with fail
          refine (HU.out _).mono ?_
          rintro e wr ⟨rfl, rfl⟩
          clear HU
          go_wp2_with fail
          go_roundw
          case rel => exact ⟨k, 1, a, b, c, m, by omega, by omega, rfl, rfl, HGn, hI, hR, hV, hb⟩
          case measure => simp [intOf]
      · by_cases hu : usesB f 66 = true
        · have HU := Lib.hid (fun W => (Uses_any f 66 Hf7.out W).mono (fun e w' h => by rw [hu] at h; exact h))
          rcases HLS.out k with hsh | ⟨x, hx, hxb, hxs⟩
          · have HP := Lib.hid (good_short1 HGd.out hu (by rw [HL.out]; exact hsh))
            have hsi : (nL : Int) ≤ (k : Int) := by omega
            clear hu HGd HLS
            go_wp2_with fail
            refine (HU.out _).mono ?_
            rintro e wr ⟨rfl, rfl⟩
            have z0 : wr.frozen? ⟨w.heap.size, 0, none⟩ = false := hR.frozen 0
            have z1 : wr.frozen? ⟨w.heap.size, 1, none⟩ = false := hR.frozen 1
            have z2 : wr.frozen? ⟨w.heap.size, 2, none⟩ = false := hR.frozen 2
            have z3 : wr.frozen? ⟨w.heap.size, 3, none⟩ = false := hR.frozen 3
            have z4 : wr.frozen? ⟨w.heap.size, 4, none⟩ = false := hR.frozen 4
            have y0 : wr.cell? ⟨w.heap.size, 0, none⟩ = some (.int .i64 0) := hR.cell 0
            have y1 : wr.cell? ⟨w.heap.size, 1, none⟩ = some (.int .i64 0) := hR.cell 1
            have y2 : wr.cell? ⟨w.heap.size, 2, none⟩ = some (.int .i64 0) := hR.cell 2
            have y3 : wr.cell? ⟨w.heap.size, 3, none⟩ = some (.int .i64 0) := hR.cell 3
            have y4 : wr.cell? ⟨w.heap.size, 4, none⟩ = some (.int .i64 0) := hR.cell 4
            go_wp2
            refine bodyPost_ret (v := .tuple #[.agg #[.int .i64 0, .int .i64 0, .int .i64 0, .int .i64 0, .int .i64 0], .int .i64 18]) (by simp [results, Tryz.results28, go_sem, y0, y1, y2, y3, y4]) rfl ⟨?_, ?_⟩
            · rw [HP.out]
              rfl
            · exact ((((hb.setCell (Nat.le_refl _) _).setCell (Nat.le_refl _) _).setCell (Nat.le_refl _) _).setCell (Nat.le_refl _) _).setCell (Nat.le_refl _) _
          · have HGn := Lib.hid (good_take1 HGd.out hu x hx)
            obtain ⟨b2, o2, he2, hxc⟩ := hV.at_ k _ hxb
            injection he2 with he2
            injection he2 with e1 e2 _
            subst e1 e2
            have hkl : k < nL := by
              have := (List.getElem?_eq_some_iff.1 hx).1
              rw [HL.out] at this
              exact this
            have hsi : (k : Int) < (nL : Int) := by omega
            have hsi2 : ¬ (nL : Int) ≤ (k : Int) := by omega
            have HW := Lib.hid (fun W => with_66 op a b c m ⟨x.toArray⟩ hxs W)
            simp only at HW
            generalize hX : looseP x = X at HGn HW
            have i0 : wr.cell? ⟨I, 0, none⟩ = some (.int .i64 op) := hI.cell 0
            have i1 : wr.cell? ⟨I, 1, none⟩ = some (.int .i64 a) := hI.cell 1
            have i2 : wr.cell? ⟨I, 2, none⟩ = some (.int .i64 b) := hI.cell 2
            have i3 : wr.cell? ⟨I, 3, none⟩ = some (.int .i64 c) := hI.cell 3
            have i4 : wr.cell? ⟨I, 4, none⟩ = some (.int .i64 m) := hI.cell 4
            clear hu HGd HLS hx hxb hX hxs
            go_wp2_with fail
            refine (HU.out _).mono ?_
            rintro e wr ⟨rfl, rfl⟩
            go_wp2_with fail
            go_still_tail 8, (by kernel_rfl)
            change wpList _ _ _ _ _ wr.drew
            have hIq : Blk wr.drew I 27 #[.int .i64 op, .int .i64 a, .int .i64 b, .int .i64 c, .int .i64 m] := hI
            have hRq : Blk wr.drew w.heap.size 27 #[.int .i64 0, .int .i64 0, .int .i64 0, .int .i64 0, .int .i64 0] := hR
            have hVq : StrsV wr.drew (.slice (some ⟨g0, o0, none⟩) nL cp) LB := hV
            have hbq : Below w.heap.size w wr.drew := below_drewN hb 1
            clear hI hR hV hb i0 i1 i2 i3 i4 hxc
            generalize wr.drew = wd at hIq hRq hVq hbq ⊢
            go_wp2_with fail
            refine (HW.out wd).mono ?_
            rintro e w4 ⟨rfl, hb4⟩
            have hI4 := hIq.below hb4 hIq.lt
            have hR4 := hRq.below hb4 hRq.lt
            have hV4 := hVq.below hb4
            have hb04 : Below w.heap.size w w4 := hbq.trans (hb4.mono hbq.size)
            have f0 : w4.frozen? ⟨I, 0, none⟩ = false := hI4.frozen 0
            have f1 : w4.frozen? ⟨I, 1, none⟩ = false := hI4.frozen 1
            have f2 : w4.frozen? ⟨I, 2, none⟩ = false := hI4.frozen 2
            have f3 : w4.frozen? ⟨I, 3, none⟩ = false := hI4.frozen 3
            have f4 : w4.frozen? ⟨I, 4, none⟩ = false := hI4.frozen 4
            have i0 : w4.cell? ⟨I, 0, none⟩ = some (.int .i64 op) := hI4.cell 0
            have i1 : w4.cell? ⟨I, 1, none⟩ = some (.int .i64 a) := hI4.cell 1
            have i2 : w4.cell? ⟨I, 2, none⟩ = some (.int .i64 b) := hI4.cell 2
            have i3 : w4.cell? ⟨I, 3, none⟩ = some (.int .i64 c) := hI4.cell 3
            have i4 : w4.cell? ⟨I, 4, none⟩ = some (.int .i64 m) := hI4.cell 4
            have hI5 : Blk (((((w4.setCell ⟨I, 0, none⟩ (.int .i64 op)).setCell ⟨I, 1, none⟩ (.int .i64 a)).setCell ⟨I, 2, none⟩ (.int .i64 X)).setCell ⟨I, 3, none⟩ (.int .i64 c)).setCell ⟨I, 4, none⟩ (.int .i64 m)) I 27 #[.int .i64 op, .int .i64 a, .int .i64 X, .int .i64 c, .int .i64 m] := ((((hI4.store 0 _).store 1 _).store 2 _).store 3 _).store 4 _
            have hR5 : Blk (((((w4.setCell ⟨I, 0, none⟩ (.int .i64 op)).setCell ⟨I, 1, none⟩ (.int .i64 a)).setCell ⟨I, 2, none⟩ (.int .i64 X)).setCell ⟨I, 3, none⟩ (.int .i64 c)).setCell ⟨I, 4, none⟩ (.int .i64 m)) w.heap.size 27 #[.int .i64 0, .int .i64 0, .int .i64 0, .int .i64 0, .int .i64 0] := ((((hR4.far (by simp; omega) _).far (by simp; omega) _).far (by simp; omega) _).far (by simp; omega) _).far (by simp; omega) _
            have hV5 : StrsV (((((w4.setCell ⟨I, 0, none⟩ (.int .i64 op)).setCell ⟨I, 1, none⟩ (.int .i64 a)).setCell ⟨I, 2, none⟩ (.int .i64 X)).setCell ⟨I, 3, none⟩ (.int .i64 c)).setCell ⟨I, 4, none⟩ (.int .i64 m)) (.slice (some ⟨g0, o0, none⟩) nL cp) LB := ((((hV4.store hI4 (by decide) 0 _).store (hI4.store 0 _) (by decide) 1 _).store ((hI4.store 0 _).store 1 _) (by decide) 2 _).store (((hI4.store 0 _).store 1 _).store 2 _) (by decide) 3 _).store ((((hI4.store 0 _).store 1 _).store 2 _).store 3 _) (by decide) 4 _
            have hb5 : Below w.heap.size w (((((w4.setCell ⟨I, 0, none⟩ (.int .i64 op)).setCell ⟨I, 1, none⟩ (.int .i64 a)).setCell ⟨I, 2, none⟩ (.int .i64 X)).setCell ⟨I, 3, none⟩ (.int .i64 c)).setCell ⟨I, 4, none⟩ (.int .i64 m)) := ((((hb04.setCell (by simp; omega) _).setCell (by simp; omega) _).setCell (by simp; omega) _).setCell (by simp; omega) _).setCell (by simp; omega) _
            clear HW hb4 hbq hIq hRq hVq hI4 hR4 hV4 hb04 HU
            go_wp2_with fail
            go_roundw
            case rel => exact ⟨k + 1, 2, a, X, c, m, by omega, by omega, by go_num, rfl, HGn, hI5, hR5, hV5, hb5⟩
            case measure => simp [intOf]
        · have huf : usesB f 66 = false := by simpa using hu
          have HU := Lib.hid (fun W => (Uses_any f 66 Hf7.out W).mono (fun e w' h => by rw [huf] at h; exact h))
          have HGn := Lib.hid (good_skip1 HGd.out huf)
          clear hu huf HGd
          go_wp2_with fail
          refine (HU.out _).mono ?_
          rintro e wr ⟨rfl, rfl⟩
          clear HU
          go_wp2_with fail
          go_roundw
          case rel => exact ⟨k, 2, a, b, c, m, by omega, by omega, rfl, rfl, HGn, hI, hR, hV, hb⟩
          case measure => simp [intOf]
      · by_cases hu : usesB f 67 = true
        · have HU := Lib.hid (fun W => (Uses_any f 67 Hf7.out W).mono (fun e w' h => by rw [hu] at h; exact h))
          rcases HLS.out k with hsh | ⟨x, hx, hxb, hxs⟩
          · have HP := Lib.hid (good_short2 HGd.out hu (by rw [HL.out]; exact hsh))
            have hsi : (nL : Int) ≤ (k : Int) := by omega
            clear hu HGd HLS
            go_wp2_with fail
            refine (HU.out _).mono ?_
            rintro e wr ⟨rfl, rfl⟩
            have z0 : wr.frozen? ⟨w.heap.size, 0, none⟩ = false := hR.frozen 0
            have z1 : wr.frozen? ⟨w.heap.size, 1, none⟩ = false := hR.frozen 1
            have z2 : wr.frozen? ⟨w.heap.size, 2, none⟩ = false := hR.frozen 2
            have z3 : wr.frozen? ⟨w.heap.size, 3, none⟩ = false := hR.frozen 3
            have z4 : wr.frozen? ⟨w.heap.size, 4, none⟩ = false := hR.frozen 4
            have y0 : wr.cell? ⟨w.heap.size, 0, none⟩ = some (.int .i64 0) := hR.cell 0
            have y1 : wr.cell? ⟨w.heap.size, 1, none⟩ = some (.int .i64 0) := hR.cell 1
            have y2 : wr.cell? ⟨w.heap.size, 2, none⟩ = some (.int .i64 0) := hR.cell 2
            have y3 : wr.cell? ⟨w.heap.size, 3, none⟩ = some (.int .i64 0) := hR.cell 3
            have y4 : wr.cell? ⟨w.heap.size, 4, none⟩ = some (.int .i64 0) := hR.cell 4
            go_wp2
            refine bodyPost_ret (v := .tuple #[.agg #[.int .i64 0, .int .i64 0, .int .i64 0, .int .i64 0, .int .i64 0], .int .i64 18]) (by simp [results, Tryz.results28, go_sem, y0, y1, y2, y3, y4]) rfl ⟨?_, ?_⟩
            · rw [HP.out]
              rfl
            · exact ((((hb.setCell (Nat.le_refl _) _).setCell (Nat.le_refl _) _).setCell (Nat.le_refl _) _).setCell (Nat.le_refl _) _).setCell (Nat.le_refl _) _
          · have HGn := Lib.hid (good_take2 HGd.out hu x hx)
            obtain ⟨b2, o2, he2, hxc⟩ := hV.at_ k _ hxb
            injection he2 with he2
            injection he2 with e1 e2 _
            subst e1 e2
            have hkl : k < nL := by
              have := (List.getElem?_eq_some_iff.1 hx).1
              rw [HL.out] at this
              exact this
            have hsi : (k : Int) < (nL : Int) := by omega
            have hsi2 : ¬ (nL : Int) ≤ (k : Int) := by omega
            have HW := Lib.hid (fun W => with_67 op a b c m ⟨x.toArray⟩ hxs W)
            simp only at HW
            generalize hX : looseP x = X at HGn HW
            have i0 : wr.cell? ⟨I, 0, none⟩ = some (.int .i64 op) := hI.cell 0
            have i1 : wr.cell? ⟨I, 1, none⟩ = some (.int .i64 a) := hI.cell 1
            have i2 : wr.cell? ⟨I, 2, none⟩ = some (.int .i64 b) := hI.cell 2
            have i3 : wr.cell? ⟨I, 3, none⟩ = some (.int .i64 c) := hI.cell 3
            have i4 : wr.cell? ⟨I, 4, none⟩ = some (.int .i64 m) := hI.cell 4
            clear hu HGd HLS hx hxb hX hxs
            go_wp2_with fail
            refine (HU.out _).mono ?_
            rintro e wr ⟨rfl, rfl⟩
            go_wp2_with fail
            go_still_tail 8, (by kernel_rfl)
            change wpList _ _ _ _ _ wr.drew
            have hIq : Blk wr.drew I 27 #[.int .i64 op, .int .i64 a, .int .i64 b, .int .i64 c, .int .i64 m] := hI
            have hRq : Blk wr.drew w.heap.size 27 #[.int .i64 0, .int .i64 0, .int .i64 0, .int .i64 0, .int .i64 0] := hR
            have hVq : StrsV wr.drew (.slice (some ⟨g0, o0, none⟩) nL cp) LB := hV
            have hbq : Below w.heap.size w wr.drew := below_drewN hb 1
            clear hI hR hV hb i0 i1 i2 i3 i4 hxc
            generalize wr.drew = wd at hIq hRq hVq hbq ⊢
            go_wp2_with fail
            refine (HW.out wd).mono ?_
            rintro e w4 ⟨rfl, hb4⟩
            have hI4 := hIq.below hb4 hIq.lt
            have hR4 := hRq.below hb4 hRq.lt
            have hV4 := hVq.below hb4
            have hb04 : Below w.heap.size w w4 := hbq.trans (hb4.mono hbq.size)
            have f0 : w4.frozen? ⟨I, 0, none⟩ = false := hI4.frozen 0
            have f1 : w4.frozen? ⟨I, 1, none⟩ = false := hI4.frozen 1
            have f2 : w4.frozen? ⟨I, 2, none⟩ = false := hI4.frozen 2
            have f3 : w4.frozen? ⟨I, 3, none⟩ = false := hI4.frozen 3
            have f4 : w4.frozen? ⟨I, 4, none⟩ = false := hI4.frozen 4
            have i0 : w4.cell? ⟨I, 0, none⟩ = some (.int .i64 op) := hI4.cell 0
            have i1 : w4.cell? ⟨I, 1, none⟩ = some (.int .i64 a) := hI4.cell 1
            have i2 : w4.cell? ⟨I, 2, none⟩ = some (.int .i64 b) := hI4.cell 2
            have i3 : w4.cell? ⟨I, 3, none⟩ = some (.int .i64 c) := hI4.cell 3
            have i4 : w4.cell? ⟨I, 4, none⟩ = some (.int .i64 m) := hI4.cell 4
            have hI5 : Blk (((((w4.setCell ⟨I, 0, none⟩ (.int .i64 op)).setCell ⟨I, 1, none⟩ (.int .i64 a)).setCell ⟨I, 2, none⟩ (.int .i64 b)).setCell ⟨I, 3, none⟩ (.int .i64 X)).setCell ⟨I, 4, none⟩ (.int .i64 m)) I 27 #[.int .i64 op, .int .i64 a, .int .i64 b, .int .i64 X, .int .i64 m] := ((((hI4.store 0 _).store 1 _).store 2 _).store 3 _).store 4 _
            have hR5 : Blk (((((w4.setCell ⟨I, 0, none⟩ (.int .i64 op)).setCell ⟨I, 1, none⟩ (.int .i64 a)).setCell ⟨I, 2, none⟩ (.int .i64 b)).setCell ⟨I, 3, none⟩ (.int .i64 X)).setCell ⟨I, 4, none⟩ (.int .i64 m)) w.heap.size 27 #[.int .i64 0, .int .i64 0, .int .i64 0, .int .i64 0, .int .i64 0] := ((((hR4.far (by simp; omega) _).far (by simp; omega) _).far (by simp; omega) _).far (by simp; omega) _).far (by simp; omega) _
            have hV5 : StrsV (((((w4.setCell ⟨I, 0, none⟩ (.int .i64 op)).setCell ⟨I, 1, none⟩ (.int .i64 a)).setCell ⟨I, 2, none⟩ (.int .i64 b)).setCell ⟨I, 3, none⟩ (.int .i64 X)).setCell ⟨I, 4, none⟩ (.int .i64 m)) (.slice (some ⟨g0, o0, none⟩) nL cp) LB := ((((hV4.store hI4 (by decide) 0 _).store (hI4.store 0 _) (by decide) 1 _).store ((hI4.store 0 _).store 1 _) (by decide) 2 _).store (((hI4.store 0 _).store 1 _).store 2 _) (by decide) 3 _).store ((((hI4.store 0 _).store 1 _).store 2 _).store 3 _) (by decide) 4 _
            have hb5 : Below w.heap.size w (((((w4.setCell ⟨I, 0, none⟩ (.int .i64 op)).setCell ⟨I, 1, none⟩ (.int .i64 a)).setCell ⟨I, 2, none⟩ (.int .i64 b)).setCell ⟨I, 3, none⟩ (.int .i64 X)).setCell ⟨I, 4, none⟩ (.int .i64 m)) := ((((hb04.setCell (by simp; omega) _).setCell (by simp; omega) _).setCell (by simp; omega) _).setCell (by simp; omega) _).setCell (by simp; omega) _
            clear HW hb4 hbq hIq hRq hVq hI4 hR4 hV4 hb04 HU
            go_wp2_with fail
            go_roundw
            case rel => exact ⟨k + 1, 3, a, b, X, m, by omega, by omega, by go_num, rfl, HGn, hI5, hR5, hV5, hb5⟩
            case measure => simp [intOf]
        · have huf : usesB f 67 = false := by simpa using hu
          have HU := Lib.hid (fun W => (Uses_any f 67 Hf7.out W).mono (fun e w' h => by rw [huf] at h; exact h))
          have HGn := Lib.hid (good_skip2 HGd.out huf)
          clear hu huf HGd
          go_wp2_with fail
          refine (HU.out _).mono ?_
          rintro e wr ⟨rfl, rfl⟩
          clear HU
          go_wp2_with fail
          go_roundw
          case rel => exact ⟨k, 3, a, b, c, m, by omega, by omega, rfl, rfl, HGn, hI, hR, hV, hb⟩
          case measure => simp [intOf]
      · by_cases hu : usesB f 73 = true
        · have HU := Lib.hid (fun W => (Uses_any f 73 Hf7.out W).mono (fun e w' h => by rw [hu] at h; exact h))
          rcases HLS.out k with hsh | ⟨x, hx, hxb, hxs⟩
          · have HP := Lib.hid (good_short3 HGd.out hu (by rw [HL.out]; exact hsh))
            have hsi : (nL : Int) ≤ (k : Int) := by omega
            clear hu HGd HLS
            go_wp2_with fail
            refine (HU.out _).mono ?_
            rintro e wr ⟨rfl, rfl⟩
            have z0 : wr.frozen? ⟨w.heap.size, 0, none⟩ = false := hR.frozen 0
            have z1 : wr.frozen? ⟨w.heap.size, 1, none⟩ = false := hR.frozen 1
            have z2 : wr.frozen? ⟨w.heap.size, 2, none⟩ = false := hR.frozen 2
            have z3 : wr.frozen? ⟨w.heap.size, 3, none⟩ = false := hR.frozen 3
            have z4 : wr.frozen? ⟨w.heap.size, 4, none⟩ = false := hR.frozen 4
            have y0 : wr.cell? ⟨w.heap.size, 0, none⟩ = some (.int .i64 0) := hR.cell 0
            have y1 : wr.cell? ⟨w.heap.size, 1, none⟩ = some (.int .i64 0) := hR.cell 1
            have y2 : wr.cell? ⟨w.heap.size, 2, none⟩ = some (.int .i64 0) := hR.cell 2
            have y3 : wr.cell? ⟨w.heap.size, 3, none⟩ = some (.int .i64 0) := hR.cell 3
            have y4 : wr.cell? ⟨w.heap.size, 4, none⟩ = some (.int .i64 0) := hR.cell 4
            go_wp2
            refine bodyPost_ret (v := .tuple #[.agg #[.int .i64 0, .int .i64 0, .int .i64 0, .int .i64 0, .int .i64 0], .int .i64 18]) (by simp [results, Tryz.results28, go_sem, y0, y1, y2, y3, y4]) rfl ⟨?_, ?_⟩
            · rw [HP.out]
              rfl
            · exact ((((hb.setCell (Nat.le_refl _) _).setCell (Nat.le_refl _) _).setCell (Nat.le_refl _) _).setCell (Nat.le_refl _) _).setCell (Nat.le_refl _) _
          · have HGn := Lib.hid (good_take3 HGd.out hu x hx)
            obtain ⟨b2, o2, he2, hxc⟩ := hV.at_ k _ hxb
            injection he2 with he2
            injection he2 with e1 e2 _
            subst e1 e2
            have hkl : k < nL := by
              have := (List.getElem?_eq_some_iff.1 hx).1
              rw [HL.out] at this
              exact this
            have hsi : (k : Int) < (nL : Int) := by omega
            have hsi2 : ¬ (nL : Int) ≤ (k : Int) := by omega
            have HW := Lib.hid (fun W => with_73 op a b c m ⟨x.toArray⟩ hxs W)
            simp only at HW
            generalize hX : looseP x = X at HGn HW
            have i0 : wr.cell? ⟨I, 0, none⟩ = some (.int .i64 op) := hI.cell 0
            have i1 : wr.cell? ⟨I, 1, none⟩ = some (.int .i64 a) := hI.cell 1
            have i2 : wr.cell? ⟨I, 2, none⟩ = some (.int .i64 b) := hI.cell 2
            have i3 : wr.cell? ⟨I, 3, none⟩ = some (.int .i64 c) := hI.cell 3
            have i4 : wr.cell? ⟨I, 4, none⟩ = some (.int .i64 m) := hI.cell 4
            clear hu HGd HLS hx hxb hX hxs
            go_wp2_with fail
            refine (HU.out _).mono ?_
            rintro e wr ⟨rfl, rfl⟩
            go_wp2_with fail
            go_still_tail 8, (by kernel_rfl)
            change wpList _ _ _ _ _ wr.drew
            have hIq : Blk wr.drew I 27 #[.int .i64 op, .int .i64 a, .int .i64 b, .int .i64 c, .int .i64 m] := hI
            have hRq : Blk wr.drew w.heap.size 27 #[.int .i64 0, .int .i64 0, .int .i64 0, .int .i64 0, .int .i64 0] := hR
            have hVq : StrsV wr.drew (.slice (some ⟨g0, o0, none⟩) nL cp) LB := hV
            have hbq : Below w.heap.size w wr.drew := below_drewN hb 1
            clear hI hR hV hb i0 i1 i2 i3 i4 hxc
            generalize wr.drew = wd at hIq hRq hVq hbq ⊢
            go_wp2_with fail
            refine (HW.out wd).mono ?_
            rintro e w4 ⟨rfl, hb4⟩
            have hI4 := hIq.below hb4 hIq.lt
            have hR4 := hRq.below hb4 hRq.lt
            have hV4 := hVq.below hb4
            have hb04 : Below w.heap.size w w4 := hbq.trans (hb4.mono hbq.size)
            have f0 : w4.frozen? ⟨I, 0, none⟩ = false := hI4.frozen 0
            have f1 : w4.frozen? ⟨I, 1, none⟩ = false := hI4.frozen 1
            have f2 : w4.frozen? ⟨I, 2, none⟩ = false := hI4.frozen 2
            have f3 : w4.frozen? ⟨I, 3, none⟩ = false := hI4.frozen 3
            have f4 : w4.frozen? ⟨I, 4, none⟩ = false := hI4.frozen 4
            have i0 : w4.cell? ⟨I, 0, none⟩ = some (.int .i64 op) := hI4.cell 0
            have i1 : w4.cell? ⟨I, 1, none⟩ = some (.int .i64 a) := hI4.cell 1
            have i2 : w4.cell? ⟨I, 2, none⟩ = some (.int .i64 b) := hI4.cell 2
            have i3 : w4.cell? ⟨I, 3, none⟩ = some (.int .i64 c) := hI4.cell 3
            have i4 : w4.cell? ⟨I, 4, none⟩ = some (.int .i64 m) := hI4.cell 4
            have hI5 : Blk (((((w4.setCell ⟨I, 0, none⟩ (.int .i64 op)).setCell ⟨I, 1, none⟩ (.int .i64 a)).setCell ⟨I, 2, none⟩ (.int .i64 b)).setCell ⟨I, 3, none⟩ (.int .i64 c)).setCell ⟨I, 4, none⟩ (.int .i64 X)) I 27 #[.int .i64 op, .int .i64 a, .int .i64 b, .int .i64 c, .int .i64 X] := ((((hI4.store 0 _).store 1 _).store 2 _).store 3 _).store 4 _
            have hR5 : Blk (((((w4.setCell ⟨I, 0, none⟩ (.int .i64 op)).setCell ⟨I, 1, none⟩ (.int .i64 a)).setCell ⟨I, 2, none⟩ (.int .i64 b)).setCell ⟨I, 3, none⟩ (.int .i64 c)).setCell ⟨I, 4, none⟩ (.int .i64 X)) w.heap.size 27 #[.int .i64 0, .int .i64 0, .int .i64 0, .int .i64 0, .int .i64 0] := ((((hR4.far (by simp; omega) _).far (by simp; omega) _).far (by simp; omega) _).far (by simp; omega) _).far (by simp; omega) _
            have hV5 : StrsV (((((w4.setCell ⟨I, 0, none⟩ (.int .i64 op)).setCell ⟨I, 1, none⟩ (.int .i64 a)).setCell ⟨I, 2, none⟩ (.int .i64 b)).setCell ⟨I, 3, none⟩ (.int .i64 c)).setCell ⟨I, 4, none⟩ (.int .i64 X)) (.slice (some ⟨g0, o0, none⟩) nL cp) LB := ((((hV4.store hI4 (by decide) 0 _).store (hI4.store 0 _) (by decide) 1 _).store ((hI4.store 0 _).store 1 _) (by decide) 2 _).store (((hI4.store 0 _).store 1 _).store 2 _) (by decide) 3 _).store ((((hI4.store 0 _).store 1 _).store 2 _).store 3 _) (by decide) 4 _
            have hb5 : Below w.heap.size w (((((w4.setCell ⟨I, 0, none⟩ (.int .i64 op)).setCell ⟨I, 1, none⟩ (.int .i64 a)).setCell ⟨I, 2, none⟩ (.int .i64 b)).setCell ⟨I, 3, none⟩ (.int .i64 c)).setCell ⟨I, 4, none⟩ (.int .i64 X)) := ((((hb04.setCell (by simp; omega) _).setCell (by simp; omega) _).setCell (by simp; omega) _).setCell (by simp; omega) _).setCell (by simp; omega) _
            clear HW hb4 hbq hIq hRq hVq hI4 hR4 hV4 hb04 HU
            go_wp2_with fail
            go_roundw
            case rel => exact ⟨k + 1, 4, a, b, c, X, by omega, by omega, by go_num, rfl, HGn, hI5, hR5, hV5, hb5⟩
            case measure => simp [intOf]
        · have huf : usesB f 73 = false := by simpa using hu
          have HU := Lib.hid (fun W => (Uses_any f 73 Hf7.out W).mono (fun e w' h => by rw [huf] at h; exact h))
          have HGn := Lib.hid (good_skip3 HGd.out huf)
          clear hu huf HGd
          go_wp2_with fail
          refine (HU.out _).mono ?_
          rintro e wr ⟨rfl, rfl⟩
          clear HU
          go_wp2_with fail
          go_roundw
          case rel => exact ⟨k, 4, a, b, c, m, by omega, by omega, rfl, rfl, HGn, hI, hR, hV, hb⟩
          case measure => simp [intOf]
      · by_cases hu : usesB f 85 = true
        · have HU := Lib.hid (fun W => (Uses_any f 85 Hf7.out W).mono (fun e w' h => by rw [hu] at h; exact h))
          rcases HLS.out k with hsh | ⟨x, hx, hxb, hxs⟩
          · have HP := Lib.hid (good_short4 HGd.out hu (by rw [HL.out]; exact hsh))
            have hsi : (nL : Int) ≤ (k : Int) := by omega
            clear hu HGd HLS
            go_wp2_with fail
            refine (HU.out _).mono ?_
            rintro e wr ⟨rfl, rfl⟩
            have z0 : wr.frozen? ⟨w.heap.size, 0, none⟩ = false := hR.frozen 0
            have z1 : wr.frozen? ⟨w.heap.size, 1, none⟩ = false := hR.frozen 1
            have z2 : wr.frozen? ⟨w.heap.size, 2, none⟩ = false := hR.frozen 2
            have z3 : wr.frozen? ⟨w.heap.size, 3, none⟩ = false := hR.frozen 3
            have z4 : wr.frozen? ⟨w.heap.size, 4, none⟩ = false := hR.frozen 4
            have y0 : wr.cell? ⟨w.heap.size, 0, none⟩ = some (.int .i64 0) := hR.cell 0
            have y1 : wr.cell? ⟨w.heap.size, 1, none⟩ = some (.int .i64 0) := hR.cell 1
            have y2 : wr.cell? ⟨w.heap.size, 2, none⟩ = some (.int .i64 0) := hR.cell 2
            have y3 : wr.cell? ⟨w.heap.size, 3, none⟩ = some (.int .i64 0) := hR.cell 3
            have y4 : wr.cell? ⟨w.heap.size, 4, none⟩ = some (.int .i64 0) := hR.cell 4
            go_wp2
            refine bodyPost_ret (v := .tuple #[.agg #[.int .i64 0, .int .i64 0, .int .i64 0, .int .i64 0, .int .i64 0], .int .i64 18]) (by simp [results, Tryz.results28, go_sem, y0, y1, y2, y3, y4]) rfl ⟨?_, ?_⟩
            · rw [HP.out]
              rfl
            · exact ((((hb.setCell (Nat.le_refl _) _).setCell (Nat.le_refl _) _).setCell (Nat.le_refl _) _).setCell (Nat.le_refl _) _).setCell (Nat.le_refl _) _
          · have HGn := Lib.hid (good_take4 HGd.out hu x hx)
            obtain ⟨b2, o2, he2, hxc⟩ := hV.at_ k _ hxb
            injection he2 with he2
            injection he2 with e1 e2 _
            subst e1 e2
            have hkl : k < nL := by
              have := (List.getElem?_eq_some_iff.1 hx).1
              rw [HL.out] at this
              exact this
            have hsi : (k : Int) < (nL : Int) := by omega
            have hsi2 : ¬ (nL : Int) ≤ (k : Int) := by omega
            have HW := Lib.hid (fun W => with_85 op a b c m ⟨x.toArray⟩ hxs W)
            simp only at HW
            generalize hX : looseP x = X at HGn HW
            have i0 : wr.cell? ⟨I, 0, none⟩ = some (.int .i64 op) := hI.cell 0
            have i1 : wr.cell? ⟨I, 1, none⟩ = some (.int .i64 a) := hI.cell 1
            have i2 : wr.cell? ⟨I, 2, none⟩ = some (.int .i64 b) := hI.cell 2
            have i3 : wr.cell? ⟨I, 3, none⟩ = some (.int .i64 c) := hI.cell 3
            have i4 : wr.cell? ⟨I, 4, none⟩ = some (.int .i64 m) := hI.cell 4
            clear hu HGd HLS hx hxb hX hxs
            go_wp2_with fail
            refine (HU.out _).mono ?_
            rintro e wr ⟨rfl, rfl⟩
            go_wp2_with fail
            go_still_tail 8, (by kernel_rfl)
            change wpList _ _ _ _ _ wr.drew
            have hIq : Blk wr.drew I 27 #[.int .i64 op, .int .i64 a, .int .i64 b, .int .i64 c, .int .i64 m] := hI
            have hRq : Blk wr.drew w.heap.size 27 #[.int .i64 0, .int .i64 0, .int .i64 0, .int .i64 0, .int .i64 0] := hR
            have hVq : StrsV wr.drew (.slice (some ⟨g0, o0, none⟩) nL cp) LB := hV
            have hbq : Below w.heap.size w wr.drew := below_drewN hb 1
            clear hI hR hV hb i0 i1 i2 i3 i4 hxc
            generalize wr.drew = wd at hIq hRq hVq hbq ⊢
            go_wp2_with fail
            refine (HW.out wd).mono ?_
            rintro e w4 ⟨rfl, hb4⟩
            have hI4 := hIq.below hb4 hIq.lt
            have hR4 := hRq.below hb4 hRq.lt
            have hV4 := hVq.below hb4
            have hb04 : Below w.heap.size w w4 := hbq.trans (hb4.mono hbq.size)
            have f0 : w4.frozen? ⟨I, 0, none⟩ = false := hI4.frozen 0
            have f1 : w4.frozen? ⟨I, 1, none⟩ = false := hI4.frozen 1
            have f2 : w4.frozen? ⟨I, 2, none⟩ = false := hI4.frozen 2
            have f3 : w4.frozen? ⟨I, 3, none⟩ = false := hI4.frozen 3
            have f4 : w4.frozen? ⟨I, 4, none⟩ = false := hI4.frozen 4
            have i0 : w4.cell? ⟨I, 0, none⟩ = some (.int .i64 op) := hI4.cell 0
            have i1 : w4.cell? ⟨I, 1, none⟩ = some (.int .i64 a) := hI4.cell 1
            have i2 : w4.cell? ⟨I, 2, none⟩ = some (.int .i64 b) := hI4.cell 2
            have i3 : w4.cell? ⟨I, 3, none⟩ = some (.int .i64 c) := hI4.cell 3
            have i4 : w4.cell? ⟨I, 4, none⟩ = some (.int .i64 m) := hI4.cell 4
            have hI5 : Blk (((((w4.setCell ⟨I, 0, none⟩ (.int .i64 op)).setCell ⟨I, 1, none⟩ (.int .i64 a)).setCell ⟨I, 2, none⟩ (.int .i64 b)).setCell ⟨I, 3, none⟩ (.int .i64 c)).setCell ⟨I, 4, none⟩ (.int .i64 X)) I 27 #[.int .i64 op, .int .i64 a, .int .i64 b, .int .i64 c, .int .i64 X] := ((((hI4.store 0 _).store 1 _).store 2 _).store 3 _).store 4 _
            have hR5 : Blk (((((w4.setCell ⟨I, 0, none⟩ (.int .i64 op)).setCell ⟨I, 1, none⟩ (.int .i64 a)).setCell ⟨I, 2, none⟩ (.int .i64 b)).setCell ⟨I, 3, none⟩ (.int .i64 c)).setCell ⟨I, 4, none⟩ (.int .i64 X)) w.heap.size 27 #[.int .i64 0, .int .i64 0, .int .i64 0, .int .i64 0, .int .i64 0] := ((((hR4.far (by simp; omega) _).far (by simp; omega) _).far (by simp; omega) _).far (by simp; omega) _).far (by simp; omega) _
            have hV5 : StrsV (((((w4.setCell ⟨I, 0, none⟩ (.int .i64 op)).setCell ⟨I, 1, none⟩ (.int .i64 a)).setCell ⟨I, 2, none⟩ (.int .i64 b)).setCell ⟨I, 3, none⟩ (.int .i64 c)).setCell ⟨I, 4, none⟩ (.int .i64 X)) (.slice (some ⟨g0, o0, none⟩) nL cp) LB := ((((hV4.store hI4 (by decide) 0 _).store (hI4.store 0 _) (by decide) 1 _).store ((hI4.store 0 _).store 1 _) (by decide) 2 _).store (((hI4.store 0 _).store 1 _).store 2 _) (by decide) 3 _).store ((((hI4.store 0 _).store 1 _).store 2 _).store 3 _) (by decide) 4 _
            have hb5 : Below w.heap.size w (((((w4.setCell ⟨I, 0, none⟩ (.int .i64 op)).setCell ⟨I, 1, none⟩ (.int .i64 a)).setCell ⟨I, 2, none⟩ (.int .i64 b)).setCell ⟨I, 3, none⟩ (.int .i64 c)).setCell ⟨I, 4, none⟩ (.int .i64 X)) := ((((hb04.setCell (by simp; omega) _).setCell (by simp; omega) _).setCell (by simp; omega) _).setCell (by simp; omega) _).setCell (by simp; omega) _
            clear HW hb4 hbq hIq hRq hVq hI4 hR4 hV4 hb04 HU
            go_wp2_with fail
            go_roundw
            case rel => exact ⟨k + 1, 5, a, b, c, X, by omega, by omega, by go_num, rfl, HGn, hI5, hR5, hV5, hb5⟩
            case measure => simp [intOf]
        · have huf : usesB f 85 = false := by simpa using hu
          have HU := Lib.hid (fun W => (Uses_any f 85 Hf7.out W).mono (fun e w' h => by rw [huf] at h; exact h))
          have HGn := Lib.hid (good_skip4 HGd.out huf)
          clear hu huf HGd
          go_wp2_with fail
          refine (HU.out _).mono ?_
          rintro e wr ⟨rfl, rfl⟩
          clear HU
          go_wp2_with fail
          go_roundw
          case rel => exact ⟨k, 5, a, b, c, m, by omega, by omega, rfl, rfl, HGn, hI, hR, hV, hb⟩
          case measure => simp [intOf]
      · have i0 : wr.cell? ⟨I, 0, none⟩ = some (.int .i64 op) := hI.cell 0
        have i1 : wr.cell? ⟨I, 1, none⟩ = some (.int .i64 a) := hI.cell 1
        have i2 : wr.cell? ⟨I, 2, none⟩ = some (.int .i64 b) := hI.cell 2
        have i3 : wr.cell? ⟨I, 3, none⟩ = some (.int .i64 c) := hI.cell 3
        have i4 : wr.cell? ⟨I, 4, none⟩ = some (.int .i64 m) := hI.cell 4
        have hPr := RPrint_any ⟨op, a, b, c, m⟩ wr
        have HEnd := Lib.hid (fun i hi => good_end HGd.out i hi)
        clear HGd
        unfold Ins.val at hPr
        simp only at hPr
        by_cases hc : checkC ⟨op, a, b, c, m⟩ = 0
        · rw [hc, if_pos rfl] at hPr
          by_cases ht : printT ⟨op, a, b, c, m⟩ = s.data.toList
          · have HP := Lib.hid (parse_back ⟨op, a, b, c, m⟩ hc s ht.symm)
            have hs1 : (⟨s.data.toList.toArray⟩ : ByteArray) = s := by cases s; simp
            rw [ht, hs1] at hPr
            have HPr := Lib.hid hPr
            clear hPr hc ht hs1 HEnd
            clear HLS HL
            go_wp2_with fail
            refine HPr.out.mono ?_
            rintro e w4 ⟨rfl, hb4⟩
            have hb04 : Below w.heap.size w w4 := hb.trans (hb4.mono hb.size)
            have hI4 := hI.below hb4 hI.lt
            have hR4 := hR.below hb4 hR.lt
            have f0 : w4.frozen? ⟨w.heap.size, 0, none⟩ = false := hR4.frozen 0
            have f1 : w4.frozen? ⟨w.heap.size, 1, none⟩ = false := hR4.frozen 1
            have f2 : w4.frozen? ⟨w.heap.size, 2, none⟩ = false := hR4.frozen 2
            have f3 : w4.frozen? ⟨w.heap.size, 3, none⟩ = false := hR4.frozen 3
            have f4 : w4.frozen? ⟨w.heap.size, 4, none⟩ = false := hR4.frozen 4
            have y0 : w4.cell? ⟨w.heap.size, 0, none⟩ = some (.int .i64 0) := hR4.cell 0
            have y1 : w4.cell? ⟨w.heap.size, 1, none⟩ = some (.int .i64 0) := hR4.cell 1
            have y2 : w4.cell? ⟨w.heap.size, 2, none⟩ = some (.int .i64 0) := hR4.cell 2
            have y3 : w4.cell? ⟨w.heap.size, 3, none⟩ = some (.int .i64 0) := hR4.cell 3
            have y4 : w4.cell? ⟨w.heap.size, 4, none⟩ = some (.int .i64 0) := hR4.cell 4
            have j0 : w4.cell? ⟨I, 0, none⟩ = some (.int .i64 op) := hI4.cell 0
            have j1 : w4.cell? ⟨I, 1, none⟩ = some (.int .i64 a) := hI4.cell 1
            have j2 : w4.cell? ⟨I, 2, none⟩ = some (.int .i64 b) := hI4.cell 2
            have j3 : w4.cell? ⟨I, 3, none⟩ = some (.int .i64 c) := hI4.cell 3
            have j4 : w4.cell? ⟨I, 4, none⟩ = some (.int .i64 m) := hI4.cell 4
            have hIR : I ≠ w.heap.size := by omega
            clear HPr hb4 hb hI hR hV
            go_wp2
            refine bodyPost_ret (v := .tuple #[.agg #[.int .i64 op, .int .i64 a, .int .i64 b, .int .i64 c, .int .i64 m], .int .i64 0]) (by simp [results, Tryz.results28, go_sem, y0, y1, y2, y3, y4]) rfl ⟨?_, ?_⟩
            · rw [HP.out]
              rfl
            · exact ((((hb04.setCell (Nat.le_refl _) _).setCell (Nat.le_refl _) _).setCell (Nat.le_refl _) _).setCell (Nat.le_refl _) _).setCell (Nat.le_refl _) _
          · have HP := Lib.hid (parse_bad s fun i hi => ht (by rw [HEnd.out i hi]; exact hi.2))
            obtain ⟨Y, hY⟩ : ∃ Y : ByteArray, (⟨(printT ⟨op, a, b, c, m⟩).toArray⟩ : ByteArray) = Y := ⟨_, rfl⟩
            have hne2 : (Y.toList == s.toList) = false := by
              rw [ByteArray.toList_eq, ByteArray.toList_eq, ← hY, beq_eq_false_iff_ne]
              exact ht
            rw [hY] at hPr
            have HPr := Lib.hid hPr
            clear hPr hc ht hY HEnd
            clear HLS HL
            go_wp2_with fail
            refine HPr.out.mono ?_
            rintro e w4 ⟨rfl, hb4⟩
            have hb04 : Below w.heap.size w w4 := hb.trans (hb4.mono hb.size)
            have hI4 := hI.below hb4 hI.lt
            have hR4 := hR.below hb4 hR.lt
            have f0 : w4.frozen? ⟨w.heap.size, 0, none⟩ = false := hR4.frozen 0
            have f1 : w4.frozen? ⟨w.heap.size, 1, none⟩ = false := hR4.frozen 1
            have f2 : w4.frozen? ⟨w.heap.size, 2, none⟩ = false := hR4.frozen 2
            have f3 : w4.frozen? ⟨w.heap.size, 3, none⟩ = false := hR4.frozen 3
            have f4 : w4.frozen? ⟨w.heap.size, 4, none⟩ = false := hR4.frozen 4
            have y0 : w4.cell? ⟨w.heap.size, 0, none⟩ = some (.int .i64 0) := hR4.cell 0
            have y1 : w4.cell? ⟨w.heap.size, 1, none⟩ = some (.int .i64 0) := hR4.cell 1
            have y2 : w4.cell? ⟨w.heap.size, 2, none⟩ = some (.int .i64 0) := hR4.cell 2
            have y3 : w4.cell? ⟨w.heap.size, 3, none⟩ = some (.int .i64 0) := hR4.cell 3
            have y4 : w4.cell? ⟨w.heap.size, 4, none⟩ = some (.int .i64 0) := hR4.cell 4
            have j0 : w4.cell? ⟨I, 0, none⟩ = some (.int .i64 op) := hI4.cell 0
            have j1 : w4.cell? ⟨I, 1, none⟩ = some (.int .i64 a) := hI4.cell 1
            have j2 : w4.cell? ⟨I, 2, none⟩ = some (.int .i64 b) := hI4.cell 2
            have j3 : w4.cell? ⟨I, 3, none⟩ = some (.int .i64 c) := hI4.cell 3
            have j4 : w4.cell? ⟨I, 4, none⟩ = some (.int .i64 m) := hI4.cell 4
            have hIR : I ≠ w.heap.size := by omega
            clear HPr hb4 hb hI hR hV
            go_wp2
            refine bodyPost_ret (v := .tuple #[.agg #[.int .i64 0, .int .i64 0, .int .i64 0, .int .i64 0, .int .i64 0], .int .i64 18]) (by simp [results, Tryz.results28, go_sem, y0, y1, y2, y3, y4]) rfl ⟨?_, ?_⟩
            · rw [HP.out]
              rfl
            · exact ((((hb04.setCell (Nat.le_refl _) _).setCell (Nat.le_refl _) _).setCell (Nat.le_refl _) _).setCell (Nat.le_refl _) _).setCell (Nat.le_refl _) _
        · have HP := Lib.hid (parse_bad s fun i hi => hc (by rw [HEnd.out i hi]; exact hi.1))
          rw [if_neg hc] at hPr
          have hq : ((checkC ⟨op, a, b, c, m⟩ : Int) != 0) = true := by rw [bne_iff_ne]; omega
          generalize checkC ⟨op, a, b, c, m⟩ = cd at hPr hq
          have HPr := Lib.hid hPr
          clear hPr hc HEnd
          clear HLS HL
          go_wp2_with fail
          refine HPr.out.mono ?_
          rintro e w4 ⟨rfl, hb4⟩
          have hb04 : Below w.heap.size w w4 := hb.trans (hb4.mono hb.size)
          have hI4 := hI.below hb4 hI.lt
          have hR4 := hR.below hb4 hR.lt
          have f0 : w4.frozen? ⟨w.heap.size, 0, none⟩ = false := hR4.frozen 0
          have f1 : w4.frozen? ⟨w.heap.size, 1, none⟩ = false := hR4.frozen 1
          have f2 : w4.frozen? ⟨w.heap.size, 2, none⟩ = false := hR4.frozen 2
          have f3 : w4.frozen? ⟨w.heap.size, 3, none⟩ = false := hR4.frozen 3
          have f4 : w4.frozen? ⟨w.heap.size, 4, none⟩ = false := hR4.frozen 4
          have y0 : w4.cell? ⟨w.heap.size, 0, none⟩ = some (.int .i64 0) := hR4.cell 0
          have y1 : w4.cell? ⟨w.heap.size, 1, none⟩ = some (.int .i64 0) := hR4.cell 1
          have y2 : w4.cell? ⟨w.heap.size, 2, none⟩ = some (.int .i64 0) := hR4.cell 2
          have y3 : w4.cell? ⟨w.heap.size, 3, none⟩ = some (.int .i64 0) := hR4.cell 3
          have y4 : w4.cell? ⟨w.heap.size, 4, none⟩ = some (.int .i64 0) := hR4.cell 4
          have j0 : w4.cell? ⟨I, 0, none⟩ = some (.int .i64 op) := hI4.cell 0
          have j1 : w4.cell? ⟨I, 1, none⟩ = some (.int .i64 a) := hI4.cell 1
          have j2 : w4.cell? ⟨I, 2, none⟩ = some (.int .i64 b) := hI4.cell 2
          have j3 : w4.cell? ⟨I, 3, none⟩ = some (.int .i64 c) := hI4.cell 3
          have j4 : w4.cell? ⟨I, 4, none⟩ = some (.int .i64 m) := hI4.cell 4
          have hIR : I ≠ w.heap.size := by omega
          clear HPr hb4 hb hI hR hV
          go_wp2
          refine bodyPost_ret (v := .tuple #[.agg #[.int .i64 0, .int .i64 0, .int .i64 0, .int .i64 0, .int .i64 0], .int .i64 18]) (by simp [results, Tryz.results28, go_sem, y0, y1, y2, y3, y4]) rfl ⟨?_, ?_⟩
          · rw [HP.out]
            rfl
          · exact ((((hb04.setCell (Nat.le_refl _) _).setCell (Nat.le_refl _) _).setCell (Nat.le_refl _) _).setCell (Nat.le_refl _) _).setCell (Nat.le_refl _) _
end Go.Proofs.YtecmeegnjjhilaaGreatDoor
