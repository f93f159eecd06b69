/- ferrylaw04.IsaWords: the walk. -/
import Derived.Test.YtecmeegnjjhilaaGreatDoorFixed
import Derived.Test.YtecmeegnjjhilaaGreatDoorFields
import Derived.Test.YtecmeegnjjhilaaGreatDoorRefC
import Derived.Test.YtecmeegnjjhilaaGreatDoorOurs
import Derived.Test.YtecmeegnjjhilaaGreatDoorInv
namespace Go.Proofs.YtecmeegnjjhilaaGreatDoor
open Go.RowKit

theorem u32_range (x y : Int) (h0 : 0 ≤ x) (h1 : x < 4294967296) (k0 : 0 ≤ y) (k1 : y < 4294967296) : 0 ≤ bits .or .u32 x y ∧ bits .or .u32 x y < 4294967296 := by
  rw [u32_or x y h0 h1 k0 k1]
  have e1 : x.toNat < 2 ^ 32 := by omega
  have e2 : y.toNat < 2 ^ 32 := by omega
  have := Nat.or_lt_two_pow e1 e2
  omega
theorem u32_range_and (x y : Int) (h0 : 0 ≤ x) (h1 : x < 4294967296) (k0 : 0 ≤ y) (k1 : y < 4294967296) : 0 ≤ bits .and .u32 x y ∧ bits .and .u32 x y < 4294967296 := by
  rw [u32_and x y h0 h1 k0 k1]
  have e1 : x.toNat &&& y.toNat ≤ x.toNat := Nat.and_le_left
  omega
theorem wrap16u (n : Int) : IntKind.u16.wrap n = n % 65536 := by
  have hb : IntKind.u16.bits = 16 := rfl
  have hs : IntKind.u16.signed = false := rfl
  unfold IntKind.wrap
  rw [hb, hs]
  simp

set_option maxHeartbeats 2000000 in
set_option maxRecDepth 100000 in
theorem words_walk (er : Nat → Addr) (i : Ins) (n : Int) (n0 : 0 ≤ n) (n1 : n < 4294967296) (nm tx : ByteArray) (w : World) (E : Env er w) :
    Calls Tryz.prog 4 #[.agg #[.int .i64 i.op, .int .i64 i.a, .int .i64 i.b, .int .i64 i.c, .int .i64 i.imm, .int .u32 n, .string nm, .string tx]] w fun e w' => e = .returned (.bool true) ∧ Below w.heap.size w w' := by
  have HE := Lib.hid E
  have hbx := (Below.refl w.heap.size w).alloc (Nat.le_refl _) (.cells #[.int .i64 i.op, .int .i64 i.a, .int .i64 i.b, .int .i64 i.c, .int .i64 i.imm, .int .u32 n, .string nm, .string tx] 30)
  have hC := Blk.new w 30 #[.int .i64 i.op, .int .i64 i.a, .int .i64 i.b, .int .i64 i.c, .int .i64 i.imm, .int .u32 n, .string nm, .string tx]
  have HF := Lib.hid (fixed_any er _ (HE.out.below hbx))
  have r1 := u32_range_and n 33550336 n0 n1 (by decide) (by decide)
  have r2a := u32_range_and n 16777215 n0 n1 (by decide) (by decide)
  have r2 := u32_range _ 268435456 r2a.1 r2a.2 (by decide) (by decide)
  have r3a := u32_range_and n 16711680 n0 n1 (by decide) (by decide)
  have r3 := u32_range _ 335544320 r3a.1 r3a.2 (by decide) (by decide)
  have r4a := u32_range_and n 65535 n0 n1 (by decide) (by decide)
  have r4 := u32_range _ 1073741824 r4a.1 r4a.2 (by decide) (by decide)
  clear E r2a r3a r4a
  go_enter Tryz.func4, Tryz.ntmps4
  go_wp2_with fail
  refine HF.out.mono ?_
  rintro e w1 ⟨rfl, hb1⟩
  have hb01 : Below w.heap.size w w1 := hbx.trans (hb1.mono (by simp))
  have hC1 := hC.below hb1 (by simp)
  have c5 : w1.cell? ⟨w.heap.size, 5, none⟩ = some (.int .u32 n) := hC1.cell 5
  have hl1 := hC1.lt
  clear HF hbx hC hb1
  generalize hx1 : bits .and .u32 n 33550336 = x1 at r1
  generalize hx2 : bits .or .u32 (bits .and .u32 n 16777215) 268435456 = x2 at r2
  generalize hx3 : bits .or .u32 (bits .and .u32 n 16711680) 335544320 = x3 at r3
  generalize hx4 : bits .or .u32 (bits .and .u32 n 65535) 1073741824 = x4 at r4
  go_wp2_with fail
  have hbw : Below w.heap.size w (w1.alloc (.cells #[.int .u32 n, .int .u32 x1, .int .u32 x2, .int .u32 x3, .int .u32 x4] 28)) := hb01.alloc hb01.size _
  have hCw := hC1.alloc (.cells #[.int .u32 n, .int .u32 x1, .int .u32 x2, .int .u32 x3, .int .u32 x4] 28)
  have hWw := Blk.new w1 28 #[.int .u32 n, .int .u32 x1, .int .u32 x2, .int .u32 x3, .int .u32 x4]
  have HWs : Hid (∀ k, k < 5 → ∃ x : Int, (#[Value.int .u32 n, .int .u32 x1, .int .u32 x2, .int .u32 x3, .int .u32 x4] : Array Value)[k]? = some (.int .u32 x) ∧ 0 ≤ x ∧ x < 4294967296) := Lib.hid (fun k hk => by
    have h : k = 0 ∨ k = 1 ∨ k = 2 ∨ k = 3 ∨ k = 4 := by omega
    rcases h with rfl | rfl | rfl | rfl | rfl
    · exact ⟨n, rfl, n0, n1⟩
    · exact ⟨x1, rfl, r1⟩
    · exact ⟨x2, rfl, r2⟩
    · exact ⟨x3, rfl, r3⟩
    · exact ⟨x4, rfl, r4⟩)
  clear hx1 hx2 hx3 hx4 hb01 hC1 c5
  generalize (w1.alloc (.cells #[.int .u32 n, .int .u32 x1, .int .u32 x2, .int .u32 x3, .int .u32 x4] 28)) = wq at hbw hCw hWw ⊢
  generalize (#[Value.int .u32 n, .int .u32 x1, .int .u32 x2, .int .u32 x3, .int .u32 x4] : Array Value) = cs at hWw HWs
  generalize w1.heap.size = B at hWw hl1 ⊢
  clear r1 r2 r3 r4
  go_loopw [4] (fun s4 wr => ∃ k : Nat, k ≤ 5 ∧ s4 = .int .i64 k ∧ Below w.heap.size w wr ∧ Blk wr w.heap.size 30 #[.int .i64 i.op, .int .i64 i.a, .int .i64 i.b, .int .i64 i.c, .int .i64 i.imm, .int .u32 n, .string nm, .string tx] ∧ Blk wr B 28 cs) (fun s4 _ => 5 - (intOf s4).toNat)
  case atStart => exact ⟨0, by omega, rfl, hbw, hCw, hWw⟩
  case round =>
    obtain ⟨k, hk, rfl, hb, hC, hW⟩ := hrel
    clear hbw hCw hWw
    by_cases hlt : k < 5
    · obtain ⟨x, hx, x0, x1⟩ := HWs.out k hlt
      have cx : wr.cell? ⟨B, k, none⟩ = some (.int .u32 x) := by rw [hW.cell k]; exact hx
      have HD := Lib.hid (Decode_any x x0 x1 er wr (HE.out.below hb))
      have HBits := Lib.hid (dec_bits x)
      have HBad := Lib.hid (dec_bad x)
      generalize decC x = d at HD HBits HBad
      generalize decI x = j at HD HBits HBad
      obtain ⟨o, a, b, c, m⟩ := j
      unfold Ins.val at HD
      try simp only at HD
      go_wp2_with fail
      refine HD.out.mono ?_
      rintro e w2 ⟨rfl, hb2⟩
      have hz2 := hb.size
      have hb02 : Below w.heap.size w w2 := hb.trans (hb2.mono hz2)
      have hC2 := hC.below hb2 hC.lt
      have hW2 := hW.below hb2 hW.lt
      clear HD hb2 hC hW cx hb
      by_cases hd : d = 0
      · subst hd
        rw [errV_zero]
        obtain ⟨k1, k2, k3, k4, k5, k6, k7⟩ := HBits.out rfl
        try simp only at k3 k4 k5 k6 k7
        subst k3 k4 k5
        have hb3 := hb02.alloc hb02.size (.cells #[.int .i64 (x / 16777216), .int .i64 (x / 1048576 % 16), .int .i64 (x / 65536 % 16), .int .i64 c, .int .i64 m] 27)
        have hC3 := hC2.alloc (.cells #[.int .i64 (x / 16777216), .int .i64 (x / 1048576 % 16), .int .i64 (x / 65536 % 16), .int .i64 c, .int .i64 m] 27)
        have hW3 := hW2.alloc (.cells #[.int .i64 (x / 16777216), .int .i64 (x / 1048576 % 16), .int .i64 (x / 65536 % 16), .int .i64 c, .int .i64 m] 27)
        have hI3 := Blk.new w2 27 #[.int .i64 (x / 16777216), .int .i64 (x / 1048576 % 16), .int .i64 (x / 65536 % 16), .int .i64 c, .int .i64 m]
        have HEn : Hid (∀ W, Env er W → Calls Tryz.prog 17 #[.agg #[.int .i64 (x / 16777216), .int .i64 (x / 1048576 % 16), .int .i64 (x / 65536 % 16), .int .i64 c, .int .i64 m]] W fun e w' => e = .returned (.tuple #[.int .u32 x, .nilIface]) ∧ Below W.heap.size W w') := Lib.hid (fun W h => by
          have := Encode_any ⟨x / 16777216, x / 1048576 % 16, x / 65536 % 16, c, m⟩ er W h
          rw [k1, k2, errV_zero] at this
          exact this)
        have HCh : Hid (∀ W, Env er W → Calls Tryz.prog 18 #[.agg #[.int .i64 (x / 16777216), .int .i64 (x / 1048576 % 16), .int .i64 (x / 65536 % 16), .int .i64 c, .int .i64 m]] W fun e w' => e = .returned .nilIface ∧ Below W.heap.size W w') := Lib.hid (fun W h => by
          have := Check_any ⟨x / 16777216, x / 1048576 % 16, x / 65536 % 16, c, m⟩ er W h
          rw [k1, errV_zero] at this
          exact this)
        have HFo := Lib.hid (fun W (h : Env er W) => Form_f er (x / 16777216) W h)
        have HK6 := Lib.hid k6
        have HK7 := Lib.hid k7
        have e15 : bits .and .u32 (x / 1048576) 15 = x / 1048576 % 16 := and_low (x / 1048576) 4 15 (by decide) (by omega) (by omega) (by omega)
        have e16 : bits .and .u32 (x / 65536) 15 = x / 65536 % 16 := and_low (x / 65536) 4 15 (by decide) (by omega) (by omega) (by omega)
        have e17 : bits .and .u32 (x / 4096) 15 = x / 4096 % 16 := and_low (x / 4096) 4 15 (by decide) (by omega) (by omega) (by omega)
        have e18 : bits .and .u32 x 4095 = x % 4096 := and_low x 12 4095 (by decide) (by omega) (by omega) (by omega)
        clear HBits HBad hb02 hC2 hW2 k1 k2 k6 k7
        generalize formOf (x / 16777216) = f at HFo HK6 HK7
        go_wp2_with fail
        refine (HEn.out _ (HE.out.below hb3)).mono ?_
        rintro e w3 ⟨rfl, hbb3⟩
        have hb03 : Below w.heap.size w w3 := hb3.trans (hbb3.mono hb3.size)
        have hC4 := hC3.below hbb3 hC3.lt
        have hW4 := hW3.below hbb3 hW3.lt
        have hI4 := hI3.below hbb3 hI3.lt
        have i0 : w3.cell? ⟨w2.heap.size, 0, none⟩ = some (.int .i64 (x / 16777216)) := hI4.cell 0
        have i1 : w3.cell? ⟨w2.heap.size, 1, none⟩ = some (.int .i64 (x / 1048576 % 16)) := hI4.cell 1
        have i2 : w3.cell? ⟨w2.heap.size, 2, none⟩ = some (.int .i64 (x / 65536 % 16)) := hI4.cell 2
        have i3 : w3.cell? ⟨w2.heap.size, 3, none⟩ = some (.int .i64 c) := hI4.cell 3
        have i4 : w3.cell? ⟨w2.heap.size, 4, none⟩ = some (.int .i64 m) := hI4.cell 4
        clear hbb3 hb3 hC3 hW3 hI3 HEn
        go_wp2_with fail
        refine (HCh.out _ (HE.out.below hb03)).mono ?_
        rintro e w4 ⟨rfl, hb4⟩
        have hb04 : Below w.heap.size w w4 := hb03.trans (hb4.mono hb03.size)
        have hC5 := hC4.below hb4 hC4.lt
        have hW5 := hW4.below hb4 hW4.lt
        have hI5 := hI4.below hb4 hI4.lt
        clear hb4 hb03 hC4 hW4 hI4 i0 i1 i2 i3 i4 HCh
        have i0 : w4.cell? ⟨w2.heap.size, 0, none⟩ = some (.int .i64 (x / 16777216)) := hI5.cell 0
        have i1 : w4.cell? ⟨w2.heap.size, 1, none⟩ = some (.int .i64 (x / 1048576 % 16)) := hI5.cell 1
        have i2 : w4.cell? ⟨w2.heap.size, 2, none⟩ = some (.int .i64 (x / 65536 % 16)) := hI5.cell 2
        go_wp2_with fail
        refine (HFo.out _ (HE.out.below hb04)).mono ?_
        rintro e w5 ⟨rfl, hb5⟩
        have hb05 : Below w.heap.size w w5 := hb04.trans (hb5.mono hb04.size)
        have hC6 := hC5.below hb5 hC5.lt
        have hW6 := hW5.below hb5 hW5.lt
        have hI6 := hI5.below hb5 hI5.lt
        clear hb5 hb04 hC5 hW5 hI5 i0 i1 i2 HFo
        have i3 : w5.cell? ⟨w2.heap.size, 3, none⟩ = some (.int .i64 c) := hI6.cell 3
        have i4 : w5.cell? ⟨w2.heap.size, 4, none⟩ = some (.int .i64 m) := hI6.cell 4
        by_cases hf : f = 1
        · subst hf
          obtain ⟨rfl, hlow, rfl⟩ := HK6.out rfl
          rw [hlow] at e18
          clear HK6 HK7
          go_wp2_with fail
          go_roundw
          case rel => exact ⟨k + 1, by omega, by go_num, hb05, hC6, hW6⟩
          case measure => simp [intOf]; omega
        · have hf' : (f == 1) = false := by simpa using hf
          obtain ⟨hm, rfl⟩ := HK7.out hf
          have w1 := wrap16u m
          have w2 := wrap16u x
          rw [hm] at w1
          clear HK6 HK7 hf
          go_wp2_with fail
          go_roundw
          case rel => exact ⟨k + 1, by omega, by go_num, hb05, hC6, hW6⟩
          case measure => simp [intOf]; omega
      · have hz := HBad.out hd
        injection hz with z1 z2 z3 z4 z5
        subst z1 z2 z3 z4 z5
        rw [errV_pos er d hd]
        have hb3 := hb02.alloc hb02.size (.cells #[.int .i64 0, .int .i64 0, .int .i64 0, .int .i64 0, .int .i64 0] 27)
        have hC3 := hC2.alloc (.cells #[.int .i64 0, .int .i64 0, .int .i64 0, .int .i64 0, .int .i64 0] 27)
        have hW3 := hW2.alloc (.cells #[.int .i64 0, .int .i64 0, .int .i64 0, .int .i64 0, .int .i64 0] 27)
        clear HBits HBad hd hb02 hC2 hW2
        go_wp2_with fail
        go_roundw
        case rel => exact ⟨k + 1, by omega, by go_num, hb3, hC3, hW3⟩
        case measure => simp [intOf]; omega
    · have hk5 : k = 5 := by omega
      subst hk5
      have hi0 : wr.cell? ⟨w.heap.size, 0, none⟩ = some (.int .i64 i.op) := hC.cell 0
      have hi1 : wr.cell? ⟨w.heap.size, 1, none⟩ = some (.int .i64 i.a) := hC.cell 1
      have hi2 : wr.cell? ⟨w.heap.size, 2, none⟩ = some (.int .i64 i.b) := hC.cell 2
      have hi3 : wr.cell? ⟨w.heap.size, 3, none⟩ = some (.int .i64 i.c) := hC.cell 3
      have hi4 : wr.cell? ⟨w.heap.size, 4, none⟩ = some (.int .i64 i.imm) := hC.cell 4
      have HEn := Lib.hid (Encode_any i er wr (HE.out.below hb))
      have HOu := Lib.hid (fun W => ours_any i W)
      have HRC := Lib.hid (fun W => RCheck_any i W)
      have HBk := Lib.hid (enc_back i)
      have HBd : Hid (checkC i ≠ 0 → encR i = 0) := Lib.hid (fun h => if_neg h)
      unfold Ins.val at HEn HOu HRC
      generalize hcd : checkC i = cd at HEn HRC HBk HBd
      generalize hx : encR i = x at HEn HBk HBd
      have HRg := encR_range i
      rw [hx] at HRg
      clear hcd hx
      go_wp2_with fail
      refine HEn.out.mono ?_
      rintro e w2 ⟨rfl, hb2⟩
      have hb02 : Below w.heap.size w w2 := hb.trans (hb2.mono hb.size)
      have hC2 := hC.below hb2 hC.lt
      have j0 : w2.cell? ⟨w.heap.size, 0, none⟩ = some (.int .i64 i.op) := hC2.cell 0
      have j1 : w2.cell? ⟨w.heap.size, 1, none⟩ = some (.int .i64 i.a) := hC2.cell 1
      have j2 : w2.cell? ⟨w.heap.size, 2, none⟩ = some (.int .i64 i.b) := hC2.cell 2
      have j3 : w2.cell? ⟨w.heap.size, 3, none⟩ = some (.int .i64 i.c) := hC2.cell 3
      have j4 : w2.cell? ⟨w.heap.size, 4, none⟩ = some (.int .i64 i.imm) := hC2.cell 4
      clear HEn hb2 hb hC hi0 hi1 hi2 hi3 hi4
      go_wp2_with fail
      refine (HOu.out _).mono ?_
      rintro e w3 ⟨rfl, hb3⟩
      have hb03 : Below w.heap.size w w3 := hb02.trans (hb3.mono hb02.size)
      have hC3 := hC2.below hb3 hC2.lt
      clear HOu hb3 hb02 hC2 j0 j1 j2 j3 j4
      go_wp2_with fail
      refine (HRC.out _).mono ?_
      rintro e w4 ⟨rfl, hb4⟩
      have hb04 : Below w.heap.size w w4 := hb03.trans (hb4.mono hb03.size)
      have hC4 := hC3.below hb4 hC3.lt
      clear HRC hb4 hb03 hC3
      by_cases hc : cd = 0
      · subst hc
        obtain ⟨hd0, hback⟩ := HBk.out rfl
        have HD := Decode_any x HRg.1 HRg.2 er w4 (HE.out.below hb04)
        rw [hd0, hback, errV_zero] at HD
        unfold Ins.val at HD
        have HDe := Lib.hid HD
        rw [errV_zero]
        clear HD HBk HBd hd0 hback
        go_wp2_with fail
        refine HDe.out.mono ?_
        rintro e w5 ⟨rfl, hb5⟩
        have hb05 : Below w.heap.size w w5 := hb04.trans (hb5.mono hb04.size)
        have hC5 := hC4.below hb5 hC4.lt
        have j0 : w5.cell? ⟨w.heap.size, 0, none⟩ = some (.int .i64 i.op) := hC5.cell 0
        have j1 : w5.cell? ⟨w.heap.size, 1, none⟩ = some (.int .i64 i.a) := hC5.cell 1
        have j2 : w5.cell? ⟨w.heap.size, 2, none⟩ = some (.int .i64 i.b) := hC5.cell 2
        have j3 : w5.cell? ⟨w.heap.size, 3, none⟩ = some (.int .i64 i.c) := hC5.cell 3
        have j4 : w5.cell? ⟨w.heap.size, 4, none⟩ = some (.int .i64 i.imm) := hC5.cell 4
        have hz5 : w.heap.size < w5.heap.size := hC5.lt
        clear HDe hb5 hb04 hC4
        go_wp2
        go_ret
        exact ⟨by simp, hb05.alloc hb05.size _⟩
      · have hx0 := HBd.out hc
        subst hx0
        have hc' : ((cd : Int) != 0) = true := by
          rw [bne_iff_ne]
          omega
        rw [errV_pos er cd hc]
        clear HBk HBd hc
        go_wp2
        go_ret
        exact ⟨rfl, hb04⟩
end Go.Proofs.YtecmeegnjjhilaaGreatDoor
