/- The document's Decode. -/
import Derived.Test.YtecmeegnjjhilaaGreatDoorRefD
namespace Go.Proofs.YtecmeegnjjhilaaGreatDoor
open Go.RowKit

set_option maxHeartbeats 2000000 in
set_option maxRecDepth 100000 in
theorem RDecode_any (n : Int) (h0 : 0 ≤ n) (h1 : n < 4294967296) (w : World) :
    Calls Tryz.prog 27 #[.int .u32 n] w fun e w' => e = .returned (.tuple #[(decI n).val, .int .i64 (decC n)]) ∧ Below w.heap.size w w' := by
  have q1 : Int.tdiv n 16777216 = n / 16777216 := Int.tdiv_eq_ediv_of_nonneg h0
  have q2 : Int.tdiv n 1048576 = n / 1048576 := Int.tdiv_eq_ediv_of_nonneg h0
  have q3 : Int.tdiv n 65536 = n / 65536 := Int.tdiv_eq_ediv_of_nonneg h0
  have q4 : Int.tmod (n / 1048576) 16 = n / 1048576 % 16 := Int.tmod_eq_emod_of_nonneg (by omega)
  have q5 : Int.tmod (n / 65536) 16 = n / 65536 % 16 := Int.tmod_eq_emod_of_nonneg (by omega)
  have q6 : Int.tmod n 65536 = n % 65536 := Int.tmod_eq_emod_of_nonneg h0
  have q7 : Int.tdiv (n % 65536) 4096 = n % 65536 / 4096 := Int.tdiv_eq_ediv_of_nonneg (by omega)
  have hb01 : Below w.heap.size w ((w.alloc (.cells #[.int .i64 0, .int .i64 0, .int .i64 0, .int .i64 0, .int .i64 0] 27)).alloc (.cells #[.int .i64 (n / 16777216), .int .i64 (n / 1048576 % 16), .int .i64 (n / 65536 % 16), .int .i64 0, .int .i64 0] 27)) := ((Below.refl _ _).alloc (Nat.le_refl _) _).alloc (by simp) _
  have hR1 : Blk ((w.alloc (.cells #[.int .i64 0, .int .i64 0, .int .i64 0, .int .i64 0, .int .i64 0] 27)).alloc (.cells #[.int .i64 (n / 16777216), .int .i64 (n / 1048576 % 16), .int .i64 (n / 65536 % 16), .int .i64 0, .int .i64 0] 27)) w.heap.size 27 #[.int .i64 0, .int .i64 0, .int .i64 0, .int .i64 0, .int .i64 0] := (Blk.new w _ _).alloc _
  have hI1 : Blk ((w.alloc (.cells #[.int .i64 0, .int .i64 0, .int .i64 0, .int .i64 0, .int .i64 0] 27)).alloc (.cells #[.int .i64 (n / 16777216), .int .i64 (n / 1048576 % 16), .int .i64 (n / 65536 % 16), .int .i64 0, .int .i64 0] 27)) (w.heap.size + 1) 27 #[.int .i64 (n / 16777216), .int .i64 (n / 1048576 % 16), .int .i64 (n / 65536 % 16), .int .i64 0, .int .i64 0] := by
    have := Blk.new (w.alloc (.cells #[.int .i64 0, .int .i64 0, .int .i64 0, .int .i64 0, .int .i64 0] 27)) 27 #[.int .i64 (n / 16777216), .int .i64 (n / 1048576 % 16), .int .i64 (n / 65536 % 16), .int .i64 0, .int .i64 0]
    simpa using this
  have HF := Lib.hid (fun W => RForm_any (n / 16777216) W)
  obtain ⟨hf0, hf7⟩ := form_range (n / 16777216)
  have HR : Hid (decRaw n = ⟨n / 16777216, n / 1048576 % 16, n / 65536 % 16, if (usesOf (formOf (n / 16777216))).c then n / 4096 % 16 else 0, if (usesOf (formOf (n / 16777216))).c then 0 else if (usesOf (formOf (n / 16777216))).signed then (n + 32768) % 65536 - 32768 else n % 65536⟩) := Lib.hid rfl
  have HC : Hid (decC n = if formOf (n / 16777216) = 0 then 7 else if checkC (decRaw n) = 0 ∧ encW (decRaw n) = n then 0 else 4) := Lib.hid rfl
  generalize formOf (n / 16777216) = f at hf0 hf7 HF HC HR
  go_enter Tryz.func27, Tryz.ntmps27
  go_wp2_with fail
  generalize ((w.alloc (.cells #[.int .i64 0, .int .i64 0, .int .i64 0, .int .i64 0, .int .i64 0] 27)).alloc (.cells #[.int .i64 (n / 16777216), .int .i64 (n / 1048576 % 16), .int .i64 (n / 65536 % 16), .int .i64 0, .int .i64 0] 27)) = w1 at hb01 hR1 hI1 ⊢
  refine (HF.out w1).mono ?_
  rintro e w1 ⟨rfl, rfl⟩
  have i0 : w1.cell? ⟨w.heap.size + 1, 0, none⟩ = some (.int .i64 (n / 16777216)) := hI1.cell 0
  have i1 : w1.cell? ⟨w.heap.size + 1, 1, none⟩ = some (.int .i64 (n / 1048576 % 16)) := hI1.cell 1
  have i2 : w1.cell? ⟨w.heap.size + 1, 2, none⟩ = some (.int .i64 (n / 65536 % 16)) := hI1.cell 2
  have i3 : w1.cell? ⟨w.heap.size + 1, 3, none⟩ = some (.int .i64 0) := hI1.cell 3
  have i4 : w1.cell? ⟨w.heap.size + 1, 4, none⟩ = some (.int .i64 0) := hI1.cell 4
  have j3 : w1.frozen? ⟨w.heap.size + 1, 3, none⟩ = false := hI1.frozen 3
  have j4 : w1.frozen? ⟨w.heap.size + 1, 4, none⟩ = false := hI1.frozen 4
  clear HF
  by_cases hz : f = 0
  · have HD : Hid (decC n = 7) := Lib.hid (HC.out.trans (if_pos hz))
    subst hz
    have r0 : w1.cell? ⟨w.heap.size, 0, none⟩ = some (.int .i64 0) := hR1.cell 0
    have r1 : w1.cell? ⟨w.heap.size, 1, none⟩ = some (.int .i64 0) := hR1.cell 1
    have r2 : w1.cell? ⟨w.heap.size, 2, none⟩ = some (.int .i64 0) := hR1.cell 2
    have r3 : w1.cell? ⟨w.heap.size, 3, none⟩ = some (.int .i64 0) := hR1.cell 3
    have r4 : w1.cell? ⟨w.heap.size, 4, none⟩ = some (.int .i64 0) := hR1.cell 4
    have g0 : w1.frozen? ⟨w.heap.size, 0, none⟩ = false := hR1.frozen 0
    have g1 : w1.frozen? ⟨w.heap.size, 1, none⟩ = false := hR1.frozen 1
    have g2 : w1.frozen? ⟨w.heap.size, 2, none⟩ = false := hR1.frozen 2
    have g3 : w1.frozen? ⟨w.heap.size, 3, none⟩ = false := hR1.frozen 3
    have g4 : w1.frozen? ⟨w.heap.size, 4, none⟩ = false := hR1.frozen 4
    clear HR HC hR1 hI1 i0 i1 i2 i3 i4 j3 j4
    go_wp2
    refine bodyPost_ret (v := .tuple #[.agg #[.int .i64 0, .int .i64 0, .int .i64 0, .int .i64 0, .int .i64 0], .int .i64 7]) (by simp [results, Tryz.results27, go_sem, r0, r1, r2, r3, r4]) rfl ⟨?_, ?_⟩
    · rw [dec_bad n (by rw [HD.out]; omega), HD.out]
      rfl
    · exact (((((hb01.setCell (Nat.le_refl _) _).setCell (Nat.le_refl _) _).setCell (Nat.le_refl _) _).setCell (Nat.le_refl _) _).setCell (Nat.le_refl _) _)
  · have hz' : (f == 0) = false := by simpa using hz
    have tail : ∀ (cc ii : Int), decRaw n = ⟨n / 16777216, n / 1048576 % 16, n / 65536 % 16, cc, ii⟩ →
        ∃ (r : Int) (k : Nat), Hid (k ≠ 0 → decC n = 4) ∧ Hid (k = 0 → r ≠ n → decC n = 4) ∧ Hid (k = 0 → r = n → decC n = 0 ∧ decI n = ⟨n / 16777216, n / 1048576 % 16, n / 65536 % 16, cc, ii⟩) ∧
          Hid (∀ W : World, Calls Tryz.prog 25 #[.agg #[.int .i64 (n / 16777216), .int .i64 (n / 1048576 % 16), .int .i64 (n / 65536 % 16), .int .i64 cc, .int .i64 ii]] W fun e w' => e = .returned (.tuple #[.int .u32 r, .int .i64 k]) ∧ Below W.heap.size W w') := by
      intro cc ii hraw
      have HC2 : decC n = if checkC (decRaw n) = 0 ∧ encW (decRaw n) = n then 0 else 4 := HC.out.trans (if_neg hz)
      refine ⟨encR ⟨n / 16777216, n / 1048576 % 16, n / 65536 % 16, cc, ii⟩, checkC ⟨n / 16777216, n / 1048576 % 16, n / 65536 % 16, cc, ii⟩, Lib.hid ?_, Lib.hid ?_, Lib.hid ?_, Lib.hid (fun W => REncode_any ⟨n / 16777216, n / 1048576 % 16, n / 65536 % 16, cc, ii⟩ W)⟩
      · intro hk
        rw [HC2, hraw, if_neg (by intro h; exact hk h.1)]
      · intro hk hr
        have he : encR ⟨n / 16777216, n / 1048576 % 16, n / 65536 % 16, cc, ii⟩ = encW ⟨n / 16777216, n / 1048576 % 16, n / 65536 % 16, cc, ii⟩ := if_pos hk
        rw [HC2, hraw, if_neg (by intro h; exact hr (he.trans h.2))]
      · intro hk hr
        have he : encR ⟨n / 16777216, n / 1048576 % 16, n / 65536 % 16, cc, ii⟩ = encW ⟨n / 16777216, n / 1048576 % 16, n / 65536 % 16, cc, ii⟩ := if_pos hk
        have hd : decC n = 0 := by rw [HC2, hraw, if_pos ⟨hk, he ▸ hr⟩]
        exact ⟨hd, by rw [dec_good n hd, hraw]⟩
    have htail := Lib.hid tail
    clear tail HC
    by_cases h1f : f = 1
    · subst h1f
      have hraw : decRaw n = ⟨n / 16777216, n / 1048576 % 16, n / 65536 % 16, n % 65536 / 4096, 0⟩ := by
        rw [HR.out]
        have : n / 4096 % 16 = n % 65536 / 4096 := by omega
        simp [usesOf, this]
      clear HR hz hz' hf0 hf7
      obtain ⟨r, cd, HK, HN, HY, HEnc⟩ := htail.out (n % 65536 / 4096) (0) hraw
      have hRx : Blk (w1.setCell ⟨w.heap.size + 1, 3, none⟩ (.int .i64 (n % 65536 / 4096))) w.heap.size 27 #[.int .i64 0, .int .i64 0, .int .i64 0, .int .i64 0, .int .i64 0] := hR1.far (p := ⟨w.heap.size + 1, 3, none⟩) (by simp) _
      have hIx : Blk (w1.setCell ⟨w.heap.size + 1, 3, none⟩ (.int .i64 (n % 65536 / 4096))) (w.heap.size + 1) 27 #[.int .i64 (n / 16777216), .int .i64 (n / 1048576 % 16), .int .i64 (n / 65536 % 16), .int .i64 (n % 65536 / 4096), .int .i64 (0)] := hI1.store 3 _
      have hbx : Below w.heap.size w (w1.setCell ⟨w.heap.size + 1, 3, none⟩ (.int .i64 (n % 65536 / 4096))) := hb01.setCell (by simp) _
      clear hR1 hI1 hb01 htail hraw
      go_wp2_with fail
      generalize (w1.setCell ⟨w.heap.size + 1, 3, none⟩ (.int .i64 (n % 65536 / 4096))) = wx at hRx hIx hbx ⊢
      refine (HEnc.out wx).mono ?_
      rintro e w4 ⟨rfl, hb4⟩
      have hb04 := hbx.trans (hb4.mono hbx.size)
      have hR4 := hRx.below hb4 hRx.lt
      have hI4 := hIx.below hb4 hIx.lt
      clear hRx hIx hbx hb4 i0 i1 i2 i3 i4 j3 j4 HEnc
      have r0 : w4.cell? ⟨w.heap.size, 0, none⟩ = some (.int .i64 0) := hR4.cell 0
      have g0 : w4.frozen? ⟨w.heap.size, 0, none⟩ = false := hR4.frozen 0
      have i0 : w4.cell? ⟨w.heap.size + 1, 0, none⟩ = some (.int .i64 (n / 16777216)) := hI4.cell 0
      have r1 : w4.cell? ⟨w.heap.size, 1, none⟩ = some (.int .i64 0) := hR4.cell 1
      have g1 : w4.frozen? ⟨w.heap.size, 1, none⟩ = false := hR4.frozen 1
      have i1 : w4.cell? ⟨w.heap.size + 1, 1, none⟩ = some (.int .i64 (n / 1048576 % 16)) := hI4.cell 1
      have r2 : w4.cell? ⟨w.heap.size, 2, none⟩ = some (.int .i64 0) := hR4.cell 2
      have g2 : w4.frozen? ⟨w.heap.size, 2, none⟩ = false := hR4.frozen 2
      have i2 : w4.cell? ⟨w.heap.size + 1, 2, none⟩ = some (.int .i64 (n / 65536 % 16)) := hI4.cell 2
      have r3 : w4.cell? ⟨w.heap.size, 3, none⟩ = some (.int .i64 0) := hR4.cell 3
      have g3 : w4.frozen? ⟨w.heap.size, 3, none⟩ = false := hR4.frozen 3
      have i3 : w4.cell? ⟨w.heap.size + 1, 3, none⟩ = some (.int .i64 (n % 65536 / 4096)) := hI4.cell 3
      have r4 : w4.cell? ⟨w.heap.size, 4, none⟩ = some (.int .i64 0) := hR4.cell 4
      have g4 : w4.frozen? ⟨w.heap.size, 4, none⟩ = false := hR4.frozen 4
      have i4 : w4.cell? ⟨w.heap.size + 1, 4, none⟩ = some (.int .i64 (0)) := hI4.cell 4
      clear hR4 hI4
      by_cases hk : cd = 0
      · subst hk
        by_cases hrn : r = n
        · obtain ⟨hd, hi⟩ := HY.out rfl hrn
          subst hrn
          have HD := Lib.hid hd
          have HI := Lib.hid hi
          clear hd hi HY HN HK
          go_wp2
          refine bodyPost_ret (v := .tuple #[.agg #[.int .i64 (r / 16777216), .int .i64 (r / 1048576 % 16), .int .i64 (r / 65536 % 16), .int .i64 (r % 65536 / 4096), .int .i64 (0)], .int .i64 0]) (by simp [results, Tryz.results27, go_sem, r0, r1, r2, r3, r4]) rfl ⟨?_, ?_⟩
          · rw [HI.out, HD.out]
            rfl
          · exact (((((hb04.setCell (Nat.le_refl _) _).setCell (Nat.le_refl _) _).setCell (Nat.le_refl _) _).setCell (Nat.le_refl _) _).setCell (Nat.le_refl _) _)
        · have hq : (r != n) = true := by simp [hrn]
          have HD := Lib.hid (HN.out rfl hrn)
          clear hrn HY HN HK
          go_wp2
          refine bodyPost_ret (v := .tuple #[.agg #[.int .i64 0, .int .i64 0, .int .i64 0, .int .i64 0, .int .i64 0], .int .i64 4]) (by simp [results, Tryz.results27, go_sem, r0, r1, r2, r3, r4]) rfl ⟨?_, ?_⟩
          · rw [dec_bad n (by rw [HD.out]; omega), HD.out]
            rfl
          · exact (((((hb04.setCell (Nat.le_refl _) _).setCell (Nat.le_refl _) _).setCell (Nat.le_refl _) _).setCell (Nat.le_refl _) _).setCell (Nat.le_refl _) _)
      · have hq : ((cd : Int) != 0) = true := by simp [hk]
        have HD := Lib.hid (HK.out hk)
        clear hk HY HN HK
        go_wp2
        refine bodyPost_ret (v := .tuple #[.agg #[.int .i64 0, .int .i64 0, .int .i64 0, .int .i64 0, .int .i64 0], .int .i64 4]) (by simp [results, Tryz.results27, go_sem, r0, r1, r2, r3, r4]) rfl ⟨?_, ?_⟩
        · rw [dec_bad n (by rw [HD.out]; omega), HD.out]
          rfl
        · exact (((((hb04.setCell (Nat.le_refl _) _).setCell (Nat.le_refl _) _).setCell (Nat.le_refl _) _).setCell (Nat.le_refl _) _).setCell (Nat.le_refl _) _)
    · have h1f' : (f == 1) = false := by simpa using h1f
      have HU := Lib.hid (fun W => Uses_any f 73 ⟨hf0, hf7⟩ W)
      have hul : usesB f 73 = (usesOf f).signed := by
        have h := (uses_parts f (by omega) hf7).2.2.2.1
        rw [h]
        have hi : (usesOf f).imm = true := by simpa [usesOf] using h1f
        rw [hi]
        rfl
      have hc0 : (usesOf f).c = false := by simpa [usesOf] using h1f
      rw [hc0, ← hul] at HR
      generalize usesB f 73 = us at HU HR
      by_cases hs : us = true ∧ 32768 ≤ n % 65536
      · obtain ⟨rfl, hlow⟩ := hs
        have hraw : decRaw n = ⟨n / 16777216, n / 1048576 % 16, n / 65536 % 16, 0, n % 65536 - 65536⟩ := by
          rw [HR.out]
          have : (n + 32768) % 65536 - 32768 = n % 65536 - 65536 := by omega
          simp [this]
        clear HR hz h1f hul hc0 hf0 hf7
        go_wp2_with fail
        refine (HU.out _).mono ?_
        rintro e w1 ⟨rfl, rfl⟩
        clear HU
        obtain ⟨r, cd, HK, HN, HY, HEnc⟩ := htail.out (0) (n % 65536 - 65536) hraw
        have hRx : Blk (w1.setCell ⟨w.heap.size + 1, 4, none⟩ (.int .i64 (n % 65536 - 65536))) w.heap.size 27 #[.int .i64 0, .int .i64 0, .int .i64 0, .int .i64 0, .int .i64 0] := hR1.far (p := ⟨w.heap.size + 1, 4, none⟩) (by simp) _
        have hIx : Blk (w1.setCell ⟨w.heap.size + 1, 4, none⟩ (.int .i64 (n % 65536 - 65536))) (w.heap.size + 1) 27 #[.int .i64 (n / 16777216), .int .i64 (n / 1048576 % 16), .int .i64 (n / 65536 % 16), .int .i64 (0), .int .i64 (n % 65536 - 65536)] := hI1.store 4 _
        have hbx : Below w.heap.size w (w1.setCell ⟨w.heap.size + 1, 4, none⟩ (.int .i64 (n % 65536 - 65536))) := hb01.setCell (by simp) _
        clear hR1 hI1 hb01 htail hraw
        go_wp2_with fail
        generalize (w1.setCell ⟨w.heap.size + 1, 4, none⟩ (.int .i64 (n % 65536 - 65536))) = wx at hRx hIx hbx ⊢
        refine (HEnc.out wx).mono ?_
        rintro e w4 ⟨rfl, hb4⟩
        have hb04 := hbx.trans (hb4.mono hbx.size)
        have hR4 := hRx.below hb4 hRx.lt
        have hI4 := hIx.below hb4 hIx.lt
        clear hRx hIx hbx hb4 i0 i1 i2 i3 i4 j3 j4 HEnc
        have r0 : w4.cell? ⟨w.heap.size, 0, none⟩ = some (.int .i64 0) := hR4.cell 0
        have g0 : w4.frozen? ⟨w.heap.size, 0, none⟩ = false := hR4.frozen 0
        have i0 : w4.cell? ⟨w.heap.size + 1, 0, none⟩ = some (.int .i64 (n / 16777216)) := hI4.cell 0
        have r1 : w4.cell? ⟨w.heap.size, 1, none⟩ = some (.int .i64 0) := hR4.cell 1
        have g1 : w4.frozen? ⟨w.heap.size, 1, none⟩ = false := hR4.frozen 1
        have i1 : w4.cell? ⟨w.heap.size + 1, 1, none⟩ = some (.int .i64 (n / 1048576 % 16)) := hI4.cell 1
        have r2 : w4.cell? ⟨w.heap.size, 2, none⟩ = some (.int .i64 0) := hR4.cell 2
        have g2 : w4.frozen? ⟨w.heap.size, 2, none⟩ = false := hR4.frozen 2
        have i2 : w4.cell? ⟨w.heap.size + 1, 2, none⟩ = some (.int .i64 (n / 65536 % 16)) := hI4.cell 2
        have r3 : w4.cell? ⟨w.heap.size, 3, none⟩ = some (.int .i64 0) := hR4.cell 3
        have g3 : w4.frozen? ⟨w.heap.size, 3, none⟩ = false := hR4.frozen 3
        have i3 : w4.cell? ⟨w.heap.size + 1, 3, none⟩ = some (.int .i64 (0)) := hI4.cell 3
        have r4 : w4.cell? ⟨w.heap.size, 4, none⟩ = some (.int .i64 0) := hR4.cell 4
        have g4 : w4.frozen? ⟨w.heap.size, 4, none⟩ = false := hR4.frozen 4
        have i4 : w4.cell? ⟨w.heap.size + 1, 4, none⟩ = some (.int .i64 (n % 65536 - 65536)) := hI4.cell 4
        clear hR4 hI4
        by_cases hk : cd = 0
        · subst hk
          by_cases hrn : r = n
          · obtain ⟨hd, hi⟩ := HY.out rfl hrn
            subst hrn
            have HD := Lib.hid hd
            have HI := Lib.hid hi
            clear hd hi HY HN HK
            go_wp2
            refine bodyPost_ret (v := .tuple #[.agg #[.int .i64 (r / 16777216), .int .i64 (r / 1048576 % 16), .int .i64 (r / 65536 % 16), .int .i64 (0), .int .i64 (r % 65536 - 65536)], .int .i64 0]) (by simp [results, Tryz.results27, go_sem, r0, r1, r2, r3, r4]) rfl ⟨?_, ?_⟩
            · rw [HI.out, HD.out]
              rfl
            · exact (((((hb04.setCell (Nat.le_refl _) _).setCell (Nat.le_refl _) _).setCell (Nat.le_refl _) _).setCell (Nat.le_refl _) _).setCell (Nat.le_refl _) _)
          · have hq : (r != n) = true := by simp [hrn]
            have HD := Lib.hid (HN.out rfl hrn)
            clear hrn HY HN HK
            go_wp2
            refine bodyPost_ret (v := .tuple #[.agg #[.int .i64 0, .int .i64 0, .int .i64 0, .int .i64 0, .int .i64 0], .int .i64 4]) (by simp [results, Tryz.results27, go_sem, r0, r1, r2, r3, r4]) rfl ⟨?_, ?_⟩
            · rw [dec_bad n (by rw [HD.out]; omega), HD.out]
              rfl
            · exact (((((hb04.setCell (Nat.le_refl _) _).setCell (Nat.le_refl _) _).setCell (Nat.le_refl _) _).setCell (Nat.le_refl _) _).setCell (Nat.le_refl _) _)
        · have hq : ((cd : Int) != 0) = true := by simp [hk]
          have HD := Lib.hid (HK.out hk)
          clear hk HY HN HK
          go_wp2
          refine bodyPost_ret (v := .tuple #[.agg #[.int .i64 0, .int .i64 0, .int .i64 0, .int .i64 0, .int .i64 0], .int .i64 4]) (by simp [results, Tryz.results27, go_sem, r0, r1, r2, r3, r4]) rfl ⟨?_, ?_⟩
          · rw [dec_bad n (by rw [HD.out]; omega), HD.out]
            rfl
          · exact (((((hb04.setCell (Nat.le_refl _) _).setCell (Nat.le_refl _) _).setCell (Nat.le_refl _) _).setCell (Nat.le_refl _) _).setCell (Nat.le_refl _) _)
      · have hraw : decRaw n = ⟨n / 16777216, n / 1048576 % 16, n / 65536 % 16, 0, n % 65536⟩ := by
          rw [HR.out]
          cases us with
          | false => simp
          | true =>
            have : (n + 32768) % 65536 - 32768 = n % 65536 := by have : ¬ 32768 ≤ n % 65536 := fun h => hs ⟨rfl, h⟩; omega
            simp [this]
        clear HR hz h1f hul hc0 hf0 hf7
        go_wp2_with fail
        refine (HU.out _).mono ?_
        rintro e w1 ⟨rfl, rfl⟩
        clear HU
        cases us with
        | false =>
          clear hs
          obtain ⟨r, cd, HK, HN, HY, HEnc⟩ := htail.out (0) (n % 65536) hraw
          have hRx : Blk (w1.setCell ⟨w.heap.size + 1, 4, none⟩ (.int .i64 (n % 65536))) w.heap.size 27 #[.int .i64 0, .int .i64 0, .int .i64 0, .int .i64 0, .int .i64 0] := hR1.far (p := ⟨w.heap.size + 1, 4, none⟩) (by simp) _
          have hIx : Blk (w1.setCell ⟨w.heap.size + 1, 4, none⟩ (.int .i64 (n % 65536))) (w.heap.size + 1) 27 #[.int .i64 (n / 16777216), .int .i64 (n / 1048576 % 16), .int .i64 (n / 65536 % 16), .int .i64 (0), .int .i64 (n % 65536)] := hI1.store 4 _
          have hbx : Below w.heap.size w (w1.setCell ⟨w.heap.size + 1, 4, none⟩ (.int .i64 (n % 65536))) := hb01.setCell (by simp) _
          clear hR1 hI1 hb01 htail hraw
          go_wp2_with fail
          generalize (w1.setCell ⟨w.heap.size + 1, 4, none⟩ (.int .i64 (n % 65536))) = wx at hRx hIx hbx ⊢
          refine (HEnc.out wx).mono ?_
          rintro e w4 ⟨rfl, hb4⟩
          have hb04 := hbx.trans (hb4.mono hbx.size)
          have hR4 := hRx.below hb4 hRx.lt
          have hI4 := hIx.below hb4 hIx.lt
          clear hRx hIx hbx hb4 i0 i1 i2 i3 i4 j3 j4 HEnc
          have r0 : w4.cell? ⟨w.heap.size, 0, none⟩ = some (.int .i64 0) := hR4.cell 0
          have g0 : w4.frozen? ⟨w.heap.size, 0, none⟩ = false := hR4.frozen 0
          have i0 : w4.cell? ⟨w.heap.size + 1, 0, none⟩ = some (.int .i64 (n / 16777216)) := hI4.cell 0
          have r1 : w4.cell? ⟨w.heap.size, 1, none⟩ = some (.int .i64 0) := hR4.cell 1
          have g1 : w4.frozen? ⟨w.heap.size, 1, none⟩ = false := hR4.frozen 1
          have i1 : w4.cell? ⟨w.heap.size + 1, 1, none⟩ = some (.int .i64 (n / 1048576 % 16)) := hI4.cell 1
          have r2 : w4.cell? ⟨w.heap.size, 2, none⟩ = some (.int .i64 0) := hR4.cell 2
          have g2 : w4.frozen? ⟨w.heap.size, 2, none⟩ = false := hR4.frozen 2
          have i2 : w4.cell? ⟨w.heap.size + 1, 2, none⟩ = some (.int .i64 (n / 65536 % 16)) := hI4.cell 2
          have r3 : w4.cell? ⟨w.heap.size, 3, none⟩ = some (.int .i64 0) := hR4.cell 3
          have g3 : w4.frozen? ⟨w.heap.size, 3, none⟩ = false := hR4.frozen 3
          have i3 : w4.cell? ⟨w.heap.size + 1, 3, none⟩ = some (.int .i64 (0)) := hI4.cell 3
          have r4 : w4.cell? ⟨w.heap.size, 4, none⟩ = some (.int .i64 0) := hR4.cell 4
          have g4 : w4.frozen? ⟨w.heap.size, 4, none⟩ = false := hR4.frozen 4
          have i4 : w4.cell? ⟨w.heap.size + 1, 4, none⟩ = some (.int .i64 (n % 65536)) := hI4.cell 4
          clear hR4 hI4
          by_cases hk : cd = 0
          · subst hk
            by_cases hrn : r = n
            · obtain ⟨hd, hi⟩ := HY.out rfl hrn
              subst hrn
              have HD := Lib.hid hd
              have HI := Lib.hid hi
              clear hd hi HY HN HK
              go_wp2
              refine bodyPost_ret (v := .tuple #[.agg #[.int .i64 (r / 16777216), .int .i64 (r / 1048576 % 16), .int .i64 (r / 65536 % 16), .int .i64 (0), .int .i64 (r % 65536)], .int .i64 0]) (by simp [results, Tryz.results27, go_sem, r0, r1, r2, r3, r4]) rfl ⟨?_, ?_⟩
              · rw [HI.out, HD.out]
                rfl
              · exact (((((hb04.setCell (Nat.le_refl _) _).setCell (Nat.le_refl _) _).setCell (Nat.le_refl _) _).setCell (Nat.le_refl _) _).setCell (Nat.le_refl _) _)
            · have hq : (r != n) = true := by simp [hrn]
              have HD := Lib.hid (HN.out rfl hrn)
              clear hrn HY HN HK
              go_wp2
              refine bodyPost_ret (v := .tuple #[.agg #[.int .i64 0, .int .i64 0, .int .i64 0, .int .i64 0, .int .i64 0], .int .i64 4]) (by simp [results, Tryz.results27, go_sem, r0, r1, r2, r3, r4]) rfl ⟨?_, ?_⟩
              · rw [dec_bad n (by rw [HD.out]; omega), HD.out]
                rfl
              · exact (((((hb04.setCell (Nat.le_refl _) _).setCell (Nat.le_refl _) _).setCell (Nat.le_refl _) _).setCell (Nat.le_refl _) _).setCell (Nat.le_refl _) _)
          · have hq : ((cd : Int) != 0) = true := by simp [hk]
            have HD := Lib.hid (HK.out hk)
            clear hk HY HN HK
            go_wp2
            refine bodyPost_ret (v := .tuple #[.agg #[.int .i64 0, .int .i64 0, .int .i64 0, .int .i64 0, .int .i64 0], .int .i64 4]) (by simp [results, Tryz.results27, go_sem, r0, r1, r2, r3, r4]) rfl ⟨?_, ?_⟩
            · rw [dec_bad n (by rw [HD.out]; omega), HD.out]
              rfl
            · exact (((((hb04.setCell (Nat.le_refl _) _).setCell (Nat.le_refl _) _).setCell (Nat.le_refl _) _).setCell (Nat.le_refl _) _).setCell (Nat.le_refl _) _)
        | true =>
          have hlow : ¬ 32768 ≤ n % 65536 := fun h => hs ⟨rfl, h⟩
          clear hs
          obtain ⟨r, cd, HK, HN, HY, HEnc⟩ := htail.out (0) (n % 65536) hraw
          have hRx : Blk (w1.setCell ⟨w.heap.size + 1, 4, none⟩ (.int .i64 (n % 65536))) w.heap.size 27 #[.int .i64 0, .int .i64 0, .int .i64 0, .int .i64 0, .int .i64 0] := hR1.far (p := ⟨w.heap.size + 1, 4, none⟩) (by simp) _
          have hIx : Blk (w1.setCell ⟨w.heap.size + 1, 4, none⟩ (.int .i64 (n % 65536))) (w.heap.size + 1) 27 #[.int .i64 (n / 16777216), .int .i64 (n / 1048576 % 16), .int .i64 (n / 65536 % 16), .int .i64 (0), .int .i64 (n % 65536)] := hI1.store 4 _
          have hbx : Below w.heap.size w (w1.setCell ⟨w.heap.size + 1, 4, none⟩ (.int .i64 (n % 65536))) := hb01.setCell (by simp) _
          clear hR1 hI1 hb01 htail hraw
          go_wp2_with fail
          generalize (w1.setCell ⟨w.heap.size + 1, 4, none⟩ (.int .i64 (n % 65536))) = wx at hRx hIx hbx ⊢
          refine (HEnc.out wx).mono ?_
          rintro e w4 ⟨rfl, hb4⟩
          have hb04 := hbx.trans (hb4.mono hbx.size)
          have hR4 := hRx.below hb4 hRx.lt
          have hI4 := hIx.below hb4 hIx.lt
          clear hRx hIx hbx hb4 i0 i1 i2 i3 i4 j3 j4 HEnc
          have r0 : w4.cell? ⟨w.heap.size, 0, none⟩ = some (.int .i64 0) := hR4.cell 0
          have g0 : w4.frozen? ⟨w.heap.size, 0, none⟩ = false := hR4.frozen 0
          have i0 : w4.cell? ⟨w.heap.size + 1, 0, none⟩ = some (.int .i64 (n / 16777216)) := hI4.cell 0
          have r1 : w4.cell? ⟨w.heap.size, 1, none⟩ = some (.int .i64 0) := hR4.cell 1
          have g1 : w4.frozen? ⟨w.heap.size, 1, none⟩ = false := hR4.frozen 1
          have i1 : w4.cell? ⟨w.heap.size + 1, 1, none⟩ = some (.int .i64 (n / 1048576 % 16)) := hI4.cell 1
          have r2 : w4.cell? ⟨w.heap.size, 2, none⟩ = some (.int .i64 0) := hR4.cell 2
          have g2 : w4.frozen? ⟨w.heap.size, 2, none⟩ = false := hR4.frozen 2
          have i2 : w4.cell? ⟨w.heap.size + 1, 2, none⟩ = some (.int .i64 (n / 65536 % 16)) := hI4.cell 2
          have r3 : w4.cell? ⟨w.heap.size, 3, none⟩ = some (.int .i64 0) := hR4.cell 3
          have g3 : w4.frozen? ⟨w.heap.size, 3, none⟩ = false := hR4.frozen 3
          have i3 : w4.cell? ⟨w.heap.size + 1, 3, none⟩ = some (.int .i64 (0)) := hI4.cell 3
          have r4 : w4.cell? ⟨w.heap.size, 4, none⟩ = some (.int .i64 0) := hR4.cell 4
          have g4 : w4.frozen? ⟨w.heap.size, 4, none⟩ = false := hR4.frozen 4
          have i4 : w4.cell? ⟨w.heap.size + 1, 4, none⟩ = some (.int .i64 (n % 65536)) := hI4.cell 4
          clear hR4 hI4
          by_cases hk : cd = 0
          · subst hk
            by_cases hrn : r = n
            · obtain ⟨hd, hi⟩ := HY.out rfl hrn
              subst hrn
              have HD := Lib.hid hd
              have HI := Lib.hid hi
              clear hd hi HY HN HK
              go_wp2
              refine bodyPost_ret (v := .tuple #[.agg #[.int .i64 (r / 16777216), .int .i64 (r / 1048576 % 16), .int .i64 (r / 65536 % 16), .int .i64 (0), .int .i64 (r % 65536)], .int .i64 0]) (by simp [results, Tryz.results27, go_sem, r0, r1, r2, r3, r4]) rfl ⟨?_, ?_⟩
              · rw [HI.out, HD.out]
                rfl
              · exact (((((hb04.setCell (Nat.le_refl _) _).setCell (Nat.le_refl _) _).setCell (Nat.le_refl _) _).setCell (Nat.le_refl _) _).setCell (Nat.le_refl _) _)
            · have hq : (r != n) = true := by simp [hrn]
              have HD := Lib.hid (HN.out rfl hrn)
              clear hrn HY HN HK
              go_wp2
              refine bodyPost_ret (v := .tuple #[.agg #[.int .i64 0, .int .i64 0, .int .i64 0, .int .i64 0, .int .i64 0], .int .i64 4]) (by simp [results, Tryz.results27, go_sem, r0, r1, r2, r3, r4]) rfl ⟨?_, ?_⟩
              · rw [dec_bad n (by rw [HD.out]; omega), HD.out]
                rfl
              · exact (((((hb04.setCell (Nat.le_refl _) _).setCell (Nat.le_refl _) _).setCell (Nat.le_refl _) _).setCell (Nat.le_refl _) _).setCell (Nat.le_refl _) _)
          · have hq : ((cd : Int) != 0) = true := by simp [hk]
            have HD := Lib.hid (HK.out hk)
            clear hk HY HN HK
            go_wp2
            refine bodyPost_ret (v := .tuple #[.agg #[.int .i64 0, .int .i64 0, .int .i64 0, .int .i64 0, .int .i64 0], .int .i64 4]) (by simp [results, Tryz.results27, go_sem, r0, r1, r2, r3, r4]) rfl ⟨?_, ?_⟩
            · rw [dec_bad n (by rw [HD.out]; omega), HD.out]
              rfl
            · exact (((((hb04.setCell (Nat.le_refl _) _).setCell (Nat.le_refl _) _).setCell (Nat.le_refl _) _).setCell (Nat.le_refl _) _).setCell (Nat.le_refl _) _)
end Go.Proofs.YtecmeegnjjhilaaGreatDoor
