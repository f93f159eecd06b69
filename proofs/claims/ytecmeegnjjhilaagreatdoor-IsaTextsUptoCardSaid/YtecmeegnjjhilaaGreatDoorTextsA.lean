/- ferrylaw04.IsaTexts: the walk. -/
import Derived.Test.YtecmeegnjjhilaaGreatDoorTextLaw
import Derived.Test.YtecmeegnjjhilaaGreatDoorFixed
import Derived.Test.YtecmeegnjjhilaaGreatDoorRefC
import Derived.Test.YtecmeegnjjhilaaGreatDoorOurs
namespace Go.Proofs.YtecmeegnjjhilaaGreatDoor
open Go.RowKit

theorem ends_back (i : Ins) (hc : checkC i = 0) (Y : ByteArray) (hY : Y.data.toList = printT i) : parseP (Y ++ ⟨#[32]⟩) = (⟨0, 0, 0, 0, 0⟩, 18) ∧ parseP ((⟨#[32]⟩ : ByteArray) ++ Y) = (⟨0, 0, 0, 0, 0⟩, 18) := by
  refine ⟨parse_bad _ fun j hj => ?_, parse_bad _ fun j hj => ?_⟩
  · have h1 := (print_ends j hj.1).2
    rw [hj.2, Joins.data_append] at h1
    exact h1 (by simp)
  · have h1 := (print_ends j hj.1).1
    rw [hj.2, Joins.data_append] at h1
    exact h1 (by simp)

attribute [local irreducible] Calls in
set_option maxHeartbeats 4000000 in
set_option maxRecDepth 100000 in
theorem texts_walk (er : Nat → Addr) (i : Ins) (n : Int) (nm tx : ByteArray) (htx : tx.size ≤ 100000000) (w : World) (E : Env er w) :
    Calls Tryz.prog 5 #[.agg #[.int .i64 i.op, .int .i64 i.a, .int .i64 i.b, .int .i64 i.c, .int .i64 i.imm, .int .u32 n, .string nm, .string tx]] w fun e w' => e = .returned (.bool true) ∧ Below w.heap.size w w' := by
  have HE := Lib.hid E
  have hbx := (Below.refl w.heap.size w).alloc (Nat.le_refl _) (.cells #[.int .i64 i.op, .int .i64 i.a, .int .i64 i.b, .int .i64 i.c, .int .i64 i.imm, .int .u32 n, .string nm, .string tx] 30)
  have hC := Blk.new w 30 #[.int .i64 i.op, .int .i64 i.a, .int .i64 i.b, .int .i64 i.c, .int .i64 i.imm, .int .u32 n, .string nm, .string tx]
  have HF := Lib.hid (fixed_any er _ (HE.out.below hbx))
  clear E
  go_enter Tryz.func5, Tryz.ntmps5
  go_wp2_with fail
  refine HF.out.mono ?_
  rintro e w1 ⟨rfl, hb1⟩
  have hb01 : Below w.heap.size w w1 := hbx.trans (hb1.mono (by simp))
  have hC1 := hC.below hb1 (by simp)
  have t7 : w1.cell? ⟨w.heap.size, 7, none⟩ = some (.string tx) := hC1.cell 7
  have HPx := Lib.hid (Parse_any tx htx er w1 (HE.out.below hb01))
  have hPC := parse_cases tx
  have HBk := Lib.hid (fun (h : tx.data.toList = printT i) (hc : checkC i = 0) => parse_back i hc tx h)
  generalize parseP tx = q at HPx hPC HBk
  obtain ⟨j, cd⟩ := q
  simp only at hPC
  clear HF hbx hC hb1
  unfold Ins.val at HPx
  simp only at HPx
  go_wp2_with fail
  refine HPx.out.mono ?_
  rintro e w2 ⟨rfl, hb2⟩
  have hb02 : Below w.heap.size w w2 := hb01.trans (hb2.mono hb01.size)
  have hC2 := (hC1.below hb2 hC1.lt).alloc (.cells #[.int .i64 j.op, .int .i64 j.a, .int .i64 j.b, .int .i64 j.c, .int .i64 j.imm] 27)
  have hJ2 := Blk.new w2 27 #[.int .i64 j.op, .int .i64 j.a, .int .i64 j.b, .int .i64 j.c, .int .i64 j.imm]
  have hb03 := hb02.alloc hb02.size (.cells #[.int .i64 j.op, .int .i64 j.a, .int .i64 j.b, .int .i64 j.c, .int .i64 j.imm] 27)
  have hJl : w.heap.size < w2.heap.size := Nat.lt_of_lt_of_le hC1.lt hb2.size
  clear HPx hb2 hb01 hC1 t7 hb02
  rcases hPC with ⟨⟨jc, jt⟩, rfl⟩ | hq
  · have hPj := Print_any j er _ (HE.out.below hb03)
    rw [jc, if_pos rfl, errV_zero, jt] at hPj
    have hs1 : (⟨tx.data.toList.toArray⟩ : ByteArray) = tx := by cases tx; simp
    rw [hs1] at hPj
    unfold Ins.val at hPj
    have HPj := Lib.hid hPj
    have HJI : Hid (tx.data.toList = printT i → checkC i = 0 → j = i) := Lib.hid (fun h hc => congrArg Prod.fst (HBk.out h hc))
    have HNe : Hid (checkC i = 0 → j = i → ¬ tx.data.toList ≠ printT i) := Lib.hid (fun _ h h2 => h2 (by rw [← h]; exact jt.symm))
    rw [errV_zero]
    clear hPj hs1 jc jt HBk
    go_wp2_with fail
    refine HPj.out.mono ?_
    rintro e w3 ⟨rfl, hbj⟩
    have hb3 : Below w.heap.size w w3 := hb03.trans (hbj.mono hb03.size)
    have hC3 := hC2.below hbj hC2.lt
    have hJ3 := hJ2.below hbj hJ2.lt
    have t7 : w3.cell? ⟨w.heap.size, 7, none⟩ = some (.string tx) := hC3.cell 7
    generalize w2.heap.size = JB at hJ3 hJl ⊢
    clear HPj hbj hb03 hC2 hJ2
    have i0 : w3.cell? ⟨w.heap.size, 0, none⟩ = some (.int .i64 i.op) := hC3.cell 0
    have i1 : w3.cell? ⟨w.heap.size, 1, none⟩ = some (.int .i64 i.a) := hC3.cell 1
    have i2 : w3.cell? ⟨w.heap.size, 2, none⟩ = some (.int .i64 i.b) := hC3.cell 2
    have i3 : w3.cell? ⟨w.heap.size, 3, none⟩ = some (.int .i64 i.c) := hC3.cell 3
    have i4 : w3.cell? ⟨w.heap.size, 4, none⟩ = some (.int .i64 i.imm) := hC3.cell 4
    have HOu := Lib.hid (fun W => ours_any i W)
    have HRC := Lib.hid (fun W => RCheck_any i W)
    have HPr := Lib.hid (fun W (h : Env er W) => Print_any i er W h)
    have HPb := Lib.hid (fun (hc : checkC i = 0) (Y : ByteArray) (h : Y.data.toList = printT i) => parse_back i hc Y h)
    have HEn := Lib.hid (fun (hc : checkC i = 0) (Y : ByteArray) (h : Y.data.toList = printT i) => ends_back i hc Y h)
    have HLn := Lib.hid (fun (hc : checkC i = 0) => print_len i hc)
    unfold Ins.val at HOu HRC HPr
    go_wp2_with fail
    refine (HOu.out _).mono ?_
    rintro e w4 ⟨rfl, hb4⟩
    have hb04 : Below w.heap.size w w4 := hb3.trans (hb4.mono hb3.size)
    have hC4 := hC3.below hb4 hC3.lt
    have hJ4 := hJ3.below hb4 hJ3.lt
    clear HOu hb4 hb3 hC3 hJ3 i0 i1 i2 i3 i4
    go_wp2_with fail
    refine (HRC.out _).mono ?_
    rintro e w5 ⟨rfl, hb5⟩
    have hb05 : Below w.heap.size w w5 := hb04.trans (hb5.mono hb04.size)
    have hC5 := hC4.below hb5 hC4.lt
    have hJ5 := hJ4.below hb5 hJ4.lt
    clear HRC hb5 hb04 hC4 hJ4
    have i0 : w5.cell? ⟨w.heap.size, 0, none⟩ = some (.int .i64 i.op) := hC5.cell 0
    have i1 : w5.cell? ⟨w.heap.size, 1, none⟩ = some (.int .i64 i.a) := hC5.cell 1
    have i2 : w5.cell? ⟨w.heap.size, 2, none⟩ = some (.int .i64 i.b) := hC5.cell 2
    have i3 : w5.cell? ⟨w.heap.size, 3, none⟩ = some (.int .i64 i.c) := hC5.cell 3
    have i4 : w5.cell? ⟨w.heap.size, 4, none⟩ = some (.int .i64 i.imm) := hC5.cell 4
    by_cases hc : checkC i = 0
    · have hP5 := HPr.out w5 (HE.out.below hb05)
      rw [hc, if_pos rfl, errV_zero] at hP5
      have hl := HLn.out hc
      obtain ⟨Y, hY⟩ : ∃ Y : ByteArray, (⟨(printT i).toArray⟩ : ByteArray) = Y := ⟨_, rfl⟩
      have hYd : Y.data.toList = printT i := by rw [← hY]
      have hYs : Y.size ≤ 200 := by rw [Lib.size_eq, hYd]; exact hl
      rw [hY] at hP5
      have HP5 := Lib.hid hP5
      have HPY := Lib.hid (HPb.out hc Y hYd)
      have HEY := Lib.hid (HEn.out hc Y hYd)
      have HYd := Lib.hid hYd
      have Hc := Lib.hid hc
      rw [hc]
      clear hP5 hl hY hYd hc HPr HPb HEn HLn
      go_wp2_with fail
      refine HP5.out.mono ?_
      rintro e w6 ⟨rfl, hb6⟩
      have hb06 : Below w.heap.size w w6 := hb05.trans (hb6.mono hb05.size)
      have hC6 := hC5.below hb6 hC5.lt
      have hJ6 := hJ5.below hb6 hJ5.lt
      have hQ := Parse_any Y (by omega) er w6 (HE.out.below hb06)
      rw [HPY.out, errV_zero] at hQ
      unfold Ins.val at hQ
      have HQ := Lib.hid hQ
      clear hQ HP5 hb6 hb05 hC5 hJ5 i0 i1 i2 i3 i4
      go_wp2_with fail
      refine HQ.out.mono ?_
      rintro e w7 ⟨rfl, hb7⟩
      have hb07 : Below w.heap.size w w7 := hb06.trans (hb7.mono hb06.size)
      have hC7 := hC6.below hb7 hC6.lt
      have hJ7 := hJ6.below hb7 hJ6.lt
      have i0 : w7.cell? ⟨w.heap.size, 0, none⟩ = some (.int .i64 i.op) := hC7.cell 0
      have i1 : w7.cell? ⟨w.heap.size, 1, none⟩ = some (.int .i64 i.a) := hC7.cell 1
      have i2 : w7.cell? ⟨w.heap.size, 2, none⟩ = some (.int .i64 i.b) := hC7.cell 2
      have i3 : w7.cell? ⟨w.heap.size, 3, none⟩ = some (.int .i64 i.c) := hC7.cell 3
      have i4 : w7.cell? ⟨w.heap.size, 4, none⟩ = some (.int .i64 i.imm) := hC7.cell 4
      have hl7 := hC7.lt
      have hb8 := hb07.alloc hb07.size (.cells #[.int .i64 i.op, .int .i64 i.a, .int .i64 i.b, .int .i64 i.c, .int .i64 i.imm] 27)
      have hC8 := hC7.alloc (.cells #[.int .i64 i.op, .int .i64 i.a, .int .i64 i.b, .int .i64 i.c, .int .i64 i.imm] 27)
      have hJ8 := hJ7.alloc (.cells #[.int .i64 i.op, .int .i64 i.a, .int .i64 i.b, .int .i64 i.c, .int .i64 i.imm] 27)
      have hE1 := Parse_any (Y ++ ⟨#[32]⟩) (by have h32 : (⟨#[32]⟩ : ByteArray).size = 1 := rfl; rw [ByteArray.size_append]; omega) er _ (HE.out.below hb8)
      rw [HEY.out.1, errV_pos er 18 (by decide)] at hE1
      have HE1 := Lib.hid hE1
      clear hE1 HQ hb7 hb06 hC6 hJ6
      go_wp2_with fail
      refine HE1.out.mono ?_
      rintro e w9 ⟨rfl, hb9⟩
      have hb09 : Below w.heap.size w w9 := hb8.trans (hb9.mono hb8.size)
      have hC9 := hC8.below hb9 hC8.lt
      have hJ9 := hJ8.below hb9 hJ8.lt
      have hE2 := Parse_any ((⟨#[32]⟩ : ByteArray) ++ Y) (by have h32 : (⟨#[32]⟩ : ByteArray).size = 1 := rfl; rw [ByteArray.size_append]; omega) er w9 (HE.out.below hb09)
      rw [HEY.out.2, errV_pos er 18 (by decide)] at hE2
      have HE2 := Lib.hid hE2
      clear hE2 HE1 hb9 hb8 hC8 hJ8 i0 i1 i2 i3 i4 hb07 hC7 hJ7
      go_wp2_with fail
      refine HE2.out.mono ?_
      rintro e w10 ⟨rfl, hb10⟩
      have hb010 : Below w.heap.size w w10 := hb09.trans (hb10.mono hb09.size)
      have hC10 := hC9.below hb10 hC9.lt
      have hJ10 := hJ9.below hb10 hJ9.lt
      have i0 : w10.cell? ⟨w.heap.size, 0, none⟩ = some (.int .i64 i.op) := hC10.cell 0
      have i1 : w10.cell? ⟨w.heap.size, 1, none⟩ = some (.int .i64 i.a) := hC10.cell 1
      have i2 : w10.cell? ⟨w.heap.size, 2, none⟩ = some (.int .i64 i.b) := hC10.cell 2
      have i3 : w10.cell? ⟨w.heap.size, 3, none⟩ = some (.int .i64 i.c) := hC10.cell 3
      have i4 : w10.cell? ⟨w.heap.size, 4, none⟩ = some (.int .i64 i.imm) := hC10.cell 4
      have j0 : w10.cell? ⟨JB, 0, none⟩ = some (.int .i64 j.op) := hJ10.cell 0
      have j1 : w10.cell? ⟨JB, 1, none⟩ = some (.int .i64 j.a) := hJ10.cell 1
      have j2 : w10.cell? ⟨JB, 2, none⟩ = some (.int .i64 j.b) := hJ10.cell 2
      have j3 : w10.cell? ⟨JB, 3, none⟩ = some (.int .i64 j.c) := hJ10.cell 3
      have j4 : w10.cell? ⟨JB, 4, none⟩ = some (.int .i64 j.imm) := hJ10.cell 4
      have t7 : w10.cell? ⟨w.heap.size, 7, none⟩ = some (.string tx) := hC10.cell 7
      clear HE2 HEY HPY hb10 hb09 hC9 hJ9
      by_cases hYt : Y = tx
      · subst hYt
        have hji : j = i := HJI.out HYd.out Hc.out
        subst hji
        clear HJI HNe
        go_wp2_with fail
        go_quiet (fail)
        go_wp2_with fail
        go_ret
        exact ⟨by simp, below_drewN hb010 _⟩
      · have hne2 : (Y.toList == tx.toList) = false := by
          rw [ByteArray.toList_eq, ByteArray.toList_eq, beq_eq_false_iff_ne]
          exact fun h => hYt (bytes_eq h)
        have hji : j ≠ i := fun h => HNe.out Hc.out h (fun h2 => hYt (bytes_eq (by rw [HYd.out, h2])))
        obtain ⟨p0, p1, p2, p3, p4⟩ := j
        obtain ⟨q0, q1, q2, q3, q4⟩ := i
        simp only at i0 i1 i2 i3 i4 j0 j1 j2 j3 j4
        clear HJI HNe hYt
        by_cases hk0 : p0 = q0
        · subst hk0
          by_cases hk1 : p1 = q1
          · subst hk1
            by_cases hk2 : p2 = q2
            · subst hk2
              by_cases hk3 : p3 = q3
              · subst hk3
                by_cases hk4 : p4 = q4
                · subst hk4
                  exact absurd rfl hji
                · have hk : (p4 == q4) = false := by simpa using hk4
                  clear hji hk4
                  go_wp2_with fail
                  go_quiet (fail)
                  go_wp2_with fail
                  go_ret
                  exact ⟨by simp, below_drewN hb010 _⟩
              · have hk : (p3 == q3) = false := by simpa using hk3
                clear hji hk3
                go_wp2_with fail
                go_quiet (fail)
                go_wp2_with fail
                go_ret
                exact ⟨by simp, below_drewN hb010 _⟩
            · have hk : (p2 == q2) = false := by simpa using hk2
              clear hji hk2
              go_wp2_with fail
              go_quiet (fail)
              go_wp2_with fail
              go_ret
              exact ⟨by simp, below_drewN hb010 _⟩
          · have hk : (p1 == q1) = false := by simpa using hk1
            clear hji hk1
            go_wp2_with fail
            go_quiet (fail)
            go_wp2_with fail
            go_ret
            exact ⟨by simp, below_drewN hb010 _⟩
        · have hk : (p0 == q0) = false := by simpa using hk0
          clear hji hk0
          go_wp2_with fail
          go_quiet (fail)
          go_wp2_with fail
          go_ret
          exact ⟨by simp, below_drewN hb010 _⟩
    · have hP5 := HPr.out w5 (HE.out.below hb05)
      rw [if_neg hc, errV_pos er _ hc] at hP5
      have hc' : ((checkC i : Int) != 0) = true := by rw [bne_iff_ne]; omega
      generalize checkC i = cc at hP5 hc' ⊢
      have HP5 := Lib.hid hP5
      clear hP5 hc HPr HPb HEn HLn
      go_wp2_with fail
      refine HP5.out.mono ?_
      rintro e w6 ⟨rfl, hb6⟩
      have hb06 : Below w.heap.size w w6 := hb05.trans (hb6.mono hb05.size)
      clear HP5 hb6
      go_wp2
      go_ret
      exact ⟨rfl, hb06⟩
  · simp only [Prod.mk.injEq] at hq
    obtain ⟨hj, rfl⟩ := hq
    have HJI : Hid (tx.data.toList = printT i → checkC i = 0 → j = i) := Lib.hid (fun h hc => congrArg Prod.fst (HBk.out h hc))
    have HNe : Hid (checkC i = 0 → j = i → ¬ tx.data.toList ≠ printT i) := Lib.hid (fun hc h _ => by rw [← h, hj] at hc; exact absurd hc (by decide +kernel))
    rw [errV_pos er 18 (by decide)]
    have hC3 := hC2
    have hJ3 := hJ2
    have hb3 := hb03
    clear HBk hj hC2 hJ2 hb03
    have i0 : (w2.alloc (.cells #[.int .i64 j.op, .int .i64 j.a, .int .i64 j.b, .int .i64 j.c, .int .i64 j.imm] 27)).cell? ⟨w.heap.size, 0, none⟩ = some (.int .i64 i.op) := hC3.cell 0
    have i1 : (w2.alloc (.cells #[.int .i64 j.op, .int .i64 j.a, .int .i64 j.b, .int .i64 j.c, .int .i64 j.imm] 27)).cell? ⟨w.heap.size, 1, none⟩ = some (.int .i64 i.a) := hC3.cell 1
    have i2 : (w2.alloc (.cells #[.int .i64 j.op, .int .i64 j.a, .int .i64 j.b, .int .i64 j.c, .int .i64 j.imm] 27)).cell? ⟨w.heap.size, 2, none⟩ = some (.int .i64 i.b) := hC3.cell 2
    have i3 : (w2.alloc (.cells #[.int .i64 j.op, .int .i64 j.a, .int .i64 j.b, .int .i64 j.c, .int .i64 j.imm] 27)).cell? ⟨w.heap.size, 3, none⟩ = some (.int .i64 i.c) := hC3.cell 3
    have i4 : (w2.alloc (.cells #[.int .i64 j.op, .int .i64 j.a, .int .i64 j.b, .int .i64 j.c, .int .i64 j.imm] 27)).cell? ⟨w.heap.size, 4, none⟩ = some (.int .i64 i.imm) := hC3.cell 4
    have HOu := Lib.hid (fun W => ours_any i W)
    have HRC := Lib.hid (fun W => RCheck_any i W)
    have HPr := Lib.hid (fun W (h : Env er W) => Print_any i er W h)
    have HPb := Lib.hid (fun (hc : checkC i = 0) (Y : ByteArray) (h : Y.data.toList = printT i) => parse_back i hc Y h)
    have HEn := Lib.hid (fun (hc : checkC i = 0) (Y : ByteArray) (h : Y.data.toList = printT i) => ends_back i hc Y h)
    have HLn := Lib.hid (fun (hc : checkC i = 0) => print_len i hc)
    unfold Ins.val at HOu HRC HPr
    go_wp2_with fail
    refine (HOu.out _).mono ?_
    rintro e w4 ⟨rfl, hb4⟩
    have hb04 : Below w.heap.size w w4 := hb3.trans (hb4.mono hb3.size)
    have hC4 := hC3.below hb4 hC3.lt
    have hJ4 := hJ3.below hb4 hJ3.lt
    clear HOu hb4 hb3 hC3 hJ3 i0 i1 i2 i3 i4
    go_wp2_with fail
    refine (HRC.out _).mono ?_
    rintro e w5 ⟨rfl, hb5⟩
    have hb05 : Below w.heap.size w w5 := hb04.trans (hb5.mono hb04.size)
    have hC5 := hC4.below hb5 hC4.lt
    have hJ5 := hJ4.below hb5 hJ4.lt
    clear HRC hb5 hb04 hC4 hJ4
    have i0 : w5.cell? ⟨w.heap.size, 0, none⟩ = some (.int .i64 i.op) := hC5.cell 0
    have i1 : w5.cell? ⟨w.heap.size, 1, none⟩ = some (.int .i64 i.a) := hC5.cell 1
    have i2 : w5.cell? ⟨w.heap.size, 2, none⟩ = some (.int .i64 i.b) := hC5.cell 2
    have i3 : w5.cell? ⟨w.heap.size, 3, none⟩ = some (.int .i64 i.c) := hC5.cell 3
    have i4 : w5.cell? ⟨w.heap.size, 4, none⟩ = some (.int .i64 i.imm) := hC5.cell 4
    by_cases hc : checkC i = 0
    · have hP5 := HPr.out w5 (HE.out.below hb05)
      rw [hc, if_pos rfl, errV_zero] at hP5
      have hl := HLn.out hc
      obtain ⟨Y, hY⟩ : ∃ Y : ByteArray, (⟨(printT i).toArray⟩ : ByteArray) = Y := ⟨_, rfl⟩
      have hYd : Y.data.toList = printT i := by rw [← hY]
      have hYs : Y.size ≤ 200 := by rw [Lib.size_eq, hYd]; exact hl
      rw [hY] at hP5
      have HP5 := Lib.hid hP5
      have HPY := Lib.hid (HPb.out hc Y hYd)
      have HEY := Lib.hid (HEn.out hc Y hYd)
      have HYd := Lib.hid hYd
      have Hc := Lib.hid hc
      rw [hc]
      clear hP5 hl hY hYd hc HPr HPb HEn HLn
      go_wp2_with fail
      refine HP5.out.mono ?_
      rintro e w6 ⟨rfl, hb6⟩
      have hb06 : Below w.heap.size w w6 := hb05.trans (hb6.mono hb05.size)
      have hC6 := hC5.below hb6 hC5.lt
      have hJ6 := hJ5.below hb6 hJ5.lt
      have hQ := Parse_any Y (by omega) er w6 (HE.out.below hb06)
      rw [HPY.out, errV_zero] at hQ
      unfold Ins.val at hQ
      have HQ := Lib.hid hQ
      clear hQ HP5 hb6 hb05 hC5 hJ5 i0 i1 i2 i3 i4
      go_wp2_with fail
      refine HQ.out.mono ?_
      rintro e w7 ⟨rfl, hb7⟩
      have hb07 : Below w.heap.size w w7 := hb06.trans (hb7.mono hb06.size)
      have hC7 := hC6.below hb7 hC6.lt
      have hJ7 := hJ6.below hb7 hJ6.lt
      have i0 : w7.cell? ⟨w.heap.size, 0, none⟩ = some (.int .i64 i.op) := hC7.cell 0
      have i1 : w7.cell? ⟨w.heap.size, 1, none⟩ = some (.int .i64 i.a) := hC7.cell 1
      have i2 : w7.cell? ⟨w.heap.size, 2, none⟩ = some (.int .i64 i.b) := hC7.cell 2
      have i3 : w7.cell? ⟨w.heap.size, 3, none⟩ = some (.int .i64 i.c) := hC7.cell 3
      have i4 : w7.cell? ⟨w.heap.size, 4, none⟩ = some (.int .i64 i.imm) := hC7.cell 4
      have hl7 := hC7.lt
      have hb8 := hb07.alloc hb07.size (.cells #[.int .i64 i.op, .int .i64 i.a, .int .i64 i.b, .int .i64 i.c, .int .i64 i.imm] 27)
      have hC8 := hC7.alloc (.cells #[.int .i64 i.op, .int .i64 i.a, .int .i64 i.b, .int .i64 i.c, .int .i64 i.imm] 27)
      have hJ8 := hJ7.alloc (.cells #[.int .i64 i.op, .int .i64 i.a, .int .i64 i.b, .int .i64 i.c, .int .i64 i.imm] 27)
      have hE1 := Parse_any (Y ++ ⟨#[32]⟩) (by have h32 : (⟨#[32]⟩ : ByteArray).size = 1 := rfl; rw [ByteArray.size_append]; omega) er _ (HE.out.below hb8)
      rw [HEY.out.1, errV_pos er 18 (by decide)] at hE1
      have HE1 := Lib.hid hE1
      clear hE1 HQ hb7 hb06 hC6 hJ6
      go_wp2_with fail
      refine HE1.out.mono ?_
      rintro e w9 ⟨rfl, hb9⟩
      have hb09 : Below w.heap.size w w9 := hb8.trans (hb9.mono hb8.size)
      have hC9 := hC8.below hb9 hC8.lt
      have hJ9 := hJ8.below hb9 hJ8.lt
      have hE2 := Parse_any ((⟨#[32]⟩ : ByteArray) ++ Y) (by have h32 : (⟨#[32]⟩ : ByteArray).size = 1 := rfl; rw [ByteArray.size_append]; omega) er w9 (HE.out.below hb09)
      rw [HEY.out.2, errV_pos er 18 (by decide)] at hE2
      have HE2 := Lib.hid hE2
      clear hE2 HE1 hb9 hb8 hC8 hJ8 i0 i1 i2 i3 i4 hb07 hC7 hJ7
      go_wp2_with fail
      refine HE2.out.mono ?_
      rintro e w10 ⟨rfl, hb10⟩
      have hb010 : Below w.heap.size w w10 := hb09.trans (hb10.mono hb09.size)
      have hC10 := hC9.below hb10 hC9.lt
      have hJ10 := hJ9.below hb10 hJ9.lt
      have i0 : w10.cell? ⟨w.heap.size, 0, none⟩ = some (.int .i64 i.op) := hC10.cell 0
      have i1 : w10.cell? ⟨w.heap.size, 1, none⟩ = some (.int .i64 i.a) := hC10.cell 1
      have i2 : w10.cell? ⟨w.heap.size, 2, none⟩ = some (.int .i64 i.b) := hC10.cell 2
      have i3 : w10.cell? ⟨w.heap.size, 3, none⟩ = some (.int .i64 i.c) := hC10.cell 3
      have i4 : w10.cell? ⟨w.heap.size, 4, none⟩ = some (.int .i64 i.imm) := hC10.cell 4
      have j0 : w10.cell? ⟨w2.heap.size, 0, none⟩ = some (.int .i64 j.op) := hJ10.cell 0
      have j1 : w10.cell? ⟨w2.heap.size, 1, none⟩ = some (.int .i64 j.a) := hJ10.cell 1
      have j2 : w10.cell? ⟨w2.heap.size, 2, none⟩ = some (.int .i64 j.b) := hJ10.cell 2
      have j3 : w10.cell? ⟨w2.heap.size, 3, none⟩ = some (.int .i64 j.c) := hJ10.cell 3
      have j4 : w10.cell? ⟨w2.heap.size, 4, none⟩ = some (.int .i64 j.imm) := hJ10.cell 4
      have t7 : w10.cell? ⟨w.heap.size, 7, none⟩ = some (.string tx) := hC10.cell 7
      clear HE2 HEY HPY hb10 hb09 hC9 hJ9
      by_cases hYt : Y = tx
      · subst hYt
        have hji : j = i := HJI.out HYd.out Hc.out
        subst hji
        clear HJI HNe
        go_wp2_with fail
        go_quiet (fail)
        go_wp2_with fail
        go_ret
        exact ⟨by simp, below_drewN hb010 _⟩
      · have hne2 : (Y.toList == tx.toList) = false := by
          rw [ByteArray.toList_eq, ByteArray.toList_eq, beq_eq_false_iff_ne]
          exact fun h => hYt (bytes_eq h)
        have hji : j ≠ i := fun h => HNe.out Hc.out h (fun h2 => hYt (bytes_eq (by rw [HYd.out, h2])))
        obtain ⟨p0, p1, p2, p3, p4⟩ := j
        obtain ⟨q0, q1, q2, q3, q4⟩ := i
        simp only at i0 i1 i2 i3 i4 j0 j1 j2 j3 j4
        clear HJI HNe hYt
        by_cases hk0 : p0 = q0
        · subst hk0
          by_cases hk1 : p1 = q1
          · subst hk1
            by_cases hk2 : p2 = q2
            · subst hk2
              by_cases hk3 : p3 = q3
              · subst hk3
                by_cases hk4 : p4 = q4
                · subst hk4
                  exact absurd rfl hji
                · have hk : (p4 == q4) = false := by simpa using hk4
                  clear hji hk4
                  go_wp2_with fail
                  go_quiet (fail)
                  go_wp2_with fail
                  go_ret
                  exact ⟨by simp, below_drewN hb010 _⟩
              · have hk : (p3 == q3) = false := by simpa using hk3
                clear hji hk3
                go_wp2_with fail
                go_quiet (fail)
                go_wp2_with fail
                go_ret
                exact ⟨by simp, below_drewN hb010 _⟩
            · have hk : (p2 == q2) = false := by simpa using hk2
              clear hji hk2
              go_wp2_with fail
              go_quiet (fail)
              go_wp2_with fail
              go_ret
              exact ⟨by simp, below_drewN hb010 _⟩
          · have hk : (p1 == q1) = false := by simpa using hk1
            clear hji hk1
            go_wp2_with fail
            go_quiet (fail)
            go_wp2_with fail
            go_ret
            exact ⟨by simp, below_drewN hb010 _⟩
        · have hk : (p0 == q0) = false := by simpa using hk0
          clear hji hk0
          go_wp2_with fail
          go_quiet (fail)
          go_wp2_with fail
          go_ret
          exact ⟨by simp, below_drewN hb010 _⟩
    · have hP5 := HPr.out w5 (HE.out.below hb05)
      rw [if_neg hc, errV_pos er _ hc] at hP5
      have hc' : ((checkC i : Int) != 0) = true := by rw [bne_iff_ne]; omega
      generalize checkC i = cc at hP5 hc' ⊢
      have HP5 := Lib.hid hP5
      clear hP5 hc HPr HPb HEn HLn
      go_wp2_with fail
      refine HP5.out.mono ?_
      rintro e w6 ⟨rfl, hb6⟩
      have hb06 : Below w.heap.size w w6 := hb05.trans (hb6.mono hb05.size)
      clear HP5 hb6
      go_wp2
      go_ret
      exact ⟨rfl, hb06⟩
end Go.Proofs.YtecmeegnjjhilaaGreatDoor
