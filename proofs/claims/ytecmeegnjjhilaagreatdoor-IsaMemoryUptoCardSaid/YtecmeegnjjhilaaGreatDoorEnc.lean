/- isa.form, uses.bounds, isa.fits, isa.Check, isa.Encode, isa.Decode: what each returns. -/
import Derived.Test.YtecmeegnjjhilaaGreatDoorEnv
namespace Go.Proofs.YtecmeegnjjhilaaGreatDoor
open Go.RowKit
structure Uses where
  a : Bool
  b : Bool
  c : Bool
  imm : Bool
  signed : Bool
def usesOf (f : Int) : Uses := ⟨f != 6 && f != 7, f == 1 || f == 2 || f == 3 || f == 6, f == 1, f != 1, f == 2 || f == 5 || f == 6⟩
def Uses.lo (u : Uses) : Int := if u.imm then (if u.signed then -32768 else 0) else 0
def Uses.hi (u : Uses) : Int := if u.imm then (if u.signed then 32767 else 65535) else 0

set_option maxHeartbeats 1000000 in
set_option maxRecDepth 100000 in
theorem form_any (f : Int) (w : World) (h0 : 0 ≤ f) (h1 : f ≤ 7) :
    Calls Tryz.prog 44 #[.int .i64 f] w fun e w' => e = .returned (.agg #[.bool (usesOf f).a, .bool (usesOf f).b, .bool (usesOf f).c, .bool (usesOf f).imm, .bool (usesOf f).signed]) ∧ Below w.heap.size w w' := by
  have hf : f = 0 ∨ f = 1 ∨ f = 2 ∨ f = 3 ∨ f = 4 ∨ f = 5 ∨ f = 6 ∨ f = 7 := by omega
  rcases hf with rfl | rfl | rfl | rfl | rfl | rfl | rfl | rfl
  all_goals
    clear h0 h1
    go_enter Tryz.func44, Tryz.ntmps44
    go_wp2
    refine bodyPost_ret (v := .agg #[.bool _, .bool _, .bool _, .bool _, .bool _]) (by simp [results, Tryz.results44, go_sem, usesOf]) rfl ⟨rfl, (Below.refl _ _).alloc (Nat.le_refl _) _⟩

theorem bounds_any (a b c imm signed : Bool) (w : World) :
    Calls Tryz.prog 45 #[.agg #[.bool a, .bool b, .bool c, .bool imm, .bool signed]] w fun e w' => e = .returned (.tuple #[.int .i64 (Uses.lo ⟨a, b, c, imm, signed⟩), .int .i64 (Uses.hi ⟨a, b, c, imm, signed⟩)]) ∧ Below w.heap.size w w' := by
  cases imm <;> cases signed
  all_goals
    go_enter Tryz.func45, Tryz.ntmps45
    go_wp2
    go_ret2
    exact ⟨rfl, (Below.refl _ _).alloc (Nat.le_refl _) _⟩

def fitsB (n : Int) (used : Bool) : Bool := n == 0 || (used && decide (0 ≤ n) && decide (n ≤ 15))
theorem fits_any (n : Int) (used : Bool) (w : World) :
    Calls Tryz.prog 46 #[.int .i64 n, .bool used] w fun e w' => e = .returned (.bool (fitsB n used)) ∧ w = w' := by
  by_cases h0 : n = 0
  · subst h0
    go_enter Tryz.func46, Tryz.ntmps46
    go_wp2
    go_ret
    exact ⟨rfl, rfl⟩
  · have hn : (n == 0) = false := by simpa using h0
    cases used with
    | false =>
      have hs : fitsB n false = false := by simp [fitsB, hn]
      rw [hs]
      clear h0
      go_enter Tryz.func46, Tryz.ntmps46
      go_wp2
      go_ret
      exact ⟨rfl, rfl⟩
    | true =>
      by_cases h1 : 0 ≤ n
      · by_cases h2 : n ≤ 15
        · have hs : fitsB n true = true := by simp [fitsB, h1, h2]
          rw [hs]
          clear h0
          go_enter Tryz.func46, Tryz.ntmps46
          go_wp2
          go_ret
          exact ⟨rfl, rfl⟩
        · have hs : fitsB n true = false := by simp [fitsB, hn, h2]
          rw [hs]
          clear h0
          go_enter Tryz.func46, Tryz.ntmps46
          go_wp2
          go_ret
          exact ⟨rfl, rfl⟩
      · have hs : fitsB n true = false := by simp [fitsB, hn, h1]
        rw [hs]
        clear h0
        go_enter Tryz.func46, Tryz.ntmps46
        go_wp2
        go_ret
        exact ⟨rfl, rfl⟩

/-- An instruction's fields. -/
structure Ins where
  op : Int
  a : Int
  b : Int
  c : Int
  imm : Int
deriving DecidableEq
@[reducible] def Ins.val (i : Ins) : Value := .agg #[.int .i64 i.op, .int .i64 i.a, .int .i64 i.b, .int .i64 i.c, .int .i64 i.imm]
def formOf (op : Int) : Int := (opRow op).form
def checkC (i : Ins) : Nat :=
  let f := formOf i.op
  let u := usesOf f
  if f = 0 then 7 else if fitsB i.a u.a && fitsB i.b u.b && fitsB i.c u.c && decide (u.lo ≤ i.imm) && decide (i.imm ≤ u.hi) then 0 else 4

theorem table_forms : table.all (fun r => decide (1 ≤ r.form) && decide (r.form ≤ 7)) = true := by decide +kernel
theorem form_range (op : Int) : 0 ≤ formOf op ∧ formOf op ≤ 7 := by
  unfold formOf opRow look
  cases h : table.find? (fun r => r.op == op) with
  | none => simp
  | some r =>
    have hm := List.all_eq_true.1 table_forms r (List.mem_of_find?_eq_some h)
    simp at hm
    simp only [Option.getD_some]
    omega

theorem Form_f (er : Nat → Addr) (op : Int) (w : World) (E : Env er w) :
    Calls Tryz.prog 11 #[.int .i64 op] w fun e w' => e = .returned (.int .i64 (formOf op)) ∧ Below w.heap.size w w' := Form_any op w E.space

set_option maxHeartbeats 2000000 in
set_option maxRecDepth 100000 in
theorem Check_any (i : Ins) (er : Nat → Addr) (w : World) (E : Env er w) :
    Calls Tryz.prog 18 #[i.val] w fun e w' => e = .returned (errV er (checkC i)) ∧ Below w.heap.size w w' := by
  obtain ⟨op, a, b, c, imm⟩ := i
  obtain ⟨hf0, hf7⟩ := form_range op
  have hbox : Below w.heap.size w (w.alloc (.cells #[.int .i64 op, .int .i64 a, .int .i64 b, .int .i64 c, .int .i64 imm] 27)) := (Below.refl _ _).alloc (Nat.le_refl _) _
  have HF := Lib.hid (Form_f er op _ (E.below hbox))
  have hC : checkC ⟨op, a, b, c, imm⟩ = (if formOf op = 0 then 7 else if fitsB a (usesOf (formOf op)).a && fitsB b (usesOf (formOf op)).b && fitsB c (usesOf (formOf op)).c && decide ((usesOf (formOf op)).lo ≤ imm) && decide (imm ≤ (usesOf (formOf op)).hi) then 0 else 4) := rfl
  generalize formOf op = f at hf0 hf7 HF hC
  have HC := Lib.hid hC
  clear hC
  unfold Ins.val
  go_enter Tryz.func18, Tryz.ntmps18
  go_wp2_with fail
  refine HF.out.mono ?_
  rintro e w1 ⟨rfl, hb1⟩
  have hb01 : Below w.heap.size w w1 := hbox.trans (hb1.mono (by simp))
  have hI1 : Blk w1 w.heap.size 27 #[.int .i64 op, .int .i64 a, .int .i64 b, .int .i64 c, .int .i64 imm] := (Blk.new w _ _).below hb1 (by simp)
  have E1 := E.below hb01
  by_cases h0 : f = 0
  · have hk := E1.eKind
    have HC7 : Hid (checkC ⟨op, a, b, c, imm⟩ = 7) := by rw [HC.out, if_pos h0]; rfl
    subst h0
    clear HF hf0 hf7 hb1 HC hbox
    go_wp2
    go_ret
    refine ⟨?_, hb01⟩
    rw [HC7.out, errV_pos er 7 (by decide)]
    rfl
  · have h0' : (f == 0) = false := by simpa using h0
    have HC' : Hid (checkC ⟨op, a, b, c, imm⟩ = if fitsB a (usesOf f).a && fitsB b (usesOf f).b && fitsB c (usesOf f).c && decide ((usesOf f).lo ≤ imm) && decide (imm ≤ (usesOf f).hi) then 0 else 4) := by rw [HC.out, if_neg h0]; rfl
    have HG := Lib.hid (form_any f w1 hf0 hf7)
    clear HF hf0 hf7 hbox h0 HC
    go_wp2_with fail
    generalize usesOf f = u at HG HC'
    obtain ⟨ua, ub, uc, ui, us⟩ := u
    refine HG.out.mono ?_
    rintro e w2 ⟨rfl, hb2⟩
    have hb02 : Below w.heap.size w w2 := hb01.trans (hb2.mono hb01.size)
    have hI2 : Blk w2 w.heap.size 27 #[.int .i64 op, .int .i64 a, .int .i64 b, .int .i64 c, .int .i64 imm] := hI1.below hb2 hI1.lt
    have HBd := Lib.hid (bounds_any ua ub uc ui us (w2.alloc (.cells #[.bool ua, .bool ub, .bool uc, .bool ui, .bool us] 83)))
    clear HG hI1 hb2 h0' hb1 E1
    go_wp2_with fail
    refine HBd.out.mono ?_
    rintro e w3 ⟨rfl, hb3⟩
    have hz2 := hb02.size
    have hz3 := hb3.size
    simp at hz3
    have hb03 : Below w.heap.size w w3 := (hb02.alloc hz2 _).trans (hb3.mono (by simp; omega))
    have hI3 := ((hI2.alloc (.cells #[.bool ua, .bool ub, .bool uc, .bool ui, .bool us] 83)).below hb3 (by have := hI2.lt; simp; omega))
    have hU3 : Blk w3 w2.heap.size 83 #[.bool ua, .bool ub, .bool uc, .bool ui, .bool us] := (Blk.new w2 _ _).below hb3 (by simp)
    have c1 : w3.cell? ⟨w.heap.size, 1, none⟩ = some (.int .i64 a) := hI3.cell 1
    have c2 : w3.cell? ⟨w.heap.size, 2, none⟩ = some (.int .i64 b) := hI3.cell 2
    have c3 : w3.cell? ⟨w.heap.size, 3, none⟩ = some (.int .i64 c) := hI3.cell 3
    have c4 : w3.cell? ⟨w.heap.size, 4, none⟩ = some (.int .i64 imm) := hI3.cell 4
    have u0 : w3.cell? ⟨w2.heap.size, 0, none⟩ = some (.bool ua) := hU3.cell 0
    have u1 : w3.cell? ⟨w2.heap.size, 1, none⟩ = some (.bool ub) := hU3.cell 1
    have u2 : w3.cell? ⟨w2.heap.size, 2, none⟩ = some (.bool uc) := hU3.cell 2
    have hr : w3.cell? ⟨1, 0, none⟩ = some (ev (er 4)) := (E.below hb03).eRange
    clear hI2 hI3 hU3 HBd hb3 hb02 hz2 hz3 hb01 E
    generalize hlo : Uses.lo ⟨ua, ub, uc, ui, us⟩ = lo at HC' ⊢
    generalize hhi : Uses.hi ⟨ua, ub, uc, ui, us⟩ = hi at HC' ⊢
    clear hlo hhi
    have HA := Lib.hid (fun W => fits_any a ua W)
    have HB := Lib.hid (fun W => fits_any b ub W)
    have HD := Lib.hid (fun W => fits_any c uc W)
    have HC := Lib.hid HC'.out
    clear HC'
    cases hA : fitsB a ua with
    | false =>
      rw [hA] at HA
      have H4 : Hid (checkC ⟨op, a, b, c, imm⟩ = 4) := by rw [HC.out, hA]; rfl
      clear hA HC
      go_wp2_with fail
      refine (HA.out _).mono ?_
      rintro e w' ⟨rfl, rfl⟩
      go_wp2
      go_ret
      exact ⟨by rw [H4.out, errV_pos er 4 (by decide)]; rfl, hb03⟩
    | true =>
      rw [hA] at HA
      cases hB : fitsB b ub with
      | false =>
        rw [hB] at HB
        have H4 : Hid (checkC ⟨op, a, b, c, imm⟩ = 4) := by rw [HC.out, hA, hB]; rfl
        clear hA hB HC
        go_wp2_with fail
        refine (HA.out _).mono ?_
        rintro e w' ⟨rfl, rfl⟩
        go_wp2_with fail
        refine (HB.out _).mono ?_
        rintro e w' ⟨rfl, rfl⟩
        go_wp2
        go_ret
        exact ⟨by rw [H4.out, errV_pos er 4 (by decide)]; rfl, hb03⟩
      | true =>
        rw [hB] at HB
        cases hD : fitsB c uc with
        | false =>
          rw [hD] at HD
          have H4 : Hid (checkC ⟨op, a, b, c, imm⟩ = 4) := by rw [HC.out, hA, hB, hD]; rfl
          clear hA hB hD HC
          go_wp2_with fail
          refine (HA.out _).mono ?_
          rintro e w' ⟨rfl, rfl⟩
          go_wp2_with fail
          refine (HB.out _).mono ?_
          rintro e w' ⟨rfl, rfl⟩
          go_wp2_with fail
          refine (HD.out _).mono ?_
          rintro e w' ⟨rfl, rfl⟩
          go_wp2
          go_ret
          exact ⟨by rw [H4.out, errV_pos er 4 (by decide)]; rfl, hb03⟩
        | true =>
          rw [hD] at HD
          have HE : Hid (checkC ⟨op, a, b, c, imm⟩ = if decide (lo ≤ imm) && decide (imm ≤ hi) then 0 else 4) := by rw [HC.out, hA, hB, hD]; rfl
          clear hA hB hD HC
          by_cases h1 : imm < lo
          · have H4 : Hid (checkC ⟨op, a, b, c, imm⟩ = 4) := Lib.hid (HE.out.trans (if_neg (by intro hh; simp at hh; omega)))
            go_wp2_with fail
            refine (HA.out _).mono ?_
            rintro e w' ⟨rfl, rfl⟩
            go_wp2_with fail
            refine (HB.out _).mono ?_
            rintro e w' ⟨rfl, rfl⟩
            go_wp2_with fail
            refine (HD.out _).mono ?_
            rintro e w' ⟨rfl, rfl⟩
            go_wp2
            go_ret
            exact ⟨by rw [H4.out, errV_pos er 4 (by decide)]; rfl, hb03⟩
          · by_cases h2 : hi < imm
            · have H4 : Hid (checkC ⟨op, a, b, c, imm⟩ = 4) := Lib.hid (HE.out.trans (if_neg (by intro hh; simp at hh; omega)))
              go_wp2_with fail
              refine (HA.out _).mono ?_
              rintro e w' ⟨rfl, rfl⟩
              go_wp2_with fail
              refine (HB.out _).mono ?_
              rintro e w' ⟨rfl, rfl⟩
              go_wp2_with fail
              refine (HD.out _).mono ?_
              rintro e w' ⟨rfl, rfl⟩
              go_wp2
              go_ret
              exact ⟨by rw [H4.out, errV_pos er 4 (by decide)]; rfl, hb03⟩
            · have H0 : Hid (checkC ⟨op, a, b, c, imm⟩ = 0) := Lib.hid (HE.out.trans (if_pos (by simp; omega)))
              go_wp2_with fail
              refine (HA.out _).mono ?_
              rintro e w' ⟨rfl, rfl⟩
              go_wp2_with fail
              refine (HB.out _).mono ?_
              rintro e w' ⟨rfl, rfl⟩
              go_wp2_with fail
              refine (HD.out _).mono ?_
              rintro e w' ⟨rfl, rfl⟩
              go_wp2
              go_ret
              exact ⟨by rw [H0.out, errV_zero]; rfl, hb03⟩
end Go.Proofs.YtecmeegnjjhilaaGreatDoor
