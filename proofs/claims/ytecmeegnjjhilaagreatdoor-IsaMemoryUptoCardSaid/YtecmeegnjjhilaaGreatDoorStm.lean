/- isa.statement: the operands that a statement's first word wants, and what makes its words of their values. -/
import Derived.Test.YtecmeegnjjhilaaGreatDoorIns
namespace Go.Proofs.YtecmeegnjjhilaaGreatDoor
open Go.RowKit
/-- What may stand at a place of a statement. -/
structure Kind where
  reg : Bool
  number : Bool
  lo : Int
  hi : Int
  label : Bool
  branch : Bool
def Kind.enc (k : Kind) : List Value := [.bool k.reg, .bool k.number, .int .i64 k.lo, .int .i64 k.hi, .bool k.label, .bool k.branch]
def kencs (ks : List Kind) : List Value := ks.flatMap Kind.enc
theorem kencs_append (a b : List Kind) : kencs (a ++ b) = kencs a ++ kencs b := by simp [kencs]
def regK : Kind := ⟨true, false, 0, 0, false, false⟩
def numK (lo hi : Int) : Kind := ⟨false, true, lo, hi, false, false⟩
def labK : Kind := ⟨false, false, 0, 0, true, false⟩
def immK (lo hi : Int) (j : Bool) : Kind := ⟨false, true, lo, hi, j, j⟩

/-- The six cells of each. -/
def KindAt (w : World) (b o : Nat) (k : Kind) : Prop :=
  w.cell? ⟨b, o, none⟩ = some (.bool k.reg) ∧ w.cell? ⟨b, o + 1, none⟩ = some (.bool k.number) ∧ w.cell? ⟨b, o + 2, none⟩ = some (.int .i64 k.lo) ∧ w.cell? ⟨b, o + 3, none⟩ = some (.int .i64 k.hi) ∧ w.cell? ⟨b, o + 4, none⟩ = some (.bool k.label) ∧ w.cell? ⟨b, o + 5, none⟩ = some (.bool k.branch)
def KindsV (w : World) (v : Value) (ks : List Kind) : Prop :=
  ∃ A c, v = .slice A ks.length c ∧ (0 < ks.length → ∃ b cur, A = some ⟨b, 0, none⟩ ∧ Blk w b 182 cur ∧ ∀ (i : Nat) (u : Value), (kencs ks)[i]? = some u → cur[i]? = some u)
theorem kencs_at : ∀ (ks : List Kind) (j : Nat) (k : Kind), ks[j]? = some k → ∀ (i : Nat) (v : Value), k.enc[i]? = some v → (kencs ks)[j * 6 + i]? = some v
  | [], j, k, h, _, _, _ => by simp at h
  | x :: ks, 0, k, h, i, v, hv => by
    simp only [List.getElem?_cons_zero, Option.some.injEq] at h
    subst h
    have hi : i < x.enc.length := (List.getElem?_eq_some_iff.1 hv).1
    simp only [kencs, List.flatMap_cons, Nat.zero_mul, Nat.zero_add]
    rw [List.getElem?_append_left hi]
    exact hv
  | x :: ks, j + 1, k, h, i, v, hv => by
    have ih := kencs_at ks j k (by simpa using h) i v hv
    have e : kencs (x :: ks) = x.enc ++ kencs ks := by simp [kencs]
    have hl : x.enc.length = 6 := rfl
    rw [e, List.getElem?_append_right (by rw [hl]; omega), hl]
    rw [show (j + 1) * 6 + i - 6 = j * 6 + i from by omega]
    exact ih
theorem KindAt.of_cells {w : World} {b : Nat} {ks : List Kind} (hc : ∀ (i : Nat) (u : Value), (kencs ks)[i]? = some u → w.cell? ⟨b, i, none⟩ = some u) (j : Nat) (k : Kind) (hk : ks[j]? = some k) : KindAt w b (j * 6) k :=
  ⟨hc _ _ (kencs_at ks j k hk 0 _ rfl), hc _ _ (kencs_at ks j k hk 1 _ rfl), hc _ _ (kencs_at ks j k hk 2 _ rfl), hc _ _ (kencs_at ks j k hk 3 _ rfl), hc _ _ (kencs_at ks j k hk 4 _ rfl), hc _ _ (kencs_at ks j k hk 5 _ rfl)⟩
theorem KindsV.of_blk {w : World} {b c : Nat} {ks : List Kind} (h : Blk w b 182 (kencs ks).toArray) : KindsV w (.slice (some ⟨b, 0, none⟩) ks.length c) ks :=
  ⟨_, _, rfl, fun _ => ⟨b, _, rfl, h, fun i u hu => by simpa using hu⟩⟩
theorem KindsV.of_own {w : World} {base : Nat} {v : Value} {ks : List Kind} (h : w.ownsRow base 182 6 v ks.length (kencs ks)) : KindsV w v ks := by
  rcases h.2 with ⟨rfl, h0⟩ | ⟨g, cap, cur, rfl, hb, hh, hcap, _, _, htake⟩
  · have : ks = [] := List.eq_nil_of_length_eq_zero h0
    subst this
    exact ⟨none, 0, rfl, fun hn => absurd hn (by simp)⟩
  · refine ⟨_, cap, rfl, fun _ => ⟨g, cur, rfl, hh, fun i u hu => ?_⟩⟩
    rw [← htake] at hu
    have hi : i < (cur.toList.take (ks.length * 6)).length := (List.getElem?_eq_some_iff.1 hu).1
    rw [List.getElem?_take] at hu
    split at hu
    · simpa using hu
    · cases hu
theorem KindsV.at_ {w : World} {A : Option Addr} {n c : Nat} {ks : List Kind} (h : KindsV w (.slice A n c) ks) (j : Nat) (k : Kind) (hk : ks[j]? = some k) : ∃ b, A = some ⟨b, 0, none⟩ ∧ KindAt w b (j * 6) k := by
  obtain ⟨A', c', e, hc⟩ := h
  injection e with e1 _ _
  subst e1
  have hl : j < ks.length := (List.getElem?_eq_some_iff.1 hk).1
  obtain ⟨b, cur, rfl, hB, hcur⟩ := hc (by omega)
  exact ⟨b, rfl, KindAt.of_cells (fun i u hu => by rw [hB.cell i]; exact hcur i u hu) j k hk⟩

def kindsP : Stm → List Kind
  | .bad => []
  | .nop => []
  | .li => [regK, numK (-2147483648) 4294967295]
  | .la => [regK, labK]
  | .word => [numK (-2147483648) 4294967295]
  | .space => [numK 0 512]
  | .ins op =>
    let u := usesOf (formOf op)
    (if u.a then [regK] else []) ++ (if u.b then [regK] else []) ++ (if u.c then [regK] else []) ++ (if u.imm then [immK u.lo u.hi (decide (48 ≤ op) && decide (op ≤ 54))] else [])
def wNop : List UInt8 := [110, 111, 112]
def wLi : List UInt8 := [108, 105]
def wLa : List UInt8 := [108, 97]
def wWord : List UInt8 := [46, 119, 111, 114, 100]
def wSpace : List UInt8 := [46, 115, 112, 97, 99, 101]
def stmP (l : List UInt8) : Stm :=
  if l = wNop then .nop else if l = wLi then .li else if l = wLa then .la else if l = wWord then .word else if l = wSpace then .space
  else if (wordRow l).op = 0 then .bad else .ins (wordRow l).op
/-- The function value that makes the words. -/
def FnFor (w : World) (fv : Value) : Stm → Prop
  | .bad => fv = .nilFunc
  | .nop => fv = .func (.func 114) #[] #[]
  | .li => fv = .func (.func 115) #[] #[]
  | .la => fv = .func (.func 116) #[] #[]
  | .word => fv = .func (.func 117) #[] #[]
  | .space => fv = .func (.func 118) #[] #[]
  | .ins op => ∃ b5 b6, fv = .func (.func 119) #[] #[.pointer (some ⟨b5, 0, none⟩), .pointer (some ⟨b6, 0, none⟩)] ∧ Blk w b5 3 #[.int .i64 op] ∧
      Blk w b6 83 #[.bool (usesOf (formOf op)).a, .bool (usesOf (formOf op)).b, .bool (usesOf (formOf op)).c, .bool (usesOf (formOf op)).imm, .bool (usesOf (formOf op)).signed]
def StmOut (w : World) (e : Ending) (w' : World) (st : Stm) : Prop := ∃ kv fv, e = .returned (.tuple #[kv, fv]) ∧ KindsV w' kv (kindsP st) ∧ FnFor w' fv st ∧ Below w.heap.size w w'

theorem neq_words (s : ByteArray) (l : List UInt8) (h : s.data.toList ≠ l) : (s.toList == l) = false := by rw [ByteArray.toList_eq]; simpa using h
set_option maxHeartbeats 1000000 in
set_option maxRecDepth 100000 in
theorem stm_words (s : ByteArray) (w : World) (h : s.data.toList = wNop ∨ s.data.toList = wLi ∨ s.data.toList = wLa ∨ s.data.toList = wWord ∨ s.data.toList = wSpace) :
    Calls Tryz.prog 87 #[.string s] w fun e w' => StmOut w e w' (stmP s.data.toList) := by
  obtain ⟨⟨l⟩⟩ := s
  simp only at h
  rcases h with rfl | rfl | rfl | rfl | rfl
  · go_enter Tryz.func87, Tryz.ntmps87
    go_wp2
    go_ret2
    exact ⟨.slice none 0 0, _, rfl, ⟨none, 0, rfl, fun h => absurd h (by decide)⟩, rfl, (Below.refl _ _).alloc (Nat.le_refl _) _⟩
  · go_enter Tryz.func87, Tryz.ntmps87
    go_wp2
    go_ret2
    have hB : Blk ((w.alloc (.cells #[.bool true, .bool false, .int .i64 0, .int .i64 0, .bool false, .bool false] 182)).alloc (.cells (kencs (kindsP .li)).toArray 182)) (w.heap.size + 1) 182 (kencs (kindsP .li)).toArray := by
      have := Blk.new (w.alloc (.cells #[.bool true, .bool false, .int .i64 0, .int .i64 0, .bool false, .bool false] 182)) 182 (kencs (kindsP .li)).toArray
      have e : (w.alloc (.cells #[.bool true, .bool false, .int .i64 0, .int .i64 0, .bool false, .bool false] 182)).heap.size = w.heap.size + 1 := by simp
      rw [e] at this
      exact this
    exact ⟨.slice (some ⟨w.heap.size + 1, 0, none⟩) 2 2, _, rfl, KindsV.of_blk (c := 2) hB, rfl, ((Below.refl _ _).alloc (Nat.le_refl _) _).alloc (by simp) _⟩
  · go_enter Tryz.func87, Tryz.ntmps87
    go_wp2
    go_ret2
    have hB : Blk ((w.alloc (.cells #[.bool true, .bool false, .int .i64 0, .int .i64 0, .bool false, .bool false] 182)).alloc (.cells (kencs (kindsP .la)).toArray 182)) (w.heap.size + 1) 182 (kencs (kindsP .la)).toArray := by
      have := Blk.new (w.alloc (.cells #[.bool true, .bool false, .int .i64 0, .int .i64 0, .bool false, .bool false] 182)) 182 (kencs (kindsP .la)).toArray
      have e : (w.alloc (.cells #[.bool true, .bool false, .int .i64 0, .int .i64 0, .bool false, .bool false] 182)).heap.size = w.heap.size + 1 := by simp
      rw [e] at this
      exact this
    exact ⟨.slice (some ⟨w.heap.size + 1, 0, none⟩) 2 2, _, rfl, KindsV.of_blk (c := 2) hB, rfl, ((Below.refl _ _).alloc (Nat.le_refl _) _).alloc (by simp) _⟩
  · go_enter Tryz.func87, Tryz.ntmps87
    go_wp2
    go_ret2
    have hB : Blk ((w.alloc (.cells #[.bool true, .bool false, .int .i64 0, .int .i64 0, .bool false, .bool false] 182)).alloc (.cells (kencs (kindsP .word)).toArray 182)) (w.heap.size + 1) 182 (kencs (kindsP .word)).toArray := by
      have := Blk.new (w.alloc (.cells #[.bool true, .bool false, .int .i64 0, .int .i64 0, .bool false, .bool false] 182)) 182 (kencs (kindsP .word)).toArray
      have e : (w.alloc (.cells #[.bool true, .bool false, .int .i64 0, .int .i64 0, .bool false, .bool false] 182)).heap.size = w.heap.size + 1 := by simp
      rw [e] at this
      exact this
    exact ⟨.slice (some ⟨w.heap.size + 1, 0, none⟩) 1 1, _, rfl, KindsV.of_blk (c := 1) hB, rfl, ((Below.refl _ _).alloc (Nat.le_refl _) _).alloc (by simp) _⟩
  · go_enter Tryz.func87, Tryz.ntmps87
    go_wp2
    go_ret2
    have hB : Blk ((w.alloc (.cells #[.bool true, .bool false, .int .i64 0, .int .i64 0, .bool false, .bool false] 182)).alloc (.cells (kencs (kindsP .space)).toArray 182)) (w.heap.size + 1) 182 (kencs (kindsP .space)).toArray := by
      have := Blk.new (w.alloc (.cells #[.bool true, .bool false, .int .i64 0, .int .i64 0, .bool false, .bool false] 182)) 182 (kencs (kindsP .space)).toArray
      have e : (w.alloc (.cells #[.bool true, .bool false, .int .i64 0, .int .i64 0, .bool false, .bool false] 182)).heap.size = w.heap.size + 1 := by simp
      rw [e] at this
      exact this
    exact ⟨.slice (some ⟨w.heap.size + 1, 0, none⟩) 1 1, _, rfl, KindsV.of_blk (c := 1) hB, rfl, ((Below.refl _ _).alloc (Nat.le_refl _) _).alloc (by simp) _⟩

theorem kindinfo : (Tryz.prog.info? 182).map (fun i => (i.zero, i.size, i.bytes)) = some (some (.agg #[.bool false, .bool false, .int .i64 0, .int .i64 0, .bool false, .bool false]), 6, 32) := by kernel_rfl

/-- The registers among the first k. -/
def regsOf (us : List Bool) (k : Nat) : List Kind := ((us.take k).filter id).map fun _ => regK
theorem regs_step (us : List Bool) (k : Nat) (u : Bool) (h : us[k]? = some u) : regsOf us (k + 1) = regsOf us k ++ (if u then [regK] else []) := by
  obtain ⟨hl, he⟩ := List.getElem?_eq_some_iff.1 h
  unfold regsOf
  rw [List.take_succ_eq_append_getElem hl, List.filter_append, List.map_append, he]
  cases u <;> simp

set_option maxHeartbeats 4000000 in
set_option maxRecDepth 100000 in
theorem stm_ins (s : ByteArray) (er : Nat → Addr) (w : World) (E : Env er w) (n1 : s.data.toList ≠ wNop) (n2 : s.data.toList ≠ wLi) (n3 : s.data.toList ≠ wLa) (n4 : s.data.toList ≠ wWord) (n5 : s.data.toList ≠ wSpace) :
    Calls Tryz.prog 87 #[.string s] w fun e w' => StmOut w e w' (stmP s.data.toList) := by
  have e1 := neq_words s _ n1
  have e2 := neq_words s _ n2
  have e3 := neq_words s _ n3
  have e4 := neq_words s _ n4
  have e5 := neq_words s _ n5
  unfold wNop at e1
  unfold wLi at e2
  unfold wLa at e3
  unfold wWord at e4
  unfold wSpace at e5
  have HS : Hid (stmP s.data.toList = if (wordRow s.data.toList).op = 0 then .bad else .ins (wordRow s.data.toList).op) := Lib.hid (by
    unfold stmP
    rw [if_neg n1, if_neg n2, if_neg n3, if_neg n4, if_neg n5])
  clear n1 n2 n3 n4 n5
  have hb0 : Below w.heap.size w (w.alloc (.cells #[.bool true, .bool false, .int .i64 0, .int .i64 0, .bool false, .bool false] 182)) := (Below.refl _ _).alloc (Nat.le_refl _) _
  have HN := Lib.hid (Number_any s _ (E.below hb0).space)
  generalize (wordRow s.data.toList).op = op at HS HN
  go_enter Tryz.func87, Tryz.ntmps87
  go_wp2_with fail
  refine HN.out.mono ?_
  rintro e w1 ⟨rfl, hb1⟩
  have hb01 : Below w.heap.size w w1 := hb0.trans (hb1.mono (by simp))
  have hz1 : w.heap.size < w1.heap.size := by have := hb1.size; simp at this; omega
  have hR1 : Blk w1 w.heap.size 182 regK.enc.toArray := (Blk.new w _ _).below hb1 (by simp)
  clear HN hb1 hb0
  by_cases h0 : op = 0
  · have HQ : Hid (stmP s.data.toList = .bad) := Lib.hid (HS.out.trans (if_pos h0))
    have h0' : (op == 0) = true := by simp [h0]
    clear HS h0 E hR1
    go_wp2
    go_ret2
    rw [HQ.out]
    exact ⟨.slice none 0 0, _, rfl, ⟨none, 0, rfl, fun h => absurd h (by decide)⟩, rfl, hb01.alloc hb01.size _⟩
  · have HQ : Hid (stmP s.data.toList = .ins op) := Lib.hid (HS.out.trans (if_neg h0))
    have h0' : (op == 0) = false := by simp [h0]
    obtain ⟨hf0, hf7⟩ := form_range op
    have hb2 : Below w.heap.size w (w1.alloc (.cells #[.int .i64 op] 3)) := hb01.alloc hb01.size _
    have HF := Lib.hid (Form_f er op _ (E.below hb2))
    clear HS h0
    go_wp2_with fail
    refine HF.out.mono ?_
    rintro e w2 ⟨rfl, hb3⟩
    have hb02 : Below w.heap.size w w2 := hb2.trans (hb3.mono (by simp; omega))
    have hz2 : w1.heap.size < w2.heap.size := by have := hb3.size; simp at this; omega
    have hO2 : Blk w2 w1.heap.size 3 #[.int .i64 op] := (Blk.new w1 _ _).below hb3 (by simp)
    have hR2 : Blk w2 w.heap.size 182 regK.enc.toArray := (hR1.alloc (.cells #[.int .i64 op] 3)).below hb3 (by simp; omega)
    have HG := Lib.hid (form_any (formOf op) w2 hf0 hf7)
    clear HF hb3 hb2 hR1 hf0 hf7
    go_wp2_with fail
    refine HG.out.mono ?_
    rintro e w3 ⟨rfl, hb4⟩
    have hb03 : Below w.heap.size w w3 := hb02.trans (hb4.mono hb02.size)
    have hz3 : w1.heap.size < w3.heap.size := Nat.lt_of_lt_of_le hz2 hb4.size
    have hO3 : Blk w3 w1.heap.size 3 #[.int .i64 op] := hO2.below hb4 hz2
    have hR3 : Blk w3 w.heap.size 182 regK.enc.toArray := hR2.below hb4 (by omega)
    have HK : Hid (kindsP (.ins op) = (if (usesOf (formOf op)).a then [regK] else []) ++ (if (usesOf (formOf op)).b then [regK] else []) ++ (if (usesOf (formOf op)).c then [regK] else []) ++ (if (usesOf (formOf op)).imm then [immK (usesOf (formOf op)).lo (usesOf (formOf op)).hi (decide (48 ≤ op) && decide (op ≤ 54))] else [])) := Lib.hid rfl
    have HFn : Hid (∀ W b5 b6, Blk W b5 3 #[.int .i64 op] → Blk W b6 83 #[.bool (usesOf (formOf op)).a, .bool (usesOf (formOf op)).b, .bool (usesOf (formOf op)).c, .bool (usesOf (formOf op)).imm, .bool (usesOf (formOf op)).signed] → FnFor W (.func (.func 119) #[] #[.pointer (some ⟨b5, 0, none⟩), .pointer (some ⟨b6, 0, none⟩)]) (.ins op)) := Lib.hid fun W b5 b6 h5 h6 =>
      ⟨b5, b6, rfl, h5, h6⟩
    clear HG hb4 hb02 hO2 hR2 hz2
    generalize usesOf (formOf op) = u at HK HFn ⊢
    obtain ⟨ua, ub, uc, ui, us⟩ := u
    obtain ⟨i0, hi, hz0, hz1', hz2'⟩ := info_parts kindinfo
    have hO4 := (hO3.alloc (.cells #[.bool ua, .bool ub, .bool uc, .bool ui, .bool us] 83)).alloc (.cells #[.bool ua, .bool ub, .bool uc] 4)
    have hR4 := (hR3.alloc (.cells #[.bool ua, .bool ub, .bool uc, .bool ui, .bool us] 83)).alloc (.cells #[.bool ua, .bool ub, .bool uc] 4)
    have hU4 := (Blk.new w3 83 #[.bool ua, .bool ub, .bool uc, .bool ui, .bool us]).alloc (.cells #[.bool ua, .bool ub, .bool uc] 4)
    have hA4 : Blk ((w3.alloc (.cells #[.bool ua, .bool ub, .bool uc, .bool ui, .bool us] 83)).alloc (.cells #[.bool ua, .bool ub, .bool uc] 4)) (w3.heap.size + 1) 4 #[.bool ua, .bool ub, .bool uc] := by
      have := Blk.new (w3.alloc (.cells #[.bool ua, .bool ub, .bool uc, .bool ui, .bool us] 83)) 4 #[.bool ua, .bool ub, .bool uc]
      have e : (w3.alloc (.cells #[.bool ua, .bool ub, .bool uc, .bool ui, .bool us] 83)).heap.size = w3.heap.size + 1 := by simp
      rw [e] at this
      exact this
    have hb04 : Below w.heap.size w ((w3.alloc (.cells #[.bool ua, .bool ub, .bool uc, .bool ui, .bool us] 83)).alloc (.cells #[.bool ua, .bool ub, .bool uc] 4)) := (hb03.alloc hb03.size _).alloc (by have := hb03.size; simp; omega) _
    have hws : w.heap.size ≤ w3.heap.size := hb03.size
    clear hO3 hR3 hb03
    go_wp2
    go_loopw [7, 50] (fun s7 s50 wr => ∃ (k : Nat) (A : Option Addr) (n c : Nat), k ≤ 3 ∧ s50 = .int .i64 k ∧ s7 = .slice A n c ∧ Blk wr w1.heap.size 3 #[.int .i64 op] ∧ Blk wr w.heap.size 182 regK.enc.toArray ∧
        Blk wr w3.heap.size 83 #[.bool ua, .bool ub, .bool uc, .bool ui, .bool us] ∧ Blk wr (w3.heap.size + 1) 4 #[.bool ua, .bool ub, .bool uc] ∧
        wr.ownsRow (w3.heap.size + 2) 182 6 (.slice A n c) (regsOf [ua, ub, uc] k).length (kencs (regsOf [ua, ub, uc] k)) ∧ Below w.heap.size w wr) (fun _ i _ => 3 - (intOf i).toNat)
    case atStart => exact ⟨0, none, 0, 0, by omega, rfl, rfl, hO4, hR4, hU4, hA4, own_nil _ _ _ _, hb04⟩
    case round =>
      obtain ⟨k, A, n, c, hk, rfl, rfl, hO, hR, hU, hA, hown, hb⟩ := hrel
      have hsz := hA.lt
      by_cases hlt : k < 3
      · obtain ⟨x, hl⟩ : ∃ x, [ua, ub, uc][k]? = some x := ⟨_, List.getElem?_eq_getElem (by simpa using hlt)⟩
        have hx : wr.cell? ⟨w3.heap.size + 1, k, none⟩ = some (.bool x) := by
          rw [hA.cell k]
          have hk3 : k = 0 ∨ k = 1 ∨ k = 2 := by omega
          rcases hk3 with rfl | rfl | rfl <;> (simp at hl; simp [hl])
        have HS2 := Lib.hid (regs_step [ua, ub, uc] k x hl)
        have hle : (regsOf [ua, ub, uc] k).length ≤ 3 := by
          unfold regsOf
          rw [List.length_map]
          have h1 := (List.filter_sublist (l := ([ua, ub, uc].take k)) (p := id)).length_le
          rw [List.length_take] at h1
          simp at h1 ⊢
          omega
        generalize regsOf [ua, ub, uc] k = cur at hown HS2 hle
        clear hl hO4 hR4 hU4 hA4 hb04
        cases x with
        | false =>
          have HS3 : Hid (regsOf [ua, ub, uc] (k + 1) = cur) := Lib.hid (HS2.out.trans (by simp))
          go_wp2
          go_roundw
          case rel => exact ⟨k + 1, A, n, c, by omega, by go_num, rfl, hO, hR, hU, hA, by rw [HS3.out]; exact hown, hb⟩
          case measure => simp [intOf]; omega
        | true =>
          have HS3 : Hid (regsOf [ua, ub, uc] (k + 1) = cur ++ [regK]) := Lib.hid (HS2.out.trans (by simp))
          have r0 : wr.cell? ⟨w.heap.size, 0, none⟩ = some (.bool true) := hR.cell 0
          have r1 : wr.cell? ⟨w.heap.size, 1, none⟩ = some (.bool false) := hR.cell 1
          have r2 : wr.cell? ⟨w.heap.size, 2, none⟩ = some (.int .i64 0) := hR.cell 2
          have r3 : wr.cell? ⟨w.heap.size, 3, none⟩ = some (.int .i64 0) := hR.cell 3
          have r4 : wr.cell? ⟨w.heap.size, 4, none⟩ = some (.bool false) := hR.cell 4
          have r5 : wr.cell? ⟨w.heap.size, 5, none⟩ = some (.bool false) := hR.cell 5
          go_wp2_with (at_builtin; refine wpList_append_own _ rfl (.tmp 55) (.tmp 57) _ rfl (w3.heap.size + 2) 182 i0 _ 6 32 Tryz.underlying146 hi hz0 hz1' hz2' rfl (by decide) (.slice A n c) cur.length (kencs cur) rfl (hown.alloc _) ⟨wr.heap.size, 0, none⟩ 1 1 regK.enc rfl rfl ?c1 ?c2 ?c3 ?c4 ?c5 ?_)
          case c1 => first | exact fun j u hu => new_cells wr regK.enc.toArray _ j u hu | exact fun j u hu => hu
          case c2 => intro u hu; simp only [regK, Kind.enc, List.mem_cons, List.not_mem_nil, or_false] at hu; rcases hu with rfl | rfl | rfl | rfl | rfl | rfl <;> rfl
          case c3 => unfold maxLen; omega
          case c4 => omega
          case c5 => first | omega | (simp; omega)
          intro v2 w2' hown2 hg2 _
          have hv2 : ∃ A n c, v2 = .slice A n c := by
            rcases hown2.2 with ⟨h, _⟩ | ⟨g, cap, cur, h, _⟩
            · exact ⟨_, _, _, h⟩
            · exact ⟨_, _, _, h⟩
          obtain ⟨A2, n2, c2, hv2⟩ := hv2
          rw [hv2]
          rw [hv2] at hown2
          have hOx := (hO.alloc _).grown hg2 (own_apart hown hO (by decide))
          have hRx := (hR.alloc _).grown hg2 (own_apart_base hown (by omega))
          have hUx := (hU.alloc _).grown hg2 (own_apart hown hU (by decide))
          have hAx := (hA.alloc _).grown hg2 (own_apart hown hA (by decide))
          have hbx : Below w.heap.size w w2' := (hb.alloc (by omega) _).grown hg2 (by simp; omega) (fun k hk => by have := own_from hown k hk; omega)
          clear hx r0 r1 r2 r3 r4 r5 hv2
          go_wp2
          go_roundw
          case rel =>
            refine ⟨k + 1, A2, n2, c2, by omega, by go_num, rfl, hOx, hRx, hUx, hAx, ?_, hbx⟩
            rw [HS3.out, kencs_append, List.length_append]
            simpa [kencs] using hown2
          case measure => simp [intOf]; omega
      · have hk3 : k = 3 := by omega
        subst hk3
        have hregs : regsOf [ua, ub, uc] 3 = (if ua then [regK] else []) ++ (if ub then [regK] else []) ++ (if uc then [regK] else []) := by cases ua <;> cases ub <;> cases uc <;> rfl
        have hle : (regsOf [ua, ub, uc] 3).length ≤ 3 := by rw [hregs]; cases ua <;> cases ub <;> cases uc <;> decide
        have hmf : ∀ (fn : Fn) (first cap : Array Value) (w : World), (Instr.makeFunc fn first cap).run Tryz.prog w = .ok (.func fn first cap) w := fun _ _ _ _ => rfl
        have hop : wr.cell? ⟨w1.heap.size, 0, none⟩ = some (.int .i64 op) := hO.cell 0
        have u3 : wr.cell? ⟨w3.heap.size, 3, none⟩ = some (.bool ui) := hU.cell 3
        cases ui with
        | false =>
          have HK3 : Hid (kindsP (.ins op) = regsOf [ua, ub, uc] 3) := Lib.hid (HK.out.trans (by rw [hregs]; simp))
          have HFn2 := Lib.hid (HFn.out wr w1.heap.size w3.heap.size hO hU)
          have hlen : (regsOf [ua, ub, uc] 3).length = n := by
            rcases hown.2 with ⟨h1, h2⟩ | ⟨g, cap, cur, h1, _⟩
            · injection h1 with _ h3 _; omega
            · injection h1 with _ h3 _; omega
          clear hregs hO4 hR4 hU4 hA4 hb04 HFn HK
          go_wp2
          go_ret2
          rw [HQ.out]
          exact ⟨.slice A n c, _, rfl, by rw [HK3.out]; exact KindsV.of_own hown, HFn2.out, hb⟩
        | true =>
          have u0 : wr.cell? ⟨w3.heap.size, 0, none⟩ = some (.bool ua) := hU.cell 0
          have u1 : wr.cell? ⟨w3.heap.size, 1, none⟩ = some (.bool ub) := hU.cell 1
          have u2 : wr.cell? ⟨w3.heap.size, 2, none⟩ = some (.bool uc) := hU.cell 2
          have u4 : wr.cell? ⟨w3.heap.size, 4, none⟩ = some (.bool us) := hU.cell 4
          have HBd := Lib.hid (bounds_any ua ub uc true us wr)
          have HK3 : Hid (kindsP (.ins op) = regsOf [ua, ub, uc] 3 ++ [immK (Uses.lo ⟨ua, ub, uc, true, us⟩) (Uses.hi ⟨ua, ub, uc, true, us⟩) (decide (48 ≤ op) && decide (op ≤ 54))]) := Lib.hid (HK.out.trans (by rw [hregs]; simp))
          generalize Uses.lo ⟨ua, ub, uc, true, us⟩ = lo at HBd HK3
          generalize Uses.hi ⟨ua, ub, uc, true, us⟩ = hh at HBd HK3
          generalize regsOf [ua, ub, uc] 3 = cur at hown HK3 hle
          clear hregs hO4 hR4 hU4 hA4 hb04 HK hR hA
          go_wp2_with fail
          refine HBd.out.mono ?_
          rintro e w5 ⟨rfl, hb5⟩
          have hop5 : w5.cell? ⟨w1.heap.size, 0, none⟩ = some (.int .i64 op) := cell_below hop hb5
          have hO5 := hO.below hb5 hO.lt
          have hU5 := hU.below hb5 hU.lt
          have hown5 := own_below hown hb5
          have hb05 : Below w.heap.size w w5 := hb.trans (hb5.mono hb.size)
          have hsz5 : w3.heap.size + 1 < w5.heap.size := Nat.lt_of_lt_of_le hsz hb5.size
          clear HBd hop u0 u1 u2 u3 u4 hO hU hown hb hb5 hsz
          by_cases j1 : 48 ≤ op
          · by_cases j2 : op ≤ 54
            · have hj : (decide (48 ≤ op) && decide (op ≤ 54)) = true := by simp [j1, j2]
              rw [hj] at HK3
              clear hj
              go_wp2_with (at_builtin; refine wpList_append_own _ rfl (.tmp 73) (.tmp 79) _ rfl (w3.heap.size + 2) 182 i0 _ 6 32 Tryz.underlying146 hi hz0 hz1' hz2' rfl (by decide) (.slice A n c) cur.length (kencs cur) rfl (hown5.alloc _) ⟨w5.heap.size, 0, none⟩ 1 1 (immK lo hh true).enc rfl rfl ?c1 ?c2 ?c3 ?c4 ?c5 ?_)
              case c1 => first | exact fun j u hu => new_cells w5 (immK lo hh true).enc.toArray _ j u hu | exact fun j u hu => hu
              case c2 => intro u hu; simp only [immK, Kind.enc, List.mem_cons, List.not_mem_nil, or_false] at hu; rcases hu with rfl | rfl | rfl | rfl | rfl | rfl <;> rfl
              case c3 => unfold maxLen; omega
              case c4 => omega
              case c5 => first | omega | (simp; omega)
              intro v2 w6 hown6 hg6 _
              have hO6 := (hO5.alloc _).grown hg6 (own_apart hown5 hO5 (by decide))
              have hU6 := (hU5.alloc _).grown hg6 (own_apart hown5 hU5 (by decide))
              have HFn2 := Lib.hid (HFn.out w6 w1.heap.size w3.heap.size hO6 hU6)
              have hb06 : Below w.heap.size w w6 := (hb05.alloc (by omega) _).grown hg6 (by simp; omega) (fun k hk => by have := own_from hown5 k hk; omega)
              have hown7 : w6.ownsRow (w3.heap.size + 2) 182 6 v2 (kindsP (.ins op)).length (kencs (kindsP (.ins op))) := by
                rw [HK3.out, kencs_append, List.length_append]
                simpa [kencs] using hown6
              have HV := Lib.hid (KindsV.of_own hown7)
              have hv2 : ∃ A n c, v2 = .slice A n c := by
                rcases hown7.2 with ⟨h, _⟩ | ⟨g, cap, cur, h, _⟩
                · exact ⟨_, _, _, h⟩
                · exact ⟨_, _, _, h⟩
              obtain ⟨A2, n2, c2, hv2⟩ := hv2
              rw [hv2]
              rw [hv2] at HV
              clear hop5 hO5 hU5 hown5 hown6 hown7 hg6 hv2
              go_wp2
              go_ret2
              rw [HQ.out]
              exact ⟨_, _, rfl, HV.out, HFn2.out, hb06⟩
            · have hj : (decide (48 ≤ op) && decide (op ≤ 54)) = false := by simp [j2]
              rw [hj] at HK3
              have hj2 : decide (op ≤ 54) = false := by simp [j2]
              clear hj
              go_wp2_with (at_builtin; refine wpList_append_own _ rfl (.tmp 73) (.tmp 79) _ rfl (w3.heap.size + 2) 182 i0 _ 6 32 Tryz.underlying146 hi hz0 hz1' hz2' rfl (by decide) (.slice A n c) cur.length (kencs cur) rfl (hown5.alloc _) ⟨w5.heap.size, 0, none⟩ 1 1 (immK lo hh false).enc rfl rfl ?c1 ?c2 ?c3 ?c4 ?c5 ?_)
              case c1 => first | exact fun j u hu => new_cells w5 (immK lo hh false).enc.toArray _ j u hu | exact fun j u hu => hu
              case c2 => intro u hu; simp only [immK, Kind.enc, List.mem_cons, List.not_mem_nil, or_false] at hu; rcases hu with rfl | rfl | rfl | rfl | rfl | rfl <;> rfl
              case c3 => unfold maxLen; omega
              case c4 => omega
              case c5 => first | omega | (simp; omega)
              intro v2 w6 hown6 hg6 _
              have hO6 := (hO5.alloc _).grown hg6 (own_apart hown5 hO5 (by decide))
              have hU6 := (hU5.alloc _).grown hg6 (own_apart hown5 hU5 (by decide))
              have HFn2 := Lib.hid (HFn.out w6 w1.heap.size w3.heap.size hO6 hU6)
              have hb06 : Below w.heap.size w w6 := (hb05.alloc (by omega) _).grown hg6 (by simp; omega) (fun k hk => by have := own_from hown5 k hk; omega)
              have hown7 : w6.ownsRow (w3.heap.size + 2) 182 6 v2 (kindsP (.ins op)).length (kencs (kindsP (.ins op))) := by
                rw [HK3.out, kencs_append, List.length_append]
                simpa [kencs] using hown6
              have HV := Lib.hid (KindsV.of_own hown7)
              have hv2 : ∃ A n c, v2 = .slice A n c := by
                rcases hown7.2 with ⟨h, _⟩ | ⟨g, cap, cur, h, _⟩
                · exact ⟨_, _, _, h⟩
                · exact ⟨_, _, _, h⟩
              obtain ⟨A2, n2, c2, hv2⟩ := hv2
              rw [hv2]
              rw [hv2] at HV
              clear hop5 hO5 hU5 hown5 hown6 hown7 hg6 hv2
              go_wp2
              go_ret2
              rw [HQ.out]
              exact ⟨_, _, rfl, HV.out, HFn2.out, hb06⟩
          · have hj : (decide (48 ≤ op) && decide (op ≤ 54)) = false := by simp [j1]
            rw [hj] at HK3
            have hj1 : decide (48 ≤ op) = false := by simp [j1]
            have j1' : op < 48 := by omega
            clear hj
            go_wp2_with (at_builtin; refine wpList_append_own _ rfl (.tmp 73) (.tmp 79) _ rfl (w3.heap.size + 2) 182 i0 _ 6 32 Tryz.underlying146 hi hz0 hz1' hz2' rfl (by decide) (.slice A n c) cur.length (kencs cur) rfl (hown5.alloc _) ⟨w5.heap.size, 0, none⟩ 1 1 (immK lo hh false).enc rfl rfl ?c1 ?c2 ?c3 ?c4 ?c5 ?_)
            case c1 => first | exact fun j u hu => new_cells w5 (immK lo hh false).enc.toArray _ j u hu | exact fun j u hu => hu
            case c2 => intro u hu; simp only [immK, Kind.enc, List.mem_cons, List.not_mem_nil, or_false] at hu; rcases hu with rfl | rfl | rfl | rfl | rfl | rfl <;> rfl
            case c3 => unfold maxLen; omega
            case c4 => omega
            case c5 => first | omega | (simp; omega)
            intro v2 w6 hown6 hg6 _
            have hO6 := (hO5.alloc _).grown hg6 (own_apart hown5 hO5 (by decide))
            have hU6 := (hU5.alloc _).grown hg6 (own_apart hown5 hU5 (by decide))
            have HFn2 := Lib.hid (HFn.out w6 w1.heap.size w3.heap.size hO6 hU6)
            have hb06 : Below w.heap.size w w6 := (hb05.alloc (by omega) _).grown hg6 (by simp; omega) (fun k hk => by have := own_from hown5 k hk; omega)
            have hown7 : w6.ownsRow (w3.heap.size + 2) 182 6 v2 (kindsP (.ins op)).length (kencs (kindsP (.ins op))) := by
              rw [HK3.out, kencs_append, List.length_append]
              simpa [kencs] using hown6
            have HV := Lib.hid (KindsV.of_own hown7)
            have hv2 : ∃ A n c, v2 = .slice A n c := by
              rcases hown7.2 with ⟨h, _⟩ | ⟨g, cap, cur, h, _⟩
              · exact ⟨_, _, _, h⟩
              · exact ⟨_, _, _, h⟩
            obtain ⟨A2, n2, c2, hv2⟩ := hv2
            rw [hv2]
            rw [hv2] at HV
            clear hop5 hO5 hU5 hown5 hown6 hown7 hg6 hv2
            go_wp2
            go_ret2
            rw [HQ.out]
            exact ⟨_, _, rfl, HV.out, HFn2.out, hb06⟩

theorem statement_any (s : ByteArray) (er : Nat → Addr) (w : World) (E : Env er w) :
    Calls Tryz.prog 87 #[.string s] w fun e w' => StmOut w e w' (stmP s.data.toList) := by
  by_cases h : s.data.toList = wNop ∨ s.data.toList = wLi ∨ s.data.toList = wLa ∨ s.data.toList = wWord ∨ s.data.toList = wSpace
  · exact stm_words s w h
  · simp only [not_or] at h
    exact stm_ins s er w E h.1 h.2.1 h.2.2.1 h.2.2.2.1 h.2.2.2.2
end Go.Proofs.YtecmeegnjjhilaaGreatDoor
