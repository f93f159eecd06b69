/- (isa.uses).fields: the fields of an instruction, as texts. -/
import Derived.Test.YtecmeegnjjhilaaGreatDoorFields
import Derived.Test.YtecmeegnjjhilaaGreatDoorShelf2
import Derived.Deep.AppendLies
import Derived.Deep.RegionHeld3
import Derived.Deep.RegionLaw
import Derived.Lib.ItoaLen
import Derived.Lib.AppendIntMem
import Derived.Test.YtecmeegnjjhilaaGreatDoorRefCM
import Derived.Lib.SmallJoins
namespace Go.Proofs.YtecmeegnjjhilaaGreatDoor
open Go.RowKit
open Go.Maps
theorem strinfo : (Tryz.prog.info? 9).map (fun i => (i.zero, i.size, i.bytes)) = some (some (.string ByteArray.empty), 1, 16) := by kernel_rfl
def regT (n : Int) : List UInt8 := 114 :: Lib.decDigits n.toNat
def strs (ls : List (List UInt8)) : List Value := ls.map fun l => .string ⟨l.toArray⟩

theorem dec_short (n : Nat) (h : n ≤ 15) : (Lib.decDigits n).length ≤ 1000 := by
  by_cases h1 : n < 10
  · rw [Lib.decDigits_one h1]; simp
  · rw [Lib.decDigits_two h1 (by omega)]; simp
theorem strs_snoc (rs : List (List UInt8)) (l : List UInt8) : strs (rs ++ [l]) = strs rs ++ [.string ⟨l.toArray⟩] := by simp [strs]
theorem app1 (dg : List UInt8) : ((⟨#[114]⟩ : ByteArray) ++ (⟨dg.toArray⟩ : ByteArray)) = ⟨(114 :: dg).toArray⟩ := by
  refine bytes_eq ?_
  rw [Joins.data_append]
  rfl
set_option maxHeartbeats 1000000 in
set_option maxRecDepth 100000 in
theorem reg_any (B : Nat) (n : Nat) (hn : n ≤ 15) (used : Bool) (rs : List (List UInt8)) (v : Value) (w : World) (hrs : rs.length ≤ 100)
    (hB : Blk w B 54 #[v]) (hown : w.ownsRow (B + 1) 9 1 v rs.length (strs rs)) :
    Calls Tryz.prog 78 #[.int .i64 n, .bool used, .pointer (some ⟨B, 0, none⟩)] w fun e w' => e = .returned (.tuple #[]) ∧
      ∃ v', Blk w' B 54 #[v'] ∧ w'.ownsRow (B + 1) 9 1 v' (rs ++ if used then [regT n] else []).length (strs (rs ++ if used then [regT n] else [])) ∧ Below B w w' ∧ w.heap.size ≤ w'.heap.size := by
  cases used with
  | false =>
    go_enter Tryz.func78, Tryz.ntmps78
    go_wp2
    go_end0
    exact ⟨rfl, v, hB, by simpa using hown, Below.refl _ _, Nat.le_refl _⟩
  | true =>
    obtain ⟨i0, hi, hz0, hz1, hz2⟩ := info_parts strinfo
    have HI := Lib.hid (fun W => Tryz.strconv_Itoa_small n (by omega) W)
    have c0 : w.cell? ⟨B, 0, none⟩ = some v := hB.cell 0
    have hlt := hB.lt
    have nB : some B ≠ v.ownBlock := own_apart_base hown (by omega)
    go_enter Tryz.func78, Tryz.ntmps78
    generalize hd : Lib.decDigits n = dg at HI
    have HR : Hid (regT n = 114 :: dg) := Lib.hid (by unfold regT; rw [← hd]; rfl)
    have hdl : dg.length ≤ 1000 := by
      rw [← hd]
      exact dec_short n hn
    clear hd
    have hcat : ¬ 9223372036854775807 < 1 + dg.length := by omega
    go_wp2_with fail
    go_region_law ((first | (go_simp; go_at_call 74; refine (HI.out _).mono ?_; rintro e w' ⟨rfl, rfl⟩) | (refine step_append_lies _ (by rfl) _ _ _ (by rfl) (B + 1) 9 i0 _ 1 16 Tryz.underlying54 hi hz0 hz1 hz2 rfl (by omega) v rs.length (strs rs) (by rfl) ((hown.alloc _).drew) ⟨w.heap.size, 0, none⟩ 1 1 [.string ((⟨#[114]⟩ : ByteArray) ++ (⟨dg.toArray⟩ : ByteArray))] (by rfl) (by rfl) (World.news_of_block (cs := #[.string ((⟨#[114]⟩ : ByteArray) ++ (⟨dg.toArray⟩ : ByteArray))]) (t := 9) (fr := (0, 0)) (heap_alloc_new w _)) (by simp [Value.oneCell']) (by omega) (by unfold maxLen; omega) (by omega) (by simp; omega) (w.heap.size + 1) (by simp) ?_; intro gg cap w4 hown4 hgrow hat hlt4; have hs4 : w4.frozen? ⟨B, 0, none⟩ = false := (hgrow.frozen_far ⟨B, 0, none⟩ (by simp; omega) nB).trans ((hB.alloc _).frozen 0); have hc4 : w4.cell? ⟨B, 0, none⟩ = some v := (hgrow.cell_far ⟨B, 0, none⟩ (by simp; omega) nB).trans ((hB.alloc _).cell 0))))
    all_goals
      have hB4 : Blk w4 B 54 #[v] := ((hB.alloc (.cells #[Value.string ((⟨#[114]⟩ : ByteArray) ++ (⟨dg.toArray⟩ : ByteArray))] 9)).drewN 1).grown hgrow nB
      have hsz : w.heap.size ≤ w4.heap.size := by have := hgrow.size; simp at this; omega
      have hb4 : Below B w w4 := (below_drewN ((Below.refl B w).alloc (by omega) (.cells #[Value.string ((⟨#[114]⟩ : ByteArray) ++ (⟨dg.toArray⟩ : ByteArray))] 9)) 1).grown hgrow (by simp; omega) (fun k hk => by have := own_from hown k hk; omega)
      go_end0
      refine ⟨rfl, _, hB4.store 0 _, ?_, hb4.setCell (by simp) _, by simp only [World.size_setCell]; exact hsz⟩
      rw [if_pos trivial, HR.out, List.length_append, strs_snoc, ← app1]
      exact ownsRow_setCell_below hown4 (by simp) _
def fieldsT (i : Ins) : List (List UInt8) :=
  let u := usesOf (formOf i.op)
  (((if u.a then [regT i.a] else []) ++ (if u.b then [regT i.b] else [])) ++ (if u.c then [regT i.c] else [])) ++ (if u.imm then [Lib.itoa i.imm] else [])

set_option maxHeartbeats 2000000 in
set_option maxRecDepth 100000 in
theorem fields_any (i : Ins) (hc : checkC i = 0) (er : Nat → Addr) (w : World) (E : Env er w) :
    Calls Tryz.prog 54 #[.agg #[.bool (usesOf (formOf i.op)).a, .bool (usesOf (formOf i.op)).b, .bool (usesOf (formOf i.op)).c, .bool (usesOf (formOf i.op)).imm, .bool (usesOf (formOf i.op)).signed], i.val] w
      fun e w' => ∃ v, e = .returned v ∧ w'.ownsRow (w.heap.size + 3) 9 1 v (fieldsT i).length (strs (fieldsT i)) ∧ Below w.heap.size w w' := by
  have hmf : ∀ (fn : Fn) (first cap : Array Value) (w : World), (Instr.makeFunc fn first cap).run Tryz.prog w = .ok (.func fn first cap) w := fun _ _ _ _ => rfl
  obtain ⟨i0, hi, hz0, hz1, hz2⟩ := info_parts strinfo
  obtain ⟨_, _, a0, a1, b0, b1, c0, c1, m0, m1⟩ := check_ok i hc
  have HT : Hid (fieldsT i = (((if (usesOf (formOf i.op)).a then [regT i.a] else []) ++ (if (usesOf (formOf i.op)).b then [regT i.b] else [])) ++ (if (usesOf (formOf i.op)).c then [regT i.c] else [])) ++ (if (usesOf (formOf i.op)).imm then [Lib.itoa i.imm] else [])) := Lib.hid rfl
  generalize fieldsT i = F at HT ⊢
  generalize usesOf (formOf i.op) = u at HT ⊢
  obtain ⟨ua, ub, uc, ui, us⟩ := u
  obtain ⟨op, a, b, c, imm⟩ := i
  simp only at HT a0 a1 b0 b1 c0 c1 m0 m1
  unfold Ins.val
  simp only
  obtain ⟨a, rfl⟩ := Int.eq_ofNat_of_zero_le a0
  obtain ⟨b, rfl⟩ := Int.eq_ofNat_of_zero_le b0
  obtain ⟨c, rfl⟩ := Int.eq_ofNat_of_zero_le c0
  have HE := Lib.hid E
  have hU := Blk.new w 83 #[.bool ua, .bool ub, .bool uc, .bool ui, .bool us]
  have hI := Blk.new (w.alloc (.cells #[.bool ua, .bool ub, .bool uc, .bool ui, .bool us] 83)) 27 #[.int .i64 op, .int .i64 a, .int .i64 b, .int .i64 c, .int .i64 imm]
  have hS := Blk.new ((w.alloc (.cells #[.bool ua, .bool ub, .bool uc, .bool ui, .bool us] 83)).alloc (.cells #[.int .i64 op, .int .i64 a, .int .i64 b, .int .i64 c, .int .i64 imm] 27)) 54 #[.slice none 0 0]
  have hU1 := (hU.alloc (.cells #[.int .i64 op, .int .i64 a, .int .i64 b, .int .i64 c, .int .i64 imm] 27)).alloc (.cells #[.slice none 0 0] 54)
  have hI1 := hI.alloc (.cells #[.slice none 0 0] 54)
  simp only [World.size_alloc] at hS hI1
  have hb1 : Below w.heap.size w (((w.alloc (.cells #[.bool ua, .bool ub, .bool uc, .bool ui, .bool us] 83)).alloc (.cells #[.int .i64 op, .int .i64 a, .int .i64 b, .int .i64 c, .int .i64 imm] 27)).alloc (.cells #[.slice none 0 0] 54)) := (((Below.refl _ _).alloc (Nat.le_refl _) _).alloc (by simp) _).alloc (by simp; omega) _
  go_enter Tryz.func54, Tryz.ntmps54
  go_wp2_with fail
  have hz1' : (((w.alloc (.cells #[.bool ua, .bool ub, .bool uc, .bool ui, .bool us] 83)).alloc (.cells #[.int .i64 op, .int .i64 a, .int .i64 b, .int .i64 c, .int .i64 imm] 27)).alloc (.cells #[.slice none 0 0] 54)).heap.size = w.heap.size + 3 := by simp
  generalize (((w.alloc (.cells #[.bool ua, .bool ub, .bool uc, .bool ui, .bool us] 83)).alloc (.cells #[.int .i64 op, .int .i64 a, .int .i64 b, .int .i64 c, .int .i64 imm] 27)).alloc (.cells #[.slice none 0 0] 54)) = w3 at hU1 hI1 hS hb1 hz1' ⊢
  clear hU hI
  refine (reg_any (w.heap.size + 1 + 1) a (by omega) ua [] (.slice none 0 0) w3 (by simp) hS (own_nil _ _ _ _)).mono ?_
  rintro e w4 ⟨rfl, v1, hB1, ho1, hb4, hz4⟩
  obtain ⟨l1, hl1⟩ : ∃ l, (([] : List (List UInt8)) ++ if ua = true then [regT (a : Int)] else []) = l := ⟨_, rfl⟩
  rw [hl1] at ho1
  have hn1 : l1.length ≤ 1 := by rw [← hl1]; split <;> simp
  have hL1 : Hid ((if ua = true then [regT (a : Int)] else []) = l1) := Lib.hid (by rw [← hl1, List.nil_append])
  have hU4 := hU1.below hb4 (by omega)
  have hI4 := hI1.below hb4 (by omega)
  have hb04 : Below w.heap.size w w4 := hb1.trans (hb4.mono (by omega))
  have j1 : w4.cell? ⟨w.heap.size + 1, 2, none⟩ = some (.int .i64 b) := hI4.cell 2
  have j2 : w4.cell? ⟨w.heap.size, 1, none⟩ = some (.bool ub) := hU4.cell 1
  clear hb1 hS hU1 hI1 hb4 hl1
  go_wp2_with fail
  refine (reg_any (w.heap.size + 1 + 1) b (by omega) ub l1 v1 w4 (by omega) hB1 ho1).mono ?_
  rintro e w5 ⟨rfl, v2, hB2, ho2, hb5, hz5⟩
  obtain ⟨l2, hl2⟩ : ∃ l, (l1 ++ if ub = true then [regT (b : Int)] else []) = l := ⟨_, rfl⟩
  rw [hl2] at ho2
  have hn2 : l2.length ≤ 2 := by rw [← hl2, List.length_append]; split <;> simp <;> omega
  have hL2 := Lib.hid hl2
  have hU5 := hU4.below hb5 (by omega)
  have hI5 := hI4.below hb5 (by omega)
  have hb05 : Below w.heap.size w w5 := hb04.trans (hb5.mono (by omega))
  have j3 : w5.cell? ⟨w.heap.size + 1, 3, none⟩ = some (.int .i64 c) := hI5.cell 3
  have j4 : w5.cell? ⟨w.heap.size, 2, none⟩ = some (.bool uc) := hU5.cell 2
  clear hb04 hU4 hI4 hb5 hl2 hB1 ho1 j1 j2
  go_wp2_with fail
  refine (reg_any (w.heap.size + 1 + 1) c (by omega) uc l2 v2 w5 (by omega) hB2 ho2).mono ?_
  rintro e w6 ⟨rfl, v3, hB3, ho3, hb6, hz6⟩
  obtain ⟨l3, hl3⟩ : ∃ l, (l2 ++ if uc = true then [regT (c : Int)] else []) = l := ⟨_, rfl⟩
  rw [hl3] at ho3
  have hn3 : l3.length ≤ 3 := by rw [← hl3, List.length_append]; split <;> simp <;> omega
  have hL3 := Lib.hid hl3
  have hU6 := hU5.below hb6 (by omega)
  have hI6 := hI5.below hb6 (by omega)
  have hb06 : Below w.heap.size w w6 := hb05.trans (hb6.mono (by omega))
  have j5 : w6.cell? ⟨w.heap.size, 3, none⟩ = some (.bool ui) := hU6.cell 3
  have j6 : w6.cell? ⟨w.heap.size + 1, 4, none⟩ = some (.int .i64 imm) := hI6.cell 4
  have j7 : w6.cell? ⟨w.heap.size + 1 + 1, 0, none⟩ = some v3 := hB3.cell 0
  have hlt6 := hB3.lt
  have HF : Hid (F = l3 ++ if ui = true then [Lib.itoa imm] else []) := Lib.hid (by rw [HT.out, hL1.out, hL2.out, hL3.out])
  clear hb05 hU5 hI5 hb6 hl3 hB2 ho2 j3 j4 HT hL1 hL2 hL3 hU6
  cases ui with
  | false =>
    obtain rfl : F = l3 := by rw [HF.out]; simp
    go_wp2_with fail
    go_ret
    exact ⟨v3, rfl, ho3, hb06⟩
  | true =>
    have HF2 : Hid (F = l3 ++ [Lib.itoa imm]) := Lib.hid (by rw [HF.out, if_pos rfl])
    have HI := Lib.hid (fun W (hW : Lib.TabIs Tryz.prog W "internal/strconv.uint64pow10" .u64 Lib.pow10Tab) => (Tryz.strconv_Itoa imm (by omega) (by omega) W hW).mono (fun e w' (h : e = .returned (.string ⟨(Lib.itoa imm).toArray⟩) ∧ _) => (⟨h.1, by obtain ⟨k, os, hw⟩ := h.2; rw [hw]; exact Lib.below_grow _ _ (Nat.le_refl _) _ _⟩ : e = .returned (.string ⟨(Lib.itoa imm).toArray⟩) ∧ Below W.heap.size W w')))
    have hil := Lib.itoa_length_le imm (by omega) (by omega)
    have nB : some (w.heap.size + 1 + 1) ≠ v3.ownBlock := own_apart_base ho3 (by omega)
    have hp6 := (HE.out.below hb06).pow
    generalize Lib.itoa imm = dg at HF2 HI hil
    clear HF
    have hI6b := hI6
    have hbw : Below w6.heap.size w6 w6.drew := below_drewN (Below.refl _ w6) 1
    go_wp2_with fail
    go_region_law ((first | (go_simp; go_at_call 74; refine (HI.out _ (tab_below hp6 hbw)).mono ?_; rintro e w7 ⟨rfl, hb7⟩; have k1 := cell_below (w := w6.drew) j6 hb7; have k2 := cell_below (w := w6.drew) j7 hb7; have hB7 := Blk.below (w := w6.drew) hB3 hb7 hlt6; have ho7 := own_below (w := w6.drew) ho3 hb7; have hz7 : w6.heap.size ≤ w7.heap.size := hb7.size; have hlt7 : w.heap.size + 1 + 1 < w7.heap.size := hB7.lt; have hlt7b : w.heap.size + 1 < w7.heap.size := Nat.lt_of_succ_lt hB7.lt) | (refine step_append_lies _ (by rfl) _ _ _ (by rfl) (w.heap.size + 3) 9 i0 _ 1 16 Tryz.underlying54 hi hz0 hz1 hz2 rfl (by omega) v3 l3.length (strs l3) (by rfl) (ho7.alloc _) ⟨w7.heap.size, 0, none⟩ 1 1 [.string (⟨dg.toArray⟩ : ByteArray)] (by rfl) (by rfl) (World.news_of_block (cs := #[.string (⟨dg.toArray⟩ : ByteArray)]) (t := 9) (fr := (0, 0)) (heap_alloc_new w7 _)) (by simp [Value.oneCell']) (by omega) (by unfold maxLen; omega) (by omega) (by simp; omega) (w7.heap.size + 1) (by simp) ?_; intro gg cap w8 hown8 hgrow hat hlt8; have hs8 : w8.frozen? ⟨w.heap.size + 1 + 1, 0, none⟩ = false := (hgrow.frozen_far ⟨w.heap.size + 1 + 1, 0, none⟩ (by simp; omega) nB).trans ((hB7.alloc _).frozen 0); have hc8 : w8.cell? ⟨w.heap.size + 1 + 1, 0, none⟩ = some v3 := (hgrow.cell_far ⟨w.heap.size + 1 + 1, 0, none⟩ (by simp; omega) nB).trans ((hB7.alloc _).cell 0))))
    all_goals
      have hB8 : Blk w8 (w.heap.size + 1 + 1) 54 #[v3] := (hB7.alloc (.cells #[.string (⟨dg.toArray⟩ : ByteArray)] 9)).grown hgrow nB
      have c9 : (w8.setCell ⟨w.heap.size + 1 + 1, 0, none⟩ (.slice (some ⟨gg, 0, none⟩) (l3.length + 1) cap)).cell? ⟨w.heap.size + 1 + 1, 0, none⟩ = some (.slice (some ⟨gg, 0, none⟩) (l3.length + 1) cap) := (hB8.store 0 _).cell 0
      have hb07 : Below w.heap.size w w7 := (below_drewN hb06 1).trans (hb7.mono (by exact hb06.size))
      have hb8 : Below w.heap.size w w8 := (hb07.alloc hb07.size (.cells #[.string (⟨dg.toArray⟩ : ByteArray)] 9)).grown hgrow (by simp; omega) (fun k hk => by have := own_from ho3 k hk; omega)
      have hb9 : Below w.heap.size w (w8.setCell ⟨w.heap.size + 1 + 1, 0, none⟩ (.slice (some ⟨gg, 0, none⟩) (l3.length + 1) cap)) := hb8.setCell (by simp; omega) _
      have ho9 := ownsRow_setCell_below hown8 (a := ⟨w.heap.size + 1 + 1, 0, none⟩) (by simp) (.slice (some ⟨gg, 0, none⟩) (l3.length + 1) cap)
      generalize w8.setCell ⟨w.heap.size + 1 + 1, 0, none⟩ (.slice (some ⟨gg, 0, none⟩) (l3.length + 1) cap) = w9 at c9 hb9 ho9 ⊢
      clear k1 k2 hB7 ho7 hb7 hown8 hgrow hat hlt8 hs8 hc8 hB8 hb07 hb8
      go_wp2_with fail
      go_ret
      refine ⟨_, rfl, ?_, hb9⟩
      rw [HF2.out, List.length_append, strs_snoc]
      exact ho9
end Go.Proofs.YtecmeegnjjhilaaGreatDoor
