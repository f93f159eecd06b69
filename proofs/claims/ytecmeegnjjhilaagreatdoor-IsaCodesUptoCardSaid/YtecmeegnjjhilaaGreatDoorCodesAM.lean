/- A list of blocks that are known whole in every world that a law's walk comes to. -/
import Derived.Test.YtecmeegnjjhilaaGreatDoorBase
import Derived.Test.YtecmeegnjjhilaaGreatDoorCode
import Derived.Test.YtecmeegnjjhilaaGreatDoorRefRM
import Derived.Test.YtecmeegnjjhilaaGreatDoorSameM
import Derived.Test.YtecmeegnjjhilaaGreatDoorFixed
import Derived.Test.YtecmeegnjjhilaaGreatDoorInv
import Derived.Deep.RegionHeld3
namespace Go.Proofs.YtecmeegnjjhilaaGreatDoor
open Go.RowKit

/-- W is w with more memory, and the listed blocks lie in it as they are listed. -/
def Kept (w : World) (l : List (Nat × TypeId × Array Value)) (W : World) : Prop := Below w.heap.size w W ∧ ∀ (i : Nat) (x : Nat × TypeId × Array Value), l[i]? = some x → Blk W x.1 x.2.1 x.2.2
section
variable {w W W' : World} {l : List (Nat × TypeId × Array Value)}
theorem Kept.below (k : Kept w l W) : Below w.heap.size w W := k.1
theorem Kept.at_ (k : Kept w l W) (i : Nat) {b : Nat} {t : TypeId} {cs : Array Value} (h : l[i]? = some (b, t, cs)) : Blk W b t cs := k.2 i _ h
theorem Kept.step (k : Kept w l W) (hb : Below W.heap.size W W') : Kept w l W' := ⟨k.1.trans (hb.mono k.1.size), fun i x h => (k.2 i x h).below hb (k.2 i x h).lt⟩
theorem Kept.drew (k : Kept w l W) : Kept w l W.drew := k.step ((Below.refl _ _).drew)
theorem Kept.drewN (k : Kept w l W) (n : Nat) : Kept w l (W.drewN n) := k.step (below_drewN (Below.refl _ _) n)
theorem Kept.alloc (k : Kept w l W) (o : Obj) : Kept w l (W.alloc o) := k.step ((Below.refl _ _).alloc (Nat.le_refl _) o)
theorem Kept.more (k : Kept w l W) {b : Nat} {t : TypeId} {cs : Array Value} (h : Blk W b t cs) : Kept w ((b, t, cs) :: l) W := ⟨k.1, fun i x hx => by
  cases i with
  | zero =>
    simp only [List.getElem?_cons_zero, Option.some.injEq] at hx
    subst hx
    exact h
  | succ i => exact k.2 i x (by simpa using hx)⟩
theorem Kept.less {x : Nat × TypeId × Array Value} (k : Kept w (x :: l) W) : Kept w l W := ⟨k.1, fun i y hy => k.2 (i + 1) y (by simpa using hy)⟩
theorem Kept.new (k : Kept w l W) (t : TypeId) (cs : Array Value) : Kept w ((W.heap.size, t, cs) :: l) (W.alloc (.cells cs t)) := (k.alloc _).more (Blk.new W t cs)
/-- A callee that only makes memory. -/
theorem Kept.call {P : Program} {f : FuncId} {args : Array Value} {v : Value} (k : Kept w l W) (h : Calls P f args W fun e w' => e = .returned v ∧ Below W.heap.size W w') :
    Calls P f args W fun e w' => e = .returned v ∧ Kept w l w' := h.mono fun _ _ ⟨a, b⟩ => ⟨a, k.step b⟩
theorem Kept.quiet {P : Program} {f : FuncId} {args : Array Value} {v : Value} (k : Kept w l W) (h : Calls P f args W fun e w' => e = .returned v ∧ W = w') :
    Calls P f args W fun e w' => e = .returned v ∧ Kept w l w' := h.mono fun _ _ ⟨a, b⟩ => ⟨a, b ▸ k⟩
end
theorem Kept.start (w : World) : Kept w [] w := ⟨Below.refl _ _, fun i x h => by simp at h⟩
end Go.Proofs.YtecmeegnjjhilaaGreatDoor

/- ferrylaw04.ours: the instruction's fields, handed on. -/
namespace Go.Proofs.YtecmeegnjjhilaaGreatDoor
open Go.RowKit

set_option maxHeartbeats 1000000 in
set_option maxRecDepth 100000 in
theorem ours_any (i : Ins) (w : World) : Calls Tryz.prog 20 #[i.val] w fun e w' => e = .returned i.val ∧ Below w.heap.size w w' := by
  obtain ⟨op, a, b, c, imm⟩ := i
  unfold Ins.val
  go_enter Tryz.func20, Tryz.ntmps20
  go_wp2
  refine bodyPost_ret (v := .agg #[.int .i64 op, .int .i64 a, .int .i64 b, .int .i64 c, .int .i64 imm]) (by simp [results, Tryz.results20, go_sem]) rfl ⟨rfl, ?_⟩
  exact ((Below.refl _ _).alloc (Nat.le_refl _) _).alloc (by simp) _
end Go.Proofs.YtecmeegnjjhilaaGreatDoor

/- ferrylaw04.IsaCodes: the walk. -/
namespace Go.Proofs.YtecmeegnjjhilaaGreatDoor
open Go.RowKit

theorem check_code (i : Ins) : checkC i = 0 ∨ isCode (checkC i) := by
  rcases check_cases i with h | h | h
  · exact .inl h
  · exact .inr (by rw [h]; unfold isCode; omega)
  · exact .inr (by rw [h]; unfold isCode; omega)

theorem dec_code (x : Int) : decC x = 0 ∨ isCode (decC x) := by
  unfold decC isCode
  repeat' split
  all_goals omega
theorem parse_code (s : ByteArray) : (parseP s).2 = 0 ∨ isCode (parseP s).2 := by
  rcases parse_cases s with h | h
  · exact .inl h.2
  · exact .inr (by rw [h]; unfold isCode; omega)
theorem and_range (x y : Int) (h0 : 0 ≤ x) (h1 : x < 4294967296) (k0 : 0 ≤ y) (k1 : y < 4294967296) : 0 ≤ bits .and .u32 x y ∧ bits .and .u32 x y < 4294967296 := by
  rw [u32_and x y h0 h1 k0 k1]
  have e1 : x.toNat &&& y.toNat ≤ x.toNat := Nat.and_le_left
  omega

attribute [local irreducible] Calls in
set_option maxHeartbeats 16000000 in
set_option maxRecDepth 100000 in
theorem codes_walk (er : Nat → Addr) (i : Ins) (n : Int) (n0 : 0 ≤ n) (n1 : n < 4294967296) (nm tx : ByteArray) (hnm : nm.size ≤ 100000000) (htx : tx.size ≤ 100000000) (w : World) (E : Env2 er w) :
    Calls Tryz.prog 6 #[.agg #[.int .i64 i.op, .int .i64 i.a, .int .i64 i.b, .int .i64 i.c, .int .i64 i.imm, .int .u32 n, .string nm, .string tx]] w fun e w' => e = .returned (.bool true) ∧ Below w.heap.size w w' := by
  have HE := Lib.hid E
  have hKx := (Kept.start w).new 30 #[.int .i64 i.op, .int .i64 i.a, .int .i64 i.b, .int .i64 i.c, .int .i64 i.imm, .int .u32 n, .string nm, .string tx]
  have HF := Lib.hid (hKx.call (fixed_any er _ (HE.out.env.below hKx.1)))
  clear E
  go_enter Tryz.func6, Tryz.ntmps6
  go_wp2_with fail
  refine HF.out.mono ?_
  rintro e w1 ⟨rfl, hK1⟩
  have hC1 := hK1.at_ 0 rfl
  have i0 : w1.cell? ⟨w.heap.size, 0, none⟩ = some (.int .i64 i.op) := hC1.cell 0
  have i1 : w1.cell? ⟨w.heap.size, 1, none⟩ = some (.int .i64 i.a) := hC1.cell 1
  have i2 : w1.cell? ⟨w.heap.size, 2, none⟩ = some (.int .i64 i.b) := hC1.cell 2
  have i3 : w1.cell? ⟨w.heap.size, 3, none⟩ = some (.int .i64 i.c) := hC1.cell 3
  have i4 : w1.cell? ⟨w.heap.size, 4, none⟩ = some (.int .i64 i.imm) := hC1.cell 4
  have hOu := fun W => ours_any i W
  unfold Ins.val at hOu
  have HOu := Lib.hid hOu
  clear HF hKx hC1 hOu
  go_wp2_with fail
  refine (hK1.call (HOu.out w1)).mono ?_
  rintro e w2 ⟨rfl, hK2⟩
  have hK3 := hK2.new 27 #[.int .i64 i.op, .int .i64 i.a, .int .i64 i.b, .int .i64 i.c, .int .i64 i.imm]
  have hlt : w.heap.size < w2.heap.size := (hK2.at_ 0 rfl).lt
  clear hK1 i0 i1 i2 i3 i4 hK2
  go_wp2_with fail
  generalize w2.alloc (.cells #[.int .i64 i.op, .int .i64 i.a, .int .i64 i.b, .int .i64 i.c, .int .i64 i.imm] 27) = w3 at hK3 ⊢
  generalize w2.heap.size = N at hK3 hlt ⊢
  generalize hl : (N, 27, #[Value.int .i64 i.op, .int .i64 i.a, .int .i64 i.b, .int .i64 i.c, .int .i64 i.imm]) :: (w.heap.size, 30, #[Value.int .i64 i.op, .int .i64 i.a, .int .i64 i.b, .int .i64 i.c, .int .i64 i.imm, .int .u32 n, .string nm, .string tx]) :: ([] : List (Nat × TypeId × Array Value)) = l at hK3
  have HL := Lib.hid hl
  have HS : Hid (∀ W, Kept w l W → W.cell? ⟨w.heap.size, 0, none⟩ = some (.int .i64 i.op) ∧ W.cell? ⟨w.heap.size, 1, none⟩ = some (.int .i64 i.a) ∧ W.cell? ⟨w.heap.size, 2, none⟩ = some (.int .i64 i.b) ∧ W.cell? ⟨w.heap.size, 3, none⟩ = some (.int .i64 i.c) ∧ W.cell? ⟨w.heap.size, 4, none⟩ = some (.int .i64 i.imm) ∧ W.cell? ⟨w.heap.size, 6, none⟩ = some (.string nm) ∧
      W.cell? ⟨N, 0, none⟩ = some (.int .i64 i.op) ∧ W.cell? ⟨N, 1, none⟩ = some (.int .i64 i.a) ∧ W.cell? ⟨N, 2, none⟩ = some (.int .i64 i.b) ∧ W.cell? ⟨N, 3, none⟩ = some (.int .i64 i.c) ∧ W.cell? ⟨N, 4, none⟩ = some (.int .i64 i.imm)) := Lib.hid (fun W k => by
    subst hl
    have hN := k.at_ 0 rfl
    have hC := k.at_ 1 rfl
    exact ⟨hC.cell 0, hC.cell 1, hC.cell 2, hC.cell 3, hC.cell 4, hC.cell 6, hN.cell 0, hN.cell 1, hN.cell 2, hN.cell 3, hN.cell 4⟩)
  clear hl
  have h1 := fun W (k : Kept w l W) => k.call (Form_any i.op W (HE.out.env.below k.1).space)
  have h2 := fun W (k : Kept w l W) => k.quiet (RForm_any i.op W)
  rw [show (opRow i.op).form = formOf i.op from rfl] at h1
  have h3 := fun W (k : Kept w l W) => k.call (Name_any i.op W (HE.out.env.below k.1).space)
  have h4 := fun W (k : Kept w l W) => k.quiet (RName_any i.op W)
  have h5 := fun W (k : Kept w l W) => k.call (Number_any nm W (HE.out.env.below k.1).space)
  have h6 := fun W (k : Kept w l W) => k.quiet (RNumber_any nm W)
  have h7 := fun W (k : Kept w l W) => k.call (Check_any i er W (HE.out.env.below k.1))
  have h8 := fun W (k : Kept w l W) => k.call (RCheck_any i W)
  have h9 := fun W (k : Kept w l W) => k.call (same_any er (checkC i) (check_code i) (checkC i) W (HE.out.below k.1))
  rw [show decide ((checkC i : Int) = (checkC i : Int)) = true from decide_eq_true rfl] at h9
  have hen := fun W (k : Kept w l W) => k.call (Encode_any i er W (HE.out.env.below k.1))
  have hren := fun W (k : Kept w l W) => k.call (REncode_any i W)
  have hpr := fun W (k : Kept w l W) => k.call (Print_any i er W (HE.out.env.below k.1))
  have hrpr := fun W (k : Kept w l W) => k.call (RPrint_any i W)
  have HRg := Lib.hid (encR_range i)
  unfold Ins.val at h7 h8 hen hren hpr hrpr
  have HPs : Hid ((⟨(if checkC i = 0 then printT i else []).toArray⟩ : ByteArray).size ≤ 100000000) := Lib.hid (by
    rw [Lib.size_eq]
    split
    · rename_i hc
      have := print_len i hc
      simp
      omega
    · simp)
  have HEn := Lib.hid hen
  have HREn := Lib.hid hren
  have HPr := Lib.hid hpr
  have HRPr := Lib.hid hrpr
  have H1 := Lib.hid h1
  have H2 := Lib.hid h2
  have H3 := Lib.hid h3
  have H4 := Lib.hid h4
  have H5 := Lib.hid h5
  have H6 := Lib.hid h6
  have H7 := Lib.hid h7
  have H8 := Lib.hid h8
  have H9 := Lib.hid h9
  clear h1 h2 h3 h4 h5 h6 h7 h8 h9 hen hren hpr hrpr
  generalize (opRow i.op).word = X at H3 H4
  generalize formOf i.op = f at H1 H2
  generalize (wordRow nm.data.toList).op = nb at H5 H6
  generalize errV er (checkC i) = ve at H7 H9 HEn HPr
  generalize encR i = R at HEn HREn HRg
  generalize (⟨(if checkC i = 0 then printT i else []).toArray⟩ : ByteArray) = S at HPr HRPr HPs
  obtain ⟨a0, a1, a2, a3, a4, a6, b0, b1, b2, b3, b4⟩ := HS.out w3 hK3
  go_region_held3 (fun W => W.cell? ⟨w.heap.size, 0, none⟩ = some (.int .i64 i.op) ∧ W.cell? ⟨w.heap.size, 1, none⟩ = some (.int .i64 i.a) ∧ W.cell? ⟨w.heap.size, 2, none⟩ = some (.int .i64 i.b) ∧ W.cell? ⟨w.heap.size, 3, none⟩ = some (.int .i64 i.c) ∧ W.cell? ⟨w.heap.size, 4, none⟩ = some (.int .i64 i.imm) ∧ W.cell? ⟨w.heap.size, 6, none⟩ = some (.string nm) ∧
      W.cell? ⟨N, 0, none⟩ = some (.int .i64 i.op) ∧ W.cell? ⟨N, 1, none⟩ = some (.int .i64 i.a) ∧ W.cell? ⟨N, 2, none⟩ = some (.int .i64 i.b) ∧ W.cell? ⟨N, 3, none⟩ = some (.int .i64 i.c) ∧ W.cell? ⟨N, 4, none⟩ = some (.int .i64 i.imm))
    (first | exact HS.out _ (by first | assumption | exact Kept.drew (by assumption)) | go_keep)
    (first
      | (go_at_call 11; refine (H1.out _ (by first | assumption | exact Kept.drew (by assumption))).mono ?_; rintro e wK ⟨rfl, hKK⟩)
      | (go_at_call 12; refine (H2.out _ (by first | assumption | exact Kept.drew (by assumption))).mono ?_; rintro e wK ⟨rfl, hKK⟩)
      | (go_at_call 13; refine (H3.out _ (by first | assumption | exact Kept.drew (by assumption))).mono ?_; rintro e wK ⟨rfl, hKK⟩)
      | (go_at_call 14; refine (H4.out _ (by first | assumption | exact Kept.drew (by assumption))).mono ?_; rintro e wK ⟨rfl, hKK⟩)
      | (go_at_call 15; refine (H5.out _ (by first | assumption | exact Kept.drew (by assumption))).mono ?_; rintro e wK ⟨rfl, hKK⟩)
      | (go_at_call 23; refine (H6.out _ (by first | assumption | exact Kept.drew (by assumption))).mono ?_; rintro e wK ⟨rfl, hKK⟩)
      | (go_at_call 18; refine (H7.out _ (by first | assumption | exact Kept.drew (by assumption))).mono ?_; rintro e wK ⟨rfl, hKK⟩)
      | (go_at_call 19; refine (H8.out _ (by first | assumption | exact Kept.drew (by assumption))).mono ?_; rintro e wK ⟨rfl, hKK⟩)
      | (go_at_call 24; refine (H9.out _ (by first | assumption | exact Kept.drew (by assumption))).mono ?_; rintro e wK ⟨rfl, hKK⟩))

  clear a0 a1 a2 a3 a4 a6 b0 b1 b2 b3 b4 H1 H2 H3 H4 H5 H6 H7 H8
  obtain ⟨a0, a1, a2, a3, a4, a6, b0, b1, b2, b3, b4⟩ := HS.out wK hKK
  go_wp2_with fail
  refine (HEn.out _ hKK).mono ?_
  rintro e wS1 ⟨rfl, hS1⟩
  clear hKK a0 a1 a2 a3 a4 a6 b0 b1 b2 b3 b4
  obtain ⟨a0, a1, a2, a3, a4, a6, b0, b1, b2, b3, b4⟩ := HS.out wS1 hS1
  go_wp2_with fail
  refine (HREn.out _ hS1).mono ?_
  rintro e wS2 ⟨rfl, hS2⟩
  clear hS1 a0 a1 a2 a3 a4 a6 b0 b1 b2 b3 b4
  go_wp2_with fail
  refine (H9.out _ hS2).mono ?_
  rintro e wS3 ⟨rfl, hS3⟩
  clear hS2 
  obtain ⟨a0, a1, a2, a3, a4, a6, b0, b1, b2, b3, b4⟩ := HS.out wS3 hS3
  go_wp2_with fail
  refine (HPr.out _ hS3).mono ?_
  rintro e wS4 ⟨rfl, hS4⟩
  clear hS3 a0 a1 a2 a3 a4 a6 b0 b1 b2 b3 b4
  obtain ⟨a0, a1, a2, a3, a4, a6, b0, b1, b2, b3, b4⟩ := HS.out wS4 hS4
  go_wp2_with fail
  refine (HRPr.out _ hS4).mono ?_
  rintro e wS5 ⟨rfl, hS5⟩
  clear hS4 a0 a1 a2 a3 a4 a6 b0 b1 b2 b3 b4
  go_wp2_with fail
  refine (H9.out _ hS5).mono ?_
  rintro e wS6 ⟨rfl, hS6⟩
  clear hS5 
  clear HEn HREn HPr HRPr H9
  have hC := hS6.at_ 1 (by rw [← HL.out]; rfl)
  have c5 : wS6.cell? ⟨w.heap.size, 5, none⟩ = some (.int .u32 n) := hC.cell 5
  have hand := and_range n 1107296255 n0 n1 (by decide) (by decide)
  generalize hy : bits .and .u32 n 1107296255 = y at hand
  go_wp2_with fail
  have hKw := hS6.new 28 #[.int .u32 n, .int .u32 R, .int .u32 y]
  have HWs : Hid (∀ k, k < 3 → ∃ x : Int, (#[Value.int .u32 n, .int .u32 R, .int .u32 y] : Array Value)[k]? = some (.int .u32 x) ∧ 0 ≤ x ∧ x < 4294967296) := Lib.hid (fun k hk => by
    have h : k = 0 ∨ k = 1 ∨ k = 2 := by omega
    rcases h with rfl | rfl | rfl
    · exact ⟨n, rfl, n0, n1⟩
    · exact ⟨R, rfl, HRg.out.1, HRg.out.2⟩
    · exact ⟨y, rfl, hand.1, hand.2⟩)
  clear hS6 hC c5 hand hy HS HRg
  generalize wS6.alloc (.cells #[.int .u32 n, .int .u32 R, .int .u32 y] 28) = wq at hKw ⊢
  generalize wS6.heap.size = B at hKw ⊢
  generalize (#[Value.int .u32 n, .int .u32 R, .int .u32 y] : Array Value) = cs at hKw HWs
  go_loopw [11] (fun s11 wr => ∃ k : Nat, k ≤ 3 ∧ s11 = .int .i64 k ∧ Kept w ((B, 28, cs) :: l) wr) (fun s11 _ => 3 - (intOf s11).toNat)
  case atStart => exact ⟨0, by omega, rfl, hKw⟩
  case round =>
    obtain ⟨k, hk, rfl, hK⟩ := hrel
    clear hKw
    by_cases hlt3 : k < 3
    · obtain ⟨x, hx, x0, x1⟩ := HWs.out k hlt3
      have cx : wr.cell? ⟨B, k, none⟩ = some (.int .u32 x) := by rw [(hK.at_ 0 rfl).cell k]; exact hx
      have hc1 := fun W (h : Kept w ((B, 28, cs) :: l) W) => h.call (Decode_any x x0 x1 er W (HE.out.env.below h.1))
      have hc2 := fun W l' (h : Kept w l' W) => h.call (RDecode_any x x0 x1 W)
      have hsm := fun W l' (h : Kept w l' W) => h.call (same_any er (decC x) (dec_code x) (decC x) W (HE.out.below h.1))
      rw [show decide (((decC x : Nat) : Int) = (decC x : Nat)) = true from decide_eq_true rfl] at hsm
      have hou := fun W l' (h : Kept w l' W) => h.call (ours_any (decI x) W)
      generalize decI x = j at hc1 hc2 hou
      generalize errV er (decC x) = ve at hc1 hsm
      generalize decC x = cd at hc2 hsm
      obtain ⟨jo, ja, jb, jc, jm⟩ := j
      unfold Ins.val at hc1 hc2 hou
      simp only at hc1 hc2 hou
      have HC1 := Lib.hid hc1
      have HC2 := Lib.hid hc2
      have HSm := Lib.hid hsm
      have HOj := Lib.hid hou
      clear hc1 hc2 hsm hou
      go_wp2_with fail
      refine (HC1.out _ hK).mono ?_
      rintro e w4 ⟨rfl, hK4⟩
      have hK5 := hK4.new 27 #[.int .i64 jo, .int .i64 ja, .int .i64 jb, .int .i64 jc, .int .i64 jm]
      have cx : (w4.alloc (.cells #[.int .i64 jo, .int .i64 ja, .int .i64 jb, .int .i64 jc, .int .i64 jm] 27)).cell? ⟨B, k, none⟩ = some (.int .u32 x) := by rw [(hK5.at_ 1 rfl).cell k]; exact hx
      have hlB := (hK4.at_ 0 rfl).lt
      clear hK hK4 HC1
      go_wp2_with fail
      generalize w4.alloc (.cells #[.int .i64 jo, .int .i64 ja, .int .i64 jb, .int .i64 jc, .int .i64 jm] 27) = w5 at hK5 cx ⊢
      generalize w4.heap.size = D at hK5 hlB ⊢
      refine (HC2.out _ _ hK5).mono ?_
      rintro e w6 ⟨rfl, hK6⟩
      have hK7 := hK6.new 27 #[.int .i64 jo, .int .i64 ja, .int .i64 jb, .int .i64 jc, .int .i64 jm]
      have hlD := (hK6.at_ 0 rfl).lt
      clear hK5 hK6 HC2 cx hx
      go_wp2_with fail
      generalize w6.alloc (.cells #[.int .i64 jo, .int .i64 ja, .int .i64 jb, .int .i64 jc, .int .i64 jm] 27) = w7 at hK7 ⊢
      generalize w6.heap.size = Q at hK7 hlD ⊢
      generalize hl2 : (Q, 27, #[Value.int .i64 jo, .int .i64 ja, .int .i64 jb, .int .i64 jc, .int .i64 jm]) :: (D, 27, #[Value.int .i64 jo, .int .i64 ja, .int .i64 jb, .int .i64 jc, .int .i64 jm]) :: ((B, 28, cs) :: l) = l2 at hK7
      have HL2 := Lib.hid hl2
      have HS2 : Hid (∀ W, Kept w l2 W → W.cell? ⟨Q, 0, none⟩ = some (.int .i64 jo) ∧ W.cell? ⟨Q, 1, none⟩ = some (.int .i64 ja) ∧ W.cell? ⟨Q, 2, none⟩ = some (.int .i64 jb) ∧ W.cell? ⟨Q, 3, none⟩ = some (.int .i64 jc) ∧ W.cell? ⟨Q, 4, none⟩ = some (.int .i64 jm) ∧
          W.cell? ⟨D, 0, none⟩ = some (.int .i64 jo) ∧ W.cell? ⟨D, 1, none⟩ = some (.int .i64 ja) ∧ W.cell? ⟨D, 2, none⟩ = some (.int .i64 jb) ∧ W.cell? ⟨D, 3, none⟩ = some (.int .i64 jc) ∧ W.cell? ⟨D, 4, none⟩ = some (.int .i64 jm)) := Lib.hid (fun W k => by
        subst hl2
        have hN := k.at_ 0 rfl
        have hC := k.at_ 1 rfl
        exact ⟨hN.cell 0, hN.cell 1, hN.cell 2, hN.cell 3, hN.cell 4, hC.cell 0, hC.cell 1, hC.cell 2, hC.cell 3, hC.cell 4⟩)
      clear hl2
      obtain ⟨a0, a1, a2, a3, a4, b0, b1, b2, b3, b4⟩ := HS2.out w7 hK7
      go_region_held3 (fun W => W.cell? ⟨Q, 0, none⟩ = some (.int .i64 jo) ∧ W.cell? ⟨Q, 1, none⟩ = some (.int .i64 ja) ∧ W.cell? ⟨Q, 2, none⟩ = some (.int .i64 jb) ∧ W.cell? ⟨Q, 3, none⟩ = some (.int .i64 jc) ∧ W.cell? ⟨Q, 4, none⟩ = some (.int .i64 jm) ∧
          W.cell? ⟨D, 0, none⟩ = some (.int .i64 jo) ∧ W.cell? ⟨D, 1, none⟩ = some (.int .i64 ja) ∧ W.cell? ⟨D, 2, none⟩ = some (.int .i64 jb) ∧ W.cell? ⟨D, 3, none⟩ = some (.int .i64 jc) ∧ W.cell? ⟨D, 4, none⟩ = some (.int .i64 jm))
        (first | exact HS2.out _ (by first | assumption | exact Kept.drew (by assumption)) | go_keep)
        (first
          | (go_at_call 20; refine (HOj.out _ _ (by first | assumption | exact Kept.drew (by assumption))).mono ?_; rintro e wK ⟨rfl, hKK⟩)
          | (go_at_call 24; refine (HSm.out _ l2 (by first | assumption | exact Kept.drew (by assumption))).mono ?_; rintro e wK ⟨rfl, hKK⟩))
      clear a0 a1 a2 a3 a4 b0 b1 b2 b3 b4 HOj HSm HS2 hK7
      rw [← HL2.out] at hKK
      go_wp2_with fail
      go_roundw
      case rel => exact ⟨k + 1, by omega, by go_num, hKK.less.less⟩
      case measure => simp [intOf]; omega
    · have hk3 : ¬ (k : Int) < 3 := by omega
      clear hk hlt3
      have hC := hK.at_ 2 (by rw [← HL.out]; rfl)
      have c6 : wr.cell? ⟨w.heap.size, 6, none⟩ = some (.string nm) := hC.cell 6
      have c7 : wr.cell? ⟨w.heap.size, 7, none⟩ = some (.string tx) := hC.cell 7
      have hlC := hC.lt
      clear hC HWs
      go_wp2_with fail
      have hKt := hK.less.new 9 #[.string tx, .string nm, .string S]
      have HTs : Hid (∀ k, k < 3 → ∃ x : ByteArray, (#[Value.string tx, .string nm, .string S] : Array Value)[k]? = some (.string x) ∧ x.size ≤ 100000000) := Lib.hid (fun k hk => by
        have h : k = 0 ∨ k = 1 ∨ k = 2 := by omega
        rcases h with rfl | rfl | rfl
        · exact ⟨tx, rfl, htx⟩
        · exact ⟨nm, rfl, hnm⟩
        · exact ⟨S, rfl, HPs.out⟩)
      clear hK c6 c7
      generalize wr.alloc (.cells #[.string tx, .string nm, .string S] 9) = wq at hKt ⊢
      generalize wr.heap.size = B at hKt hlC ⊢
      generalize (#[Value.string tx, .string nm, .string S] : Array Value) = cs at hKt HTs
      go_loopw [17] (fun s17 wr => ∃ k : Nat, k ≤ 3 ∧ s17 = .int .i64 k ∧ Kept w ((B, 9, cs) :: l) wr) (fun s17 _ => 3 - (intOf s17).toNat)
      case atStart => exact ⟨0, by omega, rfl, hKt⟩
      case round =>
        obtain ⟨k, hk, rfl, hK⟩ := hrel
        clear hKt
        by_cases hlt3 : k < 3
        · obtain ⟨x, hx, hxs⟩ := HTs.out k hlt3
          have cx : wr.cell? ⟨B, k, none⟩ = some (.string x) := by rw [(hK.at_ 0 rfl).cell k]; exact hx
          have hc1 := fun W (h : Kept w ((B, 9, cs) :: l) W) => h.call (Parse_any x hxs er W (HE.out.env.below h.1))
          have hc2 := fun W l' (h : Kept w l' W) => h.call (RParse_any x hxs W)
          have hsm := fun W l' (h : Kept w l' W) => h.call (same_any er ((parseP x).2) (parse_code x) ((parseP x).2) W (HE.out.below h.1))
          rw [show decide ((((parseP x).2 : Nat) : Int) = ((parseP x).2 : Nat)) = true from decide_eq_true rfl] at hsm
          have hou := fun W l' (h : Kept w l' W) => h.call (ours_any ((parseP x).1) W)
          generalize (parseP x).1 = j at hc1 hc2 hou
          generalize errV er ((parseP x).2) = ve at hc1 hsm
          generalize (parseP x).2 = cd at hc2 hsm
          obtain ⟨jo, ja, jb, jc, jm⟩ := j
          unfold Ins.val at hc1 hc2 hou
          simp only at hc1 hc2 hou
          have HC1 := Lib.hid hc1
          have HC2 := Lib.hid hc2
          have HSm := Lib.hid hsm
          have HOj := Lib.hid hou
          clear hc1 hc2 hsm hou
          go_wp2_with fail
          refine (HC1.out _ hK).mono ?_
          rintro e w4 ⟨rfl, hK4⟩
          have hK5 := hK4.new 27 #[.int .i64 jo, .int .i64 ja, .int .i64 jb, .int .i64 jc, .int .i64 jm]
          have cx : (w4.alloc (.cells #[.int .i64 jo, .int .i64 ja, .int .i64 jb, .int .i64 jc, .int .i64 jm] 27)).cell? ⟨B, k, none⟩ = some (.string x) := by rw [(hK5.at_ 1 rfl).cell k]; exact hx
          have hlB := (hK4.at_ 0 rfl).lt
          clear hK hK4 HC1
          go_wp2_with fail
          generalize w4.alloc (.cells #[.int .i64 jo, .int .i64 ja, .int .i64 jb, .int .i64 jc, .int .i64 jm] 27) = w5 at hK5 cx ⊢
          generalize w4.heap.size = D at hK5 hlB ⊢
          refine (HC2.out _ _ hK5).mono ?_
          rintro e w6 ⟨rfl, hK6⟩
          have hK7 := hK6.new 27 #[.int .i64 jo, .int .i64 ja, .int .i64 jb, .int .i64 jc, .int .i64 jm]
          have hlD := (hK6.at_ 0 rfl).lt
          clear hK5 hK6 HC2 cx hx
          go_wp2_with fail
          generalize w6.alloc (.cells #[.int .i64 jo, .int .i64 ja, .int .i64 jb, .int .i64 jc, .int .i64 jm] 27) = w7 at hK7 ⊢
          generalize w6.heap.size = Q at hK7 hlD ⊢
          generalize hl2 : (Q, 27, #[Value.int .i64 jo, .int .i64 ja, .int .i64 jb, .int .i64 jc, .int .i64 jm]) :: (D, 27, #[Value.int .i64 jo, .int .i64 ja, .int .i64 jb, .int .i64 jc, .int .i64 jm]) :: ((B, 9, cs) :: l) = l2 at hK7
          have HL2 := Lib.hid hl2
          have HS2 : Hid (∀ W, Kept w l2 W → W.cell? ⟨Q, 0, none⟩ = some (.int .i64 jo) ∧ W.cell? ⟨Q, 1, none⟩ = some (.int .i64 ja) ∧ W.cell? ⟨Q, 2, none⟩ = some (.int .i64 jb) ∧ W.cell? ⟨Q, 3, none⟩ = some (.int .i64 jc) ∧ W.cell? ⟨Q, 4, none⟩ = some (.int .i64 jm) ∧
              W.cell? ⟨D, 0, none⟩ = some (.int .i64 jo) ∧ W.cell? ⟨D, 1, none⟩ = some (.int .i64 ja) ∧ W.cell? ⟨D, 2, none⟩ = some (.int .i64 jb) ∧ W.cell? ⟨D, 3, none⟩ = some (.int .i64 jc) ∧ W.cell? ⟨D, 4, none⟩ = some (.int .i64 jm)) := Lib.hid (fun W k => by
            subst hl2
            have hN := k.at_ 0 rfl
            have hC := k.at_ 1 rfl
            exact ⟨hN.cell 0, hN.cell 1, hN.cell 2, hN.cell 3, hN.cell 4, hC.cell 0, hC.cell 1, hC.cell 2, hC.cell 3, hC.cell 4⟩)
          clear hl2
          obtain ⟨a0, a1, a2, a3, a4, b0, b1, b2, b3, b4⟩ := HS2.out w7 hK7
          go_region_held3 (fun W => W.cell? ⟨Q, 0, none⟩ = some (.int .i64 jo) ∧ W.cell? ⟨Q, 1, none⟩ = some (.int .i64 ja) ∧ W.cell? ⟨Q, 2, none⟩ = some (.int .i64 jb) ∧ W.cell? ⟨Q, 3, none⟩ = some (.int .i64 jc) ∧ W.cell? ⟨Q, 4, none⟩ = some (.int .i64 jm) ∧
              W.cell? ⟨D, 0, none⟩ = some (.int .i64 jo) ∧ W.cell? ⟨D, 1, none⟩ = some (.int .i64 ja) ∧ W.cell? ⟨D, 2, none⟩ = some (.int .i64 jb) ∧ W.cell? ⟨D, 3, none⟩ = some (.int .i64 jc) ∧ W.cell? ⟨D, 4, none⟩ = some (.int .i64 jm))
            (first | exact HS2.out _ (by first | assumption | exact Kept.drew (by assumption)) | go_keep)
            (first
              | (go_at_call 20; refine (HOj.out _ _ (by first | assumption | exact Kept.drew (by assumption))).mono ?_; rintro e wK ⟨rfl, hKK⟩)
              | (go_at_call 24; refine (HSm.out _ l2 (by first | assumption | exact Kept.drew (by assumption))).mono ?_; rintro e wK ⟨rfl, hKK⟩))
          clear a0 a1 a2 a3 a4 b0 b1 b2 b3 b4 HOj HSm HS2 hK7
          rw [← HL2.out] at hKK
          go_wp2_with fail
          go_roundw
          case rel => exact ⟨k + 1, by omega, by go_num, hKK.less.less⟩
          case measure => simp [intOf]; omega
        · have hk3 : k = 3 := by omega
          subst hk3
          clear HTs
          go_wp2_with fail
          go_ret
          exact ⟨rfl, hK.1⟩
end Go.Proofs.YtecmeegnjjhilaaGreatDoor
