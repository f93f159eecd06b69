/- Why the document's loose reading finds what was printed: the plain part. -/
import Derived.Test.YtecmeegnjjhilaaGreatDoorRefBM
import Derived.Test.YtecmeegnjjhilaaGreatDoorSrc
import Derived.StillTailTactics
import Derived.Test.YtecmeegnjjhilaaGreatDoorRefXM
import Derived.Test.YtecmeegnjjhilaaGreatDoorKept
import Derived.Deep.RegionHeld3
namespace Go.Proofs.YtecmeegnjjhilaaGreatDoor
open Go.RowKit
theorem loose_snoc (c : UInt8) (hc : 48 ≤ c.toNat ∧ c.toNat ≤ 57) : ∀ (l : List UInt8) (n : Int), looseN l n < 1000000 → looseN (l ++ [c]) n = looseN l n * 10 + ((c.toNat : Int) - 48)
  | [], n, h => by
    simp only [looseN, List.nil_append] at h ⊢
    rw [if_pos ⟨hc.1, hc.2, h⟩]
  | x :: l, n, h => by
    simp only [looseN, List.cons_append] at h ⊢
    split
    · rename_i hx
      rw [if_pos hx] at h
      exact loose_snoc c hc l _ h
    · rename_i hx
      rw [if_neg hx] at h
      exact loose_snoc c hc l _ h
theorem loose_dec (u : Nat) : u < 1000000 → looseN (Lib.decDigits u) 0 = u := by
  induction u using Nat.strongRecOn with
  | ind u ih =>
    intro hu
    by_cases h : u < 10
    · rw [Lib.decDigits_one h]
      have hc : (UInt8.ofNat (48 + u)).toNat = 48 + u := by simp [UInt8.toNat_ofNat']; omega
      simp only [looseN]
      rw [if_pos ⟨by omega, by omega, by omega⟩, hc]
      omega
    · rw [dec_step u h]
      have hc : (UInt8.ofNat (48 + u % 10)).toNat = 48 + u % 10 := by simp [UInt8.toNat_ofNat']; omega
      have ih2 := ih (u / 10) (by omega) (by omega)
      rw [loose_snoc _ (by rw [hc]; omega) _ 0 (by rw [ih2]; omega), ih2, hc]
      omega
theorem no_minus (u : Nat) : (45 : UInt8) ∉ Lib.decDigits u := fun h => by
  have h1 := dec_digit u 45 h
  have e : (45 : UInt8).toNat = 45 := rfl
  omega
theorem loose_itoa (n : Int) (h0 : -1000000 < n) (h1 : n < 1000000) : looseP (Lib.itoa n) = n := by
  by_cases hn : n < 0
  · obtain ⟨u, rfl⟩ : ∃ u : Nat, n = -((u : Int) + 1) := ⟨(-n).toNat - 1, by omega⟩
    have e : Lib.itoa (-((u : Int) + 1)) = 45 :: Lib.decDigits (u + 1) := Lib.itoa_neg (u + 1) (by omega)
    rw [e]
    unfold looseP
    rw [if_pos (List.mem_cons_self ..)]
    simp only [looseN]
    rw [if_neg (fun h => absurd h.1 (by decide)), loose_dec (u + 1) (by omega)]
    omega
  · obtain ⟨u, rfl⟩ := Int.eq_ofNat_of_zero_le (show 0 ≤ n by omega)
    rw [Lib.itoa_nonneg]
    unfold looseP
    rw [if_neg (no_minus u), loose_dec u (by omega)]
def nB (b : Bool) : Nat := if b then 1 else 0
end Go.Proofs.YtecmeegnjjhilaaGreatDoor

/- The document's Parse. -/
namespace Go.Proofs.YtecmeegnjjhilaaGreatDoor
open Go.RowKit
theorem StrsV.below {w w' : World} {v : Value} {ss : List ByteArray} (h : StrsV w v ss) (hb : Below w.heap.size w w') : StrsV w' v ss := by
  obtain ⟨A, c, e, hc, hs⟩ := h
  refine ⟨A, c, e, hc, fun hn => ?_⟩
  obtain ⟨b, o, cur, hA, hB, hcur⟩ := hs hn
  exact ⟨b, o, cur, hA, hB.below hb hB.lt, hcur⟩
theorem StrsV.store {w : World} {B : Nat} {t : TypeId} {cs : Array Value} {v : Value} {ss : List ByteArray} (h : StrsV w v ss) (hB : Blk w B t cs) (ht : 9 ≠ t) (i : Nat) (u : Value) : StrsV (w.setCell ⟨B, i, none⟩ u) v ss := by
  obtain ⟨A, c, e, hc, hs⟩ := h
  refine ⟨A, c, e, hc, fun hn => ?_⟩
  obtain ⟨b, o, cur, hA, hb, hcur⟩ := hs hn
  exact ⟨b, o, cur, hA, hb.far (p := ⟨B, i, none⟩) (hb.apart hB ht) u, hcur⟩
end Go.Proofs.YtecmeegnjjhilaaGreatDoor

/- The document's plain: what it returns. -/
namespace Go.Proofs.YtecmeegnjjhilaaGreatDoor
open Go.RowKit
def allF : List UInt8 := [65, 66, 67, 73, 85]
def selF (f : Int) (k : Nat) : List UInt8 := (allF.take k).filter fun c => usesB f (c.toNat : Int)
theorem selF_next (f : Int) (k : Nat) (c : UInt8) (n : Int) (hn : (c.toNat : Int) = n) (h : allF[k]? = some c) : selF f (k + 1) = if usesB f n = true then selF f k ++ [c] else selF f k := by
  subst hn
  unfold selF
  rw [List.take_add_one, h, List.filter_append]
  by_cases hu : usesB f (c.toNat : Int) = true
  · rw [if_pos hu]; simp [hu]
  · rw [if_neg hu]; simp [hu]
theorem selF_all (f : Int) (hf : 0 ≤ f ∧ f ≤ 7) : selF f 5 = fieldsR f := by
  have h : f = 0 ∨ f = 1 ∨ f = 2 ∨ f = 3 ∨ f = 4 ∨ f = 5 ∨ f = 6 ∨ f = 7 := by omega
  rcases h with rfl | rfl | rfl | rfl | rfl | rfl | rfl | rfl <;> decide
theorem fieldsR_mem (f : Int) : ∀ c ∈ fieldsR f, c = 65 ∨ c = 66 ∨ c = 67 ∨ c = 73 ∨ c = 85 := by
  intro c hc
  have h : (fieldsR f).all (fun c => c == 65 || c == 66 || c == 67 || c == 73 || c == 85) = true := by
    unfold fieldsR
    repeat' split
    all_goals decide
  have := List.all_eq_true.1 h c hc
  simpa [or_assoc] using this
def cellsP (p : Part) : Array Value := #[.int .i64 p.ins.op, .int .i64 p.ins.a, .int .i64 p.ins.b, .int .i64 p.ins.c, .int .i64 p.ins.imm, .int .u32 p.raw, .bool p.fixed, .string ⟨p.label.toArray⟩, .bool p.far, .int .i64 p.line]
theorem zip_at {F : List UInt8} {L : List (List UInt8)} {k : Nat} {c : UInt8} {x : List UInt8} (hc : F[k]? = some c) (hx : L[k]? = some x) : (F.zip L).drop k = (c, x) :: (F.zip L).drop (k + 1) := by
  have h : (F.zip L)[k]? = some (c, x) := by rw [List.getElem?_zip_eq_some]; exact ⟨hc, hx⟩
  obtain ⟨hl, he⟩ := List.getElem?_eq_some_iff.1 h
  rw [List.drop_eq_getElem_cons hl, he]

set_option maxHeartbeats 8000000 in
set_option maxRecDepth 100000 in
theorem plain_any (op : Int) (A : Option Addr) (n cp : Nat) (ss : List ByteArray) (hss : ∀ s ∈ ss, s.size ≤ 100000000) (hn8 : n ≤ 1000000000) (w : World) (hW : StrsV w (.slice A n cp) ss) :
    Calls Tryz.prog 123 #[.int .i64 op, .slice A n cp] w fun e w' => e = .returned (.tuple #[.agg (cellsP (plainR op (ss.map fun s => s.data.toList)).1), .int .i64 (plainR op (ss.map fun s => s.data.toList)).2]) ∧ Below w.heap.size w w' := by
  have hn : ss.length = n := by
    obtain ⟨_, _, e, _⟩ := hW
    injection e with _ e2 _
    exact e2.symm
  have HSs := Lib.hid hss
  generalize hR : plainR op (ss.map fun s => s.data.toList) = R
  unfold plainR at hR
  have HR := Lib.hid hR
  have HF := Lib.hid (fun W => RForm_any op W)
  have Hf7 : Hid (0 ≤ formOf op ∧ formOf op ≤ 7) := Lib.hid (form_range op)
  have HI := Lib.hid (fun (s : ByteArray) (hs : s.size ≤ 100000000) W => Rimm_any op s hs W)
  generalize loR op = lo at HR HI
  generalize hiR op = hi at HR HI
  clear hR hss
  generalize formOf op = f at HF Hf7 HR
  have hr := Below.refl w.heap.size w
  go_enter Tryz.func123, Tryz.ntmps123
  go_wp2_with fail
  have hR2 : Blk ((w.alloc (.cells #[.int .i64 0, .int .i64 0, .int .i64 0, .int .i64 0, .int .i64 0, .int .u32 0, .bool false, .string ⟨#[]⟩, .bool false, .int .i64 0] 121)).alloc (.cells #[.int .i64 op, .int .i64 0, .int .i64 0, .int .i64 0, .int .i64 0, .int .u32 0, .bool false, .string ⟨#[]⟩, .bool false, .int .i64 0] 121)) w.heap.size 121 #[.int .i64 0, .int .i64 0, .int .i64 0, .int .i64 0, .int .i64 0, .int .u32 0, .bool false, .string ⟨#[]⟩, .bool false, .int .i64 0] := (Blk.new w 121 #[.int .i64 0, .int .i64 0, .int .i64 0, .int .i64 0, .int .i64 0, .int .u32 0, .bool false, .string ⟨#[]⟩, .bool false, .int .i64 0]).alloc _
  have hP2 : Blk ((w.alloc (.cells #[.int .i64 0, .int .i64 0, .int .i64 0, .int .i64 0, .int .i64 0, .int .u32 0, .bool false, .string ⟨#[]⟩, .bool false, .int .i64 0] 121)).alloc (.cells #[.int .i64 op, .int .i64 0, .int .i64 0, .int .i64 0, .int .i64 0, .int .u32 0, .bool false, .string ⟨#[]⟩, .bool false, .int .i64 0] 121)) (w.heap.size + 1) 121 #[.int .i64 op, .int .i64 0, .int .i64 0, .int .i64 0, .int .i64 0, .int .u32 0, .bool false, .string ⟨#[]⟩, .bool false, .int .i64 0] := by
    have := Blk.new (w.alloc (.cells #[.int .i64 0, .int .i64 0, .int .i64 0, .int .i64 0, .int .i64 0, .int .u32 0, .bool false, .string ⟨#[]⟩, .bool false, .int .i64 0] 121)) 121 #[.int .i64 op, .int .i64 0, .int .i64 0, .int .i64 0, .int .i64 0, .int .u32 0, .bool false, .string ⟨#[]⟩, .bool false, .int .i64 0]
    simpa using this
  have hb2 : Below w.heap.size w ((w.alloc (.cells #[.int .i64 0, .int .i64 0, .int .i64 0, .int .i64 0, .int .i64 0, .int .u32 0, .bool false, .string ⟨#[]⟩, .bool false, .int .i64 0] 121)).alloc (.cells #[.int .i64 op, .int .i64 0, .int .i64 0, .int .i64 0, .int .i64 0, .int .u32 0, .bool false, .string ⟨#[]⟩, .bool false, .int .i64 0] 121)) := (hr.alloc (Nat.le_refl _) _).alloc (by simp) _
  have hV2 : StrsV ((w.alloc (.cells #[.int .i64 0, .int .i64 0, .int .i64 0, .int .i64 0, .int .i64 0, .int .u32 0, .bool false, .string ⟨#[]⟩, .bool false, .int .i64 0] 121)).alloc (.cells #[.int .i64 op, .int .i64 0, .int .i64 0, .int .i64 0, .int .i64 0, .int .u32 0, .bool false, .string ⟨#[]⟩, .bool false, .int .i64 0] 121)) (.slice A n cp) ss := hW.keep (Keeps.of_below hb2)
  refine (HF.out _).mono ?_
  rintro e w1 ⟨rfl, rfl⟩
  clear HF hr hW
  generalize ((w.alloc (.cells #[.int .i64 0, .int .i64 0, .int .i64 0, .int .i64 0, .int .i64 0, .int .u32 0, .bool false, .string ⟨#[]⟩, .bool false, .int .i64 0] 121)).alloc (.cells #[.int .i64 op, .int .i64 0, .int .i64 0, .int .i64 0, .int .i64 0, .int .u32 0, .bool false, .string ⟨#[]⟩, .bool false, .int .i64 0] 121)) = w2 at hR2 hP2 hb2 hV2 ⊢
  go_wp2_with fail
  go_loopw [8, 10] (fun s8 s10 wr => ∃ k : Nat, k ≤ 5 ∧ s10 = .int .i64 k ∧ s8 = .string ⟨(selF f k).toArray⟩ ∧ Blk wr w.heap.size 121 #[.int .i64 0, .int .i64 0, .int .i64 0, .int .i64 0, .int .i64 0, .int .u32 0, .bool false, .string ⟨#[]⟩, .bool false, .int .i64 0] ∧ Blk wr (w.heap.size + 1) 121 #[.int .i64 op, .int .i64 0, .int .i64 0, .int .i64 0, .int .i64 0, .int .u32 0, .bool false, .string ⟨#[]⟩, .bool false, .int .i64 0] ∧ StrsV wr (.slice A n cp) ss ∧ Below w.heap.size w wr) (fun _ s10 _ => 5 - (intOf s10).toNat)
  case atStart => exact ⟨0, by omega, rfl, rfl, hR2, hP2, hV2, hb2⟩
  case round =>
    obtain ⟨k, hk, rfl, rfl, hRr, hPr, hVr, hbr⟩ := hrel
    clear hR2 hP2 hb2 hV2
    have hk5 : k = 0 ∨ k = 1 ∨ k = 2 ∨ k = 3 ∨ k = 4 ∨ 5 ≤ k := by omega
    rcases hk5 with rfl | rfl | rfl | rfl | rfl | hk5
    · have hsf := Lib.hid (selF_next f 0 65 65 rfl rfl)
      have HU := Lib.hid (fun W => Uses_any f 65 Hf7.out W)
      have hsz : (selF f 0).length ≤ 5 := Nat.le_trans (List.length_filter_le _ _) (by rw [List.length_take]; exact Nat.le_trans (Nat.min_le_right _ _) (by decide))
      have hsz2 : (⟨(selF f 0).toArray⟩ : ByteArray).size = (selF f 0).length := by rw [Lib.size_eq]
      cases hu : usesB f 65 with
      | true =>
        rw [hu] at HU
        have hs2 : Hid ((⟨(selF f 0).toArray⟩ : ByteArray) ++ (⟨#[65, 66, 67, 73, 85]⟩ : ByteArray).extract 0 1 = ⟨(selF f (0 + 1)).toArray⟩) := Lib.hid (by
          rw [hsf.out, if_pos hu]
          exact bytes_eq (by simp))
        clear hsf hu
        go_wp2_with fail
        refine (HU.out _).mono ?_
        rintro e wr ⟨rfl, rfl⟩
        go_wp2_with fail
        go_roundw
        case rel =>
          refine ⟨1, by omega, by go_num, ?_, hRr, hPr, hVr, hbr⟩
          rw [hs2.out]
        case measure => simp [intOf]
      | false =>
        rw [hu] at HU
        have hs2 : Hid (selF f 0 = selF f (0 + 1)) := Lib.hid (by rw [hsf.out, if_neg (by rw [hu]; decide)])
        clear hsf hu
        go_wp2_with fail
        refine (HU.out _).mono ?_
        rintro e wr ⟨rfl, rfl⟩
        go_wp2_with fail
        go_roundw
        case rel =>
          refine ⟨1, by omega, by go_num, ?_, hRr, hPr, hVr, hbr⟩
          rw [hs2.out]
        case measure => simp [intOf]
    · have hsf := Lib.hid (selF_next f 1 66 66 rfl rfl)
      have HU := Lib.hid (fun W => Uses_any f 66 Hf7.out W)
      have hsz : (selF f 1).length ≤ 5 := Nat.le_trans (List.length_filter_le _ _) (by rw [List.length_take]; exact Nat.le_trans (Nat.min_le_right _ _) (by decide))
      have hsz2 : (⟨(selF f 1).toArray⟩ : ByteArray).size = (selF f 1).length := by rw [Lib.size_eq]
      cases hu : usesB f 66 with
      | true =>
        rw [hu] at HU
        have hs2 : Hid ((⟨(selF f 1).toArray⟩ : ByteArray) ++ (⟨#[65, 66, 67, 73, 85]⟩ : ByteArray).extract 1 2 = ⟨(selF f (1 + 1)).toArray⟩) := Lib.hid (by
          rw [hsf.out, if_pos hu]
          exact bytes_eq (by simp))
        clear hsf hu
        go_wp2_with fail
        refine (HU.out _).mono ?_
        rintro e wr ⟨rfl, rfl⟩
        go_wp2_with fail
        go_roundw
        case rel =>
          refine ⟨2, by omega, by go_num, ?_, hRr, hPr, hVr, hbr⟩
          rw [hs2.out]
        case measure => simp [intOf]
      | false =>
        rw [hu] at HU
        have hs2 : Hid (selF f 1 = selF f (1 + 1)) := Lib.hid (by rw [hsf.out, if_neg (by rw [hu]; decide)])
        clear hsf hu
        go_wp2_with fail
        refine (HU.out _).mono ?_
        rintro e wr ⟨rfl, rfl⟩
        go_wp2_with fail
        go_roundw
        case rel =>
          refine ⟨2, by omega, by go_num, ?_, hRr, hPr, hVr, hbr⟩
          rw [hs2.out]
        case measure => simp [intOf]
    · have hsf := Lib.hid (selF_next f 2 67 67 rfl rfl)
      have HU := Lib.hid (fun W => Uses_any f 67 Hf7.out W)
      have hsz : (selF f 2).length ≤ 5 := Nat.le_trans (List.length_filter_le _ _) (by rw [List.length_take]; exact Nat.le_trans (Nat.min_le_right _ _) (by decide))
      have hsz2 : (⟨(selF f 2).toArray⟩ : ByteArray).size = (selF f 2).length := by rw [Lib.size_eq]
      cases hu : usesB f 67 with
      | true =>
        rw [hu] at HU
        have hs2 : Hid ((⟨(selF f 2).toArray⟩ : ByteArray) ++ (⟨#[65, 66, 67, 73, 85]⟩ : ByteArray).extract 2 3 = ⟨(selF f (2 + 1)).toArray⟩) := Lib.hid (by
          rw [hsf.out, if_pos hu]
          exact bytes_eq (by simp))
        clear hsf hu
        go_wp2_with fail
        refine (HU.out _).mono ?_
        rintro e wr ⟨rfl, rfl⟩
        go_wp2_with fail
        go_roundw
        case rel =>
          refine ⟨3, by omega, by go_num, ?_, hRr, hPr, hVr, hbr⟩
          rw [hs2.out]
        case measure => simp [intOf]
      | false =>
        rw [hu] at HU
        have hs2 : Hid (selF f 2 = selF f (2 + 1)) := Lib.hid (by rw [hsf.out, if_neg (by rw [hu]; decide)])
        clear hsf hu
        go_wp2_with fail
        refine (HU.out _).mono ?_
        rintro e wr ⟨rfl, rfl⟩
        go_wp2_with fail
        go_roundw
        case rel =>
          refine ⟨3, by omega, by go_num, ?_, hRr, hPr, hVr, hbr⟩
          rw [hs2.out]
        case measure => simp [intOf]
    · have hsf := Lib.hid (selF_next f 3 73 73 rfl rfl)
      have HU := Lib.hid (fun W => Uses_any f 73 Hf7.out W)
      have hsz : (selF f 3).length ≤ 5 := Nat.le_trans (List.length_filter_le _ _) (by rw [List.length_take]; exact Nat.le_trans (Nat.min_le_right _ _) (by decide))
      have hsz2 : (⟨(selF f 3).toArray⟩ : ByteArray).size = (selF f 3).length := by rw [Lib.size_eq]
      cases hu : usesB f 73 with
      | true =>
        rw [hu] at HU
        have hs2 : Hid ((⟨(selF f 3).toArray⟩ : ByteArray) ++ (⟨#[65, 66, 67, 73, 85]⟩ : ByteArray).extract 3 4 = ⟨(selF f (3 + 1)).toArray⟩) := Lib.hid (by
          rw [hsf.out, if_pos hu]
          exact bytes_eq (by simp))
        clear hsf hu
        go_wp2_with fail
        refine (HU.out _).mono ?_
        rintro e wr ⟨rfl, rfl⟩
        go_wp2_with fail
        go_roundw
        case rel =>
          refine ⟨4, by omega, by go_num, ?_, hRr, hPr, hVr, hbr⟩
          rw [hs2.out]
        case measure => simp [intOf]
      | false =>
        rw [hu] at HU
        have hs2 : Hid (selF f 3 = selF f (3 + 1)) := Lib.hid (by rw [hsf.out, if_neg (by rw [hu]; decide)])
        clear hsf hu
        go_wp2_with fail
        refine (HU.out _).mono ?_
        rintro e wr ⟨rfl, rfl⟩
        go_wp2_with fail
        go_roundw
        case rel =>
          refine ⟨4, by omega, by go_num, ?_, hRr, hPr, hVr, hbr⟩
          rw [hs2.out]
        case measure => simp [intOf]
    · have hsf := Lib.hid (selF_next f 4 85 85 rfl rfl)
      have HU := Lib.hid (fun W => Uses_any f 85 Hf7.out W)
      have hsz : (selF f 4).length ≤ 5 := Nat.le_trans (List.length_filter_le _ _) (by rw [List.length_take]; exact Nat.le_trans (Nat.min_le_right _ _) (by decide))
      have hsz2 : (⟨(selF f 4).toArray⟩ : ByteArray).size = (selF f 4).length := by rw [Lib.size_eq]
      cases hu : usesB f 85 with
      | true =>
        rw [hu] at HU
        have hs2 : Hid ((⟨(selF f 4).toArray⟩ : ByteArray) ++ (⟨#[65, 66, 67, 73, 85]⟩ : ByteArray).extract 4 5 = ⟨(selF f (4 + 1)).toArray⟩) := Lib.hid (by
          rw [hsf.out, if_pos hu]
          exact bytes_eq (by simp))
        clear hsf hu
        go_wp2_with fail
        refine (HU.out _).mono ?_
        rintro e wr ⟨rfl, rfl⟩
        go_wp2_with fail
        go_roundw
        case rel =>
          refine ⟨5, by omega, by go_num, ?_, hRr, hPr, hVr, hbr⟩
          rw [hs2.out]
        case measure => simp [intOf]
      | false =>
        rw [hu] at HU
        have hs2 : Hid (selF f 4 = selF f (4 + 1)) := Lib.hid (by rw [hsf.out, if_neg (by rw [hu]; decide)])
        clear hsf hu
        go_wp2_with fail
        refine (HU.out _).mono ?_
        rintro e wr ⟨rfl, rfl⟩
        go_wp2_with fail
        go_roundw
        case rel =>
          refine ⟨5, by omega, by go_num, ?_, hRr, hPr, hVr, hbr⟩
          rw [hs2.out]
        case measure => simp [intOf]
    · have hsa : selF f k = fieldsR f := by
        have : k = 5 := by omega
        rw [this]
        exact selF_all f Hf7.out
      have hk5' : (5 : Int) ≤ (k : Int) := by omega
      rw [hsa]
      clear hsa
      have HFm := Lib.hid (fieldsR_mem f)
      generalize fieldsR f = F at HR HFm ⊢
      have hFz : (⟨F.toArray⟩ : ByteArray).size = F.length := by rw [Lib.size_eq]
      have hFb : Hid (∀ k c, F[k]? = some c → ∃ h : k < (⟨F.toArray⟩ : ByteArray).size, (⟨F.toArray⟩ : ByteArray)[k]'h = c) := Lib.hid (fun k c h => by
        obtain ⟨hl, he⟩ := List.getElem?_eq_some_iff.1 h
        exact ⟨by rw [hFz]; exact hl, he⟩)
      by_cases hnf : n = F.length
      · have HR2 : Hid (R = goR lo hi op (F.zip (ss.map fun s => s.data.toList)) (partI ⟨op, 0, 0, 0, 0⟩)) := Lib.hid (by rw [← HR.out, if_neg (by rw [List.length_map]; omega)])
        have d1 : ((n : Int) == ((⟨F.toArray⟩ : ByteArray).size : Int)) = true := by rw [hFz, hnf]; simp
        have d2 : ((n : Int) != ((⟨F.toArray⟩ : ByteArray).size : Int)) = false := by rw [hFz, hnf]; simp
        have HNF := Lib.hid hnf
        clear HR
        go_wp2_with fail
        clear d1 d2 hnf
        go_loopw [11] (fun s11 wr => ∃ (k : Nat) (a b c m : Int) (lb : List UInt8), k ≤ n ∧ s11 = .int .i64 k ∧ Hid (R = goR lo hi op ((F.zip (ss.map fun s => s.data.toList)).drop k) ⟨⟨op, a, b, c, m⟩, 0, false, lb, false, 0⟩) ∧ Blk wr w.heap.size 121 #[.int .i64 0, .int .i64 0, .int .i64 0, .int .i64 0, .int .i64 0, .int .u32 0, .bool false, .string ⟨#[]⟩, .bool false, .int .i64 0] ∧ Blk wr (w.heap.size + 1) 121 #[.int .i64 op, .int .i64 a, .int .i64 b, .int .i64 c, .int .i64 m, .int .u32 0, .bool false, .string ⟨lb.toArray⟩, .bool false, .int .i64 0] ∧ StrsV wr (.slice A n cp) ss ∧ Below w.heap.size w wr) (fun s11 _ => n - (intOf s11).toNat)
        case atStart => exact ⟨0, 0, 0, 0, 0, [], by omega, rfl, Lib.hid (by rw [HR2.out]; rfl), hRr, hPr, hVr, hbr⟩
        case round =>
          clear HR2 hRr hPr hVr hbr
          obtain ⟨k, a, b, c, m, lb, hk, rfl, HG, hRr, hPr, hVr, hbr⟩ := hrel
          by_cases hlt : k < n
          · have hkl : k < ss.length := by omega
            obtain ⟨x, hx⟩ : ∃ x, ss[k]? = some x := ⟨_, List.getElem?_eq_getElem hkl⟩
            obtain ⟨c0, hc0⟩ : ∃ c0, F[k]? = some c0 := ⟨_, List.getElem?_eq_getElem (by have := HNF.out; omega)⟩
            obtain ⟨hkF, hkc⟩ := hFb.out k c0 hc0
            have hxs := HSs.out x (List.mem_of_getElem? hx)
            obtain ⟨b0, o0, rfl, hxc⟩ := hVr.at_ k x hx
            have hxm : (ss.map fun s => s.data.toList)[k]? = some x.data.toList := by rw [List.getElem?_map, hx]; rfl
            have HGc : Hid (R = goR lo hi op ((c0, x.data.toList) :: (F.zip (ss.map fun s => s.data.toList)).drop (k + 1)) ⟨⟨op, a, b, c, m⟩, 0, false, lb, false, 0⟩) := Lib.hid (by rw [HG.out, zip_at hc0 hxm])
            have hmc := HFm.out c0 (List.mem_of_getElem? hc0)
            clear hxm HG hc0 hx hFb HFm
            have hmc2 : c0 = 73 ∨ c0 = 85 ∨ (c0 = 65 ∨ c0 = 66 ∨ c0 = 67) := by rcases hmc with h | h | h | h | h <;> simp [h]
            clear hmc
            rcases hmc2 with rfl | rfl | hmc
            · have e1 : (((⟨F.toArray⟩ : ByteArray)[k]'hkF).toNat : Int) = 73 := by rw [hkc]; rfl
              have e2 : ((((⟨F.toArray⟩ : ByteArray)[k]'hkF).toNat : Int) == 73) = true := by rw [e1]; rfl
              have e3 : ((((⟨F.toArray⟩ : ByteArray)[k]'hkF).toNat : Int) == 85) = false := by rw [e1]; rfl
              have HG2 : Hid (R = if (immR lo hi op x.data.toList).2.2 ≠ 0 then (⟨⟨op, a, b, c, m⟩, 0, false, lb, false, 0⟩, (immR lo hi op x.data.toList).2.2) else goR lo hi op ((F.zip (ss.map fun s => s.data.toList)).drop (k + 1)) ⟨⟨op, a, b, c, (immR lo hi op x.data.toList).1⟩, 0, false, (immR lo hi op x.data.toList).2.1, false, 0⟩) := Lib.hid (by rw [HGc.out, goR, if_pos (by decide)])
              have HIx := Lib.hid (fun W => HI.out x hxs W)
              clear HGc HI hxs e1 hkc
              generalize immR lo hi op x.data.toList = q at HG2 HIx
              obtain ⟨v, l2, en⟩ := q
              go_wp2_with fail
              refine (HIx.out _).mono ?_
              rintro e w4 ⟨rfl, hb4⟩
              clear HIx
              have hPr := hPr.below hb4 hPr.lt
              have hRr := hRr.below hb4 hRr.lt
              have hVr := hVr.below hb4
              have hbr : Below w.heap.size w w4 := hbr.trans (hb4.mono hbr.size)
              clear hb4 hxc
              by_cases h0 : en = 0
              · subst h0
                have HG3 : Hid (R = goR lo hi op ((F.zip (ss.map fun s => s.data.toList)).drop (k + 1)) ⟨⟨op, a, b, c, v⟩, 0, false, l2, false, 0⟩) := Lib.hid (by rw [HG2.out]; exact if_neg (by simp))
                clear HG2
                have p0 : w4.cell? ⟨w.heap.size + 1, 0, none⟩ = some (.int .i64 op) := hPr.cell 0
                have p1 : w4.cell? ⟨w.heap.size + 1, 1, none⟩ = some (.int .i64 a) := hPr.cell 1
                have p2 : w4.cell? ⟨w.heap.size + 1, 2, none⟩ = some (.int .i64 b) := hPr.cell 2
                have p3 : w4.cell? ⟨w.heap.size + 1, 3, none⟩ = some (.int .i64 c) := hPr.cell 3
                have p4 : w4.cell? ⟨w.heap.size + 1, 4, none⟩ = some (.int .i64 m) := hPr.cell 4
                have p5 : w4.cell? ⟨w.heap.size + 1, 5, none⟩ = some (.int .u32 0) := hPr.cell 5
                have p6 : w4.cell? ⟨w.heap.size + 1, 6, none⟩ = some (.bool false) := hPr.cell 6
                have p7 : w4.cell? ⟨w.heap.size + 1, 7, none⟩ = some (.string ⟨lb.toArray⟩) := hPr.cell 7
                have p8 : w4.cell? ⟨w.heap.size + 1, 8, none⟩ = some (.bool false) := hPr.cell 8
                have p9 : w4.cell? ⟨w.heap.size + 1, 9, none⟩ = some (.int .i64 0) := hPr.cell 9
                have y0 : w4.cell? ⟨w.heap.size, 0, none⟩ = some (.int .i64 0) := hRr.cell 0
                have y1 : w4.cell? ⟨w.heap.size, 1, none⟩ = some (.int .i64 0) := hRr.cell 1
                have y2 : w4.cell? ⟨w.heap.size, 2, none⟩ = some (.int .i64 0) := hRr.cell 2
                have y3 : w4.cell? ⟨w.heap.size, 3, none⟩ = some (.int .i64 0) := hRr.cell 3
                have y4 : w4.cell? ⟨w.heap.size, 4, none⟩ = some (.int .i64 0) := hRr.cell 4
                have y5 : w4.cell? ⟨w.heap.size, 5, none⟩ = some (.int .u32 0) := hRr.cell 5
                have y6 : w4.cell? ⟨w.heap.size, 6, none⟩ = some (.bool false) := hRr.cell 6
                have y7 : w4.cell? ⟨w.heap.size, 7, none⟩ = some (.string ⟨#[]⟩) := hRr.cell 7
                have y8 : w4.cell? ⟨w.heap.size, 8, none⟩ = some (.bool false) := hRr.cell 8
                have y9 : w4.cell? ⟨w.heap.size, 9, none⟩ = some (.int .i64 0) := hRr.cell 9
                have z0 : w4.frozen? ⟨w.heap.size, 0, none⟩ = false := hRr.frozen 0
                have z1 : w4.frozen? ⟨w.heap.size, 1, none⟩ = false := hRr.frozen 1
                have z2 : w4.frozen? ⟨w.heap.size, 2, none⟩ = false := hRr.frozen 2
                have z3 : w4.frozen? ⟨w.heap.size, 3, none⟩ = false := hRr.frozen 3
                have z4 : w4.frozen? ⟨w.heap.size, 4, none⟩ = false := hRr.frozen 4
                have z5 : w4.frozen? ⟨w.heap.size, 5, none⟩ = false := hRr.frozen 5
                have z6 : w4.frozen? ⟨w.heap.size, 6, none⟩ = false := hRr.frozen 6
                have z7 : w4.frozen? ⟨w.heap.size, 7, none⟩ = false := hRr.frozen 7
                have z8 : w4.frozen? ⟨w.heap.size, 8, none⟩ = false := hRr.frozen 8
                have z9 : w4.frozen? ⟨w.heap.size, 9, none⟩ = false := hRr.frozen 9
                have g4 : w4.frozen? ⟨w.heap.size + 1, 4, none⟩ = false := hPr.frozen 4
                have g7 : w4.frozen? ⟨w.heap.size + 1, 7, none⟩ = false := hPr.frozen 7
                have hP5 : Blk ((w4.setCell ⟨w.heap.size + 1, 4, none⟩ (.int .i64 v)).setCell ⟨w.heap.size + 1, 7, none⟩ (.string ⟨l2.toArray⟩)) (w.heap.size + 1) 121 #[.int .i64 op, .int .i64 a, .int .i64 b, .int .i64 c, .int .i64 v, .int .u32 0, .bool false, .string ⟨l2.toArray⟩, .bool false, .int .i64 0] := (hPr.store 4 _).store 7 _
                have hR5 : Blk ((w4.setCell ⟨w.heap.size + 1, 4, none⟩ (.int .i64 v)).setCell ⟨w.heap.size + 1, 7, none⟩ (.string ⟨l2.toArray⟩)) w.heap.size 121 #[.int .i64 0, .int .i64 0, .int .i64 0, .int .i64 0, .int .i64 0, .int .u32 0, .bool false, .string ⟨#[]⟩, .bool false, .int .i64 0] := (hRr.far (by simp) _).far (by simp) _
                have hV5 : StrsV ((w4.setCell ⟨w.heap.size + 1, 4, none⟩ (.int .i64 v)).setCell ⟨w.heap.size + 1, 7, none⟩ (.string ⟨l2.toArray⟩)) (.slice (some ⟨b0, o0, none⟩) n cp) ss := (hVr.store hPr (by decide) 4 _).store (hPr.store 4 _) (by decide) 7 _
                have hb5 : Below w.heap.size w ((w4.setCell ⟨w.heap.size + 1, 4, none⟩ (.int .i64 v)).setCell ⟨w.heap.size + 1, 7, none⟩ (.string ⟨l2.toArray⟩)) := (hbr.setCell (by simp) _).setCell (by simp) _
                go_wp2_with fail
                go_roundw
                case rel =>
                  exact ⟨k + 1, a, b, c, v, l2, by omega, by go_num, HG3, hR5, hP5, hV5, hb5⟩
                case measure => simp [intOf]; omega
              · have HQ : Hid (R = (⟨⟨op, a, b, c, m⟩, 0, false, lb, false, 0⟩, en)) := Lib.hid (by rw [HG2.out]; exact if_pos h0)
                have d1 : ((en : Int) == 0) = false := by rw [beq_eq_false_iff_ne]; omega
                have d2 : ((en : Int) != 0) = true := by simp; omega
                clear HG2
                have p0 : w4.cell? ⟨w.heap.size + 1, 0, none⟩ = some (.int .i64 op) := hPr.cell 0
                have p1 : w4.cell? ⟨w.heap.size + 1, 1, none⟩ = some (.int .i64 a) := hPr.cell 1
                have p2 : w4.cell? ⟨w.heap.size + 1, 2, none⟩ = some (.int .i64 b) := hPr.cell 2
                have p3 : w4.cell? ⟨w.heap.size + 1, 3, none⟩ = some (.int .i64 c) := hPr.cell 3
                have p4 : w4.cell? ⟨w.heap.size + 1, 4, none⟩ = some (.int .i64 m) := hPr.cell 4
                have p5 : w4.cell? ⟨w.heap.size + 1, 5, none⟩ = some (.int .u32 0) := hPr.cell 5
                have p6 : w4.cell? ⟨w.heap.size + 1, 6, none⟩ = some (.bool false) := hPr.cell 6
                have p7 : w4.cell? ⟨w.heap.size + 1, 7, none⟩ = some (.string ⟨lb.toArray⟩) := hPr.cell 7
                have p8 : w4.cell? ⟨w.heap.size + 1, 8, none⟩ = some (.bool false) := hPr.cell 8
                have p9 : w4.cell? ⟨w.heap.size + 1, 9, none⟩ = some (.int .i64 0) := hPr.cell 9
                have y0 : w4.cell? ⟨w.heap.size, 0, none⟩ = some (.int .i64 0) := hRr.cell 0
                have y1 : w4.cell? ⟨w.heap.size, 1, none⟩ = some (.int .i64 0) := hRr.cell 1
                have y2 : w4.cell? ⟨w.heap.size, 2, none⟩ = some (.int .i64 0) := hRr.cell 2
                have y3 : w4.cell? ⟨w.heap.size, 3, none⟩ = some (.int .i64 0) := hRr.cell 3
                have y4 : w4.cell? ⟨w.heap.size, 4, none⟩ = some (.int .i64 0) := hRr.cell 4
                have y5 : w4.cell? ⟨w.heap.size, 5, none⟩ = some (.int .u32 0) := hRr.cell 5
                have y6 : w4.cell? ⟨w.heap.size, 6, none⟩ = some (.bool false) := hRr.cell 6
                have y7 : w4.cell? ⟨w.heap.size, 7, none⟩ = some (.string ⟨#[]⟩) := hRr.cell 7
                have y8 : w4.cell? ⟨w.heap.size, 8, none⟩ = some (.bool false) := hRr.cell 8
                have y9 : w4.cell? ⟨w.heap.size, 9, none⟩ = some (.int .i64 0) := hRr.cell 9
                have z0 : w4.frozen? ⟨w.heap.size, 0, none⟩ = false := hRr.frozen 0
                have z1 : w4.frozen? ⟨w.heap.size, 1, none⟩ = false := hRr.frozen 1
                have z2 : w4.frozen? ⟨w.heap.size, 2, none⟩ = false := hRr.frozen 2
                have z3 : w4.frozen? ⟨w.heap.size, 3, none⟩ = false := hRr.frozen 3
                have z4 : w4.frozen? ⟨w.heap.size, 4, none⟩ = false := hRr.frozen 4
                have z5 : w4.frozen? ⟨w.heap.size, 5, none⟩ = false := hRr.frozen 5
                have z6 : w4.frozen? ⟨w.heap.size, 6, none⟩ = false := hRr.frozen 6
                have z7 : w4.frozen? ⟨w.heap.size, 7, none⟩ = false := hRr.frozen 7
                have z8 : w4.frozen? ⟨w.heap.size, 8, none⟩ = false := hRr.frozen 8
                have z9 : w4.frozen? ⟨w.heap.size, 9, none⟩ = false := hRr.frozen 9
                go_wp2_with fail
                refine bodyPost_ret (v := .tuple #[.agg #[.int .i64 op, .int .i64 a, .int .i64 b, .int .i64 c, .int .i64 m, .int .u32 0, .bool false, .string ⟨lb.toArray⟩, .bool false, .int .i64 0], .int .i64 en]) (by simp [results, Tryz.results123, go_sem, y0, y1, y2, y3, y4, y5, y6, y7, y8, y9]) rfl ⟨?_, ?_⟩
                · rw [HQ.out]
                  rfl
                · exact (((((((((hbr.setCell (Nat.le_refl _) _).setCell (Nat.le_refl _) _).setCell (Nat.le_refl _) _).setCell (Nat.le_refl _) _).setCell (Nat.le_refl _) _).setCell (Nat.le_refl _) _).setCell (Nat.le_refl _) _).setCell (Nat.le_refl _) _).setCell (Nat.le_refl _) _).setCell (Nat.le_refl _) _
            · have e1 : (((⟨F.toArray⟩ : ByteArray)[k]'hkF).toNat : Int) = 85 := by rw [hkc]; rfl
              have e2 : ((((⟨F.toArray⟩ : ByteArray)[k]'hkF).toNat : Int) == 73) = false := by rw [e1]; rfl
              have e3 : ((((⟨F.toArray⟩ : ByteArray)[k]'hkF).toNat : Int) == 85) = true := by rw [e1]; rfl
              have HG2 : Hid (R = if (immR lo hi op x.data.toList).2.2 ≠ 0 then (⟨⟨op, a, b, c, m⟩, 0, false, lb, false, 0⟩, (immR lo hi op x.data.toList).2.2) else goR lo hi op ((F.zip (ss.map fun s => s.data.toList)).drop (k + 1)) ⟨⟨op, a, b, c, (immR lo hi op x.data.toList).1⟩, 0, false, (immR lo hi op x.data.toList).2.1, false, 0⟩) := Lib.hid (by rw [HGc.out, goR, if_pos (by decide)])
              have HIx := Lib.hid (fun W => HI.out x hxs W)
              clear HGc HI hxs e1 hkc
              generalize immR lo hi op x.data.toList = q at HG2 HIx
              obtain ⟨v, l2, en⟩ := q
              go_wp2_with fail
              refine (HIx.out _).mono ?_
              rintro e w4 ⟨rfl, hb4⟩
              clear HIx
              have hPr := hPr.below hb4 hPr.lt
              have hRr := hRr.below hb4 hRr.lt
              have hVr := hVr.below hb4
              have hbr : Below w.heap.size w w4 := hbr.trans (hb4.mono hbr.size)
              clear hb4 hxc
              by_cases h0 : en = 0
              · subst h0
                have HG3 : Hid (R = goR lo hi op ((F.zip (ss.map fun s => s.data.toList)).drop (k + 1)) ⟨⟨op, a, b, c, v⟩, 0, false, l2, false, 0⟩) := Lib.hid (by rw [HG2.out]; exact if_neg (by simp))
                clear HG2
                have p0 : w4.cell? ⟨w.heap.size + 1, 0, none⟩ = some (.int .i64 op) := hPr.cell 0
                have p1 : w4.cell? ⟨w.heap.size + 1, 1, none⟩ = some (.int .i64 a) := hPr.cell 1
                have p2 : w4.cell? ⟨w.heap.size + 1, 2, none⟩ = some (.int .i64 b) := hPr.cell 2
                have p3 : w4.cell? ⟨w.heap.size + 1, 3, none⟩ = some (.int .i64 c) := hPr.cell 3
                have p4 : w4.cell? ⟨w.heap.size + 1, 4, none⟩ = some (.int .i64 m) := hPr.cell 4
                have p5 : w4.cell? ⟨w.heap.size + 1, 5, none⟩ = some (.int .u32 0) := hPr.cell 5
                have p6 : w4.cell? ⟨w.heap.size + 1, 6, none⟩ = some (.bool false) := hPr.cell 6
                have p7 : w4.cell? ⟨w.heap.size + 1, 7, none⟩ = some (.string ⟨lb.toArray⟩) := hPr.cell 7
                have p8 : w4.cell? ⟨w.heap.size + 1, 8, none⟩ = some (.bool false) := hPr.cell 8
                have p9 : w4.cell? ⟨w.heap.size + 1, 9, none⟩ = some (.int .i64 0) := hPr.cell 9
                have y0 : w4.cell? ⟨w.heap.size, 0, none⟩ = some (.int .i64 0) := hRr.cell 0
                have y1 : w4.cell? ⟨w.heap.size, 1, none⟩ = some (.int .i64 0) := hRr.cell 1
                have y2 : w4.cell? ⟨w.heap.size, 2, none⟩ = some (.int .i64 0) := hRr.cell 2
                have y3 : w4.cell? ⟨w.heap.size, 3, none⟩ = some (.int .i64 0) := hRr.cell 3
                have y4 : w4.cell? ⟨w.heap.size, 4, none⟩ = some (.int .i64 0) := hRr.cell 4
                have y5 : w4.cell? ⟨w.heap.size, 5, none⟩ = some (.int .u32 0) := hRr.cell 5
                have y6 : w4.cell? ⟨w.heap.size, 6, none⟩ = some (.bool false) := hRr.cell 6
                have y7 : w4.cell? ⟨w.heap.size, 7, none⟩ = some (.string ⟨#[]⟩) := hRr.cell 7
                have y8 : w4.cell? ⟨w.heap.size, 8, none⟩ = some (.bool false) := hRr.cell 8
                have y9 : w4.cell? ⟨w.heap.size, 9, none⟩ = some (.int .i64 0) := hRr.cell 9
                have z0 : w4.frozen? ⟨w.heap.size, 0, none⟩ = false := hRr.frozen 0
                have z1 : w4.frozen? ⟨w.heap.size, 1, none⟩ = false := hRr.frozen 1
                have z2 : w4.frozen? ⟨w.heap.size, 2, none⟩ = false := hRr.frozen 2
                have z3 : w4.frozen? ⟨w.heap.size, 3, none⟩ = false := hRr.frozen 3
                have z4 : w4.frozen? ⟨w.heap.size, 4, none⟩ = false := hRr.frozen 4
                have z5 : w4.frozen? ⟨w.heap.size, 5, none⟩ = false := hRr.frozen 5
                have z6 : w4.frozen? ⟨w.heap.size, 6, none⟩ = false := hRr.frozen 6
                have z7 : w4.frozen? ⟨w.heap.size, 7, none⟩ = false := hRr.frozen 7
                have z8 : w4.frozen? ⟨w.heap.size, 8, none⟩ = false := hRr.frozen 8
                have z9 : w4.frozen? ⟨w.heap.size, 9, none⟩ = false := hRr.frozen 9
                have g4 : w4.frozen? ⟨w.heap.size + 1, 4, none⟩ = false := hPr.frozen 4
                have g7 : w4.frozen? ⟨w.heap.size + 1, 7, none⟩ = false := hPr.frozen 7
                have hP5 : Blk ((w4.setCell ⟨w.heap.size + 1, 4, none⟩ (.int .i64 v)).setCell ⟨w.heap.size + 1, 7, none⟩ (.string ⟨l2.toArray⟩)) (w.heap.size + 1) 121 #[.int .i64 op, .int .i64 a, .int .i64 b, .int .i64 c, .int .i64 v, .int .u32 0, .bool false, .string ⟨l2.toArray⟩, .bool false, .int .i64 0] := (hPr.store 4 _).store 7 _
                have hR5 : Blk ((w4.setCell ⟨w.heap.size + 1, 4, none⟩ (.int .i64 v)).setCell ⟨w.heap.size + 1, 7, none⟩ (.string ⟨l2.toArray⟩)) w.heap.size 121 #[.int .i64 0, .int .i64 0, .int .i64 0, .int .i64 0, .int .i64 0, .int .u32 0, .bool false, .string ⟨#[]⟩, .bool false, .int .i64 0] := (hRr.far (by simp) _).far (by simp) _
                have hV5 : StrsV ((w4.setCell ⟨w.heap.size + 1, 4, none⟩ (.int .i64 v)).setCell ⟨w.heap.size + 1, 7, none⟩ (.string ⟨l2.toArray⟩)) (.slice (some ⟨b0, o0, none⟩) n cp) ss := (hVr.store hPr (by decide) 4 _).store (hPr.store 4 _) (by decide) 7 _
                have hb5 : Below w.heap.size w ((w4.setCell ⟨w.heap.size + 1, 4, none⟩ (.int .i64 v)).setCell ⟨w.heap.size + 1, 7, none⟩ (.string ⟨l2.toArray⟩)) := (hbr.setCell (by simp) _).setCell (by simp) _
                go_wp2_with fail
                go_roundw
                case rel =>
                  exact ⟨k + 1, a, b, c, v, l2, by omega, by go_num, HG3, hR5, hP5, hV5, hb5⟩
                case measure => simp [intOf]; omega
              · have HQ : Hid (R = (⟨⟨op, a, b, c, m⟩, 0, false, lb, false, 0⟩, en)) := Lib.hid (by rw [HG2.out]; exact if_pos h0)
                have d1 : ((en : Int) == 0) = false := by rw [beq_eq_false_iff_ne]; omega
                have d2 : ((en : Int) != 0) = true := by simp; omega
                clear HG2
                have p0 : w4.cell? ⟨w.heap.size + 1, 0, none⟩ = some (.int .i64 op) := hPr.cell 0
                have p1 : w4.cell? ⟨w.heap.size + 1, 1, none⟩ = some (.int .i64 a) := hPr.cell 1
                have p2 : w4.cell? ⟨w.heap.size + 1, 2, none⟩ = some (.int .i64 b) := hPr.cell 2
                have p3 : w4.cell? ⟨w.heap.size + 1, 3, none⟩ = some (.int .i64 c) := hPr.cell 3
                have p4 : w4.cell? ⟨w.heap.size + 1, 4, none⟩ = some (.int .i64 m) := hPr.cell 4
                have p5 : w4.cell? ⟨w.heap.size + 1, 5, none⟩ = some (.int .u32 0) := hPr.cell 5
                have p6 : w4.cell? ⟨w.heap.size + 1, 6, none⟩ = some (.bool false) := hPr.cell 6
                have p7 : w4.cell? ⟨w.heap.size + 1, 7, none⟩ = some (.string ⟨lb.toArray⟩) := hPr.cell 7
                have p8 : w4.cell? ⟨w.heap.size + 1, 8, none⟩ = some (.bool false) := hPr.cell 8
                have p9 : w4.cell? ⟨w.heap.size + 1, 9, none⟩ = some (.int .i64 0) := hPr.cell 9
                have y0 : w4.cell? ⟨w.heap.size, 0, none⟩ = some (.int .i64 0) := hRr.cell 0
                have y1 : w4.cell? ⟨w.heap.size, 1, none⟩ = some (.int .i64 0) := hRr.cell 1
                have y2 : w4.cell? ⟨w.heap.size, 2, none⟩ = some (.int .i64 0) := hRr.cell 2
                have y3 : w4.cell? ⟨w.heap.size, 3, none⟩ = some (.int .i64 0) := hRr.cell 3
                have y4 : w4.cell? ⟨w.heap.size, 4, none⟩ = some (.int .i64 0) := hRr.cell 4
                have y5 : w4.cell? ⟨w.heap.size, 5, none⟩ = some (.int .u32 0) := hRr.cell 5
                have y6 : w4.cell? ⟨w.heap.size, 6, none⟩ = some (.bool false) := hRr.cell 6
                have y7 : w4.cell? ⟨w.heap.size, 7, none⟩ = some (.string ⟨#[]⟩) := hRr.cell 7
                have y8 : w4.cell? ⟨w.heap.size, 8, none⟩ = some (.bool false) := hRr.cell 8
                have y9 : w4.cell? ⟨w.heap.size, 9, none⟩ = some (.int .i64 0) := hRr.cell 9
                have z0 : w4.frozen? ⟨w.heap.size, 0, none⟩ = false := hRr.frozen 0
                have z1 : w4.frozen? ⟨w.heap.size, 1, none⟩ = false := hRr.frozen 1
                have z2 : w4.frozen? ⟨w.heap.size, 2, none⟩ = false := hRr.frozen 2
                have z3 : w4.frozen? ⟨w.heap.size, 3, none⟩ = false := hRr.frozen 3
                have z4 : w4.frozen? ⟨w.heap.size, 4, none⟩ = false := hRr.frozen 4
                have z5 : w4.frozen? ⟨w.heap.size, 5, none⟩ = false := hRr.frozen 5
                have z6 : w4.frozen? ⟨w.heap.size, 6, none⟩ = false := hRr.frozen 6
                have z7 : w4.frozen? ⟨w.heap.size, 7, none⟩ = false := hRr.frozen 7
                have z8 : w4.frozen? ⟨w.heap.size, 8, none⟩ = false := hRr.frozen 8
                have z9 : w4.frozen? ⟨w.heap.size, 9, none⟩ = false := hRr.frozen 9
                go_wp2_with fail
                refine bodyPost_ret (v := .tuple #[.agg #[.int .i64 op, .int .i64 a, .int .i64 b, .int .i64 c, .int .i64 m, .int .u32 0, .bool false, .string ⟨lb.toArray⟩, .bool false, .int .i64 0], .int .i64 en]) (by simp [results, Tryz.results123, go_sem, y0, y1, y2, y3, y4, y5, y6, y7, y8, y9]) rfl ⟨?_, ?_⟩
                · rw [HQ.out]
                  rfl
                · exact (((((((((hbr.setCell (Nat.le_refl _) _).setCell (Nat.le_refl _) _).setCell (Nat.le_refl _) _).setCell (Nat.le_refl _) _).setCell (Nat.le_refl _) _).setCell (Nat.le_refl _) _).setCell (Nat.le_refl _) _).setCell (Nat.le_refl _) _).setCell (Nat.le_refl _) _).setCell (Nat.le_refl _) _
            · have e1 : ((⟨F.toArray⟩ : ByteArray)[k]'hkF).toNat = c0.toNat := by rw [hkc]
              have e2 : ((((⟨F.toArray⟩ : ByteArray)[k]'hkF).toNat : Int) == 73) = false := by rw [e1]; rcases hmc with rfl | rfl | rfl <;> rfl
              have e3 : ((((⟨F.toArray⟩ : ByteArray)[k]'hkF).toNat : Int) == 85) = false := by rw [e1]; rcases hmc with rfl | rfl | rfl <;> rfl
              have E1 := Lib.hid e1
              clear e1 hkc
              have HX := Lib.hid (fun W => RRegister_any x hxs W)
              have hX15 := regP_le x.data.toList
              have HG1 : Hid (R = if regP x.data.toList < 0 then (⟨⟨op, a, b, c, m⟩, 0, false, lb, false, 0⟩, 18) else goR lo hi op ((F.zip (ss.map fun s => s.data.toList)).drop (k + 1)) ⟨setF ⟨op, a, b, c, m⟩ c0 (regP x.data.toList), 0, false, lb, false, 0⟩) := Lib.hid (by rw [HGc.out, goR, if_neg (by rcases hmc with rfl | rfl | rfl <;> decide)])
              clear HGc hxs
              generalize regP x.data.toList = X at HG1 HX hX15
              by_cases h0 : X < 0
              · have HQ : Hid (R = (⟨⟨op, a, b, c, m⟩, 0, false, lb, false, 0⟩, 18)) := Lib.hid (by rw [HG1.out]; exact if_pos h0)
                have d1 : decide (X < (0 : Int)) = true := by simpa using h0
                clear HG1
                go_wp2_with fail
                refine (HX.out _).mono ?_
                rintro e w4 ⟨rfl, hb4⟩
                clear HX
                have hPr := hPr.below hb4 hPr.lt
                have hRr := hRr.below hb4 hRr.lt
                have hbr : Below w.heap.size w w4 := hbr.trans (hb4.mono hbr.size)
                clear hb4 hxc hVr
                have p0 : w4.cell? ⟨w.heap.size + 1, 0, none⟩ = some (.int .i64 op) := hPr.cell 0
                have p1 : w4.cell? ⟨w.heap.size + 1, 1, none⟩ = some (.int .i64 a) := hPr.cell 1
                have p2 : w4.cell? ⟨w.heap.size + 1, 2, none⟩ = some (.int .i64 b) := hPr.cell 2
                have p3 : w4.cell? ⟨w.heap.size + 1, 3, none⟩ = some (.int .i64 c) := hPr.cell 3
                have p4 : w4.cell? ⟨w.heap.size + 1, 4, none⟩ = some (.int .i64 m) := hPr.cell 4
                have p5 : w4.cell? ⟨w.heap.size + 1, 5, none⟩ = some (.int .u32 0) := hPr.cell 5
                have p6 : w4.cell? ⟨w.heap.size + 1, 6, none⟩ = some (.bool false) := hPr.cell 6
                have p7 : w4.cell? ⟨w.heap.size + 1, 7, none⟩ = some (.string ⟨lb.toArray⟩) := hPr.cell 7
                have p8 : w4.cell? ⟨w.heap.size + 1, 8, none⟩ = some (.bool false) := hPr.cell 8
                have p9 : w4.cell? ⟨w.heap.size + 1, 9, none⟩ = some (.int .i64 0) := hPr.cell 9
                have y0 : w4.cell? ⟨w.heap.size, 0, none⟩ = some (.int .i64 0) := hRr.cell 0
                have y1 : w4.cell? ⟨w.heap.size, 1, none⟩ = some (.int .i64 0) := hRr.cell 1
                have y2 : w4.cell? ⟨w.heap.size, 2, none⟩ = some (.int .i64 0) := hRr.cell 2
                have y3 : w4.cell? ⟨w.heap.size, 3, none⟩ = some (.int .i64 0) := hRr.cell 3
                have y4 : w4.cell? ⟨w.heap.size, 4, none⟩ = some (.int .i64 0) := hRr.cell 4
                have y5 : w4.cell? ⟨w.heap.size, 5, none⟩ = some (.int .u32 0) := hRr.cell 5
                have y6 : w4.cell? ⟨w.heap.size, 6, none⟩ = some (.bool false) := hRr.cell 6
                have y7 : w4.cell? ⟨w.heap.size, 7, none⟩ = some (.string ⟨#[]⟩) := hRr.cell 7
                have y8 : w4.cell? ⟨w.heap.size, 8, none⟩ = some (.bool false) := hRr.cell 8
                have y9 : w4.cell? ⟨w.heap.size, 9, none⟩ = some (.int .i64 0) := hRr.cell 9
                have z0 : w4.frozen? ⟨w.heap.size, 0, none⟩ = false := hRr.frozen 0
                have z1 : w4.frozen? ⟨w.heap.size, 1, none⟩ = false := hRr.frozen 1
                have z2 : w4.frozen? ⟨w.heap.size, 2, none⟩ = false := hRr.frozen 2
                have z3 : w4.frozen? ⟨w.heap.size, 3, none⟩ = false := hRr.frozen 3
                have z4 : w4.frozen? ⟨w.heap.size, 4, none⟩ = false := hRr.frozen 4
                have z5 : w4.frozen? ⟨w.heap.size, 5, none⟩ = false := hRr.frozen 5
                have z6 : w4.frozen? ⟨w.heap.size, 6, none⟩ = false := hRr.frozen 6
                have z7 : w4.frozen? ⟨w.heap.size, 7, none⟩ = false := hRr.frozen 7
                have z8 : w4.frozen? ⟨w.heap.size, 8, none⟩ = false := hRr.frozen 8
                have z9 : w4.frozen? ⟨w.heap.size, 9, none⟩ = false := hRr.frozen 9
                go_wp2_with fail
                refine bodyPost_ret (v := .tuple #[.agg #[.int .i64 op, .int .i64 a, .int .i64 b, .int .i64 c, .int .i64 m, .int .u32 0, .bool false, .string ⟨lb.toArray⟩, .bool false, .int .i64 0], .int .i64 18]) (by simp [results, Tryz.results123, go_sem, y0, y1, y2, y3, y4, y5, y6, y7, y8, y9]) rfl ⟨?_, ?_⟩
                · rw [HQ.out]
                  rfl
                · exact (((((((((hbr.setCell (Nat.le_refl _) _).setCell (Nat.le_refl _) _).setCell (Nat.le_refl _) _).setCell (Nat.le_refl _) _).setCell (Nat.le_refl _) _).setCell (Nat.le_refl _) _).setCell (Nat.le_refl _) _).setCell (Nat.le_refl _) _).setCell (Nat.le_refl _) _).setCell (Nat.le_refl _) _
              · have d1 : decide (X < (0 : Int)) = false := by simpa using h0
                have hit : (⟨(Lib.itoa X).toArray⟩ : ByteArray).size ≤ 1000 := by rw [Lib.size_eq]; exact itoa_short X (by omega) (by omega)
                obtain ⟨a', b', c', hset, hW⟩ : ∃ a' b' c', setF ⟨op, a, b, c, m⟩ c0 X = ⟨op, a', b', c', m⟩ ∧ ∀ W, Calls Tryz.prog 57 #[.agg #[.int .i64 op, .int .i64 a, .int .i64 b, .int .i64 c, .int .i64 m], .int .u8 (((⟨F.toArray⟩ : ByteArray)[k]'hkF).toNat : Int), .string ⟨(Lib.itoa X).toArray⟩] W fun e w' => e = .returned (.agg #[.int .i64 op, .int .i64 a', .int .i64 b', .int .i64 c', .int .i64 m]) ∧ Below W.heap.size W w' := by
                  have hlo : looseP (⟨(Lib.itoa X).toArray⟩ : ByteArray).data.toList = X := loose_itoa X (by omega) (by omega)
                  rw [E1.out]
                  rcases hmc with rfl | rfl | rfl
                  · exact ⟨X, b, c, rfl, fun W => by have h := with_65 op a b c m ⟨(Lib.itoa X).toArray⟩ hit W; rw [hlo] at h; exact h⟩
                  · exact ⟨a, X, c, rfl, fun W => by have h := with_66 op a b c m ⟨(Lib.itoa X).toArray⟩ hit W; rw [hlo] at h; exact h⟩
                  · exact ⟨a, b, X, rfl, fun W => by have h := with_67 op a b c m ⟨(Lib.itoa X).toArray⟩ hit W; rw [hlo] at h; exact h⟩
                have HG3 : Hid (R = goR lo hi op ((F.zip (ss.map fun s => s.data.toList)).drop (k + 1)) ⟨⟨op, a', b', c', m⟩, 0, false, lb, false, 0⟩) := Lib.hid (by rw [HG1.out, if_neg h0, hset])
                have HW := Lib.hid (fun B L W (hK : Kept B L W) => hK.call (hW W))
                have HN := Lib.hid (fun B L W (hK : Kept B L W) => hK.call (Number10_any X (by omega) (by omega) W))
                clear HG1 hit hW hset hmc h0 E1
                go_wp2_with fail
                refine (HX.out _).mono ?_
                rintro e w4 ⟨rfl, hb4⟩
                clear HX
                have hPr := hPr.below hb4 hPr.lt
                have hRr := hRr.below hb4 hRr.lt
                have HVw := Lib.hid (fun W (hb : Below wr.heap.size wr W) => hVr.below hb)
                have hbr4 : Below w.heap.size w w4 := hbr.trans (hb4.mono hbr.size)
                have HKb : Hid (∀ W, Below w4.heap.size w4 W → Below wr.heap.size wr W) := Lib.hid (fun W h => hb4.trans (h.mono hb4.size))
                have hK0 : Kept w4 [] w4 := ⟨Below.refl _ _, fun i x h => by simp at h⟩
                have hK := (hK0.more hRr).more hPr
                have HS := Lib.hid (fun W (hK : Kept w4 [(w.heap.size + 1, 121, #[.int .i64 op, .int .i64 a, .int .i64 b, .int .i64 c, .int .i64 m, .int .u32 0, .bool false, .string ⟨lb.toArray⟩, .bool false, .int .i64 0]), (w.heap.size, 121, #[.int .i64 0, .int .i64 0, .int .i64 0, .int .i64 0, .int .i64 0, .int .u32 0, .bool false, .string ⟨#[]⟩, .bool false, .int .i64 0])] W) => (⟨(hK.at_ 0 rfl).cell 0, (hK.at_ 0 rfl).cell 1, (hK.at_ 0 rfl).cell 2, (hK.at_ 0 rfl).cell 3, (hK.at_ 0 rfl).cell 4, (hK.at_ 0 rfl).frozen 0, (hK.at_ 0 rfl).frozen 1, (hK.at_ 0 rfl).frozen 2, (hK.at_ 0 rfl).frozen 3, (hK.at_ 0 rfl).frozen 4⟩ :
                  W.cell? ⟨w.heap.size + 1, 0, none⟩ = some (.int .i64 op) ∧ W.cell? ⟨w.heap.size + 1, 1, none⟩ = some (.int .i64 a) ∧ W.cell? ⟨w.heap.size + 1, 2, none⟩ = some (.int .i64 b) ∧ W.cell? ⟨w.heap.size + 1, 3, none⟩ = some (.int .i64 c) ∧ W.cell? ⟨w.heap.size + 1, 4, none⟩ = some (.int .i64 m) ∧
                  W.frozen? ⟨w.heap.size + 1, 0, none⟩ = false ∧ W.frozen? ⟨w.heap.size + 1, 1, none⟩ = false ∧ W.frozen? ⟨w.heap.size + 1, 2, none⟩ = false ∧ W.frozen? ⟨w.heap.size + 1, 3, none⟩ = false ∧ W.frozen? ⟨w.heap.size + 1, 4, none⟩ = false))
                have HE := Lib.hid (fun w6 (hK6 : Kept w4 [(w.heap.size + 1, 121, #[.int .i64 op, .int .i64 a, .int .i64 b, .int .i64 c, .int .i64 m, .int .u32 0, .bool false, .string ⟨lb.toArray⟩, .bool false, .int .i64 0]), (w.heap.size, 121, #[.int .i64 0, .int .i64 0, .int .i64 0, .int .i64 0, .int .i64 0, .int .u32 0, .bool false, .string ⟨#[]⟩, .bool false, .int .i64 0])] w6) => (by
                  have hP6 := hK6.at_ 0 rfl
                  have hR6 := hK6.at_ 1 rfl
                  have hV6 := HVw.out _ (HKb.out _ hK6.1)
                  have hb6 : Below w.heap.size w w6 := hbr4.trans (hK6.1.mono hbr4.size)
                  refine ⟨((((hR6.far (by simp) _).far (by simp) _).far (by simp) _).far (by simp) _).far (by simp) _, ((((hP6.store 0 _).store 1 _).store 2 _).store 3 _).store 4 _, ?_, ((((hb6.setCell (by simp) _).setCell (by simp) _).setCell (by simp) _).setCell (by simp) _).setCell (by simp) _⟩
                  exact ((((hV6.store hP6 (by decide) 0 _).store (hP6.store 0 _) (by decide) 1 _).store ((hP6.store 0 _).store 1 _) (by decide) 2 _).store (((hP6.store 0 _).store 1 _).store 2 _) (by decide) 3 _).store ((((hP6.store 0 _).store 1 _).store 2 _).store 3 _) (by decide) 4 _ :
                  Blk (((((w6.setCell ⟨w.heap.size + 1, 0, none⟩ (.int .i64 op)).setCell ⟨w.heap.size + 1, 1, none⟩ (.int .i64 a')).setCell ⟨w.heap.size + 1, 2, none⟩ (.int .i64 b')).setCell ⟨w.heap.size + 1, 3, none⟩ (.int .i64 c')).setCell ⟨w.heap.size + 1, 4, none⟩ (.int .i64 m)) w.heap.size 121 #[.int .i64 0, .int .i64 0, .int .i64 0, .int .i64 0, .int .i64 0, .int .u32 0, .bool false, .string ⟨#[]⟩, .bool false, .int .i64 0] ∧ Blk (((((w6.setCell ⟨w.heap.size + 1, 0, none⟩ (.int .i64 op)).setCell ⟨w.heap.size + 1, 1, none⟩ (.int .i64 a')).setCell ⟨w.heap.size + 1, 2, none⟩ (.int .i64 b')).setCell ⟨w.heap.size + 1, 3, none⟩ (.int .i64 c')).setCell ⟨w.heap.size + 1, 4, none⟩ (.int .i64 m)) (w.heap.size + 1) 121 #[.int .i64 op, .int .i64 a', .int .i64 b', .int .i64 c', .int .i64 m, .int .u32 0, .bool false, .string ⟨lb.toArray⟩, .bool false, .int .i64 0] ∧ StrsV (((((w6.setCell ⟨w.heap.size + 1, 0, none⟩ (.int .i64 op)).setCell ⟨w.heap.size + 1, 1, none⟩ (.int .i64 a')).setCell ⟨w.heap.size + 1, 2, none⟩ (.int .i64 b')).setCell ⟨w.heap.size + 1, 3, none⟩ (.int .i64 c')).setCell ⟨w.heap.size + 1, 4, none⟩ (.int .i64 m)) (.slice (some ⟨b0, o0, none⟩) n cp) ss ∧ Below w.heap.size w (((((w6.setCell ⟨w.heap.size + 1, 0, none⟩ (.int .i64 op)).setCell ⟨w.heap.size + 1, 1, none⟩ (.int .i64 a')).setCell ⟨w.heap.size + 1, 2, none⟩ (.int .i64 b')).setCell ⟨w.heap.size + 1, 3, none⟩ (.int .i64 c')).setCell ⟨w.heap.size + 1, 4, none⟩ (.int .i64 m))))
                clear hPr hRr hVr hbr hb4 hxc HKb HVw hbr4 hK0
                go_wp2_with fail
                obtain ⟨p0, p1, p2, p3, p4, f0, f1, f2, f3, f4⟩ := HS.out w4 hK
                go_region_with (first
                  | (go_at_call 55; go_must (refine (HN.out _ _ _ (by first | assumption | exact Kept.drew (by assumption))).mono ?_); rintro e w5 ⟨rfl, hK5⟩; obtain ⟨q0, q1, q2, q3, q4, g0, g1, g2, g3, g4⟩ := HS.out _ hK5)
                  | (go_at_call 57; go_must (refine (HW.out _ _ _ (by assumption)).mono ?_); rintro e w6 ⟨rfl, hK6⟩; obtain ⟨r0, r1, r2, r3, r4, h0, h1, h2, h3, h4⟩ := HS.out _ hK6))
                all_goals
                  obtain ⟨hR7, hP7, hV7, hb7⟩ := HE.out _ hK6
                  clear HE HS hK hK6 hK5 p0 p1 p2 p3 p4 f0 f1 f2 f3 f4 q0 q1 q2 q3 q4 g0 g1 g2 g3 g4 r0 r1 r2 r3 r4 h0 h1 h2 h3 h4
                  go_wp2_with fail
                  go_roundw
                  case rel => exact ⟨k + 1, a', b', c', m, lb, by omega, by go_num, HG3, hR7, hP7, hV7, hb7⟩
                  case measure => simp [intOf]; omega
          · have hkn : (n : Int) ≤ (k : Int) := by omega
            have HQ : Hid (R = (⟨⟨op, a, b, c, m⟩, 0, false, lb, false, 0⟩, 0)) := Lib.hid (by
              rw [HG.out, List.drop_eq_nil_of_le (by rw [List.length_zip, List.length_map]; have := HNF.out; omega), goR])
            clear HG
            have p0 : wr.cell? ⟨w.heap.size + 1, 0, none⟩ = some (.int .i64 op) := hPr.cell 0
            have p1 : wr.cell? ⟨w.heap.size + 1, 1, none⟩ = some (.int .i64 a) := hPr.cell 1
            have p2 : wr.cell? ⟨w.heap.size + 1, 2, none⟩ = some (.int .i64 b) := hPr.cell 2
            have p3 : wr.cell? ⟨w.heap.size + 1, 3, none⟩ = some (.int .i64 c) := hPr.cell 3
            have p4 : wr.cell? ⟨w.heap.size + 1, 4, none⟩ = some (.int .i64 m) := hPr.cell 4
            have p5 : wr.cell? ⟨w.heap.size + 1, 5, none⟩ = some (.int .u32 0) := hPr.cell 5
            have p6 : wr.cell? ⟨w.heap.size + 1, 6, none⟩ = some (.bool false) := hPr.cell 6
            have p7 : wr.cell? ⟨w.heap.size + 1, 7, none⟩ = some (.string ⟨lb.toArray⟩) := hPr.cell 7
            have p8 : wr.cell? ⟨w.heap.size + 1, 8, none⟩ = some (.bool false) := hPr.cell 8
            have p9 : wr.cell? ⟨w.heap.size + 1, 9, none⟩ = some (.int .i64 0) := hPr.cell 9
            have y0 : wr.cell? ⟨w.heap.size, 0, none⟩ = some (.int .i64 0) := hRr.cell 0
            have y1 : wr.cell? ⟨w.heap.size, 1, none⟩ = some (.int .i64 0) := hRr.cell 1
            have y2 : wr.cell? ⟨w.heap.size, 2, none⟩ = some (.int .i64 0) := hRr.cell 2
            have y3 : wr.cell? ⟨w.heap.size, 3, none⟩ = some (.int .i64 0) := hRr.cell 3
            have y4 : wr.cell? ⟨w.heap.size, 4, none⟩ = some (.int .i64 0) := hRr.cell 4
            have y5 : wr.cell? ⟨w.heap.size, 5, none⟩ = some (.int .u32 0) := hRr.cell 5
            have y6 : wr.cell? ⟨w.heap.size, 6, none⟩ = some (.bool false) := hRr.cell 6
            have y7 : wr.cell? ⟨w.heap.size, 7, none⟩ = some (.string ⟨#[]⟩) := hRr.cell 7
            have y8 : wr.cell? ⟨w.heap.size, 8, none⟩ = some (.bool false) := hRr.cell 8
            have y9 : wr.cell? ⟨w.heap.size, 9, none⟩ = some (.int .i64 0) := hRr.cell 9
            have z0 : wr.frozen? ⟨w.heap.size, 0, none⟩ = false := hRr.frozen 0
            have z1 : wr.frozen? ⟨w.heap.size, 1, none⟩ = false := hRr.frozen 1
            have z2 : wr.frozen? ⟨w.heap.size, 2, none⟩ = false := hRr.frozen 2
            have z3 : wr.frozen? ⟨w.heap.size, 3, none⟩ = false := hRr.frozen 3
            have z4 : wr.frozen? ⟨w.heap.size, 4, none⟩ = false := hRr.frozen 4
            have z5 : wr.frozen? ⟨w.heap.size, 5, none⟩ = false := hRr.frozen 5
            have z6 : wr.frozen? ⟨w.heap.size, 6, none⟩ = false := hRr.frozen 6
            have z7 : wr.frozen? ⟨w.heap.size, 7, none⟩ = false := hRr.frozen 7
            have z8 : wr.frozen? ⟨w.heap.size, 8, none⟩ = false := hRr.frozen 8
            have z9 : wr.frozen? ⟨w.heap.size, 9, none⟩ = false := hRr.frozen 9
            go_wp2_with fail
            refine bodyPost_ret (v := .tuple #[.agg #[.int .i64 op, .int .i64 a, .int .i64 b, .int .i64 c, .int .i64 m, .int .u32 0, .bool false, .string ⟨lb.toArray⟩, .bool false, .int .i64 0], .int .i64 0]) (by simp [results, Tryz.results123, go_sem, y0, y1, y2, y3, y4, y5, y6, y7, y8, y9]) rfl ⟨?_, ?_⟩
            · rw [HQ.out]
              rfl
            · exact (((((((((hbr.setCell (Nat.le_refl _) _).setCell (Nat.le_refl _) _).setCell (Nat.le_refl _) _).setCell (Nat.le_refl _) _).setCell (Nat.le_refl _) _).setCell (Nat.le_refl _) _).setCell (Nat.le_refl _) _).setCell (Nat.le_refl _) _).setCell (Nat.le_refl _) _).setCell (Nat.le_refl _) _
      · have HR2 : Hid (R = (partI ⟨op, 0, 0, 0, 0⟩, 18)) := Lib.hid (by rw [← HR.out, if_pos (by rw [List.length_map]; omega)])
        have d1 : ((n : Int) == ((⟨F.toArray⟩ : ByteArray).size : Int)) = false := by rw [hFz, beq_eq_false_iff_ne]; omega
        have d2 : ((n : Int) != ((⟨F.toArray⟩ : ByteArray).size : Int)) = true := by rw [hFz]; simp; omega
        clear HR
        have p0 : wr.cell? ⟨w.heap.size + 1, 0, none⟩ = some (.int .i64 op) := hPr.cell 0
        have p1 : wr.cell? ⟨w.heap.size + 1, 1, none⟩ = some (.int .i64 0) := hPr.cell 1
        have p2 : wr.cell? ⟨w.heap.size + 1, 2, none⟩ = some (.int .i64 0) := hPr.cell 2
        have p3 : wr.cell? ⟨w.heap.size + 1, 3, none⟩ = some (.int .i64 0) := hPr.cell 3
        have p4 : wr.cell? ⟨w.heap.size + 1, 4, none⟩ = some (.int .i64 0) := hPr.cell 4
        have p5 : wr.cell? ⟨w.heap.size + 1, 5, none⟩ = some (.int .u32 0) := hPr.cell 5
        have p6 : wr.cell? ⟨w.heap.size + 1, 6, none⟩ = some (.bool false) := hPr.cell 6
        have p7 : wr.cell? ⟨w.heap.size + 1, 7, none⟩ = some (.string ⟨#[]⟩) := hPr.cell 7
        have p8 : wr.cell? ⟨w.heap.size + 1, 8, none⟩ = some (.bool false) := hPr.cell 8
        have p9 : wr.cell? ⟨w.heap.size + 1, 9, none⟩ = some (.int .i64 0) := hPr.cell 9
        have y0 : wr.cell? ⟨w.heap.size, 0, none⟩ = some (.int .i64 0) := hRr.cell 0
        have y1 : wr.cell? ⟨w.heap.size, 1, none⟩ = some (.int .i64 0) := hRr.cell 1
        have y2 : wr.cell? ⟨w.heap.size, 2, none⟩ = some (.int .i64 0) := hRr.cell 2
        have y3 : wr.cell? ⟨w.heap.size, 3, none⟩ = some (.int .i64 0) := hRr.cell 3
        have y4 : wr.cell? ⟨w.heap.size, 4, none⟩ = some (.int .i64 0) := hRr.cell 4
        have y5 : wr.cell? ⟨w.heap.size, 5, none⟩ = some (.int .u32 0) := hRr.cell 5
        have y6 : wr.cell? ⟨w.heap.size, 6, none⟩ = some (.bool false) := hRr.cell 6
        have y7 : wr.cell? ⟨w.heap.size, 7, none⟩ = some (.string ⟨#[]⟩) := hRr.cell 7
        have y8 : wr.cell? ⟨w.heap.size, 8, none⟩ = some (.bool false) := hRr.cell 8
        have y9 : wr.cell? ⟨w.heap.size, 9, none⟩ = some (.int .i64 0) := hRr.cell 9
        have z0 : wr.frozen? ⟨w.heap.size, 0, none⟩ = false := hRr.frozen 0
        have z1 : wr.frozen? ⟨w.heap.size, 1, none⟩ = false := hRr.frozen 1
        have z2 : wr.frozen? ⟨w.heap.size, 2, none⟩ = false := hRr.frozen 2
        have z3 : wr.frozen? ⟨w.heap.size, 3, none⟩ = false := hRr.frozen 3
        have z4 : wr.frozen? ⟨w.heap.size, 4, none⟩ = false := hRr.frozen 4
        have z5 : wr.frozen? ⟨w.heap.size, 5, none⟩ = false := hRr.frozen 5
        have z6 : wr.frozen? ⟨w.heap.size, 6, none⟩ = false := hRr.frozen 6
        have z7 : wr.frozen? ⟨w.heap.size, 7, none⟩ = false := hRr.frozen 7
        have z8 : wr.frozen? ⟨w.heap.size, 8, none⟩ = false := hRr.frozen 8
        have z9 : wr.frozen? ⟨w.heap.size, 9, none⟩ = false := hRr.frozen 9
        go_wp2_with fail
        refine bodyPost_ret (v := .tuple #[.agg #[.int .i64 op, .int .i64 0, .int .i64 0, .int .i64 0, .int .i64 0, .int .u32 0, .bool false, .string ⟨#[]⟩, .bool false, .int .i64 0], .int .i64 18]) (by simp [results, Tryz.results123, go_sem, y0, y1, y2, y3, y4, y5, y6, y7, y8, y9]) rfl ⟨?_, ?_⟩
        · rw [HR2.out]
          rfl
        · exact (((((((((hbr.setCell (Nat.le_refl _) _).setCell (Nat.le_refl _) _).setCell (Nat.le_refl _) _).setCell (Nat.le_refl _) _).setCell (Nat.le_refl _) _).setCell (Nat.le_refl _) _).setCell (Nat.le_refl _) _).setCell (Nat.le_refl _) _).setCell (Nat.le_refl _) _).setCell (Nat.le_refl _) _
end Go.Proofs.YtecmeegnjjhilaaGreatDoor
