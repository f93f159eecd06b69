/- isa.digitsValue, isa.value: what each returns. -/
import Derived.Test.YtecmeegnjjhilaaGreatDoorHex
import Derived.Test.YtecmeegnjjhilaaGreatDoorDigits
import Derived.Deep.RegionWith
import Derived.Deep.DeepMust
namespace Go.Proofs.YtecmeegnjjhilaaGreatDoor
open Go.RowKit
/-- What ParseInt tells of digits: their number, or that it is too great. -/
def ParseSays (b : Nat) (l : List UInt8) (v : Int) (x : Value) : Prop :=
  (x = .nilIface ∧ v = (numB b 0 l : Int) ∧ numB b 0 l < 9223372036854775808) ∨ ((∃ T p, x = .iface T p) ∧ 9223372036854775808 ≤ numB b 0 l)

set_option maxHeartbeats 1000000 in
set_option maxRecDepth 100000 in
theorem parse16_any (s : ByteArray) (hne : s.size ≠ 0) (hmax : s.size ≤ 1000000000) (hall : ∀ c ∈ s.data.toList, isHex c.toNat = true) (er : Nat → Addr) (w : World) (E : Env er w) :
    Calls Tryz.prog 161 #[.string s, .int .i64 16, .int .i64 64] w fun e w' => ∃ v x, e = .returned (.tuple #[.int .i64 v, x]) ∧ ParseSays 16 s.data.toList v x ∧ Below w.heap.size w w' := by
  have hI := ParseInt16 s hne hmax hall w
  have hn := hexU_num s.data.toList 0 (by omega) hall
  have key : (∃ n : Nat, sat16 (hexU 0 s.data.toList) = .tuple #[.int .i64 n, .nilIface] ∧ n = numB 16 0 s.data.toList ∧ n < 9223372036854775808) ∨ (sat16 (hexU 0 s.data.toList) = .tuple #[.int .i64 9223372036854775807, .iface 172 (.int .i64 1)] ∧ 9223372036854775808 ≤ numB 16 0 s.data.toList) := by
    rcases hn with ⟨h1, h2⟩ | ⟨h1, h2⟩
    · rw [h1]
      by_cases h : numB 16 0 s.data.toList < 9223372036854775808
      · exact .inl ⟨_, if_pos h, rfl, h⟩
      · exact .inr ⟨if_neg h, by omega⟩
    · rw [h1]
      exact .inr ⟨rfl, by omega⟩
  clear hn hall
  rcases key with ⟨n, hs, hn, hlt⟩ | ⟨hs, hge⟩
  · rw [hs] at hI
    have HI := Lib.hid hI
    have HN : Hid (ParseSays 16 s.data.toList n .nilIface) := Lib.hid (.inl ⟨rfl, by rw [hn], by omega⟩)
    clear hs hI hn E
    go_enter Tryz.func161, Tryz.ntmps161
    go_wp2_with (go_at_call 105; refine HI.out.mono ?_; rintro e w1 ⟨rfl, hb1⟩)
    go_ret2
    exact ⟨_, _, rfl, HN.out, hb1⟩
  · rw [hs] at hI
    obtain ⟨tp, p, hv⟩ := E.rng
    have hv0 : w.cell? ⟨23, 0, none⟩ = some (.iface tp p) := by
      have h0 := World.var?_cell (g := 23) (by kernel_rfl) hv 0
      simpa using h0
    have HI := Lib.hid hI
    have HN := Lib.hid hge
    clear hs hI hge E hv
    go_enter Tryz.func161, Tryz.ntmps161
    go_wp2_with fail
    refine HI.out.mono ?_
    rintro e w1 ⟨rfl, hb1⟩
    have HT := Lib.hid (Tryz.strconv_toError_range ⟨#[80, 97, 114, 115, 101, 73, 110, 116]⟩ s 16 64 (.iface tp p) w1 (by omega) (cell_below hv0 hb1) (.inr ⟨_, _, rfl⟩))
    clear HI hv0
    go_wp2_with fail
    refine HT.out.mono ?_
    rintro e w2 ⟨N, rfl, _, _, hb2⟩
    go_wp2
    go_ret2
    exact ⟨_, _, rfl, .inr ⟨⟨_, _, rfl⟩, HN.out⟩, hb1.trans (hb2.mono hb1.size)⟩

theorem parse10_any (s : ByteArray) (hne : s.size ≠ 0) (hmax : s.size ≤ 1000000000) (hall : ∀ c ∈ s.data.toList, isDec c.toNat = true) (er : Nat → Addr) (w : World) (E : Env er w) :
    Calls Tryz.prog 161 #[.string s, .int .i64 10, .int .i64 64] w fun e w' => ∃ v x, e = .returned (.tuple #[.int .i64 v, x]) ∧ ParseSays 10 s.data.toList v x ∧ Below w.heap.size w w' := by
  have hne' : s.data.toList ≠ [] := by intro e; exact hne (by rw [Lib.size_eq, e]; rfl)
  rcases decI_num s.data.toList hne' hall with ⟨h1, h2⟩ | ⟨h1, h2⟩
  · refine (Tryz.strconv_ParseInt_10_at64_ok s (by omega) _ h1 w).mono fun e w' ⟨he, hw⟩ => ⟨_, _, he, .inl ⟨rfl, rfl, h2⟩, ?_⟩
    rcases hw with rfl | ⟨t, rfl⟩
    · exact Below.refl _ _
    · exact Lib.bytesWorld_below _ _ _
  · obtain ⟨tp, p, hv⟩ := E.rng
    have hv0 : w.cell? ⟨23, 0, none⟩ = some (.iface tp p) := by
      have h0 := World.var?_cell (g := 23) (by kernel_rfl) hv 0
      simpa using h0
    exact (Tryz.strconv_ParseInt_10_at64_range s (by omega) h1 (.iface tp p) w hv0 (.inr ⟨_, _, rfl⟩)).mono fun e w' ⟨N, he, _, _, hb⟩ => ⟨_, _, he, .inr ⟨⟨_, _, rfl⟩, h2⟩, hb⟩

theorem dw_nil (p : UInt8 → Bool) : ∀ l : List UInt8, l.dropWhile p = [] ↔ ∀ b ∈ l, p b = true
  | [] => by simp
  | x :: l => by
    cases h : p x with
    | true =>
      rw [List.dropWhile_cons_of_pos h, dw_nil p l]
      simp [h]
    | false =>
      rw [List.dropWhile_cons_of_neg (by simp [h])]
      simp [h]
theorem dw_head (p : UInt8 → Bool) : ∀ (l : List UInt8) (x : UInt8) (r : List UInt8), l.dropWhile p = x :: r → p x = false
  | [], x, r, h => by simp at h
  | y :: l, x, r, h => by
    cases hy : p y with
    | true =>
      rw [List.dropWhile_cons_of_pos hy] at h
      exact dw_head p l x r h
    | false =>
      rw [List.dropWhile_cons_of_neg (by simp [hy])] at h
      injection h with h1 _
      rw [← h1]; exact hy
theorem trim_nil (t : ByteArray) (l : List UInt8) : rightP t (leftP t l) = [] ↔ ∀ b ∈ l, inSet t b.toNat = true := by
  unfold leftP rightP
  rw [List.reverse_eq_nil_iff, dw_nil]
  constructor
  · intro h
    refine (dw_nil _ l).1 ?_
    cases hc : l.dropWhile (fun b => inSet t b.toNat) with
    | nil => rfl
    | cons x r =>
      have hx := h x (by rw [hc]; simp)
      have h2 : inSet t x.toNat = false := dw_head _ l x r hc
      rw [h2] at hx
      cases hx
  · intro h
    rw [(dw_nil (fun b => inSet t b.toNat) l).2 h]
    simp

def set10 : ByteArray := ⟨#[48, 49, 50, 51, 52, 53, 54, 55, 56, 57]⟩
def set16 : ByteArray := ⟨#[48, 49, 50, 51, 52, 53, 54, 55, 56, 57, 97, 98, 99, 100, 101, 102]⟩
theorem in10 (n : Nat) : inSet set10 n = isDec n := by
  rw [Bool.eq_iff_iff]
  simp [inSet, set10, isDec]
  omega
theorem in16 (n : Nat) : inSet set16 n = isHex n := by
  rw [Bool.eq_iff_iff]
  simp [inSet, set16, isHex]
  omega
theorem small_set (t : ByteArray) (h : t.data.toList.all (fun b => decide (b.toNat < 128)) = true) : ∀ (j : Nat) (hj : j < t.size), (t[j]'hj).toNat < 128 := by
  intro j hj
  have hl : j < t.data.toList.length := by rw [← Lib.size_eq]; exact hj
  have := List.all_eq_true.1 h (t.data.toList[j]'hl) (List.getElem_mem _)
  have e : t.data.toList[j]'hl = t[j]'hj := rfl
  rw [e] at this
  simpa using this

def digsOK (b : Nat) (l : List UInt8) : Bool := !l.isEmpty && l.all fun c => if b = 16 then isHex c.toNat else isDec c.toNat
def digP (b : Nat) (l : List UInt8) : Int × Bool := if digsOK b l then (if numB b 0 l ≤ 1099511627776 then (numB b 0 l : Int) else 1099511627776, true) else (0, false)

set_option maxHeartbeats 4000000 in
set_option maxRecDepth 100000 in
theorem digits16_any (s : ByteArray) (hs : s.size ≤ 1000000000) (er : Nat → Addr) (w : World) (E : Env er w) :
    Calls Tryz.prog 142 #[.string s, .int .i64 16] w fun e w' => e = .returned (.tuple #[.int .i64 (digP 16 s.data.toList).1, .bool (digP 16 s.data.toList).2]) ∧ Below w.heap.size w w' := by
  by_cases h0 : s.size = 0
  · have hnil : s.data.toList = [] := List.eq_nil_of_length_eq_zero (by rw [← Lib.size_eq]; exact h0)
    have HP : Hid (digP 16 s.data.toList = (0, false)) := by rw [hnil]; exact Lib.hid rfl
    have he : s.toList.isEmpty = true := by rw [ByteArray.toList_eq, hnil]; rfl
    have he2 : s.toList = [] := by rw [ByteArray.toList_eq, hnil]
    clear hnil h0 E
    go_enter Tryz.func142, Tryz.ntmps142
    go_wp2_with fail
    go_quiet (fail)
    go_wp2
    go_ret2
    exact ⟨by rw [HP.out]; rfl, below_drewN (Below.refl _ _) _⟩
  · have hne : s.data.toList ≠ [] := by intro e; rw [Lib.size_eq, e] at h0; simp at h0
    have he : s.toList.isEmpty = false := by rw [ByteArray.toList_eq]; simpa using hne
    have HL := Lib.hid (fun W => cutLeft_any s set16 hs (by decide) (small_set _ (by decide +kernel)) W)
    have hls : (⟨(leftP set16 s.data.toList).toArray⟩ : ByteArray).size ≤ 1000000000 := by
      rw [Lib.size_eq]
      have h1 : (leftP set16 s.data.toList).length ≤ s.data.toList.length := (List.dropWhile_sublist _).length_le
      rw [← Lib.size_eq] at h1
      simp
      omega
    have HR := Lib.hid (fun W (hE : Env er W) => cutRight_any ⟨(leftP set16 s.data.toList).toArray⟩ set16 hls (by decide) (small_set _ (by decide +kernel)) er W hE)
    by_cases hok : ∀ b ∈ s.data.toList, isHex b.toNat = true
    · have hre : (rightP set16 (leftP set16 s.data.toList)).isEmpty = true := by
        have : rightP set16 (leftP set16 s.data.toList) = [] := (trim_nil _ _).2 fun b hb => by rw [in16]; exact hok b hb
        rw [this]; rfl
      have HP : Hid (digP 16 s.data.toList = (if numB 16 0 s.data.toList ≤ 1099511627776 then (numB 16 0 s.data.toList : Int) else 1099511627776, true)) := by
        refine Lib.hid (if_pos ?_)
        have h1 : s.data.toList.isEmpty = false := by simpa using hne
        simp only [digsOK, h1, Bool.not_false, Bool.true_and, List.all_eq_true]
        intro b hb
        have := hok b hb
        simpa using this
      have HI := Lib.hid (fun W (hE : Env er W) => parse16_any s h0 hs hok er W hE)
      clear hne hok h0
      go_enter Tryz.func142, Tryz.ntmps142
      go_wp2_with fail
      go_region_with (first
        | (go_at_call 160; go_must (refine (HL.out _).mono ?_); rintro e w1 ⟨rfl, hb1⟩)
        | (go_at_call 159; go_must (refine (HR.out _ (E.below ⟨hb1.os, hb1.tape, hb1.output, hb1.size, hb1.block⟩)).mono ?_); rintro e w2 ⟨rfl, hb2⟩))
      have hb02 : Below w.heap.size w w2 := by
        have h1 : Below w.heap.size w w1 := ⟨hb1.os, hb1.tape, hb1.output, hb1.size, hb1.block⟩
        exact h1.trans (hb2.mono h1.size)
      clear HL HR hb1 hb2 hls
      go_wp2_with fail
      refine (HI.out _ (E.below hb02)).mono ?_
      rintro e w3 ⟨v, x, rfl, hsay, hb3⟩
      have hb03 : Below w.heap.size w w3 := hb02.trans (hb3.mono hb02.size)
      rcases hsay with ⟨rfl, hv, hlt⟩ | ⟨⟨T, q, rfl⟩, hge⟩
      · have hv0 : 0 ≤ v := by omega
        by_cases hfar : v ≤ 1099511627776
        · have HQ : Hid (digP 16 s.data.toList = (v, true)) := Lib.hid (by rw [HP.out, if_pos (by omega), hv])
          clear hv hlt HP HI hre
          go_wp2
          go_ret2
          exact ⟨by rw [HQ.out]; rfl, hb03⟩
        · have HQ : Hid (digP 16 s.data.toList = (1099511627776, true)) := Lib.hid (by rw [HP.out, if_neg (by omega)])
          clear hv hlt HP HI hre
          go_wp2
          go_ret2
          exact ⟨by rw [HQ.out]; rfl, hb03⟩
      · have HQ : Hid (digP 16 s.data.toList = (1099511627776, true)) := Lib.hid (by rw [HP.out, if_neg (by omega)])
        clear hge HP HI hre
        go_wp2
        go_ret2
        exact ⟨by rw [HQ.out]; rfl, hb03⟩
    · have hrn : (rightP set16 (leftP set16 s.data.toList)).isEmpty = false := by
        have : rightP set16 (leftP set16 s.data.toList) ≠ [] := by
          intro e
          exact hok fun b hb => by rw [← in16]; exact (trim_nil set16 s.data.toList).1 e b hb
        simpa using this
      have HP : Hid (digP 16 s.data.toList = (0, false)) := by
        refine Lib.hid (if_neg ?_)
        intro h
        simp only [digsOK, Bool.and_eq_true, List.all_eq_true] at h
        exact hok fun b hb => by have := h.2 b hb; simpa using this
      clear hne hok h0
      go_enter Tryz.func142, Tryz.ntmps142
      go_wp2_with fail
      go_region_with (first
        | (go_at_call 160; go_must (refine (HL.out _).mono ?_); rintro e w1 ⟨rfl, hb1⟩)
        | (go_at_call 159; go_must (refine (HR.out _ (E.below ⟨hb1.os, hb1.tape, hb1.output, hb1.size, hb1.block⟩)).mono ?_); rintro e w2 ⟨rfl, hb2⟩))
      have hb02 : Below w.heap.size w w2 := by
        have h1 : Below w.heap.size w w1 := ⟨hb1.os, hb1.tape, hb1.output, hb1.size, hb1.block⟩
        exact h1.trans (hb2.mono h1.size)
      clear HL HR hb1 hb2 hls
      go_wp2
      go_ret2
      exact ⟨by rw [HP.out]; rfl, hb02⟩

set_option maxHeartbeats 4000000 in
set_option maxRecDepth 100000 in
theorem digits10_any (s : ByteArray) (hs : s.size ≤ 1000000000) (er : Nat → Addr) (w : World) (E : Env er w) :
    Calls Tryz.prog 142 #[.string s, .int .i64 10] w fun e w' => e = .returned (.tuple #[.int .i64 (digP 10 s.data.toList).1, .bool (digP 10 s.data.toList).2]) ∧ Below w.heap.size w w' := by
  by_cases h0 : s.size = 0
  · have hnil : s.data.toList = [] := List.eq_nil_of_length_eq_zero (by rw [← Lib.size_eq]; exact h0)
    have HP : Hid (digP 10 s.data.toList = (0, false)) := by rw [hnil]; exact Lib.hid rfl
    have he : s.toList.isEmpty = true := by rw [ByteArray.toList_eq, hnil]; rfl
    have he2 : s.toList = [] := by rw [ByteArray.toList_eq, hnil]
    clear hnil h0 E
    go_enter Tryz.func142, Tryz.ntmps142
    go_wp2_with fail
    go_quiet (fail)
    go_wp2
    go_ret2
    exact ⟨by rw [HP.out]; rfl, below_drewN (Below.refl _ _) _⟩
  · have hne : s.data.toList ≠ [] := by intro e; rw [Lib.size_eq, e] at h0; simp at h0
    have he : s.toList.isEmpty = false := by rw [ByteArray.toList_eq]; simpa using hne
    have HL := Lib.hid (fun W => cutLeft_any s set10 hs (by decide) (small_set _ (by decide +kernel)) W)
    have hls : (⟨(leftP set10 s.data.toList).toArray⟩ : ByteArray).size ≤ 1000000000 := by
      rw [Lib.size_eq]
      have h1 : (leftP set10 s.data.toList).length ≤ s.data.toList.length := (List.dropWhile_sublist _).length_le
      rw [← Lib.size_eq] at h1
      simp
      omega
    have HR := Lib.hid (fun W (hE : Env er W) => cutRight_any ⟨(leftP set10 s.data.toList).toArray⟩ set10 hls (by decide) (small_set _ (by decide +kernel)) er W hE)
    by_cases hok : ∀ b ∈ s.data.toList, isDec b.toNat = true
    · have hre : (rightP set10 (leftP set10 s.data.toList)).isEmpty = true := by
        have : rightP set10 (leftP set10 s.data.toList) = [] := (trim_nil _ _).2 fun b hb => by rw [in10]; exact hok b hb
        rw [this]; rfl
      have HP : Hid (digP 10 s.data.toList = (if numB 10 0 s.data.toList ≤ 1099511627776 then (numB 10 0 s.data.toList : Int) else 1099511627776, true)) := by
        refine Lib.hid (if_pos ?_)
        have h1 : s.data.toList.isEmpty = false := by simpa using hne
        simp only [digsOK, h1, Bool.not_false, Bool.true_and, List.all_eq_true]
        intro b hb
        have := hok b hb
        simpa using this
      have HI := Lib.hid (fun W (hE : Env er W) => parse10_any s h0 hs hok er W hE)
      clear hne hok h0
      go_enter Tryz.func142, Tryz.ntmps142
      go_wp2_with fail
      go_region_with (first
        | (go_at_call 160; go_must (refine (HL.out _).mono ?_); rintro e w1 ⟨rfl, hb1⟩)
        | (go_at_call 159; go_must (refine (HR.out _ (E.below ⟨hb1.os, hb1.tape, hb1.output, hb1.size, hb1.block⟩)).mono ?_); rintro e w2 ⟨rfl, hb2⟩))
      have hb02 : Below w.heap.size w w2 := by
        have h1 : Below w.heap.size w w1 := ⟨hb1.os, hb1.tape, hb1.output, hb1.size, hb1.block⟩
        exact h1.trans (hb2.mono h1.size)
      clear HL HR hb1 hb2 hls
      go_wp2_with fail
      refine (HI.out _ (E.below hb02)).mono ?_
      rintro e w3 ⟨v, x, rfl, hsay, hb3⟩
      have hb03 : Below w.heap.size w w3 := hb02.trans (hb3.mono hb02.size)
      rcases hsay with ⟨rfl, hv, hlt⟩ | ⟨⟨T, q, rfl⟩, hge⟩
      · have hv0 : 0 ≤ v := by omega
        by_cases hfar : v ≤ 1099511627776
        · have HQ : Hid (digP 10 s.data.toList = (v, true)) := Lib.hid (by rw [HP.out, if_pos (by omega), hv])
          clear hv hlt HP HI hre
          go_wp2
          go_ret2
          exact ⟨by rw [HQ.out]; rfl, hb03⟩
        · have HQ : Hid (digP 10 s.data.toList = (1099511627776, true)) := Lib.hid (by rw [HP.out, if_neg (by omega)])
          clear hv hlt HP HI hre
          go_wp2
          go_ret2
          exact ⟨by rw [HQ.out]; rfl, hb03⟩
      · have HQ : Hid (digP 10 s.data.toList = (1099511627776, true)) := Lib.hid (by rw [HP.out, if_neg (by omega)])
        clear hge HP HI hre
        go_wp2
        go_ret2
        exact ⟨by rw [HQ.out]; rfl, hb03⟩
    · have hrn : (rightP set10 (leftP set10 s.data.toList)).isEmpty = false := by
        have : rightP set10 (leftP set10 s.data.toList) ≠ [] := by
          intro e
          exact hok fun b hb => by rw [← in10]; exact (trim_nil set10 s.data.toList).1 e b hb
        simpa using this
      have HP : Hid (digP 10 s.data.toList = (0, false)) := by
        refine Lib.hid (if_neg ?_)
        intro h
        simp only [digsOK, Bool.and_eq_true, List.all_eq_true] at h
        exact hok fun b hb => by have := h.2 b hb; simpa using this
      clear hne hok h0
      go_enter Tryz.func142, Tryz.ntmps142
      go_wp2_with fail
      go_region_with (first
        | (go_at_call 160; go_must (refine (HL.out _).mono ?_); rintro e w1 ⟨rfl, hb1⟩)
        | (go_at_call 159; go_must (refine (HR.out _ (E.below ⟨hb1.os, hb1.tape, hb1.output, hb1.size, hb1.block⟩)).mono ?_); rintro e w2 ⟨rfl, hb2⟩))
      have hb02 : Below w.heap.size w w2 := by
        have h1 : Below w.heap.size w w1 := ⟨hb1.os, hb1.tape, hb1.output, hb1.size, hb1.block⟩
        exact h1.trans (hb2.mono h1.size)
      clear HL HR hb1 hb2 hls
      go_wp2
      go_ret2
      exact ⟨by rw [HP.out]; rfl, hb02⟩

end Go.Proofs.YtecmeegnjjhilaaGreatDoor
