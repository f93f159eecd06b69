/- strconv.ParseInt at base 16 and 64 bits, on hexadecimal digits alone: the number, or out of range. The library's shelf has base 10 alone. -/
import Derived.Test.YtecmeegnjjhilaaGreatDoorEnv
import Derived.Lib.IfaceNeq
import Derived.Lib.AtoiAllMem
import Derived.BigCall
import Derived.BigGuard
namespace Go.Proofs.YtecmeegnjjhilaaGreatDoor
open Go.RowKit
def hexD (c : Nat) : Nat := if c ≤ 57 then c - 48 else c - 87
def isHex (c : Nat) : Bool := (48 ≤ c && c ≤ 57) || (97 ≤ c && c ≤ 102)
/-- The digits' number behind acc; none: a uint64 doesn't hold it. -/
def hexU (acc : Nat) : List UInt8 → Option Nat
  | [] => some acc
  | c :: r => if 1152921504606846976 ≤ acc then none else hexU (acc * 16 + hexD c.toNat) r
def hexV : Option Nat → Value
  | some n => .tuple #[.int .u64 n, .nilIface]
  | none => .tuple #[.int .u64 18446744073709551615, .iface 172 (.int .i64 1)]
theorem or32 (c : Int) (h0 : 97 ≤ c) (h1 : c ≤ 102) : bits .or .u8 c 32 = c := by
  have : c = 97 ∨ c = 98 ∨ c = 99 ∨ c = 100 ∨ c = 101 ∨ c = 102 := by omega
  rcases this with rfl | rfl | rfl | rfl | rfl | rfl <;> decide +kernel

set_option maxHeartbeats 4000000 in
set_option maxRecDepth 100000 in
theorem ParseUint16 (t : ByteArray) (hne : t.size ≠ 0) (hmax : t.size ≤ 1000000000) (hall : ∀ c ∈ t.data.toList, isHex c.toNat = true) (w : World) :
    Calls Tryz.prog 137 #[.string t, .int .i64 16, .int .i64 64] w fun e w' => e = .returned (hexV (hexU 0 t.data.toList)) ∧ w' = Lib.bytesWorld w 5 t := by
  have hemp : t.toList.isEmpty = false := by
    rw [← decide_eq_emptyBytes]
    exact decide_eq_false (fun h => hne (by rw [h]; rfl))
  have hcv := Lib.run_convert_string_bytes (P := Tryz.prog) w 9 56 5 t (u := .string) Tryz.underlying9 Tryz.underlying56 Tryz.underlying5
  have hB : ∀ j, j < t.size → (Lib.bytesWorld w 5 t).cell? ⟨w.heap.size, j, none⟩ = some (.int .u8 (t.data.toList.getD j 0).toNat) := fun j hj => Lib.bytesWorld_cell w 5 t j hj
  obtain ⟨W1, hW1⟩ : ∃ W1, W1 = Lib.bytesWorld w 5 t := ⟨_, rfl⟩
  rw [← hW1] at hcv hB ⊢
  clear hW1
  obtain ⟨bs, hL⟩ : ∃ bs, bs = t.data.toList := ⟨_, rfl⟩
  have hLn : bs.length = t.size := by rw [hL, Lib.size_eq]
  rw [← hL] at hB hall ⊢
  clear hL
  have Hall := Lib.hid hall
  clear hall
  have hmv : IntKind.u64.wrap (IntKind.u64.wrap 18446744073709551616 - 1) = 18446744073709551615 := by
    rw [IntKind.wrap_u64, IntKind.wrap_u64]
    decide
  go_enter Tryz.func137, Tryz.ntmps137
  go_wp2
  go_loop [12, 13, 101] (fun vu vn vi => ∃ (k acc : Nat) (a : Int), vu = .bool false ∧ vn = .int .u64 a ∧ vi = .int .i64 k ∧ k ≤ t.size ∧ Hid (a = (acc : Int) ∧ acc < 18446744073709551616 ∧ hexU 0 bs = hexU acc (bs.drop k)))
    (fun _ _ vi => t.size - (intOf vi).toNat)
  case atStart => exact ⟨0, 0, 0, rfl, rfl, rfl, by omega, rfl, by omega, rfl⟩
  case round =>
    obtain ⟨k, acc, a, rfl, rfl, rfl, hk, hh⟩ := hrel
    obtain ⟨ha, hacc, hdec⟩ := hh.out
    clear hh
    have a0 : 0 ≤ a := by omega
    have a1 : a < 18446744073709551616 := by omega
    by_cases hkn : k < t.size
    · have hc := hB k hkn
      have hdrop : bs.drop k = bs[k]'(by omega) :: bs.drop (k + 1) := List.drop_eq_getElem_cons (by omega)
      have hget : bs.getD k 0 = bs[k]'(by omega) := by simp [List.getD, List.getElem?_eq_getElem (show k < bs.length by omega)]
      have hin := Hall.out (bs[k]'(by omega)) (List.getElem_mem _)
      rw [hdrop] at hdec
      rw [hget] at hc
      generalize bs[k]'(by omega) = c at hc hdec hin
      have hc256 : c.toNat < 256 := c.toNat_lt
      clear hB hdrop hget
      have hin2 : (48 ≤ c.toNat ∧ c.toNat ≤ 57) ∨ (97 ≤ c.toNat ∧ c.toNat ≤ 102) := by
        simp only [isHex, Bool.or_eq_true, Bool.and_eq_true, decide_eq_true_eq] at hin
        exact hin
      clear hin
      by_cases hcut : 1152921504606846976 ≤ acc
      · have hF : hexU acc (c :: bs.drop (k + 1)) = none := if_pos hcut
        have HF : Hid (hexU 0 bs = none) := Lib.hid (hdec.trans hF)
        have icut : 1152921504606846976 ≤ a := by omega
        clear hcut hacc hF ha hdec
        rcases hin2 with ⟨c1, c2⟩ | ⟨c1, c2⟩
        · go_wp2
          go_ret2
          exact ⟨by rw [HF.out]; rfl, rfl⟩
        · have ho := or32 (c.toNat : Int) (by omega) (by omega)
          go_wp2_with (go_at_call 156; refine (Tryz.internal_strconv_lower _ _).mono ?_; rintro e w' ⟨rfl, rfl⟩)
          go_ret2
          exact ⟨by rw [HF.out]; rfl, rfl⟩
      · have hF : hexU acc (c :: bs.drop (k + 1)) = hexU (acc * 16 + hexD c.toNat) (bs.drop (k + 1)) := if_neg hcut
        have icut : a < 1152921504606846976 := by omega
        rcases hin2 with ⟨c1, c2⟩ | ⟨c1, c2⟩
        · have hd : hexD c.toNat = c.toNat - 48 := if_pos c2
          have HN : Hid (a * 16 + ((c.toNat : Int) - 48) = ((acc * 16 + hexD c.toNat : Nat) : Int) ∧ acc * 16 + hexD c.toNat < 18446744073709551616 ∧ hexU 0 bs = hexU (acc * 16 + hexD c.toNat) (bs.drop (k + 1))) := Lib.hid ⟨by omega, by omega, hdec.trans hF⟩
          have iov : a * 16 + ((c.toNat : Int) - 48) < 18446744073709551616 := by omega
          clear hcut hacc hF hdec ha hd
          go_wp2
          refine ⟨⟨k + 1, acc * 16 + hexD c.toNat, a * 16 + ((c.toNat : Int) - 48), rfl, (by first | rfl | (congr 1; omega)), (by first | rfl | (congr 1; omega)), by omega, HN⟩, by simp [intOf]; omega⟩
        · have hd : hexD c.toNat = c.toNat - 87 := if_neg (by omega)
          have HN : Hid (a * 16 + ((c.toNat : Int) - 97 + 10) = ((acc * 16 + hexD c.toNat : Nat) : Int) ∧ acc * 16 + hexD c.toNat < 18446744073709551616 ∧ hexU 0 bs = hexU (acc * 16 + hexD c.toNat) (bs.drop (k + 1))) := Lib.hid ⟨by omega, by omega, hdec.trans hF⟩
          have iov : a * 16 + ((c.toNat : Int) - 97 + 10) < 18446744073709551616 := by omega
          have ho := or32 (c.toNat : Int) (by omega) (by omega)
          clear hcut hacc hF hdec ha hd
          go_wp2_with (go_at_call 156; refine (Tryz.internal_strconv_lower _ _).mono ?_; rintro e w' ⟨rfl, rfl⟩)
          refine ⟨⟨k + 1, acc * 16 + hexD c.toNat, a * 16 + ((c.toNat : Int) - 97 + 10), rfl, (by first | rfl | (congr 1; omega)), (by first | rfl | (congr 1; omega)), by omega, HN⟩, by simp [intOf]; omega⟩
    · have hkk : k = t.size := by omega
      subst hkk
      have hF : hexU acc (bs.drop t.size) = some acc := by rw [List.drop_eq_nil_of_le (by omega)]; rfl
      have HF : Hid (hexU 0 bs = some acc) := Lib.hid (hdec.trans hF)
      subst ha
      clear hacc a0 a1 hF hdec
      go_wp2
      go_ret2
      exact ⟨by rw [HF.out]; rfl, rfl⟩

/-- The number that digits spell. -/
def numB (b acc : Nat) (l : List UInt8) : Nat := l.foldl (fun a c => a * b + hexD c.toNat) acc
theorem numB_ge (b : Nat) (hb : 1 ≤ b) : ∀ (l : List UInt8) (acc : Nat), acc ≤ numB b acc l
  | [], acc => Nat.le_refl _
  | c :: r, acc => by
    have h := numB_ge b hb r (acc * b + hexD c.toNat)
    have h2 : acc ≤ acc * b := Nat.le_mul_of_pos_right acc hb
    show acc ≤ numB b (acc * b + hexD c.toNat) r
    omega
theorem hexU_num : ∀ (l : List UInt8) (acc : Nat), acc < 18446744073709551616 → (∀ c ∈ l, isHex c.toNat = true) → (hexU acc l = some (numB 16 acc l) ∧ numB 16 acc l < 18446744073709551616) ∨ (hexU acc l = none ∧ 18446744073709551616 ≤ numB 16 acc l)
  | [], acc, h, _ => .inl ⟨rfl, h⟩
  | c :: r, acc, h, hall => by
    have hc := hall c (by simp)
    have hd : hexD c.toNat ≤ 15 := by
      simp only [isHex, Bool.or_eq_true, Bool.and_eq_true, decide_eq_true_eq] at hc
      unfold hexD
      split <;> omega
    by_cases hcut : 1152921504606846976 ≤ acc
    · refine .inr ⟨if_pos hcut, ?_⟩
      have := numB_ge 16 (by omega) r (acc * 16 + hexD c.toNat)
      show _ ≤ numB 16 (acc * 16 + hexD c.toNat) r
      omega
    · have e : hexU acc (c :: r) = hexU (acc * 16 + hexD c.toNat) r := if_neg hcut
      rw [e]
      exact hexU_num r _ (by omega) (fun x hx => hall x (List.mem_cons_of_mem _ hx))
def isDec (c : Nat) : Bool := 48 ≤ c && c ≤ 57
theorem decM_num : ∀ (l : List UInt8) (acc : Nat), acc < 18446744073709551616 → (∀ c ∈ l, isDec c.toNat = true) →
    (Lib.parseUintM 18446744073709551615 acc l = .ok (numB 10 acc l) ∧ numB 10 acc l < 18446744073709551616) ∨ (Lib.parseUintM 18446744073709551615 acc l = .range ∧ 18446744073709551616 ≤ numB 10 acc l)
  | [], acc, h, _ => .inl ⟨rfl, h⟩
  | c :: r, acc, h, hall => by
    have hc := hall c (by simp)
    simp only [isDec, Bool.and_eq_true, decide_eq_true_eq] at hc
    have hd : hexD c.toNat = c.toNat - 48 := if_pos hc.2
    have hge := numB_ge 10 (by omega) r (acc * 10 + hexD c.toNat)
    have hn : numB 10 acc (c :: r) = numB 10 (acc * 10 + hexD c.toNat) r := rfl
    unfold Lib.parseUintM
    rw [if_pos hc]
    by_cases hcut : 1844674407370955162 ≤ acc
    · rw [if_pos hcut]
      exact .inr ⟨rfl, by rw [hn]; omega⟩
    · rw [if_neg hcut]
      by_cases hov : 18446744073709551615 < acc * 10 + (c.toNat - 48)
      · rw [if_pos hov]
        exact .inr ⟨rfl, by rw [hn]; omega⟩
      · rw [if_neg hov, hn, hd]
        exact decM_num r _ (by omega) (fun x hx => hall x (List.mem_cons_of_mem _ hx))
theorem decI_num (l : List UInt8) (hne : l ≠ []) (hall : ∀ c ∈ l, isDec c.toNat = true) :
    (Lib.parseIntB 64 l = .ok (numB 10 0 l : Int) ∧ numB 10 0 l < 9223372036854775808) ∨ (Lib.parseIntB 64 l = .range ∧ 9223372036854775808 ≤ numB 10 0 l) := by
  cases l with
  | nil => exact absurd rfl hne
  | cons c r =>
    have hc := hall c (by simp)
    simp only [isDec, Bool.and_eq_true, decide_eq_true_eq] at hc
    have n43 : c.toNat ≠ 43 := by omega
    have n45 : c.toNat ≠ 45 := by omega
    have hU : Lib.parseUintB 64 (c :: r) = Lib.parseUintM 18446744073709551615 0 (c :: r) := by
      unfold Lib.parseUintB
      rw [if_neg (by simp)]
    rw [Lib.parseIntB_plain 64 c r n43 n45, hU]
    rcases decM_num (c :: r) 0 (by omega) hall with ⟨h1, h2⟩ | ⟨h1, h2⟩
    · rw [h1]
      by_cases hbig : 9223372036854775808 ≤ numB 10 0 (c :: r)
      · right
        refine ⟨?_, hbig⟩
        unfold Lib.signlessC
        exact if_pos hbig
      · left
        refine ⟨?_, by omega⟩
        unfold Lib.signlessC
        exact if_neg hbig
    · rw [h1]
      exact .inr ⟨rfl, by omega⟩

def sat16 (o : Option Nat) : Value := match o with
  | some n => if n < 9223372036854775808 then .tuple #[.int .i64 n, .nilIface] else .tuple #[.int .i64 9223372036854775807, .iface 172 (.int .i64 1)]
  | none => .tuple #[.int .i64 9223372036854775807, .iface 172 (.int .i64 1)]
set_option maxHeartbeats 4000000 in
set_option maxRecDepth 100000 in
theorem ParseInt16 (s : ByteArray) (hne : s.size ≠ 0) (hmax : s.size ≤ 1000000000) (hall : ∀ c ∈ s.data.toList, isHex c.toNat = true) (w : World) :
    Calls Tryz.prog 105 #[.string s, .int .i64 16, .int .i64 64] w fun e w' => e = .returned (sat16 (hexU 0 s.data.toList)) ∧ Below w.heap.size w w' := by
  have hemp : s.toList.isEmpty = false := by
    rw [← decide_eq_emptyBytes]
    exact decide_eq_false (fun h => hne (by rw [h]; rfl))
  have hpos : 0 < s.size := by omega
  have hb0 : isHex (s[0]'hpos).toNat = true := hall _ (by
    have : s.data.toList[0]? = some (s[0]'hpos) := by rw [List.getElem?_eq_getElem (by rw [← Lib.size_eq]; exact hpos)]; rfl
    exact List.mem_of_getElem? this)
  simp only [isHex, Bool.or_eq_true, Bool.and_eq_true, decide_eq_true_eq] at hb0
  have n43 : (((s[0]'hpos).toNat : Int) == 43) = false := by simp; omega
  have n45 : (((s[0]'hpos).toNat : Int) == 45) = false := by simp; omega
  have hU0 := ParseUint16 s hne hmax hall w
  have hlt := hexU_num s.data.toList 0 (by omega) hall
  have hq1 : ∀ W, (binOp .neq 33 (.iface 172 (.int .i64 1)) (.iface 172 (.int .i64 1))).run Tryz.prog W = .ok (.bool false) W := fun W => Lib.run_neq_iface_int W 1 1 Tryz.underlying33 (by kernel_rfl) Tryz.underlying172
  clear hall hb0
  cases hE : hexU 0 s.data.toList with
  | none =>
    rw [hE] at hU0
    have HU : Hid (Calls Tryz.prog 137 #[.string s, .int .i64 16, .int .i64 64] w fun e w' => e = .returned (.tuple #[.int .u64 18446744073709551615, .iface 172 (.int .i64 1)]) ∧ w' = Lib.bytesWorld w 5 s) := Lib.hid hU0
    clear hU0 hlt hE
    go_enter Tryz.func105, Tryz.ntmps105
    go_wp2_with (go_at_call 137; refine HU.out.mono ?_; rintro e w1 ⟨rfl, hw1⟩)
    subst hw1
    go_wp2
    go_ret2
    exact ⟨rfl, Lib.bytesWorld_below _ _ _⟩
  | some n =>
    rw [hE] at hU0 hlt
    have hn64 : n < 18446744073709551616 := by
      rcases hlt with ⟨h1, h2⟩ | ⟨h1, _⟩
      · injection h1 with h1; omega
      · cases h1
    obtain ⟨a, ha⟩ : ∃ a : Int, a = (n : Int) := ⟨_, rfl⟩
    have HU : Hid (Calls Tryz.prog 137 #[.string s, .int .i64 16, .int .i64 64] w fun e w' => e = .returned (.tuple #[.int .u64 a, .nilIface]) ∧ w' = Lib.bytesWorld w 5 s) := Lib.hid (by rw [ha]; exact hU0)
    have a0 : 0 ≤ a := by omega
    have a1 : a ≤ 18446744073709551615 := by omega
    by_cases hout : n < 9223372036854775808
    · have HS : Hid (sat16 (some n) = .tuple #[.int .i64 a, .nilIface]) := Lib.hid (by rw [ha]; exact if_pos hout)
      have iin : a < 9223372036854775808 := by omega
      clear hU0 hlt hE hn64 hout ha
      go_enter Tryz.func105, Tryz.ntmps105
      go_wp2_with (go_at_call 137; refine HU.out.mono ?_; rintro e w1 ⟨rfl, hw1⟩)
      subst hw1
      go_wp2
      go_ret2
      exact ⟨by rw [HS.out]; rfl, Lib.bytesWorld_below _ _ _⟩
    · have HS : Hid (sat16 (some n) = .tuple #[.int .i64 9223372036854775807, .iface 172 (.int .i64 1)]) := Lib.hid (if_neg hout)
      have iout : 9223372036854775808 ≤ a := by omega
      clear hU0 hlt hE hn64 hout ha
      go_enter Tryz.func105, Tryz.ntmps105
      go_wp2_with (go_at_call 137; refine HU.out.mono ?_; rintro e w1 ⟨rfl, hw1⟩)
      subst hw1
      go_wp2
      go_ret2
      exact ⟨by rw [HS.out]; rfl, Lib.bytesWorld_below _ _ _⟩
end Go.Proofs.YtecmeegnjjhilaaGreatDoor
