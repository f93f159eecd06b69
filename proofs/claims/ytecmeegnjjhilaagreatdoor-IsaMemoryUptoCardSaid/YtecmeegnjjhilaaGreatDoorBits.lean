/- Plain facts on 32-bit words: fields joined by or, fields cut out by and. No program here. -/
import Derived.WalkKit
import Derived.Laws.BitsAllLaws
namespace Go.Proofs.YtecmeegnjjhilaaGreatDoor
open Go.RowKit
theorem or_sum (x y : Int) (X k : Nat) (hx : x = X * 2 ^ k) (h0 : 0 ≤ y) (h1 : y < 2 ^ k) (h2 : x < 4294967296) (hk : k ≤ 32) : bits .or .u32 x y = x + y := by
  have hkn : (2 : Nat) ^ k ≤ 4294967296 := Nat.le_trans (Nat.pow_le_pow_right (by omega) hk) (by decide)
  have hk2 : ((2 : Int) ^ k) ≤ 4294967296 := by
    have h : (((2 : Nat) ^ k : Nat) : Int) ≤ 4294967296 := by omega
    rwa [Int.natCast_pow] at h
  have hx0 : 0 ≤ x := by rw [hx]; exact Int.mul_nonneg (by omega) (by exact_mod_cast Nat.zero_le _)
  rw [u32_or x y hx0 h2 h0 (by omega)]
  obtain ⟨n, rfl⟩ := Int.eq_ofNat_of_zero_le h0
  have hn : n < 2 ^ k := by exact_mod_cast h1
  have e : x.toNat = 2 ^ k * X := by rw [hx, Nat.mul_comm]; exact_mod_cast Int.toNat_natCast (X * 2 ^ k)
  rw [e, Int.toNat_natCast, ← Nat.two_pow_add_eq_or_of_lt hn]
  rw [hx]
  push_cast
  rw [Int.mul_comm]
theorem and_low (x : Int) (k : Nat) (m : Int) (hm : m = 2 ^ k - 1) (h0 : 0 ≤ x) (h1 : x < 4294967296) (hk : k ≤ 32) : bits .and .u32 x m = x % 2 ^ k := by
  have hk1 : 0 < (2 : Nat) ^ k := Nat.two_pow_pos k
  have hk2 : (2 : Nat) ^ k ≤ 4294967296 := Nat.le_trans (Nat.pow_le_pow_right (by omega) hk) (by decide)
  have hm' : m = ((2 ^ k - 1 : Nat) : Int) := by rw [hm]; push_cast [Int.natCast_sub hk1]; omega
  rw [hm', u32_and x _ h0 h1 (by omega) (by omega)]
  obtain ⟨n, rfl⟩ := Int.eq_ofNat_of_zero_le h0
  rw [Int.toNat_natCast, Int.toNat_natCast, Nat.and_two_pow_sub_one_eq_mod]
  push_cast
  rfl
/-- Five fields joined. -/
theorem join_fields (op a b c m : Int) (o0 : 0 ≤ op) (o1 : op < 256) (a0 : 0 ≤ a) (a1 : a < 16) (b0 : 0 ≤ b) (b1 : b < 16) (c0 : 0 ≤ c) (c1 : c < 16) (m0 : 0 ≤ m) (m1 : m < 65536) (hcm : c = 0 ∨ m < 4096) :
    bits .or .u32 (bits .or .u32 (bits .or .u32 (bits .or .u32 (op * 16777216) (a * 1048576)) (b * 65536)) (c * 4096)) m = op * 16777216 + a * 1048576 + b * 65536 + c * 4096 + m := by
  rw [or_sum (op * 16777216) (a * 1048576) op.toNat 24 (by rw [Int.toNat_of_nonneg o0]; rfl) (by omega) (by omega) (by omega) (by omega)]
  rw [or_sum (op * 16777216 + a * 1048576) (b * 65536) (op * 16 + a).toNat 20 (by rw [Int.toNat_of_nonneg (by omega)]; omega) (by omega) (by omega) (by omega) (by omega)]
  rw [or_sum (op * 16777216 + a * 1048576 + b * 65536) (c * 4096) (op * 256 + a * 16 + b).toNat 16 (by rw [Int.toNat_of_nonneg (by omega)]; omega) (by omega) (by omega) (by omega) (by omega)]
  rcases hcm with h | h
  · subst h
    rw [or_sum (op * 16777216 + a * 1048576 + b * 65536 + 0 * 4096) m (op * 256 + a * 16 + b).toNat 16 (by rw [Int.toNat_of_nonneg (by omega)]; omega) (by omega) (by omega) (by omega) (by omega)]
  · rw [or_sum (op * 16777216 + a * 1048576 + b * 65536 + c * 4096) m (op * 4096 + a * 256 + b * 16 + c).toNat 12 (by rw [Int.toNat_of_nonneg (by omega)]; omega) (by omega) (by omega) (by omega) (by omega)]
end Go.Proofs.YtecmeegnjjhilaaGreatDoor
