/- isa.value: what it returns. -/
import Derived.Test.YtecmeegnjjhilaaGreatDoorValue
namespace Go.Proofs.YtecmeegnjjhilaaGreatDoor
open Go.RowKit
def valP (l : List UInt8) : Int × Bool :=
  if 20 < l.length then (0, false)
  else if Lib.hasPrefix l [48, 120] = true then digP 16 (Lib.trimPrefix l [48, 120])
  else (if Lib.hasPrefix l [45] = true then -(digP 10 (Lib.trimPrefix l [45])).1 else (digP 10 (Lib.trimPrefix l [45])).1, (digP 10 (Lib.trimPrefix l [45])).2)

theorem trimPrefix_le (l p : List UInt8) : (Lib.trimPrefix l p).length ≤ l.length := by
  unfold Lib.trimPrefix
  split
  · rw [List.length_drop]; omega
  · exact Nat.le_refl _
theorem dig_range (b : Nat) (l : List UInt8) : 0 ≤ (digP b l).1 ∧ (digP b l).1 ≤ 1099511627776 := by
  unfold digP
  split
  · split
    · simp only; omega
    · simp only; omega
  · simp only; omega

set_option maxHeartbeats 1000000 in
set_option maxRecDepth 100000 in
theorem value_any (s : ByteArray) (hs : s.size ≤ 1000000000) (er : Nat → Addr) (w : World) (E : Env er w) :
    Calls Tryz.prog 120 #[.string s] w fun e w' => e = .returned (.tuple #[.int .i64 (valP s.data.toList).1, .bool (valP s.data.toList).2]) ∧ Below w.heap.size w w' := by
  by_cases h20 : 20 < s.size
  · have HP : Hid (valP s.data.toList = (0, false)) := Lib.hid (if_pos (by rw [← Lib.size_eq]; exact h20))
    clear E
    go_enter Tryz.func120, Tryz.ntmps120
    go_wp2
    go_ret2
    exact ⟨by rw [HP.out]; rfl, Below.refl _ _⟩
  · have hsz : ∀ p : List UInt8, (⟨(Lib.trimPrefix s.data.toList p).toArray⟩ : ByteArray).size ≤ 1000000000 := by
      intro p
      have := trimPrefix_le s.data.toList p
      rw [← Lib.size_eq] at this
      rw [Lib.size_eq]
      simp
      omega
    have HC1 := Lib.hid (fun W => Tryz.strings_CutPrefix s ⟨#[48, 120]⟩ W)
    have HC2 := Lib.hid (fun W => Tryz.strings_CutPrefix s ⟨#[45]⟩ W)
    cases hx : Lib.hasPrefix s.data.toList [48, 120] with
    | true =>
      have HC : Hid (∀ W, Calls Tryz.prog 141 #[.string s, .string ⟨#[48, 120]⟩] W fun e w' => e = .returned (.tuple #[.string ⟨(Lib.trimPrefix s.data.toList [48, 120]).toArray⟩, .bool true]) ∧ w' = W) := Lib.hid fun W => by
        have := HC1.out W
        simp only at this
        rw [hx] at this
        exact this
      have HD := Lib.hid (fun W (hE : Env er W) => digits16_any ⟨(Lib.trimPrefix s.data.toList [48, 120]).toArray⟩ (hsz _) er W hE)
      have HP : Hid (valP s.data.toList = digP 16 (Lib.trimPrefix s.data.toList [48, 120])) := by
        refine Lib.hid ?_
        unfold valP
        rw [if_neg (by rw [← Lib.size_eq]; exact h20), if_pos hx]
      clear hsz HC1 HC2 hx
      go_enter Tryz.func120, Tryz.ntmps120
      go_wp2_with fail
      refine (HC.out _).mono ?_
      rintro e w1 ⟨rfl, rfl⟩
      go_wp2_with fail
      refine (HD.out _ E).mono ?_
      rintro e w2 ⟨rfl, hb2⟩
      go_wp2
      go_ret2
      exact ⟨by rw [HP.out]; rfl, hb2⟩
    | false =>
      have HC : Hid (∀ W, Calls Tryz.prog 141 #[.string s, .string ⟨#[48, 120]⟩] W fun e w' => e = .returned (.tuple #[.string ⟨(Lib.trimPrefix s.data.toList [48, 120]).toArray⟩, .bool false]) ∧ w' = W) := Lib.hid fun W => by
        have := HC1.out W
        simp only at this
        rw [hx] at this
        exact this
      have HD := Lib.hid (fun W (hE : Env er W) => digits10_any ⟨(Lib.trimPrefix s.data.toList [45]).toArray⟩ (hsz _) er W hE)
      have hdr := dig_range 10 (Lib.trimPrefix s.data.toList [45])
      have HP : Hid (valP s.data.toList = (if Lib.hasPrefix s.data.toList [45] = true then -(digP 10 (Lib.trimPrefix s.data.toList [45])).1 else (digP 10 (Lib.trimPrefix s.data.toList [45])).1, (digP 10 (Lib.trimPrefix s.data.toList [45])).2)) := by
        refine Lib.hid ?_
        unfold valP
        rw [if_neg (by rw [← Lib.size_eq]; exact h20), if_neg (by rw [hx]; decide)]
      cases hm : Lib.hasPrefix s.data.toList [45] with
      | true =>
        have HM : Hid (∀ W, Calls Tryz.prog 141 #[.string s, .string ⟨#[45]⟩] W fun e w' => e = .returned (.tuple #[.string ⟨(Lib.trimPrefix s.data.toList [45]).toArray⟩, .bool true]) ∧ w' = W) := Lib.hid fun W => by
          have := HC2.out W
          simp only at this
          rw [hm] at this
          exact this
        have HQ : Hid (valP s.data.toList = (-(digP 10 (Lib.trimPrefix s.data.toList [45])).1, (digP 10 (Lib.trimPrefix s.data.toList [45])).2)) := Lib.hid (by rw [HP.out, if_pos hm])
        clear hsz HC1 HC2 hx hm HP
        obtain ⟨hd0, hd1⟩ := hdr
        go_enter Tryz.func120, Tryz.ntmps120
        go_wp2_with fail
        refine (HC.out _).mono ?_
        rintro e w1 ⟨rfl, rfl⟩
        go_wp2_with fail
        refine (HM.out _).mono ?_
        rintro e w1 ⟨rfl, rfl⟩
        go_wp2_with fail
        refine (HD.out _ E).mono ?_
        rintro e w2 ⟨rfl, hb2⟩
        go_wp2
        go_ret2
        exact ⟨by rw [HQ.out]; rfl, hb2⟩
      | false =>
        have HM : Hid (∀ W, Calls Tryz.prog 141 #[.string s, .string ⟨#[45]⟩] W fun e w' => e = .returned (.tuple #[.string ⟨(Lib.trimPrefix s.data.toList [45]).toArray⟩, .bool false]) ∧ w' = W) := Lib.hid fun W => by
          have := HC2.out W
          simp only at this
          rw [hm] at this
          exact this
        have HQ : Hid (valP s.data.toList = ((digP 10 (Lib.trimPrefix s.data.toList [45])).1, (digP 10 (Lib.trimPrefix s.data.toList [45])).2)) := Lib.hid (by rw [HP.out, if_neg (by rw [hm]; decide)])
        clear hsz HC1 HC2 hx hm HP
        obtain ⟨hd0, hd1⟩ := hdr
        go_enter Tryz.func120, Tryz.ntmps120
        go_wp2_with fail
        refine (HC.out _).mono ?_
        rintro e w1 ⟨rfl, rfl⟩
        go_wp2_with fail
        refine (HM.out _).mono ?_
        rintro e w1 ⟨rfl, rfl⟩
        go_wp2_with fail
        refine (HD.out _ E).mono ?_
        rintro e w2 ⟨rfl, hb2⟩
        go_wp2
        go_ret2
        exact ⟨by rw [HQ.out]; rfl, hb2⟩
end Go.Proofs.YtecmeegnjjhilaaGreatDoor
