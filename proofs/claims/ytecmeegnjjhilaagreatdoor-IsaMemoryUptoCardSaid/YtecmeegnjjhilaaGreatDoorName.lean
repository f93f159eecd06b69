/- isa.isName, isa.isBlank: what each returns. -/
import Derived.Test.YtecmeegnjjhilaaGreatDoorWord
namespace Go.Proofs.YtecmeegnjjhilaaGreatDoor
open Go.RowKit
def letterB (n : Nat) : Bool := (97 ≤ n && n ≤ 122) || n == 95
def okChar (i n : Nat) : Bool := letterB n || (i != 0 && (48 ≤ n && n ≤ 57))
def charsB (l : List UInt8) : Bool := l.zipIdx.all fun x => okChar x.2 x.1.toNat
def nameP (l : List UInt8) : Bool := !l.isEmpty && decide (l.length ≤ 15) && decide (regP l < 0) && charsB l

theorem charsB_iff (l : List UInt8) : charsB l = true ↔ ∀ (i : Nat) (c : UInt8), l[i]? = some c → okChar i c.toNat = true := by
  unfold charsB
  rw [List.all_eq_true]
  constructor
  · intro h i c hc
    have hlt : i < l.length := (List.getElem?_eq_some_iff.1 hc).1
    have := h (c, i) (by rw [List.mem_zipIdx_iff_getElem?]; exact hc)
    exact this
  · intro h x hx
    rw [List.mem_zipIdx_iff_getElem?] at hx
    exact h x.2 x.1 hx

theorem byte_at (s : ByteArray) (k : Nat) (h : k < s.size) : s.data.toList[k]? = some (s[k]'h) := by
  rw [List.getElem?_eq_getElem (by rw [← Lib.size_eq]; exact h)]
  rfl

set_option maxHeartbeats 1000000 in
set_option maxRecDepth 100000 in
theorem isName_any (s : ByteArray) (hs : s.size ≤ 1000000000) (er : Nat → Addr) (w : World) (E : Env er w) :
    Calls Tryz.prog 86 #[.string s] w fun e w' => e = .returned (.bool (nameP s.data.toList)) ∧ Below w.heap.size w w' := by
  have hsz : s.data.toList.length = s.size := (Lib.size_eq s).symm
  have HR := Lib.hid (register_any s hs er w E)
  by_cases h0 : s.size = 0
  · have hnil : s.data.toList = [] := List.eq_nil_of_length_eq_zero (by omega)
    have HP : Hid (nameP s.data.toList = false) := by rw [hnil]; rfl
    have he : (s.toList == []) = true := by rw [ByteArray.toList_eq, hnil]; rfl
    have he2 : s.toList = [] := by rw [ByteArray.toList_eq, hnil]
    have he3 : s.toList.isEmpty = true := by rw [he2]; rfl
    clear hsz hnil h0 HR
    go_enter Tryz.func86, Tryz.ntmps86
    go_wp2
    go_ret
    exact ⟨by rw [HP.out]; rfl, Below.refl _ _⟩
  · have hne : s.data.toList ≠ [] := by intro e; rw [e] at hsz; simp at hsz; omega
    have he : s.toList.isEmpty = false := by rw [ByteArray.toList_eq]; simpa using hne
    have hem : s.data.toList.isEmpty = false := by simpa using hne
    by_cases h15 : s.size ≤ 15
    · by_cases hr : 0 ≤ regP s.data.toList
      · have HP : Hid (nameP s.data.toList = false) := by
          unfold nameP
          rw [decide_eq_false (by omega : ¬ regP s.data.toList < 0)]
          simp [Hid]
        clear hsz hne hem
        go_enter Tryz.func86, Tryz.ntmps86
        go_wp2_with fail
        refine HR.out.mono ?_
        rintro e w1 ⟨rfl, hb1⟩
        go_wp2
        go_ret
        exact ⟨by rw [HP.out]; rfl, hb1⟩
      · have HP : Hid (nameP s.data.toList = charsB s.data.toList) := by
          unfold nameP
          rw [hem, decide_eq_true (by omega : s.data.toList.length ≤ 15), decide_eq_true (by omega : regP s.data.toList < 0)]
          simp [Hid]
        have hd15 : decide (15 < (s.size : Int)) = false := by simp; omega
        have hdr : decide (0 ≤ regP s.data.toList) = false := by simp; omega
        clear hsz hne hem hr
        go_enter Tryz.func86, Tryz.ntmps86
        go_wp2_with fail
        refine HR.out.mono ?_
        rintro e w1 ⟨rfl, hb1⟩
        clear HR
        go_wp2
        clear hdr hd15 h0 he
        go_loop [20] (fun i => ∃ k : Nat, k ≤ s.size ∧ i = .int .i64 k ∧ Hid (∀ (i : Nat) (c : UInt8), i < k → s.data.toList[i]? = some c → okChar i c.toNat = true)) (fun i => s.size - (intOf i).toNat)
        case atStart => exact ⟨0, Nat.zero_le _, rfl, fun i c h _ => absurd h (by omega)⟩
        case round =>
          obtain ⟨k, hk, rfl, hok⟩ := hrel
          by_cases hlt : k < s.size
          · have hat := Lib.hid (byte_at s k hlt)
            have hb8 := (s[k]'hlt).toNat_lt
            by_cases hgood : okChar k (s[k]'hlt).toNat = true
            · have HG := Lib.hid hgood
              have hcases : (97 ≤ (s[k]'hlt).toNat ∧ (s[k]'hlt).toNat ≤ 122) ∨ (s[k]'hlt).toNat = 95 ∨ (0 < k ∧ 48 ≤ (s[k]'hlt).toNat ∧ (s[k]'hlt).toNat ≤ 57) := by
                simp only [okChar, letterB, Bool.or_eq_true, Bool.and_eq_true, decide_eq_true_eq, beq_iff_eq, bne_iff_ne] at hgood
                omega
              have hrel' : ∀ (i : Nat) (c : UInt8), i < k + 1 → s.data.toList[i]? = some c → okChar i c.toNat = true := by
                intro i c hi hc
                by_cases e : i = k
                · subst e
                  rw [hat.out] at hc
                  injection hc with hc
                  rw [← hc]; exact hgood
                · exact hok.out i c (by omega) hc
              have HRel := Lib.hid hrel'
              clear hrel' hgood hat hok HP
              rcases hcases with ⟨c1, c2⟩ | c3 | ⟨c4, c5, c6⟩
              · go_wp2
                go_round
                case rel => exact ⟨k + 1, by omega, by go_num, HRel.out⟩
                case measure => simp [intOf]; omega
              · have c3' : (((s[k]'hlt).toNat : Int) == 95) = true := by simp [c3]
                have c7 : ¬ (97 : Int) ≤ ((s[k]'hlt).toNat : Int) := by omega
                clear c3
                go_wp2
                go_round
                case rel => exact ⟨k + 1, by omega, by go_num, HRel.out⟩
                case measure => simp [intOf]; omega
              · have c3' : (((s[k]'hlt).toNat : Int) == 95) = false := by simp; omega
                have c7 : ¬ (97 : Int) ≤ ((s[k]'hlt).toNat : Int) := by omega
                have c8 : ((k : Int) == 0) = false := by simp; omega
                go_wp2
                go_round
                case rel => exact ⟨k + 1, by omega, by go_num, HRel.out⟩
                case measure => simp [intOf]; omega
            · have HB : Hid (charsB s.data.toList = false) := by
                cases hc : charsB s.data.toList with
                | false => exact Lib.hid rfl
                | true => exact absurd ((charsB_iff _).1 hc k _ hat.out) hgood
              have hA : (s[k]'hlt).toNat < 97 ∨ (122 < (s[k]'hlt).toNat ∧ decide (((s[k]'hlt).toNat : Int) ≤ 122) = false) := by
                simp only [okChar, letterB, Bool.or_eq_true, Bool.and_eq_true, decide_eq_true_eq, beq_iff_eq, bne_iff_ne] at hgood
                rcases Nat.lt_or_ge (s[k]'hlt).toNat 97 with h | h
                · exact .inl h
                · refine .inr ⟨by omega, ?_⟩
                  simp
                  omega
              have hB : (((s[k]'hlt).toNat : Int) == 95) = false := by
                simp only [okChar, letterB, Bool.or_eq_true, Bool.and_eq_true, decide_eq_true_eq, beq_iff_eq, bne_iff_ne] at hgood
                simp
                omega
              have hC : k = 0 ∨ (0 < k ∧ (s[k]'hlt).toNat < 48) ∨ (0 < k ∧ 57 < (s[k]'hlt).toNat) := by
                simp only [okChar, letterB, Bool.or_eq_true, Bool.and_eq_true, decide_eq_true_eq, beq_iff_eq, bne_iff_ne] at hgood
                omega
              clear hgood hat hok
              rcases hA with hA | ⟨hA, hA'⟩ <;> rcases hC with hC | ⟨hC, hD⟩ | ⟨hC, hD⟩
              all_goals first
                | (exfalso; omega)
                | (have hc0 : ((k : Int) == 0) = true := by simp [hC]
                   clear hC
                   go_wp2
                   go_ret
                   exact ⟨by rw [HP.out, HB.out]; rfl, hb1⟩)
                | (have hc0 : ((k : Int) == 0) = false := by simp; omega
                   go_wp2
                   go_ret
                   exact ⟨by rw [HP.out, HB.out]; rfl, hb1⟩)
          · have hk' : k = s.size := by omega
            have HT : Hid (charsB s.data.toList = true) := by
              refine Lib.hid ((charsB_iff _).2 fun i c hc => hok.out i c ?_ hc)
              have := (List.getElem?_eq_some_iff.1 hc).1
              rw [← Lib.size_eq] at this
              omega
            subst hk'
            go_wp2
            go_ret
            exact ⟨by rw [HP.out, HT.out]; rfl, hb1⟩
    · have HP : Hid (nameP s.data.toList = false) := by
        unfold nameP
        rw [decide_eq_false (by omega : ¬ s.data.toList.length ≤ 15)]
        simp [Hid]
      clear hsz hne hem HR
      go_enter Tryz.func86, Tryz.ntmps86
      go_wp2
      go_ret
      exact ⟨by rw [HP.out]; rfl, Below.refl _ _⟩

/-- What parts the words of a line. -/
def blankR (x : Nat) : Bool := x == 32 || x == 9 || x == 13 || x == 44
theorem blank_pays (w : World) : PredAtRunes Tryz.prog 83 #[] blankR w := fun W x _ _ => by
  unfold FnGives encR
  by_cases h1 : x = 32
  · subst h1
    go_enter Tryz.func83, Tryz.ntmps83
    go_wp2
    go_ret
    exact ⟨rfl, 0, rfl⟩
  · by_cases h2 : x = 9
    · subst h2
      go_enter Tryz.func83, Tryz.ntmps83
      go_wp2
      go_ret
      exact ⟨rfl, 0, rfl⟩
    · by_cases h3 : x = 13
      · subst h3
        go_enter Tryz.func83, Tryz.ntmps83
        go_wp2
        go_ret
        exact ⟨rfl, 0, rfl⟩
      · have z1 : ((x : Int) == 32) = false := by simp; omega
        have z2 : ((x : Int) == 9) = false := by simp; omega
        have z3 : ((x : Int) == 13) = false := by simp; omega
        have HP : Hid (blankR x = ((x : Int) == 44)) := by
          unfold blankR
          rw [show (x == 32) = false from by simpa using h1, show (x == 9) = false from by simpa using h2, show (x == 13) = false from by simpa using h3]
          simp only [Bool.false_or]
          refine Lib.hid ?_
          rw [Bool.eq_iff_iff]
          simp
          omega
        clear h1 h2 h3
        go_enter Tryz.func83, Tryz.ntmps83
        go_wp2
        go_ret
        exact ⟨by rw [HP.out]; rfl, 0, rfl⟩
end Go.Proofs.YtecmeegnjjhilaaGreatDoor
