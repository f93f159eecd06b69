/- The document's reading of a source text: lines, words, Register, IsName: what each returns. -/
import Derived.Test.YtecmeegnjjhilaaGreatDoorRefBM
import Derived.Test.YtecmeegnjjhilaaGreatDoorAsmRM
namespace Go.Proofs.YtecmeegnjjhilaaGreatDoor
open Go.RowKit
set_option maxRecDepth 100000 in
set_option maxHeartbeats 2000000 in
theorem rlines_any (s : ByteArray) (hs : s.size ≤ 100000000) (w : World) : Calls Tryz.prog 59 #[.string s] w fun e w' => ∃ A c, e = .returned (.slice A (cutL 10 s.data.toList).length c) ∧ w'.ownsRow w.heap.size 9 1 (.slice A (cutL 10 s.data.toList).length c) (cutL 10 s.data.toList).length (strs (cutL 10 s.data.toList)) ∧ Below w.heap.size w w' := by
  have HZ : Hid (s.size = s.data.toList.length) := Lib.hid (Lib.size_eq s)
  obtain ⟨i0, hi0, hz0, hz1, hz2⟩ := info_parts strinfo
  have hr := Below.refl w.heap.size w
  go_enter Tryz.func59, Tryz.ntmps59
  go_wp2_with fail
  go_loopw [3, 4, 5] (fun s3 s4 s5 wr => ∃ (k i : Nat) (L : List (List UInt8)) (A : Option Addr) (c : Nat), i ≤ s.size + 1 ∧ k ≤ i ∧ L.length ≤ i ∧ s3 = .slice A L.length c ∧ s4 = .int .i64 k ∧ s5 = .int .i64 i ∧
      Hid (CutAt 10 s.data.toList L k i) ∧ wr.ownsRow w.heap.size 9 1 (.slice A L.length c) L.length (strs L) ∧ Below w.heap.size w wr) (fun _ _ s5 _ => s.size + 1 - (intOf s5).toNat)
  case atStart => exact ⟨0, 0, [], none, 0, by omega, by omega, by simp, rfl, rfl, rfl, Lib.hid (by unfold CutAt; rw [if_pos (Nat.zero_le _)]; rfl), own_nil _ _ _ _, hr⟩
  case round =>
    obtain ⟨k, i, L, A, c, hi, hk, hLi, rfl, rfl, rfl, HC, hown, hb⟩ := hrel
    clear hr
    by_cases hlt : i < s.size
    · have hb2 : s.data.toList[i]? = some (s[i]'hlt) := by
        have hsz := HZ.out
        rw [List.getElem?_eq_getElem (by omega)]
        rfl
      have HH := Lib.hid (CutAt.hit HC.out hk _ hb2)
      have HGo := Lib.hid (CutAt.go HC.out hk _ hb2)
      have HE : Hid ((s[i]'hlt) = 10 ↔ (s[i]'hlt).toNat = 10) := Lib.hid ⟨fun h => by rw [h]; rfl, fun h => UInt8.toNat_inj.1 h⟩
      clear hb2 HC
      by_cases h10 : (s[i]'hlt).toNat = 10
      · have HN := Lib.hid (HH.out (HE.out.2 h10))
        have HX : Hid (s.extract k i = ⟨((s.data.toList.drop k).take (i - k)).toArray⟩) := Lib.hid (bytes_eq (by rw [Lib.extract_data]))
        clear HH HGo HE
        generalize (s.data.toList.drop k).take (i - k) = P at HN HX
        have hL2 : (L ++ [P]).length = L.length + 1 := by simp
        generalize hLP : L ++ [P] = L2 at HN hL2
        have HLP := Lib.hid hLP
        clear hLP
        go_wp2_with (at_builtin; refine wpList_append_own _ rfl (.tmp 22) (.tmp 27) _ rfl w.heap.size 9 i0 _ 1 16 Tryz.underlying54 hi0 hz0 hz1 hz2 rfl (by decide) (.slice A L.length c) L.length (strs L) rfl (hown.alloc _) ⟨wr.heap.size, 0, none⟩ 1 1 [.string (s.extract k i)] rfl rfl ?c1 ?c2 ?c3 ?c4 ?c5 ?_)
        case c1 => exact fun j u hu => new_cells wr _ _ j u hu
        case c2 => intro u hu; simp only [List.mem_cons, List.not_mem_nil, or_false] at hu; subst hu; rfl
        case c3 => unfold maxLen; omega
        case c4 => omega
        case c5 => exact Nat.le_trans hb.size (by simp)
        intro v9 w9 hown9 hg9 _
        have hv9 : ∃ A c, v9 = .slice A (L.length + 1) c := by
          rcases hown9.2 with ⟨_, h⟩ | ⟨g, cap, cur, h, _⟩
          · omega
          · exact ⟨_, _, h⟩
        obtain ⟨A9, c9, rfl⟩ := hv9
        have hb9 : Below w.heap.size w w9 := (hb.alloc hb.size (.cells #[.string (s.extract k i)] 9)).grown hg9 (Nat.le_trans hb.size (by simp)) (fun q hq => by have := own_from hown q hq; omega)
        have ho9 : w9.ownsRow w.heap.size 9 1 (.slice A9 L2.length c9) L2.length (strs L2) := by
          rw [hL2, ← HLP.out]
          rw [HX.out] at hown9
          have he : strs (L ++ [P]) = strs L ++ [Value.string (⟨P.toArray⟩ : ByteArray)] := by simp [strs]
          rw [he]
          exact hown9
        rw [← hL2]
        clear hown9 hg9 hown hb HLP
        go_wp2_with fail
        go_roundw
        case rel => exact ⟨i + 1, i + 1, L2, A9, c9, by omega, by omega, by omega, rfl, by go_num, by go_num, HN, ho9, hb9⟩
        case measure => simp [intOf]; omega
      · have HN := Lib.hid (HGo.out (fun h => h10 (HE.out.1 h)))
        have hc1 : (((s[i]'hlt).toNat : Int) == 10) = false := by rw [beq_eq_false_iff_ne]; omega
        clear HH HGo HE
        go_wp2_with fail
        go_roundw
        case rel => exact ⟨k, i + 1, L, A, c, by omega, by omega, by omega, rfl, rfl, by go_num, HN, hown, hb⟩
        case measure => simp [intOf]; omega
    · by_cases hin : i = s.size
      · subst hin
        have HC1 : CutAt 10 s.data.toList L k s.data.toList.length := by have h := HC.out; rw [HZ.out] at h; exact h
        have HN : Hid (CutAt 10 s.data.toList (L ++ [(s.data.toList.drop k).take (s.size - k)]) (s.size + 1) (s.size + 1)) := Lib.hid (by rw [HZ.out]; exact HC1.last)
        have HX : Hid (s.extract k s.size = ⟨((s.data.toList.drop k).take (s.size - k)).toArray⟩) := Lib.hid (bytes_eq (by rw [Lib.extract_data]))
        clear HC HC1
        generalize (s.data.toList.drop k).take (s.size - k) = P at HN HX
        have hL2 : (L ++ [P]).length = L.length + 1 := by simp
        generalize hLP : L ++ [P] = L2 at HN hL2
        have HLP := Lib.hid hLP
        clear hLP
        go_wp2_with (at_builtin; refine wpList_append_own _ rfl (.tmp 22) (.tmp 27) _ rfl w.heap.size 9 i0 _ 1 16 Tryz.underlying54 hi0 hz0 hz1 hz2 rfl (by decide) (.slice A L.length c) L.length (strs L) rfl (hown.alloc _) ⟨wr.heap.size, 0, none⟩ 1 1 [.string (s.extract k s.size)] rfl rfl ?c1 ?c2 ?c3 ?c4 ?c5 ?_)
        case c1 => exact fun j u hu => new_cells wr _ _ j u hu
        case c2 => intro u hu; simp only [List.mem_cons, List.not_mem_nil, or_false] at hu; subst hu; rfl
        case c3 => unfold maxLen; omega
        case c4 => omega
        case c5 => exact Nat.le_trans hb.size (by simp)
        intro v9 w9 hown9 hg9 _
        have hv9 : ∃ A c, v9 = .slice A (L.length + 1) c := by
          rcases hown9.2 with ⟨_, h⟩ | ⟨g, cap, cur, h, _⟩
          · omega
          · exact ⟨_, _, h⟩
        obtain ⟨A9, c9, rfl⟩ := hv9
        have hb9 : Below w.heap.size w w9 := (hb.alloc hb.size (.cells #[.string (s.extract k s.size)] 9)).grown hg9 (Nat.le_trans hb.size (by simp)) (fun q hq => by have := own_from hown q hq; omega)
        have ho9 : w9.ownsRow w.heap.size 9 1 (.slice A9 L2.length c9) L2.length (strs L2) := by
          rw [hL2, ← HLP.out]
          rw [HX.out] at hown9
          have he : strs (L ++ [P]) = strs L ++ [Value.string (⟨P.toArray⟩ : ByteArray)] := by simp [strs]
          rw [he]
          exact hown9
        rw [← hL2]
        clear hown9 hg9 hown hb HLP
        go_wp2_with fail
        go_roundw
        case rel => exact ⟨s.size + 1, s.size + 1, L2, A9, c9, by omega, by omega, by omega, rfl, by go_num, by go_num, HN, ho9, hb9⟩
        case measure => simp [intOf]
      · have hL : cutL 10 s.data.toList = L := by
          have h := HC.out
          unfold CutAt at h
          rw [if_neg (by have := HZ.out; omega)] at h
          exact h
        have HL := Lib.hid hL
        clear HC hL
        go_wp2_with fail
        go_ret
        rw [HL.out]
        exact ⟨A, c, rfl, hown, hb⟩

/-- The lines are the pieces between line ends. -/
theorem cut_hit10 (r : List UInt8) : ∀ (l acc : List UInt8), (10 : UInt8) ∉ l → cutGo 10 (l ++ 10 :: r) acc = (acc ++ l) :: cutL 10 r
  | [], acc, _ => by
    show cutGo 10 (10 :: r) acc = _
    unfold cutGo
    rw [if_pos rfl, List.append_nil]
    rfl
  | c :: l, acc, h => by
    rw [List.cons_append]
    unfold cutGo
    rw [if_neg (fun e => h (by simp [e])), cut_hit10 r l _ (fun e => h (by simp [e]))]
    simp
theorem cut_one10 : ∀ (l acc : List UInt8), (10 : UInt8) ∉ l → cutGo 10 l acc = [acc ++ l]
  | [], acc, _ => by simp [cutGo]
  | c :: l, acc, h => by
    unfold cutGo
    rw [if_neg (fun e => h (by simp [e])), cut_one10 l _ (fun e => h (by simp [e]))]
    simp
theorem first_end (l : List UInt8) : (10 : UInt8) ∉ l ∨ ∃ a r, l = a ++ 10 :: r ∧ (10 : UInt8) ∉ a := by
  by_cases h : (10 : UInt8) ∈ l
  · obtain ⟨a, r, e, hn⟩ := List.eq_append_cons_of_mem h
    exact .inr ⟨a, r, e, hn⟩
  · exact .inl h
theorem lines_cut : ∀ (n : Nat) (l : List UInt8), l.length ≤ n → linesL ⟨l.toArray⟩ = (cutL 10 l).map fun (l : List UInt8) => (⟨l.toArray⟩ : ByteArray) := by
  intro n
  induction n with
  | zero =>
    intro l hl
    have : l = [] := List.eq_nil_of_length_eq_zero (by omega)
    subst this
    rw [lines_one [] (by simp)]
    rfl
  | succ n ih =>
    intro l hl
    rcases first_end l with h | ⟨a, r, rfl, h⟩
    · rw [lines_one l h]
      unfold cutL
      rw [cut_one10 l [] h]
      rfl
    · rw [lines_hit a r h, ih r (by rw [List.length_append, List.length_cons] at hl; omega)]
      unfold cutL
      rw [cut_hit10 r a [] h]
      rfl

/-- What a stop leaves of the words. -/
theorem words_stop (l : List UInt8) (st : Option Nat) (i : Nat) (hi : i ≤ l.length) (hst : ∀ a, st = some a → a < i) : wordsGo [] (openW l st i) = match st with | none => [] | some a => [(l.drop a).take (i - a)] := by
  cases st with
  | none => simp [openW, wordsGo]
  | some a =>
    have := open_ne l a i (hst a rfl) hi
    simp only [openW]
    rw [wordsGo, if_neg this]
theorem code_at (l : List UInt8) (i : Nat) (c : UInt8) (hc : l[i]? = some c) : codeL (l.drop i) = if c = 59 then [] else c :: codeL (l.drop (i + 1)) := by
  obtain ⟨hl, he⟩ := List.getElem?_eq_some_iff.1 hc
  rw [List.drop_eq_getElem_cons hl, he, codeL]
theorem open_step (l : List UInt8) (a i : Nat) (c : UInt8) (hc : l[i]? = some c) (ha : a ≤ i) : (l.drop a).take (i - a) ++ [c] = (l.drop a).take (i + 1 - a) := by
  rw [show i + 1 - a = (i - a) + 1 by omega, List.take_add_one, List.getElem?_drop, show a + (i - a) = i by omega, hc]
  rfl

set_option maxRecDepth 100000 in
set_option maxHeartbeats 8000000 in
theorem rwords_any (s : ByteArray) (hs : s.size ≤ 100000000) (w : World) : Calls Tryz.prog 61 #[.string s] w fun e w' => ∃ A c, e = .returned (.slice A (wordsGo (codeL s.data.toList) []).length c) ∧
    w'.ownsRow w.heap.size 9 1 (.slice A (wordsGo (codeL s.data.toList) []).length c) (wordsGo (codeL s.data.toList) []).length (strs (wordsGo (codeL s.data.toList) [])) ∧ Below w.heap.size w w' := by
  have HZ : Hid (s.size = s.data.toList.length) := Lib.hid (Lib.size_eq s)
  obtain ⟨i0, hi0, hz0, hz1, hz2⟩ := info_parts strinfo
  have hr := Below.refl w.heap.size w
  generalize hR : wordsGo (codeL s.data.toList) [] = R
  have HR := Lib.hid hR
  clear hR
  go_enter Tryz.func61, Tryz.ntmps61
  go_wp2_with fail
  go_loopw [3, 4, 5] (fun s3 s4 s5 wr => ∃ (i : Nat) (L : List (List UInt8)) (st : Option Nat) (A : Option Addr) (c : Nat), i ≤ s.size ∧ L.length ≤ i ∧ s3 = .slice A L.length c ∧ s4 = .int .i64 (match st with | none => -1 | some a => (a : Int)) ∧ s5 = .int .i64 i ∧ (∀ a, st = some a → a < i) ∧
      Hid (R = L ++ wordsGo (codeL (s.data.toList.drop i)) (openW s.data.toList st i)) ∧ wr.ownsRow w.heap.size 9 1 (.slice A L.length c) L.length (strs L) ∧ Below w.heap.size w wr) (fun _ _ s5 _ => s.size - (intOf s5).toNat)
  case atStart => exact ⟨0, [], none, none, 0, by omega, by simp, rfl, rfl, rfl, (fun a h => by cases h), Lib.hid (by rw [← HR.out]; rfl), own_nil _ _ _ _, hr⟩
  case round =>
    obtain ⟨i, L, st, A, c, hi, hLi, rfl, rfl, rfl, hst, HC, hown, hb⟩ := hrel
    clear hr HR
    have Hst := Lib.hid hst
    clear hst
    by_cases hlt : i < s.size
    · have hb2 : s.data.toList[i]? = some (s[i]'hlt) := by
        have hsz := HZ.out
        rw [List.getElem?_eq_getElem (by omega)]
        rfl
      have hsz := HZ.out
      by_cases h59 : (s[i]'hlt).toNat = 59
      · have hcode : codeL (s.data.toList.drop i) = [] := by rw [code_at _ _ _ hb2, if_pos (UInt8.toNat_inj.1 h59)]
        cases st with
        | none =>
          have HN : Hid (R = L) := Lib.hid (by rw [HC.out, hcode, words_stop _ none _ (by omega) (fun a h => by cases h)]; simp)
          clear HC hcode hsz hb2
          go_wp2_with fail
          go_ret
          rw [HN.out]
          exact ⟨A, c, rfl, hown, hb⟩
        | some a =>
          have HN : Hid (R = L ++ [(s.data.toList.drop a).take (i - a)]) := Lib.hid (by rw [HC.out, hcode, words_stop _ (some a) _ (by omega) Hst.out])
          have hai := Hst.out a rfl
          clear HC hcode hsz hb2
          have HXx : Hid (s.extract a i = ⟨((s.data.toList.drop a).take (i - a)).toArray⟩) := Lib.hid (bytes_eq (by rw [Lib.extract_data]))
          generalize (s.data.toList.drop a).take (i - a) = P at HN HXx
          have hL2 : (L ++ [P]).length = L.length + 1 := by simp
          generalize hLP : L ++ [P] = L2 at HN hL2
          have HLP := Lib.hid hLP
          clear hLP
          go_wp2_with (at_builtin; refine wpList_append_own _ rfl (.tmp 50) (.tmp 55) _ rfl w.heap.size 9 i0 _ 1 16 Tryz.underlying54 hi0 hz0 hz1 hz2 rfl (by decide) (.slice A L.length c) L.length (strs L) rfl (hown.alloc _) ⟨wr.heap.size, 0, none⟩ 1 1 [.string (s.extract a i)] rfl rfl (fun j u hu => new_cells wr _ _ j u hu) (by intro u hu; simp only [List.mem_cons, List.not_mem_nil, or_false] at hu; subst hu; rfl) (by unfold maxLen; omega) (by omega) (Nat.le_trans hb.size (by simp)) ?_)
          intro v9 w9 hown9 hg9 _
          have hv9 : ∃ A c, v9 = .slice A (L.length + 1) c := by
            rcases hown9.2 with ⟨_, h⟩ | ⟨g, cap, cur, h, _⟩
            · omega
            · exact ⟨_, _, h⟩
          obtain ⟨A9, c9, rfl⟩ := hv9
          have hb9 : Below w.heap.size w w9 := (hb.alloc hb.size (.cells #[.string (s.extract a i)] 9)).grown hg9 (Nat.le_trans hb.size (by simp)) (fun q hq => by have := own_from hown q hq; omega)
          have ho9 : w9.ownsRow w.heap.size 9 1 (.slice A9 L2.length c9) L2.length (strs L2) := by
            rw [hL2, ← HLP.out]
            rw [HXx.out] at hown9
            have he : strs (L ++ [P]) = strs L ++ [Value.string (⟨P.toArray⟩ : ByteArray)] := by simp [strs]
            rw [he]
            exact hown9
          rw [← hL2]
          clear hown9 hg9 hown hb HLP
          go_wp2_with fail
          go_ret
          rw [HN.out]
          exact ⟨A9, c9, rfl, ho9, hb9⟩
      · have h59n : (s[i]'hlt) ≠ 59 := fun h => h59 (by rw [h]; rfl)
        have e59 : (((s[i]'hlt).toNat : Int) == 59) = false := by rw [beq_eq_false_iff_ne]; omega
        by_cases hbl : blankB (s[i]'hlt) = true
        · have hfour : (s[i]'hlt).toNat = 32 ∨ (s[i]'hlt).toNat = 9 ∨ (s[i]'hlt).toNat = 13 ∨ (s[i]'hlt).toNat = 44 := by
            simp only [blankB, blankR, Bool.or_eq_true, beq_iff_eq] at hbl
            omega
          cases st with
          | none =>
            have HN : Hid (R = L ++ wordsGo (codeL (s.data.toList.drop (i + 1))) (openW s.data.toList none (i + 1))) := Lib.hid (by
              rw [HC.out, code_at _ _ _ hb2, if_neg h59n]
              simp only [openW]
              rw [wordsGo, if_pos hbl, if_pos rfl])
            clear HC hb2 hsz h59 h59n hbl e59
            rcases hfour with h | h | h | h
            all_goals
              go_wp2_with fail
              go_roundw
              case rel => exact ⟨i + 1, L, none, A, c, by omega, by omega, rfl, rfl, by go_num, (fun a h => by cases h), HN, hown, hb⟩
              case measure => simp [intOf]; omega
          | some a =>
            have HN : Hid (R = (L ++ [(s.data.toList.drop a).take (i - a)]) ++ wordsGo (codeL (s.data.toList.drop (i + 1))) (openW s.data.toList none (i + 1))) := Lib.hid (by
              rw [HC.out, code_at _ _ _ hb2, if_neg h59n]
              simp only [openW]
              rw [wordsGo, if_pos hbl, if_neg (open_ne _ a i (Hst.out a rfl) (by omega))]
              simp)
            have hai := Hst.out a rfl
            clear HC hb2 hsz h59 h59n hbl e59
            rcases hfour with h | h | h | h
            all_goals
              have HXx : Hid (s.extract a i = ⟨((s.data.toList.drop a).take (i - a)).toArray⟩) := Lib.hid (bytes_eq (by rw [Lib.extract_data]))
              generalize (s.data.toList.drop a).take (i - a) = P at HN HXx
              have hL2 : (L ++ [P]).length = L.length + 1 := by simp
              generalize hLP : L ++ [P] = L2 at HN hL2
              have HLP := Lib.hid hLP
              clear hLP
              go_wp2_with (at_builtin; refine wpList_append_own _ rfl (.tmp 50) (.tmp 55) _ rfl w.heap.size 9 i0 _ 1 16 Tryz.underlying54 hi0 hz0 hz1 hz2 rfl (by decide) (.slice A L.length c) L.length (strs L) rfl (hown.alloc _) ⟨wr.heap.size, 0, none⟩ 1 1 [.string (s.extract a i)] rfl rfl (fun j u hu => new_cells wr _ _ j u hu) (by intro u hu; simp only [List.mem_cons, List.not_mem_nil, or_false] at hu; subst hu; rfl) (by unfold maxLen; omega) (by omega) (Nat.le_trans hb.size (by simp)) ?_)
              intro v9 w9 hown9 hg9 _
              have hv9 : ∃ A c, v9 = .slice A (L.length + 1) c := by
                rcases hown9.2 with ⟨_, h⟩ | ⟨g, cap, cur, h, _⟩
                · omega
                · exact ⟨_, _, h⟩
              obtain ⟨A9, c9, rfl⟩ := hv9
              have hb9 : Below w.heap.size w w9 := (hb.alloc hb.size (.cells #[.string (s.extract a i)] 9)).grown hg9 (Nat.le_trans hb.size (by simp)) (fun q hq => by have := own_from hown q hq; omega)
              have ho9 : w9.ownsRow w.heap.size 9 1 (.slice A9 L2.length c9) L2.length (strs L2) := by
                rw [hL2, ← HLP.out]
                rw [HXx.out] at hown9
                have he : strs (L ++ [P]) = strs L ++ [Value.string (⟨P.toArray⟩ : ByteArray)] := by simp [strs]
                rw [he]
                exact hown9
              rw [← hL2]
              clear hown9 hg9 hown hb HLP
              go_wp2_with fail
              go_roundw
              case rel => exact ⟨i + 1, L2, none, A9, c9, by omega, by omega, rfl, rfl, by go_num, (fun a h => by cases h), HN, ho9, hb9⟩
              case measure => simp [intOf]; omega
        · have e32 : (((s[i]'hlt).toNat : Int) == 32) = false := by
            simp only [blankB, blankR, Bool.or_eq_true, beq_iff_eq] at hbl
            rw [beq_eq_false_iff_ne]; omega
          have e9 : (((s[i]'hlt).toNat : Int) == 9) = false := by
            simp only [blankB, blankR, Bool.or_eq_true, beq_iff_eq] at hbl
            rw [beq_eq_false_iff_ne]; omega
          have e13 : (((s[i]'hlt).toNat : Int) == 13) = false := by
            simp only [blankB, blankR, Bool.or_eq_true, beq_iff_eq] at hbl
            rw [beq_eq_false_iff_ne]; omega
          have e44 : (((s[i]'hlt).toNat : Int) == 44) = false := by
            simp only [blankB, blankR, Bool.or_eq_true, beq_iff_eq] at hbl
            rw [beq_eq_false_iff_ne]; omega
          cases st with
          | none =>
            have HN : Hid (R = L ++ wordsGo (codeL (s.data.toList.drop (i + 1))) (openW s.data.toList (some i) (i + 1))) := Lib.hid (by
              rw [HC.out, code_at _ _ _ hb2, if_neg h59n]
              simp only [openW]
              rw [wordsGo, if_neg hbl, ← open_step _ i i _ hb2 (Nat.le_refl _), Nat.sub_self, List.take_zero])
            clear HC hb2 hsz h59 h59n hbl
            go_wp2_with fail
            go_roundw
            case rel => exact ⟨i + 1, L, some i, A, c, by omega, by omega, rfl, rfl, by go_num, (fun a h => by injection h with h; omega), HN, hown, hb⟩
            case measure => simp [intOf]; omega
          | some a =>
            have HN : Hid (R = L ++ wordsGo (codeL (s.data.toList.drop (i + 1))) (openW s.data.toList (some a) (i + 1))) := Lib.hid (by
              rw [HC.out, code_at _ _ _ hb2, if_neg h59n]
              simp only [openW]
              rw [wordsGo, if_neg hbl, open_step _ a i _ hb2 (Nat.le_of_lt (Hst.out a rfl))])
            have hai := Hst.out a rfl
            clear HC hb2 hsz h59 h59n hbl
            go_wp2_with fail
            go_roundw
            case rel => exact ⟨i + 1, L, some a, A, c, by omega, by omega, rfl, rfl, by go_num, (fun a' h => by injection h with h; omega), HN, hown, hb⟩
            case measure => simp [intOf]; omega
    · obtain rfl : i = s.size := by omega
      have hsz := HZ.out
      have hb2 : True := trivial
      have hcode : codeL (s.data.toList.drop s.size) = [] := by rw [List.drop_eq_nil_of_le (by omega)]; rfl
      cases st with
      | none =>
        have HN : Hid (R = L) := Lib.hid (by rw [HC.out, hcode, words_stop _ none _ (by omega) (fun a h => by cases h)]; simp)
        clear HC hcode hsz hb2
        go_wp2_with fail
        go_ret
        rw [HN.out]
        exact ⟨A, c, rfl, hown, hb⟩
      | some a =>
        have HN : Hid (R = L ++ [(s.data.toList.drop a).take (s.size - a)]) := Lib.hid (by rw [HC.out, hcode, words_stop _ (some a) _ (by omega) Hst.out])
        have hai := Hst.out a rfl
        clear HC hcode hsz hb2
        have HXx : Hid (s.extract a s.size = ⟨((s.data.toList.drop a).take (s.size - a)).toArray⟩) := Lib.hid (bytes_eq (by rw [Lib.extract_data]))
        generalize (s.data.toList.drop a).take (s.size - a) = P at HN HXx
        have hL2 : (L ++ [P]).length = L.length + 1 := by simp
        generalize hLP : L ++ [P] = L2 at HN hL2
        have HLP := Lib.hid hLP
        clear hLP
        go_wp2_with (at_builtin; refine wpList_append_own _ rfl (.tmp 50) (.tmp 55) _ rfl w.heap.size 9 i0 _ 1 16 Tryz.underlying54 hi0 hz0 hz1 hz2 rfl (by decide) (.slice A L.length c) L.length (strs L) rfl (hown.alloc _) ⟨wr.heap.size, 0, none⟩ 1 1 [.string (s.extract a s.size)] rfl rfl (fun j u hu => new_cells wr _ _ j u hu) (by intro u hu; simp only [List.mem_cons, List.not_mem_nil, or_false] at hu; subst hu; rfl) (by unfold maxLen; omega) (by omega) (Nat.le_trans hb.size (by simp)) ?_)
        intro v9 w9 hown9 hg9 _
        have hv9 : ∃ A c, v9 = .slice A (L.length + 1) c := by
          rcases hown9.2 with ⟨_, h⟩ | ⟨g, cap, cur, h, _⟩
          · omega
          · exact ⟨_, _, h⟩
        obtain ⟨A9, c9, rfl⟩ := hv9
        have hb9 : Below w.heap.size w w9 := (hb.alloc hb.size (.cells #[.string (s.extract a s.size)] 9)).grown hg9 (Nat.le_trans hb.size (by simp)) (fun q hq => by have := own_from hown q hq; omega)
        have ho9 : w9.ownsRow w.heap.size 9 1 (.slice A9 L2.length c9) L2.length (strs L2) := by
          rw [hL2, ← HLP.out]
          rw [HXx.out] at hown9
          have he : strs (L ++ [P]) = strs L ++ [Value.string (⟨P.toArray⟩ : ByteArray)] := by simp [strs]
          rw [he]
          exact hown9
        rw [← hL2]
        clear hown9 hg9 hown hb HLP
        go_wp2_with fail
        go_ret
        rw [HN.out]
        exact ⟨A9, c9, rfl, ho9, hb9⟩

theorem reg_is (l : List UInt8) (h : 0 ≤ regP l) : l = regT (regP l) := by
  unfold regP at h ⊢
  split at h
  · omega
  · rename_i h1
    rw [if_neg h1]
    split at h
    · omega
    · rename_i h2
      rw [if_neg h2]
      cases ha : Lib.atoiAll (l.drop 1) with
      | ok v =>
        rw [ha] at h
        simp only at h ⊢
        split at h
        · omega
        · rename_i h3
          rw [if_neg h3]
          split at h
          · rename_i h4
            rw [if_pos h4]
            unfold regT
            rw [h4]
            cases l with
            | nil => simp at h1
            | cons c r =>
              simp only [List.getD_cons_zero, Classical.not_not] at h2
              rw [show c = 114 from UInt8.toNat_inj.1 h2]
              rfl
          · omega
      | _ =>
        rw [ha] at h
        simp only at h
        omega
def NoReg (l : List UInt8) (k : Nat) : Prop := ∀ r : Nat, r < k → l ≠ regT (r : Int)
theorem noreg_all (l : List UInt8) (h : NoReg l 16) : regP l = -1 ∨ regP l < 0 := by
  by_cases h0 : 0 ≤ regP l
  · have h1 := regP_le l
    have h2 := reg_is l h0
    obtain ⟨r, hr⟩ := Int.eq_ofNat_of_zero_le h0
    rw [hr] at h1 h2
    exact absurd h2 (h r (by omega))
  · exact .inr (by omega)
theorem regP_neg (l : List UInt8) (h : regP l < 0) : regP l = -1 := by
  unfold regP at h ⊢
  repeat' split at h
  all_goals first | (exfalso; omega) | skip
  all_goals (repeat' split)
  all_goals first | rfl | (exfalso; omega) | skip
  all_goals simp_all
set_option maxHeartbeats 2000000 in
theorem RRegister_any (s : ByteArray) (_ : s.size ≤ 100000000) (w : World) : Calls Tryz.prog 121 #[.string s] w fun e w' => e = .returned (.int .i64 (regP s.data.toList)) ∧ Below w.heap.size w w' := by
  have hr := Below.refl w.heap.size w
  go_enter Tryz.func121, Tryz.ntmps121
  go_wp2_with fail
  go_loopw [3] (fun s3 wr => ∃ k : Nat, k ≤ 16 ∧ s3 = .int .i64 k ∧ Hid (NoReg s.data.toList k) ∧ Below w.heap.size w wr) (fun s3 _ => 16 - (intOf s3).toNat)
  case atStart => exact ⟨0, by omega, rfl, Lib.hid (fun r h => by omega), hr⟩
  case round =>
    obtain ⟨k, hk, rfl, HN, hb⟩ := hrel
    clear hr
    by_cases hlt : k < 16
    · have HU := Lib.hid (Number10_any (k : Int) (by omega) (by omega) wr)
      have hl := itoa_short (k : Int) (by omega) (by omega)
      have hRT : regT (k : Int) = 114 :: Lib.itoa (k : Int) := reg_dec (k : Int) (by omega)
      have HB : Hid (regP (regT (k : Int)) = k) := Lib.hid (reg_back (k : Int) (by omega) (by omega))
      generalize regT (k : Int) = T at hRT HB
      have HNx : Hid (s.data.toList ≠ regT (k : Int) → NoReg s.data.toList (k + 1)) := Lib.hid (fun hne r hr => by
        rcases Nat.lt_or_ge r k with h | h
        · exact HN.out r h
        · obtain rfl : r = k := by omega
          exact hne)
      have hRT2 : regT (k : Int) = T := by rw [hRT]; exact reg_dec (k : Int) (by omega)
      rw [hRT2] at HNx
      generalize Lib.itoa (k : Int) = D at HU hl hRT
      have hcat : ¬ 9223372036854775807 < 1 + D.length := by omega
      obtain ⟨Y, hY⟩ : ∃ Y : ByteArray, ((⟨#[114]⟩ : ByteArray) ++ ⟨D.toArray⟩) = Y := ⟨_, rfl⟩
      have HYd : Hid (Y.data.toList = T) := Lib.hid (by rw [← hY, Joins.data_append, hRT]; rfl)
      clear hRT hRT2 HN
      by_cases he : s.data.toList = T
      · have hq : (s.toList == Y.toList) = true := by rw [ByteArray.toList_eq, ByteArray.toList_eq, HYd.out, beq_iff_eq]; exact he
        have HR : Hid (regP s.data.toList = k) := Lib.hid (by rw [he]; exact HB.out)
        clear he HYd HB HNx
        go_wp2_with fail
        refine HU.out.mono ?_
        rintro e w2 ⟨rfl, hb2⟩
        have hb02 : Below w.heap.size w w2 := hb.trans (hb2.mono hb.size)
        clear HU hb hb2
        go_wp2_with fail
        go_ret
        rw [HR.out]
        exact ⟨rfl, hb02⟩
      · have hq : (s.toList == Y.toList) = false := by rw [ByteArray.toList_eq, ByteArray.toList_eq, HYd.out, beq_eq_false_iff_ne]; exact he
        have HNy := Lib.hid (HNx.out he)
        clear he HYd HB HNx
        go_wp2_with fail
        refine HU.out.mono ?_
        rintro e w2 ⟨rfl, hb2⟩
        have hb02 : Below w.heap.size w w2 := hb.trans (hb2.mono hb.size)
        clear HU hb hb2
        go_wp2_with fail
        go_roundw
        case rel => exact ⟨k + 1, by omega, by go_num, HNy, hb02⟩
        case measure => simp [intOf]; omega
    · obtain rfl : k = 16 := by omega
      have HR : Hid (regP s.data.toList = -1) := Lib.hid (by
        rcases noreg_all _ HN.out with h | h
        · exact h
        · exact regP_neg _ h)
      clear HN
      go_wp2_with fail
      go_ret
      rw [HR.out]
      exact ⟨rfl, hb⟩
end Go.Proofs.YtecmeegnjjhilaaGreatDoor

/- The document's IsName and Value: what each returns. -/
namespace Go.Proofs.YtecmeegnjjhilaaGreatDoor
open Go.RowKit
set_option maxHeartbeats 4000000 in
set_option maxRecDepth 100000 in
theorem RIsName_any (s : ByteArray) (hs : s.size ≤ 100000000) (w : World) :
    Calls Tryz.prog 89 #[.string s] w fun e w' => e = .returned (.bool (nameP s.data.toList)) ∧ Below w.heap.size w w' := by
  have hsz : s.data.toList.length = s.size := (Lib.size_eq s).symm
  have HR := Lib.hid (RRegister_any s hs w)
  by_cases h0 : s.size < 1
  · have hnil : s.data.toList = [] := List.eq_nil_of_length_eq_zero (by omega)
    have HP : Hid (nameP s.data.toList = false) := by rw [hnil]; rfl
    clear hsz hnil HR
    go_enter Tryz.func89, Tryz.ntmps89
    go_wp2
    go_ret
    exact ⟨by rw [HP.out]; rfl, Below.refl _ _⟩
  · have hne : s.data.toList ≠ [] := by intro e; rw [e] at hsz; simp at hsz; omega
    have hem : s.data.toList.isEmpty = false := by simpa using hne
    by_cases h15 : s.size ≤ 15
    · have hd15 : decide (15 < (s.size : Int)) = false := by simp; omega
      have hd1 : decide ((s.size : Int) < 1) = false := by simp; omega
      by_cases hr : 0 ≤ regP s.data.toList
      · have HP : Hid (nameP s.data.toList = false) := by
          unfold nameP
          rw [decide_eq_false (by omega : ¬ regP s.data.toList < 0)]
          simp [Hid]
        clear hsz hne hem
        generalize regP s.data.toList = rg at HR hr
        go_enter Tryz.func89, Tryz.ntmps89
        go_wp2_with fail
        refine HR.out.mono ?_
        rintro e w1 ⟨rfl, hb1⟩
        go_wp2
        go_ret
        exact ⟨by rw [HP.out]; rfl, hb1⟩
      · have HP : Hid (nameP s.data.toList = charsB s.data.toList) := by
          unfold nameP
          rw [hem, decide_eq_true (by omega : s.data.toList.length ≤ 15), decide_eq_true (by omega : regP s.data.toList < 0)]
          simp [Hid]
        clear hsz hne hem
        generalize regP s.data.toList = rg at HR hr
        have hdr : decide (0 ≤ rg) = false := by simp; omega
        clear hr
        go_enter Tryz.func89, Tryz.ntmps89
        go_wp2_with fail
        refine HR.out.mono ?_
        rintro e w1 ⟨rfl, hb1⟩
        clear HR
        go_wp2
        clear hdr hd15 hd1
        go_loop [3] (fun i => ∃ k : Nat, k ≤ s.size ∧ i = .int .i64 k ∧ Hid (∀ (i : Nat) (c : UInt8), i < k → s.data.toList[i]? = some c → okChar i c.toNat = true)) (fun i => s.size - (intOf i).toNat)
        case atStart => exact ⟨0, Nat.zero_le _, rfl, fun i c h _ => absurd h (by omega)⟩
        case round =>
          obtain ⟨k, hk, rfl, hok⟩ := hrel
          by_cases hlt : k < s.size
          · have hat := Lib.hid (byte_at s k hlt)
            have hb8 := (s[k]'hlt).toNat_lt
            by_cases hgood : okChar k (s[k]'hlt).toNat = true
            · have hcases : (97 ≤ (s[k]'hlt).toNat ∧ (s[k]'hlt).toNat ≤ 122) ∨ (s[k]'hlt).toNat = 95 ∨ (0 < k ∧ 48 ≤ (s[k]'hlt).toNat ∧ (s[k]'hlt).toNat ≤ 57) := by
                simp only [okChar, letterB, Bool.or_eq_true, Bool.and_eq_true, decide_eq_true_eq, beq_iff_eq, bne_iff_ne] at hgood
                omega
              have hrel' : ∀ (i : Nat) (c : UInt8), i < k + 1 → s.data.toList[i]? = some c → okChar i c.toNat = true := by
                intro i c hi hc
                by_cases e : i = k
                · subst e
                  rw [hat.out] at hc
                  injection hc with hc
                  rw [← hc]; exact hgood
                · exact hok.out i c (by omega) hc
              have HRel := Lib.hid hrel'
              clear hrel' hgood hat hok HP
              rcases hcases with ⟨c1, c2⟩ | c3 | ⟨c4, c5, c6⟩
              · go_wp2
                go_round
                case rel => exact ⟨k + 1, by omega, by go_num, HRel.out⟩
                case measure => simp [intOf]; omega
              · have c3' : (((s[k]'hlt).toNat : Int) == 95) = true := by simp [c3]
                have c7 : ¬ (97 : Int) ≤ ((s[k]'hlt).toNat : Int) := by omega
                have c8 : decide ((97 : Int) ≤ ((s[k]'hlt).toNat : Int)) = false := by simp; omega
                clear c3
                go_wp2
                go_round
                case rel => exact ⟨k + 1, by omega, by go_num, HRel.out⟩
                case measure => simp [intOf]; omega
              · have c3' : (((s[k]'hlt).toNat : Int) == 95) = false := by simp; omega
                have c7 : ¬ (97 : Int) ≤ ((s[k]'hlt).toNat : Int) := by omega
                have c8 : decide ((97 : Int) ≤ ((s[k]'hlt).toNat : Int)) = false := by simp; omega
                have c9 : decide ((0 : Int) < (k : Int)) = true := by simp; omega
                have c10 : decide ((48 : Int) ≤ ((s[k]'hlt).toNat : Int)) = true := by simp; omega
                have c11 : decide (((s[k]'hlt).toNat : Int) ≤ 57) = true := by simp; omega
                go_wp2
                go_round
                case rel => exact ⟨k + 1, by omega, by go_num, HRel.out⟩
                case measure => simp [intOf]; omega
            · have HB : Hid (charsB s.data.toList = false) := by
                cases hc : charsB s.data.toList with
                | false => exact Lib.hid rfl
                | true => exact absurd ((charsB_iff _).1 hc k _ hat.out) hgood
              have hA : ((s[k]'hlt).toNat < 97 ∧ decide ((97 : Int) ≤ ((s[k]'hlt).toNat : Int)) = false) ∨ (122 < (s[k]'hlt).toNat ∧ decide (((s[k]'hlt).toNat : Int) ≤ 122) = false) := by
                simp only [okChar, letterB, Bool.or_eq_true, Bool.and_eq_true, decide_eq_true_eq, beq_iff_eq, bne_iff_ne] at hgood
                rcases Nat.lt_or_ge (s[k]'hlt).toNat 97 with h | h
                · refine .inl ⟨h, ?_⟩
                  simp
                  omega
                · refine .inr ⟨by omega, ?_⟩
                  simp
                  omega
              have hB : (((s[k]'hlt).toNat : Int) == 95) = false := by
                simp only [okChar, letterB, Bool.or_eq_true, Bool.and_eq_true, decide_eq_true_eq, beq_iff_eq, bne_iff_ne] at hgood
                simp
                omega
              have hC : (k = 0 ∧ decide ((0 : Int) < (k : Int)) = false) ∨ (0 < k ∧ (s[k]'hlt).toNat < 48 ∧ decide ((48 : Int) ≤ ((s[k]'hlt).toNat : Int)) = false) ∨ (0 < k ∧ 57 < (s[k]'hlt).toNat ∧ decide (((s[k]'hlt).toNat : Int) ≤ 57) = false) := by
                simp only [okChar, letterB, Bool.or_eq_true, Bool.and_eq_true, decide_eq_true_eq, beq_iff_eq, bne_iff_ne] at hgood
                by_cases h0 : k = 0
                · refine .inl ⟨h0, ?_⟩
                  simp
                  omega
                · rcases Nat.lt_or_ge (s[k]'hlt).toNat 48 with h | h
                  · refine .inr (.inl ⟨by omega, h, ?_⟩)
                    simp
                    omega
                  · refine .inr (.inr ⟨by omega, by omega, ?_⟩)
                    simp
                    omega
              clear hgood hat hok
              rcases hA with ⟨hA, hA'⟩ | ⟨hA, hA'⟩ <;> rcases hC with ⟨hC, hC'⟩ | ⟨hC, hD, hC'⟩ | ⟨hC, hD, hC'⟩
              all_goals first
                | (exfalso; omega)
                | (have c9 : decide (0 < k) = false := by simp; omega
                   have c10 : ¬ 0 < k := by omega
                   clear hC
                   go_wp2
                   go_ret
                   exact ⟨by rw [HP.out, HB.out]; rfl, hb1⟩)
                | (have c9 : decide ((0 : Int) < (k : Int)) = true := by simp; omega
                   go_wp2
                   go_ret
                   exact ⟨by rw [HP.out, HB.out]; rfl, hb1⟩)
          · have hk' : k = s.size := by omega
            have HT : Hid (charsB s.data.toList = true) := by
              refine Lib.hid ((charsB_iff _).2 fun i c hc => hok.out i c ?_ hc)
              have := (List.getElem?_eq_some_iff.1 hc).1
              rw [← Lib.size_eq] at this
              omega
            subst hk'
            go_wp2
            go_ret
            exact ⟨by rw [HP.out, HT.out]; rfl, hb1⟩
    · have HP : Hid (nameP s.data.toList = false) := by
        unfold nameP
        rw [decide_eq_false (by omega : ¬ s.data.toList.length ≤ 15)]
        simp [Hid]
      have hd15 : decide (15 < (s.size : Int)) = true := by simp; omega
      have hd1 : decide ((s.size : Int) < 1) = false := by simp; omega
      clear hsz hne hem HR
      go_enter Tryz.func89, Tryz.ntmps89
      go_wp2
      go_ret
      exact ⟨by rw [HP.out]; rfl, Below.refl _ _⟩
end Go.Proofs.YtecmeegnjjhilaaGreatDoor

/- The document's Value: what it returns. -/
namespace Go.Proofs.YtecmeegnjjhilaaGreatDoor
open Go.RowKit
theorem dg_eq (c : Nat) (k : Nat) (hk : k < (⟨#[48, 49, 50, 51, 52, 53, 54, 55, 56, 57, 97, 98, 99, 100, 101, 102]⟩ : ByteArray).size) : ((⟨#[48, 49, 50, 51, 52, 53, 54, 55, 56, 57, 97, 98, 99, 100, 101, 102]⟩ : ByteArray)[k]'hk).toNat = c ↔ isHex c = true ∧ hexD c = k := by
  have hk16 : k < 16 := hk
  have h : ((⟨#[48, 49, 50, 51, 52, 53, 54, 55, 56, 57, 97, 98, 99, 100, 101, 102]⟩ : ByteArray)[k]'hk).toNat = if k < 10 then 48 + k else 87 + k := by
    have hc : k = 0 ∨ k = 1 ∨ k = 2 ∨ k = 3 ∨ k = 4 ∨ k = 5 ∨ k = 6 ∨ k = 7 ∨ k = 8 ∨ k = 9 ∨ k = 10 ∨ k = 11 ∨ k = 12 ∨ k = 13 ∨ k = 14 ∨ k = 15 := by omega
    rcases hc with rfl | rfl | rfl | rfl | rfl | rfl | rfl | rfl | rfl | rfl | rfl | rfl | rfl | rfl | rfl | rfl <;> rfl
  rw [h]
  unfold isHex hexD
  simp only [Bool.or_eq_true, Bool.and_eq_true, decide_eq_true_eq]
  constructor
  · intro e
    split at e <;> split <;> omega
  · rintro ⟨e1, e2⟩
    split at e2 <;> split <;> omega
def dAt (c k : Nat) : Int := if isHex c = true ∧ hexD c < k then (hexD c : Int) else -1
theorem hexD_le (c : Nat) (h : isHex c = true) : hexD c ≤ 15 := by
  simp only [isHex, Bool.or_eq_true, Bool.and_eq_true, decide_eq_true_eq] at h
  unfold hexD
  split <;> omega
def satN (n : Nat) : Int := if n ≤ 1099511627776 then (n : Int) else 1099511627776
theorem sat_range (n : Nat) : 0 ≤ satN n ∧ satN n ≤ 1099511627776 := by
  unfold satN
  split <;> omega
theorem sat_step (n b d : Nat) (hb : 1 ≤ b) : min (satN n * (b : Int) + (d : Int)) 1099511627776 = satN (n * b + d) := by
  have h1 : n ≤ n * b := Nat.le_mul_of_pos_right n hb
  unfold satN
  by_cases h : n ≤ 1099511627776
  · rw [if_pos h]
    have e : (n : Int) * (b : Int) + (d : Int) = ((n * b + d : Nat) : Int) := by simp
    rw [e]
    split <;> omega
  · rw [if_neg h, if_neg (by omega)]
    have e : (1099511627776 : Int) ≤ 1099511627776 * (b : Int) := by
      have : (1 : Int) ≤ (b : Int) := by omega
      omega
    omega
theorem numB_snoc (b : Nat) (l : List UInt8) (c : UInt8) : numB b 0 (l ++ [c]) = numB b 0 l * b + hexD c.toNat := by
  unfold numB
  rw [List.foldl_append]
  rfl

theorem dAt_zero (c : Nat) : dAt c 0 = -1 := if_neg (fun h => absurd h.2 (by omega))
theorem dAt_skip (c k : Nat) (h : ¬ (isHex c = true ∧ hexD c = k)) : dAt c (k + 1) = dAt c k := by
  unfold dAt
  by_cases h1 : isHex c = true ∧ hexD c < k
  · rw [if_pos h1, if_pos ⟨h1.1, by omega⟩]
  · rw [if_neg h1, if_neg (fun h2 => h1 ⟨h2.1, by have : hexD c ≠ k := fun e => h ⟨h2.1, e⟩; omega⟩)]
theorem dAt_end (c : Nat) : dAt c 16 = if isHex c = true then (hexD c : Int) else -1 := by
  unfold dAt
  by_cases h : isHex c = true
  · rw [if_pos h, if_pos ⟨h, by have := hexD_le c h; omega⟩]
  · rw [if_neg h, if_neg (fun h2 => h h2.1)]
theorem take_next {T : List UInt8} {k : Nat} {c : UInt8} (h : T[k]? = some c) : T.take (k + 1) = T.take k ++ [c] := by
  rw [List.take_add_one, h]
  rfl
theorem dig_bad (T : List UInt8) (c : UInt8) (hc : c ∈ T) (h : isHex c.toNat = false) : digP 16 T = (0, false) := by
  unfold digP
  refine if_neg ?_
  intro hd
  simp only [digsOK, Bool.and_eq_true, List.all_eq_true] at hd
  have := hd.2 c hc
  simp [h] at this
theorem dig_good (T : List UInt8) (hne : T ≠ []) (h : ∀ c ∈ T, isHex c.toNat = true) : digP 16 T = (satN (numB 16 0 T), true) := by
  unfold digP satN
  refine if_pos ?_
  simp only [digsOK, Bool.and_eq_true, List.all_eq_true]
  refine ⟨by simpa using hne, fun c hc => ?_⟩
  simpa using h c hc

set_option maxHeartbeats 8000000 in
set_option maxRecDepth 100000 in
theorem RValue_hex (s : ByteArray) (h2 : 2 < s.size) (h20 : s.size ≤ 20) (hp : Lib.hasPrefix s.data.toList [48, 120] = true) (w : World) :
    Calls Tryz.prog 143 #[.string s] w fun e w' => e = .returned (.tuple #[.int .i64 (digP 16 (s.data.toList.drop 2)).1, .bool (digP 16 (s.data.toList.drop 2)).2]) ∧ Below w.heap.size w w' := by
  have p0 : 0 < s.size := by omega
  have p1 : 1 < s.size := by omega
  have hz := Lib.size_eq s
  have hp2 : [48, 120] <+: s.data.toList := List.isPrefixOf_iff_prefix.1 hp
  obtain ⟨T, hT⟩ := hp2
  have e0 : s.data.toList[0]? = some 48 := by rw [← hT]; rfl
  have e1 : s.data.toList[1]? = some 120 := by rw [← hT]; rfl
  have hdr : s.data.toList.drop 2 = T := by rw [← hT]; rfl
  have c0 : ((s[0]'p0).toNat : Int) = 48 := by
    have := byte_at s 0 (by omega)
    rw [e0] at this
    injection this with this
    rw [← this]
    rfl
  have c1 : ((s[1]'p1).toNat : Int) = 120 := by
    have := byte_at s 1 (by omega)
    rw [e1] at this
    injection this with this
    rw [← this]
    rfl
  have d0 : (((s[0]'p0).toNat : Int) == 48) = true := by rw [c0]; rfl
  have d1 : (((s[1]'p1).toNat : Int) == 120) = true := by rw [c1]; rfl
  have HT : Hid (∀ i c, 2 ≤ i → s.data.toList[i]? = some c → T[i - 2]? = some c) := Lib.hid (fun i c hi hc => by
    rw [← hdr, List.getElem?_drop, show 2 + (i - 2) = i by omega]
    exact hc)
  have hTl : T.length + 2 = s.size := by rw [hz, ← hT]; simp
  have HTl := Lib.hid hTl
  rw [hdr]
  have hr := Below.refl w.heap.size w
  clear hz hp hT e0 e1 hdr c0 c1 hTl
  go_enter Tryz.func143, Tryz.ntmps143
  go_wp2_with fail
  clear d0 d1
  go_loopw [4, 5] (fun s4 s5 wr => ∃ i : Nat, 2 ≤ i ∧ i ≤ s.size ∧ s5 = .int .i64 i ∧ s4 = .int .i64 (satN (numB 16 0 (T.take (i - 2)))) ∧ Hid (∀ c ∈ T.take (i - 2), isHex c.toNat = true) ∧ Below w.heap.size w wr) (fun _ s5 _ => s.size - (intOf s5).toNat)
  case atStart => exact ⟨2, by omega, by omega, rfl, rfl, Lib.hid (by simp), hr⟩
  case round =>
    obtain ⟨i, hi2, hi, rfl, rfl, HA, hb⟩ := hrel
    clear hr
    have hsr := sat_range (numB 16 0 (T.take (i - 2)))
    by_cases hlt : i < s.size
    · have hat := byte_at s i hlt
      have HTi := Lib.hid (HT.out i _ hi2 hat)
      clear hat
      go_wp2_with fail
      obtain ⟨wo, rfl⟩ : ∃ wo : World, wo = wr := ⟨_, rfl⟩
      go_loopw [6, 7] (fun s6 s7 wx => ∃ k : Nat, k ≤ 16 ∧ s7 = .int .i64 k ∧ s6 = .int .i64 (dAt (s[i]'hlt).toNat k) ∧ Below w.heap.size w wx) (fun _ s7 _ => 16 - (intOf s7).toNat)
      case atStart => exact ⟨0, by omega, rfl, by rw [dAt_zero], hb⟩
      case round =>
        obtain ⟨k, hk, rfl, rfl, hbx⟩ := hrel
        by_cases hk16 : k < 16
        · have hks : k < (⟨#[48, 49, 50, 51, 52, 53, 54, 55, 56, 57, 97, 98, 99, 100, 101, 102]⟩ : ByteArray).size := hk16
          have HE := Lib.hid (dg_eq (s[i]'hlt).toNat k hks)
          by_cases hq : isHex (s[i]'hlt).toNat = true ∧ hexD (s[i]'hlt).toNat = k
          · have q1 : ((⟨#[48, 49, 50, 51, 52, 53, 54, 55, 56, 57, 97, 98, 99, 100, 101, 102]⟩ : ByteArray)[k]'hks).toNat = (s[i]'hlt).toNat := HE.out.2 hq
            have q2 : ((((⟨#[48, 49, 50, 51, 52, 53, 54, 55, 56, 57, 97, 98, 99, 100, 101, 102]⟩ : ByteArray)[k]'hks).toNat : Int) == ((s[i]'hlt).toNat : Int)) = true := by rw [q1]; simp
            have HD : Hid (dAt (s[i]'hlt).toNat (k + 1) = (k : Int)) := Lib.hid (by unfold dAt; rw [if_pos ⟨hq.1, by omega⟩, hq.2])
            have k0 : (0 : Int) ≤ (k : Int) := by omega
            clear HE hq q1
            go_wp2_with fail
            go_quiet (fail)
            go_wp2_with fail
            go_roundw
            case rel => exact ⟨k + 1, by omega, by go_num, by rw [HD.out], below_drewN hbx _⟩
            case measure => simp [intOf]; omega
          · have q2 : ((((⟨#[48, 49, 50, 51, 52, 53, 54, 55, 56, 57, 97, 98, 99, 100, 101, 102]⟩ : ByteArray)[k]'hks).toNat : Int) == ((s[i]'hlt).toNat : Int)) = false := by
              simp only [beq_eq_false_iff_ne, ne_eq]
              intro e
              exact hq (HE.out.1 (by omega))
            have HD : Hid (dAt (s[i]'hlt).toNat (k + 1) = dAt (s[i]'hlt).toNat k) := Lib.hid (dAt_skip _ _ hq)
            have k0 : (0 : Int) ≤ (k : Int) := by omega
            clear HE hq
            go_wp2_with fail
            go_quiet (fail)
            go_wp2_with fail
            go_roundw
            case rel => exact ⟨k + 1, by omega, by go_num, by rw [HD.out], below_drewN hbx _⟩
            case measure => simp [intOf]; omega
        · have hk' : k = 16 := by omega
          subst hk'
          have hde := dAt_end (s[i]'hlt).toNat
          by_cases hx : isHex (s[i]'hlt).toNat = true
          · rw [if_pos hx] at hde
            have hx15 := hexD_le _ hx
            have HA2 : Hid (∀ c ∈ T.take (i + 1 - 2), isHex c.toNat = true) := by
              rw [show i + 1 - 2 = i - 2 + 1 by omega, take_next HTi.out]
              intro c hc
              rcases List.mem_append.1 hc with h | h
              · exact HA.out c h
              · simp only [List.mem_cons, List.not_mem_nil, or_false] at h
                subst h
                exact hx
            have HS : Hid (min (satN (numB 16 0 (T.take (i - 2))) * 16 + (hexD (s[i]'hlt).toNat : Int)) 1099511627776 = satN (numB 16 0 (T.take (i + 1 - 2)))) := by
              rw [show i + 1 - 2 = i - 2 + 1 by omega, take_next HTi.out, numB_snoc]
              exact sat_step _ 16 _ (by decide)
            rw [hde]
            clear hde hx HTi HA
            generalize hexD (s[i]'hlt).toNat = dg at HS hx15 ⊢
            generalize satN (numB 16 0 (T.take (i - 2))) = v1 at HS hsr ⊢
            obtain ⟨v0, v9⟩ := hsr
            go_wp2_with fail
            go_roundw
            case rel =>
              refine ⟨i + 1, by omega, by omega, by go_num, ?_, HA2, hbx⟩
              rw [HS.out]
            case measure => simp [intOf]; omega
          · rw [if_neg hx] at hde
            have HP : Hid (digP 16 T = (0, false)) := Lib.hid (dig_bad T _ (List.mem_of_getElem? HTi.out) (by simpa using hx))
            rw [hde]
            clear hde hx HTi HA hsr
            go_wp2_with fail
            go_ret2
            exact ⟨by rw [HP.out]; rfl, hbx⟩
    · have hi' : i = s.size := by omega
      have HP : Hid (digP 16 T = (satN (numB 16 0 (T.take (i - 2))), true)) := by
        have e : T.take (i - 2) = T := List.take_of_length_le (by have := HTl.out; omega)
        rw [e]
        rw [e] at HA
        exact Lib.hid (dig_good T (by rintro rfl; have := HTl.out; simp at this; omega) HA.out)
      subst hi'
      clear HA HT hsr
      go_wp2_with fail
      go_ret2
      exact ⟨by rw [HP.out]; rfl, hb⟩
theorem dec10_bad (T : List UInt8) (c : UInt8) (hc : c ∈ T) (h : isDec c.toNat = false) : digP 10 T = (0, false) := by
  unfold digP
  refine if_neg ?_
  intro hd
  simp only [digsOK, Bool.and_eq_true, List.all_eq_true] at hd
  have := hd.2 c hc
  simp [h] at this
theorem dec10_good (T : List UInt8) (hne : T ≠ []) (h : ∀ c ∈ T, isDec c.toNat = true) : digP 10 T = (satN (numB 10 0 T), true) := by
  unfold digP satN
  refine if_pos ?_
  simp only [digsOK, Bool.and_eq_true, List.all_eq_true]
  refine ⟨by simpa using hne, fun c hc => ?_⟩
  simpa using h c hc
theorem decD (c : Nat) (h : isDec c = true) : 48 ≤ c ∧ c ≤ 57 ∧ (hexD c : Int) = (c : Int) - 48 := by
  simp only [isDec, Bool.and_eq_true, decide_eq_true_eq] at h
  refine ⟨h.1, h.2, ?_⟩
  unfold hexD
  rw [if_pos h.2]
  omega
set_option maxHeartbeats 8000000 in
set_option maxRecDepth 100000 in
theorem RValue_A1 (s : ByteArray) (h20 : s.size ≤ 20) (hlt0 : 0 < s.size) (h2 : s.size ≤ 2) (e0 : (s[0]'(by omega)).toNat ≠ 45) (w : World) :
    Calls Tryz.prog 143 #[.string s] w fun e w' => e = .returned (.tuple #[.int .i64 ((digP 10 s.data.toList).1), .bool (digP 10 s.data.toList).2]) ∧ Below w.heap.size w w' := by
  have hz := Lib.size_eq s
  obtain ⟨T, hTT⟩ : ∃ T, s.data.toList = T := ⟨_, rfl⟩
  have HT : Hid (∀ i c, 0 ≤ i → s.data.toList[i]? = some c → T[i - 0]? = some c) := Lib.hid (fun i c hi hc => by
    rw [← hTT]
    exact hc)
  have HTl : Hid (T.length + 0 = s.size) := Lib.hid (by rw [hz, ← hTT]; simp)
  rw [hTT]
  have hr := Below.refl w.heap.size w
  clear hz hTT
  have f3 : decide ((2 : Int) < (s.size : Int)) = false := by simp; omega
  have f2 : (((s[0]'(by omega)).toNat : Int) == 45) = false := by simp only [beq_eq_false_iff_ne, ne_eq]; omega
  clear e0
  have hne : ¬ s = ByteArray.empty := by rintro rfl; exact absurd hlt0 (by decide)
  go_enter Tryz.func143, Tryz.ntmps143
  go_wp2_with fail
  clear f2 f3
  go_loopw [8, 11] (fun s8 s11 wr => ∃ i : Nat, 0 ≤ i ∧ i ≤ s.size ∧ s11 = .int .i64 i ∧ s8 = .int .i64 (satN (numB 10 0 (T.take (i - 0)))) ∧ Hid (∀ c ∈ T.take (i - 0), isDec c.toNat = true) ∧ Below w.heap.size w wr) (fun _ s11 _ => s.size - (intOf s11).toNat)
  case atStart => exact ⟨0, by omega, by omega, rfl, rfl, Lib.hid (by simp), hr⟩
  case round =>
    obtain ⟨i, hi2, hi, rfl, rfl, HA, hb⟩ := hrel
    clear hr
    have hsr := sat_range (numB 10 0 (T.take (i - 0)))
    by_cases hlt : i < s.size
    · have hat := byte_at s i hlt
      have HTi := Lib.hid (HT.out i _ hi2 hat)
      clear hat
      by_cases hx : isDec (s[i]'hlt).toNat = true
      · obtain ⟨x1, x2, x3⟩ := decD _ hx
        have y1 : decide (((s[i]'hlt).toNat : Int) < 48) = false := by simp; omega
        have y2 : decide ((57 : Int) < ((s[i]'hlt).toNat : Int)) = false := by simp; omega
        have HA2 : Hid (∀ c ∈ T.take (i + 1 - 0), isDec c.toNat = true) := by
          rw [show i + 1 - 0 = i - 0 + 1 by omega, take_next HTi.out]
          intro c hc
          rcases List.mem_append.1 hc with h | h
          · exact HA.out c h
          · simp only [List.mem_cons, List.not_mem_nil, or_false] at h
            subst h
            exact hx
        have HS : Hid (min (satN (numB 10 0 (T.take (i - 0))) * 10 + (((s[i]'hlt).toNat : Int) - 48)) 1099511627776 = satN (numB 10 0 (T.take (i + 1 - 0)))) := by
          rw [show i + 1 - 0 = i - 0 + 1 by omega, take_next HTi.out, numB_snoc, ← x3]
          exact sat_step _ 10 _ (by decide)
        clear HTi HA hx x3
        generalize satN (numB 10 0 (T.take (i - 0))) = v1 at HS hsr ⊢
        obtain ⟨v0, v9⟩ := hsr
        go_wp2_with fail
        go_roundw
        case rel =>
          refine ⟨i + 1, by omega, by omega, by go_num, ?_, HA2, hb⟩
          rw [HS.out]
        case measure => simp [intOf]; omega
      · have HP : Hid (digP 10 T = (0, false)) := Lib.hid (dec10_bad T _ (List.mem_of_getElem? HTi.out) (by simpa using hx))
        have hA : ((s[i]'hlt).toNat < 48 ∧ decide (((s[i]'hlt).toNat : Int) < 48) = true) ∨ (57 < (s[i]'hlt).toNat ∧ decide (((s[i]'hlt).toNat : Int) < 48) = false ∧ decide ((57 : Int) < ((s[i]'hlt).toNat : Int)) = true) := by
          simp only [isDec, Bool.and_eq_true, decide_eq_true_eq] at hx
          rcases Nat.lt_or_ge (s[i]'hlt).toNat 48 with h | h
          · exact .inl ⟨h, by simp; omega⟩
          · exact .inr ⟨by omega, by simp; omega, by simp; omega⟩
        clear hx HTi HA hsr
        rcases hA with ⟨a1, a2⟩ | ⟨a1, a2, a3⟩
        · go_wp2_with fail
          go_ret2
          exact ⟨by rw [HP.out]; rfl, hb⟩
        · go_wp2_with fail
          go_ret2
          exact ⟨by rw [HP.out]; rfl, hb⟩
    · have hi' : i = s.size := by omega
      have HP : Hid (digP 10 T = (satN (numB 10 0 (T.take (i - 0))), true)) := by
        have e : T.take (i - 0) = T := List.take_of_length_le (by have := HTl.out; omega)
        rw [e]
        rw [e] at HA
        exact Lib.hid (dec10_good T (by rintro rfl; have := HTl.out; simp at this; omega) HA.out)
      clear HA HT HTl
      generalize satN (numB 10 0 (T.take (i - 0))) = v1 at HP hsr ⊢
      obtain ⟨v0, v9⟩ := hsr
      subst hi'
      go_wp2_with fail
      go_ret2
      refine ⟨?_, hb⟩
      rw [HP.out]
      simp
set_option maxHeartbeats 8000000 in
set_option maxRecDepth 100000 in
theorem RValue_A2 (s : ByteArray) (h20 : s.size ≤ 20) (hlt0 : 1 < s.size) (h2 : s.size ≤ 2) (e0 : (s[0]'(by omega)).toNat = 45) (w : World) :
    Calls Tryz.prog 143 #[.string s] w fun e w' => e = .returned (.tuple #[.int .i64 (-(digP 10 (s.data.toList.drop 1)).1), .bool (digP 10 (s.data.toList.drop 1)).2]) ∧ Below w.heap.size w w' := by
  have hz := Lib.size_eq s
  obtain ⟨T, hTT⟩ : ∃ T, s.data.toList.drop 1 = T := ⟨_, rfl⟩
  have HT : Hid (∀ i c, 1 ≤ i → s.data.toList[i]? = some c → T[i - 1]? = some c) := Lib.hid (fun i c hi hc => by
    rw [← hTT]
    rw [List.getElem?_drop, show 1 + (i - 1) = i by omega]; exact hc)
  have HTl : Hid (T.length + 1 = s.size) := Lib.hid (by rw [hz, ← hTT]; simp; omega)
  rw [hTT]
  have hr := Below.refl w.heap.size w
  clear hz hTT
  have f3 : decide ((2 : Int) < (s.size : Int)) = false := by simp; omega
  have p0 : 0 < s.size := by omega
  have f2 : (((s[0]'(by omega)).toNat : Int) == 45) = true := by simp only [beq_iff_eq]; omega
  clear e0
  go_enter Tryz.func143, Tryz.ntmps143
  go_wp2_with fail
  clear f2 f3
  go_loopw [8, 11] (fun s8 s11 wr => ∃ i : Nat, 1 ≤ i ∧ i ≤ s.size ∧ s11 = .int .i64 i ∧ s8 = .int .i64 (satN (numB 10 0 (T.take (i - 1)))) ∧ Hid (∀ c ∈ T.take (i - 1), isDec c.toNat = true) ∧ Below w.heap.size w wr) (fun _ s11 _ => s.size - (intOf s11).toNat)
  case atStart => exact ⟨1, by omega, by omega, rfl, rfl, Lib.hid (by simp), hr⟩
  case round =>
    obtain ⟨i, hi2, hi, rfl, rfl, HA, hb⟩ := hrel
    clear hr
    have hsr := sat_range (numB 10 0 (T.take (i - 1)))
    by_cases hlt : i < s.size
    · have hat := byte_at s i hlt
      have HTi := Lib.hid (HT.out i _ hi2 hat)
      clear hat
      by_cases hx : isDec (s[i]'hlt).toNat = true
      · obtain ⟨x1, x2, x3⟩ := decD _ hx
        have y1 : decide (((s[i]'hlt).toNat : Int) < 48) = false := by simp; omega
        have y2 : decide ((57 : Int) < ((s[i]'hlt).toNat : Int)) = false := by simp; omega
        have HA2 : Hid (∀ c ∈ T.take (i + 1 - 1), isDec c.toNat = true) := by
          rw [show i + 1 - 1 = i - 1 + 1 by omega, take_next HTi.out]
          intro c hc
          rcases List.mem_append.1 hc with h | h
          · exact HA.out c h
          · simp only [List.mem_cons, List.not_mem_nil, or_false] at h
            subst h
            exact hx
        have HS : Hid (min (satN (numB 10 0 (T.take (i - 1))) * 10 + (((s[i]'hlt).toNat : Int) - 48)) 1099511627776 = satN (numB 10 0 (T.take (i + 1 - 1)))) := by
          rw [show i + 1 - 1 = i - 1 + 1 by omega, take_next HTi.out, numB_snoc, ← x3]
          exact sat_step _ 10 _ (by decide)
        clear HTi HA hx x3
        generalize satN (numB 10 0 (T.take (i - 1))) = v1 at HS hsr ⊢
        obtain ⟨v0, v9⟩ := hsr
        go_wp2_with fail
        go_roundw
        case rel =>
          refine ⟨i + 1, by omega, by omega, by go_num, ?_, HA2, hb⟩
          rw [HS.out]
        case measure => simp [intOf]; omega
      · have HP : Hid (digP 10 T = (0, false)) := Lib.hid (dec10_bad T _ (List.mem_of_getElem? HTi.out) (by simpa using hx))
        have hA : ((s[i]'hlt).toNat < 48 ∧ decide (((s[i]'hlt).toNat : Int) < 48) = true) ∨ (57 < (s[i]'hlt).toNat ∧ decide (((s[i]'hlt).toNat : Int) < 48) = false ∧ decide ((57 : Int) < ((s[i]'hlt).toNat : Int)) = true) := by
          simp only [isDec, Bool.and_eq_true, decide_eq_true_eq] at hx
          rcases Nat.lt_or_ge (s[i]'hlt).toNat 48 with h | h
          · exact .inl ⟨h, by simp; omega⟩
          · exact .inr ⟨by omega, by simp; omega, by simp; omega⟩
        clear hx HTi HA hsr
        rcases hA with ⟨a1, a2⟩ | ⟨a1, a2, a3⟩
        · go_wp2_with fail
          go_ret2
          exact ⟨by rw [HP.out]; rfl, hb⟩
        · go_wp2_with fail
          go_ret2
          exact ⟨by rw [HP.out]; rfl, hb⟩
    · have hi' : i = s.size := by omega
      have HP : Hid (digP 10 T = (satN (numB 10 0 (T.take (i - 1))), true)) := by
        have e : T.take (i - 1) = T := List.take_of_length_le (by have := HTl.out; omega)
        rw [e]
        rw [e] at HA
        exact Lib.hid (dec10_good T (by rintro rfl; have := HTl.out; simp at this; omega) HA.out)
      clear HA HT HTl
      generalize satN (numB 10 0 (T.take (i - 1))) = v1 at HP hsr ⊢
      obtain ⟨v0, v9⟩ := hsr
      subst hi'
      go_wp2_with fail
      go_ret2
      refine ⟨?_, hb⟩
      rw [HP.out]
      simp
set_option maxHeartbeats 8000000 in
set_option maxRecDepth 100000 in
theorem RValue_B1 (s : ByteArray) (h20 : s.size ≤ 20) (hlt0 : 0 < s.size) (h2 : 2 < s.size) (e0 : (s[0]'(by omega)).toNat ≠ 48) (e1 : (s[0]'(by omega)).toNat ≠ 45) (w : World) :
    Calls Tryz.prog 143 #[.string s] w fun e w' => e = .returned (.tuple #[.int .i64 ((digP 10 s.data.toList).1), .bool (digP 10 s.data.toList).2]) ∧ Below w.heap.size w w' := by
  have hz := Lib.size_eq s
  obtain ⟨T, hTT⟩ : ∃ T, s.data.toList = T := ⟨_, rfl⟩
  have HT : Hid (∀ i c, 0 ≤ i → s.data.toList[i]? = some c → T[i - 0]? = some c) := Lib.hid (fun i c hi hc => by
    rw [← hTT]
    exact hc)
  have HTl : Hid (T.length + 0 = s.size) := Lib.hid (by rw [hz, ← hTT]; simp)
  rw [hTT]
  have hr := Below.refl w.heap.size w
  clear hz hTT
  have f0 : (((s[0]'(by omega)).toNat : Int) == 48) = false := by simp only [beq_eq_false_iff_ne, ne_eq]; omega
  have f2 : (((s[0]'(by omega)).toNat : Int) == 45) = false := by simp only [beq_eq_false_iff_ne, ne_eq]; omega
  clear e0 e1
  have hne : ¬ s = ByteArray.empty := by rintro rfl; exact absurd hlt0 (by decide)
  go_enter Tryz.func143, Tryz.ntmps143
  go_wp2_with fail
  clear f0 f2
  go_loopw [8, 11] (fun s8 s11 wr => ∃ i : Nat, 0 ≤ i ∧ i ≤ s.size ∧ s11 = .int .i64 i ∧ s8 = .int .i64 (satN (numB 10 0 (T.take (i - 0)))) ∧ Hid (∀ c ∈ T.take (i - 0), isDec c.toNat = true) ∧ Below w.heap.size w wr) (fun _ s11 _ => s.size - (intOf s11).toNat)
  case atStart => exact ⟨0, by omega, by omega, rfl, rfl, Lib.hid (by simp), hr⟩
  case round =>
    obtain ⟨i, hi2, hi, rfl, rfl, HA, hb⟩ := hrel
    clear hr
    have hsr := sat_range (numB 10 0 (T.take (i - 0)))
    by_cases hlt : i < s.size
    · have hat := byte_at s i hlt
      have HTi := Lib.hid (HT.out i _ hi2 hat)
      clear hat
      by_cases hx : isDec (s[i]'hlt).toNat = true
      · obtain ⟨x1, x2, x3⟩ := decD _ hx
        have y1 : decide (((s[i]'hlt).toNat : Int) < 48) = false := by simp; omega
        have y2 : decide ((57 : Int) < ((s[i]'hlt).toNat : Int)) = false := by simp; omega
        have HA2 : Hid (∀ c ∈ T.take (i + 1 - 0), isDec c.toNat = true) := by
          rw [show i + 1 - 0 = i - 0 + 1 by omega, take_next HTi.out]
          intro c hc
          rcases List.mem_append.1 hc with h | h
          · exact HA.out c h
          · simp only [List.mem_cons, List.not_mem_nil, or_false] at h
            subst h
            exact hx
        have HS : Hid (min (satN (numB 10 0 (T.take (i - 0))) * 10 + (((s[i]'hlt).toNat : Int) - 48)) 1099511627776 = satN (numB 10 0 (T.take (i + 1 - 0)))) := by
          rw [show i + 1 - 0 = i - 0 + 1 by omega, take_next HTi.out, numB_snoc, ← x3]
          exact sat_step _ 10 _ (by decide)
        clear HTi HA hx x3
        generalize satN (numB 10 0 (T.take (i - 0))) = v1 at HS hsr ⊢
        obtain ⟨v0, v9⟩ := hsr
        go_wp2_with fail
        go_roundw
        case rel =>
          refine ⟨i + 1, by omega, by omega, by go_num, ?_, HA2, hb⟩
          rw [HS.out]
        case measure => simp [intOf]; omega
      · have HP : Hid (digP 10 T = (0, false)) := Lib.hid (dec10_bad T _ (List.mem_of_getElem? HTi.out) (by simpa using hx))
        have hA : ((s[i]'hlt).toNat < 48 ∧ decide (((s[i]'hlt).toNat : Int) < 48) = true) ∨ (57 < (s[i]'hlt).toNat ∧ decide (((s[i]'hlt).toNat : Int) < 48) = false ∧ decide ((57 : Int) < ((s[i]'hlt).toNat : Int)) = true) := by
          simp only [isDec, Bool.and_eq_true, decide_eq_true_eq] at hx
          rcases Nat.lt_or_ge (s[i]'hlt).toNat 48 with h | h
          · exact .inl ⟨h, by simp; omega⟩
          · exact .inr ⟨by omega, by simp; omega, by simp; omega⟩
        clear hx HTi HA hsr
        rcases hA with ⟨a1, a2⟩ | ⟨a1, a2, a3⟩
        · go_wp2_with fail
          go_ret2
          exact ⟨by rw [HP.out]; rfl, hb⟩
        · go_wp2_with fail
          go_ret2
          exact ⟨by rw [HP.out]; rfl, hb⟩
    · have hi' : i = s.size := by omega
      have HP : Hid (digP 10 T = (satN (numB 10 0 (T.take (i - 0))), true)) := by
        have e : T.take (i - 0) = T := List.take_of_length_le (by have := HTl.out; omega)
        rw [e]
        rw [e] at HA
        exact Lib.hid (dec10_good T (by rintro rfl; have := HTl.out; simp at this; omega) HA.out)
      clear HA HT HTl
      generalize satN (numB 10 0 (T.take (i - 0))) = v1 at HP hsr ⊢
      obtain ⟨v0, v9⟩ := hsr
      subst hi'
      go_wp2_with fail
      go_ret2
      refine ⟨?_, hb⟩
      rw [HP.out]
      simp
set_option maxHeartbeats 8000000 in
set_option maxRecDepth 100000 in
theorem RValue_B2 (s : ByteArray) (h20 : s.size ≤ 20) (hlt0 : 1 < s.size) (h2 : 2 < s.size) (e0 : (s[0]'(by omega)).toNat = 45) (w : World) :
    Calls Tryz.prog 143 #[.string s] w fun e w' => e = .returned (.tuple #[.int .i64 (-(digP 10 (s.data.toList.drop 1)).1), .bool (digP 10 (s.data.toList.drop 1)).2]) ∧ Below w.heap.size w w' := by
  have hz := Lib.size_eq s
  obtain ⟨T, hTT⟩ : ∃ T, s.data.toList.drop 1 = T := ⟨_, rfl⟩
  have HT : Hid (∀ i c, 1 ≤ i → s.data.toList[i]? = some c → T[i - 1]? = some c) := Lib.hid (fun i c hi hc => by
    rw [← hTT]
    rw [List.getElem?_drop, show 1 + (i - 1) = i by omega]; exact hc)
  have HTl : Hid (T.length + 1 = s.size) := Lib.hid (by rw [hz, ← hTT]; simp; omega)
  rw [hTT]
  have hr := Below.refl w.heap.size w
  clear hz hTT
  have p0 : 0 < s.size := by omega
  have f0 : (((s[0]'(by omega)).toNat : Int) == 48) = false := by simp only [beq_eq_false_iff_ne, ne_eq]; omega
  have f2 : (((s[0]'(by omega)).toNat : Int) == 45) = true := by simp only [beq_iff_eq]; omega
  clear e0
  go_enter Tryz.func143, Tryz.ntmps143
  go_wp2_with fail
  clear f0 f2
  go_loopw [8, 11] (fun s8 s11 wr => ∃ i : Nat, 1 ≤ i ∧ i ≤ s.size ∧ s11 = .int .i64 i ∧ s8 = .int .i64 (satN (numB 10 0 (T.take (i - 1)))) ∧ Hid (∀ c ∈ T.take (i - 1), isDec c.toNat = true) ∧ Below w.heap.size w wr) (fun _ s11 _ => s.size - (intOf s11).toNat)
  case atStart => exact ⟨1, by omega, by omega, rfl, rfl, Lib.hid (by simp), hr⟩
  case round =>
    obtain ⟨i, hi2, hi, rfl, rfl, HA, hb⟩ := hrel
    clear hr
    have hsr := sat_range (numB 10 0 (T.take (i - 1)))
    by_cases hlt : i < s.size
    · have hat := byte_at s i hlt
      have HTi := Lib.hid (HT.out i _ hi2 hat)
      clear hat
      by_cases hx : isDec (s[i]'hlt).toNat = true
      · obtain ⟨x1, x2, x3⟩ := decD _ hx
        have y1 : decide (((s[i]'hlt).toNat : Int) < 48) = false := by simp; omega
        have y2 : decide ((57 : Int) < ((s[i]'hlt).toNat : Int)) = false := by simp; omega
        have HA2 : Hid (∀ c ∈ T.take (i + 1 - 1), isDec c.toNat = true) := by
          rw [show i + 1 - 1 = i - 1 + 1 by omega, take_next HTi.out]
          intro c hc
          rcases List.mem_append.1 hc with h | h
          · exact HA.out c h
          · simp only [List.mem_cons, List.not_mem_nil, or_false] at h
            subst h
            exact hx
        have HS : Hid (min (satN (numB 10 0 (T.take (i - 1))) * 10 + (((s[i]'hlt).toNat : Int) - 48)) 1099511627776 = satN (numB 10 0 (T.take (i + 1 - 1)))) := by
          rw [show i + 1 - 1 = i - 1 + 1 by omega, take_next HTi.out, numB_snoc, ← x3]
          exact sat_step _ 10 _ (by decide)
        clear HTi HA hx x3
        generalize satN (numB 10 0 (T.take (i - 1))) = v1 at HS hsr ⊢
        obtain ⟨v0, v9⟩ := hsr
        go_wp2_with fail
        go_roundw
        case rel =>
          refine ⟨i + 1, by omega, by omega, by go_num, ?_, HA2, hb⟩
          rw [HS.out]
        case measure => simp [intOf]; omega
      · have HP : Hid (digP 10 T = (0, false)) := Lib.hid (dec10_bad T _ (List.mem_of_getElem? HTi.out) (by simpa using hx))
        have hA : ((s[i]'hlt).toNat < 48 ∧ decide (((s[i]'hlt).toNat : Int) < 48) = true) ∨ (57 < (s[i]'hlt).toNat ∧ decide (((s[i]'hlt).toNat : Int) < 48) = false ∧ decide ((57 : Int) < ((s[i]'hlt).toNat : Int)) = true) := by
          simp only [isDec, Bool.and_eq_true, decide_eq_true_eq] at hx
          rcases Nat.lt_or_ge (s[i]'hlt).toNat 48 with h | h
          · exact .inl ⟨h, by simp; omega⟩
          · exact .inr ⟨by omega, by simp; omega, by simp; omega⟩
        clear hx HTi HA hsr
        rcases hA with ⟨a1, a2⟩ | ⟨a1, a2, a3⟩
        · go_wp2_with fail
          go_ret2
          exact ⟨by rw [HP.out]; rfl, hb⟩
        · go_wp2_with fail
          go_ret2
          exact ⟨by rw [HP.out]; rfl, hb⟩
    · have hi' : i = s.size := by omega
      have HP : Hid (digP 10 T = (satN (numB 10 0 (T.take (i - 1))), true)) := by
        have e : T.take (i - 1) = T := List.take_of_length_le (by have := HTl.out; omega)
        rw [e]
        rw [e] at HA
        exact Lib.hid (dec10_good T (by rintro rfl; have := HTl.out; simp at this; omega) HA.out)
      clear HA HT HTl
      generalize satN (numB 10 0 (T.take (i - 1))) = v1 at HP hsr ⊢
      obtain ⟨v0, v9⟩ := hsr
      subst hi'
      go_wp2_with fail
      go_ret2
      refine ⟨?_, hb⟩
      rw [HP.out]
      simp
set_option maxHeartbeats 8000000 in
set_option maxRecDepth 100000 in
theorem RValue_C1 (s : ByteArray) (h20 : s.size ≤ 20) (hlt0 : 0 < s.size) (h2 : 2 < s.size) (e0 : (s[0]'(by omega)).toNat = 48) (e1 : (s[1]'(by omega)).toNat ≠ 120) (w : World) :
    Calls Tryz.prog 143 #[.string s] w fun e w' => e = .returned (.tuple #[.int .i64 ((digP 10 s.data.toList).1), .bool (digP 10 s.data.toList).2]) ∧ Below w.heap.size w w' := by
  have hz := Lib.size_eq s
  obtain ⟨T, hTT⟩ : ∃ T, s.data.toList = T := ⟨_, rfl⟩
  have HT : Hid (∀ i c, 0 ≤ i → s.data.toList[i]? = some c → T[i - 0]? = some c) := Lib.hid (fun i c hi hc => by
    rw [← hTT]
    exact hc)
  have HTl : Hid (T.length + 0 = s.size) := Lib.hid (by rw [hz, ← hTT]; simp)
  rw [hTT]
  have hr := Below.refl w.heap.size w
  clear hz hTT
  have p1 : 1 < s.size := by omega
  have f0 : (((s[0]'(by omega)).toNat : Int) == 48) = true := by simp only [beq_iff_eq]; omega
  have f1 : (((s[1]'(by omega)).toNat : Int) == 120) = false := by simp only [beq_eq_false_iff_ne, ne_eq]; omega
  have f2 : (((s[0]'(by omega)).toNat : Int) == 45) = false := by simp only [beq_eq_false_iff_ne, ne_eq]; omega
  clear e0 e1
  have hne : ¬ s = ByteArray.empty := by rintro rfl; exact absurd hlt0 (by decide)
  go_enter Tryz.func143, Tryz.ntmps143
  go_wp2_with fail
  clear f0 f1 f2
  go_loopw [8, 11] (fun s8 s11 wr => ∃ i : Nat, 0 ≤ i ∧ i ≤ s.size ∧ s11 = .int .i64 i ∧ s8 = .int .i64 (satN (numB 10 0 (T.take (i - 0)))) ∧ Hid (∀ c ∈ T.take (i - 0), isDec c.toNat = true) ∧ Below w.heap.size w wr) (fun _ s11 _ => s.size - (intOf s11).toNat)
  case atStart => exact ⟨0, by omega, by omega, rfl, rfl, Lib.hid (by simp), hr⟩
  case round =>
    obtain ⟨i, hi2, hi, rfl, rfl, HA, hb⟩ := hrel
    clear hr
    have hsr := sat_range (numB 10 0 (T.take (i - 0)))
    by_cases hlt : i < s.size
    · have hat := byte_at s i hlt
      have HTi := Lib.hid (HT.out i _ hi2 hat)
      clear hat
      by_cases hx : isDec (s[i]'hlt).toNat = true
      · obtain ⟨x1, x2, x3⟩ := decD _ hx
        have y1 : decide (((s[i]'hlt).toNat : Int) < 48) = false := by simp; omega
        have y2 : decide ((57 : Int) < ((s[i]'hlt).toNat : Int)) = false := by simp; omega
        have HA2 : Hid (∀ c ∈ T.take (i + 1 - 0), isDec c.toNat = true) := by
          rw [show i + 1 - 0 = i - 0 + 1 by omega, take_next HTi.out]
          intro c hc
          rcases List.mem_append.1 hc with h | h
          · exact HA.out c h
          · simp only [List.mem_cons, List.not_mem_nil, or_false] at h
            subst h
            exact hx
        have HS : Hid (min (satN (numB 10 0 (T.take (i - 0))) * 10 + (((s[i]'hlt).toNat : Int) - 48)) 1099511627776 = satN (numB 10 0 (T.take (i + 1 - 0)))) := by
          rw [show i + 1 - 0 = i - 0 + 1 by omega, take_next HTi.out, numB_snoc, ← x3]
          exact sat_step _ 10 _ (by decide)
        clear HTi HA hx x3
        generalize satN (numB 10 0 (T.take (i - 0))) = v1 at HS hsr ⊢
        obtain ⟨v0, v9⟩ := hsr
        go_wp2_with fail
        go_roundw
        case rel =>
          refine ⟨i + 1, by omega, by omega, by go_num, ?_, HA2, hb⟩
          rw [HS.out]
        case measure => simp [intOf]; omega
      · have HP : Hid (digP 10 T = (0, false)) := Lib.hid (dec10_bad T _ (List.mem_of_getElem? HTi.out) (by simpa using hx))
        have hA : ((s[i]'hlt).toNat < 48 ∧ decide (((s[i]'hlt).toNat : Int) < 48) = true) ∨ (57 < (s[i]'hlt).toNat ∧ decide (((s[i]'hlt).toNat : Int) < 48) = false ∧ decide ((57 : Int) < ((s[i]'hlt).toNat : Int)) = true) := by
          simp only [isDec, Bool.and_eq_true, decide_eq_true_eq] at hx
          rcases Nat.lt_or_ge (s[i]'hlt).toNat 48 with h | h
          · exact .inl ⟨h, by simp; omega⟩
          · exact .inr ⟨by omega, by simp; omega, by simp; omega⟩
        clear hx HTi HA hsr
        rcases hA with ⟨a1, a2⟩ | ⟨a1, a2, a3⟩
        · go_wp2_with fail
          go_ret2
          exact ⟨by rw [HP.out]; rfl, hb⟩
        · go_wp2_with fail
          go_ret2
          exact ⟨by rw [HP.out]; rfl, hb⟩
    · have hi' : i = s.size := by omega
      have HP : Hid (digP 10 T = (satN (numB 10 0 (T.take (i - 0))), true)) := by
        have e : T.take (i - 0) = T := List.take_of_length_le (by have := HTl.out; omega)
        rw [e]
        rw [e] at HA
        exact Lib.hid (dec10_good T (by rintro rfl; have := HTl.out; simp at this; omega) HA.out)
      clear HA HT HTl
      generalize satN (numB 10 0 (T.take (i - 0))) = v1 at HP hsr ⊢
      obtain ⟨v0, v9⟩ := hsr
      subst hi'
      go_wp2_with fail
      go_ret2
      refine ⟨?_, hb⟩
      rw [HP.out]
      simp
set_option maxHeartbeats 4000000 in
set_option maxRecDepth 100000 in
theorem RValue_long (s : ByteArray) (h : 20 < s.size) (hs : s.size ≤ 1000000000) (w : World) :
    Calls Tryz.prog 143 #[.string s] w fun e w' => e = .returned (.tuple #[.int .i64 0, .bool false]) ∧ Below w.heap.size w w' := by
  go_enter Tryz.func143, Tryz.ntmps143
  go_wp2_with fail
  go_ret2
  exact ⟨rfl, Below.refl _ _⟩
set_option maxHeartbeats 4000000 in
set_option maxRecDepth 100000 in
theorem RValue_nil (w : World) :
    Calls Tryz.prog 143 #[.string ByteArray.empty] w fun e w' => e = .returned (.tuple #[.int .i64 0, .bool false]) ∧ Below w.heap.size w w' := by
  go_enter Tryz.func143, Tryz.ntmps143
  go_wp2_with fail
  go_ret2
  exact ⟨rfl, Below.refl _ _⟩
set_option maxHeartbeats 4000000 in
set_option maxRecDepth 100000 in
theorem RValue_dash (s : ByteArray) (h1 : s.size = 1) (e0 : (s[0]'(by omega)).toNat = 45) (w : World) :
    Calls Tryz.prog 143 #[.string s] w fun e w' => e = .returned (.tuple #[.int .i64 0, .bool false]) ∧ Below w.heap.size w w' := by
  have p0 : 0 < s.size := by omega
  have f3 : decide ((2 : Int) < (s.size : Int)) = false := by simp; omega
  have f2 : (((s[0]'(by omega)).toNat : Int) == 45) = true := by simp only [beq_iff_eq]; omega
  clear e0
  go_enter Tryz.func143, Tryz.ntmps143
  go_wp2_with fail
  go_ret2
  exact ⟨rfl, Below.refl _ _⟩
theorem bytes_head (s : ByteArray) (h : 0 < s.size) : ∃ r, s.data.toList = (s[0]'h) :: r ∧ (∀ h1 : 1 < s.size, ∃ q, r = (s[1]'h1) :: q) := by
  have hz := Lib.size_eq s
  have h0 := byte_at s 0 h
  have h9 : ∀ h1 : 1 < s.size, s.data.toList[1]? = some (s[1]'h1) := fun h1 => byte_at s 1 h1
  generalize s.data.toList = l at hz h0 h9
  match l, hz, h0, h9 with
  | [], hz, _, _ => exact absurd h (by rw [hz]; simp)
  | x :: r, hz, h0, h9 =>
    injection h0 with h0
    refine ⟨r, by rw [h0], fun h1 => ?_⟩
    have h2 := h9 h1
    match r, hz, h2 with
    | [], hz, _ => exact absurd h1 (by rw [hz]; simp)
    | y :: q, _, h2 =>
      injection h2 with h2
      exact ⟨q, by rw [h2]⟩
theorem nat_eq8 (a : UInt8) (n : Nat) (_ : n < 256) (h : a.toNat = n) : a = UInt8.ofNat n := by
  rw [← h]
  simp
theorem RValue_any (s : ByteArray) (hs : s.size ≤ 1000000000) (w : World) :
    Calls Tryz.prog 143 #[.string s] w fun e w' => e = .returned (.tuple #[.int .i64 (valP s.data.toList).1, .bool (valP s.data.toList).2]) ∧ Below w.heap.size w w' := by
  have hz := Lib.size_eq s
  by_cases h20 : s.size ≤ 20
  · have hv : valP s.data.toList = (if Lib.hasPrefix s.data.toList [48, 120] = true then digP 16 (Lib.trimPrefix s.data.toList [48, 120]) else (if Lib.hasPrefix s.data.toList [45] = true then -(digP 10 (Lib.trimPrefix s.data.toList [45])).1 else (digP 10 (Lib.trimPrefix s.data.toList [45])).1, (digP 10 (Lib.trimPrefix s.data.toList [45])).2)) := by
      unfold valP
      exact if_neg (by omega)
    by_cases h0 : s.size = 0
    · have he : s = ByteArray.empty := by
        apply ByteArray.ext
        apply Array.ext'
        rw [List.eq_nil_of_length_eq_zero (by omega : s.data.toList.length = 0)]
        rfl
      subst he
      exact RValue_nil w
    · have hp : 0 < s.size := by omega
      obtain ⟨r, hr, hr1⟩ := bytes_head s hp
      by_cases e45 : (s[0]'hp).toNat = 45
      · have e45' := nat_eq8 _ 45 (by decide) e45
        have hr' : s.data.toList = 45 :: r := by rw [hr, e45']; rfl
        have hv2 : valP s.data.toList = (-(digP 10 r).1, (digP 10 r).2) := by
          rw [hv, hr']
          simp [Lib.hasPrefix, Lib.trimPrefix, List.isPrefixOf]
        by_cases h1 : s.size = 1
        · have hr0 : r = [] := by
            have : s.data.toList.length = r.length + 1 := by rw [hr']; rfl
            exact List.eq_nil_of_length_eq_zero (by omega)
          rw [hv2, hr0]
          exact RValue_dash s h1 e45 w
        · have hd : s.data.toList.drop 1 = r := by rw [hr']; rfl
          rw [hv2, ← hd]
          by_cases h2 : s.size ≤ 2
          · exact RValue_A2 s h20 (by omega) h2 e45 w
          · exact RValue_B2 s h20 (by omega) (by omega) e45 w
      · have e45' : (s[0]'hp) ≠ 45 := fun e => e45 (by rw [e]; rfl)
        by_cases hx : Lib.hasPrefix s.data.toList [48, 120] = true
        · by_cases h2 : 2 < s.size
          · have hv2 : valP s.data.toList = digP 16 (s.data.toList.drop 2) := by
              rw [hv, if_pos hx]
              unfold Lib.trimPrefix
              rw [if_pos hx]
              rfl
            rw [hv2]
            exact RValue_hex s h2 h20 hx w
          · obtain ⟨T, hT⟩ : [48, 120] <+: s.data.toList := List.isPrefixOf_iff_prefix.1 hx
            have hT0 : T = [] := by
              have : s.data.toList.length = T.length + 2 := by rw [← hT]; simp
              exact List.eq_nil_of_length_eq_zero (by omega)
            have hl : s.data.toList = [48, 120] := by rw [← hT, hT0]; rfl
            have hv2 : valP s.data.toList = ((digP 10 s.data.toList).1, (digP 10 s.data.toList).2) := by
              rw [hl]
              decide +kernel
            rw [hv2]
            exact RValue_A1 s h20 hp (by omega) e45 w
        · have hx' : Lib.hasPrefix s.data.toList [48, 120] = false := by simpa using hx
          have hv2 : valP s.data.toList = ((digP 10 s.data.toList).1, (digP 10 s.data.toList).2) := by
            rw [hv, if_neg hx]
            have h45 : Lib.hasPrefix s.data.toList [45] = false := by
              rw [hr]
              simp [Lib.hasPrefix, List.isPrefixOf]
              exact fun e => e45' e.symm
            unfold Lib.trimPrefix
            rw [h45]
            rfl
          rw [hv2]
          by_cases h2 : s.size ≤ 2
          · exact RValue_A1 s h20 hp h2 e45 w
          · by_cases e48 : (s[0]'hp).toNat = 48
            · obtain ⟨q, hq⟩ := hr1 (by omega)
              refine RValue_C1 s h20 hp (by omega) e48 ?_ w
              intro e120
              apply hx
              rw [hr, hq, nat_eq8 _ 48 (by decide) e48, nat_eq8 _ 120 (by decide) e120]
              rfl
            · exact RValue_B1 s h20 hp (by omega) e48 e45 w
  · have hv : valP s.data.toList = (0, false) := by
      unfold valP
      exact if_pos (by omega)
    rw [hv]
    exact RValue_long s (by omega) hs w
end Go.Proofs.YtecmeegnjjhilaaGreatDoor

/- The document's imm and numbered: what each returns. -/
namespace Go.Proofs.YtecmeegnjjhilaaGreatDoor
open Go.RowKit
theorem immR_val (lo hi op : Int) (w : List UInt8) (h : (valP w).2 = true) : immR lo hi op w = if (valP w).1 < lo ∨ hi < (valP w).1 then (0, [], 4) else ((valP w).1, [], 0) := by
  unfold immR
  rw [if_pos h]
theorem immR_nam (lo hi op : Int) (w : List UInt8) (h : (valP w).2 = false) : immR lo hi op w = if (48 ≤ op ∧ op ≤ 54) ∧ nameP w = true then (0, w, 0) else (0, [], 18) := by
  unfold immR
  rw [if_neg (by rw [h]; decide)]

set_option maxHeartbeats 8000000 in
set_option maxRecDepth 100000 in
theorem Rimm_any (op : Int) (s : ByteArray) (hs : s.size ≤ 100000000) (w : World) :
    Calls Tryz.prog 144 #[.int .i64 op, .string s] w fun e w' => e = .returned (.tuple #[.int .i64 (immR (loR op) (hiR op) op s.data.toList).1, .string ⟨(immR (loR op) (hiR op) op s.data.toList).2.1.toArray⟩, .int .i64 (immR (loR op) (hiR op) op s.data.toList).2.2]) ∧ Below w.heap.size w w' := by
  have HV := Lib.hid (fun W => RValue_any s (by omega) W)
  have HF := Lib.hid (fun W => RForm_any op W)
  have HU := Lib.hid (fun W => Uses_any (formOf op) 73 (form_range op) W)
  have HN := Lib.hid (fun W => RIsName_any s hs W)
  cases hok : (valP s.data.toList).2 with
  | true =>
    have HP : Hid (immR (loR op) (hiR op) op s.data.toList = if (valP s.data.toList).1 < loR op ∨ hiR op < (valP s.data.toList).1 then (0, [], 4) else ((valP s.data.toList).1, [], 0)) := Lib.hid (immR_val _ _ _ _ hok)
    rw [hok] at HV
    clear hok HN
    have hlo : loR op = if usesB (formOf op) 73 = true then -32768 else 0 := rfl
    have hhi : hiR op = if usesB (formOf op) 73 = true then 32767 else 65535 := rfl
    have HL := Lib.hid hlo
    have HH := Lib.hid hhi
    clear hlo hhi
    generalize valP s.data.toList = vp at HV HP
    obtain ⟨n, bb⟩ := vp
    generalize formOf op = f at HF HU HL HH
    cases hu : usesB f 73 with
    | true =>
      rw [hu] at HU
      have HL2 : Hid (loR op = -32768) := Lib.hid (by rw [HL.out, hu]; rfl)
      have HH2 : Hid (hiR op = 32767) := Lib.hid (by rw [HH.out, hu]; rfl)
      clear hu HL HH
      by_cases n1 : n < -32768
      · have d1 : decide (n < (-32768 : Int)) = true := by simpa using n1
        have HQ : Hid (immR (loR op) (hiR op) op s.data.toList = (0, [], 4)) := Lib.hid (by rw [HP.out, HL2.out, HH2.out, if_pos (.inl n1)])
        clear HP HL2 HH2
        go_enter Tryz.func144, Tryz.ntmps144
        go_wp2_with fail
        refine (HV.out _).mono ?_
        rintro e w1 ⟨rfl, hb1⟩
        go_wp2_with fail
        refine (HF.out _).mono ?_
        rintro e w1 ⟨rfl, rfl⟩
        go_wp2_with fail
        refine (HU.out _).mono ?_
        rintro e w1 ⟨rfl, rfl⟩
        go_wp2_with fail
        go_ret3
        exact ⟨by rw [HQ.out]; rfl, hb1⟩
      · have d1 : decide (n < (-32768 : Int)) = false := by simpa using n1
        by_cases n2 : 32767 < n
        · have d2 : decide ((32767 : Int) < n) = true := by simpa using n2
          have HQ : Hid (immR (loR op) (hiR op) op s.data.toList = (0, [], 4)) := Lib.hid (by rw [HP.out, HL2.out, HH2.out, if_pos (.inr n2)])
          clear HP HL2 HH2
          go_enter Tryz.func144, Tryz.ntmps144
          go_wp2_with fail
          refine (HV.out _).mono ?_
          rintro e w1 ⟨rfl, hb1⟩
          go_wp2_with fail
          refine (HF.out _).mono ?_
          rintro e w1 ⟨rfl, rfl⟩
          go_wp2_with fail
          refine (HU.out _).mono ?_
          rintro e w1 ⟨rfl, rfl⟩
          go_wp2_with fail
          go_ret3
          exact ⟨by rw [HQ.out]; rfl, hb1⟩
        · have d2 : decide ((32767 : Int) < n) = false := by simpa using n2
          have HQ : Hid (immR (loR op) (hiR op) op s.data.toList = (n, [], 0)) := Lib.hid (by rw [HP.out, HL2.out, HH2.out, if_neg (by rintro (h | h); exact n1 h; exact n2 h)])
          clear HP HL2 HH2
          go_enter Tryz.func144, Tryz.ntmps144
          go_wp2_with fail
          refine (HV.out _).mono ?_
          rintro e w1 ⟨rfl, hb1⟩
          go_wp2_with fail
          refine (HF.out _).mono ?_
          rintro e w1 ⟨rfl, rfl⟩
          go_wp2_with fail
          refine (HU.out _).mono ?_
          rintro e w1 ⟨rfl, rfl⟩
          go_wp2_with fail
          go_ret3
          exact ⟨by rw [HQ.out]; rfl, hb1⟩
    | false =>
      rw [hu] at HU
      have HL2 : Hid (loR op = 0) := Lib.hid (by rw [HL.out, hu]; rfl)
      have HH2 : Hid (hiR op = 65535) := Lib.hid (by rw [HH.out, hu]; rfl)
      clear hu HL HH
      by_cases n1 : n < 0
      · have d1 : decide (n < (0 : Int)) = true := by simpa using n1
        have HQ : Hid (immR (loR op) (hiR op) op s.data.toList = (0, [], 4)) := Lib.hid (by rw [HP.out, HL2.out, HH2.out, if_pos (.inl n1)])
        clear HP HL2 HH2
        go_enter Tryz.func144, Tryz.ntmps144
        go_wp2_with fail
        refine (HV.out _).mono ?_
        rintro e w1 ⟨rfl, hb1⟩
        go_wp2_with fail
        refine (HF.out _).mono ?_
        rintro e w1 ⟨rfl, rfl⟩
        go_wp2_with fail
        refine (HU.out _).mono ?_
        rintro e w1 ⟨rfl, rfl⟩
        go_wp2_with fail
        go_ret3
        exact ⟨by rw [HQ.out]; rfl, hb1⟩
      · have d1 : decide (n < (0 : Int)) = false := by simpa using n1
        by_cases n2 : 65535 < n
        · have d2 : decide ((65535 : Int) < n) = true := by simpa using n2
          have HQ : Hid (immR (loR op) (hiR op) op s.data.toList = (0, [], 4)) := Lib.hid (by rw [HP.out, HL2.out, HH2.out, if_pos (.inr n2)])
          clear HP HL2 HH2
          go_enter Tryz.func144, Tryz.ntmps144
          go_wp2_with fail
          refine (HV.out _).mono ?_
          rintro e w1 ⟨rfl, hb1⟩
          go_wp2_with fail
          refine (HF.out _).mono ?_
          rintro e w1 ⟨rfl, rfl⟩
          go_wp2_with fail
          refine (HU.out _).mono ?_
          rintro e w1 ⟨rfl, rfl⟩
          go_wp2_with fail
          go_ret3
          exact ⟨by rw [HQ.out]; rfl, hb1⟩
        · have d2 : decide ((65535 : Int) < n) = false := by simpa using n2
          have HQ : Hid (immR (loR op) (hiR op) op s.data.toList = (n, [], 0)) := Lib.hid (by rw [HP.out, HL2.out, HH2.out, if_neg (by rintro (h | h); exact n1 h; exact n2 h)])
          clear HP HL2 HH2
          go_enter Tryz.func144, Tryz.ntmps144
          go_wp2_with fail
          refine (HV.out _).mono ?_
          rintro e w1 ⟨rfl, hb1⟩
          go_wp2_with fail
          refine (HF.out _).mono ?_
          rintro e w1 ⟨rfl, rfl⟩
          go_wp2_with fail
          refine (HU.out _).mono ?_
          rintro e w1 ⟨rfl, rfl⟩
          go_wp2_with fail
          go_ret3
          exact ⟨by rw [HQ.out]; rfl, hb1⟩
  | false =>
    have HP : Hid (immR (loR op) (hiR op) op s.data.toList = if (48 ≤ op ∧ op ≤ 54) ∧ nameP s.data.toList = true then (0, s.data.toList, 0) else (0, [], 18)) := Lib.hid (immR_nam _ _ _ _ hok)
    rw [hok] at HV
    clear hok HF HU
    generalize (valP s.data.toList).1 = n at HV
    by_cases o1 : 48 ≤ op
    · have d1 : decide ((48 : Int) ≤ op) = true := by simpa using o1
      by_cases o2 : op ≤ 54
      · have d2 : decide (op ≤ (54 : Int)) = true := by simpa using o2
        cases hn : nameP s.data.toList with
        | true =>
          have HQ : Hid (immR (loR op) (hiR op) op s.data.toList = (0, s.data.toList, 0)) := Lib.hid (by rw [HP.out, if_pos ⟨⟨o1, o2⟩, hn⟩])
          have hss : (⟨s.data.toList.toArray⟩ : ByteArray) = s := rfl
          rw [hn] at HN
          clear HP hn
          go_enter Tryz.func144, Tryz.ntmps144
          go_wp2_with fail
          refine (HV.out _).mono ?_
          rintro e w1 ⟨rfl, hb1⟩
          go_wp2_with fail
          refine (HN.out _).mono ?_
          rintro e w2 ⟨rfl, hb2⟩
          go_wp2_with fail
          go_ret3
          exact ⟨by rw [HQ.out]; rfl, hb1.trans (hb2.mono hb1.size)⟩
        | false =>
          have HQ : Hid (immR (loR op) (hiR op) op s.data.toList = (0, [], 18)) := Lib.hid (by rw [HP.out, if_neg (fun h => by rw [hn] at h; cases h.2)])
          rw [hn] at HN
          clear HP hn
          go_enter Tryz.func144, Tryz.ntmps144
          go_wp2_with fail
          refine (HV.out _).mono ?_
          rintro e w1 ⟨rfl, hb1⟩
          go_wp2_with fail
          refine (HN.out _).mono ?_
          rintro e w2 ⟨rfl, hb2⟩
          go_wp2_with fail
          go_ret3
          exact ⟨by rw [HQ.out]; rfl, hb1.trans (hb2.mono hb1.size)⟩
      · have d2 : decide (op ≤ (54 : Int)) = false := by simpa using o2
        have HQ : Hid (immR (loR op) (hiR op) op s.data.toList = (0, [], 18)) := Lib.hid (by rw [HP.out, if_neg (fun h => o2 h.1.2)])
        clear HP HN
        go_enter Tryz.func144, Tryz.ntmps144
        go_wp2_with fail
        refine (HV.out _).mono ?_
        rintro e w1 ⟨rfl, hb1⟩
        go_wp2_with fail
        go_ret3
        exact ⟨by rw [HQ.out]; rfl, hb1⟩
    · have d1 : decide ((48 : Int) ≤ op) = false := by simpa using o1
      have HQ : Hid (immR (loR op) (hiR op) op s.data.toList = (0, [], 18)) := Lib.hid (by rw [HP.out, if_neg (fun h => o1 h.1.1)])
      clear HP HN
      go_enter Tryz.func144, Tryz.ntmps144
      go_wp2_with fail
      refine (HV.out _).mono ?_
      rintro e w1 ⟨rfl, hb1⟩
      go_wp2_with fail
      go_ret3
      exact ⟨by rw [HQ.out]; rfl, hb1⟩
set_option maxHeartbeats 8000000 in
set_option maxRecDepth 100000 in
theorem Rnum_word (A : Option Addr) (n c : Nat) (ss : List ByteArray) (hss : ∀ s ∈ ss, s.size ≤ 100000000) (w : World) (hW : StrsV w (.slice A n c) ss) :
    Calls Tryz.prog 122 #[.string ⟨#[46, 119, 111, 114, 100]⟩, .slice A n c] w fun e w' => e = .returned (.tuple #[.int .i64 (numR (-2147483648) 4294967295 0 (ss.map fun s => s.data.toList)).1, .int .i64 (numR (-2147483648) 4294967295 0 (ss.map fun s => s.data.toList)).2.1, .int .i64 (numR (-2147483648) 4294967295 0 (ss.map fun s => s.data.toList)).2.2]) ∧ Below w.heap.size w w' := by
  have hn : ss.length = n := by
    obtain ⟨_, _, e, _⟩ := hW
    injection e with _ e2 _
    exact e2.symm
  generalize hR : numR (-2147483648) 4294967295 0 (ss.map fun s => s.data.toList) = R
  have HR := Lib.hid hR
  clear hR
  by_cases hk : n = 1
  · subst hk
    obtain ⟨y, rfl⟩ : ∃ y, ss = [y] := by
      match ss, hn with
      | [y], _ => exact ⟨y, rfl⟩
    have HV := Lib.hid (fun W => RValue_any y (Nat.le_trans (hss y (by simp)) (by decide)) W)
    obtain ⟨b, o, rfl, hy⟩ := hW.at_ 0 y rfl
    rw [Nat.add_zero] at hy
    have hbl : b < w.heap.size := World.block_lt_of_cell? w _ hy
    clear hW hss hn
    have HR2 : Hid (R = numR (-2147483648) 4294967295 0 [y.data.toList]) := Lib.hid (by rw [← HR.out]; rfl)
    clear HR
    have HR3 : Hid (R = if (valP y.data.toList).2 = true then (if (valP y.data.toList).1 < -2147483648 ∨ 4294967295 < (valP y.data.toList).1 then (0, 0, 4) else (0, if (valP y.data.toList).1 < 0 then (valP y.data.toList).1 + 4294967296 else (valP y.data.toList).1, 0)) else (0, 0, 18)) := Lib.hid (by rw [HR2.out, numR_cases])
    clear HR2
    generalize valP y.data.toList = vp at HV HR3
    obtain ⟨v, ok⟩ := vp
    cases ok with
    | false =>
      have HQ : Hid (R = (0, 0, 18)) := Lib.hid (by rw [HR3.out]; exact if_neg (by simp))
      clear HR3
      go_enter Tryz.func122, Tryz.ntmps122
      go_wp2_with fail
      refine (HV.out _).mono ?_
      rintro e w2 ⟨rfl, hb02⟩
      go_wp2_with fail
      go_ret3
      exact ⟨by rw [HQ.out]; rfl, hb02⟩
    | true =>
      by_cases n1 : v < -2147483648
      · have d2 : decide (v < (-2147483648 : Int)) = true := by simpa using n1
        have HQ : Hid (R = (0, 0, 4)) := Lib.hid (by rw [HR3.out]; simp only [if_true]; exact if_pos (.inl n1))
        clear HR3
        go_enter Tryz.func122, Tryz.ntmps122
        go_wp2_with fail
        refine (HV.out _).mono ?_
        rintro e w2 ⟨rfl, hb02⟩
        go_wp2_with fail
        go_ret3
        exact ⟨by rw [HQ.out]; rfl, hb02⟩
      · have d2 : decide (v < (-2147483648 : Int)) = false := by simpa using n1
        by_cases n2 : 4294967295 < v
        · have d3 : decide ((4294967295 : Int) < v) = true := by simpa using n2
          have HQ : Hid (R = (0, 0, 4)) := Lib.hid (by rw [HR3.out]; simp only [if_true]; exact if_pos (.inr n2))
          clear HR3
          go_enter Tryz.func122, Tryz.ntmps122
          go_wp2_with fail
          refine (HV.out _).mono ?_
          rintro e w2 ⟨rfl, hb02⟩
          go_wp2_with fail
          go_ret3
          exact ⟨by rw [HQ.out]; rfl, hb02⟩
        · have d3 : decide ((4294967295 : Int) < v) = false := by simpa using n2
          by_cases n3 : v < 0
          · have d4 : decide (v < (0 : Int)) = true := by simpa using n3
            have HQ : Hid (R = (0, v + 4294967296, 0)) := Lib.hid (by rw [HR3.out]; simp only [if_true]; rw [if_neg (by rintro (h | h); exact n1 h; exact n2 h), if_pos n3])
            clear HR3
            go_enter Tryz.func122, Tryz.ntmps122
            go_wp2_with fail
            refine (HV.out _).mono ?_
            rintro e w2 ⟨rfl, hb02⟩
            go_wp2_with fail
            go_ret3
            exact ⟨by rw [HQ.out]; rfl, hb02⟩
          · have d4 : decide (v < (0 : Int)) = false := by simpa using n3
            have HQ : Hid (R = (0, v, 0)) := Lib.hid (by rw [HR3.out]; simp only [if_true]; rw [if_neg (by rintro (h | h); exact n1 h; exact n2 h), if_neg n3])
            clear HR3
            go_enter Tryz.func122, Tryz.ntmps122
            go_wp2_with fail
            refine (HV.out _).mono ?_
            rintro e w2 ⟨rfl, hb02⟩
            go_wp2_with fail
            go_ret3
            exact ⟨by rw [HQ.out]; rfl, hb02⟩
  · have HQ : Hid (R = (0, 0, 18)) := Lib.hid (by
      rw [← HR.out]
      match ss, hn with
      | [], _ => rfl
      | [_], h => exact absurd h.symm hk
      | _ :: _ :: _, _ => rfl)
    have d1 : ((n : Int) == 1) = false := by rw [beq_eq_false_iff_ne]; omega
    have d2 : ((n : Int) != 1) = true := by simp; omega
    clear HR hk hn hW hss
    go_enter Tryz.func122, Tryz.ntmps122
    go_wp2_with fail
    go_ret3
    exact ⟨by rw [HQ.out]; rfl, Below.refl _ _⟩
set_option maxHeartbeats 8000000 in
set_option maxRecDepth 100000 in
theorem Rnum_space (A : Option Addr) (n c : Nat) (ss : List ByteArray) (hss : ∀ s ∈ ss, s.size ≤ 100000000) (w : World) (hW : StrsV w (.slice A n c) ss) :
    Calls Tryz.prog 122 #[.string ⟨#[46, 115, 112, 97, 99, 101]⟩, .slice A n c] w fun e w' => e = .returned (.tuple #[.int .i64 (numR (0) 512 0 (ss.map fun s => s.data.toList)).1, .int .i64 (numR (0) 512 0 (ss.map fun s => s.data.toList)).2.1, .int .i64 (numR (0) 512 0 (ss.map fun s => s.data.toList)).2.2]) ∧ Below w.heap.size w w' := by
  have hn : ss.length = n := by
    obtain ⟨_, _, e, _⟩ := hW
    injection e with _ e2 _
    exact e2.symm
  generalize hR : numR (0) 512 0 (ss.map fun s => s.data.toList) = R
  have HR := Lib.hid hR
  clear hR
  by_cases hk : n = 1
  · subst hk
    obtain ⟨y, rfl⟩ : ∃ y, ss = [y] := by
      match ss, hn with
      | [y], _ => exact ⟨y, rfl⟩
    have HV := Lib.hid (fun W => RValue_any y (Nat.le_trans (hss y (by simp)) (by decide)) W)
    obtain ⟨b, o, rfl, hy⟩ := hW.at_ 0 y rfl
    rw [Nat.add_zero] at hy
    have hbl : b < w.heap.size := World.block_lt_of_cell? w _ hy
    clear hW hss hn
    have HR2 : Hid (R = numR (0) 512 0 [y.data.toList]) := Lib.hid (by rw [← HR.out]; rfl)
    clear HR
    have HR3 : Hid (R = if (valP y.data.toList).2 = true then (if (valP y.data.toList).1 < 0 ∨ 512 < (valP y.data.toList).1 then (0, 0, 4) else (0, if (valP y.data.toList).1 < 0 then (valP y.data.toList).1 + 4294967296 else (valP y.data.toList).1, 0)) else (0, 0, 18)) := Lib.hid (by rw [HR2.out, numR_cases])
    clear HR2
    generalize valP y.data.toList = vp at HV HR3
    obtain ⟨v, ok⟩ := vp
    cases ok with
    | false =>
      have HQ : Hid (R = (0, 0, 18)) := Lib.hid (by rw [HR3.out]; exact if_neg (by simp))
      clear HR3
      go_enter Tryz.func122, Tryz.ntmps122
      go_wp2_with fail
      refine (HV.out _).mono ?_
      rintro e w2 ⟨rfl, hb02⟩
      go_wp2_with fail
      go_ret3
      exact ⟨by rw [HQ.out]; rfl, hb02⟩
    | true =>
      by_cases n1 : v < 0
      · have d2 : decide (v < (0 : Int)) = true := by simpa using n1
        have HQ : Hid (R = (0, 0, 4)) := Lib.hid (by rw [HR3.out]; simp only [if_true]; exact if_pos (.inl n1))
        clear HR3
        go_enter Tryz.func122, Tryz.ntmps122
        go_wp2_with fail
        refine (HV.out _).mono ?_
        rintro e w2 ⟨rfl, hb02⟩
        go_wp2_with fail
        go_ret3
        exact ⟨by rw [HQ.out]; rfl, hb02⟩
      · have d2 : decide (v < (0 : Int)) = false := by simpa using n1
        by_cases n2 : 512 < v
        · have d3 : decide ((512 : Int) < v) = true := by simpa using n2
          have HQ : Hid (R = (0, 0, 4)) := Lib.hid (by rw [HR3.out]; simp only [if_true]; exact if_pos (.inr n2))
          clear HR3
          go_enter Tryz.func122, Tryz.ntmps122
          go_wp2_with fail
          refine (HV.out _).mono ?_
          rintro e w2 ⟨rfl, hb02⟩
          go_wp2_with fail
          go_ret3
          exact ⟨by rw [HQ.out]; rfl, hb02⟩
        · have d3 : decide ((512 : Int) < v) = false := by simpa using n2
          have HQ : Hid (R = (0, v, 0)) := Lib.hid (by rw [HR3.out]; simp only [if_true]; rw [if_neg (by rintro (h | h); exact n1 h; exact n2 h), if_neg n1])
          clear HR3
          go_enter Tryz.func122, Tryz.ntmps122
          go_wp2_with fail
          refine (HV.out _).mono ?_
          rintro e w2 ⟨rfl, hb02⟩
          go_wp2_with fail
          go_ret3
          exact ⟨by rw [HQ.out]; rfl, hb02⟩
  · have HQ : Hid (R = (0, 0, 18)) := Lib.hid (by
      rw [← HR.out]
      match ss, hn with
      | [], _ => rfl
      | [_], h => exact absurd h.symm hk
      | _ :: _ :: _, _ => rfl)
    have d1 : ((n : Int) == 1) = false := by rw [beq_eq_false_iff_ne]; omega
    have d2 : ((n : Int) != 1) = true := by simp; omega
    clear HR hk hn hW hss
    go_enter Tryz.func122, Tryz.ntmps122
    go_wp2_with fail
    go_ret3
    exact ⟨by rw [HQ.out]; rfl, Below.refl _ _⟩
set_option maxHeartbeats 8000000 in
set_option maxRecDepth 100000 in
theorem Rnum_li (A : Option Addr) (n c : Nat) (ss : List ByteArray) (hss : ∀ s ∈ ss, s.size ≤ 100000000) (w : World) (hW : StrsV w (.slice A n c) ss) :
    Calls Tryz.prog 122 #[.string ⟨#[108, 105]⟩, .slice A n c] w fun e w' => e = .returned (.tuple #[.int .i64 (liR (ss.map fun s => s.data.toList)).1, .int .i64 (liR (ss.map fun s => s.data.toList)).2.1, .int .i64 (liR (ss.map fun s => s.data.toList)).2.2]) ∧ Below w.heap.size w w' := by
  have hn : ss.length = n := by
    obtain ⟨_, _, e, _⟩ := hW
    injection e with _ e2 _
    exact e2.symm
  generalize hR : liR (ss.map fun s => s.data.toList) = R
  have HR := Lib.hid hR
  clear hR
  by_cases hk : n = 2
  · subst hk
    obtain ⟨x, y, rfl⟩ : ∃ x y, ss = [x, y] := by
      match ss, hn with
      | [x, y], _ => exact ⟨x, y, rfl⟩
    have HX := Lib.hid (fun W => RRegister_any x (hss x (by simp)) W)
    have HV := Lib.hid (fun W => RValue_any y (Nat.le_trans (hss y (by simp)) (by decide)) W)
    obtain ⟨b, o, rfl, hx⟩ := hW.at_ 0 x rfl
    obtain ⟨b', o', he, hy⟩ := hW.at_ 1 y rfl
    injection he with he
    injection he with he1 he2 _
    subst he1 he2
    rw [Nat.add_zero] at hx
    have hc2 : 2 ≤ c := by
      obtain ⟨_, _, e, h, _⟩ := hW
      injection e with _ _ e3
      simp only [List.length_cons, List.length_nil] at h
      omega
    have hbl : b < w.heap.size := World.block_lt_of_cell? w _ hx
    clear hW hss hn
    by_cases hr : regP x.data.toList < 0
    · have HQ : Hid (R = (0, 0, 18)) := Lib.hid (by rw [← HR.out]; simp only [List.map_cons, List.map_nil, liR]; exact if_pos hr)
      have d1 : decide (regP x.data.toList < 0) = true := by simpa using hr
      generalize regP x.data.toList = rg at HX d1
      clear HR HV hy hr
      go_enter Tryz.func122, Tryz.ntmps122
      go_wp2_with fail
      refine (HX.out _).mono ?_
      rintro e w1 ⟨rfl, hb1⟩
      go_wp2_with fail
      go_ret3
      exact ⟨by rw [HQ.out]; rfl, hb1⟩
    · have HR2 : Hid (R = numR (-2147483648) 4294967295 (regP x.data.toList) [y.data.toList]) := Lib.hid (by rw [← HR.out]; simp only [List.map_cons, List.map_nil, liR]; exact if_neg hr)
      have d1 : decide (regP x.data.toList < 0) = false := by simpa using hr
      have hr15 := regP_le x.data.toList
      generalize regP x.data.toList = rg at HX d1 HR2 hr hr15
      have hA : (if c = 1 then (some ⟨b, o, none⟩ : Option Addr) else some ⟨b, o + 1, none⟩) = some ⟨b, o + 1, none⟩ := if_neg (by omega)
      clear HR
      have HR3 : Hid (R = if (valP y.data.toList).2 = true then (if (valP y.data.toList).1 < -2147483648 ∨ 4294967295 < (valP y.data.toList).1 then (0, 0, 4) else (rg, if (valP y.data.toList).1 < 0 then (valP y.data.toList).1 + 4294967296 else (valP y.data.toList).1, 0)) else (0, 0, 18)) := Lib.hid (by rw [HR2.out, numR_cases])
      clear HR2
      generalize valP y.data.toList = vp at HV HR3
      obtain ⟨v, ok⟩ := vp
      cases ok with
      | false =>
        have HQ : Hid (R = (0, 0, 18)) := Lib.hid (by rw [HR3.out]; exact if_neg (by simp))
        clear HR3
        go_enter Tryz.func122, Tryz.ntmps122
        go_wp2_with fail
        refine (HX.out _).mono ?_
        rintro e w1 ⟨rfl, hb1⟩
        have hy1 := cell_below hy hb1
        go_wp2_with fail
        refine (HV.out _).mono ?_
        rintro e w2 ⟨rfl, hb2⟩
        have hb02 := hb1.trans (hb2.mono hb1.size)
        go_wp2_with fail
        go_ret3
        exact ⟨by rw [HQ.out]; rfl, hb02⟩
      | true =>
        by_cases n1 : v < -2147483648
        · have d2 : decide (v < (-2147483648 : Int)) = true := by simpa using n1
          have HQ : Hid (R = (0, 0, 4)) := Lib.hid (by rw [HR3.out]; simp only [if_true]; exact if_pos (.inl n1))
          clear HR3
          go_enter Tryz.func122, Tryz.ntmps122
          go_wp2_with fail
          refine (HX.out _).mono ?_
          rintro e w1 ⟨rfl, hb1⟩
          have hy1 := cell_below hy hb1
          go_wp2_with fail
          refine (HV.out _).mono ?_
          rintro e w2 ⟨rfl, hb2⟩
          have hb02 := hb1.trans (hb2.mono hb1.size)
          go_wp2_with fail
          go_ret3
          exact ⟨by rw [HQ.out]; rfl, hb02⟩
        · have d2 : decide (v < (-2147483648 : Int)) = false := by simpa using n1
          by_cases n2 : 4294967295 < v
          · have d3 : decide ((4294967295 : Int) < v) = true := by simpa using n2
            have HQ : Hid (R = (0, 0, 4)) := Lib.hid (by rw [HR3.out]; simp only [if_true]; exact if_pos (.inr n2))
            clear HR3
            go_enter Tryz.func122, Tryz.ntmps122
            go_wp2_with fail
            refine (HX.out _).mono ?_
            rintro e w1 ⟨rfl, hb1⟩
            have hy1 := cell_below hy hb1
            go_wp2_with fail
            refine (HV.out _).mono ?_
            rintro e w2 ⟨rfl, hb2⟩
            have hb02 := hb1.trans (hb2.mono hb1.size)
            go_wp2_with fail
            go_ret3
            exact ⟨by rw [HQ.out]; rfl, hb02⟩
          · have d3 : decide ((4294967295 : Int) < v) = false := by simpa using n2
            by_cases n3 : v < 0
            · have d4 : decide (v < (0 : Int)) = true := by simpa using n3
              have HQ : Hid (R = (rg, v + 4294967296, 0)) := Lib.hid (by rw [HR3.out]; simp only [if_true]; rw [if_neg (by rintro (h | h); exact n1 h; exact n2 h), if_pos n3])
              clear HR3
              go_enter Tryz.func122, Tryz.ntmps122
              go_wp2_with fail
              refine (HX.out _).mono ?_
              rintro e w1 ⟨rfl, hb1⟩
              have hy1 := cell_below hy hb1
              go_wp2_with fail
              refine (HV.out _).mono ?_
              rintro e w2 ⟨rfl, hb2⟩
              have hb02 := hb1.trans (hb2.mono hb1.size)
              go_wp2_with fail
              go_ret3
              exact ⟨by rw [HQ.out]; rfl, hb02⟩
            · have d4 : decide (v < (0 : Int)) = false := by simpa using n3
              have HQ : Hid (R = (rg, v, 0)) := Lib.hid (by rw [HR3.out]; simp only [if_true]; rw [if_neg (by rintro (h | h); exact n1 h; exact n2 h), if_neg n3])
              clear HR3
              go_enter Tryz.func122, Tryz.ntmps122
              go_wp2_with fail
              refine (HX.out _).mono ?_
              rintro e w1 ⟨rfl, hb1⟩
              have hy1 := cell_below hy hb1
              go_wp2_with fail
              refine (HV.out _).mono ?_
              rintro e w2 ⟨rfl, hb2⟩
              have hb02 := hb1.trans (hb2.mono hb1.size)
              go_wp2_with fail
              go_ret3
              exact ⟨by rw [HQ.out]; rfl, hb02⟩
  · have HQ : Hid (R = (0, 0, 18)) := Lib.hid (by
      rw [← HR.out]
      match ss, hn with
      | [], _ => rfl
      | [_], _ => rfl
      | [_, _], h => exact absurd h.symm hk
      | _ :: _ :: _ :: _, _ => rfl)
    have d1 : ((n : Int) == 2) = false := by rw [beq_eq_false_iff_ne]; omega
    have d2 : ((n : Int) != 2) = true := by simp; omega
    clear HR hk hn hW hss
    go_enter Tryz.func122, Tryz.ntmps122
    go_wp2_with fail
    go_ret3
    exact ⟨by rw [HQ.out]; rfl, Below.refl _ _⟩
end Go.Proofs.YtecmeegnjjhilaaGreatDoor
