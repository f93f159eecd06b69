/- The words of a line, byte by byte: what FieldsFunc at blanks gives on any bytes. Plain. -/
import Derived.Test.YtecmeegnjjhilaaGreatDoorLines
import Derived.Lib.DecodeN
namespace Go.Proofs.YtecmeegnjjhilaaGreatDoor
open Go.RowKit

def blankB (c : UInt8) : Bool := blankR c.toNat
def wordsGo : List UInt8 → List UInt8 → List (List UInt8)
  | [], cur => if cur = [] then [] else [cur]
  | c :: r, cur => if blankB c = true then (if cur = [] then wordsGo r [] else cur :: wordsGo r []) else wordsGo r (cur ++ [c])
theorem wordsGo_run : ∀ (x r cur : List UInt8), (∀ c ∈ x, blankB c = false) → wordsGo (x ++ r) cur = wordsGo r (cur ++ x)
  | [], r, cur, _ => by simp
  | c :: x, r, cur, h => by
    have hc := h c (by simp)
    rw [List.cons_append, wordsGo, if_neg (by rw [hc]; decide), wordsGo_run x r (cur ++ [c]) (fun d hd => h d (by simp [hd]))]
    simp
theorem get_at (s : ByteArray) (i : Nat) (h : i < s.size) : s.data.toList[i]? = some (s.get! i) := by
  have hl : i < s.data.size := h
  have e : s.get! i = s.data[i] := by
    show s.data[i]! = s.data[i]
    exact getElem!_pos s.data i hl
  rw [e]
  simp
theorem high_blank {n : Nat} (h : 128 ≤ n) : blankR n = false := by
  simp [blankR]
  omega
/-- A rune's bytes: all of them part words, or none. -/
theorem rune_bytes (s : ByteArray) (pos : Nat) (h : pos < s.size) : 1 ≤ (Utf8.decode s pos).2 ∧ pos + (Utf8.decode s pos).2 ≤ s.size ∧ (blankR (Utf8.decode s pos).1 = true → (Utf8.decode s pos).2 = 1) ∧
    ∀ j, j < (Utf8.decode s pos).2 → ∀ c, s.data.toList[pos + j]? = some c → blankB c = blankR (Utf8.decode s pos).1 := by
  have hg := get_at s pos h
  by_cases ha : (s[pos]'h).toNat < 128
  · rw [decode_ascii s pos h ha]
    refine ⟨by simp, by simp only; omega, fun _ => rfl, fun j hj c hc => ?_⟩
    have hj0 : j = 0 := by simpa using hj
    subst hj0
    have e : s.data.toList[pos + 0]? = some (s[pos]'h) := byte_at s pos h
    rw [e] at hc
    injection hc with hc
    rw [← hc]
    rfl
  · have hh := (decode_high s pos h (by omega)).1
    rw [high_blank hh]
    have key : 1 ≤ (Utf8.decode s pos).2 ∧ pos + (Utf8.decode s pos).2 ≤ s.size ∧ ∀ j, j < (Utf8.decode s pos).2 → 128 ≤ (s.get! (pos + j)).toNat := by
      have h0 : 128 ≤ (s.get! pos).toNat := by
        have e := byte_at s pos h
        rw [hg] at e
        injection e with e
        rw [e]
        omega
      rw [Lib.decode_at]
      have e1 : ∀ j, j < 1 → 128 ≤ (s.get! (pos + j)).toNat := fun j hj => by
        obtain rfl : j = 0 := by omega
        exact h0
      unfold Lib.decodeN
      repeat' split
      all_goals simp only
      all_goals first
        | exact ⟨by omega, by omega, e1⟩
        | (refine ⟨by omega, by omega, fun j hj => ?_⟩
           have hj4 : j = 0 ∨ j = 1 ∨ j = 2 ∨ j = 3 := by omega
           rcases hj4 with rfl | rfl | rfl | rfl
           all_goals first | exact h0 | omega)
    obtain ⟨k1, k2, k3⟩ := key
    refine ⟨k1, k2, (fun hx => by cases hx), fun j hj c hc => ?_⟩
    have := k3 j hj
    rw [get_at s (pos + j) (by omega)] at hc
    injection hc with hc
    rw [← hc]
    exact high_blank this
def openW (l : List UInt8) (st : Option Nat) (pos : Nat) : List UInt8 := match st with | some a => (l.drop a).take (pos - a) | none => []
def cutP (s : ByteArray) (x : Nat × Nat) : List UInt8 := (s.extract x.1 x.2).data.toList
theorem cutP_eq (s : ByteArray) (a b : Nat) : cutP s (a, b) = (s.data.toList.drop a).take (b - a) := by
  unfold cutP
  exact Lib.extract_data s a b
theorem open_ne (l : List UInt8) (a pos : Nat) (h : a < pos) (hp : pos ≤ l.length) : (l.drop a).take (pos - a) ≠ [] := by
  intro h0
  have := congrArg List.length h0
  rw [List.length_take, List.length_drop] at this
  simp at this
  omega
theorem spans_end (s : ByteArray) (st : Option Nat) (acc : List (Nat × Nat)) (hst : ∀ a, st = some a → a < s.size) :
    (Lib.closeSpans s (acc, st)).map (cutP s) = acc.map (cutP s) ++ wordsGo (s.data.toList.drop s.size) (openW s.data.toList st s.size) := by
  have hz := Lib.size_eq s
  rw [List.drop_eq_nil_of_le (by omega)]
  cases st with
  | none => simp [Lib.closeSpans, openW, wordsGo]
  | some a =>
    have := hst a rfl
    have hn := open_ne s.data.toList a s.size this (by omega)
    simp only [Lib.closeSpans, openW, List.map_append, List.map_cons, List.map_nil, cutP_eq]
    rw [wordsGo, if_neg hn]
theorem spans_words (s : ByteArray) : ∀ (f pos : Nat) (st : Option Nat) (acc : List (Nat × Nat)), pos ≤ s.size → s.size ≤ pos + f → (∀ a, st = some a → a < pos) →
    (Lib.closeSpans s (Lib.spansFromP blankR s f pos st acc)).map (cutP s) = acc.map (cutP s) ++ wordsGo (s.data.toList.drop pos) (openW s.data.toList st pos)
  | 0, pos, st, acc, h1, h2, h3 => by
    obtain rfl : pos = s.size := by omega
    exact spans_end s st acc h3
  | f + 1, pos, st, acc, h1, h2, h3 => by
    by_cases hp : pos < s.size
    · obtain ⟨k1, k2, k3, k4⟩ := rune_bytes s pos hp
      have hz := Lib.size_eq s
      unfold Lib.spansFromP
      rw [if_pos hp]
      generalize hD : Utf8.decode s pos = D at k1 k2 k3 k4
      obtain ⟨r, k⟩ := D
      simp only at k1 k2 k3 k4 ⊢
      by_cases hb : blankR r = true
      · obtain rfl : k = 1 := k3 hb
        rw [if_pos hb]
        have hl : pos < s.data.toList.length := by omega
        have hc := k4 0 (by omega) (s.data.toList[pos]'hl) (List.getElem?_eq_getElem hl)
        rw [hb] at hc
        rw [List.drop_eq_getElem_cons hl]
        cases st with
        | none =>
          simp only [openW]
          rw [wordsGo, if_pos hc, if_pos rfl, spans_words s f (pos + 1) none acc (by omega) (by omega) (fun a ha => by cases ha)]
          rfl
        | some a =>
          have ha := h3 a rfl
          simp only
          rw [spans_words s f (pos + 1) none _ (by omega) (by omega) (fun a ha => by cases ha)]
          have hn := open_ne s.data.toList a pos ha (by omega)
          simp only [openW]
          rw [wordsGo, if_pos hc, if_neg hn, List.map_append, List.append_assoc]
          simp [cutP_eq]
      · have hbf : blankR r = false := by simpa using hb
        rw [if_neg hb]
        have hsplit : s.data.toList.drop pos = (s.data.toList.drop pos).take k ++ s.data.toList.drop (pos + k) := by
          rw [← List.drop_drop, List.take_append_drop]
        have hrun : ∀ c ∈ (s.data.toList.drop pos).take k, blankB c = false := by
          intro c hc
          obtain ⟨j, hj, rfl⟩ := List.getElem_of_mem hc
          rw [List.length_take] at hj
          have e : s.data.toList[pos + j]? = some (((s.data.toList.drop pos).take k)[j]) := by
            rw [← List.getElem?_eq_getElem, List.getElem?_take, if_pos (by omega), List.getElem?_drop]
          rw [k4 j (by omega) _ e, hbf]
        rw [hsplit, wordsGo_run _ _ _ hrun]
        cases st with
        | none =>
          simp only
          rw [spans_words s f (pos + k) (some pos) acc (by omega) (by omega) (fun a ha => by injection ha with ha; omega)]
          simp only [openW, List.nil_append]
          rw [show pos + k - pos = k by omega]
        | some a =>
          have ha := h3 a rfl
          simp only
          rw [spans_words s f (pos + k) (some a) acc (by omega) (by omega) (fun a' ha' => by injection ha' with ha'; omega)]
          simp only [openW]
          have e : s.data.toList.drop pos = (s.data.toList.drop a).drop (pos - a) := by rw [List.drop_drop]; congr 1; omega
          rw [e, show pos + k - a = (pos - a) + k by omega, List.take_add]
    · obtain rfl : pos = s.size := by omega
      rw [Lib.spansFromP_end blankR s (f + 1) s.size st acc hp]
      exact spans_end s st acc h3
theorem fieldsP_words (s : ByteArray) : (Lib.goFieldsP blankR s).map (fun x => x.data.toList) = wordsGo s.data.toList [] := by
  have h := spans_words s s.size 0 none [] (Nat.zero_le _) (by omega) (fun a ha => by cases ha)
  unfold Lib.goFieldsP Lib.spansOfP
  rw [List.map_map]
  have e : ((fun (x : ByteArray) => x.data.toList) ∘ fun (x : Nat × Nat) => s.extract x.1 x.2) = cutP s := rfl
  rw [e, h]
  simp [openW]
/-- What stands ahead of a semicolon. -/
def codeL : List UInt8 → List UInt8
  | [] => []
  | c :: r => if c = 59 then [] else c :: codeL r
theorem cut_code : ∀ l : List UInt8, (Lib.cut l [59]).1 = codeL l
  | [] => by simp [Lib.cut, Lib.index, codeL]
  | c :: r => by
    have ih := cut_code r
    unfold Lib.cut at ih ⊢
    by_cases hc : c = 59
    · subst hc
      have hi : Lib.index (59 :: r) [59] = 0 := by rw [Lib.index]; simp [List.isPrefixOf]
      rw [hi]
      simp [codeL]
    · have hp : ([59] : List UInt8).isPrefixOf (c :: r) = false := by simp [List.isPrefixOf, Ne.symm hc]
      have hi : Lib.index (c :: r) [59] = if Lib.index r [59] = -1 then -1 else Lib.index r [59] + 1 := by
        rw [Lib.index, hp]
        simp
      rw [codeL, if_neg hc, hi]
      by_cases hm : Lib.index r [59] = -1
      · rw [if_pos hm, if_neg (by omega)]
        rw [if_neg (by omega)] at ih
        simp only at ih ⊢
        rw [← ih]
      · have hge : 0 ≤ Lib.index r [59] := by
          have := Lib.index_ge r [59]
          omega
        rw [if_neg hm, if_pos (by omega)]
        rw [if_pos hge] at ih
        simp only at ih ⊢
        rw [show (Lib.index r [59] + 1).toNat = (Lib.index r [59]).toNat + 1 by omega, List.take_succ_cons, ih]
/-- THE WORDS OF A LINE. -/
theorem fields_words (l : List UInt8) : (fieldsL l).map (fun x => x.data.toList) = wordsGo (codeL l) [] := by
  unfold fieldsL
  rw [fieldsP_words, ← cut_code]
theorem fields_of (l : List UInt8) : fieldsL l = (wordsGo (codeL l) []).map fun (x : List UInt8) => (⟨x.toArray⟩ : ByteArray) := by
  rw [← fields_words, List.map_map]
  conv => lhs; rw [← List.map_id (fieldsL l)]
  refine List.map_congr_left fun x _ => ?_
  apply bytes_same
  simp

/-- Pieces between single blanks are the words. -/
def PlainW (l : List UInt8) : Prop := l ≠ [] ∧ ∀ c ∈ l, blankB c = false ∧ c ≠ 59
theorem words_single (x : List UInt8) (h : PlainW x) : wordsGo x [] = [x] := by
  have := wordsGo_run x [] [] (fun c hc => (h.2 c hc).1)
  rw [List.append_nil, List.nil_append] at this
  rw [this, wordsGo, if_neg h.1]
theorem words_spaced (x r : List UInt8) (h : PlainW x) : wordsGo (x ++ 32 :: r) [] = x :: wordsGo r [] := by
  rw [wordsGo_run x _ [] (fun c hc => (h.2 c hc).1), List.nil_append, wordsGo, if_pos (by decide), if_neg h.1]
theorem words_joined : ∀ (r : List (List UInt8)) (x : List UInt8), (∀ l ∈ x :: r, PlainW l) → wordsGo (Lib.join (x :: r) [32]) [] = x :: r
  | [], x, h => by rw [Lib.join_one]; exact words_single x (h x (by simp))
  | y :: r, x, h => by
    have ih := words_joined r y (fun l hl => h l (by simp at hl ⊢; right; exact hl))
    have e : Lib.join (x :: y :: r) [32] = x ++ 32 :: Lib.join (y :: r) [32] := by
      rw [Lib.join_cons, Lib.join_cons]
      simp [Lib.joinTail]
    rw [e, words_spaced x _ (h x (by simp)), ih]
theorem code_plain : ∀ l : List UInt8, (59 : UInt8) ∉ l → codeL l = l
  | [], _ => rfl
  | c :: r, h => by
    rw [codeL, if_neg (fun e => h (by simp [e])), code_plain r (fun e => h (by simp [e]))]
theorem join_mem (d : UInt8) : ∀ (r : List (List UInt8)) (x : List UInt8), ∀ c ∈ Lib.join (x :: r) [32], c = 32 ∨ ∃ l ∈ x :: r, c ∈ l
  | [], x, c, h => by
    rw [Lib.join_one] at h
    exact .inr ⟨x, by simp, h⟩
  | y :: r, x, c, h => by
    have e : Lib.join (x :: y :: r) [32] = x ++ 32 :: Lib.join (y :: r) [32] := by
      rw [Lib.join_cons, Lib.join_cons]
      simp [Lib.joinTail]
    rw [e] at h
    rcases List.mem_append.1 h with h | h
    · exact .inr ⟨x, by simp, h⟩
    · rcases List.mem_cons.1 h with h | h
      · exact .inl h
      · rcases join_mem d r y c h with h | ⟨l, hl, hc⟩
        · exact .inl h
        · exact .inr ⟨l, by simp at hl ⊢; right; exact hl, hc⟩
theorem fields_joined (x : List UInt8) (r : List (List UInt8)) (h : ∀ l ∈ x :: r, PlainW l) : fieldsL (Lib.join (x :: r) [32]) = (x :: r).map fun (l : List UInt8) => (⟨l.toArray⟩ : ByteArray) := by
  rw [fields_of, code_plain _ (fun hm => ?_), words_joined r x h]
  rcases join_mem 59 r x 59 hm with h1 | ⟨l, hl, hc⟩
  · exact absurd h1 (by decide)
  · exact ((h l hl).2 59 hc).2 rfl
end Go.Proofs.YtecmeegnjjhilaaGreatDoor
