/- The plain law of the assembler's lines: where a text's lines end, what lines one behind the other come to. -/
import Derived.Test.YtecmeegnjjhilaaGreatDoorAsp
import Derived.Lib.DecodeN
import Derived.Test.YtecmeegnjjhilaaGreatDoorRefCM
namespace Go.Proofs.YtecmeegnjjhilaaGreatDoor
open Go.RowKit
theorem bytes_same {a b : ByteArray} (h : a.data.toList = b.data.toList) : a = b := by
  obtain ⟨⟨a⟩⟩ := a
  obtain ⟨⟨b⟩⟩ := b
  simp only at h
  rw [h]
theorem index_noline : ∀ l : List UInt8, (10 : UInt8) ∉ l → Lib.index l [10] = -1
  | [], _ => by simp [Lib.index]
  | b :: l, h => by
    have hb : b ≠ 10 := fun e => h (by simp [e])
    have hp : ([10] : List UInt8).isPrefixOf (b :: l) = false := by simp [List.isPrefixOf, Ne.symm hb]
    have ih := index_noline l (fun e => h (by simp [e]))
    rw [Lib.index, hp, ih]
    simp
theorem index_line (r : List UInt8) : ∀ l : List UInt8, (10 : UInt8) ∉ l → Lib.index (l ++ 10 :: r) [10] = l.length
  | [], _ => by rw [List.nil_append, Lib.index]; simp [List.isPrefixOf]
  | b :: l, h => by
    have hb : b ≠ 10 := fun e => h (by simp [e])
    have hp : ([10] : List UInt8).isPrefixOf (b :: (l ++ 10 :: r)) = false := by simp [List.isPrefixOf, Ne.symm hb]
    have ih := index_line r l (fun e => h (by simp [e]))
    rw [List.cons_append, Lib.index, hp, ih]
    simp
theorem lines_one (l : List UInt8) (h : (10 : UInt8) ∉ l) : linesL ⟨l.toArray⟩ = [⟨l.toArray⟩] := by
  unfold linesL
  refine Lib.splitB_miss _ _ _ _ ?_
  exact index_noline l h
theorem lines_hit (l r : List UInt8) (h : (10 : UInt8) ∉ l) : linesL ⟨(l ++ 10 :: r).toArray⟩ = ⟨l.toArray⟩ :: linesL ⟨r.toArray⟩ := by
  have hi : Lib.indexB ⟨(l ++ 10 :: r).toArray⟩ ⟨#[10]⟩ = (l.length : Nat) := index_line r l h
  have e1 : (⟨(l ++ 10 :: r).toArray⟩ : ByteArray).extract (l.length + 1) (⟨(l ++ 10 :: r).toArray⟩ : ByteArray).size = ⟨r.toArray⟩ := by
    apply bytes_same
    rw [Lib.extract_to_end]
    simp
  have e0 : (⟨(l ++ 10 :: r).toArray⟩ : ByteArray).extract 0 (l.length + 0) = ⟨l.toArray⟩ := by
    apply bytes_same
    rw [Lib.extract_from_zero]
    simp
  unfold linesL
  rw [Lib.countB_hit _ _ l.length (by decide) hi, Nat.add_comm, Lib.splitB_hit _ _ _ _ l.length hi, e0]
  rw [show ((⟨#[10]⟩ : ByteArray).size) = 1 from rfl, e1]
/-- The text of lines, each with its end. -/
def textL (ls : List (List UInt8)) : List UInt8 := ls.flatMap fun l => l ++ [10]
end Go.Proofs.YtecmeegnjjhilaaGreatDoor

/- The words of a line, byte by byte: what FieldsFunc at blanks gives on any bytes. Plain. -/
namespace Go.Proofs.YtecmeegnjjhilaaGreatDoor
open Go.RowKit
def blankB (c : UInt8) : Bool := blankR c.toNat
def wordsGo : List UInt8 → List UInt8 → List (List UInt8)
  | [], cur => if cur = [] then [] else [cur]
  | c :: r, cur => if blankB c = true then (if cur = [] then wordsGo r [] else cur :: wordsGo r []) else wordsGo r (cur ++ [c])
theorem wordsGo_run : ∀ (x r cur : List UInt8), (∀ c ∈ x, blankB c = false) → wordsGo (x ++ r) cur = wordsGo r (cur ++ x)
  | [], r, cur, _ => by simp
  | c :: x, r, cur, h => by
    have hc := h c (by simp)
    rw [List.cons_append, wordsGo, if_neg (by rw [hc]; decide), wordsGo_run x r (cur ++ [c]) (fun d hd => h d (by simp [hd]))]
    simp
theorem get_at (s : ByteArray) (i : Nat) (h : i < s.size) : s.data.toList[i]? = some (s.get! i) := by
  have hl : i < s.data.size := h
  have e : s.get! i = s.data[i] := by
    show s.data[i]! = s.data[i]
    exact getElem!_pos s.data i hl
  rw [e]
  simp
theorem high_blank {n : Nat} (h : 128 ≤ n) : blankR n = false := by
  simp [blankR]
  omega
/-- A rune's bytes: all of them part words, or none. -/
theorem rune_bytes (s : ByteArray) (pos : Nat) (h : pos < s.size) : 1 ≤ (Utf8.decode s pos).2 ∧ pos + (Utf8.decode s pos).2 ≤ s.size ∧ (blankR (Utf8.decode s pos).1 = true → (Utf8.decode s pos).2 = 1) ∧
    ∀ j, j < (Utf8.decode s pos).2 → ∀ c, s.data.toList[pos + j]? = some c → blankB c = blankR (Utf8.decode s pos).1 := by
  have hg := get_at s pos h
  by_cases ha : (s[pos]'h).toNat < 128
  · rw [decode_ascii s pos h ha]
    refine ⟨by simp, by simp only; omega, fun _ => rfl, fun j hj c hc => ?_⟩
    have hj0 : j = 0 := by simpa using hj
    subst hj0
    have e : s.data.toList[pos + 0]? = some (s[pos]'h) := byte_at s pos h
    rw [e] at hc
    injection hc with hc
    rw [← hc]
    rfl
  · have hh := (decode_high s pos h (by omega)).1
    rw [high_blank hh]
    have key : 1 ≤ (Utf8.decode s pos).2 ∧ pos + (Utf8.decode s pos).2 ≤ s.size ∧ ∀ j, j < (Utf8.decode s pos).2 → 128 ≤ (s.get! (pos + j)).toNat := by
      have h0 : 128 ≤ (s.get! pos).toNat := by
        have e := byte_at s pos h
        rw [hg] at e
        injection e with e
        rw [e]
        omega
      rw [Lib.decode_at]
      have e1 : ∀ j, j < 1 → 128 ≤ (s.get! (pos + j)).toNat := fun j hj => by
        obtain rfl : j = 0 := by omega
        exact h0
      unfold Lib.decodeN
      repeat' split
      all_goals simp only
      all_goals first
        | exact ⟨by omega, by omega, e1⟩
        | (refine ⟨by omega, by omega, fun j hj => ?_⟩
           have hj4 : j = 0 ∨ j = 1 ∨ j = 2 ∨ j = 3 := by omega
           rcases hj4 with rfl | rfl | rfl | rfl
           all_goals first | exact h0 | omega)
    obtain ⟨k1, k2, k3⟩ := key
    refine ⟨k1, k2, (fun hx => by cases hx), fun j hj c hc => ?_⟩
    have := k3 j hj
    rw [get_at s (pos + j) (by omega)] at hc
    injection hc with hc
    rw [← hc]
    exact high_blank this
def openW (l : List UInt8) (st : Option Nat) (pos : Nat) : List UInt8 := match st with | some a => (l.drop a).take (pos - a) | none => []
def cutP (s : ByteArray) (x : Nat × Nat) : List UInt8 := (s.extract x.1 x.2).data.toList
theorem cutP_eq (s : ByteArray) (a b : Nat) : cutP s (a, b) = (s.data.toList.drop a).take (b - a) := by
  unfold cutP
  exact Lib.extract_data s a b
theorem open_ne (l : List UInt8) (a pos : Nat) (h : a < pos) (hp : pos ≤ l.length) : (l.drop a).take (pos - a) ≠ [] := by
  intro h0
  have := congrArg List.length h0
  rw [List.length_take, List.length_drop] at this
  simp at this
  omega
theorem spans_end (s : ByteArray) (st : Option Nat) (acc : List (Nat × Nat)) (hst : ∀ a, st = some a → a < s.size) :
    (Lib.closeSpans s (acc, st)).map (cutP s) = acc.map (cutP s) ++ wordsGo (s.data.toList.drop s.size) (openW s.data.toList st s.size) := by
  have hz := Lib.size_eq s
  rw [List.drop_eq_nil_of_le (by omega)]
  cases st with
  | none => simp [Lib.closeSpans, openW, wordsGo]
  | some a =>
    have := hst a rfl
    have hn := open_ne s.data.toList a s.size this (by omega)
    simp only [Lib.closeSpans, openW, List.map_append, List.map_cons, List.map_nil, cutP_eq]
    rw [wordsGo, if_neg hn]
theorem spans_words (s : ByteArray) : ∀ (f pos : Nat) (st : Option Nat) (acc : List (Nat × Nat)), pos ≤ s.size → s.size ≤ pos + f → (∀ a, st = some a → a < pos) →
    (Lib.closeSpans s (Lib.spansFromP blankR s f pos st acc)).map (cutP s) = acc.map (cutP s) ++ wordsGo (s.data.toList.drop pos) (openW s.data.toList st pos)
  | 0, pos, st, acc, h1, h2, h3 => by
    obtain rfl : pos = s.size := by omega
    exact spans_end s st acc h3
  | f + 1, pos, st, acc, h1, h2, h3 => by
    by_cases hp : pos < s.size
    · obtain ⟨k1, k2, k3, k4⟩ := rune_bytes s pos hp
      have hz := Lib.size_eq s
      unfold Lib.spansFromP
      rw [if_pos hp]
      generalize hD : Utf8.decode s pos = D at k1 k2 k3 k4
      obtain ⟨r, k⟩ := D
      simp only at k1 k2 k3 k4 ⊢
      by_cases hb : blankR r = true
      · obtain rfl : k = 1 := k3 hb
        rw [if_pos hb]
        have hl : pos < s.data.toList.length := by omega
        have hc := k4 0 (by omega) (s.data.toList[pos]'hl) (List.getElem?_eq_getElem hl)
        rw [hb] at hc
        rw [List.drop_eq_getElem_cons hl]
        cases st with
        | none =>
          simp only [openW]
          rw [wordsGo, if_pos hc, if_pos rfl, spans_words s f (pos + 1) none acc (by omega) (by omega) (fun a ha => by cases ha)]
          rfl
        | some a =>
          have ha := h3 a rfl
          simp only
          rw [spans_words s f (pos + 1) none _ (by omega) (by omega) (fun a ha => by cases ha)]
          have hn := open_ne s.data.toList a pos ha (by omega)
          simp only [openW]
          rw [wordsGo, if_pos hc, if_neg hn, List.map_append, List.append_assoc]
          simp [cutP_eq]
      · have hbf : blankR r = false := by simpa using hb
        rw [if_neg hb]
        have hsplit : s.data.toList.drop pos = (s.data.toList.drop pos).take k ++ s.data.toList.drop (pos + k) := by
          rw [← List.drop_drop, List.take_append_drop]
        have hrun : ∀ c ∈ (s.data.toList.drop pos).take k, blankB c = false := by
          intro c hc
          obtain ⟨j, hj, rfl⟩ := List.getElem_of_mem hc
          rw [List.length_take] at hj
          have e : s.data.toList[pos + j]? = some (((s.data.toList.drop pos).take k)[j]) := by
            rw [← List.getElem?_eq_getElem, List.getElem?_take, if_pos (by omega), List.getElem?_drop]
          rw [k4 j (by omega) _ e, hbf]
        rw [hsplit, wordsGo_run _ _ _ hrun]
        cases st with
        | none =>
          simp only
          rw [spans_words s f (pos + k) (some pos) acc (by omega) (by omega) (fun a ha => by injection ha with ha; omega)]
          simp only [openW, List.nil_append]
          rw [show pos + k - pos = k by omega]
        | some a =>
          have ha := h3 a rfl
          simp only
          rw [spans_words s f (pos + k) (some a) acc (by omega) (by omega) (fun a' ha' => by injection ha' with ha'; omega)]
          simp only [openW]
          have e : s.data.toList.drop pos = (s.data.toList.drop a).drop (pos - a) := by rw [List.drop_drop]; congr 1; omega
          rw [e, show pos + k - a = (pos - a) + k by omega, List.take_add]
    · obtain rfl : pos = s.size := by omega
      rw [Lib.spansFromP_end blankR s (f + 1) s.size st acc hp]
      exact spans_end s st acc h3
theorem fieldsP_words (s : ByteArray) : (Lib.goFieldsP blankR s).map (fun x => x.data.toList) = wordsGo s.data.toList [] := by
  have h := spans_words s s.size 0 none [] (Nat.zero_le _) (by omega) (fun a ha => by cases ha)
  unfold Lib.goFieldsP Lib.spansOfP
  rw [List.map_map]
  have e : ((fun (x : ByteArray) => x.data.toList) ∘ fun (x : Nat × Nat) => s.extract x.1 x.2) = cutP s := rfl
  rw [e, h]
  simp [openW]
/-- What stands ahead of a semicolon. -/
def codeL : List UInt8 → List UInt8
  | [] => []
  | c :: r => if c = 59 then [] else c :: codeL r
theorem cut_code : ∀ l : List UInt8, (Lib.cut l [59]).1 = codeL l
  | [] => by simp [Lib.cut, Lib.index, codeL]
  | c :: r => by
    have ih := cut_code r
    unfold Lib.cut at ih ⊢
    by_cases hc : c = 59
    · subst hc
      have hi : Lib.index (59 :: r) [59] = 0 := by rw [Lib.index]; simp [List.isPrefixOf]
      rw [hi]
      simp [codeL]
    · have hp : ([59] : List UInt8).isPrefixOf (c :: r) = false := by simp [List.isPrefixOf, Ne.symm hc]
      have hi : Lib.index (c :: r) [59] = if Lib.index r [59] = -1 then -1 else Lib.index r [59] + 1 := by
        rw [Lib.index, hp]
        simp
      rw [codeL, if_neg hc, hi]
      by_cases hm : Lib.index r [59] = -1
      · rw [if_pos hm, if_neg (by omega)]
        rw [if_neg (by omega)] at ih
        simp only at ih ⊢
        rw [← ih]
      · have hge : 0 ≤ Lib.index r [59] := by
          have := Lib.index_ge r [59]
          omega
        rw [if_neg hm, if_pos (by omega)]
        rw [if_pos hge] at ih
        simp only at ih ⊢
        rw [show (Lib.index r [59] + 1).toNat = (Lib.index r [59]).toNat + 1 by omega, List.take_succ_cons, ih]
/-- THE WORDS OF A LINE. -/
theorem fields_words (l : List UInt8) : (fieldsL l).map (fun x => x.data.toList) = wordsGo (codeL l) [] := by
  unfold fieldsL
  rw [fieldsP_words, ← cut_code]
theorem fields_of (l : List UInt8) : fieldsL l = (wordsGo (codeL l) []).map fun (x : List UInt8) => (⟨x.toArray⟩ : ByteArray) := by
  rw [← fields_words, List.map_map]
  conv => lhs; rw [← List.map_id (fieldsL l)]
  refine List.map_congr_left fun x _ => ?_
  apply bytes_same
  simp

end Go.Proofs.YtecmeegnjjhilaaGreatDoor

/- The document's assembler as plain functions, and that it comes to the program's: the words, or the error's line and code. Plain. -/
namespace Go.Proofs.YtecmeegnjjhilaaGreatDoor
open Go.RowKit
/-- A word that is made of a line. -/
structure Part where
  ins : Ins
  raw : Int
  fixed : Bool
  label : List UInt8
  far : Bool
  line : Int
def partI (i : Ins) : Part := ⟨i, 0, false, [], false, 0⟩
def partW (n : Int) : Part := ⟨⟨0, 0, 0, 0, 0⟩, n, true, [], false, 0⟩

/-- An operand that is an Imm: its number, or the label; the error's code. -/
def immR (lo hi op : Int) (w : List UInt8) : Int × List UInt8 × Nat :=
  if (valP w).2 = true then (if (valP w).1 < lo ∨ hi < (valP w).1 then (0, [], 4) else ((valP w).1, [], 0))
  else if (48 ≤ op ∧ op ≤ 54) ∧ nameP w = true then (0, w, 0) else (0, [], 18)
def setF (i : Ins) (c : UInt8) (n : Int) : Ins := if c = 65 then { i with a := n } else if c = 66 then { i with b := n } else if c = 67 then { i with c := n } else { i with imm := n }
def goR (lo hi op : Int) : List (UInt8 × List UInt8) → Part → Part × Nat
  | [], p => (p, 0)
  | (c, w) :: r, p =>
    if c = 73 ∨ c = 85 then
      (if (immR lo hi op w).2.2 ≠ 0 then (p, (immR lo hi op w).2.2) else goR lo hi op r { p with ins := { p.ins with imm := (immR lo hi op w).1 }, label := (immR lo hi op w).2.1 })
    else if regP w < 0 then (p, 18) else goR lo hi op r { p with ins := setF p.ins c (regP w) }
def loR (op : Int) : Int := if usesB (formOf op) 73 = true then -32768 else 0
def hiR (op : Int) : Int := if usesB (formOf op) 73 = true then 32767 else 65535
def plainR (op : Int) (l : List (List UInt8)) : Part × Nat :=
  if l.length ≠ (fieldsR (formOf op)).length then (partI ⟨op, 0, 0, 0, 0⟩, 18) else goR (loR op) (hiR op) op ((fieldsR (formOf op)).zip l) (partI ⟨op, 0, 0, 0, 0⟩)
/-- li, .word, .space: the register (of li) and the number; the error's code. -/
def numR (lo hi : Int) (r : Int) (l : List (List UInt8)) : Int × Int × Nat := match l with
  | [w] => if (valP w).2 = true then (if (valP w).1 < lo ∨ hi < (valP w).1 then (0, 0, 4) else (r, if (valP w).1 < 0 then (valP w).1 + 4294967296 else (valP w).1, 0)) else (0, 0, 18)
  | _ => (0, 0, 18)
def liR (l : List (List UInt8)) : Int × Int × Nat := match l with
  | [x, w] => if regP x < 0 then (0, 0, 18) else numR (-2147483648) 4294967295 (regP x) [w]
  | _ => (0, 0, 18)
def madeR (w : List UInt8) (l : List (List UInt8)) : List Part × Nat := match stmP w with
  | .bad => ([], 18)
  | .nop => if l ≠ [] then ([], 18) else ([partI ⟨16, 0, 0, 0, 0⟩], 0)
  | .li => if (liR l).2.2 ≠ 0 then ([], (liR l).2.2) else ([partI ⟨20, (liR l).1, 0, 0, (liR l).2.1 / 65536⟩, partI ⟨18, (liR l).1, (liR l).1, 0, (liR l).2.1 % 65536⟩], 0)
  | .word => if (numR (-2147483648) 4294967295 0 l).2.2 ≠ 0 then ([], (numR (-2147483648) 4294967295 0 l).2.2) else ([partW (numR (-2147483648) 4294967295 0 l).2.1], 0)
  | .space => if (numR 0 512 0 l).2.2 ≠ 0 then ([], (numR 0 512 0 l).2.2) else (List.replicate (numR 0 512 0 l).2.1.toNat (partW 0), 0)
  | .la => match l with
    | [x, n] => if regP x < 0 ∨ ¬ nameP n = true then ([], 18) else ([⟨⟨16, regP x, 0, 0, 0⟩, 0, false, n, true, 0⟩], 0)
    | _ => ([], 18)
  | .ins op => ([(plainR op l).1], (plainR op l).2)
/-- What the first pass has found: the labels and their places, the parts. -/
structure PrR where
  labs : List (List UInt8 × Int)
  parts : List Part
def restR (num : Int) (g : PrR) : List ByteArray → PrR × Nat
  | [] => (g, 0)
  | w :: ops =>
    if (madeR w.data.toList (ops.map fun s => s.data.toList)).2 ≠ 0 then (g, (madeR w.data.toList (ops.map fun s => s.data.toList)).2)
    else if 512 < g.parts.length + (madeR w.data.toList (ops.map fun s => s.data.toList)).1.length then (g, 11)
    else ({ labs := g.labs, parts := g.parts ++ (madeR w.data.toList (ops.map fun s => s.data.toList)).1.map fun p => { p with line := num } }, 0)
def lineR (num : Int) (l : List UInt8) (g : PrR) : PrR × Nat := match labelsP (4 * g.parts.length) (fieldsL l) g.labs with
  | (c, ls, r) => if c ≠ 0 then (g, c) else restR num { g with labs := ls } r
def linesR : Nat → List ByteArray → PrR → PrR × Option (Nat × Nat)
  | _, [], g => (g, none)
  | i, l :: r, g => if (lineR ((i : Int) + 1) l.data.toList g).2 ≠ 0 then (g, some (i + 1, (lineR ((i : Int) + 1) l.data.toList g).2)) else linesR (i + 1) r (lineR ((i : Int) + 1) l.data.toList g).1
/-- The second pass, from part i on. -/
def partV (ls : List (List UInt8 × Int)) (i : Nat) (p : Part) : Option Int :=
  if p.fixed then some p.raw
  else if p.label = [] then some (encR p.ins)
  else (lookL ls p.label).map fun ad => encR { p.ins with imm := if p.far then ad else Int.tdiv (ad - 4 * i - 4) 4 }
def passR (ls : List (List UInt8 × Int)) : Nat → List Part → List Int → List Int × Option Int
  | _, [], out => (out, none)
  | i, p :: r, out => match partV ls i p with
    | none => ([], some p.line)
    | some v => passR ls (i + 1) r (out ++ [v])
def asmR (s : ByteArray) : List Int × Option (Int × Nat) :=
  match linesR 0 (linesL s) ⟨[], []⟩ with
  | (_, some (n, c)) => ([], some ((n : Int), c))
  | (g, none) => match passR g.labs 0 g.parts [] with
    | (_, some n) => ([], some (n, 17))
    | (ws, none) => (ws, none)

def wordOf (p : Part) : Int := if p.fixed then p.raw else encR p.ins
def lateOf (i : Nat) (p : Part) : List Late := if p.fixed = false ∧ p.label ≠ [] then [⟨i, p.line, p.label, !p.far⟩] else []
def latesOf : Nat → List Part → List Late
  | _, [] => []
  | i, p :: r => lateOf i p ++ latesOf (i + 1) r
theorem latesOf_append : ∀ (a b : List Part) (i : Nat), latesOf i (a ++ b) = latesOf i a ++ latesOf (i + a.length) b
  | [], b, i => by simp [latesOf]
  | p :: a, b, i => by
    rw [List.cons_append, latesOf, latesOf, latesOf_append a b (i + 1), List.append_assoc, List.length_cons, show i + 1 + a.length = i + (a.length + 1) by omega]
/-- A part with a label takes it in its signed Imm. -/
def LabOk (p : Part) : Prop := p.fixed = false → p.label ≠ [] → p.ins.imm = 0 ∧ p.ins.c = 0 ∧ checkC p.ins = 0 ∧ (usesOf (formOf p.ins.op)).imm = true ∧ (usesOf (formOf p.ins.op)).signed = true
/-- What a statement's parts are to the program's words and late operands. -/
def MadeLike (r : List Part × Nat) (at_ : Nat) (num : Int) (stm : Stm) (ops : List (List UInt8)) (ls : List Late) : Prop :=
  if stm = .bad ∨ ops.length ≠ (kindsP stm).length then r.2 = 18
  else r.2 = (opsP at_ num ((kindsP stm).zip ops) [] ls).2.2 ∧ (r.2 = 0 → r.1.map wordOf = buildP stm (opsP at_ num ((kindsP stm).zip ops) [] ls).1 ∧
    ls ++ latesOf at_ (r.1.map fun p => { p with line := num }) = (opsP at_ num ((kindsP stm).zip ops) [] ls).2.1 ∧ ∀ p ∈ r.1, LabOk p)
theorem stm_bad_zero {w : List UInt8} {op : Int} (h : stmP w = .ins op) : formOf op ≠ 0 := by
  have ht : table.all (fun r => formOf r.op != 0) = true := by decide +kernel
  unfold stmP at h
  repeat' split at h
  all_goals try (cases h; done)
  rename_i h0
  injection h with h
  subst h
  unfold wordRow look at h0 ⊢
  cases hf : table.find? (fun r => r.word == w) with
  | none => rw [hf] at h0; exact absurd rfl h0
  | some r =>
    have := List.all_eq_true.1 ht r (List.mem_of_find?_eq_some hf)
    simpa using this
theorem name_ne {w : List UInt8} (h : nameP w = true) : w ≠ [] := by
  rintro rfl
  revert h
  decide
theorem opd_reg_cases (w : List UInt8) : opd regK w = if regP w < 0 then .bad 18 else .val (regP w) := by
  unfold opd
  rw [if_pos (show regK.reg = true from rfl)]
theorem opd_imm_cases (lo hi : Int) (j : Bool) (w : List UInt8) : opd (immK lo hi j) w = if (valP w).2 = true then (if (valP w).1 < lo ∨ hi < (valP w).1 then .bad 4 else .val (valP w).1) else if j = true ∧ nameP w = true then .late else .bad 18 := by
  unfold opd immK
  simp only
  rw [if_neg (by decide)]
  by_cases h : (valP w).2 = true
  · rw [if_pos ⟨trivial, h⟩, if_pos h]
  · rw [if_neg (fun h2 => h h2.2), if_neg h]
theorem opd_num_cases (lo hi : Int) (w : List UInt8) : opd (numK lo hi) w = if (valP w).2 = true then (if (valP w).1 < lo ∨ hi < (valP w).1 then .bad 4 else .val (valP w).1) else .bad 18 := by
  unfold opd numK
  simp only
  rw [if_neg (by decide)]
  by_cases h : (valP w).2 = true
  · rw [if_pos ⟨trivial, h⟩, if_pos h]
  · rw [if_neg (fun h2 => h h2.2), if_neg h, if_neg (fun h2 => by cases h2.1)]
theorem opd_lab_cases (w : List UInt8) : opd labK w = if nameP w = true then .late else .bad 18 := by
  unfold opd labK
  simp only
  rw [if_neg (by decide), if_neg (fun h2 => by cases h2.1)]
  by_cases h : nameP w = true
  · rw [if_pos ⟨trivial, h⟩, if_pos h]
  · rw [if_neg (fun h2 => h h2.2), if_neg h]
theorem regP_max (w : List UInt8) : regP w ≤ 15 := regP_le w
theorem enc_li (r n : Int) (r0 : 0 ≤ r) (r1 : r ≤ 15) (n0 : 0 ≤ n) (n1 : n < 4294967296) :
    encR ⟨20, r, 0, 0, n / 65536⟩ = 335544320 + r * 1048576 + n / 65536 ∧ encR ⟨18, r, r, 0, n % 65536⟩ = 301989888 + r * 1048576 + r * 65536 + n % 65536 := by
  have f20 : formOf 20 = 4 := by decide +kernel
  have f18 : formOf 18 = 3 := by decide +kernel
  have c20 : checkC ⟨20, r, 0, 0, n / 65536⟩ = 0 := by
    unfold checkC
    simp only [f20]
    rw [if_neg (by decide)]
    refine if_pos ?_
    simp only [usesOf, Uses.lo, Uses.hi, fitsB, Bool.and_eq_true, decide_eq_true_eq, Bool.or_eq_true, beq_iff_eq]
    refine ⟨⟨⟨⟨.inr ⟨⟨by decide, r0⟩, r1⟩, .inl trivial⟩, .inl trivial⟩, ?_⟩, ?_⟩
    · show (0 : Int) ≤ n / 65536
      omega
    · show n / 65536 ≤ (65535 : Int)
      omega
  have c18 : checkC ⟨18, r, r, 0, n % 65536⟩ = 0 := by
    unfold checkC
    simp only [f18]
    rw [if_neg (by decide)]
    refine if_pos ?_
    simp only [usesOf, Uses.lo, Uses.hi, fitsB, Bool.and_eq_true, decide_eq_true_eq, Bool.or_eq_true, beq_iff_eq]
    refine ⟨⟨⟨⟨.inr ⟨⟨by decide, r0⟩, r1⟩, .inr ⟨⟨by decide, r0⟩, r1⟩⟩, .inl trivial⟩, ?_⟩, ?_⟩
    · show (0 : Int) ≤ n % 65536
      omega
    · show n % 65536 ≤ (65535 : Int)
      omega
  unfold encR
  rw [if_pos c20, if_pos c18]
  unfold encW
  simp only
  omega
theorem enc_16 (r : Int) (r0 : 0 ≤ r) (r1 : r ≤ 15) : checkC ⟨16, r, 0, 0, 0⟩ = 0 ∧ encR ⟨16, r, 0, 0, 0⟩ = 268435456 + r * 1048576 := by
  have f16 : formOf 16 = 2 := by decide +kernel
  have c16 : checkC ⟨16, r, 0, 0, 0⟩ = 0 := by
    unfold checkC
    simp only [f16]
    rw [if_neg (by decide)]
    refine if_pos ?_
    simp only [usesOf, Uses.lo, Uses.hi, fitsB, Bool.and_eq_true, decide_eq_true_eq, Bool.or_eq_true, beq_iff_eq]
    refine ⟨⟨⟨⟨.inr ⟨⟨by decide, r0⟩, r1⟩, .inl trivial⟩, .inl trivial⟩, by decide⟩, by decide⟩
  refine ⟨c16, ?_⟩
  unfold encR
  rw [if_pos c16]
  unfold encW
  simp only
  omega
theorem labOk_plain (i : Ins) : LabOk (partI i) := fun _ h => absurd rfl h
theorem labOk_word (n : Int) : LabOk (partW n) := fun h => by cases h
theorem numR_cases (lo hi r : Int) (w : List UInt8) : numR lo hi r [w] = if (valP w).2 = true then (if (valP w).1 < lo ∨ hi < (valP w).1 then (0, 0, 4) else (r, if (valP w).1 < 0 then (valP w).1 + 4294967296 else (valP w).1, 0)) else (0, 0, 18) := rfl
theorem late_none (at_ : Nat) (num : Int) (i : Ins) : lateOf at_ { partI i with line := num } = [] := by simp [lateOf, partI]
theorem late_word (at_ : Nat) (num n : Int) : lateOf at_ { partW n with line := num } = [] := by simp [lateOf, partW]
theorem lates_words (num : Int) : ∀ (k at_ : Nat), latesOf at_ ((List.replicate k (partW 0)).map fun p => { p with line := num }) = []
  | 0, _ => rfl
  | k + 1, at_ => by
    rw [List.replicate_succ, List.map_cons, latesOf, lates_words num k (at_ + 1), late_word]
    rfl
theorem len_two {l : List (List UInt8)} (h : l.length = 2) : ∃ x y, l = [x, y] := by
  match l, h with
  | [x, y], _ => exact ⟨x, y, rfl⟩
/-- li, .word, .space, la, nop. -/
theorem made_words (w : List UInt8) (ops : List (List UInt8)) (at_ : Nat) (num : Int) (ls : List Late) (hn : ∀ op, stmP w ≠ .ins op) : MadeLike (madeR w ops) at_ num (stmP w) ops ls := by
  unfold MadeLike madeR
  cases hs : stmP w with
  | ins op => exact absurd hs (hn op)
  | bad => rw [if_pos (.inl rfl)]
  | nop =>
    simp only
    by_cases h : ops = []
    · subst h
      rw [if_neg (by rintro (h | h); cases h; exact h rfl), if_neg (by simp)]
      simp only [kindsP, List.zip_nil_left, opsP]
      refine ⟨trivial, fun _ => ⟨?_, ?_, ?_⟩⟩
      · simp only [List.map_cons, List.map_nil, buildP, wordOf, partI, if_neg (by decide : ¬ false = true)]
        rw [(enc_16 0 (by decide) (by decide)).2]
        rfl
      · simp only [List.map_cons, List.map_nil, latesOf, late_none, List.append_nil]
      · intro p hp
        simp only [List.mem_cons, List.not_mem_nil, or_false] at hp
        subst hp
        exact labOk_plain _
    · rw [if_pos (.inr (fun hl => h (List.eq_nil_of_length_eq_zero hl))), if_pos h]
  | word =>
    simp only
    by_cases h : ops.length = 1
    · obtain ⟨x, rfl⟩ := List.length_eq_one_iff.1 h
      rw [if_neg (by rintro (h | h); cases h; exact h rfl)]
      simp only [numR_cases, kindsP, List.zip_cons_cons, List.zip_nil_left, opsP, opd_num_cases]
      by_cases h1 : (valP x).2 = true
      · simp only [if_pos h1]
        by_cases h2 : (valP x).1 < -2147483648 ∨ 4294967295 < (valP x).1
        · simp only [if_pos h2]
          exact ⟨rfl, fun h => by cases h⟩
        · simp only [if_neg h2]
          refine ⟨rfl, fun _ => ⟨?_, ?_, ?_⟩⟩
          · simp only [ne_eq, not_true_eq_false, if_false, List.map_cons, List.map_nil, wordOf, partW, if_true, buildP, List.nil_append, List.getD_cons_zero]
            congr 1
            split <;> omega
          · simp only [ne_eq, not_true_eq_false, if_false, List.map_cons, List.map_nil, latesOf, late_word, List.append_nil]
          · intro p hp
            simp only [ne_eq, not_true_eq_false, if_false, List.mem_cons, List.not_mem_nil, or_false] at hp
            subst hp
            exact labOk_word _
      · simp only [if_neg h1]
        exact ⟨rfl, fun h => by cases h⟩
    · rw [if_pos (.inr h)]
      have : numR (-2147483648) 4294967295 0 ops = (0, 0, 18) := by
        match ops, h with
        | [], _ => rfl
        | [x], h => exact absurd rfl h
        | x :: y :: r, _ => rfl
      rw [this]
      rfl
  | space =>
    simp only
    by_cases h : ops.length = 1
    · obtain ⟨x, rfl⟩ := List.length_eq_one_iff.1 h
      rw [if_neg (by rintro (h | h); cases h; exact h rfl)]
      simp only [numR_cases, kindsP, List.zip_cons_cons, List.zip_nil_left, opsP, opd_num_cases]
      by_cases h1 : (valP x).2 = true
      · simp only [if_pos h1]
        by_cases h2 : (valP x).1 < 0 ∨ 512 < (valP x).1
        · simp only [if_pos h2]
          exact ⟨rfl, fun h => by cases h⟩
        · have h3 : ¬ (valP x).1 < 0 := by omega
          simp only [if_neg h2, if_neg h3]
          refine ⟨rfl, fun _ => ⟨?_, ?_, ?_⟩⟩
          · simp only [ne_eq, not_true_eq_false, if_false, List.map_replicate, wordOf, partW, if_true, buildP, List.nil_append, List.getD_cons_zero]
          · simp only [ne_eq, not_true_eq_false, if_false, lates_words, List.append_nil]
          · intro p hp
            simp only [ne_eq, not_true_eq_false, if_false] at hp
            rw [(List.mem_replicate.1 hp).2]
            exact labOk_word _
      · simp only [if_neg h1]
        exact ⟨rfl, fun h => by cases h⟩
    · rw [if_pos (.inr h)]
      have : numR 0 512 0 ops = (0, 0, 18) := by
        match ops, h with
        | [], _ => rfl
        | [x], h => exact absurd rfl h
        | x :: y :: r, _ => rfl
      rw [this]
      rfl
  | li =>
    simp only
    by_cases h : ops.length = 2
    · obtain ⟨x, y, rfl⟩ := len_two h
      rw [if_neg (by rintro (h | h); cases h; exact h rfl)]
      simp only [liR, numR_cases, kindsP, List.zip_cons_cons, List.zip_nil_left, opsP, opd_num_cases, opd_reg_cases]
      by_cases h0 : regP x < 0
      · simp only [if_pos h0]
        exact ⟨rfl, fun h => by cases h⟩
      · have hm := regP_max x
        simp only [if_neg h0]
        by_cases h1 : (valP y).2 = true
        · simp only [if_pos h1]
          by_cases h2 : (valP y).1 < -2147483648 ∨ 4294967295 < (valP y).1
          · simp only [if_pos h2]
            exact ⟨rfl, fun h => by cases h⟩
          · simp only [if_neg h2]
            refine ⟨rfl, fun _ => ⟨?_, ?_, ?_⟩⟩
            · simp only [ne_eq, not_true_eq_false, if_false, List.map_cons, List.map_nil, wordOf, partI, Bool.false_eq_true, buildP, List.nil_append, List.singleton_append, List.getD_cons_zero, List.getD_cons_succ]
              generalize regP x = r at h0 hm
              generalize (valP y).1 = n at h2
              obtain ⟨e1, e2⟩ := enc_li r (if n < 0 then n + 4294967296 else n) (by omega) hm (by split <;> omega) (by split <;> omega)
              rw [e1, e2]
              have e3 : n % 4294967296 = if n < 0 then n + 4294967296 else n := by split <;> omega
              have e4 : n % 65536 = (if n < 0 then n + 4294967296 else n) % 65536 := by split <;> omega
              rw [e3, ← e4]
            · simp only [ne_eq, not_true_eq_false, if_false, List.map_cons, List.map_nil, latesOf, late_none, List.append_nil]
            · intro p hp
              simp only [ne_eq, not_true_eq_false, if_false, List.mem_cons, List.not_mem_nil, or_false] at hp
              rcases hp with rfl | rfl
              · exact labOk_plain _
              · exact labOk_plain _
        · simp only [if_neg h1]
          exact ⟨rfl, fun h => by cases h⟩
    · rw [if_pos (.inr h)]
      have : liR ops = (0, 0, 18) := by
        match ops, h with
        | [], _ => rfl
        | [x], _ => rfl
        | [x, y], h => exact absurd rfl h
        | x :: y :: z :: r, _ => rfl
      rw [this]
      rfl
  | la =>
    simp only
    by_cases h : ops.length = 2
    · obtain ⟨x, y, rfl⟩ := len_two h
      rw [if_neg (by rintro (h | h); cases h; exact h rfl)]
      simp only [kindsP, List.zip_cons_cons, List.zip_nil_left, opsP, opd_reg_cases, opd_lab_cases]
      by_cases h0 : regP x < 0
      · have e1 : regP x < 0 ∨ ¬ nameP y = true := .inl h0
        simp only [if_pos h0, if_pos e1]
        exact ⟨trivial, fun h => by cases h⟩
      · have hm := regP_max x
        by_cases h1 : nameP y = true
        · have e1 : ¬(regP x < 0 ∨ ¬ nameP y = true) := fun h => h.elim h0 (fun h => h h1)
          simp only [if_neg h0, if_pos h1, if_neg e1]
          refine ⟨trivial, fun _ => ⟨?_, ?_, ?_⟩⟩
          · simp only [List.map_cons, List.map_nil, wordOf, Bool.false_eq_true, if_false, buildP, List.nil_append, List.singleton_append, List.getD_cons_zero]
            rw [(enc_16 (regP x) (by omega) hm).2]
          · simp only [List.map_cons, List.map_nil, latesOf, lateOf, List.append_nil]
            rw [if_pos ⟨trivial, name_ne h1⟩]
            rfl
          · intro p hp
            simp only [List.mem_cons, List.not_mem_nil, or_false] at hp
            subst hp
            refine fun _ _ => ⟨rfl, rfl, (enc_16 (regP x) (by omega) hm).1, ?_, ?_⟩
            · show (usesOf (formOf 16)).imm = true
              decide +kernel
            · show (usesOf (formOf 16)).signed = true
              decide +kernel
        · have e1 : regP x < 0 ∨ ¬ nameP y = true := .inr h1
          simp only [if_neg h0, if_neg h1, if_pos e1]
          exact ⟨trivial, fun h => by cases h⟩
    · rw [if_pos (.inr h)]
      match ops, h with
      | [], _ => rfl
      | [x], _ => rfl
      | [x, y], h => exact absurd rfl h
      | x :: y :: z :: r, _ => rfl
end Go.Proofs.YtecmeegnjjhilaaGreatDoor
