/- The plain law of a text of nops with one jump and one label: the words that it assembles to, and what the jump's word reads as. -/
import Derived.Test.YtecmeegnjjhilaaDoorLines
namespace Go.Proofs.YtecmeegnjjhilaaDoor
open Go.RowKit

def hereW : List UInt8 := [104, 101, 114, 101]
/-- A line of one statement without a label. -/
theorem line_stm (num : Int) (l : List UInt8) (st : Src) (w : ByteArray) (ops : List ByteArray) (stm : Stm) (hf : fieldsL l = w :: ops) (hs : Lib.hasSuffix w.data.toList [58] = false)
    (hk : stmP w.data.toList = stm) (hb : stm ≠ .bad) (hl : ops.length = (kindsP stm).length) :
    lineP num l st = match opsP st.words.length num ((kindsP stm).zip (ops.map fun s => s.data.toList)) [] st.lates with
      | (vs, lts, c) => if c ≠ 0 then (st, c)
        else if 512 < st.words.length + (buildP stm vs).length then (st, 11)
        else ({ words := st.words ++ buildP stm vs, labels := st.labels, lates := lts }, 0) := by
  have h1 : labelsP (4 * (st.words.length : Int)) (fieldsL l) st.labels = (0, st.labels, w :: ops) := by
    rw [hf, labelsP, if_neg (by rw [hs]; decide)]
  unfold lineP
  rw [h1]
  simp only
  rw [if_neg (by decide)]
  unfold restP
  simp only
  rw [hk, if_neg (by rintro (h | h); exact hb h; exact h hl)]
theorem line_nop (num : Int) (st : Src) (h : st.words.length < 512) : lineP num wNop st = ({ st with words := st.words ++ [268435456] }, 0) := by
  rw [line_stm num wNop st ⟨wNop.toArray⟩ [] .nop (by decide +kernel) (by decide +kernel) (by decide +kernel) (by decide) rfl]
  simp only [kindsP, List.zip_nil_left, opsP, buildP]
  rw [if_neg (by decide), if_neg (by simp; omega)]
theorem line_empty (num : Int) (st : Src) : lineP num [] st = (st, 0) := by
  have hf : fieldsL [] = [] := by decide +kernel
  unfold lineP
  rw [hf]
  rfl
theorem line_here (num : Int) (st : Src) (h : lookL st.labels hereW = none) : lineP num (hereW ++ [58]) st = ({ st with labels := st.labels ++ [(hereW, 4 * (st.words.length : Int))] }, 0) := by
  have hf : fieldsL (hereW ++ [58]) = [⟨(hereW ++ [58]).toArray⟩] := by decide +kernel
  have ht : Lib.trimSuffix (⟨(hereW ++ [58]).toArray⟩ : ByteArray).data.toList [58] = hereW := by decide +kernel
  have h1 : labelsP (4 * (st.words.length : Int)) (fieldsL (hereW ++ [58])) st.labels = (0, st.labels ++ [(hereW, 4 * (st.words.length : Int))], []) := by
    rw [hf, labelsP, if_pos (by decide +kernel)]
    rw [ht, if_pos (by decide +kernel), if_neg (by rw [h]; decide)]
    rfl
  unfold lineP
  rw [h1]
  rfl

/-- The jump's line and the word that it leaves, its Imm still 0. -/
structure JK where
  op : Int
  line : List UInt8
  stm : Stm
  base : Int
  branch : Bool
def argsA : List UInt8 := [32, 114, 51, 44, 32, 104, 101, 114, 101]
def argsB : List UInt8 := [32, 114, 51, 44, 32, 114, 52, 44, 32, 104, 101, 114, 101]
def kindJ (op : Int) : JK :=
  if op = 54 then ⟨54, [106, 97, 108] ++ argsA, .ins 54, 54 * 16777216 + 3 * 1048576, true⟩
  else if 48 ≤ op ∧ op ≤ 53 then ⟨op, (opRow op).word ++ argsB, .ins op, op * 16777216 + 3 * 1048576 + 4 * 65536, true⟩
  else ⟨16, wLa ++ argsA, .la, 16 * 16777216 + 3 * 1048576, false⟩
theorem line_la (num : Int) (st : Src) (h : st.words.length < 512) : lineP num (wLa ++ argsA) st = ({ words := st.words ++ [16 * 16777216 + 3 * 1048576], labels := st.labels, lates := st.lates ++ [⟨st.words.length, num, hereW, false⟩] }, 0) := by
  rw [line_stm num (wLa ++ argsA) st ⟨wLa.toArray⟩ [⟨#[114, 51]⟩, ⟨hereW.toArray⟩] .la (by decide +kernel) (by decide +kernel) (by decide +kernel) (by decide) rfl]
  have h1 : opd regK [114, 51] = .val 3 := by kernel_rfl
  have h2 : opd labK hereW = .late := by kernel_rfl
  simp only [kindsP, List.map_cons, List.map_nil, List.zip_cons_cons, List.zip_nil_left]
  simp only [opsP, h1, h2, buildP]
  rw [if_neg (by decide), if_neg (by simp; omega)]
  rfl
theorem line_jal (num : Int) (st : Src) (h : st.words.length < 512) : lineP num ([106, 97, 108] ++ argsA) st = ({ words := st.words ++ [54 * 16777216 + 3 * 1048576], labels := st.labels, lates := st.lates ++ [⟨st.words.length, num, hereW, true⟩] }, 0) := by
  rw [line_stm num ([106, 97, 108] ++ argsA) st ⟨#[106, 97, 108]⟩ [⟨#[114, 51]⟩, ⟨hereW.toArray⟩] (.ins 54) (by decide +kernel) (by decide +kernel) (by decide +kernel) (by decide) (by decide +kernel)]
  have h0 : kindsP (.ins 54) = [regK, immK (-32768) 32767 true] := by kernel_rfl
  have h1 : opd regK [114, 51] = .val 3 := by kernel_rfl
  have h2 : opd (immK (-32768) 32767 true) hereW = .late := by kernel_rfl
  have h3 : buildP (.ins 54) [3, 0] = [54 * 16777216 + 3 * 1048576] := by decide +kernel
  simp only [h0, List.map_cons, List.map_nil, List.zip_cons_cons, List.zip_nil_left]
  simp only [opsP, h1, h2, List.nil_append, List.singleton_append, h3]
  rw [if_neg (by decide), if_neg (by simp; omega)]
  rfl
/-- What is asked of a branch's word, at each of the six. -/
def BrOk (op : Int) : Prop :=
  fieldsL ((opRow op).word ++ argsB) = [⟨(opRow op).word.toArray⟩, ⟨#[114, 51]⟩, ⟨#[114, 52]⟩, ⟨hereW.toArray⟩] ∧ Lib.hasSuffix (opRow op).word [58] = false ∧ stmP (opRow op).word = .ins op ∧
  kindsP (.ins op) = [regK, regK, immK (-32768) 32767 true] ∧ buildP (.ins op) [3, 4, 0] = [op * 16777216 + 3 * 1048576 + 4 * 65536]
theorem br_all (op : Int) (h48 : 48 ≤ op) (h53 : op ≤ 53) : BrOk op := by
  have h : op = 48 ∨ op = 49 ∨ op = 50 ∨ op = 51 ∨ op = 52 ∨ op = 53 := by omega
  rcases h with rfl | rfl | rfl | rfl | rfl | rfl
  all_goals exact ⟨by decide +kernel, by decide +kernel, by decide +kernel, by kernel_rfl, by decide +kernel⟩
theorem line_br (op : Int) (h48 : 48 ≤ op) (h53 : op ≤ 53) (num : Int) (st : Src) (h : st.words.length < 512) : lineP num ((opRow op).word ++ argsB) st = ({ words := st.words ++ [op * 16777216 + 3 * 1048576 + 4 * 65536], labels := st.labels, lates := st.lates ++ [⟨st.words.length, num, hereW, true⟩] }, 0) := by
  obtain ⟨b1, b2, b3, b4, b5⟩ := br_all op h48 h53
  rw [line_stm num ((opRow op).word ++ argsB) st ⟨(opRow op).word.toArray⟩ [⟨#[114, 51]⟩, ⟨#[114, 52]⟩, ⟨hereW.toArray⟩] (.ins op) b1 b2 b3 (by simp) (by rw [b4]; rfl)]
  have h1 : opd regK [114, 51] = .val 3 := by kernel_rfl
  have h1' : opd regK [114, 52] = .val 4 := by kernel_rfl
  have h2 : opd (immK (-32768) 32767 true) hereW = .late := by kernel_rfl
  simp only [b4, List.map_cons, List.map_nil, List.zip_cons_cons, List.zip_nil_left]
  simp only [opsP, h1, h1', h2, List.nil_append, List.singleton_append, List.cons_append, b5]
  rw [if_neg (by decide), if_neg (by simp; omega)]
  rfl
theorem line_jump (op : Int) (num : Int) (st : Src) (h : st.words.length < 512) : lineP num (kindJ op).line st = ({ words := st.words ++ [(kindJ op).base], labels := st.labels, lates := st.lates ++ [⟨st.words.length, num, hereW, (kindJ op).branch⟩] }, 0) := by
  unfold kindJ
  split
  · exact line_jal num st h
  · split
    · rename_i h1
      exact line_br op h1.1 h1.2 num st h
    · exact line_la num st h

/-- The lines that stand for number i: the label, then the statement. -/
def lineAt (jl : List UInt8) (n frm to_ i : Nat) : List (List UInt8) := (if i = to_ then [hereW ++ [58]] else []) ++ (if i = n then [] else [if i = frm then jl else wNop])
def linesTo (jl : List UInt8) (n frm to_ k : Nat) : List (List UInt8) := (List.range k).flatMap (lineAt jl n frm to_)
theorem linesTo_succ (jl : List UInt8) (n frm to_ k : Nat) : linesTo jl n frm to_ (k + 1) = linesTo jl n frm to_ k ++ lineAt jl n frm to_ k := by
  unfold linesTo
  rw [List.range_succ, List.flatMap_append]
  simp
def wordsTo (base : Int) (frm k : Nat) : List Int := (List.range k).map fun i => if i = frm then base else 268435456
theorem wordsTo_succ (base : Int) (frm k : Nat) : wordsTo base frm (k + 1) = wordsTo base frm k ++ [if k = frm then base else 268435456] := by
  unfold wordsTo
  rw [List.range_succ, List.map_append]
  rfl
theorem wordsTo_length (base : Int) (frm k : Nat) : (wordsTo base frm k).length = k := by simp [wordsTo]
def toB (ls : List (List UInt8)) : List ByteArray := ls.map fun l => ⟨l.toArray⟩

theorem asmLines_one (i : Nat) (l : List UInt8) (st st' : Src) (h : lineP ((i : Int) + 1) l st = (st', 0)) : asmLines i (toB [l]) st = (st', none) := by
  have e : asmLines i (toB [l]) st = if (lineP ((i : Int) + 1) l st).2 ≠ 0 then (st, some (i + 1, (lineP ((i : Int) + 1) l st).2)) else ((lineP ((i : Int) + 1) l st).1, none) := rfl
  rw [e, if_neg (by rw [h]; simp), h]
/-- One statement more. -/
theorem asm_one (op : Int) (frm i k : Nat) (st : Src) (hk : k < 512) (hw : st.words = wordsTo (kindJ op).base frm k) :
    ∃ lt, asmLines i (toB [if k = frm then (kindJ op).line else wNop]) st = ({ words := wordsTo (kindJ op).base frm (k + 1), labels := st.labels, lates := st.lates ++ lt }, none) ∧ (if k = frm then ∃ num, lt = [⟨k, num, hereW, (kindJ op).branch⟩] else lt = []) := by
  have hl : st.words.length < 512 := by rw [hw, wordsTo_length]; exact hk
  have hlk : st.words.length = k := by rw [hw, wordsTo_length]
  by_cases hf : k = frm
  · refine ⟨[⟨k, (i : Int) + 1, hereW, (kindJ op).branch⟩], ?_, by rw [if_pos hf]; exact ⟨_, rfl⟩⟩
    rw [if_pos hf, wordsTo_succ, if_pos hf, ← hw]
    refine asmLines_one i _ st _ ?_
    rw [line_jump op _ st hl, hlk]
  · refine ⟨[], ?_, by rw [if_neg hf]⟩
    rw [if_neg hf, wordsTo_succ, if_neg hf, ← hw]
    refine asmLines_one i _ st _ ?_
    rw [line_nop _ st hl, List.append_nil]
theorem asm_label (i : Nat) (st : Src) (h : lookL st.labels hereW = none) : asmLines i (toB [hereW ++ [58]]) st = ({ st with labels := st.labels ++ [(hereW, 4 * (st.words.length : Int))] }, none) :=
  asmLines_one i _ st _ (line_here _ st h)
theorem toB_append (a b : List (List UInt8)) : toB (a ++ b) = toB a ++ toB b := by simp [toB]
theorem late_step (frm k : Nat) (num : Int) (b : Bool) (lt : List Late) (h : if k = frm then ∃ num, lt = [⟨k, num, hereW, b⟩] else lt = []) :
    ∃ num', (if frm < k then [(⟨frm, num, hereW, b⟩ : Late)] else []) ++ lt = if frm < k + 1 then [⟨frm, num', hereW, b⟩] else [] := by
  by_cases hf : k = frm
  · rw [if_pos hf] at h
    obtain ⟨num2, rfl⟩ := h
    exact ⟨num2, by rw [if_neg (by omega), if_pos (by omega), hf]; rfl⟩
  · rw [if_neg hf] at h
    subst h
    refine ⟨num, ?_⟩
    rw [List.append_nil]
    by_cases hf2 : frm < k
    · rw [if_pos hf2, if_pos (by omega)]
    · rw [if_neg hf2, if_neg (by omega)]

/-- The state behind the lines of the numbers below k. -/
theorem asm_jump (op : Int) (n frm to_ : Nat) (hn : n ≤ 512) : ∀ k, k ≤ n → ∃ num, asmLines 0 (toB (linesTo (kindJ op).line n frm to_ k)) ⟨[], [], []⟩ =
    ({ words := wordsTo (kindJ op).base frm k, labels := if to_ < k then [(hereW, 4 * (to_ : Int))] else [], lates := if frm < k then [⟨frm, num, hereW, (kindJ op).branch⟩] else [] }, none)
  | 0, _ => ⟨0, by simp [linesTo, toB, asmLines, wordsTo]⟩
  | k + 1, hk => by
    obtain ⟨num, ih⟩ := asm_jump op n frm to_ hn k (by omega)
    rw [linesTo_succ, toB_append]
    generalize toB (linesTo (kindJ op).line n frm to_ k) = A at ih
    have hA := asm_append A (toB (lineAt (kindJ op).line n frm to_ k)) 0 ⟨[], [], []⟩ (by rw [ih])
    rw [ih] at hA
    rw [hA]
    unfold lineAt
    rw [if_neg (by omega : ¬ k = n), toB_append]
    by_cases ht : k = to_
    · rw [if_pos ht]
      rw [if_neg (by omega : ¬ to_ < k)]
      have hL := asm_label (0 + A.length) { words := wordsTo (kindJ op).base frm k, labels := [], lates := if frm < k then [⟨frm, num, hereW, (kindJ op).branch⟩] else [] } rfl
      rw [asm_append _ _ _ _ (by rw [hL])]
      rw [hL]
      obtain ⟨lt, h1, h2⟩ := asm_one op frm (0 + A.length + (toB [hereW ++ [58]]).length) k { words := wordsTo (kindJ op).base frm k, labels := [(hereW, 4 * ((wordsTo (kindJ op).base frm k).length : Int))], lates := if frm < k then [⟨frm, num, hereW, (kindJ op).branch⟩] else [] } (by omega) rfl
      obtain ⟨num', e⟩ := late_step frm k num (kindJ op).branch lt h2
      refine ⟨num', ?_⟩
      simp only [List.nil_append]
      rw [h1, if_pos (by omega : to_ < k + 1), ← e, wordsTo_length, ← ht]
    · rw [if_neg ht]
      rw [show toB ([] : List (List UInt8)) ++ toB [if k = frm then (kindJ op).line else wNop] = toB [if k = frm then (kindJ op).line else wNop] from rfl]
      obtain ⟨lt, h1, h2⟩ := asm_one op frm (0 + A.length) k { words := wordsTo (kindJ op).base frm k, labels := if to_ < k then [(hereW, 4 * (to_ : Int))] else [], lates := if frm < k then [⟨frm, num, hereW, (kindJ op).branch⟩] else [] } (by omega) rfl
      obtain ⟨num', e⟩ := late_step frm k num (kindJ op).branch lt h2
      refine ⟨num', ?_⟩
      have hlab : (if to_ < k then [(hereW, 4 * (to_ : Int))] else []) = (if to_ < k + 1 then [(hereW, 4 * (to_ : Int))] else []) := by
        by_cases h3 : to_ < k
        · rw [if_pos h3, if_pos (by omega)]
        · rw [if_neg h3, if_neg (by omega)]
      rw [h1, ← e, ← hlab]

/-- What the late operand is worth. -/
def jumpV (op : Int) (frm to_ : Nat) : Int := if (kindJ op).branch then (to_ : Int) - frm - 1 else 4 * (to_ : Int)
theorem late_worth (op : Int) (frm to_ : Nat) (num : Int) : lateV (4 * (to_ : Int)) ⟨frm, num, hereW, (kindJ op).branch⟩ = jumpV op frm to_ := by
  unfold lateV jumpV
  simp only
  split
  · rw [show (4 * (to_ : Int) - 4 * (frm : Int) - 4) = ((to_ : Int) - frm - 1) * 4 by omega]
    exact Int.mul_tdiv_cancel _ (by decide)
  · rfl

def jumpText (op : Int) (n frm to_ : Nat) : List UInt8 := textL (linesTo (kindJ op).line n frm to_ (n + 1))
theorem noline_kind (op : Int) : (10 : UInt8) ∉ (kindJ op).line := by
  unfold kindJ
  split
  · decide
  · split
    · rename_i h
      have : ([48, 49, 50, 51, 52, 53] : List Int).all (fun op => decide ((10 : UInt8) ∉ (opRow op).word ++ argsB)) = true := by decide +kernel
      have := List.all_eq_true.1 this op (by simp; omega)
      simpa using this
    · decide
theorem noline_to (op : Int) (n frm to_ k : Nat) : ∀ l ∈ linesTo (kindJ op).line n frm to_ k, (10 : UInt8) ∉ l := by
  intro l hl
  unfold linesTo at hl
  obtain ⟨i, _, hi⟩ := List.mem_flatMap.1 hl
  unfold lineAt at hi
  rcases List.mem_append.1 hi with hi | hi
  · split at hi
    · simp only [List.mem_cons, List.not_mem_nil, or_false] at hi
      rw [hi]; decide
    · cases hi
  · split at hi
    · cases hi
    · simp only [List.mem_cons, List.not_mem_nil, or_false] at hi
      rw [hi]
      split
      · exact noline_kind op
      · decide
theorem look_here (a : Int) : lookL [(hereW, a)] hereW = some a := by simp [lookL]
/-- THE TEXT's WORDS. -/
theorem asm_text (op : Int) (n frm to_ : Nat) (hn : n ≤ 512) (hf : frm < n) (ht : to_ ≤ n) :
    asmP ⟨(jumpText op n frm to_).toArray⟩ = ((wordsTo (kindJ op).base frm n).set frm (orLow (kindJ op).base (jumpV op frm to_)), none) := by
  have hl : linesL ⟨(jumpText op n frm to_).toArray⟩ = toB (linesTo (kindJ op).line n frm to_ n) ++ (toB (lineAt (kindJ op).line n frm to_ n) ++ toB [[]]) := by
    unfold jumpText
    rw [lines_text _ (noline_to op n frm to_ (n + 1)), linesTo_succ]
    simp [toB]
  obtain ⟨num, h1⟩ := asm_jump op n frm to_ hn n (Nat.le_refl _)
  rw [if_pos hf] at h1
  have hend : ∃ num, asmLines 0 (linesL ⟨(jumpText op n frm to_).toArray⟩) ⟨[], [], []⟩ = ({ words := wordsTo (kindJ op).base frm n, labels := [(hereW, 4 * (to_ : Int))], lates := [⟨frm, num, hereW, (kindJ op).branch⟩] }, none) := by
    refine ⟨num, ?_⟩
    rw [hl, asm_append _ _ _ _ (by rw [h1]), h1]
    generalize 0 + (toB (linesTo (kindJ op).line n frm to_ n)).length = j
    have hE : ∀ (i : Nat) (st : Src), asmLines i (toB [[]]) st = (st, none) := fun i st => asmLines_one i [] st st (line_empty _ st)
    unfold lineAt
    rw [if_pos rfl, List.append_nil]
    by_cases h2 : n = to_
    · rw [if_pos h2, if_neg (by omega : ¬ to_ < n)]
      have hL := asm_label j { words := wordsTo (kindJ op).base frm n, labels := [], lates := [⟨frm, num, hereW, (kindJ op).branch⟩] } rfl
      rw [asm_append _ _ _ _ (by rw [hL]), hL, hE, wordsTo_length, h2]
      rfl
    · rw [if_neg h2, if_pos (by omega : to_ < n)]
      exact hE _ _
  obtain ⟨num, hend⟩ := hend
  unfold asmP
  rw [hend]
  simp only [patchP, look_here, late_worth]
  have hg : (wordsTo (kindJ op).base frm n).getD frm 0 = (kindJ op).base := by
    rw [List.getD_eq_getElem?_getD]
    unfold wordsTo
    simp [hf]
  rw [hg]
/-- A word of a signed form reads as its fields. -/
theorem dec_of (o b v : Int) (ub : Bool) (ho : 0 ≤ o) (hf : formOf o ≠ 0) (hu : usesOf (formOf o) = ⟨true, ub, false, true, true⟩) (hb : 0 ≤ b ∧ b ≤ 15) (hub : b = 0 ∨ ub = true) (hv : -32768 ≤ v ∧ v ≤ 32767) :
    decC (o * 16777216 + 3 * 1048576 + b * 65536 + v % 65536) = 0 ∧ decI (o * 16777216 + 3 * 1048576 + b * 65536 + v % 65536) = ⟨o, 3, b, 0, v⟩ := by
  have e1 : (o * 16777216 + 3 * 1048576 + b * 65536 + v % 65536) / 16777216 = o := by omega
  have e2 : (o * 16777216 + 3 * 1048576 + b * 65536 + v % 65536) / 1048576 % 16 = 3 := by omega
  have e3 : (o * 16777216 + 3 * 1048576 + b * 65536 + v % 65536) / 65536 % 16 = b := by omega
  have e4 : (o * 16777216 + 3 * 1048576 + b * 65536 + v % 65536 + 32768) % 65536 - 32768 = v := by omega
  have hr : decRaw (o * 16777216 + 3 * 1048576 + b * 65536 + v % 65536) = ⟨o, 3, b, 0, v⟩ := by
    unfold decRaw
    simp only [e1, e2, e3, e4, hu]
    rfl
  have hc : checkC ⟨o, 3, b, 0, v⟩ = 0 := by
    unfold checkC
    simp only [hu, if_neg hf]
    refine if_pos ?_
    simp only [Uses.lo, Uses.hi, if_true, Bool.and_eq_true, decide_eq_true_eq]
    refine ⟨⟨⟨⟨by decide, ?_⟩, by decide⟩, hv.1⟩, hv.2⟩
    rcases hub with rfl | rfl
    · rfl
    · simp [fitsB]
      omega
  have he : encW ⟨o, 3, b, 0, v⟩ = o * 16777216 + 3 * 1048576 + b * 65536 + v % 65536 := by
    unfold encW
    simp only
    omega
  have h0 : decC (o * 16777216 + 3 * 1048576 + b * 65536 + v % 65536) = 0 := by
    unfold decC
    rw [e1, if_neg hf, hr]
    exact if_pos ⟨hc, he⟩
  exact ⟨h0, by rw [dec_good _ h0, hr]⟩
theorem orLow_sum (q : Nat) (v : Int) : orLow ((q : Int) * 65536) v = (q : Int) * 65536 + v % 65536 := by
  have h0 : 0 ≤ v % 65536 := Int.emod_nonneg _ (by decide)
  obtain ⟨m, hm⟩ := Int.eq_ofNat_of_zero_le h0
  have hm2 : m < 65536 := by omega
  unfold orLow
  rw [hm]
  have e : ((q : Int) * 65536).toNat = q <<< 16 := by
    rw [Nat.shiftLeft_eq]
    omega
  rw [e, Int.toNat_natCast, ← Nat.shiftLeft_add_eq_or_of_lt (by simpa using hm2), Nat.shiftLeft_eq]
  omega
def JK.b (j : JK) : Int := if 48 ≤ j.op ∧ j.op ≤ 53 then 4 else 0
theorem jump_word (op v : Int) (hv : -32768 ≤ v ∧ v ≤ 32767) :
    0 ≤ orLow (kindJ op).base v ∧ orLow (kindJ op).base v < 4294967296 ∧ decC (orLow (kindJ op).base v) = 0 ∧ decI (orLow (kindJ op).base v) = ⟨(kindJ op).op, 3, (kindJ op).b, 0, v⟩ := by
  have key : ∃ (o : Nat) (b : Nat) (ub : Bool), o < 65 ∧ b ≤ 15 ∧ (kindJ op).op = o ∧ (kindJ op).b = b ∧ (kindJ op).base = (((o * 256 + 48 + b : Nat) : Int)) * 65536 ∧ formOf (o : Int) ≠ 0 ∧ usesOf (formOf (o : Int)) = ⟨true, ub, false, true, true⟩ ∧ (b = 0 ∨ ub = true) := by
    unfold kindJ
    split
    · exact ⟨54, 0, false, by decide, by decide, rfl, rfl, rfl, by decide +kernel, by rw [show formOf ((54 : Nat) : Int) = 5 by decide +kernel]; rfl, .inl rfl⟩
    · split
      · rename_i h
        obtain ⟨m, rfl⟩ := Int.eq_ofNat_of_zero_le (show 0 ≤ op by omega)
        have h2 : formOf (m : Int) = 2 := by
          have : ([48, 49, 50, 51, 52, 53] : List Int).all (fun op => formOf op == 2) = true := by decide +kernel
          have := List.all_eq_true.1 this (m : Int) (by simp; omega)
          simpa using this
        refine ⟨m, 4, true, by omega, by decide, rfl, ?_, ?_, by rw [h2]; decide, by rw [h2]; rfl, .inr rfl⟩
        · unfold JK.b
          rw [if_pos (by exact h)]
          rfl
        · simp only
          omega
      · exact ⟨16, 0, true, by decide, by decide, rfl, rfl, rfl, by decide +kernel, by rw [show formOf ((16 : Nat) : Int) = 2 by decide +kernel]; rfl, .inl rfl⟩
  obtain ⟨o, b, ub, ho, hb, h1, h2, h3, h4, h5, h6⟩ := key
  rw [h1, h2, h3, orLow_sum]
  have hd := dec_of o b v ub (by omega) h4 h5 ⟨by omega, by omega⟩ (by rcases h6 with h | h; exact .inl (by omega); exact .inr h) hv
  have e : (((o * 256 + 48 + b : Nat) : Int)) * 65536 + v % 65536 = (o : Int) * 16777216 + 3 * 1048576 + (b : Int) * 65536 + v % 65536 := by
    simp only [Int.natCast_add, Int.natCast_mul]
    omega
  rw [e]
  exact ⟨by omega, by omega, hd.1, hd.2⟩
end Go.Proofs.YtecmeegnjjhilaaDoor
