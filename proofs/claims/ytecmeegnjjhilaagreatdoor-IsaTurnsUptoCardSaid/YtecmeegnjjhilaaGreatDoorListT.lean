/- The listing's law: the lines of words assemble to the words. Plain. -/
import Derived.Test.YtecmeegnjjhilaaGreatDoorLineW
import Derived.Test.YtecmeegnjjhilaaGreatDoorTextLaw
namespace Go.Proofs.YtecmeegnjjhilaaGreatDoor
open Go.RowKit

def ByteOk (c : UInt8) : Prop := c.toNat = 45 ∨ c.toNat = 46 ∨ (48 ≤ c.toNat ∧ c.toNat ≤ 57) ∨ (97 ≤ c.toNat ∧ c.toNat ≤ 122)
theorem ByteOk.plain {c : UInt8} (h : ByteOk c) : blankB c = false ∧ c ≠ 59 ∧ c ≠ 58 ∧ c ≠ 10 := by
  unfold ByteOk at h
  refine ⟨?_, ?_, ?_, ?_⟩
  · simp [blankB, blankR]
    omega
  · rintro rfl
    revert h
    decide
  · rintro rfl
    revert h
    decide
  · rintro rfl
    revert h
    decide
theorem dec_okb (u : Nat) : ∀ c ∈ Lib.decDigits u, ByteOk c := fun c h => .inr (.inr (.inl (dec_digit u c h)))
theorem itoa_okb (n : Int) : ∀ c ∈ Lib.itoa n, ByteOk c := by
  intro c h
  unfold Lib.itoa at h
  split at h
  · rcases List.mem_cons.1 h with rfl | h
    · exact .inl rfl
    · exact dec_okb _ c h
  · exact dec_okb _ c h
theorem reg_okb (n : Int) : ∀ c ∈ regT n, ByteOk c := by
  intro c h
  rcases List.mem_cons.1 h with rfl | h
  · exact .inr (.inr (.inr ⟨by decide, by decide⟩))
  · exact dec_okb _ c h
theorem word_okb (op : Int) (h : formOf op ≠ 0) : ∀ c ∈ (opRow op).word, ByteOk c := by
  have ht : table.all (fun r => r.word.all fun c => decide (97 ≤ c.toNat ∧ c.toNat ≤ 122)) = true := by decide +kernel
  unfold formOf opRow look at h
  unfold opRow look
  cases hf : table.find? (fun r => r.op == op) with
  | none => rw [hf] at h; exact absurd rfl h
  | some r =>
    have := List.all_eq_true.1 ht r (List.mem_of_find?_eq_some hf)
    intro c hc
    have hc' := List.all_eq_true.1 this c hc
    simp only [decide_eq_true_eq] at hc'
    exact .inr (.inr (.inr hc'))
theorem field_okb (i : Ins) : ∀ x ∈ fieldsT i, ∀ c ∈ x, ByteOk c := by
  intro x hx
  unfold fieldsT at hx
  simp only [List.mem_append] at hx
  rcases hx with ((hx | hx) | hx) | hx
  all_goals
    split at hx
    · simp only [List.mem_cons, List.not_mem_nil, or_false] at hx
      rw [hx]
      first | exact reg_okb _ | exact itoa_okb _
    · cases hx
theorem pieces_okb (i : Ins) (hc : checkC i = 0) : ∀ l ∈ (opRow i.op).word :: fieldsT i, ∀ c ∈ l, ByteOk c := by
  intro l hl
  rcases List.mem_cons.1 hl with rfl | hl
  · exact word_okb i.op (check_fields i hc).1
  · exact field_okb i l hl
theorem plain_of {l : List UInt8} (hne : l ≠ []) (h : ∀ c ∈ l, ByteOk c) : PlainW l := ⟨hne, fun c hc => ⟨(h c hc).plain.1, (h c hc).plain.2.1⟩⟩
theorem fields_print (i : Ins) (hc : checkC i = 0) : fieldsL (printT i) = ((opRow i.op).word :: fieldsT i).map fun (l : List UInt8) => (⟨l.toArray⟩ : ByteArray) :=
  fields_joined _ _ fun l hl => plain_of (pieces i hc l hl).2 (pieces_okb i hc l hl)
theorem no_colon {l : List UInt8} (h : ∀ c ∈ l, ByteOk c) : Lib.hasSuffix l [58] = false := by
  cases hs : Lib.hasSuffix l [58] with
  | false => rfl
  | true =>
    have h1 : [58] <:+ l := List.isSuffixOf_iff_suffix.1 hs
    have hm : (58 : UInt8) ∈ l := h1.subset (by simp)
    exact absurd rfl (h 58 hm).plain.2.2.1

theorem num_snoc (c : UInt8) (l : List UInt8) : numB 10 0 (l ++ [c]) = numB 10 0 l * 10 + hexD c.toNat := by
  unfold numB
  rw [List.foldl_append]
  rfl
theorem num_dec (u : Nat) : numB 10 0 (Lib.decDigits u) = u := by
  induction u using Nat.strongRecOn with
  | ind u ih =>
    by_cases h : u < 10
    · rw [Lib.decDigits_one h]
      have hc : (UInt8.ofNat (48 + u)).toNat = 48 + u := by simp [UInt8.toNat_ofNat']; omega
      show 0 * 10 + hexD (UInt8.ofNat (48 + u)).toNat = u
      rw [hc]
      unfold hexD
      rw [if_pos (by omega)]
      omega
    · rw [Lib.decDigits, dif_neg h, num_snoc, ih (u / 10) (by omega)]
      have hc : (UInt8.ofNat (48 + u % 10)).toNat = 48 + u % 10 := by simp [UInt8.toNat_ofNat']; omega
      rw [hc]
      unfold hexD
      rw [if_pos (by omega)]
      omega
theorem dec_upto (u : Nat) : ∀ k, 1 ≤ k → u < 10 ^ k → (Lib.decDigits u).length ≤ k := by
  induction u using Nat.strongRecOn with
  | ind u ih =>
    intro k hk hu
    by_cases h : u < 10
    · rw [Lib.decDigits_one h]
      exact hk
    · rw [Lib.decDigits, dif_neg h, List.length_append]
      obtain ⟨q, rfl⟩ : ∃ q, k = q + 1 := ⟨k - 1, by omega⟩
      rw [Nat.pow_succ] at hu
      have hq : 1 ≤ q := by
        cases q with
        | zero => omega
        | succ q => omega
      have := ih (u / 10) (by omega) q hq (by omega)
      simp only [List.length_cons, List.length_nil]
      omega
theorem dig_dec (u : Nat) (h : u ≤ 1099511627776) : digP 10 (Lib.decDigits u) = ((u : Int), true) := by
  have hok : digsOK 10 (Lib.decDigits u) = true := by
    unfold digsOK
    have hne := dec_ne u
    have hall : (Lib.decDigits u).all (fun c => if (10 : Nat) = 16 then isHex c.toNat else isDec c.toNat) = true := by
      rw [List.all_eq_true]
      intro c hc
      have := dec_digit u c hc
      rw [if_neg (by decide)]
      simp [isDec]
      omega
    rw [hall]
    simp [hne]
  unfold digP
  rw [if_pos hok, num_dec, if_pos h]
theorem no_0x (l : List UInt8) (h : (120 : UInt8) ∉ l) : Lib.hasPrefix l [48, 120] = false := by
  cases hs : Lib.hasPrefix l [48, 120] with
  | false => rfl
  | true =>
    have h1 : [48, 120] <+: l := List.isPrefixOf_iff_prefix.1 hs
    exact absurd (h1.subset (by simp)) h
theorem no_sign (l : List UInt8) (h : (45 : UInt8) ∉ l) : Lib.hasPrefix l [45] = false := by
  cases hs : Lib.hasPrefix l [45] with
  | false => rfl
  | true =>
    have h1 : [45] <+: l := List.isPrefixOf_iff_prefix.1 hs
    exact absurd (h1.subset (by simp)) h
theorem dec_no (u : Nat) (c : UInt8) (hc : c.toNat < 48 ∨ 57 < c.toNat) : c ∉ Lib.decDigits u := fun h => by
  have := dec_digit u c h
  omega
theorem val_dec (u : Nat) (h : u < 10000000000) : valP (Lib.decDigits u) = ((u : Int), true) := by
  have hl := dec_upto u 10 (by omega) (by omega)
  have hns : Lib.hasPrefix (Lib.decDigits u) [45] = false := no_sign _ (dec_no u 45 (.inl (by decide)))
  have hn0 : Lib.hasPrefix (Lib.decDigits u) [48, 120] = false := no_0x _ (dec_no u 120 (.inr (by decide)))
  have ht : Lib.trimPrefix (Lib.decDigits u) [45] = Lib.decDigits u := by unfold Lib.trimPrefix; rw [hns]; rfl
  unfold valP
  rw [if_neg (by omega), hn0, hns, ht, dig_dec u (by omega)]
  rfl
theorem val_itoa (n : Int) (h0 : -1000000 < n) (h1 : n < 10000000000) : valP (Lib.itoa n) = (n, true) := by
  unfold Lib.itoa
  split
  · rename_i hn
    have hl := dec_upto n.natAbs 6 (by omega) (by omega)
    have hn0 : Lib.hasPrefix (45 :: Lib.decDigits n.natAbs) [48, 120] = false := by simp [Lib.hasPrefix, List.isPrefixOf]
    have hns : Lib.hasPrefix (45 :: Lib.decDigits n.natAbs) [45] = true := by simp [Lib.hasPrefix, List.isPrefixOf]
    have ht : Lib.trimPrefix (45 :: Lib.decDigits n.natAbs) [45] = Lib.decDigits n.natAbs := by unfold Lib.trimPrefix; rw [hns]; rfl
    unfold valP
    rw [if_neg (by rw [List.length_cons]; omega), hn0, hns, ht, dig_dec _ (by omega)]
    simp
    omega
  · rename_i hn
    rw [val_dec n.toNat (by omega)]
    simp
    omega
theorem opd_reg (n : Int) (h0 : 0 ≤ n) (h1 : n ≤ 15) : opd regK (regT n) = .val n := by
  unfold opd
  rw [if_pos (show regK.reg = true from rfl), reg_back n h0 h1, if_neg (by omega)]
theorem opd_num (k : Kind) (n : Int) (hr : k.reg = false) (hn : k.number = true) (hlo : k.lo ≤ n) (hhi : n ≤ k.hi) (l : List UInt8) (hv : valP l = (n, true)) : opd k l = .val n := by
  unfold opd
  rw [if_neg (by rw [hr]; decide), hv, if_pos ⟨hn, rfl⟩, if_neg (by simp only; omega)]
/-- The values of an instruction's fields, in the text's order. -/
def valsT (i : Ins) : List Int :=
  let u := usesOf (formOf i.op)
  (((if u.a then [i.a] else []) ++ (if u.b then [i.b] else [])) ++ (if u.c then [i.c] else [])) ++ (if u.imm then [i.imm] else [])
theorem vals_back (i : Ins) (hc : checkC i = 0) : insOf i.op (valsT i) = i := by
  obtain ⟨hf, ha, hb, hcc, hl, hh⟩ := check_fields i hc
  unfold insOf valsT
  simp only
  generalize usesOf (formOf i.op) = u at *
  obtain ⟨ua, ub, uc, ui, us⟩ := u
  obtain ⟨op, a, b, c, imm⟩ := i
  simp only at ha hb hcc hl hh ⊢
  have za : ua = false → a = 0 := fun h => by rw [h] at ha; simpa [fitsB] using ha
  have zb : ub = false → b = 0 := fun h => by rw [h] at hb; simpa [fitsB] using hb
  have zc : uc = false → c = 0 := fun h => by rw [h] at hcc; simpa [fitsB] using hcc
  have zi : ui = false → imm = 0 := fun h => by
    subst h
    simp only [Uses.lo, Uses.hi, Bool.false_eq_true, if_false] at hl hh
    omega
  clear ha hb hcc hl hh hc hf
  cases ua <;> cases ub <;> cases uc <;> cases ui
  all_goals simp at za zb zc zi
  all_goals simp_all
theorem ops_print (i : Ins) (hc : checkC i = 0) (at_ : Nat) (num : Int) (ls : List Late) : opsP at_ num ((kindsP (.ins i.op)).zip (fieldsT i)) [] ls = (valsT i, ls, 0) ∧ (fieldsT i).length = (kindsP (.ins i.op)).length := by
  obtain ⟨hf, ha, hb, hcc, hl, hh⟩ := check_fields i hc
  obtain ⟨_, _, a0, a1, b0, b1, c0, c1, m0, m1⟩ := check_ok i hc
  have ra := opd_reg i.a a0 a1
  have rb := opd_reg i.b b0 b1
  have rc := opd_reg i.c c0 c1
  have ri : ∀ j, opd (immK (usesOf (formOf i.op)).lo (usesOf (formOf i.op)).hi j) (Lib.itoa i.imm) = .val i.imm := fun j => opd_num _ i.imm rfl rfl hl hh _ (val_itoa i.imm (by omega) (by omega))
  unfold kindsP fieldsT valsT
  simp only
  generalize (decide (48 ≤ i.op) && decide (i.op ≤ 54)) = j
  have ri := ri j
  generalize (usesOf (formOf i.op)).lo = lo at ri ⊢
  generalize (usesOf (formOf i.op)).hi = hi at ri ⊢
  generalize usesOf (formOf i.op) = u
  obtain ⟨ua, ub, uc, ui, us⟩ := u
  clear hf ha hb hcc hl hh a0 a1 b0 b1 c0 c1 m0 m1
  cases ua <;> cases ub <;> cases uc <;> cases ui
  all_goals simp [opsP, ra, rb, rc, ri]
theorem stm_word (op : Int) (h : formOf op ≠ 0) : stmP (opRow op).word = .ins op := by
  have ht : table.all (fun r => decide (stmP r.word = .ins r.op)) = true := by decide +kernel
  unfold formOf opRow look at h
  unfold opRow look
  cases hf : table.find? (fun r => r.op == op) with
  | none => rw [hf] at h; exact absurd rfl h
  | some r =>
    have := List.all_eq_true.1 ht r (List.mem_of_find?_eq_some hf)
    have hop := List.find?_some hf
    simp only [decide_eq_true_eq, beq_iff_eq] at this hop
    rw [Option.getD_some, this, hop]

/-- A line of one statement without a label. -/
theorem line_one (num : Int) (l : List UInt8) (st : Src) (x : List UInt8) (ops : List (List UInt8)) (stm : Stm) (hf : fieldsL l = (x :: ops).map fun (l : List UInt8) => (⟨l.toArray⟩ : ByteArray)) (hs : Lib.hasSuffix x [58] = false)
    (hk : stmP x = stm) (hb : stm ≠ .bad) (hl : ops.length = (kindsP stm).length) :
    lineP num l st = match opsP st.words.length num ((kindsP stm).zip ops) [] st.lates with
      | (vs, lts, c) => if c ≠ 0 then (st, c)
        else if 512 < st.words.length + (buildP stm vs).length then (st, 11)
        else ({ words := st.words ++ buildP stm vs, labels := st.labels, lates := lts }, 0) := by
  have h1 : labelsP (4 * (st.words.length : Int)) (fieldsL l) st.labels = (0, st.labels, (x :: ops).map fun (l : List UInt8) => (⟨l.toArray⟩ : ByteArray)) := by
    rw [hf, List.map_cons, labelsP, if_neg (by show ¬ Lib.hasSuffix x [58] = true; rw [hs]; decide)]
  have h2 : (ops.map fun (l : List UInt8) => (⟨l.toArray⟩ : ByteArray)).map (fun s => s.data.toList) = ops := by
    rw [List.map_map]
    conv => rhs; rw [← List.map_id ops]
    exact List.map_congr_left fun y _ => by simp
  unfold lineP
  rw [h1]
  simp only
  rw [if_neg (by decide), List.map_cons]
  unfold restP
  simp only
  rw [hk, h2, if_neg (by rintro (h | h); exact hb h; exact h (by rw [List.length_map]; exact hl))]
def lineT (n : Int) : List UInt8 := if decC n = 0 then printT (decI n) else wWord ++ 32 :: Lib.decDigits n.toNat
theorem line_print (i : Ins) (hc : checkC i = 0) (num : Int) (st : Src) : lineP num (printT i) st = if 512 < st.words.length + 1 then (st, 11) else ({ words := st.words ++ [encR i], labels := st.labels, lates := st.lates }, 0) := by
  have hne := (check_fields i hc).1
  obtain ⟨h1, h2⟩ := ops_print i hc st.words.length num st.lates
  rw [line_one num _ st _ _ (.ins i.op) (fields_print i hc) (no_colon (word_okb i.op hne)) (stm_word i.op hne) (by simp) h2, h1]
  simp only
  rw [if_neg (by decide), show buildP (.ins i.op) (valsT i) = [encR i] by show [encR (insOf i.op (valsT i))] = [encR i]; rw [vals_back i hc]]
  rfl
theorem word_pieces (u : Nat) : ∀ l ∈ [wWord, Lib.decDigits u], PlainW l := by
  intro l hl
  simp only [List.mem_cons, List.not_mem_nil, or_false] at hl
  rcases hl with rfl | rfl
  · refine plain_of (by decide) (fun c hc => ?_)
    have h : wWord.all (fun c => decide (c.toNat = 46 ∨ (97 ≤ c.toNat ∧ c.toNat ≤ 122))) = true := by decide
    have := List.all_eq_true.1 h c hc
    simp only [decide_eq_true_eq] at this
    rcases this with h | h
    · exact .inr (.inl h)
    · exact .inr (.inr (.inr h))
  · exact plain_of (dec_ne u) (dec_okb u)
theorem word_join (u : Nat) : wWord ++ 32 :: Lib.decDigits u = Lib.join [wWord, Lib.decDigits u] [32] := by
  rw [Lib.join_cons]
  simp [Lib.joinTail]
theorem line_word (n : Int) (h0 : 0 ≤ n) (h1 : n < 4294967296) (num : Int) (st : Src) : lineP num (wWord ++ 32 :: Lib.decDigits n.toNat) st = if 512 < st.words.length + 1 then (st, 11) else ({ words := st.words ++ [n], labels := st.labels, lates := st.lates }, 0) := by
  obtain ⟨u, rfl⟩ := Int.eq_ofNat_of_zero_le h0
  have hu : u < 10000000000 := by omega
  rw [Int.toNat_natCast, word_join]
  have hop : opd (numK (-2147483648) 4294967295) (Lib.decDigits u) = .val u := opd_num _ u rfl rfl (by simp only [numK]; omega) (by simp only [numK]; omega) _ (val_dec u hu)
  rw [line_one num _ st wWord [Lib.decDigits u] .word (fields_joined _ _ (word_pieces u)) (by decide) (by decide +kernel) (by decide) rfl]
  simp only [kindsP, List.zip_cons_cons, List.zip_nil_left, opsP, hop, List.nil_append]
  rw [if_neg (by decide)]
  have hb : buildP .word [(u : Int)] = [(u : Int)] := by
    simp only [buildP, List.getD_cons_zero]
    rw [Int.emod_eq_of_lt h0 h1]
  rw [hb]
  rfl
theorem line_list (n : Int) (h0 : 0 ≤ n) (h1 : n < 4294967296) (num : Int) (st : Src) : lineP num (lineT n) st = if 512 < st.words.length + 1 then (st, 11) else ({ words := st.words ++ [n], labels := st.labels, lates := st.lates }, 0) := by
  unfold lineT
  split
  · rename_i hd
    obtain ⟨hc, he, _⟩ := dec_bits n hd
    rw [line_print _ hc, he]
  · exact line_word n h0 h1 num st
theorem line_nil (num : Int) (st : Src) : lineP num [] st = (st, 0) := by
  have hf : fieldsL [] = [] := by decide +kernel
  unfold lineP
  rw [hf]
  rfl
def listT (ws : List Int) : List UInt8 := textL (ws.map lineT)
def bytesL (ls : List (List UInt8)) : List ByteArray := ls.map fun (l : List UInt8) => (⟨l.toArray⟩ : ByteArray)
theorem asm_step (i : Nat) (l : List UInt8) (r : List (List UInt8)) (st : Src) : asmLines i (bytesL (l :: r)) st = if (lineP ((i : Int) + 1) l st).2 ≠ 0 then (st, some (i + 1, (lineP ((i : Int) + 1) l st).2)) else asmLines (i + 1) (bytesL r) (lineP ((i : Int) + 1) l st).1 := rfl
theorem asm_end (i : Nat) (st : Src) : asmLines i (bytesL [[]]) st = (st, none) := by
  rw [asm_step, line_nil]
  rfl
def Word32 (ws : List Int) : Prop := ∀ x ∈ ws, 0 ≤ x ∧ x < 4294967296
theorem asm_words : ∀ (ws : List Int) (i : Nat) (st : Src), Word32 ws → st.words.length + ws.length ≤ 512 → asmLines i (bytesL (ws.map lineT ++ [[]])) st = ({ st with words := st.words ++ ws }, none)
  | [], i, st, _, _ => by
    rw [List.map_nil, List.nil_append, asm_end, List.append_nil]
  | n :: ws, i, st, h, hl => by
    obtain ⟨n0, n1⟩ := h n (by simp)
    rw [List.length_cons] at hl
    have hf : ¬ 512 < st.words.length + 1 := by omega
    rw [List.map_cons, List.cons_append, asm_step, line_list n n0 n1, if_neg hf, if_neg (by simp)]
    rw [asm_words ws (i + 1) _ (fun x hx => h x (by simp [hx])) (by simp only [List.length_append, List.length_cons, List.length_nil]; omega)]
    simp
theorem asm_many : ∀ (ws : List Int) (i : Nat) (st : Src), Word32 ws → st.words.length ≤ 512 → 512 < st.words.length + ws.length → (asmLines i (bytesL (ws.map lineT ++ [[]])) st).2 = some (i + (512 - st.words.length) + 1, 11)
  | [], i, st, _, h1, h2 => by
    rw [List.length_nil] at h2
    omega
  | n :: ws, i, st, h, h1, h2 => by
    obtain ⟨n0, n1⟩ := h n (by simp)
    rw [List.length_cons] at h2
    rw [List.map_cons, List.cons_append, asm_step, line_list n n0 n1]
    by_cases hf : 512 < st.words.length + 1
    · rw [if_pos hf, if_pos (by simp)]
      simp only
      congr 2
      omega
    · rw [if_neg hf, if_neg (by simp)]
      rw [asm_many ws (i + 1) _ (fun x hx => h x (by simp [hx])) (by simp only [List.length_append, List.length_cons, List.length_nil]; omega) (by simp only [List.length_append, List.length_cons, List.length_nil]; omega)]
      simp only [List.length_append, List.length_cons, List.length_nil]
      congr 2
      omega
theorem line_noend (n : Int) : (10 : UInt8) ∉ lineT n := by
  intro h
  unfold lineT at h
  split at h
  · rename_i hd
    obtain ⟨hc, _⟩ := dec_bits n hd
    rcases join_mem 10 _ _ 10 h with h1 | ⟨l, hl, hm⟩
    · exact absurd h1 (by decide)
    · exact (pieces_okb _ hc l hl 10 hm).plain.2.2.2 rfl
  · rcases List.mem_append.1 h with h | h
    · exact absurd h (by decide)
    · rcases List.mem_cons.1 h with h | h
      · exact absurd h (by decide)
      · exact (dec_okb _ 10 h).plain.2.2.2 rfl
theorem list_lines (ws : List Int) : linesL ⟨(listT ws).toArray⟩ = bytesL (ws.map lineT ++ [[]]) :=
  lines_text (ws.map lineT) (fun l hl => by
    obtain ⟨n, _, rfl⟩ := List.mem_map.1 hl
    exact line_noend n)
/-- A LISTING ASSEMBLES TO ITS WORDS. -/
theorem list_back (ws : List Int) (h : Word32 ws) : asmP ⟨(listT ws).toArray⟩ = if ws.length ≤ 512 then (ws, none) else ([], some (513, 11)) := by
  unfold asmP
  rw [list_lines]
  by_cases hl : ws.length ≤ 512
  · rw [asm_words ws 0 ⟨[], [], []⟩ h (by simp only [List.length_nil]; omega), if_pos hl]
    simp only [patchP, List.nil_append]
  · have hm := asm_many ws 0 ⟨[], [], []⟩ h (by simp) (by simp only [List.length_nil]; omega)
    rw [if_neg hl]
    generalize asmLines 0 (bytesL (ws.map lineT ++ [[]])) ⟨[], [], []⟩ = q at hm
    obtain ⟨st, e⟩ := q
    simp only at hm
    subst hm
    rfl
theorem reg_tight (n : Int) (_h0 : 0 ≤ n) (h1 : n ≤ 15) : (regT n).length ≤ 3 := by
  have := dec_upto n.toNat 2 (by omega) (by omega)
  unfold regT
  rw [List.length_cons]
  omega
theorem itoa_tight (n : Int) (h0 : -32768 ≤ n) (h1 : n ≤ 65535) : (Lib.itoa n).length ≤ 6 := by
  unfold Lib.itoa
  split
  · have := dec_upto n.natAbs 5 (by omega) (by omega)
    rw [List.length_cons]
    omega
  · have := dec_upto n.toNat 5 (by omega) (by omega)
    omega
theorem print_tight (i : Ins) (hc : checkC i = 0) : (printT i).length ≤ 40 := by
  obtain ⟨_, _, a0, a1, b0, b1, c0, c1, m0, m1⟩ := check_ok i hc
  have ha := reg_tight i.a a0 a1
  have hb := reg_tight i.b b0 b1
  have hcc := reg_tight i.c c0 c1
  have hm := itoa_tight i.imm m0 m1
  have hw := word_len i.op
  unfold printT
  rw [Lib.join_cons]
  unfold fieldsT
  simp only
  generalize regT i.a = A at ha
  generalize regT i.b = B at hb
  generalize regT i.c = C at hcc
  generalize Lib.itoa i.imm = M at hm
  generalize (opRow i.op).word = W at hw
  generalize usesOf (formOf i.op) = u
  obtain ⟨ua, ub, uc, ui, us⟩ := u
  cases ua <;> cases ub <;> cases uc <;> cases ui <;> simp [Lib.joinTail] <;> omega
theorem line_len (n : Int) (h0 : 0 ≤ n) (h1 : n < 4294967296) : (lineT n).length ≤ 40 := by
  unfold lineT
  split
  · rename_i hd
    obtain ⟨hc, _⟩ := dec_bits n hd
    exact print_tight _ hc
  · have := dec_upto n.toNat 10 (by omega) (by omega)
    simp only [List.length_append, List.length_cons]
    have e : wWord.length = 5 := rfl
    omega
theorem list_snoc (ws : List Int) (n : Int) : listT (ws ++ [n]) = listT ws ++ (lineT n ++ [10]) := by
  unfold listT textL
  rw [List.map_append, List.flatMap_append]
  simp
theorem list_len (ws : List Int) (h : Word32 ws) : (listT ws).length ≤ ws.length * 41 := by
  induction ws with
  | nil => exact Nat.le_refl 0
  | cons n ws ih =>
    have hn := h n (by simp)
    have h1 := line_len n hn.1 hn.2
    have h2 := ih (fun x hx => h x (by simp [hx]))
    have e : listT (n :: ws) = lineT n ++ [10] ++ listT ws := by
      unfold listT textL
      simp
    rw [e]
    simp only [List.length_append, List.length_cons, List.length_nil]
    omega
end Go.Proofs.YtecmeegnjjhilaaGreatDoor
