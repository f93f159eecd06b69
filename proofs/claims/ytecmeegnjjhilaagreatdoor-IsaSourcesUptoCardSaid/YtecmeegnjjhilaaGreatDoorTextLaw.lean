/- The plain law of printing and reading: what is printed is read back. -/
import Derived.Test.YtecmeegnjjhilaaGreatDoorParse
import Derived.Test.YtecmeegnjjhilaaGreatDoorRefEM
namespace Go.Proofs.YtecmeegnjjhilaaGreatDoor
open Go.RowKit

theorem index_no (c : UInt8) : ∀ l : List UInt8, c ∉ l → Lib.index l [c] = -1
  | [], _ => by simp [Lib.index]
  | b :: l, h => by
    have hb : b ≠ c := fun e => h (by simp [e])
    have hp : ([c] : List UInt8).isPrefixOf (b :: l) = false := by simp [List.isPrefixOf, Ne.symm hb]
    have ih := index_no c l (fun e => h (by simp [e]))
    rw [Lib.index, hp, ih]
    simp
theorem index_at (c : UInt8) (r : List UInt8) : ∀ l : List UInt8, c ∉ l → Lib.index (l ++ c :: r) [c] = l.length
  | [], _ => by rw [List.nil_append, Lib.index]; simp [List.isPrefixOf]
  | b :: l, h => by
    have hb : b ≠ c := fun e => h (by simp [e])
    have hp : ([c] : List UInt8).isPrefixOf (b :: (l ++ c :: r)) = false := by simp [List.isPrefixOf, Ne.symm hb]
    have ih := index_at c r l (fun e => h (by simp [e]))
    rw [List.cons_append, Lib.index, hp, ih]
    simp
theorem words_one (l : List UInt8) (h : (32 : UInt8) ∉ l) : wordsS ⟨l.toArray⟩ = [⟨l.toArray⟩] := by
  unfold wordsS
  refine Lib.splitB_miss _ _ _ _ ?_
  exact index_no 32 l h
theorem words_hit (l r : List UInt8) (h : (32 : UInt8) ∉ l) : wordsS ⟨(l ++ 32 :: r).toArray⟩ = ⟨l.toArray⟩ :: wordsS ⟨r.toArray⟩ := by
  have hi : Lib.indexB ⟨(l ++ 32 :: r).toArray⟩ ⟨#[32]⟩ = (l.length : Nat) := index_at 32 r l h
  have e1 : (⟨(l ++ 32 :: r).toArray⟩ : ByteArray).extract (l.length + 1) (⟨(l ++ 32 :: r).toArray⟩ : ByteArray).size = ⟨r.toArray⟩ := by
    apply bytes_eq
    rw [Lib.extract_to_end]
    simp
  have e0 : (⟨(l ++ 32 :: r).toArray⟩ : ByteArray).extract 0 (l.length + 0) = ⟨l.toArray⟩ := by
    apply bytes_eq
    rw [Lib.extract_from_zero]
    simp
  unfold wordsS
  rw [Lib.countB_hit _ _ l.length (by decide) hi, Nat.add_comm, Lib.splitB_hit _ _ _ _ l.length hi, e0]
  rw [show ((⟨#[32]⟩ : ByteArray).size) = 1 from rfl, e1]
theorem words_join : ∀ (r : List (List UInt8)) (x : List UInt8), (∀ l ∈ x :: r, (32 : UInt8) ∉ l) → wordsS ⟨(Lib.join (x :: r) [32]).toArray⟩ = (x :: r).map fun (l : List UInt8) => (⟨l.toArray⟩ : ByteArray)
  | [], x, h => by rw [Lib.join_one, words_one x (h x (by simp))]; rfl
  | y :: r, x, h => by
    have ih := words_join r y (fun l hl => h l (by simp at hl ⊢; right; exact hl))
    have e : Lib.join (x :: y :: r) [32] = x ++ 32 :: Lib.join (y :: r) [32] := by
      rw [Lib.join_cons, Lib.join_cons]
      simp [Lib.joinTail]
    rw [e, words_hit x _ (h x (by simp)), ih]
    rfl

/-- One digit more. -/
theorem parse_snoc (c : UInt8) (hc : 48 ≤ c.toNat ∧ c.toNat ≤ 57) : ∀ (l : List UInt8) (acc v : Nat), v < 1000000000000 → Lib.parseUint10 acc l = .ok v → Lib.parseUint10 acc (l ++ [c]) = .ok (v * 10 + (c.toNat - 48))
  | [], acc, v, hv, h => by
    simp only [Lib.parseUint10] at h
    injection h with h
    subst h
    rw [List.nil_append, Lib.parseUint10, if_pos hc, if_neg (by omega), if_neg (by omega)]
    rfl
  | b :: l, acc, v, hv, h => by
    rw [List.cons_append]
    unfold Lib.parseUint10 at h ⊢
    split at h
    · rename_i hb
      rw [if_pos hb]
      split at h
      · cases h
      · rename_i h1
        rw [if_neg h1]
        split at h
        · cases h
        · rename_i h2
          rw [if_neg h2]
          exact parse_snoc c hc l _ v hv h
    · cases h
theorem dec_parse (u : Nat) : u < 1000000000 → Lib.parseUint10 0 (Lib.decDigits u) = .ok u := by
  induction u using Nat.strongRecOn with
  | ind u ih =>
    intro hu
    by_cases h : u < 10
    · rw [Lib.decDigits_one h]
      have hc : (UInt8.ofNat (48 + u)).toNat = 48 + u := by simp [UInt8.toNat_ofNat']; omega
      unfold Lib.parseUint10
      rw [hc, if_pos (by omega), if_neg (by omega), if_neg (by omega)]
      simp only [Lib.parseUint10]
      congr 1
      omega
    · rw [Lib.decDigits, dif_neg h]
      have hc : (UInt8.ofNat (48 + u % 10)).toNat = 48 + u % 10 := by simp [UInt8.toNat_ofNat']; omega
      rw [parse_snoc _ (by rw [hc]; omega) _ 0 (u / 10) (by omega) (ih (u / 10) (by omega) (by omega)), hc]
      congr 1
      omega
theorem dec_ne (u : Nat) : Lib.decDigits u ≠ [] := by
  rw [Lib.decDigits]
  split <;> simp
theorem dec_digit (u : Nat) : ∀ c ∈ Lib.decDigits u, 48 ≤ c.toNat ∧ c.toNat ≤ 57 := by
  induction u using Nat.strongRecOn with
  | ind u ih =>
    intro c hc
    by_cases h : u < 10
    · rw [Lib.decDigits_one h] at hc
      simp only [List.mem_cons, List.not_mem_nil, or_false] at hc
      subst hc
      simp [UInt8.toNat_ofNat']; omega
    · rw [Lib.decDigits, dif_neg h] at hc
      rcases List.mem_append.1 hc with hc | hc
      · exact ih (u / 10) (by omega) c hc
      · simp only [List.mem_cons, List.not_mem_nil, or_false] at hc
        subst hc
        simp [UInt8.toNat_ofNat']; omega
theorem dec_mag (u : Nat) (h : u < 1000000000) : Lib.parseMag (Lib.decDigits u) = .ok u := by
  unfold Lib.parseMag
  rw [if_neg (dec_ne u), dec_parse u h]
theorem itoa_parse (n : Int) (h0 : -1000000 < n) (h1 : n < 1000000) : Lib.atoiAll (Lib.itoa n) = .ok n := by
  unfold Lib.itoa
  split
  · rename_i hn
    unfold Lib.atoiAll
    simp only
    rw [if_pos (by right; decide), dec_mag n.natAbs (by omega)]
    simp only
    rw [if_neg (by simp), if_neg (by simp; omega), if_pos (by decide)]
    congr 1
    omega
  · rename_i hn
    cases hd : Lib.decDigits n.toNat with
    | nil => exact absurd hd (dec_ne _)
    | cons c r =>
      have hc := dec_digit n.toNat c (by rw [hd]; simp)
      unfold Lib.atoiAll
      simp only
      rw [if_neg (by omega), ← hd, dec_mag n.toNat (by omega)]
      simp only
      rw [if_neg (by omega), if_neg (by omega), if_neg (by omega)]
      congr 1
      omega
theorem reg_back (n : Int) (h0 : 0 ≤ n) (h1 : n ≤ 15) : regP (regT n) = n := by
  have h : ([0, 1, 2, 3, 4, 5, 6, 7, 8, 9, 10, 11, 12, 13, 14, 15] : List Int).all (fun n => regP (regT n) == n) = true := by decide +kernel
  have := List.all_eq_true.1 h n (by simp; omega)
  simpa using this
/-- The pieces of a print: none is empty, none holds a blank. -/
def Piece (l : List UInt8) : Prop := (32 : UInt8) ∉ l ∧ l ≠ []
theorem piece_word (op : Int) (h : formOf op ≠ 0) : Piece (opRow op).word := by
  have ht : table.all (fun r => decide ((32 : UInt8) ∉ r.word) && decide (r.word ≠ [])) = true := by decide +kernel
  unfold formOf opRow look at h
  unfold opRow look
  cases hf : table.find? (fun r => r.op == op) with
  | none => rw [hf] at h; exact absurd rfl h
  | some r =>
    have := List.all_eq_true.1 ht r (List.mem_of_find?_eq_some hf)
    simp only [Bool.and_eq_true, decide_eq_true_eq] at this
    exact this
theorem piece_dec (u : Nat) (b : UInt8) (hb : b ≠ 32) : Piece (b :: Lib.decDigits u) := by
  refine ⟨fun h => ?_, by simp⟩
  rcases List.mem_cons.1 h with h | h
  · exact hb h.symm
  · have := dec_digit u 32 h
    have e : (32 : UInt8).toNat = 32 := rfl
    omega
theorem piece_itoa (n : Int) : Piece (Lib.itoa n) := by
  unfold Lib.itoa
  split
  · exact piece_dec _ 45 (by decide)
  · refine ⟨fun h => ?_, dec_ne _⟩
    have := dec_digit _ 32 h
    have e : (32 : UInt8).toNat = 32 := rfl
    omega
theorem piece_field (i : Ins) : ∀ x ∈ fieldsT i, Piece x := by
  intro x hx
  unfold fieldsT at hx
  simp only [List.mem_append] at hx
  rcases hx with ((hx | hx) | hx) | hx
  all_goals
    split at hx
    · simp only [List.mem_cons, List.not_mem_nil, or_false] at hx
      rw [hx]
      first | exact piece_dec _ 114 (by decide) | exact piece_itoa _
    · cases hx
theorem pieces (i : Ins) (hc : checkC i = 0) : ∀ l ∈ (opRow i.op).word :: fieldsT i, Piece l := by
  intro l hl
  rcases List.mem_cons.1 hl with rfl | hl
  · exact piece_word i.op (check_fields i hc).1
  · exact piece_field i l hl
theorem join_ends : ∀ (r : List (List UInt8)) (x : List UInt8), (∀ l ∈ x :: r, Piece l) → (Lib.join (x :: r) [32]).head? ≠ some 32 ∧ (Lib.join (x :: r) [32]).getLast? ≠ some 32
  | [], x, h => by
    have hx := h x (by simp)
    rw [Lib.join_one]
    refine ⟨fun e => hx.1 (List.mem_of_head? e), fun e => hx.1 (List.mem_of_getLast? e)⟩
  | y :: r, x, h => by
    have ih := join_ends r y (fun l hl => h l (by simp at hl ⊢; right; exact hl))
    have hx := h x (by simp)
    have e : Lib.join (x :: y :: r) [32] = x ++ 32 :: Lib.join (y :: r) [32] := by
      rw [Lib.join_cons, Lib.join_cons]
      simp [Lib.joinTail]
    rw [e]
    refine ⟨fun e1 => ?_, fun e1 => ?_⟩
    · cases x with
      | nil => exact hx.2 rfl
      | cons b x =>
        simp only [List.cons_append, List.head?_cons, Option.some.injEq] at e1
        exact hx.1 (by simp [e1])
    · have hne : Lib.join (y :: r) [32] ≠ [] := by
        rw [Lib.join_cons]
        have hy := (h y (by simp)).2
        intro h0
        exact hy (List.append_eq_nil_iff.1 h0).1
      have hs : ∃ v, (Lib.join (y :: r) [32]).getLast? = some v := by
        cases h : (Lib.join (y :: r) [32]).getLast? with
        | none => exact absurd (List.getLast?_eq_none_iff.1 h) hne
        | some v => exact ⟨v, rfl⟩
      obtain ⟨v, hv⟩ := hs
      rw [List.getLast?_append, List.getLast?_cons, hv] at e1
      simp at e1
      exact ih.2 (by rw [hv, e1])
/-- WHAT IS PRINTED IS READ BACK. -/
theorem parse_back (i : Ins) (hc : checkC i = 0) (s : ByteArray) (hs : s.data.toList = printT i) : parseP s = (i, 0) := by
  obtain rfl : s = ⟨(printT i).toArray⟩ := bytes_eq (by rw [hs])
  obtain ⟨hf, ha, hb, hcc, hl, hh⟩ := check_fields i hc
  obtain ⟨_, _, a0, a1, b0, b1, c0, c1, m0, m1⟩ := check_ok i hc
  have hw : wordsS ⟨(printT i).toArray⟩ = ((opRow i.op).word :: fieldsT i).map fun (l : List UInt8) => (⟨l.toArray⟩ : ByteArray) := words_join (fieldsT i) _ (fun l hl => (pieces i hc l hl).1)
  have hop : (wordRow (opRow i.op).word).op = i.op := name_back i.op hf
  have hraw : parseRaw ⟨(printT i).toArray⟩ = some i := by
    unfold parseRaw
    rw [hw]
    have h1 : hd (((opRow i.op).word :: fieldsT i).map fun (l : List UInt8) => (⟨l.toArray⟩ : ByteArray)) = (opRow i.op).word := rfl
    rw [h1, hop, if_neg (fun h => hf (by rw [h]; decide +kernel))]
    simp only [List.map_cons, List.tail_cons]
    unfold fieldsT
    generalize usesOf (formOf i.op) = u at *
    obtain ⟨ua, ub, uc, ui, us⟩ := u
    obtain ⟨op, a, b, c, imm⟩ := i
    simp only at ha hb hcc hl hh a0 a1 b0 b1 c0 c1 m0 m1 ⊢
    have ra : regP (regT a) = a := reg_back a a0 a1
    have rb : regP (regT b) = b := reg_back b b0 b1
    have rc : regP (regT c) = c := reg_back c c0 c1
    have ri : Lib.atoiAll (Lib.itoa imm) = .ok imm := itoa_parse imm (by omega) (by omega)
    have za : ua = false → a = 0 := fun h => by rw [h] at ha; simpa [fitsB] using ha
    have zb : ub = false → b = 0 := fun h => by rw [h] at hb; simpa [fitsB] using hb
    have zc : uc = false → c = 0 := fun h => by rw [h] at hcc; simpa [fitsB] using hcc
    have zi : ui = false → imm = 0 := fun h => by
      subst h
      simp only [Uses.lo, Uses.hi, Bool.false_eq_true, if_false] at hl hh
      omega
    clear ha hb hcc hl hh hw hop hf h1 hs
    cases ua <;> cases ub <;> cases uc <;> cases ui
    all_goals
      simp only [Bool.false_eq_true, if_false, if_true, List.nil_append, List.singleton_append, List.cons_append, List.append_nil, List.map_cons, List.map_nil, g0, g1, g2, immP, hd, List.headD_cons, List.tail_cons, ra, rb, rc, ri]
    all_goals first | rfl | simp_all
  unfold parseP
  rw [hraw]
  exact if_pos ⟨hc, rfl⟩
theorem parse_bad (s : ByteArray) (h : ∀ i, ¬ parseOk s i) : parseP s = (⟨0, 0, 0, 0, 0⟩, 18) := by
  unfold parseP parseS
  cases parseRaw s with
  | none => rfl
  | some i => exact if_neg (h i)
theorem parse_cases (s : ByteArray) : (parseOk s (parseP s).1 ∧ (parseP s).2 = 0) ∨ parseP s = (⟨0, 0, 0, 0, 0⟩, 18) := by
  unfold parseP parseS
  cases parseRaw s with
  | none => exact .inr rfl
  | some i =>
    simp only
    by_cases h : parseOk s i
    · rw [if_pos h]; exact .inl ⟨h, rfl⟩
    · rw [if_neg h]; exact .inr rfl
theorem print_ends (i : Ins) (hc : checkC i = 0) : (printT i).head? ≠ some 32 ∧ (printT i).getLast? ≠ some 32 := join_ends _ _ (pieces i hc)
end Go.Proofs.YtecmeegnjjhilaaGreatDoor
