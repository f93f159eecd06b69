/- isa.Print: the instruction as a text, or the error. -/
import Derived.Test.YtecmeegnjjhilaaGreatDoorText
namespace Go.Proofs.YtecmeegnjjhilaaGreatDoor
open Go.RowKit
open Go.Maps
def printT (i : Ins) : List UInt8 := Lib.join ((opRow i.op).word :: fieldsT i) [32]
theorem fields_ne (i : Ins) (hc : checkC i = 0) : 0 < (fieldsT i).length := by
  obtain ⟨hf, _⟩ := check_fields i hc
  obtain ⟨f0, f7⟩ := form_range i.op
  unfold fieldsT
  generalize formOf i.op = f at hf f0 f7
  have h : f = 1 ∨ f = 2 ∨ f = 3 ∨ f = 4 ∨ f = 5 ∨ f = 6 ∨ f = 7 := by omega
  rcases h with rfl | rfl | rfl | rfl | rfl | rfl | rfl <;> simp [usesOf]
theorem fields_le (i : Ins) : (fieldsT i).length ≤ 4 := by
  unfold fieldsT
  simp only [List.length_append]
  repeat' split
  all_goals simp
theorem regT_len (n : Int) (h0 : 0 ≤ n) (h1 : n ≤ 15) : (regT n).length ≤ 30 := by
  obtain ⟨m, rfl⟩ := Int.eq_ofNat_of_zero_le h0
  unfold regT
  rw [Int.toNat_natCast]
  by_cases h : m < 10
  · rw [Lib.decDigits_one h]; simp
  · rw [Lib.decDigits_two h (by omega)]; simp
theorem fields_len (i : Ins) (hc : checkC i = 0) : ∀ x ∈ fieldsT i, x.length ≤ 30 := by
  obtain ⟨_, _, a0, a1, b0, b1, c0, c1, m0, m1⟩ := check_ok i hc
  intro x hx
  unfold fieldsT at hx
  simp only [List.mem_append] at hx
  rcases hx with ((hx | hx) | hx) | hx
  all_goals
    split at hx
    · simp only [List.mem_cons, List.not_mem_nil, or_false] at hx
      rw [hx]
      first | exact regT_len _ a0 a1 | exact regT_len _ b0 b1 | exact regT_len _ c0 c1 | exact Nat.le_trans (Lib.itoa_length_le i.imm (by omega) (by omega)) (by decide)
    · cases hx
theorem tail_len : ∀ r : List (List UInt8), (∀ x ∈ r, x.length ≤ 30) → (Lib.joinTail [32] r).length ≤ r.length * 31
  | [], _ => by simp [Lib.joinTail]
  | x :: r, h => by
    have ih := tail_len r (fun y hy => h y (by simp [hy]))
    have hx := h x (by simp)
    unfold Lib.joinTail at ih ⊢
    simp only [List.map_cons, List.flatten_cons, List.length_append, List.length_cons, List.length_nil] at ih ⊢
    omega
theorem word_len (op : Int) : (opRow op).word.length ≤ 10 := by
  have ht : table.all (fun r => decide (r.word.length ≤ 10)) = true := by decide +kernel
  unfold opRow look
  cases h : table.find? (fun r => r.op == op) with
  | none => simp
  | some r =>
    have := List.all_eq_true.1 ht r (List.mem_of_find?_eq_some h)
    simpa using this
theorem print_len (i : Ins) (hc : checkC i = 0) : (printT i).length ≤ 200 := by
  unfold printT
  rw [Lib.join_cons, List.length_append]
  have h1 := word_len i.op
  have h2 := tail_len (fieldsT i) (fields_len i hc)
  have h3 := fields_le i
  omega

/-- The fields, with the slice's block. -/
theorem fields_at (i : Ins) (hc : checkC i = 0) (er : Nat → Addr) (w : World) (E : Env er w) :
    Calls Tryz.prog 54 #[.agg #[.bool (usesOf (formOf i.op)).a, .bool (usesOf (formOf i.op)).b, .bool (usesOf (formOf i.op)).c, .bool (usesOf (formOf i.op)).imm, .bool (usesOf (formOf i.op)).signed], i.val] w
      fun e w' => ∃ g cap, e = .returned (.slice (some ⟨g, 0, none⟩) (fieldsT i).length cap) ∧ (∀ j u, (strs (fieldsT i))[j]? = some u → w'.cell? ⟨g, j, none⟩ = some u) ∧ Below w.heap.size w w' ∧ g < w'.heap.size := by
  refine (fields_any i hc er w E).mono fun e w' ⟨v, he, ho, hb⟩ => ?_
  obtain ⟨g, cap, rfl, _, hlt⟩ := ho.form (fields_ne i hc)
  refine ⟨g, cap, he, fun j u hu => ?_, hb, hlt⟩
  have hj : j < (strs (fieldsT i)).length := (List.getElem?_eq_some_iff.1 hu).1
  rw [ho.cellAt j (by simpa [strs] using hj)]
  exact hu
theorem join_at (W : List UInt8) (F : List (List UInt8)) (n : Nat) (hn : F.length = n) (hlen : (Lib.join (W :: F) [32]).length ≤ 1000) (hF : n ≤ 10) (gg cap : Nat) (w : World) (hlt : gg < w.heap.size) (hcap : 1 + n ≤ cap)
    (hown : ∀ j u, ([Value.string ⟨W.toArray⟩] ++ strs F)[j]? = some u → w.cell? ⟨gg, j, none⟩ = some u) :
    Calls Tryz.prog 53 #[.slice (some ⟨gg, 0, none⟩) (1 + n) cap, .string ⟨#[32]⟩] w fun e w' => e = .returned (.string ⟨(Lib.join (W :: F) [32]).toArray⟩) ∧ Below w.heap.size w w' := by
  have hl : ((W :: F).map fun l => (⟨l.toArray⟩ : ByteArray)).length = 1 + n := by simp; omega
  have hm : (((W :: F).map fun l => (⟨l.toArray⟩ : ByteArray)).map (·.data.toList)) = W :: F := by simp [List.map_map, Function.comp_def]
  have := Tryz.strings_Join gg 0 cap ((W :: F).map fun l => (⟨l.toArray⟩ : ByteArray)) ⟨#[32]⟩ w ?_ hlt (by rw [hl]; omega) (by rw [hl]; exact hcap) (by rw [hm]; exact Nat.le_trans hlen (by decide))
  · rw [hl, hm] at this
    exact this
  · intro j x hx
    rw [Nat.zero_add]
    refine hown j (.string x) ?_
    cases j with
    | zero => simp at hx; subst hx; rfl
    | succ j =>
      simp only [List.map_cons, List.getElem?_cons_succ] at hx
      simp only [List.singleton_append, List.getElem?_cons_succ, strs]
      rw [List.getElem?_map] at hx ⊢
      cases hF : F[j]? with
      | none => rw [hF] at hx; cases hx
      | some y => rw [hF] at hx; simp only [Option.map_some, Option.some.injEq] at hx ⊢; rw [hx]

theorem own_cap {w : World} {base g n cap size : Nat} {e : TypeId} {xs : List Value} (h : w.ownsRow base e size (.slice (some ⟨g, 0, none⟩) n cap) n xs) : n ≤ cap := by
  rcases h.2 with ⟨h1, _⟩ | ⟨g', cap', cur, h1, _, _, hn, _⟩
  · cases h1
  · injection h1 with _ _ h1
    omega
theorem strs_length (F : List (List UInt8)) : (strs F).length = F.length := by simp [strs]
theorem strs_one (F : List (List UInt8)) : ∀ u ∈ strs F, u.oneCell' = true := by
  intro u hu
  obtain ⟨x, _, rfl⟩ := List.mem_map.1 hu
  rfl
set_option maxHeartbeats 2000000 in
set_option maxRecDepth 100000 in
theorem Print_any (i : Ins) (er : Nat → Addr) (w : World) (E : Env er w) :
    Calls Tryz.prog 22 #[i.val] w fun e w' => e = .returned (.tuple #[.string ⟨(if checkC i = 0 then printT i else []).toArray⟩, errV er (checkC i)]) ∧ Below w.heap.size w w' := by
  have HE := Lib.hid E
  have hbx : Below w.heap.size w (w.alloc (.cells #[.int .i64 i.op, .int .i64 i.a, .int .i64 i.b, .int .i64 i.c, .int .i64 i.imm] 27)) := (Below.refl _ _).alloc (Nat.le_refl _) _
  have hI := Blk.new w 27 #[.int .i64 i.op, .int .i64 i.a, .int .i64 i.b, .int .i64 i.c, .int .i64 i.imm]
  have HC := Lib.hid (Check_any i er _ (E.below hbx))
  have HFl := Lib.hid (fields_at i)
  have HFo := Lib.hid (fun W (h : Env er W) => Form_f er i.op W h)
  have HFm := Lib.hid (fun W => form_any (formOf i.op) W (form_range i.op).1 (form_range i.op).2)
  have HN := Lib.hid (fun W (h : Env er W) => Name_any i.op W h.space)
  have HJ := Lib.hid (fun (hc : checkC i = 0) => join_at (opRow i.op).word (fieldsT i) (fieldsT i).length rfl (Nat.le_trans (print_len i hc) (by decide)) (Nat.le_trans (fields_le i) (by decide)))
  have hne := fields_ne i
  have hle := fields_le i
  clear E
  unfold Ins.val at HC HFl ⊢
  unfold printT
  try simp only at HFl
  generalize usesOf (formOf i.op) = u at HFl HFm
  generalize formOf i.op = f at HFo HFm
  generalize (opRow i.op).word = X at HN HJ ⊢
  generalize Lib.join (X :: fieldsT i) [32] = PT at HJ ⊢
  generalize hnF0 : (fieldsT i).length = nF at HFl HJ hne hle
  generalize fieldsT i = F at HFl HJ hnF0
  have hnF := Lib.hid hnF0
  clear hnF0
  generalize checkC i = cd at HC HFl HJ hne ⊢
  obtain ⟨RT, hRT⟩ : ∃ RT, (if cd = 0 then PT else []) = RT := ⟨_, rfl⟩
  rw [hRT]
  have HRT := Lib.hid hRT
  clear hRT
  obtain ⟨op, a, b, c, imm⟩ := i
  obtain ⟨ua, ub, uc, ui, us⟩ := u
  try simp only at HC HFl HFo HFm HN hI hbx ⊢
  go_enter Tryz.func22, Tryz.ntmps22
  go_wp2_with fail
  refine HC.out.mono ?_
  rintro e w1 ⟨rfl, hb1⟩
  have hb01 : Below w.heap.size w w1 := hbx.trans (hb1.mono (by simp))
  have hI1 := hI.below hb1 (by simp)
  clear HC hbx hI hb1
  by_cases hc : cd = 0
  · subst hc
    obtain rfl : RT = PT := HRT.out.symm.trans (if_pos rfl)
    rw [errV_zero]
    clear HRT
    have hne0 := hne rfl
    have HFl0 := Lib.hid (HFl.out rfl er)
    have HJ0 := Lib.hid (HJ.out rfl)
    clear hne HFl HJ
    have k0 : w1.cell? ⟨w.heap.size, 0, none⟩ = some (.int .i64 op) := hI1.cell 0
    have hl1 := hI1.lt
    go_wp2_with fail
    refine (HFo.out _ (HE.out.below hb01)).mono ?_
    rintro e w2 ⟨rfl, hb2⟩
    have hb02 : Below w.heap.size w w2 := hb01.trans (hb2.mono hb01.size)
    have hI2 := hI1.below hb2 hI1.lt
    clear hb2 hI1 hb01 k0 hl1
    go_wp2_with fail
    refine (HFm.out _).mono ?_
    rintro e w3 ⟨rfl, hb3⟩
    have hb03 : Below w.heap.size w w3 := hb02.trans (hb3.mono hb02.size)
    have hI3 := (hI2.below hb3 hI2.lt).alloc (.cells #[.bool ua, .bool ub, .bool uc, .bool ui, .bool us] 83)
    have hU3 := Blk.new w3 83 #[.bool ua, .bool ub, .bool uc, .bool ui, .bool us]
    have hb04 := hb03.alloc hb03.size (.cells #[.bool ua, .bool ub, .bool uc, .bool ui, .bool us] 83)
    have hl3 : w.heap.size < w3.heap.size := Nat.lt_of_lt_of_le hI2.lt hb3.size
    clear hb3 hI2 hb02 hb03
    go_wp2_with fail
    generalize w3.alloc (.cells #[.bool ua, .bool ub, .bool uc, .bool ui, .bool us] 83) = w4 at hI3 hU3 hb04 ⊢
    have E4 : Env er w4.drew := HE.out.below (below_drewN hb04 1)
    obtain ⟨s0, hs, hz0, hz1, hz2⟩ := info_parts strinfo
    have hl4 : w.heap.size < w4.heap.size := hI3.lt
    have hl4b : w3.heap.size < w4.heap.size := hU3.lt
    have HS5 : Hid (∀ w5, Below w4.drew.heap.size w4.drew w5 → Blk w5 w.heap.size 27 #[.int .i64 op, .int .i64 a, .int .i64 b, .int .i64 c, .int .i64 imm] ∧ Blk w5 w3.heap.size 83 #[.bool ua, .bool ub, .bool uc, .bool ui, .bool us] ∧ Below w.heap.size w w5 ∧ w4.heap.size ≤ w5.heap.size ∧
        w5.cell? ⟨w.heap.size, 0, none⟩ = some (.int .i64 op) ∧ w5.cell? ⟨w.heap.size, 1, none⟩ = some (.int .i64 a) ∧ w5.cell? ⟨w.heap.size, 2, none⟩ = some (.int .i64 b) ∧ w5.cell? ⟨w.heap.size, 3, none⟩ = some (.int .i64 c) ∧ w5.cell? ⟨w.heap.size, 4, none⟩ = some (.int .i64 imm) ∧
        w5.cell? ⟨w3.heap.size, 0, none⟩ = some (.bool ua) ∧ w5.cell? ⟨w3.heap.size, 1, none⟩ = some (.bool ub) ∧ w5.cell? ⟨w3.heap.size, 2, none⟩ = some (.bool uc) ∧ w5.cell? ⟨w3.heap.size, 3, none⟩ = some (.bool ui) ∧ w5.cell? ⟨w3.heap.size, 4, none⟩ = some (.bool us)) := Lib.hid (fun w5 hb5 => by
      have h1 := Blk.below (w := w4.drew) hI3 hb5 hl4
      have h2 := Blk.below (w := w4.drew) hU3 hb5 hl4b
      exact ⟨h1, h2, (below_drewN hb04 1).trans (hb5.mono hb04.size), hb5.size, h1.cell 0, h1.cell 1, h1.cell 2, h1.cell 3, h1.cell 4, h2.cell 0, h2.cell 1, h2.cell 2, h2.cell 3, h2.cell 4⟩)
    have HSB : Hid (∀ (w5 w6 : World) (g : Nat), Below w.heap.size w w5 → Below w5.heap.size w5 w6 → (∀ j u, (strs F)[j]? = some u → w6.cell? ⟨g, j, none⟩ = some u) →
        Below w.heap.size w w6 ∧ (∀ j u, (strs F)[j]? = some u → (w6.alloc (.cells #[Value.string (⟨X.toArray⟩ : ByteArray)] 9)).cell? ⟨g, j, none⟩ = some u) ∧ (w6.alloc (.cells #[Value.string (⟨X.toArray⟩ : ByteArray)] 9)).ownsRow w.heap.size 9 1 (.slice (some ⟨w6.heap.size, 0, none⟩) 1 1) 1 [Value.string (⟨X.toArray⟩ : ByteArray)]) := Lib.hid (fun w5 w6 g hb5 hb6 hcl => by
      have hb := hb5.trans (hb6.mono hb5.size)
      exact ⟨hb, fun j u hu => cell_below (hcl j u hu) ((Below.refl _ _).alloc (Nat.le_refl _) _), World.ownsRow_lit w6 #[Value.string (⟨X.toArray⟩ : ByteArray)] 1 hb.size (by decide) rfl⟩)
    have HSA : Hid (∀ (w5 w6 : World), Below w.heap.size w w5 → Below (w5.alloc (.cells #[Value.string (⟨X.toArray⟩ : ByteArray)] 9)).heap.size (w5.alloc (.cells #[Value.string (⟨X.toArray⟩ : ByteArray)] 9)) w6 →
        Below w.heap.size w w6 ∧ w6.ownsRow w.heap.size 9 1 (.slice (some ⟨w5.heap.size, 0, none⟩) 1 1) 1 [Value.string (⟨X.toArray⟩ : ByteArray)]) := Lib.hid (fun w5 w6 hb5 hb6 => by
      have hb := (hb5.alloc hb5.size (.cells #[Value.string (⟨X.toArray⟩ : ByteArray)] 9)).trans (hb6.mono (by simp; exact Nat.le_trans hb5.size (Nat.le_succ _)))
      exact ⟨hb, own_below (World.ownsRow_lit w5 #[Value.string (⟨X.toArray⟩ : ByteArray)] 1 hb5.size (by decide) rfl) hb6⟩)
    have HS8 : Hid (∀ (w7 w8 : World) (h : Nat) (gg cap8 : Nat), Below w.heap.size w w7 → w8.ownsRow w.heap.size 9 1 (.slice (some ⟨gg, 0, none⟩) (1 + nF) cap8) (1 + nF) ([Value.string (⟨X.toArray⟩ : ByteArray)] ++ strs F) → w7.grownBy w8 (some h) → w.heap.size ≤ h →
        Below w.heap.size w w8 ∧ 1 + nF ≤ cap8 ∧ (∀ j u, ([Value.string (⟨X.toArray⟩ : ByteArray)] ++ strs F)[j]? = some u → w8.cell? ⟨gg, j, none⟩ = some u)) := Lib.hid (fun w7 w8 h gg cap8 hb7 ho hg hh => by
      refine ⟨hb7.grown hg hb7.size (fun k hk => by injection hk with hk; omega), own_cap ho, fun j u hu => ?_⟩
      have hj := (List.getElem?_eq_some_iff.1 hu).1
      have hl : ([Value.string (⟨X.toArray⟩ : ByteArray)] ++ strs F).length = (1 + nF) * 1 := ho.1
      rw [ho.cellAt j (by omega)]
      exact hu)
    have d0 : w4.cell? ⟨w.heap.size, 0, none⟩ = some (.int .i64 op) := hI3.cell 0
    have d1 : w4.cell? ⟨w.heap.size, 1, none⟩ = some (.int .i64 a) := hI3.cell 1
    have d2 : w4.cell? ⟨w.heap.size, 2, none⟩ = some (.int .i64 b) := hI3.cell 2
    have d3 : w4.cell? ⟨w.heap.size, 3, none⟩ = some (.int .i64 c) := hI3.cell 3
    have d4 : w4.cell? ⟨w.heap.size, 4, none⟩ = some (.int .i64 imm) := hI3.cell 4
    have d5 : w4.cell? ⟨w3.heap.size, 0, none⟩ = some (.bool ua) := hU3.cell 0
    have d6 : w4.cell? ⟨w3.heap.size, 1, none⟩ = some (.bool ub) := hU3.cell 1
    have d7 : w4.cell? ⟨w3.heap.size, 2, none⟩ = some (.bool uc) := hU3.cell 2
    have d8 : w4.cell? ⟨w3.heap.size, 3, none⟩ = some (.bool ui) := hU3.cell 3
    have d9 : w4.cell? ⟨w3.heap.size, 4, none⟩ = some (.bool us) := hU3.cell 4
    go_region_law ((first | (go_simp; go_at_call 13; refine (HN.out _ E4).mono ?_; rintro e w5 ⟨rfl, hb5⟩; obtain ⟨hI5, hU5, hb05, hz5, i0, i1, i2, i3, i4, u0, u1, u2, u3, u4⟩ := HS5.out w5 hb5; have E5 := HE.out.below hb05; have hlt5 := Nat.lt_of_lt_of_le hl4b hz5; have hlt5b := Nat.lt_of_lt_of_le hl4 hz5; have E5a := HE.out.below (hb05.alloc hb05.size (.cells #[Value.string (⟨X.toArray⟩ : ByteArray)] 9))) | (go_simp; go_at_call 54; first | (refine (HFl0.out w5 E5).mono ?_; rintro e w6 ⟨g, cap, rfl, hcl, hb6, hg6⟩; obtain ⟨hb06, hcl6, hown6⟩ := HSB.out w5 w6 g hb05 hb6 hcl) | (refine (HFl0.out _ E5a).mono ?_; rintro e w6 ⟨g, cap, rfl, hcl6, hb6, hg6⟩; obtain ⟨hb06, hown6⟩ := HSA.out w5 w6 hb05 hb6)) | (refine step_append_lies _ (by rfl) _ _ _ (by rfl) w.heap.size 9 s0 _ 1 16 Tryz.underlying54 hs hz0 hz1 hz2 rfl (by omega) (.slice (some ⟨w5.heap.size, 0, none⟩) 1 1) 1 [Value.string (⟨X.toArray⟩ : ByteArray)] (by rfl) hown6 ⟨g, 0, none⟩ nF cap (strs F) (by rfl) (by rw [strs_length, hnF.out]; omega) (fun j u hu => by rw [add_at, Nat.zero_add]; exact hcl6 j u hu) (strs_one F) (by omega) (by unfold maxLen; omega) (by omega) hb06.size (w6.heap.size) (by simp) ?_; intro gg cap8 w8 hown8 hgrow hat hlt8; obtain ⟨hb08, hcap8, hcl8⟩ := HS8.out _ w8 _ gg cap8 hb06 hown8 hgrow (by have := hb05.size; omega)) | (refine step_append_lies _ (by rfl) _ _ _ (by rfl) w.heap.size 9 s0 _ 1 16 Tryz.underlying54 hs hz0 hz1 hz2 rfl (by omega) (.slice (some ⟨w6.heap.size, 0, none⟩) 1 1) 1 [Value.string (⟨X.toArray⟩ : ByteArray)] (by rfl) hown6 ⟨g, 0, none⟩ nF cap (strs F) (by rfl) (by rw [strs_length, hnF.out]; omega) (fun j u hu => by rw [add_at, Nat.zero_add]; exact hcl6 j u hu) (strs_one F) (by omega) (by unfold maxLen; omega) (by omega) (Nat.le_trans hb06.size (by simp)) (w6.heap.size + 1) (by simp) ?_; intro gg cap8 w8 hown8 hgrow hat hlt8; obtain ⟨hb08, hcap8, hcl8⟩ := HS8.out _ w8 _ gg cap8 (hb06.alloc hb06.size (.cells #[Value.string (⟨X.toArray⟩ : ByteArray)] 9)) hown8 hgrow (by have := hb06.size; omega)) | (go_simp; go_at_call 53; refine (HJ0.out gg cap8 w8 hlt8 hcap8 hcl8).mono ?_; rintro e w9 ⟨rfl, hb9⟩; have hb09 : Below w.heap.size w w9 := hb08.trans (hb9.mono hb08.size))))
    all_goals
      go_wp2_with fail
      go_ret2
      exact ⟨rfl, hb09⟩
  · obtain rfl : RT = [] := HRT.out.symm.trans (if_neg hc)
    rw [errV_pos er cd hc]
    have he := errV_pos er cd hc
    have HEv := Lib.hid he
    clear he HRT
    clear HFl HJ hne hc
    go_wp2_with fail
    go_ret2
    exact ⟨by rw [HEv.out]; rfl, hb01⟩
end Go.Proofs.YtecmeegnjjhilaaGreatDoor
