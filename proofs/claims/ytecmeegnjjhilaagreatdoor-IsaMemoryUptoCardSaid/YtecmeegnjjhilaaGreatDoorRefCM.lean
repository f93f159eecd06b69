/- The document's table of words: ferryref04.Name. -/
import Derived.Test.YtecmeegnjjhilaaGreatDoorRef
import Derived.Test.YtecmeegnjjhilaaGreatDoorName
namespace Go.Proofs.YtecmeegnjjhilaaGreatDoor
open Go.RowKit
def nmL : List UInt8 := [45, 32, 97, 100, 100, 32, 115, 117, 98, 32, 97, 110, 100, 32, 111, 114, 32, 120, 111, 114, 32, 115, 104, 108, 32, 115, 104, 114, 32, 115, 97, 114, 32, 109, 117, 108, 32, 100, 105, 118, 117, 32, 100, 105, 118, 115, 32, 114, 101, 109, 117, 32, 114, 101, 109, 115, 32, 115, 108, 116, 117, 32, 115, 108, 116, 115, 32, 97, 100, 100, 105, 32, 97, 110, 100, 105, 32, 111, 114, 105, 32, 120, 111, 114, 105, 32, 108, 117, 105, 32, 45, 32, 45, 32, 45, 32, 45, 32, 45, 32, 45, 32, 45, 32, 45, 32, 45, 32, 45, 32, 45, 32, 108, 119, 32, 108, 104, 32, 108, 98, 32, 115, 119, 32, 115, 104, 32, 115, 98, 32, 45, 32, 45, 32, 45, 32, 45, 32, 45, 32, 45, 32, 45, 32, 45, 32, 45, 32, 45, 32, 98, 101, 113, 32, 98, 110, 101, 32, 98, 108, 116, 117, 32, 98, 108, 116, 115, 32, 98, 103, 101, 117, 32, 98, 103, 101, 115, 32, 106, 97, 108, 32, 106, 114, 32, 45, 32, 45, 32, 45, 32, 45, 32, 45, 32, 45, 32, 45, 32, 45, 32, 115, 121, 115, 32]
def nmGo (op : Nat) : List UInt8 → Nat → List UInt8 → List UInt8
  | [], _, _ => []
  | c :: r, k, acc => if c.toNat = 32 then (if k = op then acc else nmGo op r (k + 1) []) else nmGo op r k (acc ++ [c])
theorem bytes_eq {a b : ByteArray} (h : a.data.toList = b.data.toList) : a = b := by
  obtain ⟨⟨a⟩⟩ := a
  obtain ⟨⟨b⟩⟩ := b
  simp only at h
  rw [h]
theorem nm_len : nmL.length = 205 := by decide +kernel
theorem nm_small : (List.range 65).all (fun (n : Nat) => formOf (n : Int) == 0 || nmGo n nmL 0 [] == (opRow (n : Int)).word) = true := by decide +kernel
theorem nm_word (n : Nat) (hn : n ≤ 64) (h : formOf (n : Int) ≠ 0) : nmGo n nmL 0 [] = (opRow (n : Int)).word := by
  have := List.all_eq_true.1 nm_small n (by simp; omega)
  simp only [Bool.or_eq_true, beq_iff_eq] at this
  rcases this with h3 | h3
  · exact absurd h3 h
  · exact h3
theorem word_none (op : Int) (h : formOf op = 0) : (opRow op).word = [] := by
  unfold formOf opRow look at h
  unfold opRow look
  cases hf : table.find? (fun r => r.op == op) with
  | none => rfl
  | some r =>
    rw [hf] at h
    have hm := List.all_eq_true.1 table_forms r (List.mem_of_find?_eq_some hf)
    simp at hm
    simp only [Option.getD_some] at h
    omega

set_option maxHeartbeats 1000000 in
set_option maxRecDepth 100000 in
theorem RName_any (op : Int) (w : World) : Calls Tryz.prog 14 #[.int .i64 op] w fun e w' => e = .returned (.string ⟨(opRow op).word.toArray⟩) ∧ w = w' := by
  have HF := Lib.hid (RForm_any op w)
  by_cases h0 : formOf op = 0
  · rw [word_none op h0]
    rw [h0] at HF
    clear h0
    go_enter Tryz.func14, Tryz.ntmps14
    go_wp2_with fail
    refine HF.out.mono ?_
    rintro e w' ⟨rfl, rfl⟩
    go_wp2
    go_ret
    exact ⟨rfl, rfl⟩
  · obtain ⟨o1, o2⟩ := op_range op h0
    have hf : (formOf op == 0) = false := by simpa using h0
    obtain ⟨m, rfl⟩ := Int.eq_ofNat_of_zero_le (show 0 ≤ op by omega)
    have HW := Lib.hid (nm_word m (by omega) h0)
    generalize (opRow (m : Int)).word = X at HW ⊢
    generalize formOf (m : Int) = f at hf HF
    clear h0
    go_enter Tryz.func14, Tryz.ntmps14
    go_wp2_with fail
    refine HF.out.mono ?_
    rintro e w' ⟨rfl, rfl⟩
    clear HF
    go_wp2_with fail
    go_loopw [3, 4, 5] (fun s3 s4 s5 wr => wr = w ∧ ∃ (k frm i : Nat), i ≤ 205 ∧ k ≤ i ∧ frm ≤ i ∧ s3 = .int .i64 k ∧ s4 = .int .i64 frm ∧ s5 = .int .i64 i ∧
      Hid (nmGo m nmL 0 [] = nmGo m (nmL.drop i) k ((nmL.drop frm).take (i - frm)))) (fun _ _ s5 _ => 205 - (intOf s5).toNat)
    case atStart => exact ⟨rfl, 0, 0, 0, by omega, by omega, by omega, rfl, rfl, rfl, Lib.hid rfl⟩
    case round =>
      obtain ⟨rfl, k, frm, i, hi, hk, hfr, rfl, rfl, rfl, HQ⟩ := hrel
      by_cases hlt : i < 205
      · have hsz : i < (⟨#[45, 32, 97, 100, 100, 32, 115, 117, 98, 32, 97, 110, 100, 32, 111, 114, 32, 120, 111, 114, 32, 115, 104, 108, 32, 115, 104, 114, 32, 115, 97, 114, 32, 109, 117, 108, 32, 100, 105, 118, 117, 32, 100, 105, 118, 115, 32, 114, 101, 109, 117, 32, 114, 101, 109, 115, 32, 115, 108, 116, 117, 32, 115, 108, 116, 115, 32, 97, 100, 100, 105, 32, 97, 110, 100, 105, 32, 111, 114, 105, 32, 120, 111, 114, 105, 32, 108, 117, 105, 32, 45, 32, 45, 32, 45, 32, 45, 32, 45, 32, 45, 32, 45, 32, 45, 32, 45, 32, 45, 32, 45, 32, 108, 119, 32, 108, 104, 32, 108, 98, 32, 115, 119, 32, 115, 104, 32, 115, 98, 32, 45, 32, 45, 32, 45, 32, 45, 32, 45, 32, 45, 32, 45, 32, 45, 32, 45, 32, 45, 32, 98, 101, 113, 32, 98, 110, 101, 32, 98, 108, 116, 117, 32, 98, 108, 116, 115, 32, 98, 103, 101, 117, 32, 98, 103, 101, 115, 32, 106, 97, 108, 32, 106, 114, 32, 45, 32, 45, 32, 45, 32, 45, 32, 45, 32, 45, 32, 45, 32, 45, 32, 115, 121, 115, 32]⟩ : ByteArray).size := hlt
        have hb : nmL[i]? = some ((⟨#[45, 32, 97, 100, 100, 32, 115, 117, 98, 32, 97, 110, 100, 32, 111, 114, 32, 120, 111, 114, 32, 115, 104, 108, 32, 115, 104, 114, 32, 115, 97, 114, 32, 109, 117, 108, 32, 100, 105, 118, 117, 32, 100, 105, 118, 115, 32, 114, 101, 109, 117, 32, 114, 101, 109, 115, 32, 115, 108, 116, 117, 32, 115, 108, 116, 115, 32, 97, 100, 100, 105, 32, 97, 110, 100, 105, 32, 111, 114, 105, 32, 120, 111, 114, 105, 32, 108, 117, 105, 32, 45, 32, 45, 32, 45, 32, 45, 32, 45, 32, 45, 32, 45, 32, 45, 32, 45, 32, 45, 32, 45, 32, 108, 119, 32, 108, 104, 32, 108, 98, 32, 115, 119, 32, 115, 104, 32, 115, 98, 32, 45, 32, 45, 32, 45, 32, 45, 32, 45, 32, 45, 32, 45, 32, 45, 32, 45, 32, 45, 32, 98, 101, 113, 32, 98, 110, 101, 32, 98, 108, 116, 117, 32, 98, 108, 116, 115, 32, 98, 103, 101, 117, 32, 98, 103, 101, 115, 32, 106, 97, 108, 32, 106, 114, 32, 45, 32, 45, 32, 45, 32, 45, 32, 45, 32, 45, 32, 45, 32, 45, 32, 115, 121, 115, 32]⟩ : ByteArray)[i]'hsz) := byte_at ⟨#[45, 32, 97, 100, 100, 32, 115, 117, 98, 32, 97, 110, 100, 32, 111, 114, 32, 120, 111, 114, 32, 115, 104, 108, 32, 115, 104, 114, 32, 115, 97, 114, 32, 109, 117, 108, 32, 100, 105, 118, 117, 32, 100, 105, 118, 115, 32, 114, 101, 109, 117, 32, 114, 101, 109, 115, 32, 115, 108, 116, 117, 32, 115, 108, 116, 115, 32, 97, 100, 100, 105, 32, 97, 110, 100, 105, 32, 111, 114, 105, 32, 120, 111, 114, 105, 32, 108, 117, 105, 32, 45, 32, 45, 32, 45, 32, 45, 32, 45, 32, 45, 32, 45, 32, 45, 32, 45, 32, 45, 32, 45, 32, 108, 119, 32, 108, 104, 32, 108, 98, 32, 115, 119, 32, 115, 104, 32, 115, 98, 32, 45, 32, 45, 32, 45, 32, 45, 32, 45, 32, 45, 32, 45, 32, 45, 32, 45, 32, 45, 32, 98, 101, 113, 32, 98, 110, 101, 32, 98, 108, 116, 117, 32, 98, 108, 116, 115, 32, 98, 103, 101, 117, 32, 98, 103, 101, 115, 32, 106, 97, 108, 32, 106, 114, 32, 45, 32, 45, 32, 45, 32, 45, 32, 45, 32, 45, 32, 45, 32, 45, 32, 115, 121, 115, 32]⟩ i hsz
        have HSt : Hid (nmGo m (nmL.drop i) k ((nmL.drop frm).take (i - frm)) = if ((⟨#[45, 32, 97, 100, 100, 32, 115, 117, 98, 32, 97, 110, 100, 32, 111, 114, 32, 120, 111, 114, 32, 115, 104, 108, 32, 115, 104, 114, 32, 115, 97, 114, 32, 109, 117, 108, 32, 100, 105, 118, 117, 32, 100, 105, 118, 115, 32, 114, 101, 109, 117, 32, 114, 101, 109, 115, 32, 115, 108, 116, 117, 32, 115, 108, 116, 115, 32, 97, 100, 100, 105, 32, 97, 110, 100, 105, 32, 111, 114, 105, 32, 120, 111, 114, 105, 32, 108, 117, 105, 32, 45, 32, 45, 32, 45, 32, 45, 32, 45, 32, 45, 32, 45, 32, 45, 32, 45, 32, 45, 32, 45, 32, 108, 119, 32, 108, 104, 32, 108, 98, 32, 115, 119, 32, 115, 104, 32, 115, 98, 32, 45, 32, 45, 32, 45, 32, 45, 32, 45, 32, 45, 32, 45, 32, 45, 32, 45, 32, 45, 32, 98, 101, 113, 32, 98, 110, 101, 32, 98, 108, 116, 117, 32, 98, 108, 116, 115, 32, 98, 103, 101, 117, 32, 98, 103, 101, 115, 32, 106, 97, 108, 32, 106, 114, 32, 45, 32, 45, 32, 45, 32, 45, 32, 45, 32, 45, 32, 45, 32, 45, 32, 115, 121, 115, 32]⟩ : ByteArray)[i]'hsz).toNat = 32 then (if k = m then (nmL.drop frm).take (i - frm) else nmGo m (nmL.drop (i + 1)) (k + 1) []) else nmGo m (nmL.drop (i + 1)) k ((nmL.drop frm).take (i - frm) ++ [(⟨#[45, 32, 97, 100, 100, 32, 115, 117, 98, 32, 97, 110, 100, 32, 111, 114, 32, 120, 111, 114, 32, 115, 104, 108, 32, 115, 104, 114, 32, 115, 97, 114, 32, 109, 117, 108, 32, 100, 105, 118, 117, 32, 100, 105, 118, 115, 32, 114, 101, 109, 117, 32, 114, 101, 109, 115, 32, 115, 108, 116, 117, 32, 115, 108, 116, 115, 32, 97, 100, 100, 105, 32, 97, 110, 100, 105, 32, 111, 114, 105, 32, 120, 111, 114, 105, 32, 108, 117, 105, 32, 45, 32, 45, 32, 45, 32, 45, 32, 45, 32, 45, 32, 45, 32, 45, 32, 45, 32, 45, 32, 45, 32, 108, 119, 32, 108, 104, 32, 108, 98, 32, 115, 119, 32, 115, 104, 32, 115, 98, 32, 45, 32, 45, 32, 45, 32, 45, 32, 45, 32, 45, 32, 45, 32, 45, 32, 45, 32, 45, 32, 98, 101, 113, 32, 98, 110, 101, 32, 98, 108, 116, 117, 32, 98, 108, 116, 115, 32, 98, 103, 101, 117, 32, 98, 103, 101, 115, 32, 106, 97, 108, 32, 106, 114, 32, 45, 32, 45, 32, 45, 32, 45, 32, 45, 32, 45, 32, 45, 32, 45, 32, 115, 121, 115, 32]⟩ : ByteArray)[i]'hsz])) := Lib.hid (by
          obtain ⟨hl1, he⟩ := List.getElem?_eq_some_iff.1 hb
          rw [List.drop_eq_getElem_cons hl1, he]
          rfl)
        have HAcc : Hid ((nmL.drop frm).take (i - frm) ++ [(⟨#[45, 32, 97, 100, 100, 32, 115, 117, 98, 32, 97, 110, 100, 32, 111, 114, 32, 120, 111, 114, 32, 115, 104, 108, 32, 115, 104, 114, 32, 115, 97, 114, 32, 109, 117, 108, 32, 100, 105, 118, 117, 32, 100, 105, 118, 115, 32, 114, 101, 109, 117, 32, 114, 101, 109, 115, 32, 115, 108, 116, 117, 32, 115, 108, 116, 115, 32, 97, 100, 100, 105, 32, 97, 110, 100, 105, 32, 111, 114, 105, 32, 120, 111, 114, 105, 32, 108, 117, 105, 32, 45, 32, 45, 32, 45, 32, 45, 32, 45, 32, 45, 32, 45, 32, 45, 32, 45, 32, 45, 32, 45, 32, 108, 119, 32, 108, 104, 32, 108, 98, 32, 115, 119, 32, 115, 104, 32, 115, 98, 32, 45, 32, 45, 32, 45, 32, 45, 32, 45, 32, 45, 32, 45, 32, 45, 32, 45, 32, 45, 32, 98, 101, 113, 32, 98, 110, 101, 32, 98, 108, 116, 117, 32, 98, 108, 116, 115, 32, 98, 103, 101, 117, 32, 98, 103, 101, 115, 32, 106, 97, 108, 32, 106, 114, 32, 45, 32, 45, 32, 45, 32, 45, 32, 45, 32, 45, 32, 45, 32, 45, 32, 115, 121, 115, 32]⟩ : ByteArray)[i]'hsz] = (nmL.drop frm).take (i + 1 - frm)) := Lib.hid (by
          rw [show i + 1 - frm = (i - frm) + 1 by omega, List.take_add_one, List.getElem?_drop, show frm + (i - frm) = i by omega, hb]
          rfl)
        clear hb
        by_cases hc : ((⟨#[45, 32, 97, 100, 100, 32, 115, 117, 98, 32, 97, 110, 100, 32, 111, 114, 32, 120, 111, 114, 32, 115, 104, 108, 32, 115, 104, 114, 32, 115, 97, 114, 32, 109, 117, 108, 32, 100, 105, 118, 117, 32, 100, 105, 118, 115, 32, 114, 101, 109, 117, 32, 114, 101, 109, 115, 32, 115, 108, 116, 117, 32, 115, 108, 116, 115, 32, 97, 100, 100, 105, 32, 97, 110, 100, 105, 32, 111, 114, 105, 32, 120, 111, 114, 105, 32, 108, 117, 105, 32, 45, 32, 45, 32, 45, 32, 45, 32, 45, 32, 45, 32, 45, 32, 45, 32, 45, 32, 45, 32, 45, 32, 108, 119, 32, 108, 104, 32, 108, 98, 32, 115, 119, 32, 115, 104, 32, 115, 98, 32, 45, 32, 45, 32, 45, 32, 45, 32, 45, 32, 45, 32, 45, 32, 45, 32, 45, 32, 45, 32, 98, 101, 113, 32, 98, 110, 101, 32, 98, 108, 116, 117, 32, 98, 108, 116, 115, 32, 98, 103, 101, 117, 32, 98, 103, 101, 115, 32, 106, 97, 108, 32, 106, 114, 32, 45, 32, 45, 32, 45, 32, 45, 32, 45, 32, 45, 32, 45, 32, 45, 32, 115, 121, 115, 32]⟩ : ByteArray)[i]'hsz).toNat = 32
        · have hc1 : ((((⟨#[45, 32, 97, 100, 100, 32, 115, 117, 98, 32, 97, 110, 100, 32, 111, 114, 32, 120, 111, 114, 32, 115, 104, 108, 32, 115, 104, 114, 32, 115, 97, 114, 32, 109, 117, 108, 32, 100, 105, 118, 117, 32, 100, 105, 118, 115, 32, 114, 101, 109, 117, 32, 114, 101, 109, 115, 32, 115, 108, 116, 117, 32, 115, 108, 116, 115, 32, 97, 100, 100, 105, 32, 97, 110, 100, 105, 32, 111, 114, 105, 32, 120, 111, 114, 105, 32, 108, 117, 105, 32, 45, 32, 45, 32, 45, 32, 45, 32, 45, 32, 45, 32, 45, 32, 45, 32, 45, 32, 45, 32, 45, 32, 108, 119, 32, 108, 104, 32, 108, 98, 32, 115, 119, 32, 115, 104, 32, 115, 98, 32, 45, 32, 45, 32, 45, 32, 45, 32, 45, 32, 45, 32, 45, 32, 45, 32, 45, 32, 45, 32, 98, 101, 113, 32, 98, 110, 101, 32, 98, 108, 116, 117, 32, 98, 108, 116, 115, 32, 98, 103, 101, 117, 32, 98, 103, 101, 115, 32, 106, 97, 108, 32, 106, 114, 32, 45, 32, 45, 32, 45, 32, 45, 32, 45, 32, 45, 32, 45, 32, 45, 32, 115, 121, 115, 32]⟩ : ByteArray)[i]'hsz).toNat : Int) == 32) = true := by rw [hc]; rfl
          by_cases hkm : k = m
          · subst hkm
            have HR : Hid (X = (nmL.drop frm).take (i - frm)) := Lib.hid (by rw [← HW.out, HQ.out, HSt.out, if_pos hc, if_pos rfl])
            clear HQ HSt HAcc HW hc
            have HE : Hid ((⟨#[45, 32, 97, 100, 100, 32, 115, 117, 98, 32, 97, 110, 100, 32, 111, 114, 32, 120, 111, 114, 32, 115, 104, 108, 32, 115, 104, 114, 32, 115, 97, 114, 32, 109, 117, 108, 32, 100, 105, 118, 117, 32, 100, 105, 118, 115, 32, 114, 101, 109, 117, 32, 114, 101, 109, 115, 32, 115, 108, 116, 117, 32, 115, 108, 116, 115, 32, 97, 100, 100, 105, 32, 97, 110, 100, 105, 32, 111, 114, 105, 32, 120, 111, 114, 105, 32, 108, 117, 105, 32, 45, 32, 45, 32, 45, 32, 45, 32, 45, 32, 45, 32, 45, 32, 45, 32, 45, 32, 45, 32, 45, 32, 108, 119, 32, 108, 104, 32, 108, 98, 32, 115, 119, 32, 115, 104, 32, 115, 98, 32, 45, 32, 45, 32, 45, 32, 45, 32, 45, 32, 45, 32, 45, 32, 45, 32, 45, 32, 45, 32, 98, 101, 113, 32, 98, 110, 101, 32, 98, 108, 116, 117, 32, 98, 108, 116, 115, 32, 98, 103, 101, 117, 32, 98, 103, 101, 115, 32, 106, 97, 108, 32, 106, 114, 32, 45, 32, 45, 32, 45, 32, 45, 32, 45, 32, 45, 32, 45, 32, 45, 32, 115, 121, 115, 32]⟩ : ByteArray).extract frm i = ⟨X.toArray⟩) := Lib.hid (by
              refine bytes_eq ?_
              rw [Lib.extract_data, HR.out]
              rfl)
            clear HR
            go_wp2_with fail
            go_ret
            exact ⟨congrArg (fun x => Ending.returned (Value.string x)) HE.out, rfl⟩
          · have hkm' : ((k : Int) == (m : Int)) = false := by simp; omega
            have HN : Hid (nmGo m nmL 0 [] = nmGo m (nmL.drop (i + 1)) (k + 1) ((nmL.drop (i + 1)).take (i + 1 - (i + 1)))) := Lib.hid (by rw [HQ.out, HSt.out, if_pos hc, if_neg hkm, Nat.sub_self, List.take_zero])
            clear HQ HSt HAcc hc hkm
            go_wp2_with fail
            go_roundw
            case rel => exact ⟨trivial, k + 1, i + 1, i + 1, by omega, by omega, by omega, by go_num, by go_num, by go_num, HN⟩
            case measure => simp [intOf]; omega
        · have hc1 : ((((⟨#[45, 32, 97, 100, 100, 32, 115, 117, 98, 32, 97, 110, 100, 32, 111, 114, 32, 120, 111, 114, 32, 115, 104, 108, 32, 115, 104, 114, 32, 115, 97, 114, 32, 109, 117, 108, 32, 100, 105, 118, 117, 32, 100, 105, 118, 115, 32, 114, 101, 109, 117, 32, 114, 101, 109, 115, 32, 115, 108, 116, 117, 32, 115, 108, 116, 115, 32, 97, 100, 100, 105, 32, 97, 110, 100, 105, 32, 111, 114, 105, 32, 120, 111, 114, 105, 32, 108, 117, 105, 32, 45, 32, 45, 32, 45, 32, 45, 32, 45, 32, 45, 32, 45, 32, 45, 32, 45, 32, 45, 32, 45, 32, 108, 119, 32, 108, 104, 32, 108, 98, 32, 115, 119, 32, 115, 104, 32, 115, 98, 32, 45, 32, 45, 32, 45, 32, 45, 32, 45, 32, 45, 32, 45, 32, 45, 32, 45, 32, 45, 32, 98, 101, 113, 32, 98, 110, 101, 32, 98, 108, 116, 117, 32, 98, 108, 116, 115, 32, 98, 103, 101, 117, 32, 98, 103, 101, 115, 32, 106, 97, 108, 32, 106, 114, 32, 45, 32, 45, 32, 45, 32, 45, 32, 45, 32, 45, 32, 45, 32, 45, 32, 115, 121, 115, 32]⟩ : ByteArray)[i]'hsz).toNat : Int) == 32) = false := by
            generalize ((⟨#[45, 32, 97, 100, 100, 32, 115, 117, 98, 32, 97, 110, 100, 32, 111, 114, 32, 120, 111, 114, 32, 115, 104, 108, 32, 115, 104, 114, 32, 115, 97, 114, 32, 109, 117, 108, 32, 100, 105, 118, 117, 32, 100, 105, 118, 115, 32, 114, 101, 109, 117, 32, 114, 101, 109, 115, 32, 115, 108, 116, 117, 32, 115, 108, 116, 115, 32, 97, 100, 100, 105, 32, 97, 110, 100, 105, 32, 111, 114, 105, 32, 120, 111, 114, 105, 32, 108, 117, 105, 32, 45, 32, 45, 32, 45, 32, 45, 32, 45, 32, 45, 32, 45, 32, 45, 32, 45, 32, 45, 32, 45, 32, 108, 119, 32, 108, 104, 32, 108, 98, 32, 115, 119, 32, 115, 104, 32, 115, 98, 32, 45, 32, 45, 32, 45, 32, 45, 32, 45, 32, 45, 32, 45, 32, 45, 32, 45, 32, 45, 32, 98, 101, 113, 32, 98, 110, 101, 32, 98, 108, 116, 117, 32, 98, 108, 116, 115, 32, 98, 103, 101, 117, 32, 98, 103, 101, 115, 32, 106, 97, 108, 32, 106, 114, 32, 45, 32, 45, 32, 45, 32, 45, 32, 45, 32, 45, 32, 45, 32, 45, 32, 115, 121, 115, 32]⟩ : ByteArray)[i]'hsz).toNat = t at hc ⊢
            rw [beq_eq_false_iff_ne]
            omega
          have HN : Hid (nmGo m nmL 0 [] = nmGo m (nmL.drop (i + 1)) k ((nmL.drop frm).take (i + 1 - frm))) := Lib.hid (by rw [HQ.out, HSt.out, if_neg hc, HAcc.out])
          clear HQ HSt HAcc hc
          go_wp2_with fail
          go_roundw
          case rel => exact ⟨trivial, k, frm, i + 1, by omega, by omega, by omega, rfl, rfl, by go_num, HN⟩
          case measure => simp [intOf]; omega
      · have hi5 : i = 205 := by omega
        subst hi5
        have HR : Hid (X = []) := Lib.hid (by
          rw [← HW.out, HQ.out, List.drop_eq_nil_of_le (by rw [nm_len]; exact Nat.le_refl _)]
          rfl)
        clear HQ
        go_wp2_with fail
        go_ret
        rw [HR.out]
        exact ⟨rfl, rfl⟩
end Go.Proofs.YtecmeegnjjhilaaGreatDoor

/- ferryref04.Uses and Check: the document's check is the program's. -/
namespace Go.Proofs.YtecmeegnjjhilaaGreatDoor
open Go.RowKit
def fieldsR (f : Int) : List UInt8 := if f = 1 then [65, 66, 67] else if f = 2 then [65, 66, 73] else if f = 3 then [65, 66, 85] else if f = 4 then [65, 85] else if f = 5 then [65, 73] else if f = 6 then [66, 73] else if f = 7 then [85] else []
def usesB (f : Int) (c : Int) : Bool := (fieldsR f).any fun b => ((b.toNat : Int)) == c
set_option maxHeartbeats 2000000 in
set_option maxRecDepth 100000 in
theorem Uses_any (f c : Int) (hf : 0 ≤ f ∧ f ≤ 7) (w : World) : Calls Tryz.prog 48 #[.int .i64 f, .int .u8 c] w fun e w' => e = .returned (.bool (usesB f c)) ∧ w = w' := by
  have h : f = 0 ∨ f = 1 ∨ f = 2 ∨ f = 3 ∨ f = 4 ∨ f = 5 ∨ f = 6 ∨ f = 7 := by omega
  clear hf
  rcases h with rfl | rfl | rfl | rfl | rfl | rfl | rfl | rfl
  · have HU : Hid (usesB 0 c = (false)) := Lib.hid (by simp [usesB, fieldsR])
    have HV : Hid (usesB 0 c = false) := HU
    clear HU
    go_enter Tryz.func48, Tryz.ntmps48
    go_wp2_with fail
    go_loopw [6] (fun s6 wr => wr = w ∧ ∃ k : Nat, k ≤ 0 ∧ s6 = .int .i64 k) (fun s6 _ => 5 - (intOf s6).toNat)
    case atStart => exact ⟨rfl, 0, by omega, rfl⟩
    case round =>
      obtain ⟨rfl, k, hk, rfl⟩ := hrel
      have hk2 : k = 0 := by omega
      clear hk
      rcases hk2 with rfl
      · go_wp2_with fail
        go_ret
        rw [HV.out]
        exact ⟨rfl, rfl⟩
  · have HU : Hid (usesB 1 c = (((65 : Int) == c) || ((66 : Int) == c) || ((67 : Int) == c))) := Lib.hid (by simp [usesB, fieldsR, Bool.or_assoc])
    cases h0 : ((65 : Int) == c) with
    | true =>
      have HV : Hid (usesB 1 c = true) := Lib.hid (by rw [HU.out]; simp [h0])
      clear HU
      have e0 : ((((⟨#[65, 66, 67]⟩ : ByteArray)[0]'(by decide)).toNat : Int) == c) = true := h0
      go_enter Tryz.func48, Tryz.ntmps48
      go_wp2_with fail
      go_loopw [6] (fun s6 wr => wr = w ∧ ∃ k : Nat, k ≤ 0 ∧ s6 = .int .i64 k) (fun s6 _ => 5 - (intOf s6).toNat)
      case atStart => exact ⟨rfl, 0, by omega, rfl⟩
      case round =>
        obtain ⟨rfl, k, hk, rfl⟩ := hrel
        have hk2 : k = 0 := by omega
        clear hk
        rcases hk2 with rfl
        · go_wp2_with fail
          go_ret
          rw [HV.out]
          exact ⟨rfl, rfl⟩
    | false =>
      cases h1 : ((66 : Int) == c) with
      | true =>
        have HV : Hid (usesB 1 c = true) := Lib.hid (by rw [HU.out]; simp [h0, h1])
        clear HU
        have e0 : ((((⟨#[65, 66, 67]⟩ : ByteArray)[0]'(by decide)).toNat : Int) == c) = false := h0
        have e1 : ((((⟨#[65, 66, 67]⟩ : ByteArray)[1]'(by decide)).toNat : Int) == c) = true := h1
        go_enter Tryz.func48, Tryz.ntmps48
        go_wp2_with fail
        go_loopw [6] (fun s6 wr => wr = w ∧ ∃ k : Nat, k ≤ 1 ∧ s6 = .int .i64 k) (fun s6 _ => 5 - (intOf s6).toNat)
        case atStart => exact ⟨rfl, 0, by omega, rfl⟩
        case round =>
          obtain ⟨rfl, k, hk, rfl⟩ := hrel
          have hk2 : k = 0 ∨ k = 1 := by omega
          clear hk
          rcases hk2 with rfl | rfl
          · go_wp2_with fail
            go_roundw
            case rel => exact ⟨trivial, 1, by omega, by go_num⟩
            case measure => simp [intOf]
          · go_wp2_with fail
            go_ret
            rw [HV.out]
            exact ⟨rfl, rfl⟩
      | false =>
        cases h2 : ((67 : Int) == c) with
        | true =>
          have HV : Hid (usesB 1 c = true) := Lib.hid (by rw [HU.out]; simp [h0, h1, h2])
          clear HU
          have e0 : ((((⟨#[65, 66, 67]⟩ : ByteArray)[0]'(by decide)).toNat : Int) == c) = false := h0
          have e1 : ((((⟨#[65, 66, 67]⟩ : ByteArray)[1]'(by decide)).toNat : Int) == c) = false := h1
          have e2 : ((((⟨#[65, 66, 67]⟩ : ByteArray)[2]'(by decide)).toNat : Int) == c) = true := h2
          go_enter Tryz.func48, Tryz.ntmps48
          go_wp2_with fail
          go_loopw [6] (fun s6 wr => wr = w ∧ ∃ k : Nat, k ≤ 2 ∧ s6 = .int .i64 k) (fun s6 _ => 5 - (intOf s6).toNat)
          case atStart => exact ⟨rfl, 0, by omega, rfl⟩
          case round =>
            obtain ⟨rfl, k, hk, rfl⟩ := hrel
            have hk2 : k = 0 ∨ k = 1 ∨ k = 2 := by omega
            clear hk
            rcases hk2 with rfl | rfl | rfl
            · go_wp2_with fail
              go_roundw
              case rel => exact ⟨trivial, 1, by omega, by go_num⟩
              case measure => simp [intOf]
            · go_wp2_with fail
              go_roundw
              case rel => exact ⟨trivial, 2, by omega, by go_num⟩
              case measure => simp [intOf]
            · go_wp2_with fail
              go_ret
              rw [HV.out]
              exact ⟨rfl, rfl⟩
        | false =>
          have HV : Hid (usesB 1 c = false) := Lib.hid (by rw [HU.out]; simp [h0, h1, h2])
          clear HU
          have e0 : ((((⟨#[65, 66, 67]⟩ : ByteArray)[0]'(by decide)).toNat : Int) == c) = false := h0
          have e1 : ((((⟨#[65, 66, 67]⟩ : ByteArray)[1]'(by decide)).toNat : Int) == c) = false := h1
          have e2 : ((((⟨#[65, 66, 67]⟩ : ByteArray)[2]'(by decide)).toNat : Int) == c) = false := h2
          go_enter Tryz.func48, Tryz.ntmps48
          go_wp2_with fail
          go_loopw [6] (fun s6 wr => wr = w ∧ ∃ k : Nat, k ≤ 3 ∧ s6 = .int .i64 k) (fun s6 _ => 5 - (intOf s6).toNat)
          case atStart => exact ⟨rfl, 0, by omega, rfl⟩
          case round =>
            obtain ⟨rfl, k, hk, rfl⟩ := hrel
            have hk2 : k = 0 ∨ k = 1 ∨ k = 2 ∨ k = 3 := by omega
            clear hk
            rcases hk2 with rfl | rfl | rfl | rfl
            · go_wp2_with fail
              go_roundw
              case rel => exact ⟨trivial, 1, by omega, by go_num⟩
              case measure => simp [intOf]
            · go_wp2_with fail
              go_roundw
              case rel => exact ⟨trivial, 2, by omega, by go_num⟩
              case measure => simp [intOf]
            · go_wp2_with fail
              go_roundw
              case rel => exact ⟨trivial, 3, by omega, by go_num⟩
              case measure => simp [intOf]
            · go_wp2_with fail
              go_ret
              rw [HV.out]
              exact ⟨rfl, rfl⟩
  · have HU : Hid (usesB 2 c = (((65 : Int) == c) || ((66 : Int) == c) || ((73 : Int) == c))) := Lib.hid (by simp [usesB, fieldsR, Bool.or_assoc])
    cases h0 : ((65 : Int) == c) with
    | true =>
      have HV : Hid (usesB 2 c = true) := Lib.hid (by rw [HU.out]; simp [h0])
      clear HU
      have e0 : ((((⟨#[65, 66, 73]⟩ : ByteArray)[0]'(by decide)).toNat : Int) == c) = true := h0
      go_enter Tryz.func48, Tryz.ntmps48
      go_wp2_with fail
      go_loopw [6] (fun s6 wr => wr = w ∧ ∃ k : Nat, k ≤ 0 ∧ s6 = .int .i64 k) (fun s6 _ => 5 - (intOf s6).toNat)
      case atStart => exact ⟨rfl, 0, by omega, rfl⟩
      case round =>
        obtain ⟨rfl, k, hk, rfl⟩ := hrel
        have hk2 : k = 0 := by omega
        clear hk
        rcases hk2 with rfl
        · go_wp2_with fail
          go_ret
          rw [HV.out]
          exact ⟨rfl, rfl⟩
    | false =>
      cases h1 : ((66 : Int) == c) with
      | true =>
        have HV : Hid (usesB 2 c = true) := Lib.hid (by rw [HU.out]; simp [h0, h1])
        clear HU
        have e0 : ((((⟨#[65, 66, 73]⟩ : ByteArray)[0]'(by decide)).toNat : Int) == c) = false := h0
        have e1 : ((((⟨#[65, 66, 73]⟩ : ByteArray)[1]'(by decide)).toNat : Int) == c) = true := h1
        go_enter Tryz.func48, Tryz.ntmps48
        go_wp2_with fail
        go_loopw [6] (fun s6 wr => wr = w ∧ ∃ k : Nat, k ≤ 1 ∧ s6 = .int .i64 k) (fun s6 _ => 5 - (intOf s6).toNat)
        case atStart => exact ⟨rfl, 0, by omega, rfl⟩
        case round =>
          obtain ⟨rfl, k, hk, rfl⟩ := hrel
          have hk2 : k = 0 ∨ k = 1 := by omega
          clear hk
          rcases hk2 with rfl | rfl
          · go_wp2_with fail
            go_roundw
            case rel => exact ⟨trivial, 1, by omega, by go_num⟩
            case measure => simp [intOf]
          · go_wp2_with fail
            go_ret
            rw [HV.out]
            exact ⟨rfl, rfl⟩
      | false =>
        cases h2 : ((73 : Int) == c) with
        | true =>
          have HV : Hid (usesB 2 c = true) := Lib.hid (by rw [HU.out]; simp [h0, h1, h2])
          clear HU
          have e0 : ((((⟨#[65, 66, 73]⟩ : ByteArray)[0]'(by decide)).toNat : Int) == c) = false := h0
          have e1 : ((((⟨#[65, 66, 73]⟩ : ByteArray)[1]'(by decide)).toNat : Int) == c) = false := h1
          have e2 : ((((⟨#[65, 66, 73]⟩ : ByteArray)[2]'(by decide)).toNat : Int) == c) = true := h2
          go_enter Tryz.func48, Tryz.ntmps48
          go_wp2_with fail
          go_loopw [6] (fun s6 wr => wr = w ∧ ∃ k : Nat, k ≤ 2 ∧ s6 = .int .i64 k) (fun s6 _ => 5 - (intOf s6).toNat)
          case atStart => exact ⟨rfl, 0, by omega, rfl⟩
          case round =>
            obtain ⟨rfl, k, hk, rfl⟩ := hrel
            have hk2 : k = 0 ∨ k = 1 ∨ k = 2 := by omega
            clear hk
            rcases hk2 with rfl | rfl | rfl
            · go_wp2_with fail
              go_roundw
              case rel => exact ⟨trivial, 1, by omega, by go_num⟩
              case measure => simp [intOf]
            · go_wp2_with fail
              go_roundw
              case rel => exact ⟨trivial, 2, by omega, by go_num⟩
              case measure => simp [intOf]
            · go_wp2_with fail
              go_ret
              rw [HV.out]
              exact ⟨rfl, rfl⟩
        | false =>
          have HV : Hid (usesB 2 c = false) := Lib.hid (by rw [HU.out]; simp [h0, h1, h2])
          clear HU
          have e0 : ((((⟨#[65, 66, 73]⟩ : ByteArray)[0]'(by decide)).toNat : Int) == c) = false := h0
          have e1 : ((((⟨#[65, 66, 73]⟩ : ByteArray)[1]'(by decide)).toNat : Int) == c) = false := h1
          have e2 : ((((⟨#[65, 66, 73]⟩ : ByteArray)[2]'(by decide)).toNat : Int) == c) = false := h2
          go_enter Tryz.func48, Tryz.ntmps48
          go_wp2_with fail
          go_loopw [6] (fun s6 wr => wr = w ∧ ∃ k : Nat, k ≤ 3 ∧ s6 = .int .i64 k) (fun s6 _ => 5 - (intOf s6).toNat)
          case atStart => exact ⟨rfl, 0, by omega, rfl⟩
          case round =>
            obtain ⟨rfl, k, hk, rfl⟩ := hrel
            have hk2 : k = 0 ∨ k = 1 ∨ k = 2 ∨ k = 3 := by omega
            clear hk
            rcases hk2 with rfl | rfl | rfl | rfl
            · go_wp2_with fail
              go_roundw
              case rel => exact ⟨trivial, 1, by omega, by go_num⟩
              case measure => simp [intOf]
            · go_wp2_with fail
              go_roundw
              case rel => exact ⟨trivial, 2, by omega, by go_num⟩
              case measure => simp [intOf]
            · go_wp2_with fail
              go_roundw
              case rel => exact ⟨trivial, 3, by omega, by go_num⟩
              case measure => simp [intOf]
            · go_wp2_with fail
              go_ret
              rw [HV.out]
              exact ⟨rfl, rfl⟩
  · have HU : Hid (usesB 3 c = (((65 : Int) == c) || ((66 : Int) == c) || ((85 : Int) == c))) := Lib.hid (by simp [usesB, fieldsR, Bool.or_assoc])
    cases h0 : ((65 : Int) == c) with
    | true =>
      have HV : Hid (usesB 3 c = true) := Lib.hid (by rw [HU.out]; simp [h0])
      clear HU
      have e0 : ((((⟨#[65, 66, 85]⟩ : ByteArray)[0]'(by decide)).toNat : Int) == c) = true := h0
      go_enter Tryz.func48, Tryz.ntmps48
      go_wp2_with fail
      go_loopw [6] (fun s6 wr => wr = w ∧ ∃ k : Nat, k ≤ 0 ∧ s6 = .int .i64 k) (fun s6 _ => 5 - (intOf s6).toNat)
      case atStart => exact ⟨rfl, 0, by omega, rfl⟩
      case round =>
        obtain ⟨rfl, k, hk, rfl⟩ := hrel
        have hk2 : k = 0 := by omega
        clear hk
        rcases hk2 with rfl
        · go_wp2_with fail
          go_ret
          rw [HV.out]
          exact ⟨rfl, rfl⟩
    | false =>
      cases h1 : ((66 : Int) == c) with
      | true =>
        have HV : Hid (usesB 3 c = true) := Lib.hid (by rw [HU.out]; simp [h0, h1])
        clear HU
        have e0 : ((((⟨#[65, 66, 85]⟩ : ByteArray)[0]'(by decide)).toNat : Int) == c) = false := h0
        have e1 : ((((⟨#[65, 66, 85]⟩ : ByteArray)[1]'(by decide)).toNat : Int) == c) = true := h1
        go_enter Tryz.func48, Tryz.ntmps48
        go_wp2_with fail
        go_loopw [6] (fun s6 wr => wr = w ∧ ∃ k : Nat, k ≤ 1 ∧ s6 = .int .i64 k) (fun s6 _ => 5 - (intOf s6).toNat)
        case atStart => exact ⟨rfl, 0, by omega, rfl⟩
        case round =>
          obtain ⟨rfl, k, hk, rfl⟩ := hrel
          have hk2 : k = 0 ∨ k = 1 := by omega
          clear hk
          rcases hk2 with rfl | rfl
          · go_wp2_with fail
            go_roundw
            case rel => exact ⟨trivial, 1, by omega, by go_num⟩
            case measure => simp [intOf]
          · go_wp2_with fail
            go_ret
            rw [HV.out]
            exact ⟨rfl, rfl⟩
      | false =>
        cases h2 : ((85 : Int) == c) with
        | true =>
          have HV : Hid (usesB 3 c = true) := Lib.hid (by rw [HU.out]; simp [h0, h1, h2])
          clear HU
          have e0 : ((((⟨#[65, 66, 85]⟩ : ByteArray)[0]'(by decide)).toNat : Int) == c) = false := h0
          have e1 : ((((⟨#[65, 66, 85]⟩ : ByteArray)[1]'(by decide)).toNat : Int) == c) = false := h1
          have e2 : ((((⟨#[65, 66, 85]⟩ : ByteArray)[2]'(by decide)).toNat : Int) == c) = true := h2
          go_enter Tryz.func48, Tryz.ntmps48
          go_wp2_with fail
          go_loopw [6] (fun s6 wr => wr = w ∧ ∃ k : Nat, k ≤ 2 ∧ s6 = .int .i64 k) (fun s6 _ => 5 - (intOf s6).toNat)
          case atStart => exact ⟨rfl, 0, by omega, rfl⟩
          case round =>
            obtain ⟨rfl, k, hk, rfl⟩ := hrel
            have hk2 : k = 0 ∨ k = 1 ∨ k = 2 := by omega
            clear hk
            rcases hk2 with rfl | rfl | rfl
            · go_wp2_with fail
              go_roundw
              case rel => exact ⟨trivial, 1, by omega, by go_num⟩
              case measure => simp [intOf]
            · go_wp2_with fail
              go_roundw
              case rel => exact ⟨trivial, 2, by omega, by go_num⟩
              case measure => simp [intOf]
            · go_wp2_with fail
              go_ret
              rw [HV.out]
              exact ⟨rfl, rfl⟩
        | false =>
          have HV : Hid (usesB 3 c = false) := Lib.hid (by rw [HU.out]; simp [h0, h1, h2])
          clear HU
          have e0 : ((((⟨#[65, 66, 85]⟩ : ByteArray)[0]'(by decide)).toNat : Int) == c) = false := h0
          have e1 : ((((⟨#[65, 66, 85]⟩ : ByteArray)[1]'(by decide)).toNat : Int) == c) = false := h1
          have e2 : ((((⟨#[65, 66, 85]⟩ : ByteArray)[2]'(by decide)).toNat : Int) == c) = false := h2
          go_enter Tryz.func48, Tryz.ntmps48
          go_wp2_with fail
          go_loopw [6] (fun s6 wr => wr = w ∧ ∃ k : Nat, k ≤ 3 ∧ s6 = .int .i64 k) (fun s6 _ => 5 - (intOf s6).toNat)
          case atStart => exact ⟨rfl, 0, by omega, rfl⟩
          case round =>
            obtain ⟨rfl, k, hk, rfl⟩ := hrel
            have hk2 : k = 0 ∨ k = 1 ∨ k = 2 ∨ k = 3 := by omega
            clear hk
            rcases hk2 with rfl | rfl | rfl | rfl
            · go_wp2_with fail
              go_roundw
              case rel => exact ⟨trivial, 1, by omega, by go_num⟩
              case measure => simp [intOf]
            · go_wp2_with fail
              go_roundw
              case rel => exact ⟨trivial, 2, by omega, by go_num⟩
              case measure => simp [intOf]
            · go_wp2_with fail
              go_roundw
              case rel => exact ⟨trivial, 3, by omega, by go_num⟩
              case measure => simp [intOf]
            · go_wp2_with fail
              go_ret
              rw [HV.out]
              exact ⟨rfl, rfl⟩
  · have HU : Hid (usesB 4 c = (((65 : Int) == c) || ((85 : Int) == c))) := Lib.hid (by simp [usesB, fieldsR])
    cases h0 : ((65 : Int) == c) with
    | true =>
      have HV : Hid (usesB 4 c = true) := Lib.hid (by rw [HU.out]; simp [h0])
      clear HU
      have e0 : ((((⟨#[65, 85]⟩ : ByteArray)[0]'(by decide)).toNat : Int) == c) = true := h0
      go_enter Tryz.func48, Tryz.ntmps48
      go_wp2_with fail
      go_loopw [6] (fun s6 wr => wr = w ∧ ∃ k : Nat, k ≤ 0 ∧ s6 = .int .i64 k) (fun s6 _ => 5 - (intOf s6).toNat)
      case atStart => exact ⟨rfl, 0, by omega, rfl⟩
      case round =>
        obtain ⟨rfl, k, hk, rfl⟩ := hrel
        have hk2 : k = 0 := by omega
        clear hk
        rcases hk2 with rfl
        · go_wp2_with fail
          go_ret
          rw [HV.out]
          exact ⟨rfl, rfl⟩
    | false =>
      cases h1 : ((85 : Int) == c) with
      | true =>
        have HV : Hid (usesB 4 c = true) := Lib.hid (by rw [HU.out]; simp [h0, h1])
        clear HU
        have e0 : ((((⟨#[65, 85]⟩ : ByteArray)[0]'(by decide)).toNat : Int) == c) = false := h0
        have e1 : ((((⟨#[65, 85]⟩ : ByteArray)[1]'(by decide)).toNat : Int) == c) = true := h1
        go_enter Tryz.func48, Tryz.ntmps48
        go_wp2_with fail
        go_loopw [6] (fun s6 wr => wr = w ∧ ∃ k : Nat, k ≤ 1 ∧ s6 = .int .i64 k) (fun s6 _ => 5 - (intOf s6).toNat)
        case atStart => exact ⟨rfl, 0, by omega, rfl⟩
        case round =>
          obtain ⟨rfl, k, hk, rfl⟩ := hrel
          have hk2 : k = 0 ∨ k = 1 := by omega
          clear hk
          rcases hk2 with rfl | rfl
          · go_wp2_with fail
            go_roundw
            case rel => exact ⟨trivial, 1, by omega, by go_num⟩
            case measure => simp [intOf]
          · go_wp2_with fail
            go_ret
            rw [HV.out]
            exact ⟨rfl, rfl⟩
      | false =>
        have HV : Hid (usesB 4 c = false) := Lib.hid (by rw [HU.out]; simp [h0, h1])
        clear HU
        have e0 : ((((⟨#[65, 85]⟩ : ByteArray)[0]'(by decide)).toNat : Int) == c) = false := h0
        have e1 : ((((⟨#[65, 85]⟩ : ByteArray)[1]'(by decide)).toNat : Int) == c) = false := h1
        go_enter Tryz.func48, Tryz.ntmps48
        go_wp2_with fail
        go_loopw [6] (fun s6 wr => wr = w ∧ ∃ k : Nat, k ≤ 2 ∧ s6 = .int .i64 k) (fun s6 _ => 5 - (intOf s6).toNat)
        case atStart => exact ⟨rfl, 0, by omega, rfl⟩
        case round =>
          obtain ⟨rfl, k, hk, rfl⟩ := hrel
          have hk2 : k = 0 ∨ k = 1 ∨ k = 2 := by omega
          clear hk
          rcases hk2 with rfl | rfl | rfl
          · go_wp2_with fail
            go_roundw
            case rel => exact ⟨trivial, 1, by omega, by go_num⟩
            case measure => simp [intOf]
          · go_wp2_with fail
            go_roundw
            case rel => exact ⟨trivial, 2, by omega, by go_num⟩
            case measure => simp [intOf]
          · go_wp2_with fail
            go_ret
            rw [HV.out]
            exact ⟨rfl, rfl⟩
  · have HU : Hid (usesB 5 c = (((65 : Int) == c) || ((73 : Int) == c))) := Lib.hid (by simp [usesB, fieldsR])
    cases h0 : ((65 : Int) == c) with
    | true =>
      have HV : Hid (usesB 5 c = true) := Lib.hid (by rw [HU.out]; simp [h0])
      clear HU
      have e0 : ((((⟨#[65, 73]⟩ : ByteArray)[0]'(by decide)).toNat : Int) == c) = true := h0
      go_enter Tryz.func48, Tryz.ntmps48
      go_wp2_with fail
      go_loopw [6] (fun s6 wr => wr = w ∧ ∃ k : Nat, k ≤ 0 ∧ s6 = .int .i64 k) (fun s6 _ => 5 - (intOf s6).toNat)
      case atStart => exact ⟨rfl, 0, by omega, rfl⟩
      case round =>
        obtain ⟨rfl, k, hk, rfl⟩ := hrel
        have hk2 : k = 0 := by omega
        clear hk
        rcases hk2 with rfl
        · go_wp2_with fail
          go_ret
          rw [HV.out]
          exact ⟨rfl, rfl⟩
    | false =>
      cases h1 : ((73 : Int) == c) with
      | true =>
        have HV : Hid (usesB 5 c = true) := Lib.hid (by rw [HU.out]; simp [h0, h1])
        clear HU
        have e0 : ((((⟨#[65, 73]⟩ : ByteArray)[0]'(by decide)).toNat : Int) == c) = false := h0
        have e1 : ((((⟨#[65, 73]⟩ : ByteArray)[1]'(by decide)).toNat : Int) == c) = true := h1
        go_enter Tryz.func48, Tryz.ntmps48
        go_wp2_with fail
        go_loopw [6] (fun s6 wr => wr = w ∧ ∃ k : Nat, k ≤ 1 ∧ s6 = .int .i64 k) (fun s6 _ => 5 - (intOf s6).toNat)
        case atStart => exact ⟨rfl, 0, by omega, rfl⟩
        case round =>
          obtain ⟨rfl, k, hk, rfl⟩ := hrel
          have hk2 : k = 0 ∨ k = 1 := by omega
          clear hk
          rcases hk2 with rfl | rfl
          · go_wp2_with fail
            go_roundw
            case rel => exact ⟨trivial, 1, by omega, by go_num⟩
            case measure => simp [intOf]
          · go_wp2_with fail
            go_ret
            rw [HV.out]
            exact ⟨rfl, rfl⟩
      | false =>
        have HV : Hid (usesB 5 c = false) := Lib.hid (by rw [HU.out]; simp [h0, h1])
        clear HU
        have e0 : ((((⟨#[65, 73]⟩ : ByteArray)[0]'(by decide)).toNat : Int) == c) = false := h0
        have e1 : ((((⟨#[65, 73]⟩ : ByteArray)[1]'(by decide)).toNat : Int) == c) = false := h1
        go_enter Tryz.func48, Tryz.ntmps48
        go_wp2_with fail
        go_loopw [6] (fun s6 wr => wr = w ∧ ∃ k : Nat, k ≤ 2 ∧ s6 = .int .i64 k) (fun s6 _ => 5 - (intOf s6).toNat)
        case atStart => exact ⟨rfl, 0, by omega, rfl⟩
        case round =>
          obtain ⟨rfl, k, hk, rfl⟩ := hrel
          have hk2 : k = 0 ∨ k = 1 ∨ k = 2 := by omega
          clear hk
          rcases hk2 with rfl | rfl | rfl
          · go_wp2_with fail
            go_roundw
            case rel => exact ⟨trivial, 1, by omega, by go_num⟩
            case measure => simp [intOf]
          · go_wp2_with fail
            go_roundw
            case rel => exact ⟨trivial, 2, by omega, by go_num⟩
            case measure => simp [intOf]
          · go_wp2_with fail
            go_ret
            rw [HV.out]
            exact ⟨rfl, rfl⟩
  · have HU : Hid (usesB 6 c = (((66 : Int) == c) || ((73 : Int) == c))) := Lib.hid (by simp [usesB, fieldsR])
    cases h0 : ((66 : Int) == c) with
    | true =>
      have HV : Hid (usesB 6 c = true) := Lib.hid (by rw [HU.out]; simp [h0])
      clear HU
      have e0 : ((((⟨#[66, 73]⟩ : ByteArray)[0]'(by decide)).toNat : Int) == c) = true := h0
      go_enter Tryz.func48, Tryz.ntmps48
      go_wp2_with fail
      go_loopw [6] (fun s6 wr => wr = w ∧ ∃ k : Nat, k ≤ 0 ∧ s6 = .int .i64 k) (fun s6 _ => 5 - (intOf s6).toNat)
      case atStart => exact ⟨rfl, 0, by omega, rfl⟩
      case round =>
        obtain ⟨rfl, k, hk, rfl⟩ := hrel
        have hk2 : k = 0 := by omega
        clear hk
        rcases hk2 with rfl
        · go_wp2_with fail
          go_ret
          rw [HV.out]
          exact ⟨rfl, rfl⟩
    | false =>
      cases h1 : ((73 : Int) == c) with
      | true =>
        have HV : Hid (usesB 6 c = true) := Lib.hid (by rw [HU.out]; simp [h0, h1])
        clear HU
        have e0 : ((((⟨#[66, 73]⟩ : ByteArray)[0]'(by decide)).toNat : Int) == c) = false := h0
        have e1 : ((((⟨#[66, 73]⟩ : ByteArray)[1]'(by decide)).toNat : Int) == c) = true := h1
        go_enter Tryz.func48, Tryz.ntmps48
        go_wp2_with fail
        go_loopw [6] (fun s6 wr => wr = w ∧ ∃ k : Nat, k ≤ 1 ∧ s6 = .int .i64 k) (fun s6 _ => 5 - (intOf s6).toNat)
        case atStart => exact ⟨rfl, 0, by omega, rfl⟩
        case round =>
          obtain ⟨rfl, k, hk, rfl⟩ := hrel
          have hk2 : k = 0 ∨ k = 1 := by omega
          clear hk
          rcases hk2 with rfl | rfl
          · go_wp2_with fail
            go_roundw
            case rel => exact ⟨trivial, 1, by omega, by go_num⟩
            case measure => simp [intOf]
          · go_wp2_with fail
            go_ret
            rw [HV.out]
            exact ⟨rfl, rfl⟩
      | false =>
        have HV : Hid (usesB 6 c = false) := Lib.hid (by rw [HU.out]; simp [h0, h1])
        clear HU
        have e0 : ((((⟨#[66, 73]⟩ : ByteArray)[0]'(by decide)).toNat : Int) == c) = false := h0
        have e1 : ((((⟨#[66, 73]⟩ : ByteArray)[1]'(by decide)).toNat : Int) == c) = false := h1
        go_enter Tryz.func48, Tryz.ntmps48
        go_wp2_with fail
        go_loopw [6] (fun s6 wr => wr = w ∧ ∃ k : Nat, k ≤ 2 ∧ s6 = .int .i64 k) (fun s6 _ => 5 - (intOf s6).toNat)
        case atStart => exact ⟨rfl, 0, by omega, rfl⟩
        case round =>
          obtain ⟨rfl, k, hk, rfl⟩ := hrel
          have hk2 : k = 0 ∨ k = 1 ∨ k = 2 := by omega
          clear hk
          rcases hk2 with rfl | rfl | rfl
          · go_wp2_with fail
            go_roundw
            case rel => exact ⟨trivial, 1, by omega, by go_num⟩
            case measure => simp [intOf]
          · go_wp2_with fail
            go_roundw
            case rel => exact ⟨trivial, 2, by omega, by go_num⟩
            case measure => simp [intOf]
          · go_wp2_with fail
            go_ret
            rw [HV.out]
            exact ⟨rfl, rfl⟩
  · have HU : Hid (usesB 7 c = (((85 : Int) == c))) := Lib.hid (by simp [usesB, fieldsR])
    cases h0 : ((85 : Int) == c) with
    | true =>
      have HV : Hid (usesB 7 c = true) := Lib.hid (by rw [HU.out]; simp [h0])
      clear HU
      have e0 : ((((⟨#[85]⟩ : ByteArray)[0]'(by decide)).toNat : Int) == c) = true := h0
      go_enter Tryz.func48, Tryz.ntmps48
      go_wp2_with fail
      go_loopw [6] (fun s6 wr => wr = w ∧ ∃ k : Nat, k ≤ 0 ∧ s6 = .int .i64 k) (fun s6 _ => 5 - (intOf s6).toNat)
      case atStart => exact ⟨rfl, 0, by omega, rfl⟩
      case round =>
        obtain ⟨rfl, k, hk, rfl⟩ := hrel
        have hk2 : k = 0 := by omega
        clear hk
        rcases hk2 with rfl
        · go_wp2_with fail
          go_ret
          rw [HV.out]
          exact ⟨rfl, rfl⟩
    | false =>
      have HV : Hid (usesB 7 c = false) := Lib.hid (by rw [HU.out]; simp [h0])
      clear HU
      have e0 : ((((⟨#[85]⟩ : ByteArray)[0]'(by decide)).toNat : Int) == c) = false := h0
      go_enter Tryz.func48, Tryz.ntmps48
      go_wp2_with fail
      go_loopw [6] (fun s6 wr => wr = w ∧ ∃ k : Nat, k ≤ 1 ∧ s6 = .int .i64 k) (fun s6 _ => 5 - (intOf s6).toNat)
      case atStart => exact ⟨rfl, 0, by omega, rfl⟩
      case round =>
        obtain ⟨rfl, k, hk, rfl⟩ := hrel
        have hk2 : k = 0 ∨ k = 1 := by omega
        clear hk
        rcases hk2 with rfl | rfl
        · go_wp2_with fail
          go_roundw
          case rel => exact ⟨trivial, 1, by omega, by go_num⟩
          case measure => simp [intOf]
        · go_wp2_with fail
          go_ret
          rw [HV.out]
          exact ⟨rfl, rfl⟩
end Go.Proofs.YtecmeegnjjhilaaGreatDoor

/- ferryref04.Check: the document's check is the program's. -/
namespace Go.Proofs.YtecmeegnjjhilaaGreatDoor
open Go.RowKit
theorem fits_within (n : Int) (u : Bool) : fitsB n u = withinB u n 0 15 := by
  cases u with
  | false => simp [fitsB, withinB]
  | true =>
    simp only [fitsB, withinB, if_true, Bool.true_and]
    by_cases h : n = 0
    · subst h; rfl
    · rw [show (n == 0) = false from by simpa using h, Bool.false_or]
theorem uses_all : ([1, 2, 3, 4, 5, 6, 7] : List Int).all (fun f => usesB f 65 == (usesOf f).a && usesB f 66 == (usesOf f).b && usesB f 67 == (usesOf f).c && usesB f 73 == ((usesOf f).imm && (usesOf f).signed) && usesB f 85 == ((usesOf f).imm && !(usesOf f).signed)) = true := by decide +kernel
theorem uses_parts (f : Int) (h1 : 1 ≤ f) (h7 : f ≤ 7) : usesB f 65 = (usesOf f).a ∧ usesB f 66 = (usesOf f).b ∧ usesB f 67 = (usesOf f).c ∧ usesB f 73 = ((usesOf f).imm && (usesOf f).signed) ∧ usesB f 85 = ((usesOf f).imm && !(usesOf f).signed) := by
  have := List.all_eq_true.1 uses_all f (by simp; omega)
  simp only [Bool.and_eq_true, beq_iff_eq] at this
  obtain ⟨⟨⟨⟨a, b⟩, c⟩, d⟩, e⟩ := this
  exact ⟨a, b, c, d, e⟩
/-- The Imm, as the document asks it. -/
def immB (sI sU : Bool) (n : Int) : Bool := if sI then withinB true n (-32768) 32767 else withinB sU n 0 65535
theorem imm_within (u : Uses) (n : Int) : (decide (u.lo ≤ n) && decide (n ≤ u.hi)) = immB (u.imm && u.signed) (u.imm && !u.signed) n := by
  obtain ⟨ua, ub, uc, ui, us⟩ := u
  cases ui <;> cases us
  all_goals simp only [Uses.lo, Uses.hi, immB, withinB, Bool.and_true, Bool.and_false, Bool.not_true, Bool.not_false, if_true, if_false, Bool.false_eq_true]
  all_goals
    by_cases h : n = 0
    · subst h; rfl
    · rw [show (n == 0) = false from by simpa using h]
      by_cases h1 : 0 ≤ n <;> by_cases h2 : n ≤ 0 <;> simp [h1, h2] <;> omega
theorem check_ref (i : Ins) (f : Int) (hf : formOf i.op = f) (h0 : f ≠ 0) : checkC i = if fitsB i.a (usesOf f).a && fitsB i.b (usesOf f).b && fitsB i.c (usesOf f).c && immB ((usesOf f).imm && (usesOf f).signed) ((usesOf f).imm && !(usesOf f).signed) i.imm then 0 else 4 := by
  unfold checkC
  simp only [hf, if_neg h0]
  rw [Bool.and_assoc (fitsB i.a (usesOf f).a && fitsB i.b (usesOf f).b && fitsB i.c (usesOf f).c), imm_within]

attribute [local irreducible] Calls in
set_option maxHeartbeats 600000 in
set_option maxRecDepth 100000 in
theorem RCheck_any (i : Ins) (w : World) : Calls Tryz.prog 19 #[i.val] w fun e w' => e = .returned (.int .i64 (checkC i)) ∧ Below w.heap.size w w' := by
  obtain ⟨op, a, b, c, imm⟩ := i
  have hbox : Below w.heap.size w (w.alloc (.cells #[.int .i64 op, .int .i64 a, .int .i64 b, .int .i64 c, .int .i64 imm] 27)) := (Below.refl _ _).alloc (Nat.le_refl _) _
  have hI := Blk.new w 27 #[.int .i64 op, .int .i64 a, .int .i64 b, .int .i64 c, .int .i64 imm]
  have HF := Lib.hid (RForm_any op (w.alloc (.cells #[.int .i64 op, .int .i64 a, .int .i64 b, .int .i64 c, .int .i64 imm] 27)))
  obtain ⟨hf0, hf7⟩ := form_range op
  by_cases h0 : formOf op = 0
  · have HC : Hid (checkC ⟨op, a, b, c, imm⟩ = 7) := Lib.hid (by unfold checkC; simp only [h0]; rfl)
    rw [h0] at HF
    clear h0 hf0 hf7
    unfold Ins.val
    go_enter Tryz.func19, Tryz.ntmps19
    go_wp2_with fail
    refine HF.out.mono ?_
    rintro e w' ⟨rfl, rfl⟩
    go_wp2
    go_ret
    exact ⟨by rw [HC.out]; rfl, hbox⟩
  · have HU : ∀ (k : Int) (W : World), Calls Tryz.prog 48 #[.int .i64 (formOf op), .int .u8 k] W fun e w' => e = .returned (.bool (usesB (formOf op) k)) ∧ w' = W := fun k W => (Uses_any (formOf op) k ⟨hf0, hf7⟩ W).mono fun _ _ h => ⟨h.1, h.2.symm⟩
    have HWt : ∀ (u : Bool) (n lo hi : Int) (W : World), Calls Tryz.prog 47 #[.bool u, .int .i64 n, .int .i64 lo, .int .i64 hi] W fun e w' => e = .returned (.bool (withinB u n lo hi)) ∧ w' = W := fun u n lo hi W => (within_any u n lo hi W).mono fun _ _ h => ⟨h.1, h.2.symm⟩
    obtain ⟨ha, hb, hc, hi, hu⟩ := uses_parts (formOf op) (by omega) hf7
    have hC := check_ref ⟨op, a, b, c, imm⟩ (formOf op) rfl h0
    rw [← hi, ← hu, ← ha, ← hb, ← hc, fits_within, fits_within, fits_within] at hC
    have HC := Lib.hid hC
    have hf : (formOf op == 0) = false := by simpa using h0
    have U65 := Lib.hid (HU 65)
    have U66 := Lib.hid (HU 66)
    have U67 := Lib.hid (HU 67)
    have U73 := Lib.hid (HU 73)
    have U85 := Lib.hid (HU 85)
    clear ha hb hc hi hu h0 hf0 hf7 hC HU
    unfold immB at HC
    simp only at HC
    unfold Ins.val
    generalize checkC ⟨op, a, b, c, imm⟩ = cc at HC ⊢
    generalize usesB (formOf op) 65 = ua at HC U65
    generalize usesB (formOf op) 66 = ub at HC U66
    generalize usesB (formOf op) 67 = uc at HC U67
    generalize usesB (formOf op) 73 = sI at HC U73
    generalize usesB (formOf op) 85 = sU at HC U85
    generalize formOf op = f at HF HC U65 U66 U67 U73 U85 hf
    simp only
    have Wa := Lib.hid (HWt ua a 0 15)
    have Wb := Lib.hid (HWt ub b 0 15)
    have Wc := Lib.hid (HWt uc c 0 15)
    have Wi := Lib.hid (HWt true imm (-32768) 32767)
    have Wu := Lib.hid (HWt sU imm 0 65535)
    clear HWt
    cases hA : withinB ua a 0 15 with
    | false =>
      rw [hA] at Wa
      have HV : Hid (cc = 4) := Lib.hid (by rw [HC.out]; simp [hA])
      clear HC hA
      go_enter Tryz.func19, Tryz.ntmps19
      go_wp2_with fail
      refine HF.out.mono ?_
      rintro e w' ⟨rfl, rfl⟩
      go_wp2_with fail
      go_quiet (first | (go_at_call 48; first | exact Calls.quiet_of_same (U65.out _) | exact Calls.quiet_of_same (U66.out _) | exact Calls.quiet_of_same (U67.out _) | exact Calls.quiet_of_same (U73.out _) | exact Calls.quiet_of_same (U85.out _)) | (go_at_call 47; first | exact Calls.quiet_of_same (Wa.out _) | exact Calls.quiet_of_same (Wb.out _) | exact Calls.quiet_of_same (Wc.out _) | exact Calls.quiet_of_same (Wi.out _) | exact Calls.quiet_of_same (Wu.out _)))
      go_wp2_with fail
      go_ret
      exact ⟨by rw [HV.out]; rfl, below_drewN hbox _⟩
    | true =>
      rw [hA] at Wa
      cases hB : withinB ub b 0 15 with
      | false =>
        rw [hB] at Wb
        have HV : Hid (cc = 4) := Lib.hid (by rw [HC.out]; simp [hA, hB])
        clear HC hA hB
        go_enter Tryz.func19, Tryz.ntmps19
        go_wp2_with fail
        refine HF.out.mono ?_
        rintro e w' ⟨rfl, rfl⟩
        go_wp2_with fail
        go_quiet (first | (go_at_call 48; first | exact Calls.quiet_of_same (U65.out _) | exact Calls.quiet_of_same (U66.out _) | exact Calls.quiet_of_same (U67.out _) | exact Calls.quiet_of_same (U73.out _) | exact Calls.quiet_of_same (U85.out _)) | (go_at_call 47; first | exact Calls.quiet_of_same (Wa.out _) | exact Calls.quiet_of_same (Wb.out _) | exact Calls.quiet_of_same (Wc.out _) | exact Calls.quiet_of_same (Wi.out _) | exact Calls.quiet_of_same (Wu.out _)))
        go_wp2_with fail
        go_ret
        exact ⟨by rw [HV.out]; rfl, below_drewN hbox _⟩
      | true =>
        rw [hB] at Wb
        cases hD : withinB uc c 0 15 with
        | false =>
          rw [hD] at Wc
          have HV : Hid (cc = 4) := Lib.hid (by rw [HC.out]; simp [hA, hB, hD])
          clear HC hA hB hD
          go_enter Tryz.func19, Tryz.ntmps19
          go_wp2_with fail
          refine HF.out.mono ?_
          rintro e w' ⟨rfl, rfl⟩
          go_wp2_with fail
          go_quiet (first | (go_at_call 48; first | exact Calls.quiet_of_same (U65.out _) | exact Calls.quiet_of_same (U66.out _) | exact Calls.quiet_of_same (U67.out _) | exact Calls.quiet_of_same (U73.out _) | exact Calls.quiet_of_same (U85.out _)) | (go_at_call 47; first | exact Calls.quiet_of_same (Wa.out _) | exact Calls.quiet_of_same (Wb.out _) | exact Calls.quiet_of_same (Wc.out _) | exact Calls.quiet_of_same (Wi.out _) | exact Calls.quiet_of_same (Wu.out _)))
          go_wp2_with fail
          go_ret
          exact ⟨by rw [HV.out]; rfl, below_drewN hbox _⟩
        | true =>
          rw [hD] at Wc
          cases hS : sI with
          | false =>
            rw [hS] at U73
            cases hW : withinB sU imm 0 65535 with
            | false =>
              rw [hW] at Wu
              have HV : Hid (cc = 4) := Lib.hid (by rw [HC.out]; simp [hA, hB, hD, hS, hW])
              clear HC hA hB hD hS hW
              go_enter Tryz.func19, Tryz.ntmps19
              go_wp2_with fail
              refine HF.out.mono ?_
              rintro e w' ⟨rfl, rfl⟩
              go_wp2_with fail
              go_quiet (first | (go_at_call 48; first | exact Calls.quiet_of_same (U65.out _) | exact Calls.quiet_of_same (U66.out _) | exact Calls.quiet_of_same (U67.out _) | exact Calls.quiet_of_same (U73.out _) | exact Calls.quiet_of_same (U85.out _)) | (go_at_call 47; first | exact Calls.quiet_of_same (Wa.out _) | exact Calls.quiet_of_same (Wb.out _) | exact Calls.quiet_of_same (Wc.out _) | exact Calls.quiet_of_same (Wi.out _) | exact Calls.quiet_of_same (Wu.out _)))
              go_wp2_with fail
              have d4 : ((w.alloc (.cells #[.int .i64 op, .int .i64 a, .int .i64 b, .int .i64 c, .int .i64 imm] 27)).drewN nq).cell? ⟨w.heap.size, 4, none⟩ = some (.int .i64 imm) := hI.cell 4
              have hbd : Below w.heap.size w ((w.alloc (.cells #[.int .i64 op, .int .i64 a, .int .i64 b, .int .i64 c, .int .i64 imm] 27)).drewN nq) := below_drewN hbox nq
              generalize (w.alloc (.cells #[.int .i64 op, .int .i64 a, .int .i64 b, .int .i64 c, .int .i64 imm] 27)).drewN nq = wy at d4 hbd ⊢
              go_quiet (first | (go_at_call 48; first | exact Calls.quiet_of_same (U65.out _) | exact Calls.quiet_of_same (U66.out _) | exact Calls.quiet_of_same (U67.out _) | exact Calls.quiet_of_same (U73.out _) | exact Calls.quiet_of_same (U85.out _)) | (go_at_call 47; first | exact Calls.quiet_of_same (Wa.out _) | exact Calls.quiet_of_same (Wb.out _) | exact Calls.quiet_of_same (Wc.out _) | exact Calls.quiet_of_same (Wi.out _) | exact Calls.quiet_of_same (Wu.out _)))
              go_wp2_with fail
              go_ret
              exact ⟨by rw [HV.out]; rfl, below_drewN hbd _⟩
            | true =>
              rw [hW] at Wu
              have HV : Hid (cc = 0) := Lib.hid (by rw [HC.out]; simp [hA, hB, hD, hS, hW])
              clear HC hA hB hD hS hW
              go_enter Tryz.func19, Tryz.ntmps19
              go_wp2_with fail
              refine HF.out.mono ?_
              rintro e w' ⟨rfl, rfl⟩
              go_wp2_with fail
              go_quiet (first | (go_at_call 48; first | exact Calls.quiet_of_same (U65.out _) | exact Calls.quiet_of_same (U66.out _) | exact Calls.quiet_of_same (U67.out _) | exact Calls.quiet_of_same (U73.out _) | exact Calls.quiet_of_same (U85.out _)) | (go_at_call 47; first | exact Calls.quiet_of_same (Wa.out _) | exact Calls.quiet_of_same (Wb.out _) | exact Calls.quiet_of_same (Wc.out _) | exact Calls.quiet_of_same (Wi.out _) | exact Calls.quiet_of_same (Wu.out _)))
              go_wp2_with fail
              have d4 : ((w.alloc (.cells #[.int .i64 op, .int .i64 a, .int .i64 b, .int .i64 c, .int .i64 imm] 27)).drewN nq).cell? ⟨w.heap.size, 4, none⟩ = some (.int .i64 imm) := hI.cell 4
              have hbd : Below w.heap.size w ((w.alloc (.cells #[.int .i64 op, .int .i64 a, .int .i64 b, .int .i64 c, .int .i64 imm] 27)).drewN nq) := below_drewN hbox nq
              generalize (w.alloc (.cells #[.int .i64 op, .int .i64 a, .int .i64 b, .int .i64 c, .int .i64 imm] 27)).drewN nq = wy at d4 hbd ⊢
              go_quiet (first | (go_at_call 48; first | exact Calls.quiet_of_same (U65.out _) | exact Calls.quiet_of_same (U66.out _) | exact Calls.quiet_of_same (U67.out _) | exact Calls.quiet_of_same (U73.out _) | exact Calls.quiet_of_same (U85.out _)) | (go_at_call 47; first | exact Calls.quiet_of_same (Wa.out _) | exact Calls.quiet_of_same (Wb.out _) | exact Calls.quiet_of_same (Wc.out _) | exact Calls.quiet_of_same (Wi.out _) | exact Calls.quiet_of_same (Wu.out _)))
              go_wp2_with fail
              go_ret
              exact ⟨by rw [HV.out]; rfl, below_drewN hbd _⟩
          | true =>
            rw [hS] at U73
            cases hW : withinB true imm (-32768) 32767 with
            | false =>
              rw [hW] at Wi
              have HV : Hid (cc = 4) := Lib.hid (by rw [HC.out]; simp [hA, hB, hD, hS, hW])
              clear HC hA hB hD hS hW
              go_enter Tryz.func19, Tryz.ntmps19
              go_wp2_with fail
              refine HF.out.mono ?_
              rintro e w' ⟨rfl, rfl⟩
              go_wp2_with fail
              go_quiet (first | (go_at_call 48; first | exact Calls.quiet_of_same (U65.out _) | exact Calls.quiet_of_same (U66.out _) | exact Calls.quiet_of_same (U67.out _) | exact Calls.quiet_of_same (U73.out _) | exact Calls.quiet_of_same (U85.out _)) | (go_at_call 47; first | exact Calls.quiet_of_same (Wa.out _) | exact Calls.quiet_of_same (Wb.out _) | exact Calls.quiet_of_same (Wc.out _) | exact Calls.quiet_of_same (Wi.out _) | exact Calls.quiet_of_same (Wu.out _)))
              go_wp2_with fail
              have d4 : ((w.alloc (.cells #[.int .i64 op, .int .i64 a, .int .i64 b, .int .i64 c, .int .i64 imm] 27)).drewN nq).cell? ⟨w.heap.size, 4, none⟩ = some (.int .i64 imm) := hI.cell 4
              have hbd : Below w.heap.size w ((w.alloc (.cells #[.int .i64 op, .int .i64 a, .int .i64 b, .int .i64 c, .int .i64 imm] 27)).drewN nq) := below_drewN hbox nq
              generalize (w.alloc (.cells #[.int .i64 op, .int .i64 a, .int .i64 b, .int .i64 c, .int .i64 imm] 27)).drewN nq = wy at d4 hbd ⊢
              go_quiet (first | (go_at_call 48; first | exact Calls.quiet_of_same (U65.out _) | exact Calls.quiet_of_same (U66.out _) | exact Calls.quiet_of_same (U67.out _) | exact Calls.quiet_of_same (U73.out _) | exact Calls.quiet_of_same (U85.out _)) | (go_at_call 47; first | exact Calls.quiet_of_same (Wa.out _) | exact Calls.quiet_of_same (Wb.out _) | exact Calls.quiet_of_same (Wc.out _) | exact Calls.quiet_of_same (Wi.out _) | exact Calls.quiet_of_same (Wu.out _)))
              go_wp2_with fail
              go_ret
              exact ⟨by rw [HV.out]; rfl, below_drewN hbd _⟩
            | true =>
              rw [hW] at Wi
              have HV : Hid (cc = 0) := Lib.hid (by rw [HC.out]; simp [hA, hB, hD, hS, hW])
              clear HC hA hB hD hS hW
              go_enter Tryz.func19, Tryz.ntmps19
              go_wp2_with fail
              refine HF.out.mono ?_
              rintro e w' ⟨rfl, rfl⟩
              go_wp2_with fail
              go_quiet (first | (go_at_call 48; first | exact Calls.quiet_of_same (U65.out _) | exact Calls.quiet_of_same (U66.out _) | exact Calls.quiet_of_same (U67.out _) | exact Calls.quiet_of_same (U73.out _) | exact Calls.quiet_of_same (U85.out _)) | (go_at_call 47; first | exact Calls.quiet_of_same (Wa.out _) | exact Calls.quiet_of_same (Wb.out _) | exact Calls.quiet_of_same (Wc.out _) | exact Calls.quiet_of_same (Wi.out _) | exact Calls.quiet_of_same (Wu.out _)))
              go_wp2_with fail
              have d4 : ((w.alloc (.cells #[.int .i64 op, .int .i64 a, .int .i64 b, .int .i64 c, .int .i64 imm] 27)).drewN nq).cell? ⟨w.heap.size, 4, none⟩ = some (.int .i64 imm) := hI.cell 4
              have hbd : Below w.heap.size w ((w.alloc (.cells #[.int .i64 op, .int .i64 a, .int .i64 b, .int .i64 c, .int .i64 imm] 27)).drewN nq) := below_drewN hbox nq
              generalize (w.alloc (.cells #[.int .i64 op, .int .i64 a, .int .i64 b, .int .i64 c, .int .i64 imm] 27)).drewN nq = wy at d4 hbd ⊢
              go_quiet (first | (go_at_call 48; first | exact Calls.quiet_of_same (U65.out _) | exact Calls.quiet_of_same (U66.out _) | exact Calls.quiet_of_same (U67.out _) | exact Calls.quiet_of_same (U73.out _) | exact Calls.quiet_of_same (U85.out _)) | (go_at_call 47; first | exact Calls.quiet_of_same (Wa.out _) | exact Calls.quiet_of_same (Wb.out _) | exact Calls.quiet_of_same (Wc.out _) | exact Calls.quiet_of_same (Wi.out _) | exact Calls.quiet_of_same (Wu.out _)))
              go_wp2_with fail
              go_ret
              exact ⟨by rw [HV.out]; rfl, below_drewN hbd _⟩
end Go.Proofs.YtecmeegnjjhilaaGreatDoor
