/- isa.List: the listing of words. -/
import Derived.Test.YtecmeegnjjhilaaGreatDoorListT
import Derived.Test.YtecmeegnjjhilaaGreatDoorWriter
import Derived.Test.YtecmeegnjjhilaaGreatDoorBytes
namespace Go.Proofs.YtecmeegnjjhilaaGreatDoor
open Go.RowKit

theorem BuilderAt.below {T e : TypeId} {B b : Nat} {p : Value} {bs : List Value} {w w' : World} (h : Lib.BuilderAt T e B b p bs w) (hb : Below w.heap.size w w') : Lib.BuilderAt T e B b p bs w' := by
  have hlt := h.lt
  obtain ⟨hB, v, hc, hown, hne⟩ := h
  exact ⟨hB, v, (hb.block b hlt).trans hc, own_below hown hb, hne⟩
theorem IsBuilder.below {T e : TypeId} {B b : Nat} {bs : List Value} {w w' : World} (h : Lib.IsBuilder T e B b bs w) (hb : Below w.heap.size w w') : Lib.IsBuilder T e B b bs w' := by
  rcases h with h | h
  · exact .inl (BuilderAt.below h hb)
  · exact .inr (BuilderAt.below h hb)
theorem IsBuilder.lt {T e : TypeId} {B b : Nat} {bs : List Value} {w : World} (h : Lib.IsBuilder T e B b bs w) : b < w.heap.size := by
  rcases h with h | h
  · exact h.lt
  · exact h.lt

set_option maxHeartbeats 4000000 in
set_option maxRecDepth 100000 in
theorem List_any (er : Nat → Addr) (A : Option Addr) (cp : Nat) (xs : List Int) (hn : xs.length ≤ 10000000) (hx : Word32 xs) (w : World) (E : Env er w) (hA : NumsAt w .u32 A xs.length xs) :
    Calls Tryz.prog 34 #[.slice A xs.length cp] w fun e w' => e = .returned (.string ⟨(listT xs).toArray⟩) ∧ Below w.heap.size w w' := by
  have HE := Lib.hid E
  generalize hN : xs.length = N at hn hA ⊢
  have HN := Lib.hid hN
  have HX := Lib.hid hx
  have HA := Lib.hid hA
  clear hx hN hA E
  have hI0 : Lib.IsBuilder 128 5 w.heap.size w.heap.size [] (w.alloc (.cells #[.pointer none, .slice none 0 0] 128)) := Lib.fresh_isBuilder _ _ w
  have hb0 := (Below.refl w.heap.size w).alloc (Nat.le_refl _) (.cells #[.pointer none, .slice none 0 0] 128)
  have HL0 : Hid (listT (xs.take 0) = []) := Lib.hid rfl
  go_enter Tryz.func34, Tryz.ntmps34
  go_wp2_with fail
  generalize w.alloc (.cells #[.pointer none, .slice none 0 0] 128) = w0 at hI0 hb0 ⊢
  go_loopw [11] (fun s11 wr => ∃ (k : Nat) (L : List UInt8), k ≤ N ∧ s11 = .int .i64 k ∧ L.length ≤ k * 41 ∧ Hid (listT (xs.take k) = L) ∧ Lib.IsBuilder 128 5 w.heap.size w.heap.size (Lib.byteCells L) wr ∧ Below w.heap.size w wr) (fun s11 _ => N - (intOf s11).toNat)
  case atStart => exact ⟨0, [], by omega, rfl, by simp, HL0, hI0, hb0⟩
  case round =>
    obtain ⟨k, L, hk, rfl, hLk, HL, hI, hb⟩ := hrel
    clear hI0 hb0 HL0
    by_cases hlt : k < N
    · obtain ⟨n, hn2⟩ : ∃ n, xs[k]? = some n := ⟨_, List.getElem?_eq_getElem (by rw [HN.out]; exact hlt)⟩
      obtain ⟨b, o, rfl, hc⟩ := HA.out.2 (by omega)
      obtain ⟨n0, n1⟩ := HX.out n (List.mem_of_getElem? hn2)
      have k0 : wr.cell? ⟨b, o + k, none⟩ = some (.int .u32 n) := cell_below (hc _ _ hn2) hb
      have HL2 : Hid (listT (xs.take (k + 1)) = L ++ (lineT n ++ [10])) := Lib.hid (by rw [List.take_add_one, hn2, Option.toList_some, list_snoc, HL.out])
      have hln := line_len n n0 n1
      have hD := fun W (h : Env er W) => Decode_any n n0 n1 er W h
      have HLine : Hid (lineT n = if decC n = 0 then printT (decI n) else wWord ++ 32 :: Lib.decDigits n.toNat) := Lib.hid rfl
      have HPc : Hid (decC n = 0 → checkC (decI n) = 0) := Lib.hid (fun h => (dec_bits n h).1)
      have hwl : wr.heap.size = wr.heap.size := rfl
      obtain ⟨u, rfl⟩ := Int.eq_ofNat_of_zero_le n0
      have hFu := FormatUint_any u (by omega) wr (HE.out.below hb).pow
      have hdl := dec_upto u 10 (by omega) (by omega)
      rw [Int.toNat_natCast] at HLine
      have HFu := Lib.hid hFu
      have HP0 := Lib.hid (fun W (h : Env er W) => Print_any (decI u) er W h)
      generalize hj : decI (u : Int) = j at hD HLine HPc HP0
      generalize decC (u : Int) = cd at hD HLine HPc
      generalize Lib.decDigits u = dg at HFu HLine hdl
      generalize lineT (u : Int) = LT at HL2 hln HLine
      have HD := Lib.hid hD
      clear hn2 hc HL HA hD hFu hj
      obtain ⟨Y, hY⟩ : ∃ Y : ByteArray, ((⟨#[46, 119, 111, 114, 100, 32]⟩ : ByteArray) ++ ⟨dg.toArray⟩) = Y := ⟨_, rfl⟩
      have hYs : Y.size = 6 + dg.length := by rw [← hY, ByteArray.size_append]; simp [ByteArray.size]
      have HYd : Hid (Y.data.toList = wWord ++ 32 :: dg) := Lib.hid (by rw [← hY, Joins.data_append]; rfl)
      have hcat : ¬ 9223372036854775807 < 6 + dg.length := by omega
      go_wp2_with fail
      refine HFu.out.mono ?_
      rintro e w1 ⟨rfl, hb1⟩
      have hb01 : Below w.heap.size w w1 := hb.trans (hb1.mono hb.size)
      have hI1 := IsBuilder.below hI hb1
      clear hI hb hb1 HFu k0
      go_wp2_with fail
      refine (HD.out w1 (HE.out.below hb01)).mono ?_
      rintro e w2 ⟨rfl, hb2⟩
      have hb02 : Below w.heap.size w w2 := hb01.trans (hb2.mono hb01.size)
      have hI2 := IsBuilder.below hI1 hb2
      clear hI1 hb01 hb2 HD
      obtain ⟨jo, ja, jb, jc, jm⟩ := j
      unfold Ins.val at HP0 ⊢
      simp only at HP0
      have hb3 := hb02.alloc hb02.size (.cells #[.int .i64 jo, .int .i64 ja, .int .i64 jb, .int .i64 jc, .int .i64 jm] 27)
      have hI3 := IsBuilder.below hI2 ((Below.refl w2.heap.size w2).alloc (Nat.le_refl _) (.cells #[.int .i64 jo, .int .i64 ja, .int .i64 jb, .int .i64 jc, .int .i64 jm] 27))
      clear hb02 hI2
      by_cases h0 : cd = 0
      · subst h0
        have hch := HPc.out rfl
        have hP := HP0.out _ (HE.out.below hb3)
        rw [hch, if_pos rfl, errV_zero] at hP
        obtain ⟨S, hS⟩ : ∃ S : ByteArray, (⟨(printT ⟨jo, ja, jb, jc, jm⟩).toArray⟩ : ByteArray) = S := ⟨_, rfl⟩
        have hSl : S.data.toList = LT := by rw [← hS, HLine.out, if_pos rfl]
        have hSs : S.size ≤ 40 := by rw [Lib.size_eq, hSl]; exact hln
        have HSl := Lib.hid hSl
        rw [hS] at hP
        have HP := Lib.hid hP
        have hcat2 : ¬ 9223372036854775807 < S.size + 1 := by omega
        have hw10 : (⟨#[10]⟩ : ByteArray).size = 1 := rfl
        have HW := Lib.hid (fun W h hBw => WriteString_any w.heap.size w.heap.size (Lib.byteCells L) (S ++ ⟨#[10]⟩) W h (by rw [Lib.byteCells_length, ByteArray.size_append]; omega) hBw)
        have HBs : Hid (Lib.byteCells L ++ Lib.strCells (S ++ ⟨#[10]⟩) = Lib.byteCells (L ++ (LT ++ [10]))) := Lib.hid (by
          rw [Lib.strCells_eq, Joins.data_append, ← Lib.byteCells_append, HSl.out])
        rw [errV_zero]
        clear hP hch hS hSl HLine HP0 HPc HYd hw10
        go_wp2_with fail
        refine HP.out.mono ?_
        rintro e w4 ⟨rfl, hb4⟩
        have hb04 : Below w.heap.size w w4 := hb3.trans (hb4.mono hb3.size)
        have hI4 := IsBuilder.below hI3 hb4
        clear HP hb3 hI3 hb4
        go_wp2_with fail
        refine (HW.out w4 hI4 hb04.size).mono ?_
        rintro e w5 ⟨rfl, hI5, hb5⟩
        rw [HBs.out] at hI5
        have hb05 : Below w.heap.size w w5 := hb04.trans hb5
        clear HW HBs HSl hI4 hb04 hb5
        go_wp2_with fail
        go_roundw
        case rel => exact ⟨k + 1, L ++ (LT ++ [10]), by omega, by go_num, by simp only [List.length_append, List.length_cons, List.length_nil]; omega, HL2, .inr hI5, hb05⟩
        case measure => simp [intOf]; omega
      · have HSl : Hid (Y.data.toList = LT) := Lib.hid (by rw [HYd.out, HLine.out, if_neg h0])
        have hcat2 : ¬ 9223372036854775807 < Y.size + 1 := by omega
        have hw10 : (⟨#[10]⟩ : ByteArray).size = 1 := rfl
        have HW := Lib.hid (fun W h hBw => WriteString_any w.heap.size w.heap.size (Lib.byteCells L) (Y ++ ⟨#[10]⟩) W h (by rw [Lib.byteCells_length, ByteArray.size_append]; omega) hBw)
        have HBs : Hid (Lib.byteCells L ++ Lib.strCells (Y ++ ⟨#[10]⟩) = Lib.byteCells (L ++ (LT ++ [10]))) := Lib.hid (by
          rw [Lib.strCells_eq, Joins.data_append, ← Lib.byteCells_append, HSl.out])
        rw [errV_pos er cd h0]
        clear HLine HP0 HPc HYd hw10 h0
        go_wp2_with fail
        refine (HW.out _ hI3 hb3.size).mono ?_
        rintro e w5 ⟨rfl, hI5, hb5⟩
        rw [HBs.out] at hI5
        have hb05 : Below w.heap.size w w5 := hb3.trans hb5
        clear HW HBs HSl hI3 hb3 hb5
        go_wp2_with fail
        go_roundw
        case rel => exact ⟨k + 1, L ++ (LT ++ [10]), by omega, by go_num, by simp only [List.length_append, List.length_cons, List.length_nil]; omega, HL2, .inr hI5, hb05⟩
        case measure => simp [intOf]; omega
    · have HE2 : Hid (listT xs = L) := Lib.hid (by rw [← HL.out, List.take_of_length_le (by rw [HN.out]; omega)])
      have HS := Lib.hid (Tryz.Builder_String_any w.heap.size w.heap.size L wr hI hb.size)
      clear HL HA
      go_wp2_with fail
      refine HS.out.mono ?_
      rintro e w2 ⟨rfl, hb2⟩
      go_wp2_with fail
      go_ret
      rw [HE2.out]
      exact ⟨rfl, hb.trans hb2⟩
end Go.Proofs.YtecmeegnjjhilaaGreatDoor
