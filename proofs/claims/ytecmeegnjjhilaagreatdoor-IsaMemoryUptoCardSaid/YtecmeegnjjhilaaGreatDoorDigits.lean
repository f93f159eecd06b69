/- isa.cutLeft, isa.cutRight: the text without the characters of a set at its begin, at its end. -/
import Derived.Test.YtecmeegnjjhilaaGreatDoorWord
import Derived.Lib.OthersKept
namespace Go.Proofs.YtecmeegnjjhilaaGreatDoor
open Go.RowKit
/-- Block k is a string's iterator that stands at pos. -/
def It (w : World) (k : Nat) (s : ByteArray) (pos : Nat) : Prop := w.heap[k]? = some (.stringIter s pos)
theorem It.lt {w : World} {k : Nat} {s : ByteArray} {pos : Nat} (h : It w k s pos) : k < w.heap.size := (Array.getElem?_eq_some_iff.1 h).1
theorem It.start (w : World) (s : ByteArray) : It (w.iter s 0) w.heap.size s 0 := World.iter_heap w s 0
theorem It.moved {w : World} {k : Nat} {s : ByteArray} {pos : Nat} (h : It w k s pos) (pos' : Nat) : It (w.iterAt k s pos') k s pos' := Lib.iterAt_heap w k s pos pos' h
theorem It.other {w : World} {k j : Nat} {s t : ByteArray} {pos : Nat} (h : It w k s pos) (hj : k ≠ j) (p : Nat) : It (w.iterAt j t p) k s pos := (Lib.iterAt_other w j k t p hj).trans h
theorem It.iter {w : World} {k : Nat} {s t : ByteArray} {pos : Nat} (h : It w k s pos) (p : Nat) : It (w.iter t p) k s pos := (Below.heap_alloc w _ k h.lt).trans h

def inSet (t : ByteArray) (r : Nat) : Bool := t.data.toList.any fun b => b.toNat == r
def inFirst (t : ByteArray) (q r : Nat) : Bool := (t.data.toList.take q).any fun b => b.toNat == r
theorem inFirst_zero (t : ByteArray) (r : Nat) : inFirst t 0 r = false := by simp [inFirst]
theorem inFirst_step (t : ByteArray) (q r : Nat) (h : q < t.size) : inFirst t (q + 1) r = (inFirst t q r || (t[q]'h).toNat == r) := by
  have hl : q < t.data.toList.length := by rw [← Lib.size_eq]; exact h
  unfold inFirst
  rw [List.take_succ_eq_append_getElem hl, List.any_append]
  simp
  rfl
theorem inFirst_all (t : ByteArray) (q r : Nat) (h : t.size ≤ q) : inFirst t q r = inSet t r := by
  unfold inFirst inSet
  rw [List.take_of_length_le (by rw [← Lib.size_eq]; exact h)]

def leftP (t : ByteArray) (l : List UInt8) : List UInt8 := l.dropWhile fun b => inSet t b.toNat
theorem left_stop (t : ByteArray) (l : List UInt8) (pos : Nat) (hall : ∀ (j : Nat) (b : UInt8), j < pos → l[j]? = some b → inSet t b.toNat = true)
    (hstop : ∀ b, l[pos]? = some b → inSet t b.toNat = false) : leftP t l = l.drop pos := by
  unfold leftP
  induction pos generalizing l with
  | zero =>
    cases l with
    | nil => rfl
    | cons x l =>
      have := hstop x (by simp)
      simp [this]
  | succ pos ih =>
    cases l with
    | nil => simp
    | cons x l =>
      have h0 := hall 0 x (by omega) (by simp)
      rw [List.dropWhile_cons_of_pos (by simpa using h0), List.drop_succ_cons]
      exact ih l (fun j b hj hb => hall (j + 1) b (by omega) (by simpa using hb)) (fun b hb => hstop b (by simpa using hb))

/-- A rune of the set is one byte, and that byte. -/
theorem rune_in (t s : ByteArray) (pos : Nat) (ht : ∀ (j : Nat) (h : j < t.size), (t[j]'h).toNat < 128) (h : pos < s.size) :
    inSet t (Utf8.decode s pos).1 = inSet t (s[pos]'h).toNat ∧ (inSet t (s[pos]'h).toNat = true → (Utf8.decode s pos).2 = 1) := by
  have hset : ∀ r, inSet t r = true → r < 128 := by
    intro r hr
    obtain ⟨b, hb, he⟩ := List.any_eq_true.1 hr
    obtain ⟨j, hj, rfl⟩ := List.getElem_of_mem hb
    have hj' : j < t.size := by rw [Lib.size_eq]; exact hj
    have := ht j hj'
    have he' : (t.data.toList[j]'hj).toNat = r := by simpa using he
    have e2 : (t.data.toList[j]'hj) = t[j]'hj' := rfl
    rw [e2] at he'
    omega
  by_cases ha : (s[pos]'h).toNat < 128
  · rw [decode_ascii s pos h ha]
    exact ⟨rfl, fun _ => rfl⟩
  · obtain ⟨h1, h2⟩ := decode_high s pos h (by omega)
    have e1 : inSet t (Utf8.decode s pos).1 = false := by
      cases hc : inSet t (Utf8.decode s pos).1 with
      | false => rfl
      | true => have := hset _ hc; omega
    have e2 : inSet t (s[pos]'h).toNat = false := by
      cases hc : inSet t (s[pos]'h).toNat with
      | false => rfl
      | true => have := hset _ hc; omega
    exact ⟨by rw [e1, e2], fun hc => by rw [e2] at hc; cases hc⟩

set_option maxHeartbeats 2000000 in
set_option maxRecDepth 100000 in
theorem cutLeft_any (s t : ByteArray) (hs : s.size ≤ 1000000000) (ht9 : t.size ≤ 1000) (ht : ∀ (j : Nat) (h : j < t.size), (t[j]'h).toNat < 128) (w : World) :
    Calls Tryz.prog 160 #[.string s, .string t] w fun e w' => e = .returned (.string ⟨(leftP t s.data.toList).toArray⟩) ∧ Below w.heap.size w w' := by
  have Ht := Lib.hid ht
  clear ht
  go_enter Tryz.func160, Tryz.ntmps160
  go_wp2
  go_loopg [5] s.size (fun gf s5 wx => ∃ pos : Nat, pos ≤ s.size ∧ s.size ≤ pos + gf ∧ It wx w.heap.size s pos ∧ Below w.heap.size w wx ∧ Hid (∀ (j : Nat) (b : UInt8), j < pos → s.data.toList[j]? = some b → inSet t b.toNat = true))
  case atStart => exact ⟨0, by omega, by omega, It.start w s, (Below.refl _ _).alloc (Nat.le_refl _) _, fun j b h => absurd h (by omega)⟩
  case round =>
    obtain ⟨pos, hp, hg, hit, hbw, hall⟩ := hrel
    by_cases hlt : pos < s.size
    · have hnx : ∀ ty, (Instr.next (.pointer (some ⟨w.heap.size, 0, none⟩)) true ty).run Tryz.prog wr = _ := fun ty => Lib.run_next_any_at wr w.heap.size s pos ty hit hlt
      have hwd := Lib.width_pos s pos
      have HR := Lib.hid (rune_in t s pos Ht.out hlt)
      have hrl := Lib.rune_le s pos
      have hat := Lib.hid (show s.data.toList[pos]? = some (s[pos]'hlt) from by rw [List.getElem?_eq_getElem (by rw [← Lib.size_eq]; exact hlt)]; rfl)
      generalize hR : (Utf8.decode s pos).1 = R at hnx HR hrl
      generalize hK : (Utf8.decode s pos).2 = K at hnx HR hwd
      have hi1 := hit.moved (pos + K)
      have hb1 := Lib.below_iterAt hbw (k := w.heap.size) (Nat.le_refl _) s (pos + K)
      generalize hW : wr.iterAt w.heap.size s (pos + K) = W at hnx hi1 hb1
      clear hR hK hW hit hbw
      go_wp2_with fail
      go_loopg [7] t.size (fun gf s7 wx => ∃ q : Nat, q ≤ t.size ∧ t.size ≤ q + gf ∧ s7 = .bool (inFirst t q R) ∧ It wx W.heap.size t q ∧ It wx w.heap.size s (pos + K) ∧ Below w.heap.size w wx)
      case atStart => exact ⟨0, by omega, by omega, by rw [inFirst_zero], It.start W t, hi1.iter 0, hb1.alloc hb1.size _⟩
      case round =>
        obtain ⟨q, hq, hqg, rfl, hit2, hit1, hb2⟩ := hrel
        have hkW : w.heap.size < W.heap.size := hi1.lt
        by_cases hqt : q < t.size
        · have hnx2 : ∀ ty, (Instr.next (.pointer (some ⟨W.heap.size, 0, none⟩)) true ty).run Tryz.prog wr = _ := fun ty => Lib.run_next_ascii_at wr W.heap.size t q ty hit2 hqt (Ht.out q hqt)
          have HS := Lib.hid (inFirst_step t q R hqt)
          have hb8 := (t[q]'hqt).toNat_lt
          generalize hd : (t[q]'hqt).toNat = d at hnx2 HS hb8
          have hi2 := hit2.moved (q + 1)
          have hi3 := hit1.other (t := t) (by omega : w.heap.size ≠ W.heap.size) (q + 1)
          have hb3 := Lib.below_iterAt hb2 (k := W.heap.size) (by omega) t (q + 1)
          generalize hW2 : wr.iterAt W.heap.size t (q + 1) = W2 at hnx2 hi2 hi3 hb3
          clear hd hW2 hit2 hit1 hb2 hnx
          cases hf : inFirst t q R with
          | true =>
            have HF : Hid (inFirst t (q + 1) R = true) := Lib.hid (by rw [HS.out, hf]; rfl)
            clear hf
            go_wp2
            go_roundg (t.size - (q + 1))
            case measure => omega
            case rel => exact ⟨q + 1, by omega, by omega, by rw [HF.out], hi2, hi3, hb3⟩
          | false =>
            have HF : Hid (inFirst t (q + 1) R = ((R : Int) == (d : Int))) := by
              refine Lib.hid ?_
              rw [HS.out, hf, Bool.false_or, Bool.eq_iff_iff]
              simp
              omega
            clear hf
            go_wp2
            go_roundg (t.size - (q + 1))
            case measure => omega
            case rel => exact ⟨q + 1, by omega, by omega, by rw [HF.out], hi2, hi3, hb3⟩
        · have hnx2 : ∀ ty, (Instr.next (.pointer (some ⟨W.heap.size, 0, none⟩)) true ty).run Tryz.prog wr = _ := fun ty => Lib.run_next_end_at wr W.heap.size t q ty hit2 hqt
          have hIn := inFirst_all t q R (by omega)
          rw [hIn]
          have HRo := HR.out
          cases hin : inSet t R with
          | true =>
            rw [hin] at HRo
            have HQ : Hid (∀ (j : Nat) (b : UInt8), j < pos + K → s.data.toList[j]? = some b → inSet t b.toNat = true) := by
              have hk1 : K = 1 := HRo.2 HRo.1.symm
              refine Lib.hid fun j b hj hb => ?_
              by_cases e : j = pos
              · subst e
                rw [hat.out] at hb
                injection hb with hb
                rw [← hb]; exact HRo.1.symm
              · exact hall.out j b (by omega) hb
            have hk1 : K = 1 := HRo.2 HRo.1.symm
            clear hIn HRo hin hnx HR hat hall
            subst hk1
            go_wp2
            go_roundg (s.size - (pos + 1))
            case measure => omega
            case rel => exact ⟨pos + 1, by omega, by omega, hit1, hb2, HQ.out⟩
          | false =>
            rw [hin] at HRo
            have HQ : Hid (leftP t s.data.toList = s.data.toList.drop pos) := Lib.hid (left_stop t _ pos hall.out fun b hb => by
              rw [hat.out] at hb
              injection hb with hb
              rw [← hb]; exact HRo.1.symm)
            clear hIn HRo hin hnx HR hat hall
            go_wp2
            go_ret
            refine ⟨?_, hb2⟩
            rw [HQ.out, ← Lib.extract_to_end]
            rfl
    · have hnx : ∀ ty, (Instr.next (.pointer (some ⟨w.heap.size, 0, none⟩)) true ty).run Tryz.prog wr = _ := fun ty => Lib.run_next_end_at wr w.heap.size s pos ty hit hlt
      have hps : pos = s.size := by omega
      have HQ : Hid (leftP t s.data.toList = s.data.toList.drop pos) := Lib.hid (left_stop t _ pos hall.out fun b hb => by
        have := (List.getElem?_eq_some_iff.1 hb).1
        rw [← Lib.size_eq] at this
        omega)
      clear hall
      go_wp2
      go_ret
      refine ⟨?_, hbw⟩
      rw [HQ.out, List.drop_eq_nil_of_le (by rw [← Lib.size_eq]; omega)]
      rfl

def rightP (t : ByteArray) (l : List UInt8) : List UInt8 := (l.reverse.dropWhile fun b => inSet t b.toNat).reverse
theorem right_step (t : ByteArray) (l : List UInt8) (b : UInt8) (h : inSet t b.toNat = true) : rightP t (l ++ [b]) = rightP t l := by
  unfold rightP
  rw [List.reverse_append, List.reverse_singleton, List.singleton_append, List.dropWhile_cons_of_pos (by simpa using h)]
theorem right_stop (t : ByteArray) (l : List UInt8) (b : UInt8) (h : inSet t b.toNat = false) : rightP t (l ++ [b]) = l ++ [b] := by
  unfold rightP
  rw [List.reverse_append, List.reverse_singleton, List.singleton_append, List.dropWhile_cons_of_neg (by simp [h])]
  simp
theorem in_small (t : ByteArray) (ht : ∀ (j : Nat) (h : j < t.size), (t[j]'h).toNat < 128) (r : Nat) (hr : inSet t r = true) : r < 128 := by
  obtain ⟨b, hb, he⟩ := List.any_eq_true.1 hr
  obtain ⟨j, hj, rfl⟩ := List.getElem_of_mem hb
  have hj' : j < t.size := by rw [Lib.size_eq]; exact hj
  have := ht j hj'
  have he' : (t.data.toList[j]'hj).toNat = r := by simpa using he
  have e2 : (t.data.toList[j]'hj) = t[j]'hj' := rfl
  rw [e2] at he'
  omega
/-- The last rune is of the set just where the last byte is, and is that byte then. -/
theorem last_in (t : ByteArray) (ht : ∀ (j : Nat) (h : j < t.size), (t[j]'h).toNat < 128) (l : List UInt8) (b : UInt8) :
    inSet t (Lib.decodeLastL (l ++ [b])).1 = inSet t b.toNat ∧ (inSet t b.toNat = true → (Lib.decodeLastL (l ++ [b])).2 = 1) := by
  have hne : l ++ [b] ≠ [] := by simp
  have hlast : (l ++ [b]).getD ((l ++ [b]).length - 1) 0 = b := by simp
  unfold Lib.decodeLastL
  rw [if_neg hne, hlast]
  by_cases ha : b.toNat < 128
  · rw [if_pos ha]
    exact ⟨rfl, fun _ => rfl⟩
  · rw [if_neg ha]
    have e2 : inSet t b.toNat = false := by
      cases hc : inSet t b.toNat with
      | false => rfl
      | true => exact absurd (in_small t ht _ hc) ha
    refine ⟨?_, fun hc => by rw [e2] at hc; cases hc⟩
    rw [e2]
    simp only
    have big : ∀ r : Nat, 128 ≤ r → inSet t r = false := fun r hr => by
      cases hc : inSet t r with
      | false => rfl
      | true => have := in_small t ht _ hc; omega
    split
    · rename_i hw
      apply big
      generalize hk : Lib.lastStart (l ++ [b]) = k at hw
      have hd : Lib.decodeL ((l ++ [b]).drop k) = Utf8.decode ⟨((l ++ [b]).drop k).toArray⟩ 0 := rfl
      rw [hd] at hw ⊢
      have hk2 : k < (l ++ [b]).length := by
        have : k ≤ (l ++ [b]).length - 1 := by
          rw [← hk]
          unfold Lib.lastStart
          simp only
          repeat' split
          all_goals omega
        simp at this ⊢
        omega
      have hsz : (⟨((l ++ [b]).drop k).toArray⟩ : ByteArray).size = (l ++ [b]).length - k := by
        rw [Lib.size_eq]
        simp
      have hpos : 0 < (⟨((l ++ [b]).drop k).toArray⟩ : ByteArray).size := by rw [hsz]; omega
      by_cases hb0 : ((⟨((l ++ [b]).drop k).toArray⟩ : ByteArray)[0]'hpos).toNat < 128
      · exfalso
        rw [decode_ascii _ 0 hpos hb0] at hw
        have hkl : k = l.length := by simp at hw; omega
        have : ((⟨((l ++ [b]).drop k).toArray⟩ : ByteArray)[0]'hpos) = b := by
          have h1 : ((⟨((l ++ [b]).drop k).toArray⟩ : ByteArray)[0]'hpos) = ((l ++ [b]).drop k)[0]'(by simp; omega) := rfl
          rw [h1]
          subst hkl
          simp
        rw [this] at hb0
        exact ha hb0
      · exact (decode_high _ 0 hpos (by omega)).1
    · exact big _ (by decide)

set_option maxHeartbeats 2000000 in
set_option maxRecDepth 100000 in
theorem cutRight_any (s t : ByteArray) (hs : s.size ≤ 1000000000) (ht9 : t.size ≤ 1000) (ht : ∀ (j : Nat) (h : j < t.size), (t[j]'h).toNat < 128) (er : Nat → Addr) (w : World) (E : Env er w) :
    Calls Tryz.prog 159 #[.string s, .string t] w fun e w' => e = .returned (.string ⟨(rightP t s.data.toList).toArray⟩) ∧ Below w.heap.size w w' := by
  have Ht := Lib.hid ht
  have HE := Lib.hid E
  clear ht E
  go_enter Tryz.func159, Tryz.ntmps159
  go_wp2
  go_loopg [0] s.size (fun gf s0 wx => ∃ cur : ByteArray, s0 = .string cur ∧ cur.size ≤ gf ∧ cur.size ≤ 1000000000 ∧ Hid (rightP t s.data.toList = rightP t cur.data.toList) ∧ Below w.heap.size w wx)
  case atStart => exact ⟨s, rfl, Nat.le_refl _, hs, rfl, Below.refl _ _⟩
  case round =>
    obtain ⟨cur, rfl, hg, hc9, HR, hbw⟩ := hrel
    by_cases h0 : 0 < cur.size
    · obtain ⟨l, b, hlb⟩ : ∃ l b, cur.data.toList = l ++ [b] := by
        have hne : cur.data.toList ≠ [] := by intro e; rw [Lib.size_eq, e] at h0; simp at h0
        exact ⟨_, _, (List.dropLast_concat_getLast hne).symm⟩
      have hL := last_in t Ht.out l b
      have HD := Lib.hid (Tryz.utf8_DecodeLastRuneInString cur wr (by omega) (HE.out.below hbw).utf)
      rw [hlb] at HD
      generalize hdl : Lib.decodeLastL (l ++ [b]) = dl at hL HD
      obtain ⟨R, K⟩ := dl
      have HL := Lib.hid hL
      have HB := Lib.hid hlb
      clear hL hlb hdl
      go_wp2_with fail
      refine HD.out.mono ?_
      rintro e w1 ⟨rfl, hb1⟩
      have hbw1 : Below w.heap.size w w1 := hbw.trans (hb1.mono hbw.size)
      clear hb1 HD hbw
      go_wp2_with fail
      go_loopg [7] t.size (fun gf s7 wx => ∃ q : Nat, q ≤ t.size ∧ t.size ≤ q + gf ∧ s7 = .bool (inFirst t q R) ∧ It wx w1.heap.size t q ∧ Below w.heap.size w wx)
      case atStart => exact ⟨0, by omega, by omega, by rw [inFirst_zero], It.start w1 t, hbw1.alloc hbw1.size _⟩
      case round =>
        obtain ⟨q, hq, hqg, rfl, hit2, hb2⟩ := hrel
        have hkW : w.heap.size ≤ w1.heap.size := hbw1.size
        by_cases hqt : q < t.size
        · have hnx2 : ∀ ty, (Instr.next (.pointer (some ⟨w1.heap.size, 0, none⟩)) true ty).run Tryz.prog wr = _ := fun ty => Lib.run_next_ascii_at wr w1.heap.size t q ty hit2 hqt (Ht.out q hqt)
          have HS := Lib.hid (inFirst_step t q R hqt)
          have hb8 := (t[q]'hqt).toNat_lt
          generalize hd : (t[q]'hqt).toNat = d at hnx2 HS hb8
          have hi2 := hit2.moved (q + 1)
          have hb3 := Lib.below_iterAt hb2 (k := w1.heap.size) hkW t (q + 1)
          generalize hW2 : wr.iterAt w1.heap.size t (q + 1) = W2 at hnx2 hi2 hb3
          clear hd hW2 hit2 hb2
          cases hf : inFirst t q R with
          | true =>
            have HF : Hid (inFirst t (q + 1) R = true) := Lib.hid (by rw [HS.out, hf]; rfl)
            clear hf
            go_wp2
            go_roundg (t.size - (q + 1))
            case measure => omega
            case rel => exact ⟨q + 1, by omega, by omega, by rw [HF.out], hi2, hb3⟩
          | false =>
            have HF : Hid (inFirst t (q + 1) R = ((R : Int) == (d : Int))) := by
              refine Lib.hid ?_
              rw [HS.out, hf, Bool.false_or, Bool.eq_iff_iff]
              simp
              omega
            clear hf
            go_wp2
            go_roundg (t.size - (q + 1))
            case measure => omega
            case rel => exact ⟨q + 1, by omega, by omega, by rw [HF.out], hi2, hb3⟩
        · have hnx2 : ∀ ty, (Instr.next (.pointer (some ⟨w1.heap.size, 0, none⟩)) true ty).run Tryz.prog wr = _ := fun ty => Lib.run_next_end_at wr w1.heap.size t q ty hit2 hqt
          have hIn := inFirst_all t q R (by omega)
          rw [hIn]
          have HLo := HL.out
          cases hin : inSet t R with
          | true =>
            rw [hin] at HLo
            have hk1 : K = 1 := HLo.2 HLo.1.symm
            have HQ : Hid (rightP t s.data.toList = rightP t l) := Lib.hid (by rw [HR.out, HB.out, right_step t l b HLo.1.symm])
            have HX : Hid ((cur.extract 0 (cur.size - 1)).data.toList = l) := Lib.hid (by
              rw [Lib.extract_data, HB.out, List.drop_zero]
              have : cur.size = l.length + 1 := by rw [Lib.size_eq, HB.out]; simp
              rw [this]
              simp)
            clear hIn HLo hin HL HB HR
            subst hk1
            go_wp2
            go_roundg (cur.size - 1)
            case measure => omega
            case rel => exact ⟨cur.extract 0 (cur.size - 1), rfl, by rw [ByteArray.size_extract]; omega, by rw [ByteArray.size_extract]; omega, by rw [HX.out]; exact HQ, hb2⟩
          | false =>
            rw [hin] at HLo
            have HQ : Hid (rightP t s.data.toList = cur.data.toList) := Lib.hid (by rw [HR.out, HB.out, right_stop t l b HLo.1.symm])
            clear hIn HLo hin HL HB HR
            go_wp2
            go_ret
            refine ⟨?_, hb2⟩
            rw [HQ.out]
            rfl
    · have hnil : cur.data.toList = [] := List.eq_nil_of_length_eq_zero (by rw [← Lib.size_eq]; omega)
      have HQ : Hid (rightP t s.data.toList = cur.data.toList) := Lib.hid (by rw [HR.out, hnil]; rfl)
      clear hnil HR HE
      go_wp2
      go_ret
      refine ⟨?_, hbw⟩
      rw [HQ.out]
      rfl
end Go.Proofs.YtecmeegnjjhilaaGreatDoor
