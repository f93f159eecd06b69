/- (*isa.source).line: one line read: the labels put down, the words of its statement, or the error. -/
import Derived.Test.YtecmeegnjjhilaaGreatDoorLab
import Derived.Test.YtecmeegnjjhilaaGreatDoorShelf
namespace Go.Proofs.YtecmeegnjjhilaaGreatDoor
open Go.RowKit
open Go.Maps
theorem lawK : Keyed Tryz.prog 9 := string_keyed Tryz.underlying9
theorem zeroE (w : World) : (zeroValue 3).run Tryz.prog w = .ok (.int .i64 0) w := by kernel_rfl
theorem keyL (l : List UInt8) (h : l.length ≤ 1000000000) : keyOf Tryz.prog 9 (.string ⟨l.toArray⟩) = some (.string l) := by
  have h1 : (⟨l.toArray⟩ : ByteArray).size = l.length := by rw [Lib.size_eq]
  have := WideMaps.keyOf_string_mk Tryz.underlying9 (s := ⟨l.toArray⟩) (by rw [h1]; unfold maxLen; omega)
  simpa using this

theorem fn_eq_nil_in (d : Nat) (f : Nat) (a lb : Array Value) (w : World) : (Op.equalIn (d + 1) 147 (.func (.func f) a lb) .nilFunc).run Tryz.prog w = .ok false w := by
  simp [Op.equalIn, run_underlying Tryz.underlying147]
theorem nil_eq_nil_in (d : Nat) (w : World) : (Op.equalIn (d + 1) 147 .nilFunc .nilFunc).run Tryz.prog w = .ok true w := by
  simp [Op.equalIn, run_underlying Tryz.underlying147]
theorem fn_eq_nil (f : Nat) (a lb : Array Value) (w : World) : (binOp .eql 147 (.func (.func f) a lb) .nilFunc).run Tryz.prog w = .ok (.bool false) w := by
  have h : (Op.equal 147 (.func (.func f) a lb) .nilFunc).run Tryz.prog w = .ok false w := fn_eq_nil_in 9999 f a lb w
  simp [binOp, h]
theorem nil_eq_nil (w : World) : (binOp .eql 147 .nilFunc .nilFunc).run Tryz.prog w = .ok (.bool true) w := by
  have h : (Op.equal 147 .nilFunc .nilFunc).run Tryz.prog w = .ok true w := nil_eq_nil_in 9999 w
  simp [binOp, h]

def LineOut (w0 w : World) (M : Nat) (st : Src) (n : Nat) (r : Src × Nat) (er : Nat → Addr) (e : Ending) (w' : World) : Prop :=
  e = .returned (errV er r.2) ∧ Below M w0 w' ∧ Keeps w w' ∧ (r.2 = 0 → SrcAt w' M r.1 ∧ r.1.words.length ≤ 512 ∧ r.1.labels.length ≤ st.labels.length + n + 1 ∧ r.1.lates.length ≤ st.lates.length + 4)

set_option maxHeartbeats 8000000 in
set_option maxRecDepth 100000 in
theorem line_any (er : Nat → Addr) (w0 : World) (E : Env er w0) (M : Nat) (hM : w0.heap.size ≤ M) (st : Src) (hst : st.words.length ≤ 512) (hlb : st.labels.length ≤ 1000000000000000000) (hlt : st.lates.length ≤ 7000000000)
    (num : Int) (s : ByteArray) (hs : s.size ≤ 1000000000) (w : World) (hb0 : Below M w0 w) (hS : SrcAt w M st) :
    Calls Tryz.prog 58 #[.pointer (some ⟨M + 1, 0, none⟩), .int .i64 num, .string s] w
      (LineOut w0 w M st s.size (lineP num s.data.toList st) er) := by
  have HE := Lib.hid E
  obtain ⟨m, hm⟩ := (E.belowAt hb0 hM).maxl
  have HC := Lib.hid (Tryz.strings_Cut s ⟨#[59]⟩ m w (by omega) hm)
  have hsc : (⟨(Lib.cut s.data.toList [59]).1.toArray⟩ : ByteArray).size ≤ s.size := cut_size s [59]
  have HL := Lib.hid (show lineP num s.data.toList st = match labelsP (4 * (st.words.length : Int)) (fieldsL s.data.toList) st.labels with | (c, ls, r) => if c ≠ 0 then (st, c) else restP num { st with labels := ls } r from rfl)
  have hF : Hid (fieldsL s.data.toList = Lib.goFieldsP blankR ⟨(Lib.cut s.data.toList [59]).1.toArray⟩) := Lib.hid rfl
  have hfc := fields_count blankR ⟨(Lib.cut s.data.toList [59]).1.toArray⟩
  have hfs := fields_size blankR ⟨(Lib.cut s.data.toList [59]).1.toArray⟩
  clear E hm
  go_enter Tryz.func58, Tryz.ntmps58
  go_wp2_with fail
  refine HC.out.mono ?_
  rintro e w1 ⟨rfl, n1, rfl⟩
  have hS1 : SrcAt (w.drewN n1) M st := hS
  have hb1 : Below M w0 (w.drewN n1) := below_drewN hb0 n1
  have hkp1 : Keeps w (w.drewN n1) := (Keeps.refl w).drewN n1
  clear HC hS hb0
  generalize w.drewN n1 = w1 at hS1 hb1 hkp1 ⊢
  have HFF := Lib.hid (Tryz.strings_FieldsFunc_runes 83 #[] (fun args w => enters_of Tryz.func83 (by kernel_rfl) rfl args w) blankR ⟨(Lib.cut s.data.toList [59]).1.toArray⟩ w1 (by omega) (blank_pays w1))
  go_wp2_with fail
  refine HFF.out.mono ?_
  rintro e w2 ⟨A2, rfl, hA2, hown2, hb2⟩
  have hS2 := hS1.below hb2
  have hkp2 := hkp1.below hb2
  have hsz1 : M + 1 < w1.heap.size := hS1.lt
  have hb02 : Below M w0 w2 := hb1.trans (hb2.mono (by omega))
  clear HFF hb2 hb1 hS1 hkp1
  rw [← hF.out] at hown2 hfc hfs ⊢
  clear hF
  generalize fieldsL s.data.toList = fs at hown2 hfc hfs HL ⊢
  have hW2 := StrsV.of_own hown2
  clear hown2
  generalize hnf : fs.length = nf at hW2 hfc ⊢
  have HN := Lib.hid hnf
  clear hnf
  go_wp2
  go_loopw [7] (fun s7 wr => ∃ (k : Nat) (ls : List (List UInt8 × Int)) (r : List ByteArray) (A : Option Addr) (c : Nat), s7 = .slice A k c ∧ Hid (r.length = k) ∧ StrsV wr (.slice A k c) r ∧ SrcAt wr M { st with labels := ls } ∧ Below M w0 wr ∧ Keeps w wr ∧ k ≤ nf ∧ ls.length + k ≤ st.labels.length + nf ∧
      Hid (∀ x ∈ r, x.size ≤ s.size) ∧ Hid (labelsP (4 * (st.words.length : Int)) fs st.labels = labelsP (4 * (st.words.length : Int)) r ls)) (fun v _ => match v with | .slice _ n _ => n | _ => 0)
  case atStart => exact ⟨nf, st.labels, fs, some ⟨A2, 0, none⟩, nf, rfl, HN, hW2, hS2, hb02, hkp2, Nat.le_refl _, Nat.le_refl _, Lib.hid (fun x hx => by have := hfs x hx; omega), rfl⟩
  case round =>
    obtain ⟨k, ls, r, A, c, rfl, hk, hW, hSr, hbr, hkr, hkn, hls, hss, HQ⟩ := hrel
    clear hfs hW2 hS2 hb02 hkp2
    rcases r with _ | ⟨x, r⟩
    · have hk0 : k = 0 := hk.out.symm
      subst hk0
      have HR : Hid (lineP num s.data.toList st = ({ st with labels := ls }, 0)) := Lib.hid (by rw [HL.out, HQ.out]; rfl)
      clear HQ HL
      go_wp2
      go_ret
      rw [HR.out]
      exact ⟨rfl, hbr, hkr, fun _ => ⟨hSr, hst, by simp only; omega, by simp only; omega⟩⟩
    · obtain ⟨k, rfl⟩ : ∃ j, k = j + 1 := ⟨r.length, hk.out.symm⟩
      have hk1 : Hid (r.length = k) := Lib.hid (by have := hk.out; simpa using this)
      obtain ⟨b, o, rfl, hx⟩ := hW.at_ 0 x rfl
      rw [Nat.add_zero] at hx
      have hxs : x.size ≤ s.size := hss.out x (by simp)
      have hss1 : Hid (∀ y ∈ r, y.size ≤ s.size) := Lib.hid (fun y hy => hss.out y (by simp [hy]))
      have hcap : k + 1 ≤ c := by
        obtain ⟨_, _, e, h, _⟩ := hW
        injection e with _ _ e3
        simp only [List.length_cons] at h
        have := hk1.out
        omega
      have HSf := Lib.hid (Tryz.strings_HasSuffix x ⟨#[58]⟩ wr (by omega))
      have hWc := hW.cut
      have hbl : b < wr.heap.size := World.block_lt_of_cell? wr _ hx
      cases hsf : Lib.hasSuffix x.data.toList [58] with
      | false =>
        have HQ1 : Hid (labelsP (4 * (st.words.length : Int)) fs st.labels = (0, ls, x :: r)) := Lib.hid (by
          rw [HQ.out, labelsP, if_neg (by rw [hsf]; decide)])
        rw [show (⟨#[58]⟩ : ByteArray).data.toList = [58] from rfl, hsf] at HSf
        clear hsf HQ
        go_wp2_with fail
        refine HSf.out.mono ?_
        rintro e wr ⟨rfl, rfl⟩
        clear HSf
        have HR : Hid (lineP num s.data.toList st = restP num { st with labels := ls } (x :: r)) := Lib.hid (by rw [HL.out, HQ1.out]; rfl)
        have HSt := Lib.hid (statement_any x er wr (HE.out.belowAt hbr hM))
        have hT := (HE.out.belowAt hbr hM).eText
        clear HQ1 HL hss hk
        go_wp2_with fail
        refine HSt.out.mono ?_
        rintro e w3 ⟨kv, fv, rfl, hKv, hFv, hb3⟩
        have hMr := hSr.lt
        have hkp3 := hkr.below hb3
        have hS3 := hSr.below hb3
        have hb03 : Below M w0 w3 := hbr.trans (hb3.mono (by omega))
        have hT3 := cell_below hT hb3
        have hWc3 : StrsV w3 (.slice (if c = 1 then some ⟨b, o, none⟩ else some ⟨b, o + 1, none⟩) k (c - 1)) r := hWc.keep (Keeps.of_below hb3)
        clear HSt hT hSr hbr hb3 hW hWc hx
        have HR1 : Hid (lineP num s.data.toList st = if stmP x.data.toList = .bad ∨ r.length ≠ (kindsP (stmP x.data.toList)).length then ({ st with labels := ls }, 18) else
          match opsP st.words.length num ((kindsP (stmP x.data.toList)).zip (r.map fun s => s.data.toList)) [] st.lates with
          | (vs, lts, c) => if c ≠ 0 then ({ st with labels := ls }, c)
            else if 512 < st.words.length + (buildP (stmP x.data.toList) vs).length then ({ st with labels := ls }, 11)
            else ({ words := st.words ++ buildP (stmP x.data.toList) vs, labels := ls, lates := lts }, 0)) := Lib.hid (by rw [HR.out]; rfl)
        clear HR
        generalize stmP x.data.toList = stm at hKv hFv HR1
        obtain ⟨Ak, ck, rfl, hKc⟩ := hKv
        have hKv : KindsV w3 (.slice Ak (kindsP stm).length ck) (kindsP stm) := ⟨Ak, ck, rfl, hKc⟩
        clear hKc
        by_cases hbad : stm = .bad
        · have hfv : fv = .nilFunc := by rw [hbad] at hFv; exact hFv
          subst hfv
          have HF : Hid (lineP num s.data.toList st = ({ st with labels := ls }, 18)) := Lib.hid (by rw [HR1.out, if_pos (.inl hbad)])
          have hnn := nil_eq_nil w3
          clear HR1 hFv hKv hS3 hWc3
          go_wp2_with fail
          go_ret
          rw [HF.out]
          exact ⟨rfl, hb03, hkp3, fun h => by cases h⟩
        · obtain ⟨lb, rfl, hbuild⟩ := build_any hFv hbad
          have Hbuild := Lib.hid hbuild
          have hfn := fn_eq_nil (fnOf stm) #[] lb w3
          clear hbuild hFv
          by_cases hkl : r.length = (kindsP stm).length
          · have hkk : Hid ((kindsP stm).length = k) := Lib.hid (by rw [← hkl]; exact hk1.out)
            rw [hkk.out] at hKv ⊢
            have Hkl := Lib.hid hkl
            have HOp := Lib.hid (operands_any er w0 HE.out M hM { st with labels := ls } hst (by simp only; omega) num (.slice Ak k ck) (.slice (if c = 1 then some ⟨b, o, none⟩ else some ⟨b, o + 1, none⟩) k (c - 1)) (kindsP stm) r (kinds_le stm) hkl (fun y hy => Nat.le_trans (hss1.out y hy) hs) w3 hb03 hS3 hKv hWc3)
            have HFit := Lib.hid (ops_fit st.words.length num stm r st.lates hkl)
            have HR2 : Hid (lineP num s.data.toList st = match opsP st.words.length num ((kindsP stm).zip (r.map fun s => s.data.toList)) [] st.lates with
              | (vs, lts, c) => if c ≠ 0 then ({ st with labels := ls }, c)
                else if 512 < st.words.length + (buildP stm vs).length then ({ st with labels := ls }, 11)
                else ({ words := st.words ++ buildP stm vs, labels := ls, lates := lts }, 0)) := Lib.hid (by rw [HR1.out, if_neg (by rintro (h | h); exact hbad h; exact h hkl)])
            simp only at HOp
            clear HR1 hkl hKv hS3 hWc3 hb03 hT3
            generalize opsP st.words.length num ((kindsP stm).zip (r.map fun s => s.data.toList)) [] st.lates = res at HOp HFit HR2
            obtain ⟨vs, lts, cd⟩ := res
            have hcase : (c = 1 ∧ k = 0) ∨ ¬ c = 1 := by omega
            rcases hcase with ⟨rfl, rfl⟩ | hc1
            all_goals (first | rw [if_pos rfl] at HOp | rw [if_neg hc1] at HOp)
            all_goals
              go_wp2_with fail
              refine HOp.out.mono ?_
              rintro e w4 ⟨⟨vv, rfl, hvals⟩, hb4, hk4⟩
              simp only at hvals
              clear HOp
              by_cases hcd : cd = 0
              · subst hcd
                obtain ⟨hnums, hS4⟩ := hvals rfl
                obtain ⟨hok, hll⟩ := HFit.out rfl
                try simp only at hok hll hS4
                have HBd := Lib.hid (Hbuild.out er w4 vv vs (HE.out.belowAt hb4 hM) hk4 hnums hok)
                have HR3 : Hid (lineP num s.data.toList st = if 512 < st.words.length + (buildP stm vs).length then ({ st with labels := ls }, 11)
                  else ({ words := st.words ++ buildP stm vs, labels := ls, lates := lts }, 0)) := Lib.hid (by rw [HR2.out]; rfl)
                have hbl5 := build_len stm vs hok
                have eg := fn_enters stm hbad
                have hkp4 := hkp3.trans hk4
                clear HR2 HFit Hbuild hk4 hnums hok hvals
                rw [errV_zero]
                generalize buildP stm vs = ys at HBd HR3 hbl5
                go_wp2_with fail
                refine HBd.out.mono ?_
                rintro e w5 ⟨v5, rfl, ⟨b5, rfl, hB5⟩, hb5⟩
                have hS5 := hS4.below hb5
                have hM4 := hS4.lt
                have hb05 : Below M w0 w5 := hb4.trans (hb5.mono (by omega))
                have hZ := (HE.out.belowAt hb05 hM).eSize
                obtain ⟨AWs, cWs, ALs, cLs, hSb, hSw, hSl, hSm⟩ := hS5
                simp only at hSb hSw hSl hSm
                have s0 : w5.cell? ⟨M + 1, 0, none⟩ = some (.slice AWs st.words.length cWs) := hSb.cell 0
                have hsz5 := hb5.size
                have hkp5 := hkp4.below hb5
                clear HBd hS4 hb5
                by_cases hsz : 512 < st.words.length + ys.length
                · have HF : Hid (lineP num s.data.toList st = ({ st with labels := ls }, 11)) := Lib.hid (by rw [HR3.out]; exact if_pos hsz)
                  clear HR3 hSb hSw hSl hSm hB5
                  go_wp2_with fail
                  go_ret
                  rw [HF.out]
                  exact ⟨rfl, hb05, hkp5, fun h => by cases h⟩
                · have HF : Hid (lineP num s.data.toList st = ({ words := st.words ++ ys, labels := ls, lates := lts }, 0)) := Lib.hid (by rw [HR3.out]; exact if_neg hsz)
                  obtain ⟨i0, hi, hz0, hz1, hz2⟩ := info_parts u32info
                  have nS : some (M + 1) ≠ (Value.slice AWs st.words.length cWs).ownBlock := own_apart_base hSw (by omega)
                  clear HR3 hZ
                  go_wp2_with (at_builtin; refine wpList_append_own _ rfl (.tmp 115) (.tmp 116) _ rfl (M + 2) 28 i0 _ 1 4 Tryz.underlying31 hi hz0 hz1 hz2 rfl (by decide) (.slice AWs st.words.length cWs) st.words.length (w32 st.words) rfl hSw ⟨b5, 0, none⟩ ys.length ys.length (ys.map fun x => Value.int .u32 x) rfl (by simp) ?c1 ?c2 ?c3 ?c4 ?c5 ?_)
                  case c1 => exact fun j u hu => by rw [add_at, Nat.zero_add, hB5.cell j]; simpa using hu
                  case c2 => intro u hu; obtain ⟨x, _, rfl⟩ := List.mem_map.1 hu; rfl
                  case c3 => unfold maxLen; omega
                  case c4 => omega
                  case c5 => omega
                  intro v9 w9 hown9 hg9 _
                  have hv9 : ∃ A c, v9 = .slice A (st.words.length + ys.length) c := by
                    rcases hown9.2 with ⟨h1, h2⟩ | ⟨g, cap, cur, h, _⟩
                    · exact ⟨none, 0, by rw [h1, h2]⟩
                    · exact ⟨_, _, h⟩
                  obtain ⟨A9, c9, rfl⟩ := hv9
                  have hB9 := hSb.grown hg9 nS
                  have hs9 : w9.frozen? ⟨M + 1, 0, none⟩ = false := hB9.frozen 0
                  have hc9 : w9.cell? ⟨M + 1, 0, none⟩ = some (.slice AWs st.words.length cWs) := hB9.cell 0
                  have hS9 : SrcAt (w9.setCell ⟨M + 1, 0, none⟩ (.slice A9 (st.words.length + ys.length) c9)) M { words := st.words ++ ys, labels := ls, lates := lts } := by
                    refine ⟨A9, c9, ALs, cLs, ?_, ?_, ownsRow_setCell_below (hSl.kept hg9 (own_ne hSl hSw (by decide))) (by simp) _, (hSm.kept hg9 (own_apart_base hSw (by omega))).setCell (by simp) _⟩
                    · have := hB9.store 0 (.slice A9 (st.words.length + ys.length) c9)
                      simp only [List.length_append]
                      exact this
                    · simp only [List.length_append]
                      refine ownsRow_setCell_below ?_ (by simp) _
                      rw [show w32 (st.words ++ ys) = w32 st.words ++ ys.map fun x => Value.int .u32 x from by simp [w32]]
                      exact hown9
                  have hb09 : Below M w0 (w9.setCell ⟨M + 1, 0, none⟩ (.slice A9 (st.words.length + ys.length) c9)) := (hb05.grown hg9 (by omega) (fun k hk => by have := own_from hSw k hk; omega)).setCell (by simp) _
                  have hkp9 := (hkp5.word hSw hg9).store hB9 0 (.slice A9 (st.words.length + ys.length) c9)
                  clear hown9 hg9 hB9 hSb hSw hSl hSm hB5 s0
                  go_wp2_with fail
                  go_ret
                  rw [HF.out]
                  exact ⟨rfl, hb09, hkp9, fun _ => ⟨hS9, by simp only [List.length_append]; omega, by simp only; omega, by simp only; omega⟩⟩
              · have HF : Hid (lineP num s.data.toList st = ({ st with labels := ls }, cd)) := Lib.hid (by rw [HR2.out]; exact if_pos hcd)
                clear HR2 HFit Hbuild hvals
                rw [errV_pos er cd hcd]
                go_wp2_with fail
                go_ret
                rw [HF.out]
                exact ⟨by rw [errV_pos er cd hcd]; rfl, hb4, hkp3.trans hk4, fun h => absurd h hcd⟩
          · have hkn2 : ¬ k = (kindsP stm).length := by rw [← hk1.out]; exact hkl
            have HF : Hid (lineP num s.data.toList st = ({ st with labels := ls }, 18)) := Lib.hid (by rw [HR1.out, if_pos (.inr hkl)])
            clear HR1 hkl Hbuild hKv hS3 hWc3
            generalize (kindsP stm).length = kn at hkn2 ⊢
            go_wp2_with fail
            go_ret
            rw [HF.out]
            exact ⟨rfl, hb03, hkp3, fun h => by cases h⟩
      | true =>
        rw [show (⟨#[58]⟩ : ByteArray).data.toList = [58] from rfl, hsf] at HSf
        have HT := Lib.hid (Tryz.strings_TrimSuffix x ⟨#[58]⟩ wr (by omega))
        rw [show (⟨#[58]⟩ : ByteArray).data.toList = [58] from rfl] at HT
        have htl : (Lib.trimSuffix x.data.toList [58]).length ≤ 1000000000 := by
          have h1 : x.size = x.data.toList.length := Lib.size_eq x
          unfold Lib.trimSuffix
          rw [if_pos hsf]
          exact Nat.le_trans (List.length_take_le _ _) (by omega)
        have hts : (⟨(Lib.trimSuffix x.data.toList [58]).toArray⟩ : ByteArray).size ≤ 1000000000 := by
          rw [Lib.size_eq]; simpa using htl
        have HNm := Lib.hid (isName_any ⟨(Lib.trimSuffix x.data.toList [58]).toArray⟩ hts er wr (HE.out.belowAt hbr hM))
        have hT := (HE.out.belowAt hbr hM).eText
        have HStep : Hid (labelsP (4 * (st.words.length : Int)) fs st.labels = if nameP (Lib.trimSuffix x.data.toList [58]) = true then
            (if (lookL ls (Lib.trimSuffix x.data.toList [58])).isSome = true then (12, ls, x :: r) else labelsP (4 * (st.words.length : Int)) r (ls ++ [(Lib.trimSuffix x.data.toList [58], 4 * (st.words.length : Int))]))
            else (18, ls, x :: r)) := Lib.hid (by rw [HQ.out, labelsP, if_pos hsf])
        clear hsf HQ
        generalize Lib.trimSuffix x.data.toList [58] = nm at HT HNm htl hts HStep
        rw [show (⟨nm.toArray⟩ : ByteArray).data.toList = nm from rfl] at HNm
        go_wp2_with fail
        refine HSf.out.mono ?_
        rintro e wr ⟨rfl, rfl⟩
        clear HSf
        go_wp2_with fail
        refine HT.out.mono ?_
        rintro e wr ⟨rfl, rfl⟩
        clear HT
        go_wp2_with fail
        refine HNm.out.mono ?_
        rintro e w3 ⟨rfl, hb3⟩
        have hT3 := cell_below hT hb3
        have hS3 := hSr.below hb3
        have hb03 : Below M w0 w3 := hbr.trans (hb3.mono (by have := hSr.lt; omega))
        have hsz3 := hb3.size
        have hkp3 := hkr.below hb3
        obtain ⟨b', o', cur, eA, hB, hcur⟩ : ∃ b' o' cur, (some ⟨b, o, none⟩ : Option Addr) = some ⟨b', o', none⟩ ∧ Blk wr b' 9 cur ∧ ∀ (i : Nat) (s : ByteArray), (x :: r)[i]? = some s → cur[o' + i]? = some (.string s) := by
          obtain ⟨_, _, e, _, h⟩ := hW
          injection e with e1 _ _
          obtain ⟨b', o', cur, e5, h6⟩ := h (by simp)
          exact ⟨b', o', cur, by rw [e1, e5], h6⟩
        have hWc3 : StrsV w3 (.slice (if c = 1 then some ⟨b, o, none⟩ else some ⟨b, o + 1, none⟩) k (c - 1)) r := hWc.keep (Keeps.of_below hb3)
        clear HNm hT hWc hW hSr hbr hb3 hx eA hB hcur
        cases hnm : nameP nm with
        | false =>
          have HR : Hid (lineP num s.data.toList st = (st, 18)) := Lib.hid (by rw [HL.out, HStep.out, hnm]; rfl)
          clear HStep HL hnm
          go_wp2_with fail
          go_ret
          rw [HR.out]
          exact ⟨rfl, hb03, hkp3, fun h => by cases h⟩
        | true =>
          obtain ⟨AWs, cWs, ALs, cLs, hSb, hSw, hSl, hSm⟩ := hS3
          have s0 : w3.cell? ⟨M + 1, 0, none⟩ = some (.slice AWs st.words.length cWs) := hSb.cell 0
          have s1 : w3.cell? ⟨M + 1, 1, none⟩ = some (.map (some M)) := hSb.cell 1
          have hA3 := (HE.out.belowAt hb03 hM).eArg
          have hSm1 : w3.ownsMap Tryz.prog 9 (plainElem Tryz.prog 3) M ls.length (labsD ls) := hSm
          clear hSm
          cases hlk : (lookL ls nm).isSome with
          | true =>
            have hhas : has (labsD ls) (.string nm) = true := by rw [labs_has, hlk]
            have HR : Hid (lineP num s.data.toList st = (st, 12)) := Lib.hid (by rw [HL.out, HStep.out, hnm, hlk]; rfl)
            clear HStep HL hnm hlk
            go_wp2_with (first | (at_lookup; refine wpList_lookup_own_ok_int _ rfl _ _ 103 rfl 9 3 _ lawK Tryz.underlying103 Tryz.underlying3 (zeroE _) M _ _ rfl hSm1 _ _ rfl (keyL nm htl) ?_; intro cz hcz _; rw [hhas]) | fail)
            go_wp2_with fail
            go_ret
            rw [HR.out]
            exact ⟨rfl, hb03, hkp3, fun h => by cases h⟩
          | false =>
            have hhas : has (labsD ls) (.string nm) = false := by rw [labs_has, hlk]
            have HN2 : Hid (labelsP (4 * (st.words.length : Int)) fs st.labels = labelsP (4 * (st.words.length : Int)) r (ls ++ [(nm, 4 * (st.words.length : Int))])) := Lib.hid (by rw [HStep.out, hnm, hlk]; rfl)
            clear HStep hnm hlk
            have h4 : 0 ≤ 4 * (st.words.length : Int) ∧ 4 * (st.words.length : Int) ≤ 2048 := by omega
            obtain ⟨w5, hrun5, hm5, hg5⟩ := (hSm1.drew).update lawK Tryz.underlying103 (by unfold maxLen; omega) (keyL nm htl) (val := .int .i64 (4 * (st.words.length : Int))) (plainElem_int Tryz.underlying3 (WalkArith.wf_i64 (by omega)))
            go_wp2_with (first | (at_lookup; refine wpList_lookup_own_ok_int _ rfl _ _ 103 rfl 9 3 _ lawK Tryz.underlying103 Tryz.underlying3 (zeroE _) M _ _ rfl hSm1 _ _ rfl (keyL nm htl) ?_; intro cz hcz _; rw [hhas]) | fail)
            go_wp2_with fail
            go_region
            have hM3 : M + 1 < w3.heap.size := hSb.lt
            have hnM : ∀ (v : Value) (t : TypeId) (sz n : Nat) (xs : List Value), w3.ownsRow (M + 2) t sz v n xs → v.ownBlock = none ∨ v.ownBlock ≠ some M := fun v t sz n xs h => by
              cases hv : v.ownBlock with
              | none => exact .inl rfl
              | some q => exact .inr (fun e => by have := own_from h q hv; injection e with e; omega)
            have hkeep : Keeps w3 w5 := fun g t cs hB _ _ _ => Blk.grown (w := w3.drew) hB hg5 (fun e => by
              injection e with e
              subst e
              obtain ⟨es, ck, hb, _⟩ := hSm1
              unfold Blk at hB
              rw [hb] at hB
              cases hB)
            have hS5 : SrcAt w5 M { st with labels := ls ++ [(nm, 4 * (st.words.length : Int))] } := by
              refine ⟨AWs, cWs, ALs, cLs, Blk.grown (w := w3.drew) hSb hg5 (fun e => by injection e with e; omega), World.ownsRow.kept hSw.drew hg5 (hnM _ _ _ _ _ hSw), World.ownsRow.kept hSl.drew hg5 (hnM _ _ _ _ _ hSl), ?_⟩
              simp only [List.length_append, List.length_cons, List.length_nil]
              rw [labsD_snoc]
              exact hm5
            have hb05 : Below M w0 w5 := Below.grown (below_drewN hb03 1) hg5 (by simp; omega) (fun k hk => by injection hk with hk; omega)
            have hWc5 := hWc3.keep hkeep
            have hkp5 := hkp3.trans hkeep
            clear hSm1 hSb hSw hSl hm5 hrun5 hWc3 hb03 hg5 s0 s1 hnM hkeep hT3 hA3 hhas hcz
            go_wp2
            go_roundw
            case rel => exact ⟨k, ls ++ [(nm, 4 * (st.words.length : Int))], r, _, c - 1, rfl, hk1, hWc5, hS5, hb05, hkp5, by omega, by simp only [List.length_append, List.length_cons, List.length_nil]; omega, hss1, HN2⟩
            case measure => simp only; omega
end Go.Proofs.YtecmeegnjjhilaaGreatDoor
