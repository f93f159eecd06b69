/- (*isa.source).operands: the operands' values, the late ones put down, or the error. -/
import Derived.Test.YtecmeegnjjhilaaGreatDoorLate
import Derived.Deep.AppendLies
namespace Go.Proofs.YtecmeegnjjhilaaGreatDoor
open Go.RowKit
open Go.Maps
inductive Opd where
  | val (x : Int)
  | late
  | bad (c : Nat)
def opd (k : Kind) (l : List UInt8) : Opd :=
  if k.reg = true then (if regP l < 0 then .bad 18 else .val (regP l))
  else if k.number = true ∧ (valP l).2 = true then (if (valP l).1 < k.lo ∨ k.hi < (valP l).1 then .bad 4 else .val (valP l).1)
  else if k.label = true ∧ nameP l = true then .late
  else .bad 18
def opsP (at_ : Nat) (line : Int) : List (Kind × List UInt8) → List Int → List Late → List Int × List Late × Nat
  | [], vs, ls => (vs, ls, 0)
  | (k, l) :: r, vs, ls => match opd k l with
    | .val x => opsP at_ line r (vs ++ [x]) ls
    | .late => opsP at_ line r (vs ++ [0]) (ls ++ [⟨at_, line, l, k.branch⟩])
    | .bad c => (vs, ls, c)

def OpdOut (w0 : World) (M : Nat) (st : Src) (w : World) (r : List Int × List Late × Nat) (er : Nat → Addr) (e : Ending) (w' : World) : Prop :=
  (∃ vv, e = .returned (.tuple #[vv, errV er r.2.2]) ∧ (r.2.2 = 0 → NumsV w' .i64 vv r.1 ∧ SrcAt w' M { st with lates := r.2.1 })) ∧ Below M w0 w' ∧ Keeps w w'

theorem append_step {at_ : Nat} {line : Int} {pairs : List (Kind × List UInt8)} {k : Nat} {kd : Kind} {l : List UInt8} {vs : List Int} {ls : List Late} (h : pairs[k]? = some (kd, l)) :
    opsP at_ line (pairs.drop k) vs ls = match opd kd l with
    | .val x => opsP at_ line (pairs.drop (k + 1)) (vs ++ [x]) ls
    | .late => opsP at_ line (pairs.drop (k + 1)) (vs ++ [0]) (ls ++ [⟨at_, line, l, kd.branch⟩])
    | .bad c => (vs, ls, c) := by
  obtain ⟨hl, he⟩ := List.getElem?_eq_some_iff.1 h
  rw [List.drop_eq_getElem_cons hl, he]
  rfl


set_option maxHeartbeats 8000000 in
set_option maxRecDepth 100000 in
theorem operands_any (er : Nat → Addr) (w0 : World) (E : Env er w0) (M : Nat) (hM : w0.heap.size ≤ M) (st : Src) (_hst : st.words.length ≤ 512) (hlt : st.lates.length ≤ 8000000000)
    (line : Int) (kv wv : Value) (ks : List Kind) (ws : List ByteArray) (hk4 : ks.length ≤ 4) (hlen : ws.length = ks.length) (hws : ∀ s ∈ ws, s.size ≤ 1000000000)
    (w : World) (hb0 : Below M w0 w) (hS : SrcAt w M st) (hK : KindsV w kv ks) (hW : StrsV w wv ws) :
    Calls Tryz.prog 88 #[.pointer (some ⟨M + 1, 0, none⟩), .int .i64 line, kv, wv] w
      (OpdOut w0 M st w (opsP st.words.length line (ks.zip (ws.map fun s => s.data.toList)) [] st.lates) er) := by
  obtain ⟨AK, cK, rfl, hKc⟩ := hK
  obtain ⟨AW, cW, rfl, hWc, hWs⟩ := hW
  have hK : KindsV w (.slice AK ks.length cK) ks := ⟨AK, cK, rfl, hKc⟩
  have hW : StrsV w (.slice AW ws.length cW) ws := ⟨AW, cW, rfl, hWc, hWs⟩
  clear hKc hWs
  rw [hlen] at hW ⊢
  have HE := Lib.hid E
  have Hlen := Lib.hid hlen
  have Hws := Lib.hid hws
  obtain ⟨i0, hi, hz0, hz1, hz2⟩ := info_parts intinfo
  obtain ⟨j0, hj, hy0, hy1, hy2⟩ := info_parts lateinfo
  have hMw : M + 1 < w.heap.size := hS.lt
  generalize hp : ks.zip (ws.map fun s => s.data.toList) = pairs
  have HP := Lib.hid hp
  clear hp E hlen hws
  generalize hn : ks.length = n at hK hW hk4 Hlen ⊢
  have HN := Lib.hid hn
  clear hn
  go_enter Tryz.func88, Tryz.ntmps88
  go_wp2
  go_loopw [10, 19] (fun s10 s19 wr => ∃ (k : Nat) (vs : List Int) (ls : List Late) (A : Option Addr) (c : Nat), k ≤ n ∧ s19 = .int .i64 k ∧ s10 = .slice A vs.length c ∧ Hid (vs.length = k) ∧ ls.length ≤ 8000000000 + k ∧
      SrcAt wr M { st with lates := ls } ∧ Keeps w wr ∧ Below M w0 wr ∧ w.heap.size ≤ wr.heap.size ∧ wr.ownsRow w.heap.size 3 1 (.slice A vs.length c) vs.length (vs.map fun x => Value.int .i64 x) ∧
      Hid (opsP st.words.length line pairs [] st.lates = opsP st.words.length line (pairs.drop k) vs ls)) (fun _ i _ => n - (intOf i).toNat)
  case atStart => exact ⟨0, [], st.lates, none, 0, by omega, rfl, rfl, rfl, by omega, hS, Keeps.refl _, hb0, Nat.le_refl _, own_nil _ _ _ _, rfl⟩
  case round =>
    obtain ⟨k, vs, ls, A, c, hk, rfl, rfl, hvk, hlk, hSr, hKp, hbr, hszr, hown, HQ⟩ := hrel
    have hvk1 : vs.length ≤ k := by have := hvk.out; omega
    by_cases hltk : k < n
    · obtain ⟨kd, hkd⟩ : ∃ kd, ks[k]? = some kd := ⟨_, List.getElem?_eq_getElem (by rw [HN.out]; exact hltk)⟩
      obtain ⟨sw, hsw⟩ : ∃ sw, ws[k]? = some sw := ⟨_, List.getElem?_eq_getElem (by rw [Hlen.out]; exact hltk)⟩
      obtain ⟨bK, rfl, hka⟩ := (hK.keep hKp).at_ k kd hkd
      obtain ⟨bW, oW, rfl, hwa⟩ := (hW.keep hKp).at_ k sw hsw
      have hbWl : bW < wr.heap.size := World.block_lt_of_cell? wr _ hwa
      have hss : sw.size ≤ 1000000000 := Hws.out sw (List.mem_of_getElem? hsw)
      have hpk : pairs[k]? = some (kd, sw.data.toList) := by
        rw [← HP.out, List.getElem?_zip_eq_some]
        exact ⟨hkd, by rw [List.getElem?_map, hsw]; rfl⟩
      have HSt := Lib.hid (append_step (at_ := st.words.length) (line := line) (vs := vs) (ls := ls) hpk)
      obtain ⟨k0, k1, k2, k3, k4, k5⟩ := hka
      obtain ⟨kr, kn, klo, khi, kl, kb⟩ := kd
      simp only at k0 k1 k2 k3 k4 k5
      have hbx : Below M w0 (wr.alloc (.cells #[.bool kr, .bool kn, .int .i64 klo, .int .i64 khi, .bool kl, .bool kb] 182)) := hbr.alloc (by omega) _
      have HV := Lib.hid (value_any sw hss er _ (HE.out.belowAt hbx hM))
      have hKb := Blk.new wr 182 #[.bool kr, .bool kn, .int .i64 klo, .int .i64 khi, .bool kl, .bool kb]
      have hSx := hSr.below ((Below.refl wr.heap.size wr).alloc (Nat.le_refl _) (.cells #[.bool kr, .bool kn, .int .i64 klo, .int .i64 khi, .bool kl, .bool kb] 182))
      have hKx := hKp.alloc (.cells #[.bool kr, .bool kn, .int .i64 klo, .int .i64 khi, .bool kl, .bool kb] 182)
      have hox := hown.alloc (.cells #[.bool kr, .bool kn, .int .i64 klo, .int .i64 khi, .bool kl, .bool kb] 182)
      clear hkd hsw hpk hS hK hW hb0 hKp hbr hSr hown
      go_wp2_with fail
      refine HV.out.mono ?_
      rintro e w2 ⟨rfl, hb2⟩
      have hszx : M < wr.heap.size + 1 := by omega
      have hK2 := hKb.below hb2 (by simp)
      have hS2 := hSx.below hb2
      have hKp2 := hKx.below hb2
      have ho2 := own_below hox hb2
      have hb02 : Below M w0 w2 := hbx.trans (hb2.mono (by simp; omega))
      have hsz2 : wr.heap.size < w2.heap.size := by have := hb2.size; simp at this; omega
      clear HV hb2 hbx hSx hKx hox hKb k0 k1 k2 k3 k4 k5 hwa
      have q0 : w2.cell? ⟨wr.heap.size, 0, none⟩ = some (.bool kr) := hK2.cell 0
      have q1 : w2.cell? ⟨wr.heap.size, 1, none⟩ = some (.bool kn) := hK2.cell 1
      have q2 : w2.cell? ⟨wr.heap.size, 2, none⟩ = some (.int .i64 klo) := hK2.cell 2
      have q3 : w2.cell? ⟨wr.heap.size, 3, none⟩ = some (.int .i64 khi) := hK2.cell 3
      have q4 : w2.cell? ⟨wr.heap.size, 4, none⟩ = some (.bool kl) := hK2.cell 4
      have q5 : w2.cell? ⟨wr.heap.size, 5, none⟩ = some (.bool kb) := hK2.cell 5
      have hT := (HE.out.belowAt hb02 hM).eText
      have hRg := (HE.out.belowAt hb02 hM).eRange
      cases kr with
      | true =>
        have HRg := Lib.hid (register_any sw hss er w2 (HE.out.belowAt hb02 hM))
        clear q1 q2 q3 q4 q5 hRg
        go_wp2_with fail
        refine HRg.out.mono ?_
        rintro e w3 ⟨rfl, hb3⟩
        have hS3 := hS2.below hb3
        have hKp3 := hKp2.below hb3
        have ho3 := own_below ho2 hb3
        have hb03 : Below M w0 w3 := hb02.trans (hb3.mono (by omega))
        have hsz3 : wr.heap.size < w3.heap.size := Nat.lt_of_lt_of_le hsz2 hb3.size
        have hT3 := cell_below hT hb3
        clear HRg hb3 hS2 hKp2 ho2 hb02 hT q0 hK2
        by_cases hr : regP sw.data.toList < 0
        · have HF : Hid (opsP st.words.length line pairs [] st.lates = (vs, ls, 18)) := Lib.hid (by
            rw [HQ.out, HSt.out]
            simp [opd, hr])
          clear HSt HQ
          go_wp2_with fail
          go_quiet (fail)
          go_wp2
          go_ret2
          rw [HF.out]
          exact ⟨⟨.slice none 0 0, by rw [errV_pos er 18 (by decide)]; rfl, fun h => by cases h⟩, below_drewN hb03 _, hKp3.drewN _⟩
        · have HN2 : Hid (opsP st.words.length line pairs [] st.lates = opsP st.words.length line (pairs.drop (k + 1)) (vs ++ [regP sw.data.toList]) ls) := Lib.hid (by
            rw [HQ.out, HSt.out]
            simp [opd, hr])
          clear HSt HQ
          go_wp2_with (at_builtin; refine wpList_append_own _ rfl (.tmp 86) (.tmp 88) _ rfl w.heap.size 3 i0 _ 1 8 Tryz.underlying116 hi hz0 hz1 hz2 rfl (by decide) (.slice A vs.length c) vs.length (vs.map fun x => Value.int .i64 x) rfl (ho3.alloc _) ⟨w3.heap.size, 0, none⟩ 1 1 [.int .i64 (regP sw.data.toList)] rfl rfl ?c1 ?c2 ?c3 ?c4 ?c5 ?_)
          case c1 => first | exact fun j u hu => new_cells w3 _ _ j u hu | exact fun j u hu => hu
          case c2 => intro u hu; simp only [List.mem_cons, List.not_mem_nil, or_false] at hu; subst hu; rfl
          case c3 => unfold maxLen; omega
          case c4 => omega
          case c5 => first | omega | (simp; omega)
          intro v9 w9 hown9 hg9 _
          have hv9 : ∃ A c, v9 = .slice A (vs.length + 1) c := by
            rcases hown9.2 with ⟨_, h⟩ | ⟨g, cap, cur, h, _⟩
            · omega
            · exact ⟨_, _, h⟩
          obtain ⟨A9, c9, hv9⟩ := hv9
          rw [hv9]
          rw [hv9] at hown9
          have hKp9 : Keeps w w9 := fun g t cs hB h1 h2 h3 => ((hKp3 g t cs hB h1 h2 h3).alloc _).grown hg9 (own_apart_base ho3 hB.lt)
          have hS9 : SrcAt w9 M { st with lates := ls } := by
            obtain ⟨a1, a2, a3, a4, a5, a6, a7, a8⟩ := hS3.below ((Below.refl w3.heap.size w3).alloc (Nat.le_refl _) (.cells #[.int .i64 (regP sw.data.toList)] 3))
            exact ⟨a1, a2, a3, a4, a5.grown hg9 (own_apart_base ho3 (by omega)), a6.kept hg9 (own_ne a6 (ho3.alloc _) (by decide)), a7.kept hg9 (own_ne a7 (ho3.alloc _) (by decide)), a8.kept hg9 (own_apart_base ho3 (by omega))⟩
          have hb09 : Below M w0 w9 := (hb03.alloc (by omega) _).grown hg9 (by simp; omega) (fun k hk => by have := own_from ho3 k hk; omega)
          have hsz9 : w.heap.size ≤ w9.heap.size := by have := hg9.size; simp at this; omega
          clear hv9 ho3 hS3 hKp3 hb03
          go_wp2
          go_roundw
          case rel =>
            refine ⟨k + 1, vs ++ [regP sw.data.toList], ls, A9, c9, by omega, by go_num, by rw [List.length_append]; rfl, Lib.hid (by rw [List.length_append, hvk.out]; rfl), by first | omega | (simp only [List.length_append, List.length_cons, List.length_nil]; omega), hS9, hKp9, hb09, hsz9, ?_, HN2⟩
            rw [List.length_append, List.map_append]
            exact hown9
          case measure => simp [intOf]; omega
      | false =>
        cases hnum : (kn && (valP sw.data.toList).2) with
        | true =>
          simp only [Bool.and_eq_true] at hnum
          obtain ⟨rfl, hv2⟩ := hnum
          by_cases hlo : (valP sw.data.toList).1 < klo
          · have HF : Hid (opsP st.words.length line pairs [] st.lates = (vs, ls, 4)) := Lib.hid (by
              rw [HQ.out, HSt.out]
              simp [opd, hv2, hlo])
            clear HSt HQ hT
            go_wp2_with fail
            go_quiet (fail)
            go_wp2
            go_ret2
            rw [HF.out]
            exact ⟨⟨.slice none 0 0, by rw [errV_pos er 4 (by decide)]; rfl, fun h => by cases h⟩, below_drewN hb02 _, hKp2.drewN _⟩
          · by_cases hhi : khi < (valP sw.data.toList).1
            · have HF : Hid (opsP st.words.length line pairs [] st.lates = (vs, ls, 4)) := Lib.hid (by
                rw [HQ.out, HSt.out]
                simp [opd, hv2, hhi])
              clear HSt HQ hT
              go_wp2_with fail
              go_quiet (fail)
              go_wp2
              go_ret2
              rw [HF.out]
              exact ⟨⟨.slice none 0 0, by rw [errV_pos er 4 (by decide)]; rfl, fun h => by cases h⟩, below_drewN hb02 _, hKp2.drewN _⟩
            · have HN2 : Hid (opsP st.words.length line pairs [] st.lates = opsP st.words.length line (pairs.drop (k + 1)) (vs ++ [(valP sw.data.toList).1]) ls) := Lib.hid (by
                rw [HQ.out, HSt.out]
                simp [opd, hv2, hlo, hhi])
              clear HSt HQ hT hRg
              go_wp2_with (at_builtin; refine wpList_append_own _ rfl (.tmp 86) (.tmp 88) _ rfl w.heap.size 3 i0 _ 1 8 Tryz.underlying116 hi hz0 hz1 hz2 rfl (by decide) (.slice A vs.length c) vs.length (vs.map fun x => Value.int .i64 x) rfl (ho2.alloc _) ⟨w2.heap.size, 0, none⟩ 1 1 [.int .i64 ((valP sw.data.toList).1)] rfl rfl ?c1 ?c2 ?c3 ?c4 ?c5 ?_)
              case c1 => first | exact fun j u hu => new_cells w2 _ _ j u hu | exact fun j u hu => hu
              case c2 => intro u hu; simp only [List.mem_cons, List.not_mem_nil, or_false] at hu; subst hu; rfl
              case c3 => unfold maxLen; omega
              case c4 => omega
              case c5 => first | omega | (simp; omega)
              intro v9 w9 hown9 hg9 _
              have hv9 : ∃ A c, v9 = .slice A (vs.length + 1) c := by
                rcases hown9.2 with ⟨_, h⟩ | ⟨g, cap, cur, h, _⟩
                · omega
                · exact ⟨_, _, h⟩
              obtain ⟨A9, c9, hv9⟩ := hv9
              rw [hv9]
              rw [hv9] at hown9
              have hKp9 : Keeps w w9 := fun g t cs hB h1 h2 h3 => ((hKp2 g t cs hB h1 h2 h3).alloc _).grown hg9 (own_apart_base ho2 hB.lt)
              have hS9 : SrcAt w9 M { st with lates := ls } := by
                obtain ⟨a1, a2, a3, a4, a5, a6, a7, a8⟩ := hS2.below ((Below.refl w2.heap.size w2).alloc (Nat.le_refl _) (.cells #[.int .i64 ((valP sw.data.toList).1)] 3))
                exact ⟨a1, a2, a3, a4, a5.grown hg9 (own_apart_base ho2 (by omega)), a6.kept hg9 (own_ne a6 (ho2.alloc _) (by decide)), a7.kept hg9 (own_ne a7 (ho2.alloc _) (by decide)), a8.kept hg9 (own_apart_base ho2 (by omega))⟩
              have hb09 : Below M w0 w9 := (hb02.alloc (by omega) _).grown hg9 (by simp; omega) (fun k hk => by have := own_from ho2 k hk; omega)
              have hsz9 : w.heap.size ≤ w9.heap.size := by have := hg9.size; simp at this; omega
              clear hv9 ho2 hS2 hKp2 hb02
              go_wp2
              go_roundw
              case rel =>
                refine ⟨k + 1, vs ++ [(valP sw.data.toList).1], ls, A9, c9, by omega, by go_num, by rw [List.length_append]; rfl, Lib.hid (by rw [List.length_append, hvk.out]; rfl), by first | omega | (simp only [List.length_append, List.length_cons, List.length_nil]; omega), hS9, hKp9, hb09, hsz9, ?_, HN2⟩
                rw [List.length_append, List.map_append]
                exact hown9
              case measure => simp [intOf]; omega
        | false =>
          have hnn : ¬ (kn = true ∧ (valP sw.data.toList).2 = true) := by
            intro h
            rw [h.1, h.2] at hnum
            cases hnum
          have hcase : kn = false ∨ (kn = true ∧ (valP sw.data.toList).2 = false) := by
            cases kn with
            | false => exact .inl rfl
            | true => exact .inr ⟨rfl, by simpa using hnn⟩
          have HNm := Lib.hid (isName_any sw hss er w2 (HE.out.belowAt hb02 hM))
          have HO : Hid (opd ⟨false, kn, klo, khi, kl, kb⟩ sw.data.toList = if kl = true ∧ nameP sw.data.toList = true then .late else .bad 18) := Lib.hid (by
            unfold opd
            simp only
            rw [if_neg (by decide), if_neg hnn])
          clear hnn hnum hRg q2 q3
          cases kl with
          | false =>
            have HF : Hid (opsP st.words.length line pairs [] st.lates = (vs, ls, 18)) := Lib.hid (by
              rw [HQ.out, HSt.out, HO.out]
              simp)
            clear HSt HQ HO HNm q5
            rcases hcase with rfl | ⟨rfl, hv2⟩
            all_goals
              go_wp2_with fail
              go_quiet (fail)
              go_wp2
              go_ret2
              rw [HF.out]
              exact ⟨⟨.slice none 0 0, by rw [errV_pos er 18 (by decide)]; rfl, fun h => by cases h⟩, below_drewN hb02 _, hKp2.drewN _⟩
          | true =>
            cases hnm : nameP sw.data.toList with
            | false =>
              rw [hnm] at HNm
              have HF : Hid (opsP st.words.length line pairs [] st.lates = (vs, ls, 18)) := Lib.hid (by
                rw [HQ.out, HSt.out, HO.out, hnm]
                simp)
              clear HSt HQ HO hnm q5
              rcases hcase with rfl | ⟨rfl, hv2⟩
              all_goals
                go_wp2_with fail
                refine HNm.out.mono ?_
                rintro e w3 ⟨rfl, hb3⟩
                have hb03 : Below M w0 w3 := hb02.trans (hb3.mono (by omega))
                have hKp3 := hKp2.below hb3
                have hT3 := cell_below hT hb3
                go_wp2_with fail
                go_quiet (fail)
                go_wp2
                go_ret2
                rw [HF.out]
                exact ⟨⟨.slice none 0 0, by rw [errV_pos er 18 (by decide)]; rfl, fun h => by cases h⟩, below_drewN hb03 _, hKp3.drewN _⟩
            | true =>
              rw [hnm] at HNm
              have HN2 : Hid (opsP st.words.length line pairs [] st.lates = opsP st.words.length line (pairs.drop (k + 1)) (vs ++ [0]) (ls ++ [⟨st.words.length, line, sw.data.toList, kb⟩])) := Lib.hid (by
                rw [HQ.out, HSt.out, HO.out, hnm]
                simp)
              clear HSt HQ HO hnm hT
              rcases hcase with rfl | ⟨rfl, hv2⟩
              · go_wp2_with fail
                refine HNm.out.mono ?_
                rintro e w3 ⟨rfl, hb3⟩
                have hb03 : Below M w0 w3 := hb02.trans (hb3.mono (by omega))
                have hKp3 := hKp2.below hb3
                have hK3 := hK2.below hb3 hsz2
                have ho3 := own_below ho2 hb3
                have hsz3 : wr.heap.size < w3.heap.size := Nat.lt_of_lt_of_le hsz2 hb3.size
                obtain ⟨AWs, cWs, ALs, cLs, hSb, hSw, hSl, hSm⟩ := hS2.below hb3
                have s0 : w3.cell? ⟨M + 1, 0, none⟩ = some (.slice AWs st.words.length cWs) := hSb.cell 0
                have s2 : w3.cell? ⟨M + 1, 2, none⟩ = some (.slice ALs ls.length cLs) := hSb.cell 2
                have p5 : w3.cell? ⟨wr.heap.size, 5, none⟩ = some (.bool kb) := hK3.cell 5
                have nS : some (M + 1) ≠ (Value.slice ALs ls.length cLs).ownBlock := own_apart_base hSl (by omega)
                have nK : some wr.heap.size ≠ (Value.slice ALs ls.length cLs).ownBlock := own_apart hSl hK3 (by decide)
                have hM3 : M + 1 < w3.heap.size := hSb.lt
                clear HNm hb3 hb02 hKp2 hK2 ho2 hS2 q0 q1 q4 q5
                go_wp2_with fail
                go_region_law ((refine step_append_lies _ (by rfl) _ _ _ (by rfl) (M + 2) 112 j0 _ 4 40 Tryz.underlying104 hj hy0 hy1 hy2 rfl (by omega) (.slice ALs ls.length cLs) ls.length (lencs ls) (by rfl) ((hSl.alloc _).drew) ⟨w3.heap.size, 0, none⟩ 1 1 (Late.enc ⟨st.words.length, line, sw.data.toList, kb⟩) (by rfl) (by rfl) (World.news_of_block (cs := (Late.enc ⟨st.words.length, line, sw.data.toList, kb⟩).toArray) (t := 112) (fr := (0, 0)) (heap_alloc_new w3 _)) (by simp [Late.enc, Value.oneCell']) (by omega) (by unfold maxLen; omega) (by omega) (by simp; omega) (w3.heap.size + 1) (by simp) ?_; intro gg cap w4 hown4 hgrow hat hlt4; have hs4 : w4.frozen? ⟨M + 1, 2, none⟩ = false := (hgrow.frozen_far ⟨M + 1, 2, none⟩ (by simp; omega) nS).trans ((hSb.alloc _).frozen 2); have hc4 : w4.cell? ⟨M + 1, 2, none⟩ = some (.slice ALs ls.length cLs) := (hgrow.cell_far ⟨M + 1, 2, none⟩ (by simp; omega) nS).trans ((hSb.alloc _).cell 2)))
                all_goals
                  obtain ⟨hS5, hk5, hb5, hz5, ho5⟩ := late_store hSb hSw hSl hSm hown4 hgrow
                  have hKp5 := hk5 _ hKp3
                  have hb05 := hb5 _ hb03
                  have hsz5 := Nat.lt_of_lt_of_le hsz3 hz5
                  have hov5 := ho5 _ _ _ _ ho3 (by omega)
                  clear hk5 hb5 ho5 hSb hSw hSl hSm hown4 hgrow hat hlt4 hs4 hc4 hKp3 hb03 ho3 hK3 s0 s2 p5 nS nK
                  generalize w4.setCell ⟨M + 1, 2, none⟩ (.slice (some ⟨gg, 0, none⟩) (ls.length + 1) cap) = w5 at *
                  go_wp2_with (at_builtin; refine wpList_append_own _ rfl (.tmp 86) (.tmp 88) _ rfl w.heap.size 3 i0 _ 1 8 Tryz.underlying116 hi hz0 hz1 hz2 rfl (by decide) (.slice A vs.length c) vs.length (vs.map fun x => Value.int .i64 x) rfl (hov5.alloc _) ⟨w5.heap.size, 0, none⟩ 1 1 [.int .i64 (0)] rfl rfl ?c1 ?c2 ?c3 ?c4 ?c5 ?_)
                  case c1 => first | exact fun j u hu => new_cells w5 _ _ j u hu | exact fun j u hu => hu
                  case c2 => intro u hu; simp only [List.mem_cons, List.not_mem_nil, or_false] at hu; subst hu; rfl
                  case c3 => unfold maxLen; omega
                  case c4 => omega
                  case c5 => first | omega | (simp; omega)
                  intro v9 w9 hown9 hg9 _
                  have hv9 : ∃ A c, v9 = .slice A (vs.length + 1) c := by
                    rcases hown9.2 with ⟨_, h⟩ | ⟨g, cap, cur, h, _⟩
                    · omega
                    · exact ⟨_, _, h⟩
                  obtain ⟨A9, c9, hv9⟩ := hv9
                  rw [hv9]
                  rw [hv9] at hown9
                  have hKp9 : Keeps w w9 := fun g t cs hB h1 h2 h3 => ((hKp5 g t cs hB h1 h2 h3).alloc _).grown hg9 (own_apart_base hov5 hB.lt)
                  have hS9 : SrcAt w9 M { st with lates := (ls++[⟨st.words.length,line,sw.data.toList,kb⟩]) } := by
                    obtain ⟨a1, a2, a3, a4, a5, a6, a7, a8⟩ := hS5.below ((Below.refl w5.heap.size w5).alloc (Nat.le_refl _) (.cells #[.int .i64 (0)] 3))
                    exact ⟨a1, a2, a3, a4, a5.grown hg9 (own_apart_base hov5 (by omega)), a6.kept hg9 (own_ne a6 (hov5.alloc _) (by decide)), a7.kept hg9 (own_ne a7 (hov5.alloc _) (by decide)), a8.kept hg9 (own_apart_base hov5 (by omega))⟩
                  have hb09 : Below M w0 w9 := (hb05.alloc (by omega) _).grown hg9 (by simp; omega) (fun k hk => by have := own_from hov5 k hk; omega)
                  have hsz9 : w.heap.size ≤ w9.heap.size := by have := hg9.size; simp at this; omega
                  clear hv9 hov5 hS5 hKp5 hb05
                  go_wp2
                  go_roundw
                  case rel =>
                    refine ⟨k + 1, vs ++ [0], (ls++[⟨st.words.length,line,sw.data.toList,kb⟩]), A9, c9, by omega, by go_num, by rw [List.length_append]; rfl, Lib.hid (by rw [List.length_append, hvk.out]; rfl), by first | omega | (simp only [List.length_append, List.length_cons, List.length_nil]; omega), hS9, hKp9, hb09, hsz9, ?_, HN2⟩
                    rw [List.length_append, List.map_append]
                    exact hown9
                  case measure => simp [intOf]; omega
              · go_wp2_with fail
                refine HNm.out.mono ?_
                rintro e w3 ⟨rfl, hb3⟩
                have hb03 : Below M w0 w3 := hb02.trans (hb3.mono (by omega))
                have hKp3 := hKp2.below hb3
                have hK3 := hK2.below hb3 hsz2
                have ho3 := own_below ho2 hb3
                have hsz3 : wr.heap.size < w3.heap.size := Nat.lt_of_lt_of_le hsz2 hb3.size
                obtain ⟨AWs, cWs, ALs, cLs, hSb, hSw, hSl, hSm⟩ := hS2.below hb3
                have s0 : w3.cell? ⟨M + 1, 0, none⟩ = some (.slice AWs st.words.length cWs) := hSb.cell 0
                have s2 : w3.cell? ⟨M + 1, 2, none⟩ = some (.slice ALs ls.length cLs) := hSb.cell 2
                have p5 : w3.cell? ⟨wr.heap.size, 5, none⟩ = some (.bool kb) := hK3.cell 5
                have nS : some (M + 1) ≠ (Value.slice ALs ls.length cLs).ownBlock := own_apart_base hSl (by omega)
                have nK : some wr.heap.size ≠ (Value.slice ALs ls.length cLs).ownBlock := own_apart hSl hK3 (by decide)
                have hM3 : M + 1 < w3.heap.size := hSb.lt
                clear HNm hb3 hb02 hKp2 hK2 ho2 hS2 q0 q1 q4 q5
                go_wp2_with fail
                go_region_law ((refine step_append_lies _ (by rfl) _ _ _ (by rfl) (M + 2) 112 j0 _ 4 40 Tryz.underlying104 hj hy0 hy1 hy2 rfl (by omega) (.slice ALs ls.length cLs) ls.length (lencs ls) (by rfl) ((hSl.alloc _).drew) ⟨w3.heap.size, 0, none⟩ 1 1 (Late.enc ⟨st.words.length, line, sw.data.toList, kb⟩) (by rfl) (by rfl) (World.news_of_block (cs := (Late.enc ⟨st.words.length, line, sw.data.toList, kb⟩).toArray) (t := 112) (fr := (0, 0)) (heap_alloc_new w3 _)) (by simp [Late.enc, Value.oneCell']) (by omega) (by unfold maxLen; omega) (by omega) (by simp; omega) (w3.heap.size + 1) (by simp) ?_; intro gg cap w4 hown4 hgrow hat hlt4; have hs4 : w4.frozen? ⟨M + 1, 2, none⟩ = false := (hgrow.frozen_far ⟨M + 1, 2, none⟩ (by simp; omega) nS).trans ((hSb.alloc _).frozen 2); have hc4 : w4.cell? ⟨M + 1, 2, none⟩ = some (.slice ALs ls.length cLs) := (hgrow.cell_far ⟨M + 1, 2, none⟩ (by simp; omega) nS).trans ((hSb.alloc _).cell 2)))
                all_goals
                  obtain ⟨hS5, hk5, hb5, hz5, ho5⟩ := late_store hSb hSw hSl hSm hown4 hgrow
                  have hKp5 := hk5 _ hKp3
                  have hb05 := hb5 _ hb03
                  have hsz5 := Nat.lt_of_lt_of_le hsz3 hz5
                  have hov5 := ho5 _ _ _ _ ho3 (by omega)
                  clear hk5 hb5 ho5 hSb hSw hSl hSm hown4 hgrow hat hlt4 hs4 hc4 hKp3 hb03 ho3 hK3 s0 s2 p5 nS nK
                  generalize w4.setCell ⟨M + 1, 2, none⟩ (.slice (some ⟨gg, 0, none⟩) (ls.length + 1) cap) = w5 at *
                  go_wp2_with (at_builtin; refine wpList_append_own _ rfl (.tmp 86) (.tmp 88) _ rfl w.heap.size 3 i0 _ 1 8 Tryz.underlying116 hi hz0 hz1 hz2 rfl (by decide) (.slice A vs.length c) vs.length (vs.map fun x => Value.int .i64 x) rfl (hov5.alloc _) ⟨w5.heap.size, 0, none⟩ 1 1 [.int .i64 (0)] rfl rfl ?c1 ?c2 ?c3 ?c4 ?c5 ?_)
                  case c1 => first | exact fun j u hu => new_cells w5 _ _ j u hu | exact fun j u hu => hu
                  case c2 => intro u hu; simp only [List.mem_cons, List.not_mem_nil, or_false] at hu; subst hu; rfl
                  case c3 => unfold maxLen; omega
                  case c4 => omega
                  case c5 => first | omega | (simp; omega)
                  intro v9 w9 hown9 hg9 _
                  have hv9 : ∃ A c, v9 = .slice A (vs.length + 1) c := by
                    rcases hown9.2 with ⟨_, h⟩ | ⟨g, cap, cur, h, _⟩
                    · omega
                    · exact ⟨_, _, h⟩
                  obtain ⟨A9, c9, hv9⟩ := hv9
                  rw [hv9]
                  rw [hv9] at hown9
                  have hKp9 : Keeps w w9 := fun g t cs hB h1 h2 h3 => ((hKp5 g t cs hB h1 h2 h3).alloc _).grown hg9 (own_apart_base hov5 hB.lt)
                  have hS9 : SrcAt w9 M { st with lates := (ls++[⟨st.words.length,line,sw.data.toList,kb⟩]) } := by
                    obtain ⟨a1, a2, a3, a4, a5, a6, a7, a8⟩ := hS5.below ((Below.refl w5.heap.size w5).alloc (Nat.le_refl _) (.cells #[.int .i64 (0)] 3))
                    exact ⟨a1, a2, a3, a4, a5.grown hg9 (own_apart_base hov5 (by omega)), a6.kept hg9 (own_ne a6 (hov5.alloc _) (by decide)), a7.kept hg9 (own_ne a7 (hov5.alloc _) (by decide)), a8.kept hg9 (own_apart_base hov5 (by omega))⟩
                  have hb09 : Below M w0 w9 := (hb05.alloc (by omega) _).grown hg9 (by simp; omega) (fun k hk => by have := own_from hov5 k hk; omega)
                  have hsz9 : w.heap.size ≤ w9.heap.size := by have := hg9.size; simp at this; omega
                  clear hv9 hov5 hS5 hKp5 hb05
                  go_wp2
                  go_roundw
                  case rel =>
                    refine ⟨k + 1, vs ++ [0], (ls++[⟨st.words.length,line,sw.data.toList,kb⟩]), A9, c9, by omega, by go_num, by rw [List.length_append]; rfl, Lib.hid (by rw [List.length_append, hvk.out]; rfl), by first | omega | (simp only [List.length_append, List.length_cons, List.length_nil]; omega), hS9, hKp9, hb09, hsz9, ?_, HN2⟩
                    rw [List.length_append, List.map_append]
                    exact hown9
                  case measure => simp [intOf]; omega
    · have hkn : k = n := by omega
      have HF : Hid (opsP st.words.length line pairs [] st.lates = (vs, ls, 0)) := Lib.hid (by
        rw [HQ.out, List.drop_eq_nil_of_le (by rw [← HP.out, List.length_zip, HN.out]; omega)]
        rfl)
      clear HQ
      subst hkn
      go_wp2
      go_ret2
      rw [HF.out]
      exact ⟨⟨_, by rw [errV_zero]; rfl, fun _ => ⟨NumsV.of_own hown, hSr⟩⟩, hbr, hKp⟩
end Go.Proofs.YtecmeegnjjhilaaGreatDoor
