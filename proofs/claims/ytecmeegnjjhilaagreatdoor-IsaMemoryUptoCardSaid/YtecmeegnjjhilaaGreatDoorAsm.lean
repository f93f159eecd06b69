/- isa.Assemble: the words of a source text, or the error and its line. UNDER WORK. -/
import Derived.Test.YtecmeegnjjhilaaGreatDoorAsp
import Derived.Test.YtecmeegnjjhilaaGreatDoorLine
namespace Go.Proofs.YtecmeegnjjhilaaGreatDoor
open Go.RowKit
open Go.Maps
/-- What Assemble answers: words in memory of its own; or no words and an error with its place. -/
def AsmOut (w : World) (er : Nat → Addr) (r : List Int × Option (Int × Nat)) (e : Ending) (w' : World) : Prop :=
  Below w.heap.size w w' ∧ match r with
  | (ws, none) => ∃ A c, e = .returned (.tuple #[.slice A ws.length c, .nilIface]) ∧ w'.ownsRow w.heap.size 28 1 (.slice A ws.length c) ws.length (w32 ws)
  | (_, some (n, cd)) => ∃ b, e = .returned (.tuple #[.slice none 0 0, .iface 108 (.pointer (some ⟨b, 0, none⟩))]) ∧ w.heap.size ≤ b ∧ Blk w' b 110 #[.int .i64 n, ev (er cd)]

theorem look_mem {ls : List (List UInt8 × Int)} {l : List UInt8} {a : Int} (h : lookL ls l = some a) : ∃ p ∈ ls, p.2 = a := by
  unfold lookL at h
  obtain ⟨p, hp, rfl⟩ := Option.map_eq_some_iff.1 h
  exact ⟨p, by simpa using List.mem_of_find?_eq_some hp, rfl⟩

theorem orLow_bits (x v u : Int) (hu : u = v % 4294967296) (x0 : 0 ≤ x) (x1 : x < 4294967296) : bits .or .u32 x (bits .and .u32 u 65535) = orLow x v := by
  have h1 : bits .and .u32 u 65535 = v % 65536 := by
    rw [and_low u 16 65535 (by decide) (by omega) (by omega) (by omega)]
    omega
  rw [h1, u32_or x (v % 65536) x0 x1 (by omega) (by omega)]
  rfl
theorem orLow_range (x v : Int) (x0 : 0 ≤ x) (x1 : x < 4294967296) : 0 ≤ orLow x v ∧ orLow x v < 4294967296 := by
  unfold orLow
  have h1 : x.toNat < 2 ^ 32 := by omega
  have h2 : (v % 65536).toNat < 2 ^ 32 := by omega
  have := Nat.or_lt_two_pow h1 h2
  omega

set_option maxHeartbeats 2000000 in
set_option maxRecDepth 100000 in
theorem assemble_any (er : Nat → Addr) (s : ByteArray) (hs : s.size ≤ 100000000) (w : World) (E : Env er w) :
    Calls Tryz.prog 29 #[.string s] w (AsmOut w er (asmP s)) := by
  have HE := Lib.hid E
  obtain ⟨m, hm⟩ := E.maxl
  have hmm := @run_makeMap Tryz.prog
  clear E
  go_enter Tryz.func29, Tryz.ntmps29
  go_wp2_with fail
  have HSp : Hid _ := Lib.hid (Tryz.strings_Split s ⟨#[10]⟩ m ((w.alloc (.map #[] 0)).alloc (.cells #[.slice none 0 0, .map (some w.heap.size), .slice none 0 0] 106)) (by omega) (by
    have h := World.block_lt_of_cell? w _ hm
    rw [Below.cell (B := w.heap.size) (((Below.refl _ _).alloc (Nat.le_refl _) _).alloc (by simp) _) h]
    exact hm) (by decide))
  refine HSp.out.mono ?_
  rintro e w1 ⟨rfl, rfl⟩
  have hS1 : SrcAt (((w.alloc (.map #[] 0)).alloc (.cells #[.slice none 0 0, .map (some w.heap.size), .slice none 0 0] 106)).alloc (.cells ((Lib.splitB ⟨#[10]⟩ 0 (Lib.countB s ⟨#[10]⟩) s).map Value.string).toArray 9)) w.heap.size ⟨[], [], []⟩ := by
    refine ⟨none, 0, none, 0, ?_, own_nil _ _ _ _, own_nil _ _ _ _, ?_⟩
    · have h := fun o => (Blk.new (w.alloc (.map #[] 0)) 106 #[.slice none 0 0, .map (some w.heap.size), .slice none 0 0]).alloc o
      simp only [World.size_alloc] at h
      exact h _
    · exact ((World.ownsMap_made w _ _ _).alloc _).alloc _
  have hb1 : Below w.heap.size w (((w.alloc (.map #[] 0)).alloc (.cells #[.slice none 0 0, .map (some w.heap.size), .slice none 0 0] 106)).alloc (.cells ((Lib.splitB ⟨#[10]⟩ 0 (Lib.countB s ⟨#[10]⟩) s).map Value.string).toArray 9)) := (((Below.refl _ _).alloc (Nat.le_refl _) _).alloc (by simp) _).alloc (by simp; omega) _
  have hL1 : Blk (((w.alloc (.map #[] 0)).alloc (.cells #[.slice none 0 0, .map (some w.heap.size), .slice none 0 0] 106)).alloc (.cells ((Lib.splitB ⟨#[10]⟩ 0 (Lib.countB s ⟨#[10]⟩) s).map Value.string).toArray 9)) (w.heap.size + 1 + 1) 9 ((linesL s).map Value.string).toArray := by
    have := Blk.new ((w.alloc (.map #[] 0)).alloc (.cells #[.slice none 0 0, .map (some w.heap.size), .slice none 0 0] 106)) 9 ((linesL s).map Value.string).toArray
    simp only [World.size_alloc] at this
    exact this
  have hLn := lines_count s
  have hLs := split_sizes ⟨#[10]⟩ 0 (Lib.countB s ⟨#[10]⟩) s
  have hcb : Lib.countB s ⟨#[10]⟩ ≤ s.size := Lib.countB_le ⟨#[10]⟩ (by decide) _ s (Nat.le_refl _)
  have HA : Hid (asmP s = match asmLines 0 (linesL s) ⟨[], [], []⟩ with
    | (_, some (n, c)) => ([], some ((n : Int), c))
    | (st, none) => match patchP st.labels st.lates st.words with
      | (_, some n) => ([], some (n, 17))
      | (ws, none) => (ws, none)) := Lib.hid rfl
  have HLs : Hid (∀ x ∈ linesL s, x.size ≤ s.size) := Lib.hid hLs
  have HLn := Lib.hid hLn
  clear hLs hLn HSp hmm hm
  generalize linesL s = L at HA HLs HLn hL1
  generalize Lib.countB s ⟨#[10]⟩ = cn at HLn hcb hS1 hb1 hL1 ⊢
  generalize ((w.alloc (.map #[] 0)).alloc (.cells #[.slice none 0 0, .map (some w.heap.size), .slice none 0 0] 106)).alloc (.cells ((Lib.splitB ⟨#[10]⟩ 0 cn s).map Value.string).toArray 9) = w1 at hS1 hb1 hL1 ⊢
  go_wp2
  go_loopw [18] (fun s18 wr => ∃ (k : Nat) (st : Src), k ≤ cn + 1 ∧ s18 = .int .i64 k ∧ SrcAt wr w.heap.size st ∧ Below w.heap.size w wr ∧ Keeps w1 wr ∧ Inv st ∧ st.words.length ≤ 512 ∧ st.labels.length ≤ k * 100000001 ∧ st.lates.length ≤ 4 * k ∧
      Hid (asmLines 0 L ⟨[], [], []⟩ = asmLines k (L.drop k) st)) (fun i _ => cn + 1 - (intOf i).toNat)
  case atStart => exact ⟨0, ⟨[], [], []⟩, by omega, rfl, hS1, hb1, Keeps.refl _, ⟨by simp, by simp, by simp⟩, by simp, by simp, by simp, rfl⟩
  case round =>
    obtain ⟨k, st, hk, rfl, hSr, hbr, hkr, hinv, hst, hlb, hlt, HQ⟩ := hrel
    have Hinv := Lib.hid hinv
    clear hS1 hb1 hinv
    by_cases hltk : k < cn + 1
    · obtain ⟨l, hl⟩ : ∃ l, L[k]? = some l := ⟨_, List.getElem?_eq_getElem (by rw [HLn.out]; exact hltk)⟩
      have hls : l.size ≤ s.size := HLs.out l (List.mem_of_getElem? hl)
      have hBr := hkr _ _ _ hL1 (by decide) (by decide) (by decide)
      have hcl : wr.cell? ⟨w.heap.size + 1 + 1, k, none⟩ = some (.string l) := by rw [hBr.cell k]; simp [hl]
      have HSt : Hid (asmLines k (L.drop k) st = if (lineP ((k : Int) + 1) l.data.toList st).2 ≠ 0 then (st, some (k + 1, (lineP ((k : Int) + 1) l.data.toList st).2)) else asmLines (k + 1) (L.drop (k + 1)) (lineP ((k : Int) + 1) l.data.toList st).1) := Lib.hid (by
        obtain ⟨hl1, he⟩ := List.getElem?_eq_some_iff.1 hl
        rw [List.drop_eq_getElem_cons hl1, he]
        rfl)
      have HLine := Lib.hid (line_any er w HE.out w.heap.size (Nat.le_refl _) st hst (by omega) (by omega) ((k : Int) + 1) l (by omega) wr hbr hSr)
      have HInv2 := Lib.hid (lineP_inv ((k : Int) + 1) l.data.toList st hst Hinv.out)
      have hMr := hSr.lt
      clear hl Hinv hBr hSr hbr
      generalize lineP ((k : Int) + 1) l.data.toList st = res at HSt HLine HInv2
      obtain ⟨st2, c⟩ := res
      go_wp2_with fail
      refine HLine.out.mono ?_
      rintro e w2 ⟨rfl, hb2, hk2, hok⟩
      have hkr2 := hkr.trans hk2
      clear HLine hcl hkr hk2
      by_cases hc : c = 0
      · subst hc
        obtain ⟨hS2, hw2, hlb2, hlt2⟩ := hok rfl
        obtain ⟨hinv2, _⟩ := HInv2.out rfl
        have HN2 : Hid (asmLines 0 L ⟨[], [], []⟩ = asmLines (k + 1) (L.drop (k + 1)) st2) := Lib.hid (by rw [HQ.out, HSt.out]; rfl)
        simp only at hS2 hw2 hlb2 hlt2 hinv2
        clear HQ HSt HInv2 hok
        rw [errV_zero]
        go_wp2_with fail
        go_roundw
        case rel => exact ⟨k + 1, st2, by omega, by go_num, hS2, hb2, hkr2, hinv2, hw2, by omega, by omega, HN2⟩
        case measure => simp [intOf]; omega
      · have HF : Hid (asmP s = ([], some (((k + 1 : Nat) : Int), c))) := Lib.hid (by rw [HA.out, HQ.out, HSt.out, if_pos hc])
        clear HQ HSt HInv2 hok
        rw [errV_pos er c hc]
        go_wp2_with fail
        go_ret2
        rw [HF.out]
        refine ⟨hb2.alloc hb2.size _, w2.heap.size, rfl, hb2.size, ?_⟩
        have := Blk.new w2 110 #[.int .i64 ((k : Int) + 1), ev (er c)]
        simpa using this
    · have hkn : k = cn + 1 := by omega
      subst hkn
      have HP : Hid (asmP s = match patchP st.labels st.lates st.words with
        | (_, some n) => ([], some (n, 17))
        | (ws, none) => (ws, none)) := Lib.hid (by
        rw [HA.out, HQ.out, List.drop_eq_nil_of_le (by rw [HLn.out]; exact Nat.le_refl _)]
        rfl)
      have hlt9 : st.lates.length ≤ 800000000 := by omega
      have HR0 : Hid (∀ x ∈ st.words, 0 ≤ x ∧ x < 4294967296) := Lib.hid Hinv.out.1
      have HL0 : Hid (∀ l ∈ st.lates, l.at_ < st.words.length ∧ l.label.length ≤ 15) := Lib.hid Hinv.out.2.1
      have HB0 : Hid (∀ l a, lookL st.labels l = some a → 0 ≤ a ∧ a ≤ 2048) := Lib.hid (fun l a h => by
        obtain ⟨p, hp, rfl⟩ := look_mem h
        exact Hinv.out.2.2 p hp)
      obtain ⟨AW, cW, AL, cL, hSb, hSw, hSl, hSm⟩ := hSr
      have t2 : wr.cell? ⟨w.heap.size + 1, 2, none⟩ = some (.slice AL st.lates.length cL) := hSb.cell 2
      clear HA HQ HLs HLn hL1 hkr Hinv hcb hlt hk hltk
      obtain ⟨words, labels, lates⟩ := st
      simp only at HP hlt9 HR0 HL0 HB0 hSb hSw hSl hSm t2 hst
      generalize hnW : words.length = nW at hSb hSw hst HL0
      generalize hnL : lates.length = nL at hSb hSl t2 hlt9
      have HnL := Lib.hid hnL
      have HW0 : Hid (words.length = nW ∧ ∀ x ∈ words, 0 ≤ x ∧ x < 4294967296) := Lib.hid ⟨hnW, HR0.out⟩
      clear hnL hnW HR0
      go_wp2_with fail
      go_loopw [42] (fun s42 wr => ∃ (j : Nat) (ws : List Int), j ≤ nL ∧ s42 = .int .i64 j ∧ Blk wr (w.heap.size + 1) 106 #[.slice AW nW cW, .map (some w.heap.size), .slice AL nL cL] ∧
          wr.ownsRow (w.heap.size + 2) 28 1 (.slice AW nW cW) nW (w32 ws) ∧ wr.ownsRow (w.heap.size + 2) 112 4 (.slice AL nL cL) nL (lencs lates) ∧
          wr.ownsMap Tryz.prog 9 (plainElem Tryz.prog 3) w.heap.size labels.length (labsD labels) ∧ Below w.heap.size w wr ∧
          Hid (ws.length = nW ∧ ∀ x ∈ ws, 0 ≤ x ∧ x < 4294967296) ∧ Hid (patchP labels lates words = patchP labels (lates.drop j) ws)) (fun i _ => nL - (intOf i).toNat)
      case atStart => exact ⟨0, words, by omega, rfl, hSb, hSw, hSl, hSm, hbr, HW0, rfl⟩
      case round =>
        obtain ⟨j, ws, hj, rfl, hB, hW, hL, hm, hb, HW, HQ⟩ := hrel
        clear hSb hSw hSl hSm hbr HW0 t2
        have hM2 := hB.lt
        by_cases hlj : j < nL
        · obtain ⟨l, hl⟩ : ∃ l, lates[j]? = some l := ⟨_, List.getElem?_eq_getElem (by rw [HnL.out]; exact hlj)⟩
          obtain ⟨g, rfl⟩ : ∃ g, AL = some ⟨g, 0, none⟩ := by
            rcases hL.2 with ⟨h1, h2⟩ | ⟨g, cap, cur, h1, _⟩
            · omega
            · injection h1 with h1 _ _
              exact ⟨g, h1⟩
          have hgl : g < wr.heap.size := by
            rcases hL.2 with ⟨h1, h2⟩ | ⟨g', cap, cur, h1, _, hh, _⟩
            · omega
            · injection h1 with h1 _ _
              injection h1 with h1
              injection h1 with h1 _ _
              subst h1
              exact (Array.getElem?_eq_some_iff.1 hh).1
          obtain ⟨hat, hll⟩ := HL0.out l (List.mem_of_getElem? hl)
          have k0 : wr.cell? ⟨g, j * 4, none⟩ = some (.int .i64 l.at_) := by rw [hL.cellAt (j * 4) (by omega)]; exact lencs_at lates j l hl 0 _ rfl
          have k1 : wr.cell? ⟨g, j * 4 + 1, none⟩ = some (.int .i64 l.line) := by rw [hL.cellAt (j * 4 + 1) (by omega)]; exact lencs_at lates j l hl 1 _ rfl
          have k2 : wr.cell? ⟨g, j * 4 + 2, none⟩ = some (.string ⟨l.label.toArray⟩) := by rw [hL.cellAt (j * 4 + 2) (by omega)]; exact lencs_at lates j l hl 2 _ rfl
          have k3 : wr.cell? ⟨g, j * 4 + 3, none⟩ = some (.bool l.branch) := by rw [hL.cellAt (j * 4 + 3) (by omega)]; exact lencs_at lates j l hl 3 _ rfl
          have HSt : Hid (patchP labels (lates.drop j) ws = match lookL labels l.label with
            | none => (ws, some l.line)
            | some ad => patchP labels (lates.drop (j + 1)) (ws.set l.at_ (orLow (ws.getD l.at_ 0) (lateV ad l)))) := Lib.hid (by
            obtain ⟨hl1, he⟩ := List.getElem?_eq_some_iff.1 hl
            rw [List.drop_eq_getElem_cons hl1, he]
            rfl)
          have HLV : Hid (∀ ad, lateV ad l = if l.branch then Int.tdiv (ad - 4 * l.at_ - 4) 4 else ad) := Lib.hid (fun _ => rfl)
          have hKey := keyL l.label (by omega)
          have hLk := labs_at labels l.label
          have hHas := labs_has labels l.label
          have hB2 := hB.alloc (.cells #[.int .i64 l.at_, .int .i64 l.line, .string ⟨l.label.toArray⟩, .bool l.branch] 112)
          have hW2 := hW.alloc (.cells #[.int .i64 l.at_, .int .i64 l.line, .string ⟨l.label.toArray⟩, .bool l.branch] 112)
          have hL2 := hL.alloc (.cells #[.int .i64 l.at_, .int .i64 l.line, .string ⟨l.label.toArray⟩, .bool l.branch] 112)
          have hm2 := hm.alloc (.cells #[.int .i64 l.at_, .int .i64 l.line, .string ⟨l.label.toArray⟩, .bool l.branch] 112)
          have hb2 := hb.alloc (by omega) (.cells #[.int .i64 l.at_, .int .i64 l.line, .string ⟨l.label.toArray⟩, .bool l.branch] 112)
          have hN2 := Blk.new wr 112 #[.int .i64 l.at_, .int .i64 l.line, .string ⟨l.label.toArray⟩, .bool l.branch]
          clear hl hB hW hL hm hb HL0
          obtain ⟨at_, line, label, br⟩ := l
          simp only at k0 k1 k2 k3 HSt HLV hKey hLk hHas hB2 hW2 hL2 hm2 hb2 hN2 hat hll
          go_wp2_with fail
          generalize wr.alloc (.cells #[.int .i64 at_, .int .i64 line, .string ⟨label.toArray⟩, .bool br] 112) = wx at hB2 hW2 hL2 hm2 hb2 hN2 ⊢
          have q0 : wx.cell? ⟨wr.heap.size, 0, none⟩ = some (.int .i64 at_) := hN2.cell 0
          have q1 : wx.cell? ⟨wr.heap.size, 1, none⟩ = some (.int .i64 line) := hN2.cell 1
          have q2 : wx.cell? ⟨wr.heap.size, 2, none⟩ = some (.string ⟨label.toArray⟩) := hN2.cell 2
          have q3 : wx.cell? ⟨wr.heap.size, 3, none⟩ = some (.bool br) := hN2.cell 3
          have s0 : wx.cell? ⟨w.heap.size + 1, 0, none⟩ = some (.slice AW nW cW) := hB2.cell 0
          have s1 : wx.cell? ⟨w.heap.size + 1, 1, none⟩ = some (.map (some w.heap.size)) := hB2.cell 1
          have hrl := hN2.lt
          obtain ⟨v, ps, hrun, hRv⟩ := (hm2.drew).look_ok (t := 103) lawK Tryz.underlying103 (zeroE _) (plainElem_int (H := Unit) Tryz.underlying3 (by decide)) hKey
          obtain ⟨c, rfl, hat1, _⟩ := plainElem_int_inv Tryz.underlying3 hRv
          have hat2 : (labsD labels).atKey (.string label) (.lit (.int .i64 0)) = .lit (.int .i64 c) := congrArg Prod.fst hat1
          rw [hLk] at hat2
          injection hat2 with hat2
          injection hat2 with _ hat2
          rw [hHas] at hrun
          clear hLk hHas hKey hRv hat1 k0 k1 k2 k3
          cases hlook : lookL labels label with
          | none =>
            rw [hlook] at hrun
            have HF : Hid (asmP s = ([], some (line, 17))) := Lib.hid (by rw [HP.out, HQ.out, HSt.out, hlook])
            have hE := (HE.out.belowAt hb2 (Nat.le_refl _)).eNone
            clear HP HQ HSt HLV hlook hat2
            go_region
            go_wp2_with fail
            go_region
            go_wp2_with fail
            go_ret2
            rw [HF.out]
            exact ⟨below_drewN (below_drewN (hb2.alloc hb2.size _) 1) 1, wx.heap.size, rfl, hb2.size, Blk.new wx _ _⟩
          | some ad =>
            rw [hlook] at hrun hat2
            have hc : ad = c := hat2
            subst hc
            have had := HB0.out label ad hlook
            have HN : Hid (patchP labels lates words = patchP labels (lates.drop (j + 1)) (ws.set at_ (orLow (ws.getD at_ 0) (lateV ad ⟨at_, line, label, br⟩)))) := Lib.hid (by rw [HQ.out, HSt.out, hlook])
            clear HQ HSt hlook hat2
            obtain ⟨g2, rfl⟩ : ∃ g2, AW = some ⟨g2, 0, none⟩ := by
              rcases hW2.2 with ⟨h1, h2⟩ | ⟨g2, cap, cur, h1, _⟩
              · omega
              · injection h1 with h1 _ _
                exact ⟨g2, h1⟩
            have hx : ∃ x, ws[at_]? = some x ∧ 0 ≤ x ∧ x < 4294967296 := by
              have hl : at_ < ws.length := by rw [HW.out.1]; exact hat
              exact ⟨ws[at_], List.getElem?_eq_getElem hl, HW.out.2 _ (List.getElem_mem hl)⟩
            obtain ⟨x, hx, x0, x1⟩ := hx
            have u0 : wx.cell? ⟨g2, at_, none⟩ = some (.int .u32 x) := by
              rw [hW2.cellAt at_ (by omega)]
              simp [w32, hx]
            have f0 : wx.frozen? ⟨g2, at_, none⟩ = false := hW2.frozenAt at_
            have hgd : ws.getD at_ 0 = x := by rw [List.getD_eq_getElem?_getD, hx]; rfl
            have hM3 : w.heap.size + 2 ≤ g2 := own_from hW2 g2 rfl
            have hBs : ∀ u, Blk (wx.setCell ⟨g2, at_, none⟩ u).drew.drew (w.heap.size + 1) 106 #[.slice (some ⟨g2, 0, none⟩) nW cW, .map (some w.heap.size), .slice (some ⟨g, 0, none⟩) nL cL] := fun u => hB2.far (p := ⟨g2, at_, none⟩) (by simp; omega) u
            have hLs : ∀ u, (wx.setCell ⟨g2, at_, none⟩ u).drew.drew.ownsRow (w.heap.size + 2) 112 4 (.slice (some ⟨g, 0, none⟩) nL cL) nL (lencs lates) := fun u => by
              refine (World.ownsRow.drew (World.ownsRow.drew (ownsRow_setCell_other hL2 ?_ u)))
              rcases own_ne hL2 hW2 (by decide) with h | h
              · cases h
              · exact h
            have hms : ∀ u, (wx.setCell ⟨g2, at_, none⟩ u).drew.drew.ownsMap Tryz.prog 9 (plainElem Tryz.prog 3) w.heap.size labels.length (labsD labels) := fun u => (hm2.setCell (by simp; omega) u).drew.drew
            have hbs : ∀ u, Below w.heap.size w (wx.setCell ⟨g2, at_, none⟩ u).drew.drew := fun u => below_drewN (below_drewN (hb2.setCell (by simp; omega) u) 1) 1
            have Hgd := Lib.hid hgd
            clear hx hgd
            cases br with
            | false =>
              go_region
              go_wp2_with fail
              go_region
              rw [orLow_bits x ad ad (by omega) x0 x1]
              go_wp2_with fail
              go_roundw
              case rel =>
                refine ⟨j + 1, ws.set at_ (orLow x ad), by omega, by go_num, hBs _, ?_, hLs _, hms _, hbs _, Lib.hid ⟨by rw [List.length_set]; exact HW.out.1, ?_⟩, Lib.hid ?_⟩
                · have := (hW2.stored at_ (.int .u32 (orLow x ad))).1
                  rw [show (w32 ws).set at_ (.int .u32 (orLow x ad)) = w32 (ws.set at_ (orLow x ad)) from by simp [w32, List.map_set]] at this
                  exact this.drew.drew
                · intro y hy
                  rcases List.mem_or_eq_of_mem_set hy with hy | rfl
                  · exact HW.out.2 y hy
                  · exact orLow_range x _ x0 x1
                · rw [HN.out, HLV.out, Hgd.out]
                  rfl
              case measure => simp [intOf]; omega
            | true =>
              have hq : -100000 ≤ (ad - 4 * (at_ : Int) - 4).tdiv 4 ∧ (ad - 4 * (at_ : Int) - 4).tdiv 4 ≤ 100000 := by
                have := Int.natAbs_tdiv (ad - 4 * (at_ : Int) - 4) 4
                have h4 : (4 : Int).natAbs = 4 := rfl
                rw [h4] at this
                have h5 : (ad - 4 * (at_ : Int) - 4).natAbs ≤ 10000 := by omega
                have h6 : (ad - 4 * (at_ : Int) - 4).natAbs.div 4 ≤ 10000 := Nat.le_trans (Nat.div_le_self _ _) h5
                omega
              go_region
              go_wp2_with fail
              go_region
              rw [orLow_bits x ((ad - 4 * (at_ : Int) - 4).tdiv 4) ((ad - 4 * (at_ : Int) - 4).tdiv 4 % 4294967296) (by omega) x0 x1]
              go_wp2_with fail
              go_roundw
              case rel =>
                refine ⟨j + 1, ws.set at_ (orLow x ((ad - 4 * (at_ : Int) - 4).tdiv 4)), by omega, by go_num, hBs _, ?_, hLs _, hms _, hbs _, Lib.hid ⟨by rw [List.length_set]; exact HW.out.1, ?_⟩, Lib.hid ?_⟩
                · have := (hW2.stored at_ (.int .u32 (orLow x ((ad - 4 * (at_ : Int) - 4).tdiv 4)))).1
                  rw [show (w32 ws).set at_ (.int .u32 (orLow x ((ad - 4 * (at_ : Int) - 4).tdiv 4))) = w32 (ws.set at_ (orLow x ((ad - 4 * (at_ : Int) - 4).tdiv 4))) from by simp [w32, List.map_set]] at this
                  exact this.drew.drew
                · intro y hy
                  rcases List.mem_or_eq_of_mem_set hy with hy | rfl
                  · exact HW.out.2 y hy
                  · exact orLow_range x _ x0 x1
                · rw [HN.out, HLV.out, Hgd.out]
                  rfl
              case measure => simp [intOf]; omega
        · have hjn : j = nL := by omega
          subst hjn
          have HF : Hid (asmP s = (ws, none)) := Lib.hid (by
            rw [HP.out, HQ.out, List.drop_eq_nil_of_le (by rw [HnL.out]; exact Nat.le_refl _)]
            rfl)
          have u0 : wr.cell? ⟨w.heap.size + 1, 0, none⟩ = some (.slice AW nW cW) := hB.cell 0
          clear HP HQ
          go_wp2_with fail
          go_ret2
          rw [HF.out]
          refine ⟨hb, AW, cW, ?_, ?_⟩
          · rw [HW.out.1]; rfl
          · rw [HW.out.1]
            exact own_lower hW (by omega)
end Go.Proofs.YtecmeegnjjhilaaGreatDoor
