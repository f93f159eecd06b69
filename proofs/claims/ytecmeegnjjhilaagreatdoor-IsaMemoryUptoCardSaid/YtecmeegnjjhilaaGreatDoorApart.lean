/- ferrylaw04.apart: lists that share no memory are told so: the walk. -/
import Derived.Test.YtecmeegnjjhilaaGreatDoorSepM
import Derived.Deep.RegionHeld3
namespace Go.Proofs.YtecmeegnjjhilaaGreatDoor
open Go.RowKit
theorem wordsinfo : (Tryz.prog.info? 31).map (fun i => (i.zero, i.size, i.bytes)) = some (some (.slice none 0 0), 1, 24) := by kernel_rfl
theorem bytesinfo : (Tryz.prog.info? 56).map (fun i => (i.zero, i.size, i.bytes)) = some (some (.slice none 0 0), 1, 24) := by kernel_rfl
theorem textinfo : (Tryz.prog.info? 9).map (fun i => (i.zero, i.size, i.bytes)) = some (some (.string ByteArray.empty), 1, 16) := by kernel_rfl

abbrev Sig := Nat × Nat → Option Row
/-- Lists of numbers, each a row of its own, under the keys of 'tag'. -/
def ListsAt (σ : Sig) (vs : List Value) : Prop := ∀ j v, vs[j]? = some v → ∃ (A : Option Addr) (c : Nat) (xs : List Int), v = .slice A xs.length c ∧ xs.length ≤ 50000000 ∧ σ (1, j) = some ⟨28, v, w32 xs⟩
def BytesAt (σ : Sig) (vs : List Value) : Prop := ∀ j v, vs[j]? = some v → ∃ (A : Option Addr) (c : Nat) (xs : List Int), v = .slice A xs.length c ∧ xs.length ≤ 50000000 ∧ Byte8 xs ∧ σ (2, j) = some ⟨5, v, u8s xs⟩
def In1 (σ : Sig) (vs : List Value) (i : Nat) (wvs : List Value) : Prop := ∀ j v, vs[j]? = some v → ∃ (A : Option Addr) (c : Nat) (xs : List Int), v = .slice A xs.length c ∧ xs.length ≤ 50000000 ∧ σ (1, j) = some ⟨28, v, w32 xs⟩ ∧
  (j < i → ∃ (A' : Option Addr) (c' : Nat), wvs[j]? = some (.slice A' xs.length c') ∧ σ (3, j) = some ⟨28, .slice A' xs.length c', w32 xs⟩)
theorem w32_set (ms xs : List Int) (k : Nat) (hk : ms.length = k) (hx : k < xs.length) (m : Int) : (w32 (ms ++ xs.drop k)).set k (.int .u32 m) = w32 ((ms ++ [m]) ++ xs.drop (k + 1)) := by
  subst hk
  rw [List.drop_eq_getElem_cons hx]
  generalize xs.drop (ms.length + 1) = r
  simp only [w32, List.map_append, List.map_cons]
  rw [List.set_append_right (h := by simp)]
  simp
theorem u8s_set (ms xs : List Int) (k : Nat) (hk : ms.length = k) (hx : k < xs.length) (m : Int) : (u8s (ms ++ xs.drop k)).set k (.int .u8 m) = u8s ((ms ++ [m]) ++ xs.drop (k + 1)) := by
  subst hk
  rw [List.drop_eq_getElem_cons hx]
  generalize xs.drop (ms.length + 1) = r
  simp only [u8s, List.map_append, List.map_cons]
  rw [List.set_append_right (h := by simp)]
  simp
theorem u8s_len (ms : List Int) : (u8s ms).length = ms.length := by simp [u8s]
def In2 (σ : Sig) (vs : List Value) (i : Nat) (ts : List Value) : Prop := ∀ j v, vs[j]? = some v → ∃ (A : Option Addr) (c : Nat) (xs : List Int), v = .slice A xs.length c ∧ xs.length ≤ 50000000 ∧ Byte8 xs ∧ σ (2, j) = some ⟨5, v, u8s xs⟩ ∧
  (j < i → ts[j]? = some (.string ⟨(textB xs).toArray⟩))
def In3 (σ : Sig) (vs : List Value) (i : Nat) (wvs gvs : List Value) : Prop := ∀ j v, vs[j]? = some v → ∃ (A : Option Addr) (c : Nat) (xs ys : List Int) (A' : Option Addr) (c' : Nat), v = .slice A xs.length c ∧ xs.length ≤ 50000000 ∧ ys.length ≤ 16 ∧
  wvs[j]? = some (.slice A' (xs ++ ys).length c') ∧ σ (3, j) = some ⟨28, .slice A' (xs ++ ys).length c', w32 (xs ++ ys)⟩ ∧ (i ≤ j → ys = [] ∧ σ (1, j) = some ⟨28, v, w32 xs⟩) ∧
  (j < i → ys.length = 16 ∧ ∃ (A2 : Option Addr) (c2 : Nat), gvs[j]? = some (.slice A2 (xs ++ ys).length c2) ∧ σ (4, j) = some ⟨28, .slice A2 (xs ++ ys).length c2, w32 (xs ++ ys)⟩ ∧ (σ (1, j) = some ⟨28, v, w32 xs⟩ ∨ A = A2))
theorem u8s_snoc (ms : List Int) (m : Int) : u8s ms ++ [.int .u8 m] = u8s (ms ++ [m]) := by simp [u8s]
def In4 (σ : Sig) (vs : List Value) (i : Nat) (ts : List Value) : Prop := ∀ j v, vs[j]? = some v → ∃ (A : Option Addr) (c : Nat) (xs : List Int), v = .slice A xs.length c ∧ xs.length ≤ 50000000 ∧ Byte8 xs ∧ ts[j]? = some (.string ⟨(textB xs).toArray⟩) ∧
  (i ≤ j → σ (2, j) = some ⟨5, v, u8s xs⟩) ∧ (σ (2, j) = some ⟨5, v, u8s xs⟩ ∨ ∃ (ys : List Int) (c2 : Nat), ys.length = 16 ∧ σ (5, j) = some ⟨5, .slice A (xs.length + 16) c2, u8s (xs ++ ys)⟩)
theorem w32_snoc (ms : List Int) (m : Int) : w32 ms ++ [.int .u32 m] = w32 (ms ++ [m]) := by simp [w32]
theorem w32_len (ms : List Int) : (w32 ms).length = ms.length := by simp [w32]

attribute [local irreducible] Calls in
set_option maxHeartbeats 16000000 in
set_option maxRecDepth 100000 in
theorem apart_any (base : Nat) (σ0 : Sig) (A0 A1 : Option Addr) (d0 d1 : Nat) (vs bs : List Value) (hN : vs.length ≤ 1000) (hM : bs.length ≤ 100) (w : World) (hS : Sep w base σ0)
    (k0 : σ0 (0, 0) = some ⟨31, .slice A0 vs.length d0, vs⟩) (k1 : σ0 (0, 1) = some ⟨56, .slice A1 bs.length d1, bs⟩)
    (hL : ListsAt σ0 vs) (hB : BytesAt σ0 bs) (hbase : base ≤ w.heap.size) :
    Calls Tryz.prog 40 #[.slice A0 vs.length d0, .slice A1 bs.length d1] w fun e w' => e = .returned (.bool true) ∧ Below base w w' := by
  obtain ⟨i0, hi0, hz0, hz1, hz2⟩ := info_parts u32info
  obtain ⟨i1, hi1, hy0, hy1, hy2⟩ := info_parts wordsinfo
  obtain ⟨i2, hi2, hx0, hx1, hx2⟩ := info_parts textinfo
  obtain ⟨i3, hi3, hv0, hv1, hv2⟩ := info_parts byteinfo8
  have hI : In1 σ0 vs 0 [] := fun j v hv => by
    obtain ⟨A, c, xs, e1, e2, e3⟩ := hL j v hv
    exact ⟨A, c, xs, e1, e2, e3, fun h => absurd h (Nat.not_lt_zero j)⟩
  have HI := Lib.hid hI
  have HB := Lib.hid hB
  have hS2 := hS.nil (0, 2) 31
  have kk0 : upd σ0 (0, 2) (some ⟨31, .slice none 0 0, []⟩) (0, 0) = some ⟨31, .slice A0 vs.length d0, vs⟩ := by rw [upd_ne (by simp)]; exact k0
  have kk1 : upd σ0 (0, 2) (some ⟨31, .slice none 0 0, []⟩) (0, 1) = some ⟨56, .slice A1 bs.length d1, bs⟩ := by rw [upd_ne (by simp)]; exact k1
  have kk2 := upd_same (σ := σ0) (0, 2) (some ⟨31, .slice none 0 0, []⟩)
  have HI1 : Hid (In1 (upd σ0 (0, 2) (some ⟨31, .slice none 0 0, []⟩)) vs 0 []) := Lib.hid (fun j v hv => by
    rw [upd_ne (by simp), upd_ne (by simp)]
    exact hI j v hv)
  have HB1 : Hid (BytesAt (upd σ0 (0, 2) (some ⟨31, .slice none 0 0, []⟩)) bs) := Lib.hid (fun j v hv => by
    rw [upd_ne (by simp)]
    exact hB j v hv)
  generalize upd σ0 (0, 2) (some ⟨31, .slice none 0 0, []⟩) = σ1 at hS2 kk0 kk1 kk2 HI1 HB1
  have hbr := Below.refl base w
  clear hI HI HB hS k0 k1 hL hB
  generalize hNn : vs.length = N at hN kk0 ⊢
  generalize hMm : bs.length = M at hM kk1 ⊢
  have HN := Lib.hid hNn
  have HM := Lib.hid hMm
  clear hNn hMm
  go_enter Tryz.func40, Tryz.ntmps40
  go_wp2_with fail
  go_loopw [5, 7, 8] (fun s5 s7 s8 wr => ∃ (i : Nat) (m : Int) (wvs : List Value) (A5 : Option Addr) (c5 : Nat) (σ : Sig), i ≤ N ∧ s5 = .slice A5 i c5 ∧ s7 = .int .u32 m ∧ s8 = .int .i64 i ∧ Hid (wvs.length = i) ∧
      Sep wr base σ ∧ σ (0, 0) = some ⟨31, .slice A0 N d0, vs⟩ ∧ σ (0, 1) = some ⟨56, .slice A1 M d1, bs⟩ ∧ σ (0, 2) = some ⟨31, .slice A5 i c5, wvs⟩ ∧ Hid (In1 σ vs i wvs) ∧ Hid (BytesAt σ bs) ∧ Below base w wr ∧ base ≤ wr.heap.size) (fun _ _ s8 _ => N - (intOf s8).toNat)
  case atStart => exact ⟨0, 1000, [], none, 0, σ1, Nat.zero_le _, rfl, rfl, rfl, Lib.hid rfl, hS2, kk0, kk1, kk2, HI1, HB1, hbr, hbase⟩
  case round =>
    obtain ⟨i, m, wvs, A5, c5, σ, hi, rfl, rfl, rfl, HL5, hSw, q0, q1, q2, HI1, HB1, hb, hbs⟩ := hrel
    clear hS2 kk0 kk1 kk2 hbr
    by_cases hlt : i < N
    · obtain ⟨v, hv⟩ : ∃ v, vs[i]? = some v := ⟨_, List.getElem?_eq_getElem (by rw [HN.out]; exact hlt)⟩
      obtain ⟨A, c, xs, rfl, hxb, q3, _⟩ := HI1.out i v hv
      obtain ⟨gL, rfl, hgb, h0c, h0f⟩ := (hSw.at_ q0).2 i _ hv
      have HV := Lib.hid hv
      clear hv
      have hS3 := hSw.nil (3, i) 28
      have n0 : upd σ (3, i) (some ⟨28, .slice none 0 0, []⟩) (1, i) = some ⟨28, .slice A xs.length c, w32 (([] : List Int) ++ xs.drop 0)⟩ := by rw [upd_ne (by simp)]; exact q3
      have n1 : upd σ (3, i) (some ⟨28, .slice none 0 0, []⟩) (3, i) = some ⟨28, .slice none 0 0, w32 []⟩ := upd_same _ _
      have N2 : Hid (∀ q : Nat × Nat, q ≠ (1, i) → q ≠ (3, i) → upd σ (3, i) (some ⟨28, .slice none 0 0, []⟩) q = σ q) := Lib.hid (fun q _ h => upd_ne h _)
      generalize upd σ (3, i) (some ⟨28, .slice none 0 0, []⟩) = σ2 at hS3 n0 n1 N2
      obtain ⟨wo, hwo⟩ : ∃ wo : World, wo = wr := ⟨_, rfl⟩
      subst hwo
      go_wp2_with fail
      go_loopw [7, 9, 10] (fun s7 s9 s10 wr => ∃ (k : Nat) (m : Int) (ms : List Int) (Aw : Option Addr) (cw : Nat) (σ' : Sig), k ≤ xs.length ∧ s7 = .int .u32 m ∧ s9 = .slice Aw k cw ∧ s10 = .int .i64 k ∧ Hid (ms.length = k) ∧ Sep wr base σ' ∧
          σ' (1, i) = some ⟨28, .slice A xs.length c, w32 (ms ++ xs.drop k)⟩ ∧ σ' (3, i) = some ⟨28, .slice Aw k cw, w32 ms⟩ ∧ Hid (∀ q : Nat × Nat, q ≠ (1, i) → q ≠ (3, i) → σ' q = σ q) ∧ Below base w wr ∧ base ≤ wr.heap.size) (fun _ _ s10 _ => xs.length - (intOf s10).toNat)
      case atStart => exact ⟨0, m, [], none, 0, σ2, Nat.zero_le _, rfl, rfl, rfl, Lib.hid rfl, hS3, n0, n1, N2, hb, hbs⟩
      case round =>
        obtain ⟨k, m', ms, Aw, cw, σ', hk, rfl, rfl, rfl, HM2, hSr, n0, n1, N2, hb, hbs⟩ := hrel
        have q0' : σ' (0, 0) = some ⟨31, .slice (some ⟨gL, 0, none⟩) N d0, vs⟩ := by rw [N2.out _ (by simp) (by simp)]; exact q0
        obtain ⟨gL', e1, _, h0c, h0f⟩ := (hSr.at_ q0').2 i _ HV.out
        injection e1 with e1
        injection e1 with e1 _ _
        subst e1
        by_cases hkn : k < xs.length
        · obtain ⟨gA, eA, hgA, h1c, h1f⟩ := (hSr.at_ n0).2 k (.int .u32 xs[k]) (by have := HM2.out; rw [w32, List.getElem?_map, List.getElem?_append_right (by omega), this, Nat.sub_self, List.getElem?_drop, Nat.add_zero, List.getElem?_eq_getElem hkn]; rfl)
          subst eA
          have HX2 := Lib.hid (w32_set ms xs k HM2.out hkn ((m' + 1) % 4294967296))
          have hS5 := hSr.store n0 k hkn (.int .u32 ((m' + 1) % 4294967296))
          rw [HX2.out] at hS5
          have hbS : base ≤ (wr.setCell ⟨gA, k, none⟩ (.int .u32 ((m' + 1) % 4294967296))).heap.size := by simpa using hbs
          have hba := (Below.refl (wr.setCell ⟨gA, k, none⟩ (.int .u32 ((m' + 1) % 4294967296))).heap.size (wr.setCell ⟨gA, k, none⟩ (.int .u32 ((m' + 1) % 4294967296)))).alloc (Nat.le_refl _) (.cells #[.int .u32 ((m' + 1) % 4294967296)] 28)
          have hS6 := hS5.below hba
          have n3 : upd σ' (1, i) (some ⟨28, .slice (some ⟨gA, 0, none⟩) xs.length c, w32 ((ms ++ [(m' + 1) % 4294967296]) ++ xs.drop (k + 1))⟩) (3, i) = some ⟨28, .slice Aw k cw, w32 ms⟩ := by rw [upd_ne (by simp)]; exact n1
          have hown := hS6.own _ _ n3
          have hml : (w32 ms).length = k := by rw [w32_len]; exact HM2.out
          unfold Row.Own at hown
          simp only [hml] at hown
          have hb5 : Below base w (wr.setCell ⟨gA, k, none⟩ (.int .u32 ((m' + 1) % 4294967296))) := hb.setCell (p := ⟨gA, k, none⟩) hgA _
          go_wp2_with (at_builtin; refine wpList_append_own_at _ rfl (.tmp 46) (.tmp 48) _ rfl base 28 i0 _ 1 4 Tryz.underlying31 hi0 hz0 hz1 hz2 rfl (by decide) (.slice Aw k cw) k (w32 ms) rfl hown ⟨wr.heap.size, 0, none⟩ 1 1 [.int .u32 ((m' + 1) % 4294967296)] rfl rfl (fun j u hu => by have h := new_cells (wr.setCell ⟨gA, k, none⟩ (.int .u32 ((m' + 1) % 4294967296))) #[.int .u32 ((m' + 1) % 4294967296)] 28 j u hu; simpa using h) (by intro u hu; simp only [List.mem_cons, List.not_mem_nil, or_false] at hu; subst hu; rfl) (by unfold maxLen; omega) (by omega) (by simpa using Nat.le_succ_of_le hbs) ?_)
          intro v9 w9 hown9 hg9 _ hat
          have hb9 : Below base w w9 := (hb5.alloc hbS _).grown hg9 (Nat.le_trans hbS (by simp)) (fun q hq => own_from hown q hq)
          have hbs9 : base ≤ w9.heap.size := Nat.le_trans hbS (Nat.le_trans (by simp) hg9.size)
          obtain ⟨A9, c9, rfl, hS9⟩ := hS6.push n3 hown9 hg9 (hat.imp id (fun h => by rw [h]; simp))
          rw [w32_snoc] at hS9
          have hml2 : Hid ((ms ++ [(m' + 1) % 4294967296]).length = k + 1) := Lib.hid (by have := HM2.out; simp; omega)
          generalize (m' + 1) % 4294967296 = M2 at hS9 hml2
          generalize ms ++ [M2] = ms2 at hS9 hml2
          have n0' : upd (upd σ' (1, i) (some ⟨28, .slice (some ⟨gA, 0, none⟩) xs.length c, w32 (ms2 ++ xs.drop (k + 1))⟩)) (3, i) (some ⟨28, .slice A9 (k + 1) c9, w32 ms2⟩) (1, i) = some ⟨28, .slice (some ⟨gA, 0, none⟩) xs.length c, w32 (ms2 ++ xs.drop (k + 1))⟩ := by rw [upd_ne (by simp), upd_same]
          have n1' : upd (upd σ' (1, i) (some ⟨28, .slice (some ⟨gA, 0, none⟩) xs.length c, w32 (ms2 ++ xs.drop (k + 1))⟩)) (3, i) (some ⟨28, .slice A9 (k + 1) c9, w32 ms2⟩) (3, i) = some ⟨28, .slice A9 (k + 1) c9, w32 ms2⟩ := upd_same _ _
          have N2' : Hid (∀ q : Nat × Nat, q ≠ (1, i) → q ≠ (3, i) → upd (upd σ' (1, i) (some ⟨28, .slice (some ⟨gA, 0, none⟩) xs.length c, w32 (ms2 ++ xs.drop (k + 1))⟩)) (3, i) (some ⟨28, .slice A9 (k + 1) c9, w32 ms2⟩) q = σ q) := Lib.hid (fun q h1 h2 => by rw [upd_ne h2, upd_ne h1]; exact N2.out q h1 h2)
          generalize upd (upd σ' (1, i) (some ⟨28, .slice (some ⟨gA, 0, none⟩) xs.length c, w32 (ms2 ++ xs.drop (k + 1))⟩)) (3, i) (some ⟨28, .slice A9 (k + 1) c9, w32 ms2⟩) = σ3 at hS9 n0' n1' N2'
          clear hown hown9 hg9 hat hS6 hS5 hba hSr n0 n1 n3 N2 hb hb5 HX2 hml hbS h1c h1f h0c h0f q0' HM2
          go_wp2_with fail
          go_roundw
          case rel => exact ⟨k + 1, M2, ms2, A9, c9, σ3, by omega, rfl, rfl, by go_num, hml2, hS9, n0', n1', N2', hb9, hbs9⟩
          case measure => simp [intOf]; omega
        · obtain rfl : k = xs.length := by omega
          have hS6 := hSr.below ((Below.refl wr.heap.size wr).alloc (Nat.le_refl _) (.cells #[Value.slice Aw xs.length cw] 31))
          have q2' : σ' (0, 2) = some ⟨31, .slice A5 i c5, wvs⟩ := by rw [N2.out _ (by simp) (by simp)]; exact q2
          have hown := hS6.own _ _ q2'
          have hwl := HL5.out
          unfold Row.Own at hown
          simp only [hwl] at hown
          go_wp2_with (at_builtin; refine wpList_append_own_at _ rfl (.tmp 50) (.tmp 52) _ rfl base 31 i1 _ 1 24 Tryz.underlying73 hi1 hy0 hy1 hy2 rfl (by decide) (.slice A5 i c5) i wvs rfl hown ⟨wr.heap.size, 0, none⟩ 1 1 [Value.slice Aw xs.length cw] rfl rfl (fun j u hu => by have h := new_cells wr #[Value.slice Aw xs.length cw] 31 j u hu; simpa using h) (by intro u hu; simp only [List.mem_cons, List.not_mem_nil, or_false] at hu; subst hu; rfl) (by unfold maxLen; omega) (by omega) (by simpa using Nat.le_succ_of_le hbs) ?_)
          intro v9 w9 hown9 hg9 _ hat
          have hb9 : Below base w w9 := (hb.alloc hbs _).grown hg9 (Nat.le_trans hbs (by simp)) (fun q hq => own_from hown q hq)
          have hbs9 : base ≤ w9.heap.size := Nat.le_trans hbs (Nat.le_trans (by simp) hg9.size)
          obtain ⟨A9, c9, rfl, hS9⟩ := hS6.push q2' hown9 hg9 (hat.imp id (fun h => by rw [h]; simp))
          have q0'' : upd σ' (0, 2) (some ⟨31, .slice A9 (i + 1) c9, wvs ++ [Value.slice Aw xs.length cw]⟩) (0, 0) = some ⟨31, .slice (some ⟨gL, 0, none⟩) N d0, vs⟩ := by rw [upd_ne (by simp)]; exact q0'
          have q1'' : upd σ' (0, 2) (some ⟨31, .slice A9 (i + 1) c9, wvs ++ [Value.slice Aw xs.length cw]⟩) (0, 1) = some ⟨56, .slice A1 M d1, bs⟩ := by rw [upd_ne (by simp), N2.out _ (by simp) (by simp)]; exact q1
          have q2'' := upd_same (σ := σ') (0, 2) (some ⟨31, .slice A9 (i + 1) c9, wvs ++ [Value.slice Aw xs.length cw]⟩)
          have HI2 : Hid (In1 (upd σ' (0, 2) (some ⟨31, .slice A9 (i + 1) c9, wvs ++ [Value.slice Aw xs.length cw]⟩)) vs (i + 1) (wvs ++ [Value.slice Aw xs.length cw])) := Lib.hid (fun j v hv => by
            by_cases hji : j = i
            · subst hji
              rw [HV.out] at hv
              injection hv with hv
              subst hv
              have hm := HM2.out
              refine ⟨A, c, ms, by rw [hm], by rw [hm]; exact hxb, ?_, fun _ => ⟨Aw, cw, ?_, ?_⟩⟩
              · rw [upd_ne (by simp), n0, List.drop_eq_nil_of_le (Nat.le_refl _), List.append_nil]
              · rw [List.getElem?_append_right (by omega), hwl, Nat.sub_self, hm]
                rfl
              · rw [upd_ne (by simp), n1, hm]
            · obtain ⟨A', c', xs', e1, e2, e3, e4⟩ := HI1.out j v hv
              refine ⟨A', c', xs', e1, e2, ?_, fun h => ?_⟩
              · rw [upd_ne (by simp), N2.out _ (by simp [hji]) (by simp)]
                exact e3
              · obtain ⟨A2, c2, e5, e6⟩ := e4 (by omega)
                refine ⟨A2, c2, ?_, ?_⟩
                · rw [List.getElem?_append_left (by omega)]
                  exact e5
                · rw [upd_ne (by simp), N2.out _ (by simp) (by simp [hji])]
                  exact e6)
          have HB2 : Hid (BytesAt (upd σ' (0, 2) (some ⟨31, .slice A9 (i + 1) c9, wvs ++ [Value.slice Aw xs.length cw]⟩)) bs) := Lib.hid (fun j v hv => by
            rw [upd_ne (by simp), N2.out _ (by simp) (by simp)]
            exact HB1.out j v hv)
          have HL6 : Hid ((wvs ++ [Value.slice Aw xs.length cw]).length = i + 1) := Lib.hid (by simp [hwl])
          generalize upd σ' (0, 2) (some ⟨31, .slice A9 (i + 1) c9, wvs ++ [Value.slice Aw xs.length cw]⟩) = σ3 at hS9 q0'' q1'' q2'' HI2 HB2
          generalize wvs ++ [Value.slice Aw xs.length cw] = wvs2 at q2'' HI2 HL6
          clear hown hown9 hg9 hat hS6 hSr n0 n1 N2 hb h0c h0f q0' HM2 q2' hwl hS3 hSw HI1 HB1 HL5 q0 q1 q2 q3 HV
          go_wp2_with fail
          go_roundw
          case rel => exact ⟨i + 1, m', wvs2, A9, c9, σ3, by omega, rfl, rfl, by go_num, HL6, hS9, q0'', q1'', q2'', HI2, HB2, hb9, hbs9⟩
          case measure => simp [intOf]; omega
    · have hiN : N = i := by omega
      subst hiN
      have hS3 := hSw.nil (0, 4) 9
      have r0 : upd σ (0, 4) (some ⟨9, .slice none 0 0, []⟩) (0, 0) = some ⟨31, .slice A0 N d0, vs⟩ := by rw [upd_ne (by simp)]; exact q0
      have r1 : upd σ (0, 4) (some ⟨9, .slice none 0 0, []⟩) (0, 1) = some ⟨56, .slice A1 M d1, bs⟩ := by rw [upd_ne (by simp)]; exact q1
      have r2 : upd σ (0, 4) (some ⟨9, .slice none 0 0, []⟩) (0, 2) = some ⟨31, .slice A5 N c5, wvs⟩ := by rw [upd_ne (by simp)]; exact q2
      have r4 := upd_same (σ := σ) (0, 4) (some ⟨9, .slice none 0 0, []⟩)
      have HI2 : Hid (In1 (upd σ (0, 4) (some ⟨9, .slice none 0 0, []⟩)) vs N wvs) := Lib.hid (fun j v hv => by
        rw [upd_ne (by simp), upd_ne (by simp)]
        exact HI1.out j v hv)
      have HB2 : Hid (In2 (upd σ (0, 4) (some ⟨9, .slice none 0 0, []⟩)) bs 0 []) := Lib.hid (fun j v hv => by
        obtain ⟨A, c, xs, e1, e2, e3, e4⟩ := HB1.out j v hv
        refine ⟨A, c, xs, e1, e2, e3, ?_, fun h => absurd h (Nat.not_lt_zero j)⟩
        rw [upd_ne (by simp)]
        exact e4)
      generalize upd σ (0, 4) (some ⟨9, .slice none 0 0, []⟩) = σ2 at hS3 r0 r1 r2 r4 HI2 HB2
      clear hSw q0 q1 q2 HI1 HB1 σ
      obtain ⟨wo, hwo⟩ : ∃ wo : World, wo = wr := ⟨_, rfl⟩
      subst hwo
      go_wp2_with fail
      go_loopw [11, 12] (fun s11 s12 wr => ∃ (i : Nat) (ts : List Value) (A11 : Option Addr) (c11 : Nat) (σ : Sig), i ≤ M ∧ s11 = .slice A11 i c11 ∧ s12 = .int .i64 i ∧ Hid (ts.length = i) ∧ Sep wr base σ ∧ σ (0, 0) = some ⟨31, .slice A0 N d0, vs⟩ ∧
          σ (0, 1) = some ⟨56, .slice A1 M d1, bs⟩ ∧ σ (0, 2) = some ⟨31, .slice A5 N c5, wvs⟩ ∧ σ (0, 4) = some ⟨9, .slice A11 i c11, ts⟩ ∧ Hid (In1 σ vs N wvs) ∧ Hid (In2 σ bs i ts) ∧ Below base w wr ∧ base ≤ wr.heap.size) (fun _ s12 _ => M - (intOf s12).toNat)
      case atStart => exact ⟨0, [], none, 0, σ2, Nat.zero_le _, rfl, rfl, Lib.hid rfl, hS3, r0, r1, r2, r4, HI2, HB2, hb, hbs⟩
      case round =>
        obtain ⟨i, ts, A11, c11, σ, hi, rfl, rfl, HLt, hSw, q0, q1, q2, q4, HI1, HB1, hb, hbs⟩ := hrel
        clear hS3 r0 r1 r2 r4 HI2 HB2
        by_cases hlt : i < M
        · obtain ⟨v, hv⟩ : ∃ v, bs[i]? = some v := ⟨_, List.getElem?_eq_getElem (by rw [HM.out]; exact hlt)⟩
          obtain ⟨A, c, xs, rfl, hxb, hx8, q3, _⟩ := HB1.out i v hv
          obtain ⟨gB, rfl, hgb, h0c, h0f⟩ := (hSw.at_ q1).2 i _ hv
          have HV := Lib.hid hv
          clear hv
          have n0 : σ (2, i) = some ⟨5, .slice A xs.length c, u8s (([] : List Int) ++ xs.drop 0)⟩ := q3
          obtain ⟨wo, hwo⟩ : ∃ wo : World, wo = wr := ⟨_, rfl⟩
          subst hwo
          go_wp2_with fail
          go_loopw [13] (fun s13 wr => ∃ (k : Nat) (ms : List Int) (σ' : Sig), k ≤ xs.length ∧ s13 = .int .i64 k ∧ Hid (ms.length = k) ∧ Hid (Byte8 ms) ∧ Sep wr base σ' ∧
              σ' (2, i) = some ⟨5, .slice A xs.length c, u8s (ms ++ xs.drop k)⟩ ∧ Hid (∀ q : Nat × Nat, q ≠ (2, i) → σ' q = σ q) ∧ Below base w wr ∧ base ≤ wr.heap.size) (fun s13 _ => xs.length - (intOf s13).toNat)
          case atStart => exact ⟨0, [], σ, Nat.zero_le _, rfl, Lib.hid rfl, Lib.hid (fun x hx => by cases hx), hSw, n0, Lib.hid (fun q _ => rfl), hb, hbs⟩
          case round =>
            obtain ⟨k, ms, σ', hk, rfl, HM2, HM8, hSr, n0, N2, hb, hbs⟩ := hrel
            have q1' : σ' (0, 1) = some ⟨56, .slice (some ⟨gB, 0, none⟩) M d1, bs⟩ := by rw [N2.out _ (by simp)]; exact q1
            obtain ⟨gB', e1, _, h0c, h0f⟩ := (hSr.at_ q1').2 i _ HV.out
            injection e1 with e1
            injection e1 with e1 _ _
            subst e1
            by_cases hkn : k < xs.length
            · obtain ⟨gA, eA, hgA, h1c, h1f⟩ := (hSr.at_ n0).2 k (.int .u8 xs[k]) (by have := HM2.out; rw [u8s, List.getElem?_map, List.getElem?_append_right (by omega), this, Nat.sub_self, List.getElem?_drop, Nat.add_zero, List.getElem?_eq_getElem hkn]; rfl)
              subst eA
              have HX2 := Lib.hid (u8s_set ms xs k HM2.out hkn (((i : Int) * 41 + (k : Int)) % 256))
              have hS5 := hSr.store n0 k hkn (.int .u8 (((i : Int) * 41 + (k : Int)) % 256))
              rw [HX2.out] at hS5
              have hb5 : Below base w (wr.setCell ⟨gA, k, none⟩ (.int .u8 (((i : Int) * 41 + (k : Int)) % 256))) := hb.setCell (p := ⟨gA, k, none⟩) hgA _
              have hbS : base ≤ (wr.setCell ⟨gA, k, none⟩ (.int .u8 (((i : Int) * 41 + (k : Int)) % 256))).heap.size := by simpa using hbs
              have hml2 : Hid ((ms ++ [((i : Int) * 41 + (k : Int)) % 256]).length = k + 1) := Lib.hid (by have := HM2.out; simp; omega)
              have hm82 : Hid (Byte8 (ms ++ [((i : Int) * 41 + (k : Int)) % 256])) := Lib.hid (fun x hx => by
                rcases List.mem_append.1 hx with hx | hx
                · exact HM8.out x hx
                · simp only [List.mem_cons, List.not_mem_nil, or_false] at hx
                  omega)
              have n0' := upd_same (σ := σ') (2, i) (some ⟨5, .slice (some ⟨gA, 0, none⟩) xs.length c, u8s ((ms ++ [((i : Int) * 41 + (k : Int)) % 256]) ++ xs.drop (k + 1))⟩)
              have N2' : Hid (∀ q : Nat × Nat, q ≠ (2, i) → upd σ' (2, i) (some ⟨5, .slice (some ⟨gA, 0, none⟩) xs.length c, u8s ((ms ++ [((i : Int) * 41 + (k : Int)) % 256]) ++ xs.drop (k + 1))⟩) q = σ q) := Lib.hid (fun q h1 => by rw [upd_ne h1]; exact N2.out q h1)
              generalize upd σ' (2, i) (some ⟨5, .slice (some ⟨gA, 0, none⟩) xs.length c, u8s ((ms ++ [((i : Int) * 41 + (k : Int)) % 256]) ++ xs.drop (k + 1))⟩) = σ3 at hS5 n0' N2'
              generalize ms ++ [((i : Int) * 41 + (k : Int)) % 256] = ms2 at n0' hml2 hm82
              clear hSr n0 N2 hb HX2 HM2 HM8
              go_wp2_with fail
              go_roundw
              case rel => exact ⟨k + 1, ms2, σ3, by omega, by go_num, hml2, hm82, hS5, n0', N2', hb5, hbS⟩
              case measure => simp [intOf]; omega
            · obtain rfl : k = xs.length := by omega
              have hS6 := hSr.below ((Below.refl wr.heap.size wr).alloc (Nat.le_refl _) (.cells #[.string ⟨(textB ms).toArray⟩] 9))
              have q4' : σ' (0, 4) = some ⟨9, .slice A11 i c11, ts⟩ := by rw [N2.out _ (by simp)]; exact q4
              have hown := hS6.own _ _ q4'
              have hwl := HLt.out
              have hm := HM2.out
              have n0r : σ' (2, i) = some ⟨5, .slice A ms.length c, ms.map fun x => Value.int .u8 x⟩ := by
                rw [n0, hm, List.drop_eq_nil_of_le (Nat.le_refl _), List.append_nil]
                rfl
              have hcv := conv_bytes A c ms HM8.out wr (hSr.nums n0r)
              rw [hm] at hcv
              unfold Row.Own at hown
              simp only [hwl] at hown
              go_wp2_with (at_builtin; refine wpList_append_own_at _ rfl (.tmp 80) (.tmp 86) _ rfl base 9 i2 _ 1 16 Tryz.underlying54 hi2 hx0 hx1 hx2 rfl (by decide) (.slice A11 i c11) i ts rfl hown ⟨wr.heap.size, 0, none⟩ 1 1 [.string ⟨(textB ms).toArray⟩] rfl rfl (fun j u hu => by have h := new_cells wr #[.string ⟨(textB ms).toArray⟩] 9 j u hu; simpa using h) (by intro u hu; simp only [List.mem_cons, List.not_mem_nil, or_false] at hu; subst hu; rfl) (by unfold maxLen; omega) (by omega) (by simpa using Nat.le_succ_of_le hbs) ?_)
              intro v9 w9 hown9 hg9 _ hat
              have hb9 : Below base w w9 := (hb.alloc hbs _).grown hg9 (Nat.le_trans hbs (by simp)) (fun q hq => own_from hown q hq)
              have hbs9 : base ≤ w9.heap.size := Nat.le_trans hbs (Nat.le_trans (by simp) hg9.size)
              obtain ⟨A9, c9, rfl, hS9⟩ := hS6.push q4' hown9 hg9 (hat.imp id (fun h => by rw [h]; simp))
              have q0'' : upd σ' (0, 4) (some ⟨9, .slice A9 (i + 1) c9, ts ++ [Value.string ⟨(textB ms).toArray⟩]⟩) (0, 0) = some ⟨31, .slice A0 N d0, vs⟩ := by rw [upd_ne (by simp), N2.out _ (by simp)]; exact q0
              have q1'' : upd σ' (0, 4) (some ⟨9, .slice A9 (i + 1) c9, ts ++ [Value.string ⟨(textB ms).toArray⟩]⟩) (0, 1) = some ⟨56, .slice (some ⟨gB, 0, none⟩) M d1, bs⟩ := by rw [upd_ne (by simp)]; exact q1'
              have q2'' : upd σ' (0, 4) (some ⟨9, .slice A9 (i + 1) c9, ts ++ [Value.string ⟨(textB ms).toArray⟩]⟩) (0, 2) = some ⟨31, .slice A5 N c5, wvs⟩ := by rw [upd_ne (by simp), N2.out _ (by simp)]; exact q2
              have q4'' := upd_same (σ := σ') (0, 4) (some ⟨9, .slice A9 (i + 1) c9, ts ++ [Value.string ⟨(textB ms).toArray⟩]⟩)
              have HI2 : Hid (In1 (upd σ' (0, 4) (some ⟨9, .slice A9 (i + 1) c9, ts ++ [Value.string ⟨(textB ms).toArray⟩]⟩)) vs N wvs) := Lib.hid (fun j v hv => by
                rw [upd_ne (by simp), upd_ne (by simp), N2.out _ (by simp), N2.out _ (by simp)]
                exact HI1.out j v hv)
              have HB2 : Hid (In2 (upd σ' (0, 4) (some ⟨9, .slice A9 (i + 1) c9, ts ++ [Value.string ⟨(textB ms).toArray⟩]⟩)) bs (i + 1) (ts ++ [Value.string ⟨(textB ms).toArray⟩])) := Lib.hid (fun j v hv => by
                by_cases hji : j = i
                · subst hji
                  rw [HV.out] at hv
                  injection hv with hv
                  subst hv
                  refine ⟨A, c, ms, by rw [hm], by rw [hm]; exact hxb, HM8.out, ?_, fun _ => ?_⟩
                  · rw [upd_ne (by simp), n0, List.drop_eq_nil_of_le (Nat.le_refl _), List.append_nil]
                  · rw [List.getElem?_append_right (by omega), hwl, Nat.sub_self]
                    rfl
                · obtain ⟨A', c', xs', e1, e2, e8, e3, e4⟩ := HB1.out j v hv
                  refine ⟨A', c', xs', e1, e2, e8, ?_, fun h => ?_⟩
                  · rw [upd_ne (by simp), N2.out _ (by simp [hji])]
                    exact e3
                  · rw [List.getElem?_append_left (by omega)]
                    exact e4 (by omega))
              have HL6 : Hid ((ts ++ [Value.string ⟨(textB ms).toArray⟩]).length = i + 1) := Lib.hid (by simp [hwl])
              generalize upd σ' (0, 4) (some ⟨9, .slice A9 (i + 1) c9, ts ++ [Value.string ⟨(textB ms).toArray⟩]⟩) = σ3 at hS9 q0'' q1'' q2'' q4'' HI2 HB2
              generalize ts ++ [Value.string ⟨(textB ms).toArray⟩] = ts2 at q4'' HB2 HL6
              clear hown hown9 hg9 hat hS6 hSr n0 N2 hb h0c h0f q1' HM2 HM8 q4' hwl hSw HI1 HB1 HLt q0 q1 q2 q3 q4 HV hcv n0r hm
              go_wp2_with fail
              go_roundw
              case rel => exact ⟨i + 1, ts2, A9, c9, σ3, by omega, rfl, by go_num, HL6, hS9, q0'', q1'', q2'', q4'', HI2, HB2, hb9, hbs9⟩
              case measure => simp [intOf]; omega
        · have hiM : M = i := by omega
          subst hiM
          have hS3 := hSw.nil (0, 3) 31
          have hNl := HN.out
          have r0 : upd σ (0, 3) (some ⟨31, .slice none 0 0, []⟩) (0, 0) = some ⟨31, .slice A0 N d0, vs⟩ := by rw [upd_ne (by simp)]; exact q0
          have r1 : upd σ (0, 3) (some ⟨31, .slice none 0 0, []⟩) (0, 1) = some ⟨56, .slice A1 M d1, bs⟩ := by rw [upd_ne (by simp)]; exact q1
          have r2 : upd σ (0, 3) (some ⟨31, .slice none 0 0, []⟩) (0, 2) = some ⟨31, .slice A5 N c5, wvs⟩ := by rw [upd_ne (by simp)]; exact q2
          have r4 : upd σ (0, 3) (some ⟨31, .slice none 0 0, []⟩) (0, 4) = some ⟨9, .slice A11 M c11, ts⟩ := by rw [upd_ne (by simp)]; exact q4
          have r3 := upd_same (σ := σ) (0, 3) (some ⟨31, .slice none 0 0, []⟩)
          have HI2 : Hid (In3 (upd σ (0, 3) (some ⟨31, .slice none 0 0, []⟩)) vs 0 wvs []) := Lib.hid (fun j v hv => by
            obtain ⟨A, c, xs, e1, e2, e3, e4⟩ := HI1.out j v hv
            obtain ⟨A', c', e5, e6⟩ := e4 (by rw [← hNl]; exact (List.getElem?_eq_some_iff.1 hv).1)
            refine ⟨A, c, xs, [], A', c', e1, e2, by simp, ?_, ?_, fun _ => ⟨rfl, ?_⟩, fun h => absurd h (Nat.not_lt_zero j)⟩
            · rw [List.append_nil]
              exact e5
            · rw [upd_ne (by simp), List.append_nil]
              exact e6
            · rw [upd_ne (by simp)]
              exact e3)
          have HB2 : Hid (In2 (upd σ (0, 3) (some ⟨31, .slice none 0 0, []⟩)) bs M ts) := Lib.hid (fun j v hv => by
            rw [upd_ne (by simp)]
            exact HB1.out j v hv)
          generalize upd σ (0, 3) (some ⟨31, .slice none 0 0, []⟩) = σ2 at hS3 r0 r1 r2 r3 r4 HI2 HB2
          have HL5' := HL5
          clear hSw q0 q1 q2 q4 HI1 HB1 σ hNl
          obtain ⟨wo, hwo⟩ : ∃ wo : World, wo = wr := ⟨_, rfl⟩
          subst hwo
          go_wp2_with fail
          go_loopw [6, 7, 14] (fun s6 s7 s14 wr => ∃ (i : Nat) (m : Int) (gvs : List Value) (A6 : Option Addr) (c6 : Nat) (wvs : List Value) (σ : Sig), i ≤ N ∧ s6 = .slice A6 i c6 ∧ s7 = .int .u32 m ∧ s14 = .int .i64 i ∧ Hid (gvs.length = i) ∧ Hid (wvs.length = N) ∧ Sep wr base σ ∧ σ (0, 0) = some ⟨31, .slice A0 N d0, vs⟩ ∧
              σ (0, 1) = some ⟨56, .slice A1 M d1, bs⟩ ∧ σ (0, 2) = some ⟨31, .slice A5 N c5, wvs⟩ ∧ σ (0, 3) = some ⟨31, .slice A6 i c6, gvs⟩ ∧ σ (0, 4) = some ⟨9, .slice A11 M c11, ts⟩ ∧ Hid (In3 σ vs i wvs gvs) ∧ Hid (In2 σ bs M ts) ∧ Below base w wr ∧ base ≤ wr.heap.size) (fun _ _ s14 _ => N - (intOf s14).toNat)
          case atStart => exact ⟨0, m, [], none, 0, wvs, σ2, Nat.zero_le _, rfl, rfl, rfl, Lib.hid rfl, HL5', hS3, r0, r1, r2, r3, r4, HI2, HB2, hb, hbs⟩
          case round =>
            clear hS3 r0 r1 r2 r3 r4 HI2 HB2 HL5 HL5'
            obtain ⟨i, m, gvs, A6, c6, wvs, σ, hi, rfl, rfl, rfl, HLg, HLw, hSw, q0, q1, q2, q3, q4, HI3, HB1, hb, hbs⟩ := hrel
            by_cases hlt : i < N
            · obtain ⟨v, hv⟩ : ∃ v, vs[i]? = some v := ⟨_, List.getElem?_eq_getElem (by rw [HN.out]; exact hlt)⟩
              obtain ⟨A, c, xs, ys, A', c', rfl, hxb, _, s1, s2, s3f, _⟩ := HI3.out i v hv
              obtain ⟨rfl, s3⟩ := s3f (Nat.le_refl _)
              clear s3f
              rw [List.append_nil] at s1 s2
              obtain ⟨gL, rfl, hgb, h0c, h0f⟩ := (hSw.at_ q0).2 i _ hv
              obtain ⟨g5, rfl, hg5, h5c, h5f⟩ := (hSw.at_ q2).2 i _ s1
              have HV := Lib.hid hv
              have HS1 := Lib.hid s1
              have hS3 := hSw.move s3 (4, i)
              have n4 : upd (upd σ (1, i) none) (4, i) (some ⟨28, .slice A xs.length c, w32 xs⟩) (4, i) = some ⟨28, .slice A (xs.length + 0) c, w32 (xs ++ [])⟩ := by rw [upd_same, List.append_nil]; rfl
              have n3 : upd (upd σ (1, i) none) (4, i) (some ⟨28, .slice A xs.length c, w32 xs⟩) (3, i) = some ⟨28, .slice A' (xs.length + 0) c', w32 (xs ++ [])⟩ := by rw [upd_ne (by simp), upd_ne (by simp), List.append_nil]; exact s2
              have n2 : upd (upd σ (1, i) none) (4, i) (some ⟨28, .slice A xs.length c, w32 xs⟩) (0, 2) = some ⟨31, .slice (some ⟨g5, 0, none⟩) N c5, wvs⟩ := by rw [upd_ne (by simp), upd_ne (by simp)]; exact q2
              have NO : Hid (∀ q : Nat × Nat, q ≠ (1, i) → q ≠ (3, i) → q ≠ (4, i) → q ≠ (0, 2) → upd (upd σ (1, i) none) (4, i) (some ⟨28, .slice A xs.length c, w32 xs⟩) q = σ q) := Lib.hid (fun q h1 _ h4 _ => by rw [upd_ne h4, upd_ne h1])
              generalize upd (upd σ (1, i) none) (4, i) (some ⟨28, .slice A xs.length c, w32 xs⟩) = σ2 at hS3 n2 n3 n4 NO
              have HW0 : Hid (wvs = wvs.set i (.slice A' (xs.length + 0) c')) := Lib.hid (by
                refine (List.ext_getElem? fun j => ?_)
                by_cases hji : j = i
                · subst hji
                  rw [s1, List.getElem?_set_self (by rw [HLw.out]; exact hlt)]
                  rfl
                · rw [List.getElem?_set_ne (fun h => hji h.symm)])
              clear hv s1 s2 s3
              obtain ⟨wo, hwo⟩ : ∃ wo : World, wo = wr := ⟨_, rfl⟩
              subst hwo
              go_wp2_with fail
              go_loopw [7, 15, 16] (fun s7 s15 s16 wr => ∃ (k : Nat) (m : Int) (ys : List Int) (Ag : Option Addr) (cg : Nat) (A' : Option Addr) (c' : Nat) (wvs' : List Value) (σ' : Sig), k ≤ 16 ∧ s7 = .int .u32 m ∧ s15 = .slice Ag (xs.length + k) cg ∧ s16 = .int .i64 k ∧ Hid (ys.length = k) ∧ Sep wr base σ' ∧
                  σ' (4, i) = some ⟨28, .slice Ag (xs.length + k) cg, w32 (xs ++ ys)⟩ ∧ Hid (σ' (1, i) = some ⟨28, .slice A xs.length c, w32 xs⟩ ∨ (A = Ag ∧ c = cg ∧ xs.length ≤ xs.length + k ∧ w32 xs = (w32 (xs ++ ys)).take xs.length)) ∧
                  σ' (3, i) = some ⟨28, .slice A' (xs.length + k) c', w32 (xs ++ ys)⟩ ∧ σ' (0, 2) = some ⟨31, .slice (some ⟨g5, 0, none⟩) N c5, wvs'⟩ ∧ Hid (wvs' = wvs.set i (.slice A' (xs.length + k) c')) ∧
                  Hid (∀ q : Nat × Nat, q ≠ (1, i) → q ≠ (3, i) → q ≠ (4, i) → q ≠ (0, 2) → σ' q = σ q) ∧ Below base w wr ∧ base ≤ wr.heap.size) (fun _ _ s16 _ => 16 - (intOf s16).toNat)
              case atStart => exact ⟨0, m, [], A, c, A', c', wvs, σ2, by omega, rfl, rfl, rfl, Lib.hid rfl, hS3, n4, Lib.hid (.inr ⟨rfl, rfl, Nat.le_refl _, by rw [List.append_nil, List.take_of_length_le (by rw [w32_len]; exact Nat.le_refl _)]⟩), n3, n2, HW0, NO, hb, hbs⟩
              case round =>
                clear hS3 n2 n3 n4 HW0 NO
                obtain ⟨k, m', ys, Ag, cg, A', c', wvs', σ', hk, rfl, rfl, rfl, HLy, hSr, n4, HOr, n3, n2, HWv, NO, hb, hbs⟩ := hrel
                by_cases hkn : k < 16
                · have hS6 := hSr.below ((Below.refl wr.heap.size wr).alloc (Nat.le_refl _) (.cells #[.int .u32 ((m' + 1) % 4294967296)] 28))
                  have hown := hS6.own _ _ n4
                  have hzl : (w32 (xs ++ ys)).length = xs.length + k := by rw [w32_len, List.length_append, HLy.out]
                  unfold Row.Own at hown
                  simp only [hzl] at hown
                  go_wp2_with (at_builtin; refine wpList_append_two _ rfl (.tmp 104) (.tmp 106) _ rfl base 28 i0 _ 1 4 Tryz.underlying31 hi0 hz0 hz1 hz2 rfl (by decide) (.slice Ag (xs.length + k) cg) (xs.length + k) (w32 (xs ++ ys)) rfl hown ⟨wr.heap.size, 0, none⟩ 1 1 [.int .u32 ((m' + 1) % 4294967296)] rfl rfl (fun j u hu => by have h := new_cells wr #[.int .u32 ((m' + 1) % 4294967296)] 28 j u hu; simpa using h) (by intro u hu; simp only [List.mem_cons, List.not_mem_nil, or_false] at hu; subst hu; rfl) (by decide) (by unfold maxLen; omega) (by omega) (by simpa using Nat.le_succ_of_le hbs) ?_)
                  intro v9 w9 hown9 hg9 two
                  have hb9 : Below base w w9 := (hb.alloc hbs _).grown hg9 (Nat.le_trans hbs (by simp)) (fun q hq => own_from hown q hq)
                  have hbs9 : base ≤ w9.heap.size := Nat.le_trans hbs (Nat.le_trans (by simp) hg9.size)
                  obtain ⟨σ3, A9, c9, rfl, hS9, m4, mO, mE⟩ := hS6.push2 (kL := (1, i)) (kG := (4, i)) (by simp) HOr.out n4 hown9 hg9 (two.imp (fun ⟨h1, h2⟩ => ⟨by rw [h1]; simp, h2⟩) (fun ⟨g, cp, ⟨h1, h2⟩, h3⟩ => ⟨g, cp, by rw [h1, h2], h3⟩))
                  rw [w32_snoc, List.append_assoc] at m4 mO
                  have HMO := Lib.hid mO
                  have HLy2 : Hid ((ys ++ [(m' + 1) % 4294967296]).length = k + 1) := Lib.hid (by have := HLy.out; simp; omega)
                  have HYM : Hid (w32 (xs ++ ys) ++ [.int .u32 ((m' + 1) % 4294967296)] = w32 (xs ++ (ys ++ [(m' + 1) % 4294967296]))) := Lib.hid (by rw [w32_snoc, List.append_assoc])
                  generalize (m' + 1) % 4294967296 = M2 at m4 HMO HLy2 HYM ⊢
                  generalize ys ++ [M2] = ys2 at m4 HMO HLy2 HYM
                  have m3 : σ3 (3, i) = some ⟨28, .slice A' (xs.length + k) c', w32 (xs ++ ys)⟩ := by rw [mE _ (by simp) (by simp)]; exact n3
                  have m2 : σ3 (0, 2) = some ⟨31, .slice (some ⟨g5, 0, none⟩) N c5, wvs'⟩ := by rw [mE _ (by simp) (by simp)]; exact n2
                  have MO : Hid (∀ q : Nat × Nat, q ≠ (1, i) → q ≠ (3, i) → q ≠ (4, i) → q ≠ (0, 2) → σ3 q = σ q) := Lib.hid (fun q h1 h3 h4 h2 => by rw [mE q h1 h4]; exact NO.out q h1 h3 h4 h2)
                  clear hown hown9 hg9 two hS6 hSr n4 n3 n2 NO hb hbs mO mE HOr HLy
                  have hwi : wvs'[i]? = some (.slice A' (xs.length + k) c') := by rw [HWv.out, List.getElem?_set_self (by rw [HLw.out]; exact hlt)]
                  obtain ⟨g5', e1, _, h5c, h5f⟩ := (hS9.at_ m2).2 i _ hwi
                  injection e1 with e1
                  injection e1 with e1 _ _
                  subst e1
                  have hS6 := hS9.below ((Below.refl w9.heap.size w9).alloc (Nat.le_refl _) (.cells #[.int .u32 M2] 28))
                  have hown := hS6.own _ _ m3
                  unfold Row.Own at hown
                  simp only [hzl] at hown
                  go_wp2_with (at_builtin; refine wpList_append_own_at _ rfl (.tmp 113) (.tmp 115) _ rfl base 28 i0 _ 1 4 Tryz.underlying31 hi0 hz0 hz1 hz2 rfl (by decide) (.slice A' (xs.length + k) c') (xs.length + k) (w32 (xs ++ ys)) rfl hown ⟨w9.heap.size, 0, none⟩ 1 1 [.int .u32 M2] rfl rfl (fun j u hu => by have h := new_cells w9 #[.int .u32 M2] 28 j u hu; simpa using h) (by intro u hu; simp only [List.mem_cons, List.not_mem_nil, or_false] at hu; subst hu; rfl) (by unfold maxLen; omega) (by omega) (by simpa using Nat.le_succ_of_le hbs9) ?_)
                  intro v10 w10 hown10 hg10 _ hat
                  have hb10 : Below base w w10 := (hb9.alloc hbs9 _).grown hg10 (Nat.le_trans hbs9 (by simp)) (fun q hq => own_from hown q hq)
                  have hbs10 : base ≤ w10.heap.size := Nat.le_trans hbs9 (Nat.le_trans (by simp) hg10.size)
                  obtain ⟨A10, c10, rfl, hS10⟩ := hS6.push m3 hown10 hg10 (hat.imp id (fun h => by rw [h]; simp))
                  rw [HYM.out] at hS10
                  have p2 : upd σ3 (3, i) (some ⟨28, .slice A10 (xs.length + k + 1) c10, w32 (xs ++ ys2)⟩) (0, 2) = some ⟨31, .slice (some ⟨g5, 0, none⟩) N c5, wvs'⟩ := by rw [upd_ne (by simp)]; exact m2
                  obtain ⟨g5', e1, _, h5c, h5f⟩ := (hS10.at_ p2).2 i _ hwi
                  injection e1 with e1
                  injection e1 with e1 _ _
                  subst e1
                  have hS11 := hS10.store p2 i hlt (.slice A10 (xs.length + k + 1) c10)
                  have hb11 : Below base w (w10.setCell ⟨g5, i, none⟩ (.slice A10 (xs.length + k + 1) c10)) := hb10.setCell (p := ⟨g5, i, none⟩) hg5 _
                  have hbs11 : base ≤ (w10.setCell ⟨g5, i, none⟩ (.slice A10 (xs.length + k + 1) c10)).heap.size := by simpa using hbs10
                  have t4 : upd (upd σ3 (3, i) (some ⟨28, .slice A10 (xs.length + k + 1) c10, w32 (xs ++ ys2)⟩)) (0, 2) (some ⟨31, .slice (some ⟨g5, 0, none⟩) N c5, wvs'.set i (.slice A10 (xs.length + k + 1) c10)⟩) (4, i) = some ⟨28, .slice A9 (xs.length + (k + 1)) c9, w32 (xs ++ ys2)⟩ := by rw [upd_ne (by simp), upd_ne (by simp)]; exact m4
                  have t3 : upd (upd σ3 (3, i) (some ⟨28, .slice A10 (xs.length + k + 1) c10, w32 (xs ++ ys2)⟩)) (0, 2) (some ⟨31, .slice (some ⟨g5, 0, none⟩) N c5, wvs'.set i (.slice A10 (xs.length + k + 1) c10)⟩) (3, i) = some ⟨28, .slice A10 (xs.length + (k + 1)) c10, w32 (xs ++ ys2)⟩ := by rw [upd_ne (by simp), upd_same]; rfl
                  have t2 := upd_same (σ := upd σ3 (3, i) (some ⟨28, .slice A10 (xs.length + k + 1) c10, w32 (xs ++ ys2)⟩)) (0, 2) (some ⟨31, .slice (some ⟨g5, 0, none⟩) N c5, wvs'.set i (.slice A10 (xs.length + k + 1) c10)⟩)
                  have TOr : Hid (upd (upd σ3 (3, i) (some ⟨28, .slice A10 (xs.length + k + 1) c10, w32 (xs ++ ys2)⟩)) (0, 2) (some ⟨31, .slice (some ⟨g5, 0, none⟩) N c5, wvs'.set i (.slice A10 (xs.length + k + 1) c10)⟩) (1, i) = some ⟨28, .slice A xs.length c, w32 xs⟩ ∨ (A = A9 ∧ c = c9 ∧ xs.length ≤ xs.length + (k + 1) ∧ w32 xs = (w32 (xs ++ ys2)).take xs.length)) := Lib.hid (by
                    rw [upd_ne (by simp), upd_ne (by simp)]
                    exact HMO.out)
                  have TO : Hid (∀ q : Nat × Nat, q ≠ (1, i) → q ≠ (3, i) → q ≠ (4, i) → q ≠ (0, 2) → upd (upd σ3 (3, i) (some ⟨28, .slice A10 (xs.length + k + 1) c10, w32 (xs ++ ys2)⟩)) (0, 2) (some ⟨31, .slice (some ⟨g5, 0, none⟩) N c5, wvs'.set i (.slice A10 (xs.length + k + 1) c10)⟩) q = σ q) := Lib.hid (fun q h1 h3 h4 h2 => by rw [upd_ne h2, upd_ne h3]; exact MO.out q h1 h3 h4 h2)
                  have HW2 : Hid (wvs'.set i (.slice A10 (xs.length + k + 1) c10) = wvs.set i (.slice A10 (xs.length + (k + 1)) c10)) := Lib.hid (by rw [HWv.out, List.set_set]; rfl)
                  generalize upd (upd σ3 (3, i) (some ⟨28, .slice A10 (xs.length + k + 1) c10, w32 (xs ++ ys2)⟩)) (0, 2) (some ⟨31, .slice (some ⟨g5, 0, none⟩) N c5, wvs'.set i (.slice A10 (xs.length + k + 1) c10)⟩) = σ4 at hS11 t4 t3 t2 TOr TO
                  generalize wvs'.set i (.slice A10 (xs.length + k + 1) c10) = wvs2 at t2 HW2
                  clear hown hown10 hg10 hat hS6 hS9 hS10 m4 m3 m2 MO hb9 hbs9 hb10 hbs10 HMO p2 HWv hwi HYM hzl
                  go_wp2_with fail
                  go_roundw
                  case rel => exact ⟨k + 1, M2, ys2, A9, c9, A10, c10, wvs2, σ4, by omega, rfl, by rw [Nat.add_assoc], by go_num, HLy2, hS11, t4, TOr, t3, t2, HW2, TO, hb11, hbs11⟩
                  case measure => simp [intOf]; omega
                · obtain rfl : k = 16 := by omega
                  have hS6 := hSr.below ((Below.refl wr.heap.size wr).alloc (Nat.le_refl _) (.cells #[.slice Ag (xs.length + 16) cg] 31))
                  have q3' : σ' (0, 3) = some ⟨31, .slice A6 i c6, gvs⟩ := by rw [NO.out _ (by simp) (by simp) (by simp) (by simp)]; exact q3
                  have hown := hS6.own _ _ q3'
                  have hwl := HLg.out
                  unfold Row.Own at hown
                  simp only [hwl] at hown
                  go_wp2_with (at_builtin; refine wpList_append_own_at _ rfl (.tmp 118) (.tmp 120) _ rfl base 31 i1 _ 1 24 Tryz.underlying73 hi1 hy0 hy1 hy2 rfl (by decide) (.slice A6 i c6) i gvs rfl hown ⟨wr.heap.size, 0, none⟩ 1 1 [.slice Ag (xs.length + 16) cg] rfl rfl (fun j u hu => by have h := new_cells wr #[.slice Ag (xs.length + 16) cg] 31 j u hu; simpa using h) (by intro u hu; simp only [List.mem_cons, List.not_mem_nil, or_false] at hu; subst hu; rfl) (by unfold maxLen; omega) (by omega) (by simpa using Nat.le_succ_of_le hbs) ?_)
                  intro v9 w9 hown9 hg9 _ hat
                  have hb9 : Below base w w9 := (hb.alloc hbs _).grown hg9 (Nat.le_trans hbs (by simp)) (fun q hq => own_from hown q hq)
                  have hbs9 : base ≤ w9.heap.size := Nat.le_trans hbs (Nat.le_trans (by simp) hg9.size)
                  obtain ⟨A9, c9, rfl, hS9⟩ := hS6.push q3' hown9 hg9 (hat.imp id (fun h => by rw [h]; simp))
                  have t0 : upd σ' (0, 3) (some ⟨31, .slice A9 (i + 1) c9, gvs ++ [Value.slice Ag (xs.length + 16) cg]⟩) (0, 0) = some ⟨31, .slice (some ⟨gL, 0, none⟩) N d0, vs⟩ := by rw [upd_ne (by simp), NO.out _ (by simp) (by simp) (by simp) (by simp)]; exact q0
                  have t1 : upd σ' (0, 3) (some ⟨31, .slice A9 (i + 1) c9, gvs ++ [Value.slice Ag (xs.length + 16) cg]⟩) (0, 1) = some ⟨56, .slice A1 M d1, bs⟩ := by rw [upd_ne (by simp), NO.out _ (by simp) (by simp) (by simp) (by simp)]; exact q1
                  have t2 : upd σ' (0, 3) (some ⟨31, .slice A9 (i + 1) c9, gvs ++ [Value.slice Ag (xs.length + 16) cg]⟩) (0, 2) = some ⟨31, .slice (some ⟨g5, 0, none⟩) N c5, wvs'⟩ := by rw [upd_ne (by simp)]; exact n2
                  have t3 := upd_same (σ := σ') (0, 3) (some ⟨31, .slice A9 (i + 1) c9, gvs ++ [Value.slice Ag (xs.length + 16) cg]⟩)
                  have t4 : upd σ' (0, 3) (some ⟨31, .slice A9 (i + 1) c9, gvs ++ [Value.slice Ag (xs.length + 16) cg]⟩) (0, 4) = some ⟨9, .slice A11 M c11, ts⟩ := by rw [upd_ne (by simp), NO.out _ (by simp) (by simp) (by simp) (by simp)]; exact q4
                  have HB2 : Hid (In2 (upd σ' (0, 3) (some ⟨31, .slice A9 (i + 1) c9, gvs ++ [Value.slice Ag (xs.length + 16) cg]⟩)) bs M ts) := Lib.hid (fun j v hv => by
                    rw [upd_ne (by simp), NO.out _ (by simp) (by simp) (by simp) (by simp)]
                    exact HB1.out j v hv)
                  have HI2 : Hid (In3 (upd σ' (0, 3) (some ⟨31, .slice A9 (i + 1) c9, gvs ++ [Value.slice Ag (xs.length + 16) cg]⟩)) vs (i + 1) wvs' (gvs ++ [Value.slice Ag (xs.length + 16) cg])) := Lib.hid (fun j v hv => by
                    by_cases hji : j = i
                    · subst hji
                      rw [HV.out] at hv
                      injection hv with hv
                      subst hv
                      have hyl := HLy.out
                      have hxy : (xs ++ ys).length = xs.length + 16 := by rw [List.length_append, hyl]
                      refine ⟨A, c, xs, ys, A', c', rfl, hxb, by omega, ?_, ?_, fun h => absurd h (by omega), fun _ => ⟨hyl, Ag, cg, ?_, ?_, ?_⟩⟩
                      · rw [hxy, HWv.out, List.getElem?_set_self (by rw [HLw.out]; exact hlt)]
                      · rw [hxy, upd_ne (by simp)]
                        exact n3
                      · rw [hxy, List.getElem?_append_right (by omega), hwl, Nat.sub_self]
                        rfl
                      · rw [hxy, upd_ne (by simp)]
                        exact n4
                      · rw [upd_ne (by simp)]
                        exact HOr.out.imp id (fun h => h.1)
                    · obtain ⟨B, cB, ux, uy, B', cB', e1, e2, e3, e4, e5, e6, e7⟩ := HI3.out j v hv
                      refine ⟨B, cB, ux, uy, B', cB', e1, e2, e3, ?_, ?_, fun h => ?_, fun h => ?_⟩
                      · rw [HWv.out, List.getElem?_set_ne (fun h => hji h.symm)]
                        exact e4
                      · rw [upd_ne (by simp), NO.out _ (by simp) (by simp [hji]) (by simp) (by simp)]
                        exact e5
                      · obtain ⟨e8, e9⟩ := e6 (by omega)
                        refine ⟨e8, ?_⟩
                        rw [upd_ne (by simp), NO.out _ (by simp [hji]) (by simp) (by simp) (by simp)]
                        exact e9
                      · obtain ⟨e11, B2, cB2, e8, e9, e10⟩ := e7 (by omega)
                        refine ⟨e11, B2, cB2, ?_, ?_, ?_⟩
                        · rw [List.getElem?_append_left (by omega)]
                          exact e8
                        · rw [upd_ne (by simp), NO.out _ (by simp) (by simp) (by simp [hji]) (by simp)]
                          exact e9
                        · rw [upd_ne (by simp), NO.out _ (by simp [hji]) (by simp) (by simp) (by simp)]
                          exact e10)
                  have HL6 : Hid ((gvs ++ [Value.slice Ag (xs.length + 16) cg]).length = i + 1) := Lib.hid (by simp [hwl])
                  have HL7 : Hid (wvs'.length = N) := Lib.hid (by rw [HWv.out, List.length_set]; exact HLw.out)
                  generalize upd σ' (0, 3) (some ⟨31, .slice A9 (i + 1) c9, gvs ++ [Value.slice Ag (xs.length + 16) cg]⟩) = σ3 at hS9 t0 t1 t2 t3 t4 HI2 HB2
                  generalize gvs ++ [Value.slice Ag (xs.length + 16) cg] = gvs2 at t3 HI2 HL6
                  clear hown hown9 hg9 hat hS6 hSr n4 n3 n2 NO hb q3' hwl hSw HI3 HB1 HLg HLw q0 q1 q2 q3 q4 HV HOr HLy HWv HS1
                  go_wp2_with fail
                  go_roundw
                  case rel => exact ⟨i + 1, m', gvs2, A9, c9, wvs', σ3, by omega, rfl, rfl, by go_num, HL6, HL7, hS9, t0, t1, t2, t3, t4, HI2, HB2, hb9, hbs9⟩
                  case measure => simp [intOf]; omega
            · have hiN : N = i := by omega
              subst hiN
              have hMl := HM.out
              have HI5 : Hid (In4 σ bs 0 ts) := Lib.hid (fun j v hv => by
                obtain ⟨A, c, xs, e1, e2, e3, e4, e5⟩ := HB1.out j v hv
                exact ⟨A, c, xs, e1, e2, e3, e5 (by rw [← hMl]; exact (List.getElem?_eq_some_iff.1 hv).1), fun _ => e4, .inl e4⟩)
              clear HB1 hMl
              obtain ⟨wo, hwo⟩ : ∃ wo : World, wo = wr := ⟨_, rfl⟩
              subst hwo
              go_wp2_with fail
              go_loopw [17] (fun s17 wr => ∃ (i : Nat) (σ : Sig), i ≤ M ∧ s17 = .int .i64 i ∧ Sep wr base σ ∧ σ (0, 0) = some ⟨31, .slice A0 N d0, vs⟩ ∧ σ (0, 1) = some ⟨56, .slice A1 M d1, bs⟩ ∧ σ (0, 2) = some ⟨31, .slice A5 N c5, wvs⟩ ∧
                  σ (0, 3) = some ⟨31, .slice A6 N c6, gvs⟩ ∧ σ (0, 4) = some ⟨9, .slice A11 M c11, ts⟩ ∧ Hid (In3 σ vs N wvs gvs) ∧ Hid (In4 σ bs i ts) ∧ Below base w wr ∧ base ≤ wr.heap.size) (fun s17 _ => M - (intOf s17).toNat)
              case atStart => exact ⟨0, σ, Nat.zero_le _, rfl, hSw, q0, q1, q2, q3, q4, HI3, HI5, hb, hbs⟩
              case round =>
                clear hSw q0 q1 q2 q3 q4 HI3 HI5 hb hbs σ
                obtain ⟨i, σ, hi, rfl, hSw, q0, q1, q2, q3, q4, HI3, HI5, hb, hbs⟩ := hrel
                by_cases hlt : i < M
                · obtain ⟨v, hv⟩ : ∃ v, bs[i]? = some v := ⟨_, List.getElem?_eq_getElem (by rw [HM.out]; exact hlt)⟩
                  obtain ⟨A, c, xs, rfl, hxb, hx8, s1, s2f, _⟩ := HI5.out i v hv
                  have s2 := s2f (Nat.le_refl _)
                  obtain ⟨gB, rfl, hgb, h0c, h0f⟩ := (hSw.at_ q1).2 i _ hv
                  have HV := Lib.hid hv
                  have HS1 := Lib.hid s1
                  have hS3 := hSw.move s2 (5, i)
                  have n5 : upd (upd σ (2, i) none) (5, i) (some ⟨5, .slice A xs.length c, u8s xs⟩) (5, i) = some ⟨5, .slice A (xs.length + 0) c, u8s (xs ++ [])⟩ := by rw [upd_same, List.append_nil]; rfl
                  have NO : Hid (∀ q : Nat × Nat, q ≠ (2, i) → q ≠ (5, i) → upd (upd σ (2, i) none) (5, i) (some ⟨5, .slice A xs.length c, u8s xs⟩) q = σ q) := Lib.hid (fun q h1 h4 => by rw [upd_ne h4, upd_ne h1])
                  generalize upd (upd σ (2, i) none) (5, i) (some ⟨5, .slice A xs.length c, u8s xs⟩) = σ2 at hS3 n5 NO
                  clear hv s1 s2 s2f
                  obtain ⟨wo, hwo⟩ : ∃ wo : World, wo = wr := ⟨_, rfl⟩
                  subst hwo
                  go_wp2_with fail
                  go_loopw [18, 19] (fun s18 s19 wr => ∃ (k : Nat) (ys : List Int) (Ag : Option Addr) (cg : Nat) (σ' : Sig), k ≤ 16 ∧ s18 = .slice Ag (xs.length + k) cg ∧ s19 = .int .i64 k ∧ Hid (ys.length = k) ∧ Sep wr base σ' ∧
                      σ' (5, i) = some ⟨5, .slice Ag (xs.length + k) cg, u8s (xs ++ ys)⟩ ∧ Hid (σ' (2, i) = some ⟨5, .slice A xs.length c, u8s xs⟩ ∨ (A = Ag ∧ c = cg ∧ xs.length ≤ xs.length + k ∧ u8s xs = (u8s (xs ++ ys)).take xs.length)) ∧
                      Hid (∀ q : Nat × Nat, q ≠ (2, i) → q ≠ (5, i) → σ' q = σ q) ∧ Below base w wr ∧ base ≤ wr.heap.size) (fun _ s19 _ => 16 - (intOf s19).toNat)
                  case atStart => exact ⟨0, [], A, c, σ2, by omega, rfl, rfl, Lib.hid rfl, hS3, n5, Lib.hid (.inr ⟨rfl, rfl, Nat.le_refl _, by rw [List.append_nil, List.take_of_length_le (by rw [u8s_len]; exact Nat.le_refl _)]⟩), NO, hb, hbs⟩
                  case round =>
                    clear hS3 n5 NO
                    obtain ⟨k, ys, Ag, cg, σ', hk, rfl, rfl, HLy, hSr, n5, HOr, NO, hb, hbs⟩ := hrel
                    by_cases hkn : k < 16
                    · have hS6 := hSr.below ((Below.refl wr.heap.size wr).alloc (Nat.le_refl _) (.cells #[.int .u8 ((200 + (i : Int)) % 256)] 5))
                      have hown := hS6.own _ _ n5
                      have hzl : (u8s (xs ++ ys)).length = xs.length + k := by rw [u8s_len, List.length_append, HLy.out]
                      unfold Row.Own at hown
                      simp only [hzl] at hown
                      go_wp2_with (at_builtin; refine wpList_append_two _ rfl (.tmp 136) (.tmp 140) _ rfl base 5 i3 _ 1 1 Tryz.underlying56 hi3 hv0 hv1 hv2 rfl (by decide) (.slice Ag (xs.length + k) cg) (xs.length + k) (u8s (xs ++ ys)) rfl hown ⟨wr.heap.size, 0, none⟩ 1 1 [.int .u8 ((200 + (i : Int)) % 256)] rfl rfl (fun j u hu => by have h := new_cells wr #[.int .u8 ((200 + (i : Int)) % 256)] 5 j u hu; simpa using h) (by intro u hu; simp only [List.mem_cons, List.not_mem_nil, or_false] at hu; subst hu; rfl) (by decide) (by unfold maxLen; omega) (by omega) (by simpa using Nat.le_succ_of_le hbs) ?_)
                      intro v9 w9 hown9 hg9 two
                      have hb9 : Below base w w9 := (hb.alloc hbs _).grown hg9 (Nat.le_trans hbs (by simp)) (fun q hq => own_from hown q hq)
                      have hbs9 : base ≤ w9.heap.size := Nat.le_trans hbs (Nat.le_trans (by simp) hg9.size)
                      obtain ⟨σ3, A9, c9, rfl, hS9, m5, mO, mE⟩ := hS6.push2 (kL := (2, i)) (kG := (5, i)) (by simp) HOr.out n5 hown9 hg9 (two.imp (fun ⟨h1, h2⟩ => ⟨by rw [h1]; simp, h2⟩) (fun ⟨g, cp, ⟨h1, h2⟩, h3⟩ => ⟨g, cp, by rw [h1, h2], h3⟩))
                      rw [u8s_snoc, List.append_assoc] at m5 mO
                      have HMO := Lib.hid mO
                      have HLy2 : Hid ((ys ++ [(200 + (i : Int)) % 256]).length = k + 1) := Lib.hid (by have := HLy.out; simp; omega)
                      generalize ys ++ [(200 + (i : Int)) % 256] = ys2 at m5 HMO HLy2
                      have MO : Hid (∀ q : Nat × Nat, q ≠ (2, i) → q ≠ (5, i) → σ3 q = σ q) := Lib.hid (fun q h1 h4 => by rw [mE q h1 h4]; exact NO.out q h1 h4)
                      clear hown hown9 hg9 two hS6 hSr n5 NO hb hbs mO mE HOr HLy hzl
                      go_wp2_with fail
                      go_roundw
                      case rel => exact ⟨k + 1, ys2, A9, c9, σ3, by omega, by rw [Nat.add_assoc], by go_num, HLy2, hS9, m5, HMO, MO, hb9, hbs9⟩
                      case measure => simp [intOf]; omega
                    · obtain rfl : k = 16 := by omega
                      have q4' : σ' (0, 4) = some ⟨9, .slice A11 M c11, ts⟩ := by rw [NO.out _ (by simp) (by simp)]; exact q4
                      obtain ⟨gT, rfl, _, hTc, hTf⟩ := (hSr.at_ q4').2 i _ HS1.out
                      have hTs : (⟨(textB xs).toArray⟩ : ByteArray).size = xs.length := by rw [Lib.size_eq]; simp [textB]
                      have HT : Hid (ts[i]? = some (.string ⟨(textB xs).toArray⟩)) := HS1
                      generalize (⟨(textB xs).toArray⟩ : ByteArray) = T at hTc hTs
                      have t0 : σ' (0, 0) = some ⟨31, .slice A0 N d0, vs⟩ := by rw [NO.out _ (by simp) (by simp)]; exact q0
                      have t1 : σ' (0, 1) = some ⟨56, .slice (some ⟨gB, 0, none⟩) M d1, bs⟩ := by rw [NO.out _ (by simp) (by simp)]; exact q1
                      have t2 : σ' (0, 2) = some ⟨31, .slice A5 N c5, wvs⟩ := by rw [NO.out _ (by simp) (by simp)]; exact q2
                      have t3 : σ' (0, 3) = some ⟨31, .slice A6 N c6, gvs⟩ := by rw [NO.out _ (by simp) (by simp)]; exact q3
                      have HI2 : Hid (In3 σ' vs N wvs gvs) := Lib.hid (fun j v hv => by
                        rw [NO.out _ (by simp) (by simp), NO.out _ (by simp) (by simp), NO.out _ (by simp) (by simp)]
                        exact HI3.out j v hv)
                      have HI6 : Hid (In4 σ' bs (i + 1) ts) := Lib.hid (fun j v hv => by
                        by_cases hji : j = i
                        · subst hji
                          rw [HV.out] at hv
                          injection hv with hv
                          subst hv
                          refine ⟨A, c, xs, rfl, hxb, hx8, HT.out, fun h => absurd h (by omega), ?_⟩
                          rcases HOr.out with h | ⟨h1, _⟩
                          · exact .inl h
                          · rw [h1]
                            exact .inr ⟨ys, cg, HLy.out, n5⟩
                        · obtain ⟨B, cB, ux, e1, e2, e3, e4, e5, e6⟩ := HI5.out j v hv
                          refine ⟨B, cB, ux, e1, e2, e3, e4, fun h => ?_, ?_⟩
                          · rw [NO.out _ (by simp [hji]) (by simp)]
                            exact e5 (by omega)
                          · rw [NO.out _ (by simp [hji]) (by simp), NO.out _ (by simp) (by simp [hji])]
                            exact e6)
                      clear n5 NO hSw HI3 HI5 q0 q1 q2 q3 q4 HV HOr HLy HS1 HT
                      go_wp2_with fail
                      go_roundw
                      case rel => exact ⟨i + 1, σ', by omega, by go_num, hSr, t0, t1, t2, t3, q4', HI2, HI6, hb, hbs⟩
                      case measure => simp [intOf]; omega
                · have hiM : M = i := by omega
                  subst hiM
                  obtain ⟨wo, hwo⟩ : ∃ wo : World, wo = wr := ⟨_, rfl⟩
                  subst hwo
                  go_wp2_with fail
                  go_loopw [20] (fun s20 wr => ∃ (i : Nat), i ≤ N ∧ s20 = .int .i64 i ∧ Sep wr base σ ∧ Below base w wr ∧ base ≤ wr.heap.size) (fun s20 _ => N - (intOf s20).toNat)
                  case atStart => exact ⟨0, Nat.zero_le _, rfl, hSw, hb, hbs⟩
                  case round =>
                    clear hSw hb hbs
                    obtain ⟨i, hi, rfl, hSw, hb, hbs⟩ := hrel
                    by_cases hlt : i < N
                    · obtain ⟨v, hv⟩ : ∃ v, vs[i]? = some v := ⟨_, List.getElem?_eq_getElem (by rw [HN.out]; exact hlt)⟩
                      obtain ⟨A, c, xs, ys, A', c', rfl, hxb, _, s1, s2, _, s4⟩ := HI3.out i v hv
                      obtain ⟨hyl, A2, c2, s3, s4, s5⟩ := s4 hlt
                      obtain ⟨gL, rfl, _, a0, _⟩ := (hSw.at_ q0).2 i _ hv
                      obtain ⟨g5, rfl, _, a1, _⟩ := (hSw.at_ q2).2 i _ s1
                      obtain ⟨g6, rfl, _, a2, _⟩ := (hSw.at_ q3).2 i _ s3
                      have nW := hSw.nums s2
                      have nG := hSw.nums s4
                      have nL : NumsAt wr .u32 A xs.length xs := by
                        rcases s5 with h | h
                        · exact hSw.nums h
                        · rw [h]
                          exact nG.take
                      have nP := nW.take
                      have hcap := hSw.cap s2
                      have hxy : (xs ++ ys).length = xs.length + 16 := by rw [List.length_append, hyl]
                      obtain ⟨gW, hgW⟩ : ∃ gW, A' = some ⟨gW, 0, none⟩ := by
                        obtain ⟨gW, e, _⟩ := (hSw.at_ s2).2 0 ((w32 (xs ++ ys))[0]'(by rw [w32_len]; omega)) (List.getElem?_eq_getElem _)
                        exact ⟨gW, e⟩
                      subst hgW
                      have H1 := Lib.hid (fun W (k : Kept wr [] W) => k.call (sameWords_any A2 (some ⟨gW, 0, none⟩) c2 c' (xs ++ ys) (xs ++ ys) (by omega) (by omega) W (nG.below k.1) (nW.below k.1) rfl))
                      have H2 := Lib.hid (fun W (k : Kept wr [] W) => k.call (sameWords_any A (some ⟨gW, 0, none⟩) c c' xs xs (by omega) (by omega) W (nL.below k.1) (nP.below k.1) rfl))
                      rw [hxy] at H1 a1 a2 hcap
                      have HS : Hid (∀ W, Kept wr [] W → W.cell? ⟨gL, i, none⟩ = some (.slice A xs.length c) ∧ W.cell? ⟨g5, i, none⟩ = some (.slice (some ⟨gW, 0, none⟩) (xs.length + 16) c') ∧ W.cell? ⟨g6, i, none⟩ = some (.slice A2 (xs.length + 16) c2)) := Lib.hid (fun W k => ⟨cell_below a0 k.1, cell_below a1 k.1, cell_below a2 k.1⟩)
                      have k0 := Kept.start wr
                      have z0 : (0 : Int) ≤ (i : Int) := by omega
                      have z1 : (i : Int) < (N : Int) := by omega
                      have z2 : ((i : Int)).toNat = i := by omega
                      have z3 : (0 : Int) ≤ (xs.length : Int) := by omega
                      have z4 : (xs.length : Int) ≤ (c' : Int) := by omega
                      have z5 : ((xs.length : Int)).toNat = xs.length := by omega
                      clear nW nG nL nP s1 s2 s3 s4 s5 hv hxy hyl
                      go_wp2_with fail
                      go_region_held3 (fun W => W.cell? ⟨gL, i, none⟩ = some (.slice A xs.length c) ∧ W.cell? ⟨g5, i, none⟩ = some (.slice (some ⟨gW, 0, none⟩) (xs.length + 16) c') ∧ W.cell? ⟨g6, i, none⟩ = some (.slice A2 (xs.length + 16) c2))
                        (first | exact HS.out _ (by first | assumption | exact Kept.drew (by assumption)) | go_keep)
                        (first
                          | (go_at_call 31; refine (H1.out _ (by first | assumption | exact Kept.drew (by assumption))).mono ?_; rintro e wK ⟨rfl, hKK⟩)
                          | (go_at_call 31; refine (H2.out _ (by first | assumption | exact Kept.drew (by assumption))).mono ?_; rintro e wK ⟨rfl, hKK⟩))

                      go_wp2_with fail
                      go_roundw
                      case rel => exact ⟨i + 1, by omega, by go_num, hSw.below hKK.1, hb.trans (hKK.1.mono hbs), Nat.le_trans hbs hKK.1.size⟩
                      case measure => simp [intOf]; omega
                    · have hiN : N = i := by omega
                      subst hiN
                      clear HI3 q0 q2 q3
                      have HI6 : Hid (∀ (j : Nat) (v : Value), bs[j]? = some v → ∃ (A : Option Addr) (c : Nat) (xs : List Int), v = .slice A xs.length c ∧ Byte8 xs ∧ ts[j]? = some (.string ⟨(textB xs).toArray⟩) ∧ ∀ W, Sep W base σ → NumsAt W .u8 A xs.length xs) := Lib.hid (fun j v hv => by
                        obtain ⟨A, c, xs, e1, _, e2, e3, _, e4⟩ := HI5.out j v hv
                        refine ⟨A, c, xs, e1, e2, e3, fun W hW => ?_⟩
                        subst e1
                        rcases e4 with e4 | ⟨ys, c2, hy, e4⟩
                        · exact hW.nums e4
                        · have hxy : (xs ++ ys).length = xs.length + 16 := by rw [List.length_append, hy]
                          rw [← hxy] at e4
                          exact (hW.nums e4).take)
                      clear HI5
                      obtain ⟨wo, hwo⟩ : ∃ wo : World, wo = wr := ⟨_, rfl⟩
                      subst hwo
                      go_wp2_with fail
                      go_loopw [21] (fun s21 wr => ∃ (i : Nat), i ≤ M ∧ s21 = .int .i64 i ∧ Sep wr base σ ∧ Below base w wr ∧ base ≤ wr.heap.size) (fun s21 _ => M - (intOf s21).toNat)
                      case atStart => exact ⟨0, Nat.zero_le _, rfl, hSw, hb, hbs⟩
                      case round =>
                        clear hSw hb hbs
                        obtain ⟨i, hi, rfl, hSw, hb, hbs⟩ := hrel
                        by_cases hlt : i < M
                        · obtain ⟨v, hv⟩ : ∃ v, bs[i]? = some v := ⟨_, List.getElem?_eq_getElem (by rw [HM.out]; exact hlt)⟩
                          obtain ⟨A, c, xs, rfl, hx8, s1, s2⟩ := HI6.out i v hv
                          obtain ⟨gB, rfl, _, a0, _⟩ := (hSw.at_ q1).2 i _ hv
                          obtain ⟨gT, rfl, _, a1, _⟩ := (hSw.at_ q4).2 i _ s1
                          have cv := conv_bytes A c xs hx8 wr (s2 wr hSw)
                          have cvd := conv_bytes A c xs hx8 wr.drew ((s2 wr hSw).below ((Below.refl _ _).drew))
                          have z0 : (0 : Int) ≤ (i : Int) := by omega
                          have z1 : (i : Int) < (M : Int) := by omega
                          have z2 : ((i : Int)).toNat = i := by omega
                          clear s1 s2 hv
                          generalize (⟨(textB xs).toArray⟩ : ByteArray) = T at cv cvd a1
                          go_wp2_with fail
                          go_region_law (fail)
                          all_goals
                            go_wp2_with fail
                            go_roundw
                            case rel => exact ⟨i + 1, by omega, by go_num, hSw.below ((Below.refl _ _).drew), hb.drew, hbs⟩
                            case measure => simp [intOf]; omega
                        · have hiM : M = i := by omega
                          subst hiM
                          go_wp2_with fail
                          go_ret
                          exact ⟨rfl, hb⟩
end Go.Proofs.YtecmeegnjjhilaaGreatDoor
