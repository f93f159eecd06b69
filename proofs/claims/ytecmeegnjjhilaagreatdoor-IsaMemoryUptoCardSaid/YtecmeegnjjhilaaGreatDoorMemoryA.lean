/- ferrylaw04.IsaMemory: the walk. -/
import Derived.Test.YtecmeegnjjhilaaGreatDoorApart
import Derived.Test.YtecmeegnjjhilaaGreatDoorSrcAnsM
import Derived.Test.YtecmeegnjjhilaaGreatDoorFixed
import Derived.Laws.MakeOwn
import Derived.Laws.BitsAllLaws
import Derived.Deep.AppendLies
import Derived.Deep.RegionHeld3
import Derived.Deep.CutRange
import Derived.Deep.CutBlock
namespace Go.Proofs.YtecmeegnjjhilaaGreatDoor
open Go.RowKit
section
variable {P : Program} (w : World)
/-- append of a list that came in, at a step of a region that draws. -/
theorem step_append_nums {ops : Array Oper} {o : Oper} {a : Act} {K : Act → World → Prop} {Q : Exit → Act → World → Prop} {E : Prop} (hgd : o.guard = none) (s x : Operand) (t : TypeId)
    (ho : o.op = .call { callee := .builtin .append, args := #[s, x], argTypes := #[t, t] })
    (base : Nat) (e : TypeId) (i : TypeInfo) (z : Value) (bytes : Nat) (q : IntKind) (ht : P.underlying t = some (.slice e)) (hi : P.info? e = some i) (hz : i.zero = some z)
    (hsize : i.size = 1) (hby : i.bytes = bytes) (hzs : z.cells.size = 1)
    (v : Value) (n : Nat) (xs : List Value) (hs : a.eval s = v) (hown : w.ownsRow base e 1 v n xs)
    (A : Option Addr) (m c : Nat) (ys : List Int) (hx : a.eval x = .slice A m c) (hr : NumsAt w q A m ys)
    (h63 : n + m ≤ maxLen) (hbytes : (n + m) * bytes ≤ 140737488355328) (hbase : base ≤ w.heap.size)
    (h : ∀ v' w', w'.ownsRow base e 1 v' (n + m) (xs ++ ys.map fun y => Value.int q y) → w.grownBy w' v.ownBlock → K (a.put o.dst v') w') :
    if Region.wanted o (yielded ops a.tmps) = true then Oper.wp P o a w K Q else E := by
  have hw : Region.wanted o (yielded ops a.tmps) = true := by simp [Region.wanted, hgd]
  rw [if_pos hw]
  obtain ⟨v', w', hrun, h2, h3⟩ := append_nums (P := P) w base t o.type e i z bytes q ht hi hz hsize hby hzs v n xs hown A m c ys hr h63 hbytes hbase
  unfold Oper.wp execOp
  simp only [ho, resolve, invoke, builtin, Sem.run_bind, Sem.run_pure, Result.andThen_ok, List.map_toArray, List.map_cons, List.map_nil, hs, hx, hrun]
  exact h v' w' h2 h3
end
theorem own_form2 {w : World} {base : Nat} {e : TypeId} {A : Option Addr} {n c : Nat} {xs : List Value} (h : w.ownsRow base e 1 (.slice A n c) n xs) (hn : 0 < n) : ∃ g, A = some ⟨g, 0, none⟩ ∧ base ≤ g ∧ g < w.heap.size ∧ n ≤ c := by
  rcases h.2 with ⟨_, h0⟩ | ⟨g, cap, cur, hv, hb, hg, hc, _⟩
  · omega
  · injection hv with h1 h2 h3
    refine ⟨g, h1, hb, ?_, by omega⟩
    rcases Nat.lt_or_ge g w.heap.size with hlt | hge
    · exact hlt
    · rw [Array.getElem?_eq_none hge] at hg
      cases hg
theorem xor_range (x y : Int) (h0 : 0 ≤ x) (h1 : x < 4294967296) (k0 : 0 ≤ y) (k1 : y < 4294967296) : 0 ≤ bits .xor .u32 x y ∧ bits .xor .u32 x y < 4294967296 := by
  rw [u32_xor x y h0 h1 k0 k1]
  have e1 : x.toNat < 2 ^ 32 := by omega
  have e2 : y.toNat < 2 ^ 32 := by omega
  have := Nat.xor_lt_two_pow e1 e2
  omega
/-- What a copy of a list changes. -/
theorem copy_below2 {w1 w2 : World} {t : TypeId} (hg : (w1.alloc (.cells #[] t)).grownBy w2 (Value.slice (some ⟨w1.heap.size, 0, none⟩) 0 0).ownBlock) : Below w1.heap.size w1 w2 :=
  ((Below.refl w1.heap.size w1).alloc (Nat.le_refl _) (.cells #[] t)).grown hg (by simp) (fun q hq => own_from (own_empty w1 t) q hq)
theorem ws_len2 (s : ByteArray) : (wsR (asmR s)).length ≤ 512 := by
  have h := asm_len s
  unfold wsR
  split
  · simp
  · exact h
theorem wd_len2 (xs : List Int) : (wdR xs).length ≤ xs.length := by
  have h := quad_len xs
  unfold wdR
  split
  · simp
  · omega

attribute [local irreducible] Calls in
set_option maxHeartbeats 16000000 in
set_option maxRecDepth 100000 in
theorem memory_walk (er : Nat → Addr) (x : SrcArg) (ht : x.text.size ≤ 1048576) (hws : x.ws.length ≤ 1048576) (hbs : x.bs.length ≤ 1048576) (w : World) (E : Env2 er w) (hx : x.In w) :
    Calls Tryz.prog 9 #[.agg x.cells] w fun e w' => e = .returned (.bool true) ∧ Below w.heap.size w w' := by
  have HE := Lib.hid E
  obtain ⟨hW, hwr, hB, hbr⟩ := hx
  obtain ⟨tx, A, ca, ws, B, cb, bs⟩ := x
  unfold SrcArg.cells
  simp only at hW hwr hB hbr hws hbs ht ⊢
  obtain ⟨i0, hi0, hz0, hz1, hz2⟩ := info_parts u32info
  obtain ⟨j0, hj0, hy0, hy1, hy2⟩ := info_parts byteinfo8
  have hmk : ∀ W : World, (Instr.makeSlice 31 (.int .i64 0) (.int .i64 ((ws.length : Int) + 2))).run Tryz.prog W = .ok (.slice (some ⟨W.heap.size, 0, none⟩) 0 (ws.length + 2)) (W.alloc (.cells (madeCells #[.int .u32 0] (ws.length + 2)) 28)) := fun W => by
    have h := run_make (P := Tryz.prog) W 31 28 i0 (.int .u32 0) Tryz.underlying31 hi0 hz0 .i64 .i64 0 ((ws.length : Int) + 2) (by omega) (by omega) (by rw [hz2]; omega) (by omega)
    rw [h, hz1]
    have e : ((ws.length : Int) + 2).toNat = ws.length + 2 := by omega
    rw [e, Nat.mul_one]
    rfl
  have hKx := (Kept.start w).new 58 #[.string tx, .slice A ws.length ca, .slice B bs.length cb]
  have HF := Lib.hid (hKx.call (fixed_any er _ (HE.out.env.below hKx.1)))
  have HWn : Hid (∀ W, Below w.heap.size w W → NumsAt W .u32 A ws.length ws) := Lib.hid (fun W hb => hW.below hb)
  have HBn : Hid (∀ W, Below w.heap.size w W → NumsAt W .u8 B bs.length bs) := Lib.hid (fun W hb => hB.below hb)
  have hmk5 : ∀ W : World, (Instr.makeSlice 56 (.int .i64 0) (.int .i64 ((bs.length : Int) + 2))).run Tryz.prog W = .ok (.slice (some ⟨W.heap.size, 0, none⟩) 0 (bs.length + 2)) (W.alloc (.cells (madeCells #[.int .u8 0] (bs.length + 2)) 5)) := fun W => by
    have h := run_make (P := Tryz.prog) W 56 5 j0 (.int .u8 0) Tryz.underlying56 hj0 hy0 .i64 .i64 0 ((bs.length : Int) + 2) (by omega) (by omega) (by rw [hy2]; omega) (by omega)
    rw [h, hy1]
    have e : ((bs.length : Int) + 2).toNat = bs.length + 2 := by omega
    rw [e, Nat.mul_one]
    rfl
  have hwl := ws_len2 tx
  have hdl := wd_len2 bs
  have HAs := Lib.hid (fun W (hb : Below w.heap.size w W) => asm_ans er tx (by omega) W (HE.out.below hb))
  have HRa := Lib.hid (fun W => rasm_ans tx (by omega) W)
  generalize wsR (asmR tx) = us at HAs HRa hwl
  generalize codeR (asmR tx) = cc at HAs HRa
  generalize placeR (asmR tx) = pc at HAs HRa
  have HLi := Lib.hid (fun A c W (hb : Below w.heap.size w W) (h : NumsAt W .u32 A ws.length ws) => List_any er A c ws (by omega) hwr W (HE.out.env.below hb) h)
  have HRl := Lib.hid (fun A c W (h : NumsAt W .u32 A ws.length ws) => RList_any A c ws (by omega) hwr W h)
  generalize (⟨(listT ws).toArray⟩ : ByteArray) = S at HLi HRl
  have HBy := Lib.hid (fun A c W (h : NumsAt W .u32 A ws.length ws) => Bytes_any A c ws (by omega) hwr W h)
  have HRb := Lib.hid (fun A c W (h : NumsAt W .u32 A ws.length ws) => RBytes_any A c ws (by omega) hwr W h)
  have HUb := Lib.hid (unquad_bytes ws hwr)
  have HUl := Lib.hid (unquad_len ws)
  generalize unquad ws = zs at HBy HRb HUb HUl
  have HWo := Lib.hid (fun A c W (hb : Below w.heap.size w W) (h : NumsAt W .u8 A bs.length bs) => words_ans er A c bs (by omega) hbr W h (HE.out.below hb))
  have HRw := Lib.hid (fun A c W (h : NumsAt W .u8 A bs.length bs) => rwords_ans A c bs (by omega) hbr W h)
  have HSa := Lib.hid (fun W (hb : Below w.heap.size w W) => (same_any er (wdC bs) (wdC_ok bs) (wdC bs) W (HE.out.below hb)))
  simp only [decide_true] at HSa
  generalize wdR bs = vs at HWo HRw hdl
  generalize wdC bs = wcd at HWo HRw HSa
  generalize errV er wcd = ve at HWo HSa
  have HSw := Lib.hid (fun (xs : List Int) (hxl : xs.length ≤ 2000000) A' c' B' d' W (h : NumsAt W .u32 A' xs.length xs) (h' : NumsAt W .u32 B' xs.length xs) => sameWords_any A' B' c' d' xs xs (by omega) (by omega) W h h' rfl)
  have HBr := Lib.hid hbr
  have HWr := Lib.hid hwr
  clear E hW hB hbr hwr
  go_enter Tryz.func9, Tryz.ntmps9
  go_wp2_with fail
  refine HF.out.mono ?_
  rintro e w1 ⟨rfl, hK1⟩
  have c1 : w1.cell? ⟨w.heap.size, 1, none⟩ = some (.slice A ws.length ca) := (hK1.at_ 0 rfl).cell 1
  have hlt1 := (hK1.at_ 0 rfl).lt
  clear HF hKx

  have c1 : w1.cell? ⟨w.heap.size, 1, none⟩ = some (.slice A ws.length ca) := (hK1.at_ 0 rfl).cell 1
  have hlt1 := (hK1.at_ 0 rfl).lt
  have z0 : (0 : Int) ≤ (ws.length : Int) := by omega
  have z1 : IntKind.i64.wrap ((ws.length : Int) + 2) = (ws.length : Int) + 2 := by rw [IntKind.wrap_i64]; omega
  have mkown3 : ∀ (W : World) (g : Nat), W.heap.size = g → w1.heap.size ≤ W.heap.size → (W.alloc (.cells (madeCells #[.int .u32 0] (ws.length + 2)) 28)).ownsRow w1.heap.size 28 1 (.slice (some ⟨g, 0, none⟩) 0 (ws.length + 2)) 0 [] := fun W g hg hb => by
    subst hg
    exact World.ownsRow_made W _ _ hb (by unfold maxLen; omega) (by rw [size_madeCells, Nat.mul_one])
  go_upto_region 3 with fail
  go_cut [3] from 28 to 37 (fun s3 wx => ∃ (A3 : Option Addr) (c3 : Nat), s3 = .slice A3 (ws.length + 2) c3 ∧ wx.ownsRow w1.heap.size 28 1 s3 (ws.length + 2) (w32 (ws ++ [7, 8])) ∧ Below w1.heap.size w1 wx)
  case first =>
    go_region_law (first
      | ((refine step_append_nums _ (by rfl) _ _ _ (by rfl) w1.heap.size 28 i0 _ 4 .u32 Tryz.underlying31 hi0 hz0 hz1 hz2 rfl (.slice (some ⟨w1.heap.size, 0, none⟩) 0 (ws.length + 2)) 0 [] (by rfl) (by first | exact mkown3 _ _ (by simp) (by simp) | exact (mkown3 _ _ (by simp) (by simp)).drew | exact World.ownsRow.alloc (mkown3 _ _ (by simp) (by simp)) _ | exact (World.ownsRow.alloc (mkown3 _ _ (by simp) (by simp)) _).drew | exact World.ownsRow.alloc (mkown3 _ _ (by simp) (by simp)).drew _) A ws.length ca ws (by rfl) (HWn.out _ (hK1.1.trans ((show Below w1.heap.size w1 _ from (by repeat (first | exact Below.refl _ _ | refine Below.drew ?_ | refine Below.alloc ?_ ?_ _ | exact Nat.le_refl _ | exact (by simp) | exact (by simp; omega)))).mono hK1.1.size))) (by unfold maxLen; omega) (by omega) (by simp; try omega) ?_); intro v5 w5 hown5 hg5; replace hown5 : w5.ownsRow w1.heap.size 28 1 v5 ws.length (w32 ws) := (by simpa [w32] using hown5); have hb5 : Below w1.heap.size w1 w5 := Below.grown (by repeat (first | exact Below.refl _ _ | refine Below.drew ?_ | refine Below.alloc ?_ ?_ _ | exact Nat.le_refl _ | exact (by simp) | exact (by simp; omega))) hg5 (by simp; try omega) (fun q hq => by have h7 : w1.heap.size = q := (by simpa [Value.ownBlock] using hq); omega))
      | ((refine step_append_nums _ (by rfl) _ _ _ (by rfl) w1.heap.size 28 i0 _ 4 .u32 Tryz.underlying31 hi0 hz0 hz1 hz2 rfl (.slice (some ⟨w1.heap.size + 1, 0, none⟩) 0 (ws.length + 2)) 0 [] (by rfl) (by first | exact mkown3 _ _ (by simp) (by simp) | exact (mkown3 _ _ (by simp) (by simp)).drew | exact World.ownsRow.alloc (mkown3 _ _ (by simp) (by simp)) _ | exact (World.ownsRow.alloc (mkown3 _ _ (by simp) (by simp)) _).drew | exact World.ownsRow.alloc (mkown3 _ _ (by simp) (by simp)).drew _) A ws.length ca ws (by rfl) (HWn.out _ (hK1.1.trans ((show Below w1.heap.size w1 _ from (by repeat (first | exact Below.refl _ _ | refine Below.drew ?_ | refine Below.alloc ?_ ?_ _ | exact Nat.le_refl _ | exact (by simp) | exact (by simp; omega)))).mono hK1.1.size))) (by unfold maxLen; omega) (by omega) (by simp; try omega) ?_); intro v5 w5 hown5 hg5; replace hown5 : w5.ownsRow w1.heap.size 28 1 v5 ws.length (w32 ws) := (by simpa [w32] using hown5); have hb5 : Below w1.heap.size w1 w5 := Below.grown (by repeat (first | exact Below.refl _ _ | refine Below.drew ?_ | refine Below.alloc ?_ ?_ _ | exact Nat.le_refl _ | exact (by simp) | exact (by simp; omega))) hg5 (by simp; try omega) (fun q hq => by have h7 : w1.heap.size + 1 = q := (by simpa [Value.ownBlock] using hq); omega))
      | ((refine step_append_lies _ (by rfl) _ _ _ (by rfl) w1.heap.size 28 i0 _ 1 4 Tryz.underlying31 hi0 hz0 hz1 hz2 rfl (by decide) v5 ws.length (w32 ws) (by rfl) (by first | exact hown5 | exact hown5.drew | exact World.ownsRow.alloc hown5 _ | exact (World.ownsRow.alloc hown5 _).drew | exact World.ownsRow.alloc hown5.drew _) ⟨w5.heap.size, 0, none⟩ 2 2 [.int .u32 7, .int .u32 8] (by rfl) (by rfl) (World.news_of_block (cs := #[.int .u32 7, .int .u32 8]) (t := 28) (fr := (0, 0)) (by first | exact heap_alloc_new w5 _ | exact heap_alloc_new w5.drew _)) (by intro u hu; simp only [List.mem_cons, List.not_mem_nil, or_false] at hu; rcases hu with rfl | rfl <;> rfl) (by decide) (by unfold maxLen; omega) (by omega) (Nat.le_trans hb5.size (by simp)) _ rfl ?_); intro g6 c6 w6 hown6 hg6 hat6 hlt6; have hb6 : Below w1.heap.size w1 w6 := Below.grown (hb5.trans ((show Below w5.heap.size w5 _ from (by repeat (first | exact Below.refl _ _ | refine Below.drew ?_ | refine Below.alloc ?_ ?_ _ | exact Nat.le_refl _ | exact (by simp) | exact (by simp; omega)))).mono hb5.size)) hg6 (Nat.le_trans hb5.size (by simp)) (fun q hq => own_from hown5 q hq))
      | ((refine step_append_lies _ (by rfl) _ _ _ (by rfl) w1.heap.size 28 i0 _ 1 4 Tryz.underlying31 hi0 hz0 hz1 hz2 rfl (by decide) v5 ws.length (w32 ws) (by rfl) (by first | exact hown5 | exact hown5.drew | exact World.ownsRow.alloc hown5 _ | exact (World.ownsRow.alloc hown5 _).drew | exact World.ownsRow.alloc hown5.drew _) ⟨w1.heap.size + 1, 0, none⟩ 2 2 [.int .u32 7, .int .u32 8] (by rfl) (by rfl) (fun j u hu => World.grownBy.cell hg5 (World.news_of_block (cs := #[.int .u32 7, .int .u32 8]) (t := 28) (fr := (0, 0)) (by rw [show w1.heap.size + 1 = (w1.alloc (.cells (madeCells #[.int .u32 0] (ws.length + 2)) 28)).heap.size by simp]; exact heap_alloc_new (w1.alloc (.cells (madeCells #[.int .u32 0] (ws.length + 2)) 28)) (.cells #[.int .u32 7, .int .u32 8] 28)) j u hu) (by unfold Addr.add; split <;> simp [Value.ownBlock])) (by intro u hu; simp only [List.mem_cons, List.not_mem_nil, or_false] at hu; rcases hu with rfl | rfl <;> rfl) (by decide) (by unfold maxLen; omega) (by omega) (Nat.le_trans hb5.size (by simp)) _ rfl ?_); intro g6 c6 w6 hown6 hg6 hat6 hlt6; have hb6 : Below w1.heap.size w1 w6 := Below.grown (hb5.trans ((show Below w5.heap.size w5 _ from (by repeat (first | exact Below.refl _ _ | refine Below.drew ?_ | refine Below.alloc ?_ ?_ _ | exact Nat.le_refl _ | exact (by simp) | exact (by simp; omega)))).mono hb5.size)) hg6 (Nat.le_trans hb5.size (by simp)) (fun q hq => own_from hown5 q hq))
      | ((refine step_append_lies _ (by rfl) _ _ _ (by rfl) w1.heap.size 28 i0 _ 1 4 Tryz.underlying31 hi0 hz0 hz1 hz2 rfl (by decide) v5 ws.length (w32 ws) (by rfl) (by first | exact hown5 | exact hown5.drew | exact World.ownsRow.alloc hown5 _ | exact (World.ownsRow.alloc hown5 _).drew | exact World.ownsRow.alloc hown5.drew _) ⟨w1.heap.size, 0, none⟩ 2 2 [.int .u32 7, .int .u32 8] (by rfl) (by rfl) (fun j u hu => World.grownBy.cell hg5 (World.news_of_block (cs := #[.int .u32 7, .int .u32 8]) (t := 28) (fr := (0, 0)) (by have h := heap_alloc_old (w1.alloc (.cells #[.int .u32 7, .int .u32 8] 28)) (.cells (madeCells #[.int .u32 0] (ws.length + 2)) 28) (r := w1.heap.size) (by simp); exact h.trans (heap_alloc_new w1 _)) j u hu) (by unfold Addr.add; split <;> simp [Value.ownBlock])) (by intro u hu; simp only [List.mem_cons, List.not_mem_nil, or_false] at hu; rcases hu with rfl | rfl <;> rfl) (by decide) (by unfold maxLen; omega) (by omega) (Nat.le_trans hb5.size (by simp)) _ rfl ?_); intro g6 c6 w6 hown6 hg6 hat6 hlt6; have hb6 : Below w1.heap.size w1 w6 := Below.grown (hb5.trans ((show Below w5.heap.size w5 _ from (by repeat (first | exact Below.refl _ _ | refine Below.drew ?_ | refine Below.alloc ?_ ?_ _ | exact Nat.le_refl _ | exact (by simp) | exact (by simp; omega)))).mono hb5.size)) hg6 (Nat.le_trans hb5.size (by simp)) (fun q hq => own_from hown5 q hq)))

    all_goals
      go_wp2_with fail
      go_meet
      case rel => exact ⟨_, _, rfl, by simpa [w32] using hown6, hb6⟩
  obtain ⟨A3, c3, rfl, ho3, hb3⟩ := hcut
  obtain ⟨w2, hwa⟩ : ∃ W : World, W = wc := ⟨_, rfl⟩
  subst hwa
  have hK2 := hK1.step hb3
  clear c1 hlt1 z0 z1 mkown3
  obtain ⟨g3, rfl, hg3b, hg3l, hc3⟩ := own_form2 ho3 (by omega)
  have c1 : w2.cell? ⟨w.heap.size, 1, none⟩ = some (.slice A ws.length ca) := (hK2.at_ 0 rfl).cell 1
  have z3 : (0 : Int) ≤ (ws.length : Int) := by omega
  have z4 : (ws.length : Int) ≤ (c3 : Int) := by omega
  have z5 : ((ws.length : Int)).toNat = ws.length := by omega
  have c2 : w2.cell? ⟨w.heap.size, 2, none⟩ = some (.slice B bs.length cb) := (hK2.at_ 0 rfl).cell 2
  have hlt1 := (hK2.at_ 0 rfl).lt
  have z0 : (0 : Int) ≤ (bs.length : Int) := by omega
  have z1 : IntKind.i64.wrap ((bs.length : Int) + 2) = (bs.length : Int) + 2 := by rw [IntKind.wrap_i64]; omega
  have mkown5 : ∀ (W : World) (g : Nat), W.heap.size = g → w2.heap.size ≤ W.heap.size → (W.alloc (.cells (madeCells #[.int .u8 0] (bs.length + 2)) 5)).ownsRow w2.heap.size 5 1 (.slice (some ⟨g, 0, none⟩) 0 (bs.length + 2)) 0 [] := fun W g hg hb => by
    subst hg
    exact World.ownsRow_made W _ _ hb (by unfold maxLen; omega) (by rw [size_madeCells, Nat.mul_one])
  go_upto_region 5 with fail
  go_cut [5] from 43 to 52 (fun s3 wx => ∃ (A3 : Option Addr) (c3 : Nat), s3 = .slice A3 (bs.length + 2) c3 ∧ wx.ownsRow w2.heap.size 5 1 s3 (bs.length + 2) (u8s (bs ++ [7, 8])) ∧ Below w2.heap.size w2 wx)
  case first =>
    go_region_law (first
      | ((refine step_append_nums _ (by rfl) _ _ _ (by rfl) w2.heap.size 5 j0 _ 1 .u8 Tryz.underlying56 hj0 hy0 hy1 hy2 rfl (.slice (some ⟨w2.heap.size, 0, none⟩) 0 (bs.length + 2)) 0 [] (by rfl) (by first | exact mkown5 _ _ (by simp) (by simp) | exact (mkown5 _ _ (by simp) (by simp)).drew | exact World.ownsRow.alloc (mkown5 _ _ (by simp) (by simp)) _ | exact (World.ownsRow.alloc (mkown5 _ _ (by simp) (by simp)) _).drew | exact World.ownsRow.alloc (mkown5 _ _ (by simp) (by simp)).drew _) B bs.length cb bs (by rfl) (HBn.out _ (hK2.1.trans ((show Below w2.heap.size w2 _ from (by repeat (first | exact Below.refl _ _ | refine Below.drew ?_ | refine Below.alloc ?_ ?_ _ | exact Nat.le_refl _ | exact (by simp) | exact (by simp; omega)))).mono hK2.1.size))) (by unfold maxLen; omega) (by omega) (by simp; try omega) ?_); intro v5 w5 hown5 hg5; replace hown5 : w5.ownsRow w2.heap.size 5 1 v5 bs.length (u8s bs) := (by simpa [u8s] using hown5); have hb5 : Below w2.heap.size w2 w5 := Below.grown (by repeat (first | exact Below.refl _ _ | refine Below.drew ?_ | refine Below.alloc ?_ ?_ _ | exact Nat.le_refl _ | exact (by simp) | exact (by simp; omega))) hg5 (by simp; try omega) (fun q hq => by have h7 : w2.heap.size = q := (by simpa [Value.ownBlock] using hq); omega))
      | ((refine step_append_nums _ (by rfl) _ _ _ (by rfl) w2.heap.size 5 j0 _ 1 .u8 Tryz.underlying56 hj0 hy0 hy1 hy2 rfl (.slice (some ⟨w2.heap.size + 1, 0, none⟩) 0 (bs.length + 2)) 0 [] (by rfl) (by first | exact mkown5 _ _ (by simp) (by simp) | exact (mkown5 _ _ (by simp) (by simp)).drew | exact World.ownsRow.alloc (mkown5 _ _ (by simp) (by simp)) _ | exact (World.ownsRow.alloc (mkown5 _ _ (by simp) (by simp)) _).drew | exact World.ownsRow.alloc (mkown5 _ _ (by simp) (by simp)).drew _) B bs.length cb bs (by rfl) (HBn.out _ (hK2.1.trans ((show Below w2.heap.size w2 _ from (by repeat (first | exact Below.refl _ _ | refine Below.drew ?_ | refine Below.alloc ?_ ?_ _ | exact Nat.le_refl _ | exact (by simp) | exact (by simp; omega)))).mono hK2.1.size))) (by unfold maxLen; omega) (by omega) (by simp; try omega) ?_); intro v5 w5 hown5 hg5; replace hown5 : w5.ownsRow w2.heap.size 5 1 v5 bs.length (u8s bs) := (by simpa [u8s] using hown5); have hb5 : Below w2.heap.size w2 w5 := Below.grown (by repeat (first | exact Below.refl _ _ | refine Below.drew ?_ | refine Below.alloc ?_ ?_ _ | exact Nat.le_refl _ | exact (by simp) | exact (by simp; omega))) hg5 (by simp; try omega) (fun q hq => by have h7 : w2.heap.size + 1 = q := (by simpa [Value.ownBlock] using hq); omega))
      | ((refine step_append_lies _ (by rfl) _ _ _ (by rfl) w2.heap.size 5 j0 _ 1 1 Tryz.underlying56 hj0 hy0 hy1 hy2 rfl (by decide) v5 bs.length (u8s bs) (by rfl) (by first | exact hown5 | exact hown5.drew | exact World.ownsRow.alloc hown5 _ | exact (World.ownsRow.alloc hown5 _).drew | exact World.ownsRow.alloc hown5.drew _) ⟨w5.heap.size, 0, none⟩ 2 2 [.int .u8 7, .int .u8 8] (by rfl) (by rfl) (World.news_of_block (cs := #[.int .u8 7, .int .u8 8]) (t := 5) (fr := (0, 0)) (by first | exact heap_alloc_new w5 _ | exact heap_alloc_new w5.drew _)) (by intro u hu; simp only [List.mem_cons, List.not_mem_nil, or_false] at hu; rcases hu with rfl | rfl <;> rfl) (by decide) (by unfold maxLen; omega) (by omega) (Nat.le_trans hb5.size (by simp)) _ rfl ?_); intro g6 c6 w6 hown6 hg6 hat6 hlt6; have hb6 : Below w2.heap.size w2 w6 := Below.grown (hb5.trans ((show Below w5.heap.size w5 _ from (by repeat (first | exact Below.refl _ _ | refine Below.drew ?_ | refine Below.alloc ?_ ?_ _ | exact Nat.le_refl _ | exact (by simp) | exact (by simp; omega)))).mono hb5.size)) hg6 (Nat.le_trans hb5.size (by simp)) (fun q hq => own_from hown5 q hq))
      | ((refine step_append_lies _ (by rfl) _ _ _ (by rfl) w2.heap.size 5 j0 _ 1 1 Tryz.underlying56 hj0 hy0 hy1 hy2 rfl (by decide) v5 bs.length (u8s bs) (by rfl) (by first | exact hown5 | exact hown5.drew | exact World.ownsRow.alloc hown5 _ | exact (World.ownsRow.alloc hown5 _).drew | exact World.ownsRow.alloc hown5.drew _) ⟨w2.heap.size + 1, 0, none⟩ 2 2 [.int .u8 7, .int .u8 8] (by rfl) (by rfl) (fun j u hu => World.grownBy.cell hg5 (World.news_of_block (cs := #[.int .u8 7, .int .u8 8]) (t := 5) (fr := (0, 0)) (by rw [show w2.heap.size + 1 = (w2.alloc (.cells (madeCells #[.int .u8 0] (bs.length + 2)) 5)).heap.size by simp]; exact heap_alloc_new (w2.alloc (.cells (madeCells #[.int .u8 0] (bs.length + 2)) 5)) (.cells #[.int .u8 7, .int .u8 8] 5)) j u hu) (by unfold Addr.add; split <;> simp [Value.ownBlock])) (by intro u hu; simp only [List.mem_cons, List.not_mem_nil, or_false] at hu; rcases hu with rfl | rfl <;> rfl) (by decide) (by unfold maxLen; omega) (by omega) (Nat.le_trans hb5.size (by simp)) _ rfl ?_); intro g6 c6 w6 hown6 hg6 hat6 hlt6; have hb6 : Below w2.heap.size w2 w6 := Below.grown (hb5.trans ((show Below w5.heap.size w5 _ from (by repeat (first | exact Below.refl _ _ | refine Below.drew ?_ | refine Below.alloc ?_ ?_ _ | exact Nat.le_refl _ | exact (by simp) | exact (by simp; omega)))).mono hb5.size)) hg6 (Nat.le_trans hb5.size (by simp)) (fun q hq => own_from hown5 q hq))
      | ((refine step_append_lies _ (by rfl) _ _ _ (by rfl) w2.heap.size 5 j0 _ 1 1 Tryz.underlying56 hj0 hy0 hy1 hy2 rfl (by decide) v5 bs.length (u8s bs) (by rfl) (by first | exact hown5 | exact hown5.drew | exact World.ownsRow.alloc hown5 _ | exact (World.ownsRow.alloc hown5 _).drew | exact World.ownsRow.alloc hown5.drew _) ⟨w2.heap.size, 0, none⟩ 2 2 [.int .u8 7, .int .u8 8] (by rfl) (by rfl) (fun j u hu => World.grownBy.cell hg5 (World.news_of_block (cs := #[.int .u8 7, .int .u8 8]) (t := 5) (fr := (0, 0)) (by have h := heap_alloc_old (w2.alloc (.cells #[.int .u8 7, .int .u8 8] 5)) (.cells (madeCells #[.int .u8 0] (bs.length + 2)) 5) (r := w2.heap.size) (by simp); exact h.trans (heap_alloc_new w2 _)) j u hu) (by unfold Addr.add; split <;> simp [Value.ownBlock])) (by intro u hu; simp only [List.mem_cons, List.not_mem_nil, or_false] at hu; rcases hu with rfl | rfl <;> rfl) (by decide) (by unfold maxLen; omega) (by omega) (Nat.le_trans hb5.size (by simp)) _ rfl ?_); intro g6 c6 w6 hown6 hg6 hat6 hlt6; have hb6 : Below w2.heap.size w2 w6 := Below.grown (hb5.trans ((show Below w5.heap.size w5 _ from (by repeat (first | exact Below.refl _ _ | refine Below.drew ?_ | refine Below.alloc ?_ ?_ _ | exact Nat.le_refl _ | exact (by simp) | exact (by simp; omega)))).mono hb5.size)) hg6 (Nat.le_trans hb5.size (by simp)) (fun q hq => own_from hown5 q hq)))

    all_goals
      go_wp2_with fail
      go_meet
      case rel => exact ⟨_, _, rfl, by simpa [u8s] using hown6, hb6⟩
  obtain ⟨A5, c5, rfl, ho5, hb5⟩ := hcut
  obtain ⟨w3, hwa⟩ : ∃ W : World, W = wc := ⟨_, rfl⟩
  subst hwa
  have hK3 := hK2.step hb5
  clear c2 hlt1 z0 z1 mkown5
  obtain ⟨g5, rfl, hg5b, hg5l, hc5⟩ := own_form2 ho5 (by omega)
  have ho3' := own_below ho3 hb5
  clear ho3 hb3 hb5
  have c2 : w3.cell? ⟨w.heap.size, 2, none⟩ = some (.slice B bs.length cb) := (hK3.at_ 0 rfl).cell 2
  clear z3 z4 z5
  have z3 : (0 : Int) ≤ (bs.length : Int) := by omega
  have z4 : (bs.length : Int) ≤ (c5 : Int) := by omega
  have z5 : ((bs.length : Int)).toNat = bs.length := by omega
  have HS1 : Hid (∀ W, Kept w3 [] W → W.cell? ⟨w.heap.size, 1, none⟩ = some (.slice A ws.length ca)) := Lib.hid (fun W k => ((hK3.step k.1).at_ 0 rfl).cell 1)
  have G2 := Lib.hid (fun W (k : Kept w3 [] W) => k.call (HRl.out A ca W (HWn.out W (hK3.step k.1).1)))
  have G4 := Lib.hid (fun W (k : Kept w3 [] W) => (HRb.out A ca W (HWn.out W (hK3.step k.1).1)).mono (R' := fun e w' => ∃ A' c, e = .returned (.slice A' zs.length c) ∧ NumsAt w' .u8 A' zs.length zs ∧ Kept w3 [] w' ∧ Below W.heap.size W w') fun e w' ⟨A', c, h1, h2, h3⟩ => ⟨A', c, h1, NumsAt.own h2, k.step h3, h3⟩)
  have k3 := Kept.start w3
  have c1 := HS1.out w3 k3
  go_upto_region 7 with fail
  go_cut [7, 8] from 58 to 64 (fun s7 s8 wx => s7 = .string S ∧ s8 = .string ⟨(textB zs).toArray⟩ ∧ Kept w3 [] wx)
  case first =>
    go_region_law (first
      | (go_simp; go_at_call 35; refine (G2.out _ (by first | assumption | exact Kept.drew (by assumption))).mono ?_; rintro e wb ⟨rfl, kb⟩; have cb1 := HS1.out wb kb)
      | (go_simp; go_at_call 37; refine (G4.out _ (by first | assumption | exact Kept.drew (by assumption))).mono ?_; rintro e wd ⟨A8, c8, rfl, hN8, kd, hbd⟩; have cd1 := HS1.out wd kd; have cv8 := conv_bytes A8 c8 zs HUb.out wd hN8; have cv8d := conv_bytes A8 c8 zs HUb.out wd.drew (hN8.below ((Below.refl _ _).drew))))

    all_goals
      go_wp2_with fail
      go_meet
      case rel => exact ⟨rfl, rfl, by first | exact kd | exact kd.drew⟩
  obtain ⟨rfl, rfl, kd⟩ := hcut
  obtain ⟨wd, hwd⟩ : ∃ W : World, W = wc := ⟨_, rfl⟩
  subst hwd
  have hK4 := hK3.step kd.1
  have ho3 := own_below ho3' kd.1
  have ho5' := own_below ho5 kd.1
  clear ho3' ho5 c1 c2 z3 z4 z5 HS1 G2 G4 k3 hK3 kd HRl HRb
  have c2 : wd.cell? ⟨w.heap.size, 2, none⟩ = some (.slice B bs.length cb) := (hK4.at_ 0 rfl).cell 2
  go_wp2_with fail
  refine (HRw.out B cb wd (HBn.out wd hK4.1)).mono ?_
  rintro e w5 ⟨hb5, A9, c9, rfl, ho9⟩
  have hK5 := hK4.step hb5
  have hN9 := NumsAt.own ho9
  have ho3' := own_below ho3 hb5
  have ho5 := own_below ho5' hb5
  have c0 : w5.cell? ⟨w.heap.size, 0, none⟩ = some (.string tx) := (hK5.at_ 0 rfl).cell 0
  clear ho3 ho5' c2 hK4 hb5 ho9 HRw
  go_wp2_with fail
  refine (HRa.out w5).mono ?_
  rintro e w6 ⟨hb6, A11, c11, rfl, ho11⟩
  have hK6 := hK5.step hb6
  have hN9' := hN9.below hb6
  have hN11 := NumsAt.own ho11
  have ho3 := own_below ho3' hb6
  have ho5' := own_below ho5 hb6
  clear ho3' ho5 c0 hK5 hb6 ho11 HRa hN9
  have hK7 := hK6.new 62 #[.int .i64 cc, .int .i64 pc]
  have hba := (Below.refl w6.heap.size w6).alloc (Nat.le_refl _) (.cells #[.int .i64 cc, .int .i64 pc] 62)
  have hV9 := hN9'.below hba
  have hV11 := hN11.below hba
  have hR3 := own_lower (own_below ho3 hba) (base' := w.heap.size) hK1.1.size
  have hR5 := own_lower (own_below ho5' hba) (base' := w.heap.size) hK2.1.size
  clear hba hK6 hN9' hN11 ho3 ho5'
  go_wp2_with fail
  generalize w6.alloc (.cells #[.int .i64 cc, .int .i64 pc] 62) = wB at hK7 hV9 hV11 hR3 hR5 ⊢
  generalize w6.heap.size = bE at hK7 ⊢
  have hl3 : (ws ++ [7, 8]).length = ws.length + 2 := by simp
  have hl5 : (bs ++ [7, 8]).length = bs.length + 2 := by simp
  have HKB := Lib.hid (fun W (k : Kept wB [] W) => hK7.step k.1)
  have HV9 := Lib.hid (fun W (k : Kept wB [] W) => hV9.below k.1)
  have HV11 := Lib.hid (fun W (k : Kept wB [] W) => hV11.below k.1)
  have HR3 := Lib.hid hR3
  have HR5 := Lib.hid hR5
  rw [← hl3] at hR3
  rw [← hl5] at hR5
  have HNw := Lib.hid (fun W (k : Kept wB [] W) => NumsAt.take (NumsAt.own (own_below hR3 k.1)))
  have HNb := Lib.hid (fun W (k : Kept wB [] W) => NumsAt.take (NumsAt.own (own_below hR5 k.1)))
  clear hK7 hV9 hV11 hR3 hR5 hl3 hl5
  have hB0 : Sep wB wB.heap.size (fun _ => none : Sig) := ⟨(fun k r e => by cases e), (fun _ _ _ _ _ e _ => by cases e)⟩
  have hB2 := (hB0.nil (0, 0) 31).nil (0, 1) 56
  have p0 : upd (upd (fun _ => none : Sig) (0, 0) (some ⟨31, .slice none 0 0, []⟩)) (0, 1) (some ⟨56, .slice none 0 0, []⟩) (0, 0) = some ⟨31, .slice none (2 * 0) 0, []⟩ := by rw [upd_ne (by simp), upd_same]
  have p1 := upd_same (σ := upd (fun _ => none : Sig) (0, 0) (some ⟨31, .slice none 0 0, []⟩)) (0, 1) (some ⟨56, .slice none 0 0, []⟩)
  generalize upd (upd (fun _ => none : Sig) (0, 0) (some ⟨31, .slice none 0 0, []⟩)) (0, 1) (some ⟨56, .slice none 0 0, []⟩) = σ0 at hB2 p0 p1
  obtain ⟨i1, hi1, hw0, hw1, hw2⟩ := info_parts wordsinfo
  obtain ⟨j1, hj1, hv0, hv1, hv2⟩ := info_parts bytesinfo
  have kB := Kept.start wB
  clear hB0
  go_loopw [13, 14, 15] (fun s13 s14 s15 wr => ∃ (k : Nat) (vv bb : List Value) (A13 : Option Addr) (c13 : Nat) (A14 : Option Addr) (c14 : Nat) (σ : Sig), k ≤ 2 ∧ s13 = .slice A13 (2 * k) c13 ∧ s14 = .slice A14 k c14 ∧ s15 = .int .i64 k ∧ Hid (vv.length = 2 * k) ∧ Hid (bb.length = k) ∧ Sep wr wB.heap.size σ ∧
      σ (0, 0) = some ⟨31, .slice A13 (2 * k) c13, vv⟩ ∧ σ (0, 1) = some ⟨56, .slice A14 k c14, bb⟩ ∧ Hid (ListsAt σ vv) ∧ Hid (BytesAt σ bb) ∧ Kept wB [] wr) (fun _ _ s15 _ => 2 - (intOf s15).toNat)
  case atStart => exact ⟨0, [], [], none, 0, none, 0, σ0, by omega, rfl, rfl, rfl, Lib.hid rfl, Lib.hid rfl, hB2, p0, p1, Lib.hid (fun j v h => by simp at h), Lib.hid (fun j v h => by simp at h), kB⟩
  case round =>
    clear hB2 p0 p1 kB
    obtain ⟨k, vv, bb, A13, c13, A14, c14, σ, hk, rfl, rfl, rfl, HLv, HLb, hSr, q0, q1, HL, HB, kr⟩ := hrel
    by_cases hk2 : k < 2
    · go_wp2_with fail
      refine (HLi.out (some ⟨g3, 0, none⟩) c3 wr (HKB.out wr kr).1 (HNw.out wr kr)).mono ?_
      rintro e wa ⟨rfl, hba⟩
      have hSa := hSr.below hba
      have ka := kr.step hba
      clear hSr
      go_wp2_with fail
      refine (HBy.out (some ⟨g3, 0, none⟩) c3 wa (HNw.out wa ka)).mono ?_
      rintro e wb ⟨Ac, cC, rfl, hoc, hbb⟩
      have hSb := hSa.new hbb (2, k) hoc (by rw [u8s_len]) ka.1.size
      have kb := ka.step hbb
      clear hSa hoc hbb hba
      go_wp2_with fail
      refine (HWo.out (some ⟨g5, 0, none⟩) c5 wb (HKB.out wb kb).1 (HNb.out wb kb)).mono ?_
      rintro e wv ⟨hbv, Av, cV, rfl, hov⟩
      have hSv := hSb.new hbv (1, 2 * k) hov (by rw [w32_len]) kb.1.size
      have kv := kb.step hbv
      have c0 : wv.cell? ⟨w.heap.size, 0, none⟩ = some (.string tx) := ((HKB.out wv kv).at_ 1 rfl).cell 0
      clear hSb hov hbv
      go_wp2_with fail
      refine (HAs.out wv (HKB.out wv kv).1).mono ?_
      rintro e wu ⟨hbu, Au, cU, X, rfl, hou, hX⟩
      have hSu := hSv.new hbu (1, 2 * k + 1) hou (by rw [w32_len]) kv.1.size
      have ku := kv.step hbu
      clear hSv hou hbu c0
      have r0 : upd (upd (upd σ (2, k) (some ⟨5, .slice Ac zs.length cC, u8s zs⟩)) (1, 2 * k) (some ⟨28, .slice Av vs.length cV, w32 vs⟩)) (1, 2 * k + 1) (some ⟨28, .slice Au us.length cU, w32 us⟩) (0, 0) = some ⟨31, .slice A13 (2 * k) c13, vv⟩ := by rw [upd_ne (by simp), upd_ne (by simp), upd_ne (by simp)]; exact q0
      have r1 : upd (upd (upd σ (2, k) (some ⟨5, .slice Ac zs.length cC, u8s zs⟩)) (1, 2 * k) (some ⟨28, .slice Av vs.length cV, w32 vs⟩)) (1, 2 * k + 1) (some ⟨28, .slice Au us.length cU, w32 us⟩) (0, 1) = some ⟨56, .slice A14 k c14, bb⟩ := by rw [upd_ne (by simp), upd_ne (by simp), upd_ne (by simp)]; exact q1
      have rV : upd (upd (upd σ (2, k) (some ⟨5, .slice Ac zs.length cC, u8s zs⟩)) (1, 2 * k) (some ⟨28, .slice Av vs.length cV, w32 vs⟩)) (1, 2 * k + 1) (some ⟨28, .slice Au us.length cU, w32 us⟩) (1, 2 * k) = some ⟨28, .slice Av vs.length cV, w32 vs⟩ := by rw [upd_ne (by simp), upd_same]
      have rU : upd (upd (upd σ (2, k) (some ⟨5, .slice Ac zs.length cC, u8s zs⟩)) (1, 2 * k) (some ⟨28, .slice Av vs.length cV, w32 vs⟩)) (1, 2 * k + 1) (some ⟨28, .slice Au us.length cU, w32 us⟩) (1, 2 * k + 1) = some ⟨28, .slice Au us.length cU, w32 us⟩ := by rw [upd_same]
      have rC : upd (upd (upd σ (2, k) (some ⟨5, .slice Ac zs.length cC, u8s zs⟩)) (1, 2 * k) (some ⟨28, .slice Av vs.length cV, w32 vs⟩)) (1, 2 * k + 1) (some ⟨28, .slice Au us.length cU, w32 us⟩) (2, k) = some ⟨5, .slice Ac zs.length cC, u8s zs⟩ := by rw [upd_ne (by simp), upd_ne (by simp), upd_same]
      have RL : Hid (ListsAt (upd (upd (upd σ (2, k) (some ⟨5, .slice Ac zs.length cC, u8s zs⟩)) (1, 2 * k) (some ⟨28, .slice Av vs.length cV, w32 vs⟩)) (1, 2 * k + 1) (some ⟨28, .slice Au us.length cU, w32 us⟩)) vv) := Lib.hid (fun j v hv => by
        have hj := (List.getElem?_eq_some_iff.1 hv).1
        rw [HLv.out] at hj
        rw [upd_ne (by simp; omega), upd_ne (by simp; omega), upd_ne (by simp)]
        exact HL.out j v hv)
      have RB : Hid (BytesAt (upd (upd (upd σ (2, k) (some ⟨5, .slice Ac zs.length cC, u8s zs⟩)) (1, 2 * k) (some ⟨28, .slice Av vs.length cV, w32 vs⟩)) (1, 2 * k + 1) (some ⟨28, .slice Au us.length cU, w32 us⟩)) bb) := Lib.hid (fun j v hv => by
        have hj := (List.getElem?_eq_some_iff.1 hv).1
        rw [HLb.out] at hj
        rw [upd_ne (by simp), upd_ne (by simp), upd_ne (by simp; omega)]
        exact HB.out j v hv)
      generalize upd (upd (upd σ (2, k) (some ⟨5, .slice Ac zs.length cC, u8s zs⟩)) (1, 2 * k) (some ⟨28, .slice Av vs.length cV, w32 vs⟩)) (1, 2 * k + 1) (some ⟨28, .slice Au us.length cU, w32 us⟩) = σ1 at hSu r0 r1 rV rU rC RL RB
      clear q0 q1 HL HB σ
      have nV : NumsAt wu .u32 Av vs.length vs := hSu.nums rV
      have nU : NumsAt wu .u32 Au us.length us := hSu.nums rU
      have nC : NumsAt wu .u8 Ac zs.length zs := hSu.nums rC
      have HSx : Hid (∀ W, Kept wu [] W → W.cell? ⟨bE, 0, none⟩ = some (.int .i64 cc)) := Lib.hid (fun W k => (((HKB.out wu ku).step k.1).at_ 0 rfl).cell 0)
      have E1 := Lib.hid (fun W (k : Kept wu [] W) => k.call (HSw.out vs (by omega) Av cV A9 c9 W (nV.below k.1) (HV9.out W (ku.step k.1))))
      have E2 := Lib.hid (fun W (k : Kept wu [] W) => k.call (HSa.out W ((HKB.out wu ku).step k.1).1))
      have E3 := Lib.hid (fun W (k : Kept wu [] W) => k.call (HSw.out us (by omega) Au cU A11 c11 W (nU.below k.1) (HV11.out W (ku.step k.1))))
      have E4 := Lib.hid (fun W (k : Kept wu [] W) => (hX W k.1).1.mono (R' := fun e w' => e = .returned (.int .i64 cc) ∧ Kept wu [] w') fun e w' ⟨h1, h2⟩ => ⟨h1, h2 ▸ k⟩)
      have cvu := conv_bytes Ac cC zs HUb.out wu nC
      have cvud := conv_bytes Ac cC zs HUb.out wu.drew (nC.below ((Below.refl _ _).drew))
      have k0 := Kept.start wu
      have a0 := HSx.out wu k0
      clear nV nU nC hX
      go_wp2_with fail
      go_region_law (first
        | (go_simp; go_at_call 31; refine (E1.out _ (by first | assumption | exact Kept.drew (by assumption))).mono ?_; rintro e wK ⟨rfl, hKK⟩; have aK := HSx.out wK hKK)
        | (go_simp; go_at_call 31; refine (E3.out _ (by first | assumption | exact Kept.drew (by assumption))).mono ?_; rintro e wK ⟨rfl, hKK⟩; have aK := HSx.out wK hKK)
        | (go_simp; go_at_call 24; refine (E2.out _ (by first | assumption | exact Kept.drew (by assumption))).mono ?_; rintro e wK ⟨rfl, hKK⟩; have aK := HSx.out wK hKK)
        | (go_simp; go_at_call 32; refine (E4.out _ (by first | assumption | exact Kept.drew (by assumption))).mono ?_; rintro e wK ⟨rfl, hKK⟩; have aK := HSx.out wK hKK))

      all_goals
        have hSk := hSu.below hKK.1
        have kk := ku.step hKK.1
        clear hSu ku k0 a0 HSx E1 E2 E3 E4 cvu cvud hKK
        have hS6 := hSk.below ((Below.refl wK.heap.size wK).alloc (Nat.le_refl _) (.cells #[.slice Av vs.length cV, .slice Au us.length cU] 31))
        have hown := hS6.own _ _ r0
        have hLv := HLv.out
        have hLb := HLb.out
        unfold Row.Own at hown
        simp only [hLv] at hown
        go_wp2_with (at_builtin; refine wpList_append_own_at _ rfl (.tmp 127) (.tmp 130) _ rfl wB.heap.size 31 i1 _ 1 24 Tryz.underlying73 hi1 hw0 hw1 hw2 rfl (by decide) (.slice A13 (2 * k) c13) (2 * k) vv rfl hown ⟨wK.heap.size, 0, none⟩ 2 2 [.slice Av vs.length cV, .slice Au us.length cU] rfl rfl (fun j u hu => by have h := new_cells wK #[.slice Av vs.length cV, .slice Au us.length cU] 31 j u hu; simpa using h) (by intro u hu; simp only [List.mem_cons, List.not_mem_nil, or_false] at hu; rcases hu with rfl | rfl <;> rfl) (by unfold maxLen; omega) (by omega) (Nat.le_trans kk.1.size (by simp)) ?_)
        intro v9 w9 hown9 hg9 _ hat
        have hb9 : Below wB.heap.size wB w9 := (kk.1.alloc kk.1.size _).grown hg9 (Nat.le_trans kk.1.size (by simp)) (fun q hq => own_from hown q hq)
        obtain ⟨A7, c7, rfl, hS9⟩ := hS6.pushL r0 (m := 2) rfl hown9 hg9 (hat.imp id (fun h => by rw [h]; simp))
        have hS7 := hS9.below ((Below.refl w9.heap.size w9).alloc (Nat.le_refl _) (.cells #[.slice Ac zs.length cC] 56))
        have t1 : upd σ1 (0, 0) (some ⟨31, .slice A7 (2 * k + 2) c7, vv ++ [Value.slice Av vs.length cV, .slice Au us.length cU]⟩) (0, 1) = some ⟨56, .slice A14 k c14, bb⟩ := by rw [upd_ne (by simp)]; exact r1
        have hown2 := hS7.own _ _ t1
        unfold Row.Own at hown2
        simp only [hLb] at hown2
        clear hown hown9 hg9 hat hS6 hSk
        go_wp2_with (at_builtin; refine wpList_append_own_at _ rfl (.tmp 132) (.tmp 134) _ rfl wB.heap.size 56 j1 _ 1 24 Tryz.underlying74 hj1 hv0 hv1 hv2 rfl (by decide) (.slice A14 k c14) k bb rfl hown2 ⟨w9.heap.size, 0, none⟩ 1 1 [.slice Ac zs.length cC] rfl rfl (fun j u hu => by have h := new_cells w9 #[.slice Ac zs.length cC] 56 j u hu; simpa using h) (by intro u hu; simp only [List.mem_cons, List.not_mem_nil, or_false] at hu; subst hu; rfl) (by unfold maxLen; omega) (by omega) (Nat.le_trans hb9.size (by simp)) ?_)
        intro v10 w10 hown10 hg10 _ hat
        have hb10 : Below wB.heap.size wB w10 := (hb9.alloc hb9.size _).grown hg10 (Nat.le_trans hb9.size (by simp)) (fun q hq => own_from hown2 q hq)
        obtain ⟨A8, c8, rfl, hS10⟩ := hS7.push t1 hown10 hg10 (hat.imp id (fun h => by rw [h]; simp))
        have h2k : 2 * (k + 1) = 2 * k + 2 := by omega
        have u0 : upd (upd σ1 (0, 0) (some ⟨31, .slice A7 (2 * k + 2) c7, vv ++ [Value.slice Av vs.length cV, .slice Au us.length cU]⟩)) (0, 1) (some ⟨56, .slice A8 (k + 1) c8, bb ++ [Value.slice Ac zs.length cC]⟩) (0, 0) = some ⟨31, .slice A7 (2 * (k + 1)) c7, vv ++ [Value.slice Av vs.length cV, .slice Au us.length cU]⟩ := by rw [upd_ne (by simp), upd_same, h2k]
        have u1 : upd (upd σ1 (0, 0) (some ⟨31, .slice A7 (2 * k + 2) c7, vv ++ [Value.slice Av vs.length cV, .slice Au us.length cU]⟩)) (0, 1) (some ⟨56, .slice A8 (k + 1) c8, bb ++ [Value.slice Ac zs.length cC]⟩) (0, 1) = some ⟨56, .slice A8 (k + 1) c8, bb ++ [Value.slice Ac zs.length cC]⟩ := upd_same _ _
        have UL : Hid (ListsAt (upd (upd σ1 (0, 0) (some ⟨31, .slice A7 (2 * k + 2) c7, vv ++ [Value.slice Av vs.length cV, .slice Au us.length cU]⟩)) (0, 1) (some ⟨56, .slice A8 (k + 1) c8, bb ++ [Value.slice Ac zs.length cC]⟩)) (vv ++ [Value.slice Av vs.length cV, .slice Au us.length cU])) := Lib.hid (fun j v hv => by
          rw [upd_ne (by simp), upd_ne (by simp)]
          rcases Nat.lt_or_ge j vv.length with h | h
          · rw [List.getElem?_append_left h] at hv
            exact RL.out j v hv
          · rw [List.getElem?_append_right h] at hv
            obtain ⟨d, hd⟩ : ∃ d, d = j - vv.length := ⟨_, rfl⟩
            rw [← hd] at hv
            match d, hv, hd with
            | 0, hv, hd =>
              simp only [List.getElem?_cons_zero, Option.some.injEq] at hv
              subst hv
              have : j = 2 * k := by omega
              subst this
              exact ⟨Av, cV, vs, rfl, by omega, rV⟩
            | 1, hv, hd =>
              simp only [List.getElem?_cons_succ, List.getElem?_cons_zero, Option.some.injEq] at hv
              subst hv
              have : j = 2 * k + 1 := by omega
              subst this
              exact ⟨Au, cU, us, rfl, by omega, rU⟩
            | d + 2, hv, hd => simp at hv)
        have UB : Hid (BytesAt (upd (upd σ1 (0, 0) (some ⟨31, .slice A7 (2 * k + 2) c7, vv ++ [Value.slice Av vs.length cV, .slice Au us.length cU]⟩)) (0, 1) (some ⟨56, .slice A8 (k + 1) c8, bb ++ [Value.slice Ac zs.length cC]⟩)) (bb ++ [Value.slice Ac zs.length cC])) := Lib.hid (fun j v hv => by
          rw [upd_ne (by simp), upd_ne (by simp)]
          rcases Nat.lt_or_ge j bb.length with h | h
          · rw [List.getElem?_append_left h] at hv
            exact RB.out j v hv
          · rw [List.getElem?_append_right h] at hv
            obtain ⟨d, hd⟩ : ∃ d, d = j - bb.length := ⟨_, rfl⟩
            rw [← hd] at hv
            match d, hv, hd with
            | 0, hv, hd =>
              simp only [List.getElem?_cons_zero, Option.some.injEq] at hv
              subst hv
              have : j = k := by omega
              subst this
              exact ⟨Ac, cC, zs, rfl, by have := HUl.out; omega, HUb.out, rC⟩
            | d + 1, hv, hd => simp at hv)
        have UV : Hid ((vv ++ [Value.slice Av vs.length cV, .slice Au us.length cU]).length = 2 * (k + 1)) := Lib.hid (by simp [hLv]; omega)
        have UW : Hid ((bb ++ [Value.slice Ac zs.length cC]).length = k + 1) := Lib.hid (by simp [hLb])
        generalize upd (upd σ1 (0, 0) (some ⟨31, .slice A7 (2 * k + 2) c7, vv ++ [Value.slice Av vs.length cV, .slice Au us.length cU]⟩)) (0, 1) (some ⟨56, .slice A8 (k + 1) c8, bb ++ [Value.slice Ac zs.length cC]⟩) = σ2 at hS10 u0 u1 UL UB
        generalize vv ++ [Value.slice Av vs.length cV, .slice Au us.length cU] = vv2 at u0 UL UV
        generalize bb ++ [Value.slice Ac zs.length cC] = bb2 at u1 UB UW
        clear hown2 hown10 hg10 hat hS7 hS9 t1 r0 r1 rV rU rC RL RB hLv hLb kk hb9 kr ka kb kv
        have kz := (Kept.start wB).step hb10
        go_wp2_with fail
        go_roundw
        case rel => exact ⟨k + 1, vv2, bb2, A7, c7, A8, c8, σ2, by omega, by rw [h2k], rfl, by go_num, UV, UW, hS10, u0, u1, UL, UB, kz⟩
        case measure => simp [intOf]; omega
    · obtain rfl : k = 2 := by omega
      have hvl : vv.length = 4 := HLv.out
      have hbl : bb.length = 2 := HLb.out
      have hAp := apart_any wB.heap.size σ A13 A14 c13 c14 vv bb (by omega) (by omega) wr hSr (by rw [hvl]; exact q0) (by rw [hbl]; exact q1) HL.out HB.out kr.1.size
      rw [hvl, hbl] at hAp
      have HAp := Lib.hid hAp
      clear hAp hSr q0 q1 HL HB hvl hbl HLv HLb HAs HBy HUb HUl
      go_wp2_with fail
      refine HAp.out.mono ?_
      rintro e wA ⟨rfl, hbA⟩
      have kA := (Kept.start wB).step (kr.1.trans hbA)
      have c1 : wA.cell? ⟨w.heap.size, 1, none⟩ = some (.slice A ws.length ca) := ((HKB.out wA kA).at_ 1 rfl).cell 1
      clear HAp hbA kr
      go_wp2_with fail
      refine (HSw.out ws (by omega) (some ⟨g3, 0, none⟩) c3 A ca wA (HNw.out wA kA) (HWn.out wA (HKB.out wA kA).1)).mono ?_
      rintro e wT ⟨rfl, hbT⟩
      have kT := kA.step hbT
      have c2 : wT.cell? ⟨w.heap.size, 2, none⟩ = some (.slice B bs.length cb) := ((HKB.out wT kT).at_ 1 rfl).cell 2
      have hR3 := own_below HR3.out kT.1
      have hR5 := own_below HR5.out kT.1
      have m0 := (own_cell_at hR3 ws.length (.int .u32 7) (by simp [w32])).1
      have m1 := (own_cell_at hR3 (ws.length + 1) (.int .u32 8) (by simp [w32])).1
      have m2 := (own_cell_at hR5 bs.length (.int .u8 7) (by simp [u8s])).1
      have m3 := (own_cell_at hR5 (bs.length + 1) (.int .u8 8) (by simp [u8s])).1
      have cva := conv_bytes (some ⟨g5, 0, none⟩) c5 bs HBr.out wT (HNb.out wT kT)
      have cvb := conv_bytes B cb bs HBr.out wT (HBn.out wT (HKB.out wT kT).1)
      have hbw : Below w.heap.size w wT := (HKB.out wT kT).1
      clear c1 hbT kA HSw HWn HBn HNw HNb HR3 HR5
      have hro3 := hR3
      have hro5 := hR5
      have hgw3 := own_from hR3 g3 rfl
      have hgw5 := own_from hR5 g5 rfl
      have HW0 : Hid (Word32 ([] : List Int)) := Lib.hid (fun x hx => by cases hx)
      go_wp2_with fail
      clear m0 m1 m2 m3 cva cvb c2 hR3 hR5 HKB kT
      go_loopw [21] (fun s21 wr => ∃ (i : Nat) (ms : List Int), i ≤ ws.length ∧ s21 = .int .i64 i ∧ Hid (ms.length = i) ∧ Hid (Word32 ms) ∧ wr.ownsRow w.heap.size 28 1 (.slice (some ⟨g3, 0, none⟩) (ws.length + 2) c3) (ws.length + 2) (w32 (ms ++ (ws ++ [7, 8]).drop i)) ∧
          wr.ownsRow w.heap.size 5 1 (.slice (some ⟨g5, 0, none⟩) (bs.length + 2) c5) (bs.length + 2) (u8s (bs ++ [7, 8])) ∧ Below w.heap.size w wr) (fun s21 _ => ws.length - (intOf s21).toNat)
      case atStart => exact ⟨0, [], Nat.zero_le _, rfl, Lib.hid rfl, HW0, hro3, hro5, hbw⟩
      case round =>
        clear hro3 hro5 hbw HW0
        obtain ⟨i, ms, hi, rfl, HMl, HMw, hro3, hro5, hbw⟩ := hrel
        by_cases hin : i < ws.length
        · have hx0 := own_cell_at hro3 i (.int .u32 ws[i]) (by
            have := HMl.out
            rw [w32, List.getElem?_map, List.getElem?_append_right (by omega), this, Nat.sub_self, List.getElem?_drop, Nat.add_zero, List.getElem?_append_left hin, List.getElem?_eq_getElem hin]
            rfl)
          obtain ⟨hx0, hx1, _⟩ := hx0
          have HX := Lib.hid (w32_set ms (ws ++ [7, 8]) i HMl.out (by simp; omega) (bits .xor .u32 ws[i] 65537))
          have hwi := HWr.out ws[i] (List.getElem_mem hin)
          have hxr := xor_range ws[i] 65537 hwi.1 hwi.2 (by omega) (by omega)
          have hs3 := own_set hro3 i (by omega) (.int .u32 (bits .xor .u32 ws[i] 65537))
          rw [HX.out] at hs3
          have hs5 := own_far hro5 (own_ne hro5 hro3 (by decide)) i (.int .u32 (bits .xor .u32 ws[i] 65537))
          have hbS : Below w.heap.size w (wr.setCell ⟨g3, i, none⟩ (.int .u32 (bits .xor .u32 ws[i] 65537))) := hbw.setCell (p := ⟨g3, i, none⟩) hgw3 _
          have hml2 : Hid ((ms ++ [bits .xor .u32 ws[i] 65537]).length = i + 1) := Lib.hid (by have := HMl.out; simp; omega)
          have hmw2 : Hid (Word32 (ms ++ [bits .xor .u32 ws[i] 65537])) := Lib.hid (fun x hx => by
            rcases List.mem_append.1 hx with hx | hx
            · exact HMw.out x hx
            · simp only [List.mem_cons, List.not_mem_nil, or_false] at hx
              rw [hx]
              exact hxr)
          clear hwi hxr hro3 hro5 hbw HX
          go_wp2_with fail
          generalize bits .xor .u32 ws[i] 65537 = X at hs3 hs5 hbS hml2 hmw2 ⊢
          generalize ms ++ [X] = ms2 at hs3 hml2 hmw2
          clear hx0 hx1 HMl HMw
          go_roundw
          case rel => exact ⟨i + 1, ms2, by omega, by go_num, hml2, hmw2, hs3, hs5, hbS⟩
          case measure => simp [intOf]; omega
        · have hiw : i = ws.length := by omega
          subst hiw
          have hd : (ws ++ [7, 8]).drop ws.length = [7, 8] := by simp
          rw [hd] at hro3
          clear hd hin
          have HY0 : Hid (Byte8 ([] : List Int)) := Lib.hid (fun x hx => by cases hx)
          obtain ⟨wo, hwo⟩ : ∃ wo : World, wo = wr := ⟨_, rfl⟩
          subst hwo
          go_wp2_with fail
          go_loopw [22] (fun s22 wr => ∃ (i : Nat) (ys : List Int), i ≤ bs.length ∧ s22 = .int .i64 i ∧ Hid (ys.length = i) ∧ Hid (Byte8 ys) ∧ wr.ownsRow w.heap.size 28 1 (.slice (some ⟨g3, 0, none⟩) (ws.length + 2) c3) (ws.length + 2) (w32 (ms ++ [7, 8])) ∧
              wr.ownsRow w.heap.size 5 1 (.slice (some ⟨g5, 0, none⟩) (bs.length + 2) c5) (bs.length + 2) (u8s (ys ++ (bs ++ [7, 8]).drop i)) ∧ Below w.heap.size w wr) (fun s22 _ => bs.length - (intOf s22).toNat)
          case atStart => exact ⟨0, [], Nat.zero_le _, rfl, Lib.hid rfl, HY0, hro3, hro5, hbw⟩
          case round =>
            clear hro3 hro5 hbw HY0
            obtain ⟨i, ys, hi, rfl, HYl, HYb, hro3, hro5, hbw⟩ := hrel
            by_cases hin : i < bs.length
            · have hx0 := own_cell_at hro5 i (.int .u8 bs[i]) (by
                have := HYl.out
                rw [u8s, List.getElem?_map, List.getElem?_append_right (by omega), this, Nat.sub_self, List.getElem?_drop, Nat.add_zero, List.getElem?_append_left hin, List.getElem?_eq_getElem hin]
                rfl)
              obtain ⟨hx0, hx1, _⟩ := hx0
              have HX := Lib.hid (u8s_set ys (bs ++ [7, 8]) i HYl.out (by simp; omega) ((bs[i] + 1) % 256))
              have hs5 := own_set hro5 i (by omega) (.int .u8 ((bs[i] + 1) % 256))
              rw [HX.out] at hs5
              have hs3 := own_far hro3 (own_ne hro3 hro5 (by decide)) i (.int .u8 ((bs[i] + 1) % 256))
              have hbS : Below w.heap.size w (wr.setCell ⟨g5, i, none⟩ (.int .u8 ((bs[i] + 1) % 256))) := hbw.setCell (p := ⟨g5, i, none⟩) hgw5 _
              have hml2 : Hid ((ys ++ [(bs[i] + 1) % 256]).length = i + 1) := Lib.hid (by have := HYl.out; simp; omega)
              have hmw2 : Hid (Byte8 (ys ++ [(bs[i] + 1) % 256])) := Lib.hid (fun x hx => by
                rcases List.mem_append.1 hx with hx | hx
                · exact HYb.out x hx
                · simp only [List.mem_cons, List.not_mem_nil, or_false] at hx
                  omega)
              clear hro3 hro5 hbw HX
              go_wp2_with fail
              generalize (bs[i] + 1) % 256 = X at hs3 hs5 hbS hml2 hmw2 ⊢
              generalize ys ++ [X] = ys2 at hs5 hml2 hmw2
              clear hx0 hx1 HYl HYb
              go_roundw
              case rel => exact ⟨i + 1, ys2, by omega, by go_num, hml2, hmw2, hs3, hs5, hbS⟩
              case measure => simp [intOf]; omega
            · have hib : i = bs.length := by omega
              subst hib
              have hd : (bs ++ [7, 8]).drop bs.length = [7, 8] := by simp
              rw [hd] at hro5
              clear hd hin
              have hml := HMl.out
              have hyl := HYl.out
              have hmsl : ms.length ≤ 1048576 := by omega
              have hysl : ys.length ≤ 1048576 := by omega
              have hl3 : (ms ++ [7, 8]).length = ws.length + 2 := by simp [hml]
              have hl5 : (ys ++ [7, 8]).length = bs.length + 2 := by simp [hyl]
              rw [← hl3] at hro3
              rw [← hl5] at hro5
              have nW := (NumsAt.own hro3).take
              have nB := (NumsAt.own hro5).take
              rw [← hml, ← hyl]
              clear hml hyl hl3 hl5 hro3 hro5 hgw3 hgw5 HMl HYl
              have hw3 := nW.below ((Below.refl wr.heap.size wr).alloc (Nat.le_refl _) (.cells #[] 28))
              go_wp2_with (at_builtin; refine wpList_append_nums _ rfl (.tmp 213) (.tmp 214) _ rfl wr.heap.size 28 i0 _ 4 .u32 Tryz.underlying31 hi0 hz0 hz1 hz2 rfl (.slice (some ⟨wr.heap.size, 0, none⟩) 0 0) 0 [] rfl (own_empty wr _) (some ⟨g3, 0, none⟩) ms.length c3 ms rfl hw3 (by unfold maxLen; omega) (by omega) (by simp) ?_)
              intro v2 w2 hown2 hg2
              have hb2 := copy_below2 hg2
              obtain ⟨A2, c2', rfl, nA⟩ := own_nums rfl hown2
              have hbw2 : Below w.heap.size w w2 := hbw.trans (hb2.mono hbw.size)
              have nW2 := nW.below hb2
              have nB2 := nB.below hb2
              clear hown2 hg2 hb2 hw3 nW nB hbw
              have G1 := Lib.hid (fun W (k : Kept w2 [] W) => k.call (List_any er (some ⟨g3, 0, none⟩) c3 ms (by omega) HMw.out W (HE.out.env.below (hbw2.trans (k.1.mono hbw2.size))) (nW2.below k.1)))
              have G2 := Lib.hid (fun W (k : Kept w2 [] W) => k.call (RList_any A2 c2' ms (by omega) HMw.out W (nA.below k.1)))
              generalize (⟨(listT ms).toArray⟩ : ByteArray) = S2 at G1 G2
              have G3 := Lib.hid (fun W (k : Kept w2 [] W) => (Bytes_any (some ⟨g3, 0, none⟩) c3 ms (by omega) HMw.out W (nW2.below k.1)).mono (R' := fun e w' => ∃ A' c, e = .returned (.slice A' (unquad ms).length c) ∧ NumsAt w' .u8 A' (unquad ms).length (unquad ms) ∧ Kept w2 [] w' ∧ Below W.heap.size W w') fun e w' ⟨A', c, h1, h2, h3⟩ => ⟨A', c, h1, NumsAt.own h2, k.step h3, h3⟩)
              have G4 := Lib.hid (fun W (k : Kept w2 [] W) => (RBytes_any A2 c2' ms (by omega) HMw.out W (nA.below k.1)).mono (R' := fun e w' => ∃ A' c, e = .returned (.slice A' (unquad ms).length c) ∧ NumsAt w' .u8 A' (unquad ms).length (unquad ms) ∧ Kept w2 [] w' ∧ Below W.heap.size W w') fun e w' ⟨A', c, h1, h2, h3⟩ => ⟨A', c, h1, NumsAt.own h2, k.step h3, h3⟩)
              have HUb := Lib.hid (unquad_bytes ms HMw.out)
              generalize unquad ms = zs2 at G3 G4 HUb
              have hdl2 := wd_len2 ys
              have HZw := Lib.hid (fun A c W (hb : Below w.heap.size w W) (h : NumsAt W .u8 A ys.length ys) => words_ans er A c ys (by omega) HYb.out W h (HE.out.below hb))
              have HZr := Lib.hid (fun A c W (h : NumsAt W .u8 A ys.length ys) => rwords_ans A c ys (by omega) HYb.out W h)
              have HZs := Lib.hid (fun W (hb : Below w.heap.size w W) => (same_any er (wdC ys) (wdC_ok ys) (wdC ys) W (HE.out.below hb)))
              simp only [decide_true] at HZs
              generalize wdR ys = vs2 at HZw HZr hdl2
              generalize wdC ys = wcd2 at HZw HZr HZs
              generalize errV er wcd2 = ve2 at HZw HZs
              have k2 := Kept.start w2
              clear nA nW2
              go_wp2_with fail
              go_region_law (first
                | (go_simp; go_at_call 34; refine (G1.out _ (by first | assumption | exact Kept.drew (by assumption))).mono ?_; rintro e wa ⟨rfl, ka⟩)
                | (go_simp; go_at_call 35; refine (G2.out _ (by first | assumption | exact Kept.drew (by assumption))).mono ?_; rintro e wb ⟨rfl, kb⟩)
                | (go_simp; go_at_call 36; refine (G3.out _ (by first | assumption | exact Kept.drew (by assumption))).mono ?_; rintro e wc ⟨A7, c7, rfl, hN7, kc, _⟩; have cv7 := conv_bytes A7 c7 zs2 HUb.out wc hN7; have cv7d := conv_bytes A7 c7 zs2 HUb.out wc.drew (hN7.below ((Below.refl _ _).drew)))
                | (go_simp; go_at_call 37; refine (G4.out _ (by first | assumption | exact Kept.drew (by assumption))).mono ?_; rintro e wd ⟨A8, c8, rfl, hN8, kd, hbd⟩; have hN7' := hN7.below (by first | exact hbd | exact ((Below.refl _ _).drew).trans hbd); have cv8 := conv_bytes A8 c8 zs2 HUb.out wd hN8; have cv8d := conv_bytes A8 c8 zs2 HUb.out wd.drew (hN8.below ((Below.refl _ _).drew)); have cv9 := conv_bytes A7 c7 zs2 HUb.out wd hN7'; have cv9d := conv_bytes A7 c7 zs2 HUb.out wd.drew (hN7'.below ((Below.refl _ _).drew))))

              all_goals
                have hbd2 : Below w.heap.size w wd := hbw2.trans (kd.1.mono hbw2.size)
                have nB3 := nB2.below kd.1
                have hsrc := nB3.below ((Below.refl wd.heap.size wd).alloc (Nat.le_refl _) (.cells #[] 5))
                clear ka kb kc kd k2 hN7 hN7' hN8 cv7 cv7d cv8 cv8d cv9 cv9d hbd G1 G2 G3 G4 hbw2 nB2
                go_wp2_with (at_builtin; refine wpList_append_nums _ rfl (.tmp 231) (.tmp 232) _ rfl wd.heap.size 5 j0 _ 1 .u8 Tryz.underlying56 hj0 hy0 hy1 hy2 rfl (.slice (some ⟨wd.heap.size, 0, none⟩) 0 0) 0 [] rfl (own_empty wd _) (some ⟨g5, 0, none⟩) ys.length c5 ys rfl hsrc (by unfold maxLen; omega) (by omega) (by simp) ?_)
                intro v5 w5 hown5 hg5
                have hb5 := copy_below2 hg5
                obtain ⟨A5, c5', rfl, nD⟩ := own_nums rfl hown5
                have hbw5 : Below w.heap.size w w5 := hbd2.trans (hb5.mono hbd2.size)
                have nB5 := nB3.below hb5
                clear hown5 hg5 hb5 hsrc nB3 hbd2
                go_wp2_with fail
                refine (HZr.out A5 c5' w5 nD).mono ?_
                rintro e w6 ⟨hb6, A6, c6, rfl, ho6⟩
                have hbw6 : Below w.heap.size w w6 := hbw5.trans (hb6.mono hbw5.size)
                have nB6 := nB5.below hb6
                have n6 := NumsAt.own ho6
                clear nD nB5 hb6 hbw5 ho6
                go_wp2_with fail
                refine (HZw.out (some ⟨g5, 0, none⟩) c5 w6 hbw6 nB6).mono ?_
                rintro e w7 ⟨hb7, A7, c7, rfl, ho7⟩
                have hbw7 : Below w.heap.size w w7 := hbw6.trans (hb7.mono hbw6.size)
                have n7 := NumsAt.own ho7
                have n6' := n6.below hb7
                clear nB6 n6 hb7 hbw6 ho7
                go_wp2_with fail
                refine (sameWords_any A7 A6 c7 c6 vs2 vs2 (by omega) (by omega) w7 n7 n6' rfl).mono ?_
                rintro e w8 ⟨rfl, hb8⟩
                have hbw8 : Below w.heap.size w w8 := hbw7.trans (hb8.mono hbw7.size)
                clear n7 n6' hb8 hbw7
                go_wp2_with fail
                refine (HZs.out w8 hbw8).mono ?_
                rintro e w9 ⟨rfl, hb9⟩
                go_wp2_with fail
                go_ret
                exact ⟨rfl, hbw8.trans (hb9.mono hbw8.size)⟩
end Go.Proofs.YtecmeegnjjhilaaGreatDoor
