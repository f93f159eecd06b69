/- A law's argument with lists: opened; its lists copied by append; a list of bytes as a text. -/
import Derived.Test.YtecmeegnjjhilaaGreatDoorListWM
import Derived.Test.YtecmeegnjjhilaaGreatDoorKept
import Derived.Laws.BytesArg
import Derived.Lib.SmallJoins
import Derived.ChangeSlices
import Derived.Deep.Strs
namespace Go.Proofs.YtecmeegnjjhilaaGreatDoor
open Go.ChangeShapes Go.WideShapes Go.RowKit
section
variable {P : Program} (w : World)
/-- append of a list that came in, nil or not, onto a row of the call's own. -/
theorem append_nums (base : Nat) (t ty e : TypeId) (i : TypeInfo) (z : Value) (bytes : Nat) (q : IntKind) (ht : P.underlying t = some (.slice e)) (hi : P.info? e = some i) (hz : i.zero = some z)
    (hsize : i.size = 1) (hby : i.bytes = bytes) (hzs : z.cells.size = 1)
    (v : Value) (n : Nat) (xs : List Value) (hown : w.ownsRow base e 1 v n xs)
    (A : Option Addr) (m c : Nat) (ys : List Int) (hr : NumsAt w q A m ys)
    (h63 : n + m ≤ maxLen) (hbytes : (n + m) * bytes ≤ 140737488355328) (hbase : base ≤ w.heap.size) :
    ∃ v' w', (Builtin.append_ #[t, t] ty #[v, .slice A m c]).run P w = .ok v' w' ∧ w'.ownsRow base e 1 v' (n + m) (xs ++ ys.map fun y => Value.int q y) ∧ w.grownBy w' v.ownBlock := by
  rcases A with _ | ad
  · have hm : m = 0 := by
      rcases Nat.eq_zero_or_pos m with h0 | h0
      · exact h0
      · obtain ⟨b, o, h, _⟩ := hr.2 h0
        cases h
    subst hm
    have hn : ys = [] := List.eq_nil_of_length_eq_zero hr.1
    subst hn
    refine ⟨v, w, ?_, by simpa using hown, World.grownBy.refl w _⟩
    rcases hown.2 with ⟨rfl, rfl⟩ | ⟨g, cap, cur, rfl, _, _, hnc, _⟩
    · simp [Builtin.append_, run_underlying ht, sizeOf, typeInfo, hi, Builtin.lenOf, Builtin.firstCells]
    · simp [Builtin.append_, run_underlying ht, sizeOf, typeInfo, hi, Builtin.lenOf, Builtin.firstCells, hnc, storeCells]
  · have hcells : ∀ j u, (ys.map fun y => Value.int q y)[j]? = some u → w.cell? (ad.add j) = some u := by
      intro j u hu
      rcases Nat.eq_zero_or_pos m with h0 | h0
      · subst h0
        have hn : ys = [] := List.eq_nil_of_length_eq_zero hr.1
        subst hn
        simp at hu
      · obtain ⟨b, o, h, hc⟩ := hr.2 h0
        injection h with h
        subst h
        rw [List.getElem?_map, Option.map_eq_some_iff] at hu
        obtain ⟨y, hy, rfl⟩ := hu
        rw [add_at]
        exact hc j y hy
    obtain ⟨v', w', hrun, h2, h3, _, _⟩ := run_append_own_at (P := P) w base t ty e i z 1 bytes ht hi hz hsize hby hzs (by decide) v n xs hown ad m c (ys.map fun y => Value.int q y) (by rw [List.length_map, hr.1, Nat.mul_one]) hcells
      (fun u hu => by obtain ⟨y, _, rfl⟩ := List.mem_map.1 hu; rfl) h63 hbytes hbase
    exact ⟨v', w', hrun, h2, h3⟩

theorem wpList_append_nums {ops : Array Oper} {rest : List Oper} {o : Oper} {a : Act} {Q : Exit → Act → World → Prop} (hgd : o.guard = none) (s x : Operand) (t : TypeId)
    (ho : o.op = .call { callee := .builtin .append, args := #[s, x], argTypes := #[t, t] })
    (base : Nat) (e : TypeId) (i : TypeInfo) (z : Value) (bytes : Nat) (q : IntKind) (ht : P.underlying t = some (.slice e)) (hi : P.info? e = some i) (hz : i.zero = some z)
    (hsize : i.size = 1) (hby : i.bytes = bytes) (hzs : z.cells.size = 1)
    (v : Value) (n : Nat) (xs : List Value) (hs : a.eval s = v) (hown : w.ownsRow base e 1 v n xs)
    (A : Option Addr) (m c : Nat) (ys : List Int) (hx : a.eval x = .slice A m c) (hr : NumsAt w q A m ys)
    (h63 : n + m ≤ maxLen) (hbytes : (n + m) * bytes ≤ 140737488355328) (hbase : base ≤ w.heap.size)
    (h : ∀ v' w', w'.ownsRow base e 1 v' (n + m) (xs ++ ys.map fun y => Value.int q y) → w.grownBy w' v.ownBlock → wpList P ops Q rest (a.put o.dst v') w') : wpList P ops Q (o :: rest) a w := by
  refine wpList_plain hgd fun _ hK => ?_
  obtain ⟨v', w', hrun, h2, h3⟩ := append_nums (P := P) w base t o.type e i z bytes q ht hi hz hsize hby hzs v n xs hown A m c ys hr h63 hbytes hbase
  unfold Oper.wp execOp
  simp only [ho, resolve, invoke, builtin, Sem.run_bind, Sem.run_pure, Result.andThen_ok, List.map_toArray, List.map_cons, List.map_nil, hs, hx, hrun]
  exact hK _ _ (h v' w' h2 h3)
end
/-- A new row without a cell. -/
theorem own_empty (w : World) (t : TypeId) : (w.alloc (.cells #[] t)).ownsRow w.heap.size t 1 (.slice (some ⟨w.heap.size, 0, none⟩) 0 0) 0 [] :=
  ⟨by simp, .inr ⟨w.heap.size, 0, #[], rfl, Nat.le_refl _, heap_alloc_new w _, Nat.le_refl _, by unfold maxLen; omega, by simp, by simp⟩⟩
/-- What such a copy leaves. -/
theorem own_nums {w : World} {base : Nat} {e : TypeId} {v : Value} {q : IntKind} {m : Nat} {ys : List Int} (hm : ys.length = m) (h : w.ownsRow base e 1 v m (ys.map fun y => Value.int q y)) :
    ∃ A c, v = .slice A m c ∧ NumsAt w q A m ys := by
  subst hm
  obtain ⟨A, c, hv, hn, _⟩ := NumsV.of_own h
  exact ⟨A, c, hv, hn⟩
theorem NumsAt.own {w : World} {base : Nat} {e : TypeId} {q : IntKind} {A : Option Addr} {c : Nat} {xs : List Int} (h : w.ownsRow base e 1 (.slice A xs.length c) xs.length (xs.map fun x => Value.int q x)) : NumsAt w q A xs.length xs := by
  obtain ⟨A', c', e, hn, _⟩ := NumsV.of_own h
  injection e with e1 _ _
  subst e1
  exact hn

/-- Bytes as a text. -/
def textB (xs : List Int) : List UInt8 := xs.map fun x => UInt8.ofNat x.toNat
theorem conv_bytes (A : Option Addr) (c : Nat) (xs : List Int) (hx : Byte8 xs) (w : World) (hA : NumsAt w .u8 A xs.length xs) :
    (convert 56 9 (.slice A xs.length c)).run Tryz.prog w = .ok (.string ⟨(textB xs).toArray⟩) w := by
  rcases Nat.eq_zero_or_pos xs.length with h0 | h0
  · have hn : xs = [] := List.eq_nil_of_length_eq_zero h0
    subst hn
    rcases A with _ | ⟨b, o, sp⟩
    · exact run_convert_bytes_nil (P := Tryz.prog) (w := w) 56 5 Tryz.underlying56 Tryz.underlying5 0 c 9 Tryz.underlying9
    · exact run_convert_bytes_back (P := Tryz.prog) w 56 9 5 ⟨b, o, sp⟩ c [] Tryz.underlying56 Tryz.underlying5 Tryz.underlying9 (fun j hj => by simp at hj)
  · obtain ⟨b, o, rfl, hc⟩ := hA.2 h0
    have hl : (textB xs).length = xs.length := by simp [textB]
    have h := run_convert_bytes_back (P := Tryz.prog) w 56 9 5 ⟨b, o, none⟩ c (textB xs) Tryz.underlying56 Tryz.underlying5 Tryz.underlying9 (fun j hj => by
      have hj' : j < xs.length := by omega
      have hb := hx xs[j] (List.getElem_mem hj')
      rw [add_at, hc j _ (List.getElem?_eq_getElem hj')]
      congr 2
      simp only [textB, List.getElem_map, UInt8.toNat_ofNat']
      omega)
    rw [hl] at h
    exact h
theorem quad_range : ∀ xs : List Int, Byte8 xs → ∀ x ∈ quad xs, 0 ≤ x ∧ x < 4294967296
  | [], _, x, h => by simp [quad] at h
  | [_], _, x, h => by simp [quad] at h
  | [_, _], _, x, h => by simp [quad] at h
  | [_, _, _], _, x, h => by simp [quad] at h
  | a :: b :: c :: d :: r, h, x, hx => by
    obtain ⟨a0, a1⟩ := h a (by simp)
    obtain ⟨b0, b1⟩ := h b (by simp)
    obtain ⟨c0, c1⟩ := h c (by simp)
    obtain ⟨d0, d1⟩ := h d (by simp)
    simp only [quad, List.mem_cons] at hx
    rcases hx with rfl | hx
    · omega
    · exact quad_range r (fun y hy => h y (by simp [hy])) x hx
theorem unquad_bytes (ws : List Int) (h : ∀ x ∈ ws, 0 ≤ x ∧ x < 4294967296) : Byte8 (unquad ws) := by
  intro x hx
  unfold unquad at hx
  obtain ⟨n, hn, hx⟩ := List.mem_flatMap.1 hx
  obtain ⟨n0, n1⟩ := h n hn
  simp only [four, List.mem_cons, List.not_mem_nil, or_false] at hx
  rcases hx with rfl | rfl | rfl | rfl <;> omega

/-- A list of numbers that came in. -/
theorem open_nums {H : Type} {enc : TypeId × Value → H} {W : World} {b : Nat} {held : Bool} {fuel : Nat} {cs : List Value} {x : DataW H × List MemPlace} {t e : TypeId} {k : IntKind}
    (ht : Tryz.prog.underlying t = some (.slice e)) (he : Tryz.prog.underlying e = some (.int k)) (hc : Tryz.prog.cellsOf e = 1) (h : DataW.trod enc Tryz.prog W b (fun _ => true) held fuel t cs = some x) :
    ∃ (A : Option Addr) (c : Nat) (xs : List Int), cs = [.slice A xs.length c] ∧ NumsAt W k A xs.length xs ∧ (∀ y ∈ xs, (Lit.int k y).wf = true) ∧ (x.1 = .nil ∧ xs = [] ∨ ∃ r, x.1 = .slice (lits k xs) r) := by
  rcases open_ints ht he hc h with ⟨rfl, rfl⟩ | ⟨a, len, cap, zs, rfl, _, hl, _, hz, rfl, hcell, hwf⟩
  · exact ⟨none, 0, [], rfl, ⟨rfl, fun h => absurd h (by simp)⟩, by simp, .inl ⟨rfl, rfl⟩⟩
  · simp only [if_true] at hz
    have hlen : (zs.take len).length = len := by rw [List.length_take]; omega
    refine ⟨some a, cap, zs.take len, by rw [hlen], ⟨rfl, fun hpos => ?_⟩, fun y hy => hwf y (List.mem_of_mem_take hy), .inr ⟨_, rfl⟩⟩
    rw [hlen] at hpos
    have h0 := hcell 0 (by omega)
    have hsp : a.spot = none := World.cell?_spot (by simpa [Addr.add] using h0)
    obtain ⟨blk, off, spot⟩ := a
    simp only at hsp
    subst hsp
    refine ⟨blk, off, rfl, fun j y hy => ?_⟩
    rw [List.getElem?_take] at hy
    split at hy
    · have hj : j < zs.length := by omega
      have := hcell j hj
      rw [add_at, List.getD_eq_getElem?_getD, hy] at this
      exact this
    · cases hy
theorem wf32 {y : Int} (h : (Lit.int .u32 y).wf = true) : 0 ≤ y ∧ y < 4294967296 := by
  simp only [Lit.wf, Bool.and_eq_true, decide_eq_true_eq] at h
  have m0 : IntKind.u32.min = 0 := by decide
  have m1 : IntKind.u32.max = 4294967295 := by decide
  omega
theorem wf8 {y : Int} (h : (Lit.int .u8 y).wf = true) : 0 ≤ y ∧ y < 256 := by
  simp only [Lit.wf, Bool.and_eq_true, decide_eq_true_eq] at h
  have m0 : IntKind.u8.min = 0 := by decide
  have m1 : IntKind.u8.max = 255 := by decide
  omega
/-- The argument of IsaSources, IsaTurns and IsaMemory. -/
structure SrcArg where
  text : ByteArray
  A : Option Addr
  ca : Nat
  ws : List Int
  B : Option Addr
  cb : Nat
  bs : List Int
def SrcArg.cells (x : SrcArg) : Array Value := #[.string x.text, .slice x.A x.ws.length x.ca, .slice x.B x.bs.length x.cb]
structure SrcArg.In (x : SrcArg) (W : World) : Prop where
  words : NumsAt W .u32 x.A x.ws.length x.ws
  wr : ∀ y ∈ x.ws, 0 ≤ y ∧ y < 4294967296
  bytes : NumsAt W .u8 x.B x.bs.length x.bs
  br : Byte8 x.bs
set_option maxRecDepth 100000 in
theorem open_source {H : Type} {enc : TypeId × Value → H} {W : World} {base b : Nat} {held : Bool} {v : Value} {d : DataW H} {p : List MemPlace}
    (hv : Value.okWide Tryz.prog W .any base 58 v) (h : DataW.Trod enc Tryz.prog W b (fun _ => true) held 58 v d p) :
    ∃ x : SrcArg, v = .agg x.cells ∧ x.In W ∧ ∃ d1 d2, d = .agg [.lit (.string x.text.data.toList), d1, d2] ∧ (d1 = .nil ∧ x.ws = [] ∨ ∃ r, d1 = .slice (lits .u32 x.ws) r) ∧ (d2 = .nil ∧ x.bs = [] ∨ ∃ r, d2 = .slice (lits .u8 x.bs) r) := by
  obtain ⟨cs, rfl, hsz⟩ := okWide_struct Tryz.underlying58 hv
  have c3 : Tryz.prog.cellsOf 58 = 3 := by kernel_rfl
  have c1 : Tryz.prog.cellsOf 31 = 1 := by kernel_rfl
  have c2 : Tryz.prog.cellsOf 9 = 1 := by kernel_rfl
  have c4 : Tryz.prog.cellsOf 56 = 1 := by kernel_rfl
  have e1 : Tryz.prog.cellsOf 28 = 1 := by kernel_rfl
  have e2 : Tryz.prog.cellsOf 5 = 1 := by kernel_rfl
  rw [c3] at hsz
  obtain ⟨fuel, hf⟩ := h
  obtain ⟨y0, y1, y2, n, hx, _, k0, k1, k2⟩ := Go.Deep.trod_struct3 Tryz.underlying58 hf
  obtain ⟨l⟩ := cs
  match l, hsz with
  | [v0, v1, v2], _ =>
    simp only [c1, c2, c4] at k0 k1 k2
    obtain ⟨tx, q0, rfl, _⟩ := DataW.trod_string Tryz.underlying9 (show DataW.trod enc Tryz.prog W b (fun _ => true) held n 9 [v0] = some y0 from k0)
    obtain ⟨A, ca, ws, q1, hA, hwa, hda⟩ := open_nums Tryz.underlying31 Tryz.underlying28 e1 (show DataW.trod enc Tryz.prog W b (fun _ => true) held n 31 [v1] = some y1 from k1)
    obtain ⟨B, cb, bs, q2, hB, hwb, hdb⟩ := open_nums Tryz.underlying56 Tryz.underlying5 e2 (show DataW.trod enc Tryz.prog W b (fun _ => true) held n 56 [v2] = some y2 from k2)
    simp only [List.cons.injEq, and_true] at q0 q1 q2
    subst q0 q1 q2
    simp only [Prod.mk.injEq] at hx
    exact ⟨⟨tx, A, ca, ws, B, cb, bs⟩, rfl, ⟨hA, fun y hy => wf32 (hwa y hy), hB, fun y hy => wf8 (hwb y hy)⟩, _, _, hx.1, hda, hdb⟩
end Go.Proofs.YtecmeegnjjhilaaGreatDoor
