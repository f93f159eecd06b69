/- A row of the call's own: a cell of it is written, or one elsewhere. Plain. -/
import Derived.Test.YtecmeegnjjhilaaGreatDoorSource
import Derived.Test.YtecmeegnjjhilaaGreatDoorBase
import Derived.Maps.AppendAt
namespace Go.Proofs.YtecmeegnjjhilaaGreatDoor
open Go.RowKit
theorem own_far {w : World} {base n size : Nat} {e : TypeId} {v : Value} {xs : List Value} (h : w.ownsRow base e size v n xs) {g : Nat} (hg : v.ownBlock = none ∨ v.ownBlock ≠ some g) (i : Nat) (u : Value) : (w.setCell ⟨g, i, none⟩ u).ownsRow base e size v n xs := by
  refine ⟨h.1, ?_⟩
  rcases h.2 with hn | ⟨g', cap, cur, rfl, h1, h2, rest⟩
  · exact .inl hn
  · refine .inr ⟨g', cap, cur, rfl, h1, (show Blk (w.setCell ⟨g, i, none⟩ u) g' e cur from (show Blk w g' e cur from h2).far (p := ⟨g, i, none⟩) ?_ u), rest⟩
    rcases hg with hg | hg
    · simp [Value.ownBlock] at hg
    · simpa [Value.ownBlock] using hg
/-- A cell of a row is written. -/
theorem own_set {w : World} {base n size : Nat} {e : TypeId} {g c : Nat} {xs : List Value} (h : w.ownsRow base e size (.slice (some ⟨g, 0, none⟩) n c) n xs) (i : Nat) (_hi : i < n * size) (u : Value) :
    (w.setCell ⟨g, i, none⟩ u).ownsRow base e size (.slice (some ⟨g, 0, none⟩) n c) n (xs.set i u) := by
  refine ⟨by rw [List.length_set]; exact h.1, ?_⟩
  rcases h.2 with ⟨h0, _⟩ | ⟨g', cap, cur, hv, hg, hgg, h1, h2, h3, h4⟩
  · cases h0
  · injection hv with hv _ hc
    injection hv with hv
    injection hv with hv _ _
    subst hv hc
    refine .inr ⟨g, c, cur.setIfInBounds i u, rfl, hg, (show Blk w g e cur from hgg).store i u, h1, h2, by simpa using h3, ?_⟩
    rw [Array.toList_setIfInBounds, List.take_set, h4]
theorem own_cell_at {w : World} {base n size : Nat} {e : TypeId} {g c : Nat} {xs : List Value} (h : w.ownsRow base e size (.slice (some ⟨g, 0, none⟩) n c) n xs) (i : Nat) (u : Value) (hu : xs[i]? = some u) :
    w.cell? ⟨g, i, none⟩ = some u ∧ w.frozen? ⟨g, i, none⟩ = false ∧ g < w.heap.size := by
  rcases h.2 with ⟨h0, _⟩ | ⟨g', cap, cur, hv, hg, hgg, h1, h2, h3, h4⟩
  · cases h0
  · injection hv with hv _ hc
    injection hv with hv
    injection hv with hv _ _
    subst hv hc
    have hB : Blk w g e cur := hgg
    refine ⟨?_, hB.frozen i, hB.lt⟩
    rw [hB.cell i]
    rw [← h4, List.getElem?_take] at hu
    split at hu
    · simpa using hu
    · cases hu

end Go.Proofs.YtecmeegnjjhilaaGreatDoor

/- append of one element onto a row of the call's own: it lies where it lay, or it is new and all that was is as it was. -/
namespace Go.Proofs.YtecmeegnjjhilaaGreatDoor
open Go.RowKit
section
variable {P : Program} (w : World)
theorem append_two (base : Nat) (t ty e : TypeId) (i : TypeInfo) (z : Value) (size bytes : Nat) (ht : P.underlying t = some (.slice e)) (hi : P.info? e = some i) (hz : i.zero = some z)
    (hsize : i.size = size) (hby : i.bytes = bytes)
    (v : Value) (n : Nat) (xs : List Value) (hown : w.ownsRow base e size v n xs)
    (a : Addr) (m c : Nat) (news : List Value) (hl : news.length = m * size) (hnews : ∀ j u, news[j]? = some u → w.cell? (a.add j) = some u) (h1 : ∀ u ∈ news, u.oneCell' = true) (hm : 0 < m)
    (h63 : n + m ≤ maxLen) (hbytes : (n + m) * bytes ≤ 140737488355328) {v' : Value} {w' : World} (hrun : (Builtin.append_ #[t, t] ty #[v, .slice (some a) m c]).run P w = .ok v' w') :
    (v'.ownBlock = some w.heap.size ∧ w.grownBy w' none) ∨ ∃ g cp, v = .slice (some ⟨g, 0, none⟩) n cp ∧ v' = .slice (some ⟨g, 0, none⟩) (n + m) cp := by
  subst hsize
  subst hby
  have hsmall : n + m ≤ 9223372036854775807 := by simp only [maxLen] at h63; omega
  have hnew : ∀ (cs : Array Value), w.grownBy (w.drew.alloc (.cells cs e)) none := fun cs => ⟨rfl, rfl, rfl, by simp, fun k hk _ => heap_alloc_old w.drew _ hk⟩
  rcases hown.2 with ⟨rfl, rfl⟩ | ⟨g, cap, cur, rfl, hbg, hg, hnc, hcm, hcs, htake⟩
  · have hr := run_append_nil (P := P) w t ty e i z ht hi hz a m c news hl hnews hm (by omega) (by have hb := hbytes; simp only [Nat.zero_add] at hb; omega)
    rw [hr] at hrun
    injection hrun with e1 e2
    subst e1
    subst e2
    exact .inl ⟨rfl, hnew _⟩
  · by_cases hroom : n + m ≤ cap
    · have hfit : n * i.size + news.length ≤ cur.size := by rw [hl, hcs, ← Nat.add_mul]; exact Nat.mul_le_mul_right _ hroom
      have hr := run_append_room (P := P) w t ty e i ht hi g n cap cur hg a m c news hl hnews h1 hroom hfit
      rw [hr] at hrun
      injection hrun with e1 _
      exact .inr ⟨g, cap, rfl, e1.symm⟩
    · have holds : ∀ j u, xs[j]? = some u → w.cell? ((⟨g, 0, none⟩ : Addr).add j) = some u := World.ownsRow.cells hown (g := g) rfl
      have hr := run_append_grow (P := P) w t ty e i z ht hi hz ⟨g, 0, none⟩ n cap xs hown.1 holds a m c news hl hnews (by omega) (by omega) (growslice_fits (by omega) hbytes)
      rw [hr] at hrun
      injection hrun with e1 e2
      subst e1
      subst e2
      exact .inl ⟨rfl, hnew _⟩

theorem wpList_append_two {ops : Array Oper} {rest : List Oper} {o : Oper} {a : Act} {Q : Exit → Act → World → Prop} (hgd : o.guard = none) (s x : Operand) (t : TypeId)
    (ho : o.op = .call { callee := .builtin .append, args := #[s, x], argTypes := #[t, t] })
    (base : Nat) (e : TypeId) (i : TypeInfo) (z : Value) (size bytes : Nat) (ht : P.underlying t = some (.slice e)) (hi : P.info? e = some i) (hz : i.zero = some z)
    (hsize : i.size = size) (hby : i.bytes = bytes) (hzs : z.cells.size = size) (hsz : 0 < size)
    (v : Value) (n : Nat) (xs : List Value) (hs : a.eval s = v) (hown : w.ownsRow base e size v n xs)
    (ad : Addr) (m c : Nat) (news : List Value) (hx : a.eval x = .slice (some ad) m c) (hl : news.length = m * size) (hnews : ∀ j u, news[j]? = some u → w.cell? (ad.add j) = some u) (h1 : ∀ u ∈ news, u.oneCell' = true) (hm : 0 < m)
    (h63 : n + m ≤ maxLen) (hbytes : (n + m) * bytes ≤ 140737488355328) (hbase : base ≤ w.heap.size)
    (h : ∀ v' w', w'.ownsRow base e size v' (n + m) (xs ++ news) → w.grownBy w' v.ownBlock → ((v'.ownBlock = some w.heap.size ∧ w.grownBy w' none) ∨ ∃ g cp, v = .slice (some ⟨g, 0, none⟩) n cp ∧ v' = .slice (some ⟨g, 0, none⟩) (n + m) cp) → wpList P ops Q rest (a.put o.dst v') w') :
    wpList P ops Q (o :: rest) a w := by
  refine wpList_plain hgd fun K hK => ?_
  obtain ⟨v', w', hr, h2, h3, _, _⟩ := run_append_own_at (P := P) w base t o.type e i z size bytes ht hi hz hsize hby hzs hsz v n xs hown ad m c news hl hnews h1 h63 hbytes hbase
  have h4 := append_two (P := P) w base t o.type e i z size bytes ht hi hz hsize hby v n xs hown ad m c news hl hnews h1 hm h63 hbytes hr
  unfold Oper.wp execOp
  simp only [ho, resolve, invoke, builtin, Sem.run_bind, Sem.run_pure, Result.andThen_ok, List.map_toArray, List.map_cons, List.map_nil, hs, hx, hr]
  exact hK _ _ (h v' w' h2 h3 h4)
end
end Go.Proofs.YtecmeegnjjhilaaGreatDoor

/- Rows of memory of which no two share a block, kept by keys. Plain. -/
namespace Go.Proofs.YtecmeegnjjhilaaGreatDoor
open Go.RowKit
theorem own_slice2 {w : World} {base n : Nat} {e : TypeId} {size : Nat} {v : Value} {xs : List Value} (h : w.ownsRow base e size v n xs) : ∃ A c, v = .slice A n c := by
  rcases h.2 with ⟨rfl, rfl⟩ | ⟨g, cap, cur, rfl, _⟩
  · exact ⟨none, 0, rfl⟩
  · exact ⟨_, _, rfl⟩
structure Row where
  ty : TypeId
  v : Value
  xs : List Value
def Row.Own (w : World) (base : Nat) (r : Row) : Prop := w.ownsRow base r.ty 1 r.v r.xs.length r.xs
structure Sep {κ : Type} (w : World) (base : Nat) (σ : κ → Option Row) : Prop where
  own : ∀ k r, σ k = some r → r.Own w base
  apart : ∀ k k' r r', k ≠ k' → σ k = some r → σ k' = some r' → r.v.ownBlock = none ∨ r.v.ownBlock ≠ r'.v.ownBlock
section
variable {κ : Type} {w w' : World} {base : Nat} {σ : κ → Option Row}
theorem Sep.below (h : Sep w base σ) (hb : Below w.heap.size w w') : Sep w' base σ := ⟨fun k r e => own_below (h.own k r e) hb, h.apart⟩
theorem Sep.at_ (h : Sep w base σ) {k : κ} {t : TypeId} {A : Option Addr} {n c : Nat} {xs : List Value} (e : σ k = some ⟨t, .slice A n c, xs⟩) :
    n = xs.length ∧ ∀ j u, xs[j]? = some u → ∃ g, A = some ⟨g, 0, none⟩ ∧ base ≤ g ∧ w.cell? ⟨g, j, none⟩ = some u ∧ w.frozen? ⟨g, j, none⟩ = false := by
  have ho : w.ownsRow base t 1 (.slice A n c) xs.length xs := h.own k _ e
  rcases ho.2 with ⟨h1, h2⟩ | ⟨g, cap, cur, h1, hb, _⟩
  · injection h1 with h1 h3 h4
    refine ⟨by omega, fun j u hu => ?_⟩
    have : xs = [] := List.eq_nil_of_length_eq_zero h2
    subst this
    simp at hu
  · injection h1 with h1 h3 h4
    subst h1
    subst h3
    subst h4
    refine ⟨rfl, fun j u hu => ?_⟩
    obtain ⟨h5, h6, _⟩ := own_cell_at ho j u hu
    exact ⟨g, rfl, hb, h5, h6⟩
theorem Sep.lt (h : Sep w base σ) {k : κ} {r : Row} (e : σ k = some r) : r.v.ownBlock = none ∨ r.v.ownBlock ≠ some w.heap.size := by
  cases hb : r.v.ownBlock with
  | none => exact .inl rfl
  | some b =>
    refine .inr (fun h2 => ?_)
    have := (World.ownsRow.lt (h.own k r e) b hb).2
    injection h2 with h2
    omega
theorem Sep.nums (h : Sep w base σ) {k : κ} {t : TypeId} {q : IntKind} {A : Option Addr} {c : Nat} {xs : List Int} (e : σ k = some ⟨t, .slice A xs.length c, xs.map fun x => Value.int q x⟩) : NumsAt w q A xs.length xs := by
  have ho := h.own k _ e
  unfold Row.Own at ho
  simp only [List.length_map] at ho
  exact NumsAt.own ho
theorem Sep.cap (h : Sep w base σ) {k : κ} {t : TypeId} {A : Option Addr} {n c : Nat} {xs : List Value} (e : σ k = some ⟨t, .slice A n c, xs⟩) : n ≤ c := by
  have ho : w.ownsRow base t 1 (.slice A n c) xs.length xs := h.own k _ e
  rcases ho.2 with ⟨h1, h2⟩ | ⟨g, cap, cur, h1, hb, hh, hnc, _⟩
  · injection h1 with h1 h3 h4
    omega
  · injection h1 with h1 h3 h4
    omega
theorem NumsAt.take {w : World} {q : IntKind} {A : Option Addr} {xs ys : List Int} (h : NumsAt w q A (xs ++ ys).length (xs ++ ys)) : NumsAt w q A xs.length xs :=
  ⟨rfl, fun h0 => by
    obtain ⟨b, o, e, hc⟩ := h.2 (by rw [List.length_append]; omega)
    refine ⟨b, o, e, fun j x hx => hc j x ?_⟩
    rw [List.getElem?_append_left (List.getElem?_eq_some_iff.1 hx).1]
    exact hx⟩
end
section
variable {κ : Type} [DecidableEq κ] {w w' : World} {base : Nat} {σ : κ → Option Row}
def upd (σ : κ → Option Row) (k : κ) (o : Option Row) : κ → Option Row := fun q => if q = k then o else σ q
theorem upd_same (k : κ) (o : Option Row) : upd σ k o k = o := by simp [upd]
theorem upd_ne {k q : κ} (h : q ≠ k) (o : Option Row) : upd σ k o q = σ q := by simp [upd, h]

/-- One row is another; the others are as they were. -/
theorem Sep.turn (h : Sep w base σ) {k : κ} (r' : Row) (ho : r'.Own w' base) (hk : ∀ q s, q ≠ k → σ q = some s → s.Own w' base ∧ (s.v.ownBlock = none ∨ s.v.ownBlock ≠ r'.v.ownBlock)) : Sep w' base (upd σ k (some r')) := by
  refine ⟨fun q s e => ?_, fun q q' s s' hn e e' => ?_⟩
  · by_cases hq : q = k
    · subst hq
      rw [upd_same] at e
      cases e
      exact ho
    · rw [upd_ne hq] at e
      exact (hk q s hq e).1
  · by_cases hq : q = k
    · subst hq
      rw [upd_same] at e
      cases e
      rw [upd_ne hn.symm] at e'
      rcases (hk q' s' hn.symm e').2 with h1 | h1
      · rw [h1]
        by_cases h0 : r'.v.ownBlock = none
        · exact .inl h0
        · exact .inr h0
      · exact .inr (fun h => h1 h.symm)
    · rw [upd_ne hq] at e
      by_cases hq' : q' = k
      · subst hq'
        rw [upd_same] at e'
        cases e'
        exact (hk q s hq e).2
      · rw [upd_ne hq'] at e'
        exact h.apart q q' s s' hn e e'
theorem Sep.drop (h : Sep w base σ) (k : κ) : Sep w base (upd σ k none) := by
  have key : ∀ q s, upd σ k none q = some s → q ≠ k ∧ σ q = some s := fun q s e => by
    by_cases hq : q = k
    · subst hq
      rw [upd_same] at e
      cases e
    · rw [upd_ne hq] at e
      exact ⟨hq, e⟩
  exact ⟨fun q s e => h.own q s (key q s e).2, fun q q' s s' hn e e' => h.apart q q' s s' hn (key q s e).2 (key q' s' e').2⟩
theorem Sep.move (h : Sep w base σ) {k : κ} {r : Row} (e : σ k = some r) (k' : κ) : Sep w base (upd (upd σ k none) k' (some r)) :=
  (h.drop k).turn r (h.own k r e) fun q s _ eq => by
    by_cases hq2 : q = k
    · subst hq2
      rw [upd_same] at eq
      cases eq
    · rw [upd_ne hq2] at eq
      exact ⟨h.own q s eq, h.apart q k s r hq2 eq e⟩
theorem Sep.nil (h : Sep w base σ) (k : κ) (t : TypeId) : Sep w base (upd σ k (some ⟨t, .slice none 0 0, []⟩)) :=
  h.turn _ (own_nil _ _ _ _) fun q s _ e => ⟨h.own q s e, by
    by_cases h0 : s.v.ownBlock = none
    · exact .inl h0
    · exact .inr h0⟩
theorem Sep.store (h : Sep w base σ) {k : κ} {t : TypeId} {g n c : Nat} {xs : List Value} (e : σ k = some ⟨t, .slice (some ⟨g, 0, none⟩) n c, xs⟩) (j : Nat) (hj : j < n) (u : Value) :
    Sep (w.setCell ⟨g, j, none⟩ u) base (upd σ k (some ⟨t, .slice (some ⟨g, 0, none⟩) n c, xs.set j u⟩)) := by
  obtain ⟨hn, _⟩ := h.at_ e
  subst hn
  have ho := h.own k _ e
  refine h.turn _ ?_ fun q s hq eq => ?_
  · have h2 := own_set ho j (by simpa using hj) u
    unfold Row.Own
    simpa using h2
  · have ha := h.apart q k s _ hq eq e
    exact ⟨own_far (h.own q s eq) ha j u, ha⟩
theorem Sep.grow (h : Sep w base σ) {k : κ} {r : Row} (e : σ k = some r) {v' : Value} {ys : List Value} (ho : w'.ownsRow base r.ty 1 v' (r.xs.length + ys.length) (r.xs ++ ys)) (hg : w.grownBy w' r.v.ownBlock)
    (hat : v'.ownBlock = r.v.ownBlock ∨ v'.ownBlock = some w.heap.size) : Sep w' base (upd σ k (some ⟨r.ty, v', r.xs ++ ys⟩)) :=
  h.turn _ (by unfold Row.Own; rw [List.length_append]; exact ho) fun q s hq eq => by
    have ha := h.apart q k s r hq eq e
    refine ⟨World.ownsRow.kept (h.own q s eq) hg ha, ?_⟩
    rcases hat with h1 | h1
    · rw [h1]
      exact ha
    · rw [h1]
      exact h.lt eq
/-- A row that moved: what it was before stands too. -/
theorem Sep.add (h : Sep w base σ) (k : κ) {t : TypeId} {v : Value} {n : Nat} {xs : List Value} (ho : w'.ownsRow base t 1 v n xs) (hn : n = xs.length) (hg : w.grownBy w' none) (hv : v.ownBlock = none ∨ ∃ b, v.ownBlock = some b ∧ w.heap.size ≤ b) :
    Sep w' base (upd σ k (some ⟨t, v, xs⟩)) := by
  subst hn
  refine h.turn _ ho fun q s hq eq => ⟨World.ownsRow.kept (h.own q s eq) hg ?_, ?_⟩
  · by_cases h0 : s.v.ownBlock = none
    · exact .inl h0
    · exact .inr h0
  · cases hb : s.v.ownBlock with
    | none => exact .inl rfl
    | some b =>
      refine .inr ?_
      have := (World.ownsRow.lt (h.own q s eq) b hb).2
      rcases hv with h1 | ⟨b', h1, h2⟩
      · rw [h1]
        simp
      · rw [h1]
        intro h3
        injection h3 with h3
        omega
/-- A row that a callee made. -/
theorem Sep.new (h : Sep w base σ) (hb : Below w.heap.size w w') (k : κ) {t : TypeId} {v : Value} {n : Nat} {xs : List Value} (ho : w'.ownsRow w.heap.size t 1 v n xs) (hn : n = xs.length) (hbase : base ≤ w.heap.size) :
    Sep w' base (upd σ k (some ⟨t, v, xs⟩)) := by
  subst hn
  refine h.turn _ (own_lower ho hbase) fun q s hq eq => ⟨own_below (h.own q s eq) hb, ?_⟩
  cases hs : s.v.ownBlock with
  | none => exact .inl rfl
  | some b =>
    refine .inr (fun h3 => ?_)
    have h1 := (World.ownsRow.lt (h.own q s eq) b hs).2
    have h2 := own_from ho b h3.symm
    omega
theorem Sep.push (h : Sep w base σ) {k : κ} {t : TypeId} {A : Option Addr} {n c : Nat} {xs : List Value} (e : σ k = some ⟨t, .slice A n c, xs⟩) {v' : Value} {u : Value} (ho : w'.ownsRow base t 1 v' (n + 1) (xs ++ [u])) (hg : w.grownBy w' (Value.slice A n c).ownBlock)
    (hat : v'.ownBlock = (Value.slice A n c).ownBlock ∨ v'.ownBlock = some w.heap.size) : ∃ A' c', v' = .slice A' (n + 1) c' ∧ Sep w' base (upd σ k (some ⟨t, .slice A' (n + 1) c', xs ++ [u]⟩)) := by
  obtain ⟨hn, _⟩ := h.at_ e
  obtain ⟨A', c', rfl⟩ := own_slice2 ho
  subst hn
  exact ⟨A', c', rfl, h.grow e (r := ⟨t, .slice A xs.length c, xs⟩) (ys := [u]) ho hg hat⟩
theorem Sep.pushL (h : Sep w base σ) {k : κ} {t : TypeId} {A : Option Addr} {n c : Nat} {xs : List Value} (e : σ k = some ⟨t, .slice A n c, xs⟩) {v' : Value} {m : Nat} {ys : List Value} (hm : m = ys.length) (ho : w'.ownsRow base t 1 v' (n + m) (xs ++ ys)) (hg : w.grownBy w' (Value.slice A n c).ownBlock)
    (hat : v'.ownBlock = (Value.slice A n c).ownBlock ∨ v'.ownBlock = some w.heap.size) : ∃ A' c', v' = .slice A' (n + m) c' ∧ Sep w' base (upd σ k (some ⟨t, .slice A' (n + m) c', xs ++ ys⟩)) := by
  obtain ⟨hn, _⟩ := h.at_ e
  obtain ⟨A', c', rfl⟩ := own_slice2 ho
  subst hn
  subst hm
  exact ⟨A', c', rfl, h.grow e (r := ⟨t, .slice A xs.length c, xs⟩) (ys := ys) ho hg hat⟩
theorem Sep.cut (h : Sep w base σ) {k : κ} {t : TypeId} {A : Option Addr} {n n2 c : Nat} {zs : List Value} (e : σ k = some ⟨t, .slice A n2 c, zs⟩) (hn : n ≤ n2) : Sep w base (upd σ k (some ⟨t, .slice A n c, zs.take n⟩)) := by
  have ho : w.ownsRow base t 1 (.slice A n2 c) zs.length zs := h.own k _ e
  obtain ⟨hz, _⟩ := h.at_ e
  refine h.turn _ ?_ fun q s hq eq => ⟨h.own q s eq, ?_⟩
  · have hl : (zs.take n).length = n := by rw [List.length_take]; omega
    show w.ownsRow base t 1 (.slice A n c) (zs.take n).length (zs.take n)
    rw [hl]
    rcases ho.2 with ⟨h1, h2⟩ | ⟨g, cap, cur, h1, hb, hh, hnc, hcm, hcs, ht⟩
    · injection h1 with h1 h3 h4
      subst h1
      subst h4
      have : n = 0 := by omega
      subst this
      exact ⟨by simp, .inl ⟨rfl, rfl⟩⟩
    · injection h1 with h1 h3 h4
      subst h1
      subst h4
      refine ⟨by rw [hl, Nat.mul_one], .inr ⟨g, _, cur, rfl, hb, hh, by omega, hcm, hcs, ?_⟩⟩
      rw [← ht, List.take_take]
      congr 1
      omega
  · have ha := h.apart q k s _ hq eq e
    cases A <;> exact ha
theorem Sep.push2 (h : Sep w base σ) {kL kG : κ} (hne : kL ≠ kG) {t : TypeId} {A Ag : Option Addr} {n c n2 c2 : Nat} {xs zs : List Value} (hL : σ kL = some ⟨t, .slice A n c, xs⟩ ∨ (A = Ag ∧ c = c2 ∧ n ≤ n2 ∧ xs = zs.take n)) (e : σ kG = some ⟨t, .slice Ag n2 c2, zs⟩) {v' : Value} {u : Value}
    (ho : w'.ownsRow base t 1 v' (n2 + 1) (zs ++ [u])) (hg : w.grownBy w' (Value.slice Ag n2 c2).ownBlock)
    (two : (v'.ownBlock = some w.heap.size ∧ w.grownBy w' none) ∨ ∃ g cp, (Value.slice Ag n2 c2) = .slice (some ⟨g, 0, none⟩) n2 cp ∧ v' = .slice (some ⟨g, 0, none⟩) (n2 + 1) cp) :
    ∃ σ' A' c', v' = .slice A' (n2 + 1) c' ∧ Sep w' base σ' ∧ σ' kG = some ⟨t, .slice A' (n2 + 1) c', zs ++ [u]⟩ ∧ (σ' kL = some ⟨t, .slice A n c, xs⟩ ∨ (A = A' ∧ c = c' ∧ n ≤ n2 + 1 ∧ xs = (zs ++ [u]).take n)) ∧ ∀ q, q ≠ kL → q ≠ kG → σ' q = σ q := by
  obtain ⟨hz, _⟩ := h.at_ e
  obtain ⟨A', c', rfl⟩ := own_slice2 ho
  have hlen : n2 + 1 = (zs ++ [u]).length := by rw [List.length_append]; simp; omega
  rcases two with ⟨h1, h2⟩ | ⟨g, cp, h1, h2⟩
  · rcases hL with hL | ⟨rfl, rfl, hn, hx⟩
    · refine ⟨upd σ kG (some ⟨t, .slice A' (n2 + 1) c', zs ++ [u]⟩), A', c', rfl, h.add kG ho hlen h2 (.inr ⟨_, h1, Nat.le_refl _⟩), upd_same _ _, .inl ?_, fun q _ h4 => upd_ne h4 _⟩
      rw [upd_ne hne]
      exact hL
    · have s1 := h.move e kL
      have s2 := s1.cut (n := n) (upd_same _ _) hn
      have s3 := s2.add kG ho hlen h2 (.inr ⟨_, h1, Nat.le_refl _⟩)
      refine ⟨_, A', c', rfl, s3, upd_same _ _, .inl ?_, fun q h3 h4 => ?_⟩
      · rw [upd_ne hne, upd_same, hx]
      · rw [upd_ne h4, upd_ne h3, upd_ne h3, upd_ne h4]
  · injection h1 with h1 h3 h4
    subst h1
    injection h2 with h2 h5 h6
    subst h2
    subst h4
    subst h6
    have s1 := h.grow e (r := ⟨t, .slice (some ⟨g, 0, none⟩) n2 c', zs⟩) (v' := .slice (some ⟨g, 0, none⟩) (n2 + 1) c') (ys := [u]) (by simp only [← hz]; exact ho) hg (.inl rfl)
    refine ⟨_, _, _, rfl, s1, upd_same _ _, ?_, fun q _ h4 => upd_ne h4 _⟩
    rcases hL with hL | ⟨rfl, rfl, hn, hx⟩
    · left
      rw [upd_ne hne]
      exact hL
    · right
      refine ⟨rfl, rfl, by omega, ?_⟩
      rw [hx, List.take_append_of_le_length (by omega)]
end
end Go.Proofs.YtecmeegnjjhilaaGreatDoor
