/- slices.IndexFunc at the table, isa.find, isa.ofOp, isa.Form, isa.Name, isa.Number: what each returns. -/
import Derived.Test.YtecmeegnjjhilaaGreatDoorTab
namespace Go.Proofs.YtecmeegnjjhilaaGreatDoor
open Go.RowKit
def TRow.val (r : TRow) : Value := .agg #[.int .i64 r.op, .string ⟨r.word.toArray⟩, .int .i64 r.form]
/-- What find asks of a predicate: a bool, and no old memory turned. -/
def Asks (p : TRow → Bool) (g : Nat) (x : Value) (w : World) : Prop :=
  ∀ (W : World) (r : TRow), Below w.heap.size w W → Calls Tryz.prog g #[r.val, x] W fun e w' => e = .returned (.bool (p r)) ∧ Below W.heap.size W w'
theorem Asks.later {p : TRow → Bool} {g : Nat} {x : Value} {w w1 : World} (h : Asks p g x w) (hb : Below w.heap.size w w1) : Asks p g x w1 :=
  fun W r hW => h W r (hb.trans (hW.mono hb.size))

def RowsAt (w : World) (b : Nat) (rs : List TRow) : Prop := ∀ (j : Nat) (r : TRow), rs[j]? = some r →
  w.cell? ⟨b, j * 3, none⟩ = some (.int .i64 r.op) ∧ w.cell? ⟨b, j * 3 + 1, none⟩ = some (.string ⟨r.word.toArray⟩) ∧ w.cell? ⟨b, j * 3 + 2, none⟩ = some (.int .i64 r.form)
theorem encs_at : ∀ (rs : List TRow) (j : Nat) (r : TRow), rs[j]? = some r → (encs rs)[j * 3]? = some (.int .i64 r.op) ∧ (encs rs)[j * 3 + 1]? = some (.string ⟨r.word.toArray⟩) ∧ (encs rs)[j * 3 + 2]? = some (.int .i64 r.form)
  | [], j, r, h => by simp at h
  | x :: rs, 0, r, h => by
    simp only [List.getElem?_cons_zero, Option.some.injEq] at h
    subst h
    simp [encs, TRow.enc, str]
  | x :: rs, j + 1, r, h => by
    have ih := encs_at rs j r (by simpa using h)
    have e : encs (x :: rs) = .int .i64 x.op :: str x.word :: .int .i64 x.form :: encs rs := by simp [encs, TRow.enc]
    rw [e]
    rw [show (j + 1) * 3 = j * 3 + 1 + 1 + 1 from by omega]
    simpa using ih
theorem RowsAt.of_own {w : World} {base cap : Nat} {g : Nat} {rs : List TRow} (h : w.ownsRow base 77 3 (.slice (some ⟨g, 0, none⟩) rs.length cap) rs.length (encs rs)) : RowsAt w g rs := by
  intro j r hr
  obtain ⟨h1, h2, h3⟩ := encs_at rs j r hr
  have hc : ∀ (i : Nat) (u : Value), (encs rs)[i]? = some u → w.cell? ⟨g, i, none⟩ = some u := fun i u hu => by
    have := h.cells (g := g) rfl i u hu
    rwa [add_at, Nat.zero_add] at this
  exact ⟨hc _ _ h1, hc _ _ h2, hc _ _ h3⟩
theorem RowsAt.below {w w' : World} {b : Nat} {rs : List TRow} (h : RowsAt w b rs) (hb : Below w.heap.size w w') : RowsAt w' b rs := by
  intro j r hr
  obtain ⟨h1, h2, h3⟩ := h j r hr
  exact ⟨(hb.cell (World.block_lt_of_cell? w _ h1)).trans h1, (hb.cell (World.block_lt_of_cell? w _ h2)).trans h2, (hb.cell (World.block_lt_of_cell? w _ h3)).trans h3⟩

/-- The first place at which p holds, or -1. -/
def place (p : TRow → Bool) (rs : List TRow) : Int := if rs.findIdx p < rs.length then rs.findIdx p else -1

set_option maxHeartbeats 400000 in
set_option maxRecDepth 100000 in
theorem index_any (p : TRow → Bool) (g : Nat) (x : Value) (eg : ∀ args w, (callFunc g args).run Tryz.prog w = .ok (.enter g args) w) (b n cap : Nat) (rs : List TRow) (w : World) (hn : rs.length = n) (hsmall : n ≤ 1000)
    (hr : RowsAt w b rs) (hp : Asks p g x w) :
    Calls Tryz.prog 72 #[.slice (some ⟨b, 0, none⟩) n cap, .func (.func g) #[] #[x]] w fun e w' => e = .returned (.int .i64 (place p rs)) ∧ Below w.heap.size w w' := by
  have HN := Lib.hid hn
  clear hn
  go_enter Tryz.func72, Tryz.ntmps72
  go_wp2
  go_loopw [8] (fun s8 wr => ∃ k : Nat, k ≤ n ∧ s8 = .int .i64 k ∧ Below w.heap.size w wr ∧ Hid (∀ j r, rs[j]? = some r → j < k → p r = false)) (fun i _ => n - (intOf i).toNat)
  case atStart => exact ⟨0, Nat.zero_le _, rfl, Below.refl _ _, fun j r _ h => absurd h (by omega)⟩
  case round =>
    obtain ⟨k, hk, rfl, hb, hno⟩ := hrel
    by_cases hlt : k < n
    · obtain ⟨r, hl⟩ : ∃ r, rs[k]? = some r := ⟨_, List.getElem?_eq_getElem (by rw [HN.out]; exact hlt)⟩
      have hc0 := hp wr r hb
      obtain ⟨c0, c1, c2⟩ := (hr.below hb) k r hl
      have HL := Lib.hid hl
      clear hl hr hp
      cases hq : p r with
      | true =>
        rw [hq] at hc0
        have HQ := Lib.hid hq
        have hcall := Lib.hid hc0
        clear hq hc0
        go_wp2_with (go_at_fn g; refine hcall.out.mono ?_; rintro e w' ⟨rfl, hb'⟩)
        go_ret
        refine ⟨?_, hb.trans (hb'.mono hb.size)⟩
        have hfi : rs.findIdx p = k := by
          have hkl : k < rs.length := by rw [HN.out]; exact hlt
          have e1 : rs[k] = r := by have := HL.out; rw [List.getElem?_eq_getElem hkl] at this; injection this
          rw [List.findIdx_eq hkl]
          refine ⟨by rw [e1]; exact HQ.out, fun j hj => ?_⟩
          exact hno.out j _ (List.getElem?_eq_getElem (by omega)) hj
        rw [place, hfi, if_pos (by rw [HN.out]; exact hlt)]
        rfl
      | false =>
        rw [hq] at hc0
        have HQ := Lib.hid hq
        have hcall := Lib.hid hc0
        clear hq hc0
        go_wp2_with (go_at_fn g; refine hcall.out.mono ?_; rintro e w' ⟨rfl, hb'⟩)
        go_roundw
        case rel =>
          refine ⟨k + 1, by omega, by go_num, hb.trans (hb'.mono hb.size), fun j q hj hjk => ?_⟩
          by_cases e : j = k
          · subst e
            have := HL.out
            rw [hj] at this
            injection this with this
            rw [this]; exact HQ.out
          · exact hno.out j q hj (by omega)
        case measure => simp [intOf]; omega
    · have hkn : k = n := by omega
      subst hkn
      go_wp2
      go_ret
      refine ⟨?_, hb⟩
      have hno' : rs.findIdx p = rs.length := by
        rw [List.findIdx_eq_length]
        intro x hx
        obtain ⟨j, hj, rfl⟩ := List.getElem_of_mem hx
        exact hno.out j _ (List.getElem?_eq_getElem hj) (by rw [← HN.out]; exact hj)
      rw [place, hno', if_neg (by omega)]
      rfl

/-- The first row for which p holds, or a row of zeros. -/
def look (p : TRow → Bool) : TRow := (table.find? p).getD ⟨0, [], 0⟩
def looked (p : TRow → Bool) : Bool := (table.find? p).isSome

theorem table_length : table.length = 35 := by decide +kernel
theorem place_some (p : TRow → Bool) (rs : List TRow) (h : (rs.find? p).isSome = true) : ∃ (k : Nat) (r : TRow), place p rs = k ∧ k < rs.length ∧ rs[k]? = some r ∧ rs.find? p = some r := by
  have hlt : rs.findIdx p < rs.length := by
    rw [List.findIdx_lt_length]
    obtain ⟨x, hx⟩ := Option.isSome_iff_exists.1 h
    exact ⟨x, List.mem_of_find?_eq_some hx, List.find?_some hx⟩
  refine ⟨rs.findIdx p, rs[rs.findIdx p], by rw [place, if_pos hlt], hlt, List.getElem?_eq_getElem hlt, ?_⟩
  rw [List.find?_eq_some_iff_getElem]
  exact ⟨List.findIdx_getElem, rs.findIdx p, hlt, rfl, fun j hj => by simpa using List.not_of_lt_findIdx hj⟩
theorem place_none (p : TRow → Bool) (rs : List TRow) (h : (rs.find? p).isSome = false) : place p rs = -1 ∧ rs.find? p = none := by
  have hn : rs.find? p = none := by simpa using h
  have : rs.findIdx p = rs.length := by
    rw [List.findIdx_eq_length]
    intro x hx
    simpa using List.find?_eq_none.1 hn x hx
  exact ⟨by rw [place, this, if_neg (by omega)], hn⟩

set_option maxHeartbeats 400000 in
set_option maxRecDepth 100000 in
theorem find_any (p : TRow → Bool) (g : Nat) (x : Value) (eg : ∀ args w, (callFunc g args).run Tryz.prog w = .ok (.enter g args) w) (w : World)
    (htab : Lib.TabIs Tryz.prog w "strings.asciiSpace" .u8 Lib.asciiSpaceTab) (hp : Asks p g x w) :
    Calls Tryz.prog 42 #[.func (.func g) #[] #[x]] w fun e w' => e = .returned (.tuple #[(look p).val, .bool (looked p)]) ∧ Below w.heap.size w w' := by
  have hb0 : Below w.heap.size w (w.alloc (.cells #[.int .i64 0, .string ByteArray.empty, .int .i64 0] 77)) := (Below.refl _ _).alloc (Nat.le_refl _) _
  have hR := Lib.hid (rows_any _ (tab_below htab hb0))
  clear htab
  go_enter Tryz.func42, Tryz.ntmps42
  go_wp2_with fail
  refine hR.out.mono ?_
  rintro e w1 ⟨v, rfl, hown, hb1⟩
  have hlen := table_length
  obtain ⟨gb, cap, rfl, hgb, _⟩ := hown.form (by rw [hlen]; omega)
  have hR1 := RowsAt.of_own hown
  have hb01 : Below w.heap.size w w1 := hb0.trans (hb1.mono (by simp))
  have hI := index_any p g x eg gb table.length cap table w1 rfl (by rw [hlen]; omega) hR1 (hp.later hb01)
  have hz1 : w.heap.size < w1.heap.size := by have := hb1.size; simp at this; omega
  have hB1 : Blk w1 w.heap.size 77 #[.int .i64 0, .string ByteArray.empty, .int .i64 0] := (Blk.new w _ _).below hb1 (by simp)
  clear hown hR hp
  rw [hlen] at hI ⊢
  have HI := Lib.hid hI
  clear hI hlen
  go_wp2_with fail
  refine HI.out.mono ?_
  rintro e w2 ⟨rfl, hb2⟩
  have hb02 : Below w.heap.size w w2 := hb01.trans (hb2.mono hb01.size)
  have hB2 : Blk w2 w.heap.size 77 #[.int .i64 0, .string ByteArray.empty, .int .i64 0] := hB1.below hb2 hz1
  have hR2 := hR1.below hb2
  have z0 : w2.cell? ⟨w.heap.size, 0, none⟩ = some (.int .i64 0) := hB2.cell 0
  have z1 : w2.cell? ⟨w.heap.size, 1, none⟩ = some (.string ByteArray.empty) := hB2.cell 1
  have z2 : w2.cell? ⟨w.heap.size, 2, none⟩ = some (.int .i64 0) := hB2.cell 2
  have f0 : w2.frozen? ⟨w.heap.size, 0, none⟩ = false := hB2.frozen 0
  have f1 : w2.frozen? ⟨w.heap.size, 1, none⟩ = false := hB2.frozen 1
  have f2 : w2.frozen? ⟨w.heap.size, 2, none⟩ = false := hB2.frozen 2
  clear hB1 hB2 HI hR1 hb2 hb0
  cases hl : looked p with
  | true =>
    obtain ⟨k, r, hk, hkl, hkr, hfd⟩ := place_some p table hl
    obtain ⟨c0, c1, c2⟩ := hR2 k r hkr
    have hkl' : k < 35 := by rw [table_length] at hkl; exact hkl
    have hlook : look p = r := by rw [look, hfd]; rfl
    rw [hk]
    have HH := Lib.hid hl
    have HK := Lib.hid hlook
    clear hkr hR2 hkl hk hl hfd hlook
    go_wp2
    refine bodyPost_ret (v := .tuple #[r.val, .bool true]) (by simp [results, Tryz.results42, go_sem, TRow.val, z0, z1, z2]) rfl ⟨by rw [HH.out, HK.out], ?_⟩
    exact ((hb02.setCell (Nat.le_refl _) _).setCell (Nat.le_refl _) _).setCell (Nat.le_refl _) _
  | false =>
    obtain ⟨hk, hfd⟩ := place_none p table hl
    have hlook : look p = ⟨0, [], 0⟩ := by rw [look, hfd]; rfl
    rw [hk]
    have HH := Lib.hid hl
    have HK := Lib.hid hlook
    clear hR2 hk hl hfd hlook
    go_wp2
    refine bodyPost_ret (v := .tuple #[TRow.val ⟨0, [], 0⟩, .bool false]) (by simp [results, Tryz.results42, go_sem, TRow.val, z0, z1, z2]) rfl ⟨by rw [HH.out, HK.out], ?_⟩
    exact ((hb02.setCell (Nat.le_refl _) _).setCell (Nat.le_refl _) _).setCell (Nat.le_refl _) _

theorem asks_op (op : Int) (B : Nat) (w : World) (hB : B < w.heap.size) (hc : w.cell? ⟨B, 0, none⟩ = some (.int .i64 op)) :
    Asks (fun r => r.op == op) 70 (.pointer (some ⟨B, 0, none⟩)) w := by
  intro W r hW
  have hc' := (hW.cell (p := ⟨B, 0, none⟩) hB).trans hc
  have hlt : B < W.heap.size := Nat.lt_of_lt_of_le hB hW.size
  clear hc hW hB
  unfold TRow.val
  go_enter Tryz.func70, Tryz.ntmps70
  go_wp2
  go_ret
  exact ⟨rfl, (Below.refl _ _).alloc (Nat.le_refl _) _⟩
theorem asks_word (s : ByteArray) (B : Nat) (w : World) (hB : B < w.heap.size) (hc : w.cell? ⟨B, 0, none⟩ = some (.string s)) :
    Asks (fun r => r.word == s.data.toList) 43 (.pointer (some ⟨B, 0, none⟩)) w := by
  intro W r hW
  have hc' := (hW.cell (p := ⟨B, 0, none⟩) hB).trans hc
  have hlt : B < W.heap.size := Nat.lt_of_lt_of_le hB hW.size
  clear hc hW hB
  unfold TRow.val
  go_enter Tryz.func43, Tryz.ntmps43
  go_wp2
  go_ret
  refine ⟨?_, (Below.refl _ _).alloc (Nat.le_refl _) _⟩
  rw [← ByteArray.toList_eq]
  rfl

theorem enters_op : ∀ args w, (callFunc 70 args).run Tryz.prog w = .ok (.enter 70 args) w := enters_of Tryz.func70 (by kernel_rfl) rfl
theorem enters_word : ∀ args w, (callFunc 43 args).run Tryz.prog w = .ok (.enter 43 args) w := enters_of Tryz.func43 (by kernel_rfl) rfl

def opRow (op : Int) : TRow := look fun r => r.op == op
def opFound (op : Int) : Bool := looked fun r => r.op == op
def wordRow (l : List UInt8) : TRow := look fun r => r.word == l
def wordFound (l : List UInt8) : Bool := looked fun r => r.word == l

set_option maxHeartbeats 400000 in
set_option maxRecDepth 100000 in
theorem ofOp_any (op : Int) (w : World) (htab : Lib.TabIs Tryz.prog w "strings.asciiSpace" .u8 Lib.asciiSpaceTab) :
    Calls Tryz.prog 41 #[.int .i64 op] w fun e w' => e = .returned (.tuple #[.agg #[.int .i64 (opRow op).op, .string ⟨(opRow op).word.toArray⟩, .int .i64 (opRow op).form], .bool (opFound op)]) ∧ Below w.heap.size w w' := by
  have hmf : ∀ (fn : Fn) (first cap : Array Value) (w : World), (Instr.makeFunc fn first cap).run Tryz.prog w = .ok (.func fn first cap) w := fun _ _ _ _ => rfl
  have hb0 : Below w.heap.size w ((w.alloc (.cells #[.int .i64 op] 3)).alloc (.cells #[.int .i64 0, .string ByteArray.empty, .int .i64 0] 77)) := ((Below.refl _ _).alloc (Nat.le_refl _) _).alloc (by simp) _
  have hF : Calls Tryz.prog 42 #[.func (.func 70) #[] #[.pointer (some ⟨w.heap.size, 0, none⟩)]] ((w.alloc (.cells #[.int .i64 op] 3)).alloc (.cells #[.int .i64 0, .string ByteArray.empty, .int .i64 0] 77))
      fun e w' => e = .returned (.tuple #[.agg #[.int .i64 (opRow op).op, .string ⟨(opRow op).word.toArray⟩, .int .i64 (opRow op).form], .bool (opFound op)]) ∧ Below (w.heap.size + 2) ((w.alloc (.cells #[.int .i64 op] 3)).alloc (.cells #[.int .i64 0, .string ByteArray.empty, .int .i64 0] 77)) w' := by
    refine (find_any _ _ _ enters_op _ (tab_below htab hb0) (asks_op op w.heap.size _ (by simp; omega) (((Blk.new w _ _).alloc _).cell 0))).mono fun e w' ⟨h, hb⟩ => ⟨h, by simpa using hb⟩
  have HF := Lib.hid hF
  clear htab hF
  go_enter Tryz.func41, Tryz.ntmps41
  go_wp2_with fail
  refine HF.out.mono ?_
  rintro e w1 ⟨rfl, hb1⟩
  have hb01 : Below w.heap.size w w1 := hb0.trans (hb1.mono (by omega))
  have hB1 : Blk w1 (w.heap.size + 1) 77 #[.int .i64 0, .string ByteArray.empty, .int .i64 0] := by
    have := (Blk.new (w.alloc (.cells #[.int .i64 op] 3)) 77 #[.int .i64 0, .string ByteArray.empty, .int .i64 0]).below hb1 (by simp)
    simpa using this
  have z0 : w1.cell? ⟨w.heap.size + 1, 0, none⟩ = some (.int .i64 0) := hB1.cell 0
  have z1 : w1.cell? ⟨w.heap.size + 1, 1, none⟩ = some (.string ByteArray.empty) := hB1.cell 1
  have z2 : w1.cell? ⟨w.heap.size + 1, 2, none⟩ = some (.int .i64 0) := hB1.cell 2
  have f0 : w1.frozen? ⟨w.heap.size + 1, 0, none⟩ = false := hB1.frozen 0
  have f1 : w1.frozen? ⟨w.heap.size + 1, 1, none⟩ = false := hB1.frozen 1
  have f2 : w1.frozen? ⟨w.heap.size + 1, 2, none⟩ = false := hB1.frozen 2
  clear hB1 HF hb0 hb1
  go_wp2
  refine bodyPost_ret (v := .tuple #[.agg #[.int .i64 (opRow op).op, .string ⟨(opRow op).word.toArray⟩, .int .i64 (opRow op).form], .bool (opFound op)]) (by simp [results, Tryz.results41, go_sem, z0, z1, z2]) rfl ⟨rfl, ?_⟩
  exact ((hb01.setCell (by simp) _).setCell (by simp) _).setCell (by simp) _

set_option maxHeartbeats 400000 in
set_option maxRecDepth 100000 in
theorem Form_any (op : Int) (w : World) (htab : Lib.TabIs Tryz.prog w "strings.asciiSpace" .u8 Lib.asciiSpaceTab) :
    Calls Tryz.prog 11 #[.int .i64 op] w fun e w' => e = .returned (.int .i64 (opRow op).form) ∧ Below w.heap.size w w' := by
  have HF := Lib.hid (ofOp_any op w htab)
  clear htab
  go_enter Tryz.func11, Tryz.ntmps11
  go_wp2_with fail
  refine HF.out.mono ?_
  rintro e w1 ⟨rfl, hb1⟩
  have hsz := hb1.size
  go_wp2
  go_ret
  exact ⟨rfl, hb1.alloc hsz _⟩
set_option maxHeartbeats 400000 in
set_option maxRecDepth 100000 in
theorem Name_any (op : Int) (w : World) (htab : Lib.TabIs Tryz.prog w "strings.asciiSpace" .u8 Lib.asciiSpaceTab) :
    Calls Tryz.prog 13 #[.int .i64 op] w fun e w' => e = .returned (.string ⟨(opRow op).word.toArray⟩) ∧ Below w.heap.size w w' := by
  have HF := Lib.hid (ofOp_any op w htab)
  clear htab
  go_enter Tryz.func13, Tryz.ntmps13
  go_wp2_with fail
  refine HF.out.mono ?_
  rintro e w1 ⟨rfl, hb1⟩
  have hsz := hb1.size
  go_wp2
  go_ret
  exact ⟨rfl, hb1.alloc hsz _⟩
set_option maxHeartbeats 400000 in
set_option maxRecDepth 100000 in
theorem Number_any (s : ByteArray) (w : World) (htab : Lib.TabIs Tryz.prog w "strings.asciiSpace" .u8 Lib.asciiSpaceTab) :
    Calls Tryz.prog 15 #[.string s] w fun e w' => e = .returned (.int .i64 (wordRow s.data.toList).op) ∧ Below w.heap.size w w' := by
  have hmf : ∀ (fn : Fn) (first cap : Array Value) (w : World), (Instr.makeFunc fn first cap).run Tryz.prog w = .ok (.func fn first cap) w := fun _ _ _ _ => rfl
  have hb0 : Below w.heap.size w (w.alloc (.cells #[.string s] 9)) := (Below.refl _ _).alloc (Nat.le_refl _) _
  have hF : Calls Tryz.prog 42 #[.func (.func 43) #[] #[.pointer (some ⟨w.heap.size, 0, none⟩)]] (w.alloc (.cells #[.string s] 9))
      fun e w' => e = .returned (.tuple #[.agg #[.int .i64 (wordRow s.data.toList).op, .string ⟨(wordRow s.data.toList).word.toArray⟩, .int .i64 (wordRow s.data.toList).form], .bool (wordFound s.data.toList)]) ∧ Below (w.heap.size + 1) (w.alloc (.cells #[.string s] 9)) w' := by
    refine (find_any _ _ _ enters_word _ (tab_below htab hb0) (asks_word s w.heap.size _ (by simp) ((Blk.new w _ _).cell 0))).mono fun e w' ⟨h, hb⟩ => ⟨h, by simpa using hb⟩
  have HF := Lib.hid hF
  clear htab hF
  go_enter Tryz.func15, Tryz.ntmps15
  go_wp2_with fail
  refine HF.out.mono ?_
  rintro e w1 ⟨rfl, hb1⟩
  have hsz := hb1.size
  have hb01 : Below w.heap.size w w1 := hb0.trans (hb1.mono (by omega))
  simp at hsz
  go_wp2
  go_ret
  exact ⟨rfl, hb01.alloc (by omega) _⟩
end Go.Proofs.YtecmeegnjjhilaaGreatDoor
