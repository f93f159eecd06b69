/- isa.rows: the instruction table as a row of new memory; what the closure inside it appends. -/
import Derived.Test.YtecmeegnjjhilaaGreatDoorBase
import Derived.Test.YtecmeegnjjhilaaGreatDoorShelf
namespace Go.Proofs.YtecmeegnjjhilaaGreatDoor
open Go.RowKit
/-- A row of the table: the number, the word's bytes, the form. -/
structure TRow where
  op : Int
  word : List UInt8
  form : Int
deriving Inhabited, DecidableEq

def str (l : List UInt8) : Value := .string ⟨l.toArray⟩
def TRow.enc (r : TRow) : List Value := [.int .i64 r.op, str r.word, .int .i64 r.form]
def encs (rs : List TRow) : List Value := rs.flatMap TRow.enc
theorem encs_append (a b : List TRow) : encs (a ++ b) = encs a ++ encs b := by simp [encs]
/-- What add appends. -/
def added (form op : Int) (ws : List (List UInt8)) : List TRow := ws.zipIdx.map fun x => ⟨op + x.2, x.1, form⟩
theorem added_length (form op : Int) (ws : List (List UInt8)) : (added form op ws).length = ws.length := by simp [added]
theorem added_at (form op : Int) (ws : List (List UInt8)) (k : Nat) (hk : k < ws.length) : (added form op ws)[k]'(by rw [added_length]; exact hk) = ⟨op + k, ws[k], form⟩ := by simp [added]
theorem added_step (form op : Int) (ws : List (List UInt8)) (k : Nat) (hk : k < ws.length) : (added form op ws).take (k + 1) = (added form op ws).take k ++ [⟨op + k, ws[k], form⟩] := by
  rw [List.take_succ_eq_append_getElem (by rw [added_length]; exact hk), added_at form op ws k hk]

theorem rowinfo : (Tryz.prog.info? 77).map (fun i => (i.zero, i.size, i.bytes)) = some (some (.agg #[.int .i64 0, .string ByteArray.empty, .int .i64 0]), 3, 32) := by kernel_rfl

set_option maxHeartbeats 400000 in
set_option maxRecDepth 100000 in
theorem add_any (B : Nat) (form op : Int) (s : ByteArray) (rs : List TRow) (v : Value) (w : World)
    (hs : s.size < 4096) (hop : 0 ≤ op ∧ op ≤ 1000) (hrs : rs.length ≤ 1000) (hws : (Lib.fields s.data.toList).length ≤ 1000)
    (hascii : ∀ (j : Nat) b, s.data.toList[j]? = some b → b.toNat < 128) (htab : Lib.TabIs Tryz.prog w "strings.asciiSpace" .u8 Lib.asciiSpaceTab)
    (hB : Blk w B 131 #[v]) (hown : w.ownsRow (B + 1) 77 3 v rs.length (encs rs)) :
    Calls Tryz.prog 99 #[.int .i64 form, .int .i64 op, .string s, .pointer (some ⟨B, 0, none⟩)] w fun e w' => e = .returned (.tuple #[]) ∧
      ∃ v', Blk w' B 131 #[v'] ∧ w'.ownsRow (B + 1) 77 3 v' (rs ++ added form op (Lib.fields s.data.toList)).length (encs (rs ++ added form op (Lib.fields s.data.toList))) ∧ Below B w w' := by
  obtain ⟨i0, hi, hz0, hz1, hz2⟩ := info_parts rowinfo
  generalize hws' : Lib.fields s.data.toList = ws at hws ⊢
  have HF := Lib.hid hws'
  clear hws'
  go_enter Tryz.func99, Tryz.ntmps99
  go_wp2_with (go_at_call 100; refine (Tryz.strings_Fields _ _ (by omega) hascii htab).mono ?_; rintro e w' ⟨rfl, rfl⟩)
  rw [HF.out]
  have hsz := hB.lt
  go_loopw [12] (fun s12 wr => ∃ (k : Nat) (v' : Value), k ≤ ws.length ∧ s12 = .int .i64 k ∧ Blk wr B 131 #[v'] ∧ Blk wr w.heap.size 9 (ws.map fun l => Value.string ⟨l.toArray⟩).toArray ∧
      wr.ownsRow (B + 1) 77 3 v' (rs ++ (added form op ws).take k).length (encs (rs ++ (added form op ws).take k)) ∧ Below B w wr) (fun i _ => ws.length - (intOf i).toNat)
  case atStart =>
    exact ⟨0, v, Nat.zero_le _, rfl, hB.alloc _, Blk.new _ _ _, by simpa using hown.alloc _, (Below.refl _ _).alloc (by omega) _⟩
  case round =>
    obtain ⟨k, v', hk, rfl, hBk, hSk, hownk, hbk⟩ := hrel
    have hc : wr.cell? ⟨B, 0, none⟩ = some v' := hBk.cell 0
    have hf : wr.frozen? ⟨B, 0, none⟩ = false := hBk.frozen 0
    by_cases hlt : k < ws.length
    · obtain ⟨l, hl⟩ : ∃ l, ws[k]? = some l := ⟨_, List.getElem?_eq_getElem hlt⟩
      have hx : wr.cell? ⟨w.heap.size, k, none⟩ = some (.string ⟨l.toArray⟩) := by rw [hSk.cell k]; simp [hl]
      have HL := Lib.hid hl
      clear hl hascii htab hB hown
      have hnk : (added form op ws).length = ws.length := added_length form op ws
      have hle : ((added form op ws).take k).length ≤ 1000 := by rw [List.length_take]; omega
      have hlen : (rs ++ (added form op ws).take k).length ≤ 2000 := by rw [List.length_append]; omega
      clear hnk hle
      generalize hcur : rs ++ (added form op ws).take k = cur at hownk hlen
      have HC := Lib.hid hcur
      clear hcur
      go_wp2_with (at_builtin; refine wpList_append_own _ rfl (.tmp 17) (.tmp 24) _ rfl (B + 1) 77 i0 _ 3 32 Tryz.underlying131 hi hz0 hz1 hz2 rfl (by decide) v' cur.length (encs cur) rfl (hownk.alloc _) ⟨wr.heap.size, 0, none⟩ 1 1 (TRow.enc ⟨op + k, l, form⟩) rfl rfl ?c1 ?c2 ?c3 ?c4 ?c5 ?_)
      case c1 => exact fun j u hu => new_cells wr _ _ j u hu
      case c2 => intro u hu; simp only [TRow.enc, str, List.mem_cons, List.not_mem_nil, or_false] at hu; rcases hu with rfl | rfl | rfl <;> rfl
      case c3 => unfold maxLen; omega
      case c4 => omega
      case c5 => simp; have := hBk.lt; omega
      intro v2 w2 hown2 hg2 _
      have hB2 : Blk w2 B 131 #[v'] := (hBk.alloc _).grown hg2 (own_apart_base hownk (by omega))
      have hS2 : Blk w2 w.heap.size 9 (ws.map fun l => Value.string ⟨l.toArray⟩).toArray := (hSk.alloc _).grown hg2 (own_apart hownk hSk (by decide))
      have hb2 : Below B w w2 := (hbk.alloc (by have := hBk.lt; omega) _).grown hg2 (by simp; have := hBk.lt; omega) (fun k hk => by have := own_from hownk k hk; omega)
      have hc2 : w2.cell? ⟨B, 0, none⟩ = some v' := hB2.cell 0
      have hf2 : w2.frozen? ⟨B, 0, none⟩ = false := hB2.frozen 0
      have hv2 : ∃ A n c, v2 = .slice A n c := by
        rcases hown2.2 with ⟨h, _⟩ | ⟨g, cap, cur, h, _⟩
        · exact ⟨_, _, _, h⟩
        · exact ⟨_, _, _, h⟩
      obtain ⟨A2, n2, c2, hv2⟩ := hv2
      rw [hv2]
      rw [hv2] at hown2
      clear hv2 hc hf hx
      go_wp2
      go_roundw
      case rel =>
        refine ⟨k + 1, _, by omega, by go_num, hB2.store 0 _, hS2.far (p := ⟨B, 0, none⟩) (by have := hsz; simp; omega) _, ?_, hb2.setCell (Nat.le_refl _) _⟩
        have hs2 := ownsRow_setCell_below hown2 (a := ⟨B, 0, none⟩) (by simp) (.slice A2 n2 c2)
        have hcur : rs ++ (added form op ws).take (k + 1) = cur ++ [⟨op + k, l, form⟩] := by
          have hk2 : ws[k] = l := by have := HL.out; rw [List.getElem?_eq_getElem hlt] at this; injection this
          rw [added_step form op ws k hlt, ← List.append_assoc, HC.out, hk2]
        rw [hcur, encs_append]
        simpa [encs] using hs2
      case measure => simp [intOf]; omega
    · have hkw : k = ws.length := by omega
      go_wp2
      go_end0
      refine ⟨rfl, v', hBk, ?_, hbk⟩
      rw [List.take_of_length_le (by rw [added_length]; omega)] at hownk
      exact hownk

theorem ascii_of (s : ByteArray) (h : s.data.toList.all (fun b => decide (b.toNat < 128)) = true) : ∀ (j : Nat) b, s.data.toList[j]? = some b → b.toNat < 128 := by
  intro j b hb
  have := List.all_eq_true.1 h b (List.mem_of_getElem? hb)
  simpa using this

def tbw1 : ByteArray := ⟨#[97, 100, 100, 32, 115, 117, 98, 32, 97, 110, 100, 32, 111, 114, 32, 120, 111, 114, 32, 115, 104, 108, 32, 115, 104, 114, 32, 115, 97, 114, 32, 109, 117, 108, 32, 100, 105, 118, 117, 32, 100, 105, 118, 115, 32, 114, 101, 109, 117, 32, 114, 101, 109, 115, 32, 115, 108, 116, 117, 32, 115, 108, 116, 115]⟩
def tb1 : List TRow := ([] : List TRow) ++ added 1 1 (Lib.fields tbw1.data.toList)
def tbw2 : ByteArray := ⟨#[97, 100, 100, 105]⟩
def tb2 : List TRow := tb1 ++ added 2 16 (Lib.fields tbw2.data.toList)
def tbw3 : ByteArray := ⟨#[97, 110, 100, 105, 32, 111, 114, 105, 32, 120, 111, 114, 105]⟩
def tb3 : List TRow := tb2 ++ added 3 17 (Lib.fields tbw3.data.toList)
def tbw4 : ByteArray := ⟨#[108, 117, 105]⟩
def tb4 : List TRow := tb3 ++ added 4 20 (Lib.fields tbw4.data.toList)
def tbw5 : ByteArray := ⟨#[108, 119, 32, 108, 104, 32, 108, 98, 32, 115, 119, 32, 115, 104, 32, 115, 98]⟩
def tb5 : List TRow := tb4 ++ added 2 32 (Lib.fields tbw5.data.toList)
def tbw6 : ByteArray := ⟨#[98, 101, 113, 32, 98, 110, 101, 32, 98, 108, 116, 117, 32, 98, 108, 116, 115, 32, 98, 103, 101, 117, 32, 98, 103, 101, 115]⟩
def tb6 : List TRow := tb5 ++ added 2 48 (Lib.fields tbw6.data.toList)
def tbw7 : ByteArray := ⟨#[106, 97, 108]⟩
def tb7 : List TRow := tb6 ++ added 5 54 (Lib.fields tbw7.data.toList)
def tbw8 : ByteArray := ⟨#[106, 114]⟩
def tb8 : List TRow := tb7 ++ added 6 55 (Lib.fields tbw8.data.toList)
def tbw9 : ByteArray := ⟨#[115, 121, 115]⟩
def tb9 : List TRow := tb8 ++ added 7 64 (Lib.fields tbw9.data.toList)
/-- The whole table. -/
def table : List TRow := tb9
theorem tab_below {P : Program} {w w' : World} {n : String} {k : IntKind} {zs : List Int} (h : Lib.TabIs P w n k zs) (hb : Below w.heap.size w w') : Lib.TabIs P w' n k zs := by
  unfold Lib.TabIs World.var? at h ⊢
  cases hg : P.globalNamed n with
  | none => rw [hg] at h; simp at h
  | some g =>
    rw [hg] at h
    simp only [Option.bind_some] at h ⊢
    have hlt : g < w.heap.size := by
      rcases Nat.lt_or_ge g w.heap.size with hl | hl
      · exact hl
      · rw [Array.getElem?_eq_none hl] at h; simp at h
    rw [hb.block g hlt]
    exact h

set_option maxHeartbeats 1000000 in
set_option maxRecDepth 100000 in
theorem rows_any (w : World) (htab : Lib.TabIs Tryz.prog w "strings.asciiSpace" .u8 Lib.asciiSpaceTab) :
    Calls Tryz.prog 71 #[] w fun e w' => ∃ v, e = .returned v ∧ w'.ownsRow (w.heap.size + 1) 77 3 v table.length (encs table) ∧ Below w.heap.size w w' := by
  have hmf : ∀ (fn : Fn) (first cap : Array Value) (w : World), (Instr.makeFunc fn first cap).run Tryz.prog w = .ok (.func fn first cap) w := fun _ _ _ _ => rfl
  have Hmf := Lib.hid htab
  clear htab
  go_enter Tryz.func71, Tryz.ntmps71
  go_wp2_with fail
  have hB0 : Blk (w.alloc (.cells #[.slice none 0 0] 131)) w.heap.size 131 #[.slice none 0 0] := Blk.new _ _ _
  have hb0 : Below w.heap.size w (w.alloc (.cells #[.slice none 0 0] 131)) := (Below.refl _ _).alloc (Nat.le_refl _) _
  have ho0 : (w.alloc (.cells #[.slice none 0 0] 131)).ownsRow (w.heap.size + 1) 77 3 (.slice none 0 0) ([] : List TRow).length (encs []) := own_nil _ _ _ _

  refine (add_any w.heap.size 1 1 _ [] _ _ (by decide) (by decide) (by decide) (by decide +kernel) (ascii_of _ (by decide +kernel)) (tab_below Hmf.out hb0) hB0 ho0).mono ?_
  rintro e w1 ⟨rfl, v1, hB1, ho1', hq1⟩
  have ho1 : w1.ownsRow (w.heap.size + 1) 77 3 v1 tb1.length (encs tb1) := ho1'
  have hb1 : Below w.heap.size w w1 := hb0.trans hq1
  clear hB0 ho0 ho1' hb0 hq1
  go_wp2_with fail
  refine (add_any w.heap.size 2 16 _ tb1 _ _ (by decide) (by decide) (by decide) (by decide +kernel) (ascii_of _ (by decide +kernel)) (tab_below Hmf.out hb1) hB1 ho1).mono ?_
  rintro e w2 ⟨rfl, v2, hB2, ho2', hq2⟩
  have ho2 : w2.ownsRow (w.heap.size + 1) 77 3 v2 tb2.length (encs tb2) := ho2'
  have hb2 : Below w.heap.size w w2 := hb1.trans hq2
  clear hB1 ho1 ho2' hb1 hq2
  go_wp2_with fail
  refine (add_any w.heap.size 3 17 _ tb2 _ _ (by decide) (by decide) (by decide) (by decide +kernel) (ascii_of _ (by decide +kernel)) (tab_below Hmf.out hb2) hB2 ho2).mono ?_
  rintro e w3 ⟨rfl, v3, hB3, ho3', hq3⟩
  have ho3 : w3.ownsRow (w.heap.size + 1) 77 3 v3 tb3.length (encs tb3) := ho3'
  have hb3 : Below w.heap.size w w3 := hb2.trans hq3
  clear hB2 ho2 ho3' hb2 hq3
  go_wp2_with fail
  refine (add_any w.heap.size 4 20 _ tb3 _ _ (by decide) (by decide) (by decide) (by decide +kernel) (ascii_of _ (by decide +kernel)) (tab_below Hmf.out hb3) hB3 ho3).mono ?_
  rintro e w4 ⟨rfl, v4, hB4, ho4', hq4⟩
  have ho4 : w4.ownsRow (w.heap.size + 1) 77 3 v4 tb4.length (encs tb4) := ho4'
  have hb4 : Below w.heap.size w w4 := hb3.trans hq4
  clear hB3 ho3 ho4' hb3 hq4
  go_wp2_with fail
  refine (add_any w.heap.size 2 32 _ tb4 _ _ (by decide) (by decide) (by decide) (by decide +kernel) (ascii_of _ (by decide +kernel)) (tab_below Hmf.out hb4) hB4 ho4).mono ?_
  rintro e w5 ⟨rfl, v5, hB5, ho5', hq5⟩
  have ho5 : w5.ownsRow (w.heap.size + 1) 77 3 v5 tb5.length (encs tb5) := ho5'
  have hb5 : Below w.heap.size w w5 := hb4.trans hq5
  clear hB4 ho4 ho5' hb4 hq5
  go_wp2_with fail
  refine (add_any w.heap.size 2 48 _ tb5 _ _ (by decide) (by decide) (by decide) (by decide +kernel) (ascii_of _ (by decide +kernel)) (tab_below Hmf.out hb5) hB5 ho5).mono ?_
  rintro e w6 ⟨rfl, v6, hB6, ho6', hq6⟩
  have ho6 : w6.ownsRow (w.heap.size + 1) 77 3 v6 tb6.length (encs tb6) := ho6'
  have hb6 : Below w.heap.size w w6 := hb5.trans hq6
  clear hB5 ho5 ho6' hb5 hq6
  go_wp2_with fail
  refine (add_any w.heap.size 5 54 _ tb6 _ _ (by decide) (by decide) (by decide) (by decide +kernel) (ascii_of _ (by decide +kernel)) (tab_below Hmf.out hb6) hB6 ho6).mono ?_
  rintro e w7 ⟨rfl, v7, hB7, ho7', hq7⟩
  have ho7 : w7.ownsRow (w.heap.size + 1) 77 3 v7 tb7.length (encs tb7) := ho7'
  have hb7 : Below w.heap.size w w7 := hb6.trans hq7
  clear hB6 ho6 ho7' hb6 hq7
  go_wp2_with fail
  refine (add_any w.heap.size 6 55 _ tb7 _ _ (by decide) (by decide) (by decide) (by decide +kernel) (ascii_of _ (by decide +kernel)) (tab_below Hmf.out hb7) hB7 ho7).mono ?_
  rintro e w8 ⟨rfl, v8, hB8, ho8', hq8⟩
  have ho8 : w8.ownsRow (w.heap.size + 1) 77 3 v8 tb8.length (encs tb8) := ho8'
  have hb8 : Below w.heap.size w w8 := hb7.trans hq8
  clear hB7 ho7 ho8' hb7 hq8
  go_wp2_with fail
  refine (add_any w.heap.size 7 64 _ tb8 _ _ (by decide) (by decide) (by decide) (by decide +kernel) (ascii_of _ (by decide +kernel)) (tab_below Hmf.out hb8) hB8 ho8).mono ?_
  rintro e w9 ⟨rfl, v9, hB9, ho9', hq9⟩
  have ho9 : w9.ownsRow (w.heap.size + 1) 77 3 v9 tb9.length (encs tb9) := ho9'
  have hb9 : Below w.heap.size w w9 := hb8.trans hq9
  clear hB8 ho8 ho9' hb8 hq9
  have hc : w9.cell? ⟨w.heap.size, 0, none⟩ = some v9 := hB9.cell 0
  go_wp2
  go_ret
  exact ⟨v9, rfl, ho9, hb9⟩
end Go.Proofs.YtecmeegnjjhilaaGreatDoor
