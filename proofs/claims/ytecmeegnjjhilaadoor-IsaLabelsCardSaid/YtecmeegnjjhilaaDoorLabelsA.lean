/- ferrylaw04.IsaLabels: the walk. UNDER WORK. -/
import Derived.Test.YtecmeegnjjhilaaDoorFixed
import Derived.Test.YtecmeegnjjhilaaDoorJump
import Derived.Lib.SmallJoins
namespace Go.Proofs.YtecmeegnjjhilaaDoor
open Go.RowKit

theorem line_len (jl : List UInt8) (hj : jl.length ≤ 30) (n frm to_ k : Nat) : (textL (lineAt jl n frm to_ k)).length ≤ 40 := by
  unfold lineAt
  repeat' split
  all_goals simp [hereW, wNop, textL] <;> omega
theorem text_next (jl : List UInt8) (n frm to_ k : Nat) : textL (linesTo jl n frm to_ (k + 1)) = textL (linesTo jl n frm to_ k) ++ textL (lineAt jl n frm to_ k) := by
  rw [linesTo_succ]
  simp [textL]
theorem lit_size (l : List UInt8) : (⟨l.toArray⟩ : ByteArray).size = l.length := by rw [Lib.size_eq]
theorem string_of {T : ByteArray} {l : List UInt8} (h : T.data.toList = l) : T = ⟨l.toArray⟩ := bytes_same (by rw [h])
theorem jump_asm (er : Nat → Addr) (op : Int) (n frm to_ : Nat) (hn : n ≤ 512) (hf : frm < n) (ht : to_ ≤ n) (w : World) (E : Env er w) (hs : (⟨(jumpText op n frm to_).toArray⟩ : ByteArray).size ≤ 100000000) :
    Calls Tryd.prog 6 #[.string ⟨(jumpText op n frm to_).toArray⟩] w fun e w' => Below w.heap.size w w' ∧ ∃ g c, e = .returned (.tuple #[.slice (some ⟨g, 0, none⟩) n c, .nilIface]) ∧
      w'.cell? ⟨g, frm, none⟩ = some (.int .u32 (orLow (kindJ op).base (jumpV op frm to_))) := by
  refine (assemble_any er _ hs w E).mono fun e w' h => ?_
  unfold AsmOut at h
  rw [asm_text op n frm to_ hn hf ht] at h
  obtain ⟨hb, A, c, he, hown⟩ := h
  have hl : ((wordsTo (kindJ op).base frm n).set frm (orLow (kindJ op).base (jumpV op frm to_))).length = n := by rw [List.length_set, wordsTo_length]
  refine ⟨hb, ?_⟩
  rw [hl] at he hown
  rcases hown.2 with ⟨h1, h2⟩ | ⟨g, cap, cur, h1, _⟩
  · omega
  · injection h1 with h1 _ _
    subst h1
    refine ⟨g, c, he, ?_⟩
    rw [hown.cellAt frm (by omega)]
    simp [w32, wordsTo_length, hf]
theorem jump_dec (er : Nat → Addr) (op : Int) (x v : Int) (h : 0 ≤ x ∧ x < 4294967296 ∧ decC x = 0 ∧ decI x = ⟨(kindJ op).op, 3, (kindJ op).b, 0, v⟩) (o b : Int) (ho : (kindJ op).op = o) (hb : (kindJ op).b = b) (W : World) (E : Env er W) :
    Calls Tryd.prog 7 #[.int .u32 x] W fun e w' => e = .returned (.tuple #[.agg #[.int .i64 o, .int .i64 3, .int .i64 b, .int .i64 0, .int .i64 v], .nilIface]) ∧ Below W.heap.size W w' := by
  have := Decode_any x h.1 h.2.1 er W E
  rw [h.2.2.1, h.2.2.2, errV_zero, ho, hb] at this
  exact this

set_option maxHeartbeats 2000000 in
set_option maxRecDepth 100000 in
theorem labels_walk (er : Nat → Addr) (lines frm0 to0 op : Int) (w : World) (E : Env er w) :
    Calls Tryd.prog 3 #[.agg #[.int .i64 lines, .int .i64 frm0, .int .i64 to0, .int .i64 op]] w fun e w' => e = .returned (.bool true) ∧ Below w.heap.size w w' := by
  have HE := Lib.hid E
  have hbx := (Below.refl w.heap.size w).alloc (Nat.le_refl _) (.cells #[.int .i64 lines, .int .i64 frm0, .int .i64 to0, .int .i64 op] 23)
  have HF := Lib.hid (fixed_any er _ (HE.out.below hbx))
  have hJ := Blk.new w 23 #[.int .i64 lines, .int .i64 frm0, .int .i64 to0, .int .i64 op]
  clear E
  go_enter Tryd.func3, Tryd.ntmps3
  go_wp2_with fail
  refine HF.out.mono ?_
  rintro e w1 ⟨rfl, hb1⟩
  have hb01 : Below w.heap.size w w1 := hbx.trans (hb1.mono (by simp))
  have hJ1 := hJ.below hb1 (by simp)
  have c0 : w1.cell? ⟨w.heap.size, 0, none⟩ = some (.int .i64 lines) := hJ1.cell 0
  have c1 : w1.cell? ⟨w.heap.size, 1, none⟩ = some (.int .i64 frm0) := hJ1.cell 1
  have c2 : w1.cell? ⟨w.heap.size, 2, none⟩ = some (.int .i64 to0) := hJ1.cell 2
  have c3 : w1.cell? ⟨w.heap.size, 3, none⟩ = some (.int .i64 op) := hJ1.cell 3
  have hJl := hJ1.lt
  clear HF hbx hJ hb1
  go_wp2_with fail
  obtain ⟨n, hn⟩ : ∃ n : Nat, min (max lines 1) 512 = (n : Int) := Int.eq_ofNat_of_zero_le (by omega)
  have hn1 : 1 ≤ n ∧ n ≤ 512 := by omega
  rw [hn]
  obtain ⟨frm, hfrm⟩ : ∃ f : Nat, min (max frm0 0) ((n : Int) - 1) = (f : Int) := Int.eq_ofNat_of_zero_le (by omega)
  obtain ⟨to_, hto_⟩ : ∃ f : Nat, min (max to0 0) (n : Int) = (f : Int) := Int.eq_ofNat_of_zero_le (by omega)
  have hf1 : frm < n := by omega
  have ht1 : to_ ≤ n := by omega
  clear hn
  have HN := Lib.hid (Name_any op w1.drew (HE.out.below (below_drewN hb01 1)).space)
  go_region
  clear hfrm hto_
  go_wp2_with fail
  refine HN.out.mono ?_
  rintro e w2 ⟨rfl, hb2⟩
  have hb02 : Below w.heap.size w w2 := (below_drewN hb01 1).trans (hb2.mono (by exact hb01.size))
  have d3 : w2.cell? ⟨w.heap.size, 3, none⟩ = some (.int .i64 op) := by
    have : Blk w2 w.heap.size 23 #[.int .i64 lines, .int .i64 frm0, .int .i64 to0, .int .i64 op] := Blk.below (w := w1.drew) hJ1 hb2 (by exact hJl)
    exact this.cell 3
  clear HN hb2 hb01 hJ1 c0 c1 c2 c3 hJl
  have hx : ∃ X : ByteArray, (⟨(opRow op).word.toArray⟩ : ByteArray) = X := ⟨_, rfl⟩
  obtain ⟨X, hX⟩ := hx
  rw [hX]
  by_cases h54 : op = 54
  · subst h54
    obtain rfl : X = ⟨#[106, 97, 108]⟩ := hX.symm.trans (by decide +kernel)
    clear hX
    have JL : Hid ((kindJ 54).line = [106, 97, 108, 32, 114, 51, 44, 32, 104, 101, 114, 101]) := Lib.hid (by decide +kernel)
    have HV : Hid (jumpV 54 frm to_ = (to_ : Int) - frm - 1) := Lib.hid (if_pos (by decide +kernel))
    have HW := Lib.hid (jump_word 54 (jumpV 54 frm to_) (by rw [HV.out]; omega))
    have HKo : Hid ((kindJ 54).op = 54) := Lib.hid (by decide +kernel)
    have HKb : Hid ((kindJ 54).b = 0) := Lib.hid (by decide +kernel)
    obtain ⟨jl, hjl⟩ : ∃ jl, (kindJ 54).line = jl := ⟨_, rfl⟩
    rw [hjl] at JL
    have HJ := Lib.hid hjl
    clear hjl
    go_wp2_with fail
    go_loopw [7, 8] (fun s7 s8 wr => wr = w2 ∧ ∃ (i : Nat) (T : ByteArray), i ≤ n + 1 ∧ s8 = .int .i64 i ∧ s7 = .string T ∧ T.size ≤ 40 * i ∧ Hid (T.data.toList = textL (linesTo jl n frm to_ i))) (fun _ s8 _ => n + 1 - (intOf s8).toNat)
    case atStart => exact ⟨rfl, 0, ⟨#[]⟩, by omega, rfl, rfl, by decide, Lib.hid (by simp [linesTo, textL])⟩
    case round =>
      obtain ⟨rfl, i, T, hi, rfl, rfl, hT, HT⟩ := hrel
      have HNx := Lib.hid (text_next jl n frm to_ i)
      by_cases hle : i ≤ n
      · by_cases hto : i = to_
        · by_cases hn : i = n
          · have HLn : Hid (textL (lineAt jl n frm to_ i) = [104, 101, 114, 101, 58, 10]) := Lib.hid (by
              unfold lineAt
              rw [if_pos hto, if_pos hn]
              simp [textL, hereW, wNop])
            have t1 : ((i : Int) == (to_ : Int)) = true := by simp; omega
            have t2 : ((i : Int) == (n : Int)) = true := by simp; omega
            clear hto hn
            go_wp2_with fail
            go_roundw
            case rel =>
              refine ⟨trivial, i + 1, _, by omega, by go_num, rfl, ?_, Lib.hid ?_⟩
              · try simp only [ByteArray.size_append, lit_size]
                try simp
                omega
              · rw [HNx.out, HLn.out, ← HT.out]
                simp [Joins.data_append]
            case measure => simp [intOf]; omega
          · by_cases hf : i = frm
            · have HLn : Hid (textL (lineAt jl n frm to_ i) = [104, 101, 114, 101, 58, 10] ++ ([106, 97, 108, 32, 114, 51, 44, 32, 104, 101, 114, 101, 10])) := Lib.hid (by
                unfold lineAt
                rw [if_pos hto, if_neg hn, if_pos hf]
                simp [textL, hereW, wNop, JL.out])
              have t1 : ((i : Int) == (to_ : Int)) = true := by simp; omega
              have t2 : ((i : Int) == (n : Int)) = false := by simp; omega
              have t3 : ((i : Int) != (frm : Int)) = false := by simp; omega
              clear hto hn hf
              go_wp2_with fail
              go_roundw
              case rel =>
                refine ⟨trivial, i + 1, _, by omega, by go_num, rfl, ?_, Lib.hid ?_⟩
                · try simp only [ByteArray.size_append, lit_size]
                  try simp
                  omega
                · rw [HNx.out, HLn.out, ← HT.out]
                  simp [Joins.data_append]
              case measure => simp [intOf]; omega
            · have HLn : Hid (textL (lineAt jl n frm to_ i) = [104, 101, 114, 101, 58, 10] ++ [110, 111, 112, 10]) := Lib.hid (by
                unfold lineAt
                rw [if_pos hto, if_neg hn, if_neg hf]
                simp [textL, hereW, wNop])
              have t1 : ((i : Int) == (to_ : Int)) = true := by simp; omega
              have t2 : ((i : Int) == (n : Int)) = false := by simp; omega
              have t3 : ((i : Int) != (frm : Int)) = true := by simp; omega
              clear hto hn hf
              go_wp2_with fail
              go_roundw
              case rel =>
                refine ⟨trivial, i + 1, _, by omega, by go_num, rfl, ?_, Lib.hid ?_⟩
                · try simp only [ByteArray.size_append, lit_size]
                  try simp
                  omega
                · rw [HNx.out, HLn.out, ← HT.out]
                  simp [Joins.data_append]
              case measure => simp [intOf]; omega
        · by_cases hn : i = n
          · have HLn : Hid (textL (lineAt jl n frm to_ i) = []) := Lib.hid (by
              unfold lineAt
              rw [if_neg hto, if_pos hn]
              simp [textL, hereW, wNop])
            have t1 : ((i : Int) == (to_ : Int)) = false := by simp; omega
            have t2 : ((i : Int) == (n : Int)) = true := by simp; omega
            clear hto hn
            go_wp2_with fail
            go_roundw
            case rel =>
              refine ⟨trivial, i + 1, _, by omega, by go_num, rfl, ?_, Lib.hid ?_⟩
              · try simp only [ByteArray.size_append, lit_size]
                try simp
                omega
              · rw [HNx.out, HLn.out, ← HT.out]
                simp [Joins.data_append]
            case measure => simp [intOf]; omega
          · by_cases hf : i = frm
            · have HLn : Hid (textL (lineAt jl n frm to_ i) = ([106, 97, 108, 32, 114, 51, 44, 32, 104, 101, 114, 101, 10])) := Lib.hid (by
                unfold lineAt
                rw [if_neg hto, if_neg hn, if_pos hf]
                simp [textL, hereW, wNop, JL.out])
              have t1 : ((i : Int) == (to_ : Int)) = false := by simp; omega
              have t2 : ((i : Int) == (n : Int)) = false := by simp; omega
              have t3 : ((i : Int) != (frm : Int)) = false := by simp; omega
              clear hto hn hf
              go_wp2_with fail
              go_roundw
              case rel =>
                refine ⟨trivial, i + 1, _, by omega, by go_num, rfl, ?_, Lib.hid ?_⟩
                · try simp only [ByteArray.size_append, lit_size]
                  try simp
                  omega
                · rw [HNx.out, HLn.out, ← HT.out]
                  simp [Joins.data_append]
              case measure => simp [intOf]; omega
            · have HLn : Hid (textL (lineAt jl n frm to_ i) = [110, 111, 112, 10]) := Lib.hid (by
                unfold lineAt
                rw [if_neg hto, if_neg hn, if_neg hf]
                simp [textL, hereW, wNop])
              have t1 : ((i : Int) == (to_ : Int)) = false := by simp; omega
              have t2 : ((i : Int) == (n : Int)) = false := by simp; omega
              have t3 : ((i : Int) != (frm : Int)) = true := by simp; omega
              clear hto hn hf
              go_wp2_with fail
              go_roundw
              case rel =>
                refine ⟨trivial, i + 1, _, by omega, by go_num, rfl, ?_, Lib.hid ?_⟩
                · try simp only [ByteArray.size_append, lit_size]
                  try simp
                  omega
                · rw [HNx.out, HLn.out, ← HT.out]
                  simp [Joins.data_append]
              case measure => simp [intOf]; omega
      · have hin : i = n + 1 := by omega
        subst hin
        obtain rfl : T = ⟨(jumpText 54 n frm to_).toArray⟩ := string_of (HT.out.trans (by unfold jumpText; rw [HJ.out]))
        clear hle HNx HT
        have HAs := Lib.hid (jump_asm er 54 n frm to_ hn1.2 hf1 ht1 wr (HE.out.below hb02) (by omega))
        generalize (⟨(jumpText 54 n frm to_).toArray⟩ : ByteArray) = T at HAs hT ⊢
        rw [HV.out] at HW HAs
        generalize orLow (kindJ 54).base ((to_ : Int) - frm - 1) = x at HAs HW
        have HD := Lib.hid (jump_dec er 54 x ((to_ : Int) - frm - 1) HW.out 54 0 HKo.out HKb.out)
        clear HW HV HKo HKb HJ JL
        go_wp2_with fail
        refine HAs.out.mono ?_
        rintro e w3 ⟨hb3, g, c, rfl, hc⟩
        have hb03 : Below w.heap.size w w3 := hb02.trans (hb3.mono hb02.size)
        have d33 := cell_below d3 hb3
        have HD3 := Lib.hid (HD.out w3 (HE.out.below hb03))
        clear HAs hb3 HD
        go_wp2_with fail
        refine HD3.out.mono ?_
        rintro e w4 ⟨rfl, hb4⟩
        have hb04 : Below w.heap.size w w4 := hb03.trans (hb4.mono hb03.size)
        have d34 := cell_below d33 hb4
        have hz4 : w.heap.size < w4.heap.size := World.block_lt_of_cell? w4 _ d34
        clear HD3 hb4 hc d33 d3
        go_wp2
        go_ret
        exact ⟨by simp, hb04.alloc hb04.size _⟩
  · by_cases h48 : 48 ≤ op ∧ op ≤ 53
    · have hkj : kindJ op = ⟨op, (opRow op).word ++ argsB, .ins op, op * 16777216 + 3 * 1048576 + 4 * 65536, true⟩ := by
        unfold kindJ
        rw [if_neg h54, if_pos h48]
      have JL : Hid ((kindJ op).line = X.data.toList ++ [32, 114, 51, 44, 32, 114, 52, 44, 32, 104, 101, 114, 101]) := Lib.hid (by rw [hkj, ← hX]; rfl)
      have HV : Hid (jumpV op frm to_ = (to_ : Int) - frm - 1) := Lib.hid (by unfold jumpV; rw [hkj]; rfl)
      have HW := Lib.hid (jump_word op (jumpV op frm to_) (by rw [HV.out]; omega))
      have HKo : Hid ((kindJ op).op = op) := Lib.hid (by rw [hkj])
      have HKb : Hid ((kindJ op).b = 4) := Lib.hid (by rw [hkj]; exact if_pos h48)
      have hXs : X.size ≤ 4 ∧ (X.toList == [106, 97, 108]) = false ∧ (X.toList == [108, 97]) = false := by
        have h : op = 48 ∨ op = 49 ∨ op = 50 ∨ op = 51 ∨ op = 52 ∨ op = 53 := by omega
        rw [ByteArray.toList_eq]
        rcases h with rfl | rfl | rfl | rfl | rfl | rfl
        all_goals
          rw [← hX]
          decide +kernel
      obtain ⟨hx4, hxj, hxl⟩ := hXs
      obtain ⟨h48, h53⟩ := h48
      clear hX hkj h54
      obtain ⟨jl, hjl⟩ : ∃ jl, (kindJ op).line = jl := ⟨_, rfl⟩
      rw [hjl] at JL
      have HJ := Lib.hid hjl
      clear hjl
      go_wp2_with fail
      go_loopw [7, 8] (fun s7 s8 wr => wr = w2 ∧ ∃ (i : Nat) (T : ByteArray), i ≤ n + 1 ∧ s8 = .int .i64 i ∧ s7 = .string T ∧ T.size ≤ 40 * i ∧ Hid (T.data.toList = textL (linesTo jl n frm to_ i))) (fun _ s8 _ => n + 1 - (intOf s8).toNat)
      case atStart => exact ⟨rfl, 0, ⟨#[]⟩, by omega, rfl, rfl, by decide, Lib.hid (by simp [linesTo, textL])⟩
      case round =>
        obtain ⟨rfl, i, T, hi, rfl, rfl, hT, HT⟩ := hrel
        have HNx := Lib.hid (text_next jl n frm to_ i)
        by_cases hle : i ≤ n
        · by_cases hto : i = to_
          · by_cases hn : i = n
            · have HLn : Hid (textL (lineAt jl n frm to_ i) = [104, 101, 114, 101, 58, 10]) := Lib.hid (by
                unfold lineAt
                rw [if_pos hto, if_pos hn]
                simp [textL, hereW, wNop])
              have t1 : ((i : Int) == (to_ : Int)) = true := by simp; omega
              have t2 : ((i : Int) == (n : Int)) = true := by simp; omega
              clear hto hn
              go_wp2_with fail
              go_roundw
              case rel =>
                refine ⟨trivial, i + 1, _, by omega, by go_num, rfl, ?_, Lib.hid ?_⟩
                · try simp only [ByteArray.size_append, lit_size]
                  try simp
                  omega
                · rw [HNx.out, HLn.out, ← HT.out]
                  simp [Joins.data_append]
              case measure => simp [intOf]; omega
            · by_cases hf : i = frm
              · have HLn : Hid (textL (lineAt jl n frm to_ i) = [104, 101, 114, 101, 58, 10] ++ (X.data.toList ++ [32, 114, 51, 44, 32, 114, 52, 44, 32, 104, 101, 114, 101, 10])) := Lib.hid (by
                  unfold lineAt
                  rw [if_pos hto, if_neg hn, if_pos hf]
                  simp [textL, hereW, wNop, JL.out])
                have t1 : ((i : Int) == (to_ : Int)) = true := by simp; omega
                have t2 : ((i : Int) == (n : Int)) = false := by simp; omega
                have t3 : ((i : Int) != (frm : Int)) = false := by simp; omega
                clear hto hn hf
                go_wp2_with fail
                go_roundw
                case rel =>
                  refine ⟨trivial, i + 1, _, by omega, by go_num, rfl, ?_, Lib.hid ?_⟩
                  · try simp only [ByteArray.size_append, lit_size]
                    try simp
                    omega
                  · rw [HNx.out, HLn.out, ← HT.out]
                    simp [Joins.data_append]
                case measure => simp [intOf]; omega
              · have HLn : Hid (textL (lineAt jl n frm to_ i) = [104, 101, 114, 101, 58, 10] ++ [110, 111, 112, 10]) := Lib.hid (by
                  unfold lineAt
                  rw [if_pos hto, if_neg hn, if_neg hf]
                  simp [textL, hereW, wNop])
                have t1 : ((i : Int) == (to_ : Int)) = true := by simp; omega
                have t2 : ((i : Int) == (n : Int)) = false := by simp; omega
                have t3 : ((i : Int) != (frm : Int)) = true := by simp; omega
                clear hto hn hf
                go_wp2_with fail
                go_roundw
                case rel =>
                  refine ⟨trivial, i + 1, _, by omega, by go_num, rfl, ?_, Lib.hid ?_⟩
                  · try simp only [ByteArray.size_append, lit_size]
                    try simp
                    omega
                  · rw [HNx.out, HLn.out, ← HT.out]
                    simp [Joins.data_append]
                case measure => simp [intOf]; omega
          · by_cases hn : i = n
            · have HLn : Hid (textL (lineAt jl n frm to_ i) = []) := Lib.hid (by
                unfold lineAt
                rw [if_neg hto, if_pos hn]
                simp [textL, hereW, wNop])
              have t1 : ((i : Int) == (to_ : Int)) = false := by simp; omega
              have t2 : ((i : Int) == (n : Int)) = true := by simp; omega
              clear hto hn
              go_wp2_with fail
              go_roundw
              case rel =>
                refine ⟨trivial, i + 1, _, by omega, by go_num, rfl, ?_, Lib.hid ?_⟩
                · try simp only [ByteArray.size_append, lit_size]
                  try simp
                  omega
                · rw [HNx.out, HLn.out, ← HT.out]
                  simp [Joins.data_append]
              case measure => simp [intOf]; omega
            · by_cases hf : i = frm
              · have HLn : Hid (textL (lineAt jl n frm to_ i) = (X.data.toList ++ [32, 114, 51, 44, 32, 114, 52, 44, 32, 104, 101, 114, 101, 10])) := Lib.hid (by
                  unfold lineAt
                  rw [if_neg hto, if_neg hn, if_pos hf]
                  simp [textL, hereW, wNop, JL.out])
                have t1 : ((i : Int) == (to_ : Int)) = false := by simp; omega
                have t2 : ((i : Int) == (n : Int)) = false := by simp; omega
                have t3 : ((i : Int) != (frm : Int)) = false := by simp; omega
                clear hto hn hf
                go_wp2_with fail
                go_roundw
                case rel =>
                  refine ⟨trivial, i + 1, _, by omega, by go_num, rfl, ?_, Lib.hid ?_⟩
                  · try simp only [ByteArray.size_append, lit_size]
                    try simp
                    omega
                  · rw [HNx.out, HLn.out, ← HT.out]
                    simp [Joins.data_append]
                case measure => simp [intOf]; omega
              · have HLn : Hid (textL (lineAt jl n frm to_ i) = [110, 111, 112, 10]) := Lib.hid (by
                  unfold lineAt
                  rw [if_neg hto, if_neg hn, if_neg hf]
                  simp [textL, hereW, wNop])
                have t1 : ((i : Int) == (to_ : Int)) = false := by simp; omega
                have t2 : ((i : Int) == (n : Int)) = false := by simp; omega
                have t3 : ((i : Int) != (frm : Int)) = true := by simp; omega
                clear hto hn hf
                go_wp2_with fail
                go_roundw
                case rel =>
                  refine ⟨trivial, i + 1, _, by omega, by go_num, rfl, ?_, Lib.hid ?_⟩
                  · try simp only [ByteArray.size_append, lit_size]
                    try simp
                    omega
                  · rw [HNx.out, HLn.out, ← HT.out]
                    simp [Joins.data_append]
                case measure => simp [intOf]; omega
        · have hin : i = n + 1 := by omega
          subst hin
          obtain rfl : T = ⟨(jumpText op n frm to_).toArray⟩ := string_of (HT.out.trans (by unfold jumpText; rw [HJ.out]))
          clear hle HNx HT
          have HAs := Lib.hid (jump_asm er op n frm to_ hn1.2 hf1 ht1 wr (HE.out.below hb02) (by omega))
          generalize (⟨(jumpText op n frm to_).toArray⟩ : ByteArray) = T at HAs hT ⊢
          rw [HV.out] at HW HAs
          generalize orLow (kindJ op).base ((to_ : Int) - frm - 1) = x at HAs HW
          have HD := Lib.hid (jump_dec er op x ((to_ : Int) - frm - 1) HW.out op 4 HKo.out HKb.out)
          clear HW HV HKo HKb HJ JL
          go_wp2_with fail
          refine HAs.out.mono ?_
          rintro e w3 ⟨hb3, g, c, rfl, hc⟩
          have hb03 : Below w.heap.size w w3 := hb02.trans (hb3.mono hb02.size)
          have d33 := cell_below d3 hb3
          have HD3 := Lib.hid (HD.out w3 (HE.out.below hb03))
          clear HAs hb3 HD
          go_wp2_with fail
          refine HD3.out.mono ?_
          rintro e w4 ⟨rfl, hb4⟩
          have hb04 : Below w.heap.size w w4 := hb03.trans (hb4.mono hb03.size)
          have d34 := cell_below d33 hb4
          have hz4 : w.heap.size < w4.heap.size := World.block_lt_of_cell? w4 _ d34
          clear HD3 hb4 hc d33 d3
          go_wp2
          go_ret
          exact ⟨by simp, hb04.alloc hb04.size _⟩
    · have hkj : kindJ op = ⟨16, wLa ++ argsA, .la, 16 * 16777216 + 3 * 1048576, false⟩ := by
        unfold kindJ
        rw [if_neg h54, if_neg h48]
      have JL : Hid ((kindJ op).line = [108, 97, 32, 114, 51, 44, 32, 104, 101, 114, 101]) := Lib.hid (by rw [hkj]; rfl)
      have HV : Hid (jumpV op frm to_ = 4 * (to_ : Int)) := Lib.hid (by unfold jumpV; rw [hkj]; rfl)
      have HW := Lib.hid (jump_word op (jumpV op frm to_) (by rw [HV.out]; omega))
      have HKo : Hid ((kindJ op).op = 16) := Lib.hid (by rw [hkj])
      have HKb : Hid ((kindJ op).b = 0) := Lib.hid (by rw [hkj]; rfl)
      clear hX hkj
      obtain ⟨jl, hjl⟩ : ∃ jl, (kindJ op).line = jl := ⟨_, rfl⟩
      rw [hjl] at JL
      have HJ := Lib.hid hjl
      clear hjl
      have hlow : op < 48 ∨ 54 < op := by omega
      clear h48 h54
      rcases hlow with hlow | hlow
      · go_wp2_with fail
        go_loopw [7, 8] (fun s7 s8 wr => wr = w2 ∧ ∃ (i : Nat) (T : ByteArray), i ≤ n + 1 ∧ s8 = .int .i64 i ∧ s7 = .string T ∧ T.size ≤ 40 * i ∧ Hid (T.data.toList = textL (linesTo jl n frm to_ i))) (fun _ s8 _ => n + 1 - (intOf s8).toNat)
        case atStart => exact ⟨rfl, 0, ⟨#[]⟩, by omega, rfl, rfl, by decide, Lib.hid (by simp [linesTo, textL])⟩
        case round =>
          obtain ⟨rfl, i, T, hi, rfl, rfl, hT, HT⟩ := hrel
          have HNx := Lib.hid (text_next jl n frm to_ i)
          by_cases hle : i ≤ n
          · by_cases hto : i = to_
            · by_cases hn : i = n
              · have HLn : Hid (textL (lineAt jl n frm to_ i) = [104, 101, 114, 101, 58, 10]) := Lib.hid (by
                  unfold lineAt
                  rw [if_pos hto, if_pos hn]
                  simp [textL, hereW, wNop])
                have t1 : ((i : Int) == (to_ : Int)) = true := by simp; omega
                have t2 : ((i : Int) == (n : Int)) = true := by simp; omega
                clear hto hn
                go_wp2_with fail
                go_roundw
                case rel =>
                  refine ⟨trivial, i + 1, _, by omega, by go_num, rfl, ?_, Lib.hid ?_⟩
                  · try simp only [ByteArray.size_append, lit_size]
                    try simp
                    omega
                  · rw [HNx.out, HLn.out, ← HT.out]
                    simp [Joins.data_append]
                case measure => simp [intOf]; omega
              · by_cases hf : i = frm
                · have HLn : Hid (textL (lineAt jl n frm to_ i) = [104, 101, 114, 101, 58, 10] ++ ([108, 97, 32, 114, 51, 44, 32, 104, 101, 114, 101, 10])) := Lib.hid (by
                    unfold lineAt
                    rw [if_pos hto, if_neg hn, if_pos hf]
                    simp [textL, hereW, wNop, JL.out])
                  have t1 : ((i : Int) == (to_ : Int)) = true := by simp; omega
                  have t2 : ((i : Int) == (n : Int)) = false := by simp; omega
                  have t3 : ((i : Int) != (frm : Int)) = false := by simp; omega
                  clear hto hn hf
                  go_wp2_with fail
                  go_roundw
                  case rel =>
                    refine ⟨trivial, i + 1, _, by omega, by go_num, rfl, ?_, Lib.hid ?_⟩
                    · try simp only [ByteArray.size_append, lit_size]
                      try simp
                      omega
                    · rw [HNx.out, HLn.out, ← HT.out]
                      simp [Joins.data_append]
                  case measure => simp [intOf]; omega
                · have HLn : Hid (textL (lineAt jl n frm to_ i) = [104, 101, 114, 101, 58, 10] ++ [110, 111, 112, 10]) := Lib.hid (by
                    unfold lineAt
                    rw [if_pos hto, if_neg hn, if_neg hf]
                    simp [textL, hereW, wNop])
                  have t1 : ((i : Int) == (to_ : Int)) = true := by simp; omega
                  have t2 : ((i : Int) == (n : Int)) = false := by simp; omega
                  have t3 : ((i : Int) != (frm : Int)) = true := by simp; omega
                  clear hto hn hf
                  go_wp2_with fail
                  go_roundw
                  case rel =>
                    refine ⟨trivial, i + 1, _, by omega, by go_num, rfl, ?_, Lib.hid ?_⟩
                    · try simp only [ByteArray.size_append, lit_size]
                      try simp
                      omega
                    · rw [HNx.out, HLn.out, ← HT.out]
                      simp [Joins.data_append]
                  case measure => simp [intOf]; omega
            · by_cases hn : i = n
              · have HLn : Hid (textL (lineAt jl n frm to_ i) = []) := Lib.hid (by
                  unfold lineAt
                  rw [if_neg hto, if_pos hn]
                  simp [textL, hereW, wNop])
                have t1 : ((i : Int) == (to_ : Int)) = false := by simp; omega
                have t2 : ((i : Int) == (n : Int)) = true := by simp; omega
                clear hto hn
                go_wp2_with fail
                go_roundw
                case rel =>
                  refine ⟨trivial, i + 1, _, by omega, by go_num, rfl, ?_, Lib.hid ?_⟩
                  · try simp only [ByteArray.size_append, lit_size]
                    try simp
                    omega
                  · rw [HNx.out, HLn.out, ← HT.out]
                    simp [Joins.data_append]
                case measure => simp [intOf]; omega
              · by_cases hf : i = frm
                · have HLn : Hid (textL (lineAt jl n frm to_ i) = ([108, 97, 32, 114, 51, 44, 32, 104, 101, 114, 101, 10])) := Lib.hid (by
                    unfold lineAt
                    rw [if_neg hto, if_neg hn, if_pos hf]
                    simp [textL, hereW, wNop, JL.out])
                  have t1 : ((i : Int) == (to_ : Int)) = false := by simp; omega
                  have t2 : ((i : Int) == (n : Int)) = false := by simp; omega
                  have t3 : ((i : Int) != (frm : Int)) = false := by simp; omega
                  clear hto hn hf
                  go_wp2_with fail
                  go_roundw
                  case rel =>
                    refine ⟨trivial, i + 1, _, by omega, by go_num, rfl, ?_, Lib.hid ?_⟩
                    · try simp only [ByteArray.size_append, lit_size]
                      try simp
                      omega
                    · rw [HNx.out, HLn.out, ← HT.out]
                      simp [Joins.data_append]
                  case measure => simp [intOf]; omega
                · have HLn : Hid (textL (lineAt jl n frm to_ i) = [110, 111, 112, 10]) := Lib.hid (by
                    unfold lineAt
                    rw [if_neg hto, if_neg hn, if_neg hf]
                    simp [textL, hereW, wNop])
                  have t1 : ((i : Int) == (to_ : Int)) = false := by simp; omega
                  have t2 : ((i : Int) == (n : Int)) = false := by simp; omega
                  have t3 : ((i : Int) != (frm : Int)) = true := by simp; omega
                  clear hto hn hf
                  go_wp2_with fail
                  go_roundw
                  case rel =>
                    refine ⟨trivial, i + 1, _, by omega, by go_num, rfl, ?_, Lib.hid ?_⟩
                    · try simp only [ByteArray.size_append, lit_size]
                      try simp
                      omega
                    · rw [HNx.out, HLn.out, ← HT.out]
                      simp [Joins.data_append]
                  case measure => simp [intOf]; omega
          · have hin : i = n + 1 := by omega
            subst hin
            obtain rfl : T = ⟨(jumpText op n frm to_).toArray⟩ := string_of (HT.out.trans (by unfold jumpText; rw [HJ.out]))
            clear hle HNx HT
            have HAs := Lib.hid (jump_asm er op n frm to_ hn1.2 hf1 ht1 wr (HE.out.below hb02) (by omega))
            generalize (⟨(jumpText op n frm to_).toArray⟩ : ByteArray) = T at HAs hT ⊢
            rw [HV.out] at HW HAs
            generalize orLow (kindJ op).base (4 * (to_ : Int)) = x at HAs HW
            have HD := Lib.hid (jump_dec er op x (4 * (to_ : Int)) HW.out 16 0 HKo.out HKb.out)
            clear HW HV HKo HKb HJ JL
            go_wp2_with fail
            refine HAs.out.mono ?_
            rintro e w3 ⟨hb3, g, c, rfl, hc⟩
            have hb03 : Below w.heap.size w w3 := hb02.trans (hb3.mono hb02.size)
            have d33 := cell_below d3 hb3
            have HD3 := Lib.hid (HD.out w3 (HE.out.below hb03))
            clear HAs hb3 HD
            go_wp2_with fail
            refine HD3.out.mono ?_
            rintro e w4 ⟨rfl, hb4⟩
            have hb04 : Below w.heap.size w w4 := hb03.trans (hb4.mono hb03.size)
            have d34 := cell_below d33 hb4
            have hz4 : w.heap.size < w4.heap.size := World.block_lt_of_cell? w4 _ d34
            clear HD3 hb4 hc d33 d3
            go_wp2
            go_ret
            exact ⟨by simp, hb04.alloc hb04.size _⟩
      · go_wp2_with fail
        go_loopw [7, 8] (fun s7 s8 wr => wr = w2 ∧ ∃ (i : Nat) (T : ByteArray), i ≤ n + 1 ∧ s8 = .int .i64 i ∧ s7 = .string T ∧ T.size ≤ 40 * i ∧ Hid (T.data.toList = textL (linesTo jl n frm to_ i))) (fun _ s8 _ => n + 1 - (intOf s8).toNat)
        case atStart => exact ⟨rfl, 0, ⟨#[]⟩, by omega, rfl, rfl, by decide, Lib.hid (by simp [linesTo, textL])⟩
        case round =>
          obtain ⟨rfl, i, T, hi, rfl, rfl, hT, HT⟩ := hrel
          have HNx := Lib.hid (text_next jl n frm to_ i)
          by_cases hle : i ≤ n
          · by_cases hto : i = to_
            · by_cases hn : i = n
              · have HLn : Hid (textL (lineAt jl n frm to_ i) = [104, 101, 114, 101, 58, 10]) := Lib.hid (by
                  unfold lineAt
                  rw [if_pos hto, if_pos hn]
                  simp [textL, hereW, wNop])
                have t1 : ((i : Int) == (to_ : Int)) = true := by simp; omega
                have t2 : ((i : Int) == (n : Int)) = true := by simp; omega
                clear hto hn
                go_wp2_with fail
                go_roundw
                case rel =>
                  refine ⟨trivial, i + 1, _, by omega, by go_num, rfl, ?_, Lib.hid ?_⟩
                  · try simp only [ByteArray.size_append, lit_size]
                    try simp
                    omega
                  · rw [HNx.out, HLn.out, ← HT.out]
                    simp [Joins.data_append]
                case measure => simp [intOf]; omega
              · by_cases hf : i = frm
                · have HLn : Hid (textL (lineAt jl n frm to_ i) = [104, 101, 114, 101, 58, 10] ++ ([108, 97, 32, 114, 51, 44, 32, 104, 101, 114, 101, 10])) := Lib.hid (by
                    unfold lineAt
                    rw [if_pos hto, if_neg hn, if_pos hf]
                    simp [textL, hereW, wNop, JL.out])
                  have t1 : ((i : Int) == (to_ : Int)) = true := by simp; omega
                  have t2 : ((i : Int) == (n : Int)) = false := by simp; omega
                  have t3 : ((i : Int) != (frm : Int)) = false := by simp; omega
                  clear hto hn hf
                  go_wp2_with fail
                  go_roundw
                  case rel =>
                    refine ⟨trivial, i + 1, _, by omega, by go_num, rfl, ?_, Lib.hid ?_⟩
                    · try simp only [ByteArray.size_append, lit_size]
                      try simp
                      omega
                    · rw [HNx.out, HLn.out, ← HT.out]
                      simp [Joins.data_append]
                  case measure => simp [intOf]; omega
                · have HLn : Hid (textL (lineAt jl n frm to_ i) = [104, 101, 114, 101, 58, 10] ++ [110, 111, 112, 10]) := Lib.hid (by
                    unfold lineAt
                    rw [if_pos hto, if_neg hn, if_neg hf]
                    simp [textL, hereW, wNop])
                  have t1 : ((i : Int) == (to_ : Int)) = true := by simp; omega
                  have t2 : ((i : Int) == (n : Int)) = false := by simp; omega
                  have t3 : ((i : Int) != (frm : Int)) = true := by simp; omega
                  clear hto hn hf
                  go_wp2_with fail
                  go_roundw
                  case rel =>
                    refine ⟨trivial, i + 1, _, by omega, by go_num, rfl, ?_, Lib.hid ?_⟩
                    · try simp only [ByteArray.size_append, lit_size]
                      try simp
                      omega
                    · rw [HNx.out, HLn.out, ← HT.out]
                      simp [Joins.data_append]
                  case measure => simp [intOf]; omega
            · by_cases hn : i = n
              · have HLn : Hid (textL (lineAt jl n frm to_ i) = []) := Lib.hid (by
                  unfold lineAt
                  rw [if_neg hto, if_pos hn]
                  simp [textL, hereW, wNop])
                have t1 : ((i : Int) == (to_ : Int)) = false := by simp; omega
                have t2 : ((i : Int) == (n : Int)) = true := by simp; omega
                clear hto hn
                go_wp2_with fail
                go_roundw
                case rel =>
                  refine ⟨trivial, i + 1, _, by omega, by go_num, rfl, ?_, Lib.hid ?_⟩
                  · try simp only [ByteArray.size_append, lit_size]
                    try simp
                    omega
                  · rw [HNx.out, HLn.out, ← HT.out]
                    simp [Joins.data_append]
                case measure => simp [intOf]; omega
              · by_cases hf : i = frm
                · have HLn : Hid (textL (lineAt jl n frm to_ i) = ([108, 97, 32, 114, 51, 44, 32, 104, 101, 114, 101, 10])) := Lib.hid (by
                    unfold lineAt
                    rw [if_neg hto, if_neg hn, if_pos hf]
                    simp [textL, hereW, wNop, JL.out])
                  have t1 : ((i : Int) == (to_ : Int)) = false := by simp; omega
                  have t2 : ((i : Int) == (n : Int)) = false := by simp; omega
                  have t3 : ((i : Int) != (frm : Int)) = false := by simp; omega
                  clear hto hn hf
                  go_wp2_with fail
                  go_roundw
                  case rel =>
                    refine ⟨trivial, i + 1, _, by omega, by go_num, rfl, ?_, Lib.hid ?_⟩
                    · try simp only [ByteArray.size_append, lit_size]
                      try simp
                      omega
                    · rw [HNx.out, HLn.out, ← HT.out]
                      simp [Joins.data_append]
                  case measure => simp [intOf]; omega
                · have HLn : Hid (textL (lineAt jl n frm to_ i) = [110, 111, 112, 10]) := Lib.hid (by
                    unfold lineAt
                    rw [if_neg hto, if_neg hn, if_neg hf]
                    simp [textL, hereW, wNop])
                  have t1 : ((i : Int) == (to_ : Int)) = false := by simp; omega
                  have t2 : ((i : Int) == (n : Int)) = false := by simp; omega
                  have t3 : ((i : Int) != (frm : Int)) = true := by simp; omega
                  clear hto hn hf
                  go_wp2_with fail
                  go_roundw
                  case rel =>
                    refine ⟨trivial, i + 1, _, by omega, by go_num, rfl, ?_, Lib.hid ?_⟩
                    · try simp only [ByteArray.size_append, lit_size]
                      try simp
                      omega
                    · rw [HNx.out, HLn.out, ← HT.out]
                      simp [Joins.data_append]
                  case measure => simp [intOf]; omega
          · have hin : i = n + 1 := by omega
            subst hin
            obtain rfl : T = ⟨(jumpText op n frm to_).toArray⟩ := string_of (HT.out.trans (by unfold jumpText; rw [HJ.out]))
            clear hle HNx HT
            have HAs := Lib.hid (jump_asm er op n frm to_ hn1.2 hf1 ht1 wr (HE.out.below hb02) (by omega))
            generalize (⟨(jumpText op n frm to_).toArray⟩ : ByteArray) = T at HAs hT ⊢
            rw [HV.out] at HW HAs
            generalize orLow (kindJ op).base (4 * (to_ : Int)) = x at HAs HW
            have HD := Lib.hid (jump_dec er op x (4 * (to_ : Int)) HW.out 16 0 HKo.out HKb.out)
            clear HW HV HKo HKb HJ JL
            go_wp2_with fail
            refine HAs.out.mono ?_
            rintro e w3 ⟨hb3, g, c, rfl, hc⟩
            have hb03 : Below w.heap.size w w3 := hb02.trans (hb3.mono hb02.size)
            have d33 := cell_below d3 hb3
            have HD3 := Lib.hid (HD.out w3 (HE.out.below hb03))
            clear HAs hb3 HD
            go_wp2_with fail
            refine HD3.out.mono ?_
            rintro e w4 ⟨rfl, hb4⟩
            have hb04 : Below w.heap.size w w4 := hb03.trans (hb4.mono hb03.size)
            have d34 := cell_below d33 hb4
            have hz4 : w.heap.size < w4.heap.size := World.block_lt_of_cell? w4 _ d34
            clear HD3 hb4 hc d33 d3
            go_wp2
            go_ret
            exact ⟨by simp, hb04.alloc hb04.size _⟩
end Go.Proofs.YtecmeegnjjhilaaDoor
