/- ferrylaw04.fixed: the document's fixed answers are the program's. -/
import Derived.Test.YtecmeegnjjhilaaGreatDoorAsm
namespace Go.Proofs.YtecmeegnjjhilaaGreatDoor
open Go.RowKit
theorem fx1 : encR ⟨1, 1, 2, 3, 0⟩ = 17969152 := by decide +kernel
theorem fx2 : checkC ⟨1, 1, 2, 3, 0⟩ = 0 := by decide +kernel
theorem fx3 : decI 273743871 = ⟨16, 5, 0, 0, -1⟩ := by decide +kernel
theorem fx4 : decC 273743871 = 0 := by decide +kernel
def fxText : ByteArray := ⟨#[120, 58, 32, 106, 97, 108, 32, 114, 49, 32, 120]⟩
theorem fx5 : asmP fxText = ([907083775], none) := by decide +kernel
theorem fx6 : (opRow 55).word = [106, 114] := by decide +kernel
theorem fx7 : (wordRow [115, 121, 115]).op = 64 := by decide +kernel

theorem fixed_asm (er : Nat → Addr) (w : World) (E : Env er w) :
    Calls Tryz.prog 29 #[.string fxText] w fun e w' => Below w.heap.size w w' ∧ ∃ g c, e = .returned (.tuple #[.slice (some ⟨g, 0, none⟩) 1 c, .nilIface]) ∧ w'.cell? ⟨g, 0, none⟩ = some (.int .u32 907083775) := by
  refine (assemble_any er fxText (by decide) w E).mono fun e w' h => ?_
  unfold AsmOut at h
  rw [fx5] at h
  obtain ⟨hb, A, c, he, hown⟩ := h
  refine ⟨hb, ?_⟩
  rcases hown.2 with ⟨h1, h2⟩ | ⟨g, cap, cur, h1, _⟩
  · cases h2
  · injection h1 with h1 _ _
    subst h1
    exact ⟨g, c, he, hown.cellAt 0 (by decide)⟩

set_option maxHeartbeats 1000000 in
set_option maxRecDepth 100000 in
theorem fixed_any (er : Nat → Addr) (w : World) (E : Env er w) :
    Calls Tryz.prog 10 #[] w fun e w' => e = .returned (.bool true) ∧ Below w.heap.size w w' := by
  have HE := Lib.hid E
  have H1 := Encode_any ⟨1, 1, 2, 3, 0⟩ er w E
  rw [fx1, fx2, errV_zero] at H1
  have HEnc := Lib.hid H1
  clear H1 E
  go_enter Tryz.func10, Tryz.ntmps10
  go_wp2_with fail
  refine HEnc.out.mono ?_
  rintro e w1 ⟨rfl, hb1⟩
  have H2 := Decode_any 273743871 (by decide) (by decide) er w1 (HE.out.below hb1)
  rw [fx3, fx4, errV_zero] at H2
  have HDec := Lib.hid H2
  clear H2 HEnc
  go_wp2_with fail
  refine HDec.out.mono ?_
  rintro e w2 ⟨rfl, hb2⟩
  have hb02 : Below w.heap.size w w2 := hb1.trans (hb2.mono hb1.size)
  have hbx := hb02.alloc hb02.size (.cells #[.int .i64 16, .int .i64 5, .int .i64 0, .int .i64 0, .int .i64 (-1)] 27)
  have HAsm := Lib.hid (fixed_asm er _ (HE.out.below hbx))
  unfold fxText at HAsm
  clear HDec hb1 hb2 hb02
  go_wp2_with fail
  refine HAsm.out.mono ?_
  rintro e w3 ⟨hb3, g, c, rfl, hc⟩
  have hb03 : Below w.heap.size w w3 := hbx.trans (hb3.mono (by have := hbx.size; exact this))
  have H4 := Name_any 55 w3 (HE.out.below hb03).space
  rw [fx6] at H4
  have HN := Lib.hid H4
  clear H4 HAsm hb3 hbx
  go_wp2_with fail
  refine HN.out.mono ?_
  rintro e w4 ⟨rfl, hb4⟩
  have hb04 : Below w.heap.size w w4 := hb03.trans (hb4.mono hb03.size)
  have H5 := Number_any ⟨#[115, 121, 115]⟩ w4 (HE.out.below hb04).space
  rw [show (⟨#[115, 121, 115]⟩ : ByteArray).data.toList = [115, 121, 115] from rfl, fx7] at H5
  have HM := Lib.hid H5
  clear H5 HN hb4 hb03 hc
  go_wp2_with fail
  refine HM.out.mono ?_
  rintro e w5 ⟨rfl, hb5⟩
  have hb05 : Below w.heap.size w w5 := hb04.trans (hb5.mono hb04.size)
  clear HM
  go_wp2
  go_ret
  exact ⟨rfl, hb05⟩
end Go.Proofs.YtecmeegnjjhilaaGreatDoor
