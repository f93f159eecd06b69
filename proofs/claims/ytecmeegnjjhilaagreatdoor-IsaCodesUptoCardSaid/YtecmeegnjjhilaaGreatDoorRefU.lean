/- ferryref04.Uses and Check: the document's check is the program's. -/
import Derived.Test.YtecmeegnjjhilaaGreatDoorRef
namespace Go.Proofs.YtecmeegnjjhilaaGreatDoor
open Go.RowKit

def fieldsR (f : Int) : List UInt8 := if f = 1 then [65, 66, 67] else if f = 2 then [65, 66, 73] else if f = 3 then [65, 66, 85] else if f = 4 then [65, 85] else if f = 5 then [65, 73] else if f = 6 then [66, 73] else if f = 7 then [85] else []
def usesB (f : Int) (c : Int) : Bool := (fieldsR f).any fun b => ((b.toNat : Int)) == c
theorem any_from (l : List UInt8) (c : Int) (k : Nat) (x : UInt8) (h : l[k]? = some x) : ((l.drop k).any fun b => ((b.toNat : Int)) == c) = ((((x.toNat : Int)) == c) || ((l.drop (k + 1)).any fun b => ((b.toNat : Int)) == c)) := by
  obtain ⟨hl, he⟩ := List.getElem?_eq_some_iff.1 h
  rw [List.drop_eq_getElem_cons hl, he, List.any_cons]

set_option maxHeartbeats 2000000 in
set_option maxRecDepth 100000 in
theorem Uses_any (f c : Int) (hf : 0 ≤ f ∧ f ≤ 7) (w : World) : Calls Tryz.prog 48 #[.int .i64 f, .int .u8 c] w fun e w' => e = .returned (.bool (usesB f c)) ∧ w = w' := by
  have h : f = 0 ∨ f = 1 ∨ f = 2 ∨ f = 3 ∨ f = 4 ∨ f = 5 ∨ f = 6 ∨ f = 7 := by omega
  clear hf
  rcases h with rfl | rfl | rfl | rfl | rfl | rfl | rfl | rfl
  · have HU : Hid (usesB 0 c = (false)) := Lib.hid (by simp [usesB, fieldsR, Bool.or_assoc])
    have HV : Hid (usesB 0 c = false) := HU
    clear HU
    go_enter Tryz.func48, Tryz.ntmps48
    go_wp2_with fail
    go_loopw [6] (fun s6 wr => wr = w ∧ ∃ k : Nat, k ≤ 0 ∧ s6 = .int .i64 k) (fun s6 _ => 5 - (intOf s6).toNat)
    case atStart => exact ⟨rfl, 0, by omega, rfl⟩
    case round =>
      obtain ⟨rfl, k, hk, rfl⟩ := hrel
      have hk2 : k = 0 := by omega
      clear hk
      rcases hk2 with rfl
      · go_wp2_with fail
        go_ret
        rw [HV.out]
        exact ⟨rfl, rfl⟩
  · have HU : Hid (usesB 1 c = (((65 : Int) == c) || ((66 : Int) == c) || ((67 : Int) == c))) := Lib.hid (by simp [usesB, fieldsR, Bool.or_assoc])
    cases h0 : ((65 : Int) == c) with
    | true =>
      have HV : Hid (usesB 1 c = true) := Lib.hid (by rw [HU.out]; simp [h0])
      clear HU
      have e0 : ((((⟨#[65, 66, 67]⟩ : ByteArray)[0]'(by decide)).toNat : Int) == c) = true := h0
      go_enter Tryz.func48, Tryz.ntmps48
      go_wp2_with fail
      go_loopw [6] (fun s6 wr => wr = w ∧ ∃ k : Nat, k ≤ 0 ∧ s6 = .int .i64 k) (fun s6 _ => 5 - (intOf s6).toNat)
      case atStart => exact ⟨rfl, 0, by omega, rfl⟩
      case round =>
        obtain ⟨rfl, k, hk, rfl⟩ := hrel
        have hk2 : k = 0 := by omega
        clear hk
        rcases hk2 with rfl
        · go_wp2_with fail
          go_ret
          rw [HV.out]
          exact ⟨rfl, rfl⟩
    | false =>
      cases h1 : ((66 : Int) == c) with
      | true =>
        have HV : Hid (usesB 1 c = true) := Lib.hid (by rw [HU.out]; simp [h0, h1])
        clear HU
        have e0 : ((((⟨#[65, 66, 67]⟩ : ByteArray)[0]'(by decide)).toNat : Int) == c) = false := h0
        have e1 : ((((⟨#[65, 66, 67]⟩ : ByteArray)[1]'(by decide)).toNat : Int) == c) = true := h1
        go_enter Tryz.func48, Tryz.ntmps48
        go_wp2_with fail
        go_loopw [6] (fun s6 wr => wr = w ∧ ∃ k : Nat, k ≤ 1 ∧ s6 = .int .i64 k) (fun s6 _ => 5 - (intOf s6).toNat)
        case atStart => exact ⟨rfl, 0, by omega, rfl⟩
        case round =>
          obtain ⟨rfl, k, hk, rfl⟩ := hrel
          have hk2 : k = 0 ∨ k = 1 := by omega
          clear hk
          rcases hk2 with rfl | rfl
          · go_wp2_with fail
            go_roundw
            case rel => exact ⟨trivial, 1, by omega, by go_num⟩
            case measure => simp [intOf]
          · go_wp2_with fail
            go_ret
            rw [HV.out]
            exact ⟨rfl, rfl⟩
      | false =>
        cases h2 : ((67 : Int) == c) with
        | true =>
          have HV : Hid (usesB 1 c = true) := Lib.hid (by rw [HU.out]; simp [h0, h1, h2])
          clear HU
          have e0 : ((((⟨#[65, 66, 67]⟩ : ByteArray)[0]'(by decide)).toNat : Int) == c) = false := h0
          have e1 : ((((⟨#[65, 66, 67]⟩ : ByteArray)[1]'(by decide)).toNat : Int) == c) = false := h1
          have e2 : ((((⟨#[65, 66, 67]⟩ : ByteArray)[2]'(by decide)).toNat : Int) == c) = true := h2
          go_enter Tryz.func48, Tryz.ntmps48
          go_wp2_with fail
          go_loopw [6] (fun s6 wr => wr = w ∧ ∃ k : Nat, k ≤ 2 ∧ s6 = .int .i64 k) (fun s6 _ => 5 - (intOf s6).toNat)
          case atStart => exact ⟨rfl, 0, by omega, rfl⟩
          case round =>
            obtain ⟨rfl, k, hk, rfl⟩ := hrel
            have hk2 : k = 0 ∨ k = 1 ∨ k = 2 := by omega
            clear hk
            rcases hk2 with rfl | rfl | rfl
            · go_wp2_with fail
              go_roundw
              case rel => exact ⟨trivial, 1, by omega, by go_num⟩
              case measure => simp [intOf]
            · go_wp2_with fail
              go_roundw
              case rel => exact ⟨trivial, 2, by omega, by go_num⟩
              case measure => simp [intOf]
            · go_wp2_with fail
              go_ret
              rw [HV.out]
              exact ⟨rfl, rfl⟩
        | false =>
          have HV : Hid (usesB 1 c = false) := Lib.hid (by rw [HU.out]; simp [h0, h1, h2])
          clear HU
          have e0 : ((((⟨#[65, 66, 67]⟩ : ByteArray)[0]'(by decide)).toNat : Int) == c) = false := h0
          have e1 : ((((⟨#[65, 66, 67]⟩ : ByteArray)[1]'(by decide)).toNat : Int) == c) = false := h1
          have e2 : ((((⟨#[65, 66, 67]⟩ : ByteArray)[2]'(by decide)).toNat : Int) == c) = false := h2
          go_enter Tryz.func48, Tryz.ntmps48
          go_wp2_with fail
          go_loopw [6] (fun s6 wr => wr = w ∧ ∃ k : Nat, k ≤ 3 ∧ s6 = .int .i64 k) (fun s6 _ => 5 - (intOf s6).toNat)
          case atStart => exact ⟨rfl, 0, by omega, rfl⟩
          case round =>
            obtain ⟨rfl, k, hk, rfl⟩ := hrel
            have hk2 : k = 0 ∨ k = 1 ∨ k = 2 ∨ k = 3 := by omega
            clear hk
            rcases hk2 with rfl | rfl | rfl | rfl
            · go_wp2_with fail
              go_roundw
              case rel => exact ⟨trivial, 1, by omega, by go_num⟩
              case measure => simp [intOf]
            · go_wp2_with fail
              go_roundw
              case rel => exact ⟨trivial, 2, by omega, by go_num⟩
              case measure => simp [intOf]
            · go_wp2_with fail
              go_roundw
              case rel => exact ⟨trivial, 3, by omega, by go_num⟩
              case measure => simp [intOf]
            · go_wp2_with fail
              go_ret
              rw [HV.out]
              exact ⟨rfl, rfl⟩
  · have HU : Hid (usesB 2 c = (((65 : Int) == c) || ((66 : Int) == c) || ((73 : Int) == c))) := Lib.hid (by simp [usesB, fieldsR, Bool.or_assoc])
    cases h0 : ((65 : Int) == c) with
    | true =>
      have HV : Hid (usesB 2 c = true) := Lib.hid (by rw [HU.out]; simp [h0])
      clear HU
      have e0 : ((((⟨#[65, 66, 73]⟩ : ByteArray)[0]'(by decide)).toNat : Int) == c) = true := h0
      go_enter Tryz.func48, Tryz.ntmps48
      go_wp2_with fail
      go_loopw [6] (fun s6 wr => wr = w ∧ ∃ k : Nat, k ≤ 0 ∧ s6 = .int .i64 k) (fun s6 _ => 5 - (intOf s6).toNat)
      case atStart => exact ⟨rfl, 0, by omega, rfl⟩
      case round =>
        obtain ⟨rfl, k, hk, rfl⟩ := hrel
        have hk2 : k = 0 := by omega
        clear hk
        rcases hk2 with rfl
        · go_wp2_with fail
          go_ret
          rw [HV.out]
          exact ⟨rfl, rfl⟩
    | false =>
      cases h1 : ((66 : Int) == c) with
      | true =>
        have HV : Hid (usesB 2 c = true) := Lib.hid (by rw [HU.out]; simp [h0, h1])
        clear HU
        have e0 : ((((⟨#[65, 66, 73]⟩ : ByteArray)[0]'(by decide)).toNat : Int) == c) = false := h0
        have e1 : ((((⟨#[65, 66, 73]⟩ : ByteArray)[1]'(by decide)).toNat : Int) == c) = true := h1
        go_enter Tryz.func48, Tryz.ntmps48
        go_wp2_with fail
        go_loopw [6] (fun s6 wr => wr = w ∧ ∃ k : Nat, k ≤ 1 ∧ s6 = .int .i64 k) (fun s6 _ => 5 - (intOf s6).toNat)
        case atStart => exact ⟨rfl, 0, by omega, rfl⟩
        case round =>
          obtain ⟨rfl, k, hk, rfl⟩ := hrel
          have hk2 : k = 0 ∨ k = 1 := by omega
          clear hk
          rcases hk2 with rfl | rfl
          · go_wp2_with fail
            go_roundw
            case rel => exact ⟨trivial, 1, by omega, by go_num⟩
            case measure => simp [intOf]
          · go_wp2_with fail
            go_ret
            rw [HV.out]
            exact ⟨rfl, rfl⟩
      | false =>
        cases h2 : ((73 : Int) == c) with
        | true =>
          have HV : Hid (usesB 2 c = true) := Lib.hid (by rw [HU.out]; simp [h0, h1, h2])
          clear HU
          have e0 : ((((⟨#[65, 66, 73]⟩ : ByteArray)[0]'(by decide)).toNat : Int) == c) = false := h0
          have e1 : ((((⟨#[65, 66, 73]⟩ : ByteArray)[1]'(by decide)).toNat : Int) == c) = false := h1
          have e2 : ((((⟨#[65, 66, 73]⟩ : ByteArray)[2]'(by decide)).toNat : Int) == c) = true := h2
          go_enter Tryz.func48, Tryz.ntmps48
          go_wp2_with fail
          go_loopw [6] (fun s6 wr => wr = w ∧ ∃ k : Nat, k ≤ 2 ∧ s6 = .int .i64 k) (fun s6 _ => 5 - (intOf s6).toNat)
          case atStart => exact ⟨rfl, 0, by omega, rfl⟩
          case round =>
            obtain ⟨rfl, k, hk, rfl⟩ := hrel
            have hk2 : k = 0 ∨ k = 1 ∨ k = 2 := by omega
            clear hk
            rcases hk2 with rfl | rfl | rfl
            · go_wp2_with fail
              go_roundw
              case rel => exact ⟨trivial, 1, by omega, by go_num⟩
              case measure => simp [intOf]
            · go_wp2_with fail
              go_roundw
              case rel => exact ⟨trivial, 2, by omega, by go_num⟩
              case measure => simp [intOf]
            · go_wp2_with fail
              go_ret
              rw [HV.out]
              exact ⟨rfl, rfl⟩
        | false =>
          have HV : Hid (usesB 2 c = false) := Lib.hid (by rw [HU.out]; simp [h0, h1, h2])
          clear HU
          have e0 : ((((⟨#[65, 66, 73]⟩ : ByteArray)[0]'(by decide)).toNat : Int) == c) = false := h0
          have e1 : ((((⟨#[65, 66, 73]⟩ : ByteArray)[1]'(by decide)).toNat : Int) == c) = false := h1
          have e2 : ((((⟨#[65, 66, 73]⟩ : ByteArray)[2]'(by decide)).toNat : Int) == c) = false := h2
          go_enter Tryz.func48, Tryz.ntmps48
          go_wp2_with fail
          go_loopw [6] (fun s6 wr => wr = w ∧ ∃ k : Nat, k ≤ 3 ∧ s6 = .int .i64 k) (fun s6 _ => 5 - (intOf s6).toNat)
          case atStart => exact ⟨rfl, 0, by omega, rfl⟩
          case round =>
            obtain ⟨rfl, k, hk, rfl⟩ := hrel
            have hk2 : k = 0 ∨ k = 1 ∨ k = 2 ∨ k = 3 := by omega
            clear hk
            rcases hk2 with rfl | rfl | rfl | rfl
            · go_wp2_with fail
              go_roundw
              case rel => exact ⟨trivial, 1, by omega, by go_num⟩
              case measure => simp [intOf]
            · go_wp2_with fail
              go_roundw
              case rel => exact ⟨trivial, 2, by omega, by go_num⟩
              case measure => simp [intOf]
            · go_wp2_with fail
              go_roundw
              case rel => exact ⟨trivial, 3, by omega, by go_num⟩
              case measure => simp [intOf]
            · go_wp2_with fail
              go_ret
              rw [HV.out]
              exact ⟨rfl, rfl⟩
  · have HU : Hid (usesB 3 c = (((65 : Int) == c) || ((66 : Int) == c) || ((85 : Int) == c))) := Lib.hid (by simp [usesB, fieldsR, Bool.or_assoc])
    cases h0 : ((65 : Int) == c) with
    | true =>
      have HV : Hid (usesB 3 c = true) := Lib.hid (by rw [HU.out]; simp [h0])
      clear HU
      have e0 : ((((⟨#[65, 66, 85]⟩ : ByteArray)[0]'(by decide)).toNat : Int) == c) = true := h0
      go_enter Tryz.func48, Tryz.ntmps48
      go_wp2_with fail
      go_loopw [6] (fun s6 wr => wr = w ∧ ∃ k : Nat, k ≤ 0 ∧ s6 = .int .i64 k) (fun s6 _ => 5 - (intOf s6).toNat)
      case atStart => exact ⟨rfl, 0, by omega, rfl⟩
      case round =>
        obtain ⟨rfl, k, hk, rfl⟩ := hrel
        have hk2 : k = 0 := by omega
        clear hk
        rcases hk2 with rfl
        · go_wp2_with fail
          go_ret
          rw [HV.out]
          exact ⟨rfl, rfl⟩
    | false =>
      cases h1 : ((66 : Int) == c) with
      | true =>
        have HV : Hid (usesB 3 c = true) := Lib.hid (by rw [HU.out]; simp [h0, h1])
        clear HU
        have e0 : ((((⟨#[65, 66, 85]⟩ : ByteArray)[0]'(by decide)).toNat : Int) == c) = false := h0
        have e1 : ((((⟨#[65, 66, 85]⟩ : ByteArray)[1]'(by decide)).toNat : Int) == c) = true := h1
        go_enter Tryz.func48, Tryz.ntmps48
        go_wp2_with fail
        go_loopw [6] (fun s6 wr => wr = w ∧ ∃ k : Nat, k ≤ 1 ∧ s6 = .int .i64 k) (fun s6 _ => 5 - (intOf s6).toNat)
        case atStart => exact ⟨rfl, 0, by omega, rfl⟩
        case round =>
          obtain ⟨rfl, k, hk, rfl⟩ := hrel
          have hk2 : k = 0 ∨ k = 1 := by omega
          clear hk
          rcases hk2 with rfl | rfl
          · go_wp2_with fail
            go_roundw
            case rel => exact ⟨trivial, 1, by omega, by go_num⟩
            case measure => simp [intOf]
          · go_wp2_with fail
            go_ret
            rw [HV.out]
            exact ⟨rfl, rfl⟩
      | false =>
        cases h2 : ((85 : Int) == c) with
        | true =>
          have HV : Hid (usesB 3 c = true) := Lib.hid (by rw [HU.out]; simp [h0, h1, h2])
          clear HU
          have e0 : ((((⟨#[65, 66, 85]⟩ : ByteArray)[0]'(by decide)).toNat : Int) == c) = false := h0
          have e1 : ((((⟨#[65, 66, 85]⟩ : ByteArray)[1]'(by decide)).toNat : Int) == c) = false := h1
          have e2 : ((((⟨#[65, 66, 85]⟩ : ByteArray)[2]'(by decide)).toNat : Int) == c) = true := h2
          go_enter Tryz.func48, Tryz.ntmps48
          go_wp2_with fail
          go_loopw [6] (fun s6 wr => wr = w ∧ ∃ k : Nat, k ≤ 2 ∧ s6 = .int .i64 k) (fun s6 _ => 5 - (intOf s6).toNat)
          case atStart => exact ⟨rfl, 0, by omega, rfl⟩
          case round =>
            obtain ⟨rfl, k, hk, rfl⟩ := hrel
            have hk2 : k = 0 ∨ k = 1 ∨ k = 2 := by omega
            clear hk
            rcases hk2 with rfl | rfl | rfl
            · go_wp2_with fail
              go_roundw
              case rel => exact ⟨trivial, 1, by omega, by go_num⟩
              case measure => simp [intOf]
            · go_wp2_with fail
              go_roundw
              case rel => exact ⟨trivial, 2, by omega, by go_num⟩
              case measure => simp [intOf]
            · go_wp2_with fail
              go_ret
              rw [HV.out]
              exact ⟨rfl, rfl⟩
        | false =>
          have HV : Hid (usesB 3 c = false) := Lib.hid (by rw [HU.out]; simp [h0, h1, h2])
          clear HU
          have e0 : ((((⟨#[65, 66, 85]⟩ : ByteArray)[0]'(by decide)).toNat : Int) == c) = false := h0
          have e1 : ((((⟨#[65, 66, 85]⟩ : ByteArray)[1]'(by decide)).toNat : Int) == c) = false := h1
          have e2 : ((((⟨#[65, 66, 85]⟩ : ByteArray)[2]'(by decide)).toNat : Int) == c) = false := h2
          go_enter Tryz.func48, Tryz.ntmps48
          go_wp2_with fail
          go_loopw [6] (fun s6 wr => wr = w ∧ ∃ k : Nat, k ≤ 3 ∧ s6 = .int .i64 k) (fun s6 _ => 5 - (intOf s6).toNat)
          case atStart => exact ⟨rfl, 0, by omega, rfl⟩
          case round =>
            obtain ⟨rfl, k, hk, rfl⟩ := hrel
            have hk2 : k = 0 ∨ k = 1 ∨ k = 2 ∨ k = 3 := by omega
            clear hk
            rcases hk2 with rfl | rfl | rfl | rfl
            · go_wp2_with fail
              go_roundw
              case rel => exact ⟨trivial, 1, by omega, by go_num⟩
              case measure => simp [intOf]
            · go_wp2_with fail
              go_roundw
              case rel => exact ⟨trivial, 2, by omega, by go_num⟩
              case measure => simp [intOf]
            · go_wp2_with fail
              go_roundw
              case rel => exact ⟨trivial, 3, by omega, by go_num⟩
              case measure => simp [intOf]
            · go_wp2_with fail
              go_ret
              rw [HV.out]
              exact ⟨rfl, rfl⟩
  · have HU : Hid (usesB 4 c = (((65 : Int) == c) || ((85 : Int) == c))) := Lib.hid (by simp [usesB, fieldsR, Bool.or_assoc])
    cases h0 : ((65 : Int) == c) with
    | true =>
      have HV : Hid (usesB 4 c = true) := Lib.hid (by rw [HU.out]; simp [h0])
      clear HU
      have e0 : ((((⟨#[65, 85]⟩ : ByteArray)[0]'(by decide)).toNat : Int) == c) = true := h0
      go_enter Tryz.func48, Tryz.ntmps48
      go_wp2_with fail
      go_loopw [6] (fun s6 wr => wr = w ∧ ∃ k : Nat, k ≤ 0 ∧ s6 = .int .i64 k) (fun s6 _ => 5 - (intOf s6).toNat)
      case atStart => exact ⟨rfl, 0, by omega, rfl⟩
      case round =>
        obtain ⟨rfl, k, hk, rfl⟩ := hrel
        have hk2 : k = 0 := by omega
        clear hk
        rcases hk2 with rfl
        · go_wp2_with fail
          go_ret
          rw [HV.out]
          exact ⟨rfl, rfl⟩
    | false =>
      cases h1 : ((85 : Int) == c) with
      | true =>
        have HV : Hid (usesB 4 c = true) := Lib.hid (by rw [HU.out]; simp [h0, h1])
        clear HU
        have e0 : ((((⟨#[65, 85]⟩ : ByteArray)[0]'(by decide)).toNat : Int) == c) = false := h0
        have e1 : ((((⟨#[65, 85]⟩ : ByteArray)[1]'(by decide)).toNat : Int) == c) = true := h1
        go_enter Tryz.func48, Tryz.ntmps48
        go_wp2_with fail
        go_loopw [6] (fun s6 wr => wr = w ∧ ∃ k : Nat, k ≤ 1 ∧ s6 = .int .i64 k) (fun s6 _ => 5 - (intOf s6).toNat)
        case atStart => exact ⟨rfl, 0, by omega, rfl⟩
        case round =>
          obtain ⟨rfl, k, hk, rfl⟩ := hrel
          have hk2 : k = 0 ∨ k = 1 := by omega
          clear hk
          rcases hk2 with rfl | rfl
          · go_wp2_with fail
            go_roundw
            case rel => exact ⟨trivial, 1, by omega, by go_num⟩
            case measure => simp [intOf]
          · go_wp2_with fail
            go_ret
            rw [HV.out]
            exact ⟨rfl, rfl⟩
      | false =>
        have HV : Hid (usesB 4 c = false) := Lib.hid (by rw [HU.out]; simp [h0, h1])
        clear HU
        have e0 : ((((⟨#[65, 85]⟩ : ByteArray)[0]'(by decide)).toNat : Int) == c) = false := h0
        have e1 : ((((⟨#[65, 85]⟩ : ByteArray)[1]'(by decide)).toNat : Int) == c) = false := h1
        go_enter Tryz.func48, Tryz.ntmps48
        go_wp2_with fail
        go_loopw [6] (fun s6 wr => wr = w ∧ ∃ k : Nat, k ≤ 2 ∧ s6 = .int .i64 k) (fun s6 _ => 5 - (intOf s6).toNat)
        case atStart => exact ⟨rfl, 0, by omega, rfl⟩
        case round =>
          obtain ⟨rfl, k, hk, rfl⟩ := hrel
          have hk2 : k = 0 ∨ k = 1 ∨ k = 2 := by omega
          clear hk
          rcases hk2 with rfl | rfl | rfl
          · go_wp2_with fail
            go_roundw
            case rel => exact ⟨trivial, 1, by omega, by go_num⟩
            case measure => simp [intOf]
          · go_wp2_with fail
            go_roundw
            case rel => exact ⟨trivial, 2, by omega, by go_num⟩
            case measure => simp [intOf]
          · go_wp2_with fail
            go_ret
            rw [HV.out]
            exact ⟨rfl, rfl⟩
  · have HU : Hid (usesB 5 c = (((65 : Int) == c) || ((73 : Int) == c))) := Lib.hid (by simp [usesB, fieldsR, Bool.or_assoc])
    cases h0 : ((65 : Int) == c) with
    | true =>
      have HV : Hid (usesB 5 c = true) := Lib.hid (by rw [HU.out]; simp [h0])
      clear HU
      have e0 : ((((⟨#[65, 73]⟩ : ByteArray)[0]'(by decide)).toNat : Int) == c) = true := h0
      go_enter Tryz.func48, Tryz.ntmps48
      go_wp2_with fail
      go_loopw [6] (fun s6 wr => wr = w ∧ ∃ k : Nat, k ≤ 0 ∧ s6 = .int .i64 k) (fun s6 _ => 5 - (intOf s6).toNat)
      case atStart => exact ⟨rfl, 0, by omega, rfl⟩
      case round =>
        obtain ⟨rfl, k, hk, rfl⟩ := hrel
        have hk2 : k = 0 := by omega
        clear hk
        rcases hk2 with rfl
        · go_wp2_with fail
          go_ret
          rw [HV.out]
          exact ⟨rfl, rfl⟩
    | false =>
      cases h1 : ((73 : Int) == c) with
      | true =>
        have HV : Hid (usesB 5 c = true) := Lib.hid (by rw [HU.out]; simp [h0, h1])
        clear HU
        have e0 : ((((⟨#[65, 73]⟩ : ByteArray)[0]'(by decide)).toNat : Int) == c) = false := h0
        have e1 : ((((⟨#[65, 73]⟩ : ByteArray)[1]'(by decide)).toNat : Int) == c) = true := h1
        go_enter Tryz.func48, Tryz.ntmps48
        go_wp2_with fail
        go_loopw [6] (fun s6 wr => wr = w ∧ ∃ k : Nat, k ≤ 1 ∧ s6 = .int .i64 k) (fun s6 _ => 5 - (intOf s6).toNat)
        case atStart => exact ⟨rfl, 0, by omega, rfl⟩
        case round =>
          obtain ⟨rfl, k, hk, rfl⟩ := hrel
          have hk2 : k = 0 ∨ k = 1 := by omega
          clear hk
          rcases hk2 with rfl | rfl
          · go_wp2_with fail
            go_roundw
            case rel => exact ⟨trivial, 1, by omega, by go_num⟩
            case measure => simp [intOf]
          · go_wp2_with fail
            go_ret
            rw [HV.out]
            exact ⟨rfl, rfl⟩
      | false =>
        have HV : Hid (usesB 5 c = false) := Lib.hid (by rw [HU.out]; simp [h0, h1])
        clear HU
        have e0 : ((((⟨#[65, 73]⟩ : ByteArray)[0]'(by decide)).toNat : Int) == c) = false := h0
        have e1 : ((((⟨#[65, 73]⟩ : ByteArray)[1]'(by decide)).toNat : Int) == c) = false := h1
        go_enter Tryz.func48, Tryz.ntmps48
        go_wp2_with fail
        go_loopw [6] (fun s6 wr => wr = w ∧ ∃ k : Nat, k ≤ 2 ∧ s6 = .int .i64 k) (fun s6 _ => 5 - (intOf s6).toNat)
        case atStart => exact ⟨rfl, 0, by omega, rfl⟩
        case round =>
          obtain ⟨rfl, k, hk, rfl⟩ := hrel
          have hk2 : k = 0 ∨ k = 1 ∨ k = 2 := by omega
          clear hk
          rcases hk2 with rfl | rfl | rfl
          · go_wp2_with fail
            go_roundw
            case rel => exact ⟨trivial, 1, by omega, by go_num⟩
            case measure => simp [intOf]
          · go_wp2_with fail
            go_roundw
            case rel => exact ⟨trivial, 2, by omega, by go_num⟩
            case measure => simp [intOf]
          · go_wp2_with fail
            go_ret
            rw [HV.out]
            exact ⟨rfl, rfl⟩
  · have HU : Hid (usesB 6 c = (((66 : Int) == c) || ((73 : Int) == c))) := Lib.hid (by simp [usesB, fieldsR, Bool.or_assoc])
    cases h0 : ((66 : Int) == c) with
    | true =>
      have HV : Hid (usesB 6 c = true) := Lib.hid (by rw [HU.out]; simp [h0])
      clear HU
      have e0 : ((((⟨#[66, 73]⟩ : ByteArray)[0]'(by decide)).toNat : Int) == c) = true := h0
      go_enter Tryz.func48, Tryz.ntmps48
      go_wp2_with fail
      go_loopw [6] (fun s6 wr => wr = w ∧ ∃ k : Nat, k ≤ 0 ∧ s6 = .int .i64 k) (fun s6 _ => 5 - (intOf s6).toNat)
      case atStart => exact ⟨rfl, 0, by omega, rfl⟩
      case round =>
        obtain ⟨rfl, k, hk, rfl⟩ := hrel
        have hk2 : k = 0 := by omega
        clear hk
        rcases hk2 with rfl
        · go_wp2_with fail
          go_ret
          rw [HV.out]
          exact ⟨rfl, rfl⟩
    | false =>
      cases h1 : ((73 : Int) == c) with
      | true =>
        have HV : Hid (usesB 6 c = true) := Lib.hid (by rw [HU.out]; simp [h0, h1])
        clear HU
        have e0 : ((((⟨#[66, 73]⟩ : ByteArray)[0]'(by decide)).toNat : Int) == c) = false := h0
        have e1 : ((((⟨#[66, 73]⟩ : ByteArray)[1]'(by decide)).toNat : Int) == c) = true := h1
        go_enter Tryz.func48, Tryz.ntmps48
        go_wp2_with fail
        go_loopw [6] (fun s6 wr => wr = w ∧ ∃ k : Nat, k ≤ 1 ∧ s6 = .int .i64 k) (fun s6 _ => 5 - (intOf s6).toNat)
        case atStart => exact ⟨rfl, 0, by omega, rfl⟩
        case round =>
          obtain ⟨rfl, k, hk, rfl⟩ := hrel
          have hk2 : k = 0 ∨ k = 1 := by omega
          clear hk
          rcases hk2 with rfl | rfl
          · go_wp2_with fail
            go_roundw
            case rel => exact ⟨trivial, 1, by omega, by go_num⟩
            case measure => simp [intOf]
          · go_wp2_with fail
            go_ret
            rw [HV.out]
            exact ⟨rfl, rfl⟩
      | false =>
        have HV : Hid (usesB 6 c = false) := Lib.hid (by rw [HU.out]; simp [h0, h1])
        clear HU
        have e0 : ((((⟨#[66, 73]⟩ : ByteArray)[0]'(by decide)).toNat : Int) == c) = false := h0
        have e1 : ((((⟨#[66, 73]⟩ : ByteArray)[1]'(by decide)).toNat : Int) == c) = false := h1
        go_enter Tryz.func48, Tryz.ntmps48
        go_wp2_with fail
        go_loopw [6] (fun s6 wr => wr = w ∧ ∃ k : Nat, k ≤ 2 ∧ s6 = .int .i64 k) (fun s6 _ => 5 - (intOf s6).toNat)
        case atStart => exact ⟨rfl, 0, by omega, rfl⟩
        case round =>
          obtain ⟨rfl, k, hk, rfl⟩ := hrel
          have hk2 : k = 0 ∨ k = 1 ∨ k = 2 := by omega
          clear hk
          rcases hk2 with rfl | rfl | rfl
          · go_wp2_with fail
            go_roundw
            case rel => exact ⟨trivial, 1, by omega, by go_num⟩
            case measure => simp [intOf]
          · go_wp2_with fail
            go_roundw
            case rel => exact ⟨trivial, 2, by omega, by go_num⟩
            case measure => simp [intOf]
          · go_wp2_with fail
            go_ret
            rw [HV.out]
            exact ⟨rfl, rfl⟩
  · have HU : Hid (usesB 7 c = (((85 : Int) == c))) := Lib.hid (by simp [usesB, fieldsR, Bool.or_assoc])
    cases h0 : ((85 : Int) == c) with
    | true =>
      have HV : Hid (usesB 7 c = true) := Lib.hid (by rw [HU.out]; simp [h0])
      clear HU
      have e0 : ((((⟨#[85]⟩ : ByteArray)[0]'(by decide)).toNat : Int) == c) = true := h0
      go_enter Tryz.func48, Tryz.ntmps48
      go_wp2_with fail
      go_loopw [6] (fun s6 wr => wr = w ∧ ∃ k : Nat, k ≤ 0 ∧ s6 = .int .i64 k) (fun s6 _ => 5 - (intOf s6).toNat)
      case atStart => exact ⟨rfl, 0, by omega, rfl⟩
      case round =>
        obtain ⟨rfl, k, hk, rfl⟩ := hrel
        have hk2 : k = 0 := by omega
        clear hk
        rcases hk2 with rfl
        · go_wp2_with fail
          go_ret
          rw [HV.out]
          exact ⟨rfl, rfl⟩
    | false =>
      have HV : Hid (usesB 7 c = false) := Lib.hid (by rw [HU.out]; simp [h0])
      clear HU
      have e0 : ((((⟨#[85]⟩ : ByteArray)[0]'(by decide)).toNat : Int) == c) = false := h0
      go_enter Tryz.func48, Tryz.ntmps48
      go_wp2_with fail
      go_loopw [6] (fun s6 wr => wr = w ∧ ∃ k : Nat, k ≤ 1 ∧ s6 = .int .i64 k) (fun s6 _ => 5 - (intOf s6).toNat)
      case atStart => exact ⟨rfl, 0, by omega, rfl⟩
      case round =>
        obtain ⟨rfl, k, hk, rfl⟩ := hrel
        have hk2 : k = 0 ∨ k = 1 := by omega
        clear hk
        rcases hk2 with rfl | rfl
        · go_wp2_with fail
          go_roundw
          case rel => exact ⟨trivial, 1, by omega, by go_num⟩
          case measure => simp [intOf]
        · go_wp2_with fail
          go_ret
          rw [HV.out]
          exact ⟨rfl, rfl⟩
end Go.Proofs.YtecmeegnjjhilaaGreatDoor
