/- isa.register, isa.isName, isa.isBlank: what each returns. -/
import Derived.Test.YtecmeegnjjhilaaGreatDoorEnv
import Derived.Test.YtecmeegnjjhilaaGreatDoorAtoi
namespace Go.Proofs.YtecmeegnjjhilaaGreatDoor
open Go.RowKit
/-- The number behind the letter r, where the digits are its own print. -/
def regP (l : List UInt8) : Int :=
  if l.length < 2 then -1
  else if (l.getD 0 0).toNat ≠ 114 then -1
  else match Lib.atoiAll (l.drop 1) with
    | .ok v => if v < 0 ∨ 15 < v then -1 else if Lib.decDigits v.toNat = l.drop 1 then v else -1
    | _ => -1

theorem first_byte (s : ByteArray) (h : 0 < s.size) : s.data.toList.getD 0 0 = s[0]'h := by
  have hl : 0 < s.data.toList.length := by rw [← Lib.size_eq]; exact h
  rw [List.getD_eq_getElem?_getD, List.getElem?_eq_getElem hl]
  rfl

set_option maxHeartbeats 1000000 in
set_option maxRecDepth 100000 in
theorem register_any (s : ByteArray) (hs : s.size ≤ 1000000000) (er : Nat → Addr) (w : World) (E : Env er w) :
    Calls Tryz.prog 51 #[.string s] w fun e w' => e = .returned (.int .i64 (regP s.data.toList)) ∧ Below w.heap.size w w' := by
  have hsz : s.data.toList.length = s.size := (Lib.size_eq s).symm
  by_cases h2 : s.size < 2
  · have HP : Hid (regP s.data.toList = -1) := Lib.hid (if_pos (by omega))
    clear hsz E
    go_enter Tryz.func51, Tryz.ntmps51
    go_wp2
    go_ret
    exact ⟨by rw [HP.out]; rfl, Below.refl _ _⟩
  · have h0 : 0 < s.size := by omega
    have h2' : ¬ (s.size : Int) < 2 := by omega
    by_cases hr : (s.data.toList.getD 0 0).toNat = 114
    · have hb : (((s[0]'h0).toNat : Int) != 114) = false := by rw [first_byte s h0] at hr; simp [hr]
      have hx : (s.extract 1 s.size).data.toList = s.data.toList.drop 1 := Lib.extract_to_end s 1
      have hxs : (s.extract 1 s.size).size ≤ 1000000000 := by rw [ByteArray.size_extract]; omega
      have HP : Hid (regP s.data.toList = match Lib.atoiAll (s.data.toList.drop 1) with
          | .ok v => if v < 0 ∨ 15 < v then -1 else if Lib.decDigits v.toNat = s.data.toList.drop 1 then v else -1
          | _ => -1) := by
        unfold regP
        rw [if_neg (by omega), if_neg (by omega)]
        rfl
      clear hsz hr h2
      rcases neither_cases (Lib.atoiAll (s.data.toList.drop 1)) with ⟨v, ha⟩ | ha | ha
      · have HA := Lib.hid (Tryz.strconv_Atoi_ok (s.extract 1 s.size) (by omega) v (by rw [hx]; exact ha) w)
        by_cases hv : v < 0 ∨ 15 < v
        · have HQ : Hid (regP s.data.toList = -1) := by
            have := HP.out
            rw [ha] at this
            exact Lib.hid (this.trans (if_pos hv))
          clear HP ha hx hxs E
          go_enter Tryz.func51, Tryz.ntmps51
          go_wp2_with fail
          refine HA.out.mono ?_
          rintro e w1 ⟨rfl, hb1⟩
          have hb01 : Below w.heap.size w w1 := by
            rcases hb1 with rfl | ⟨t, rfl⟩
            · exact Below.refl _ _
            · exact Lib.bytesWorld_below _ _ _
          clear hb1
          rcases hv with hv | hv
          · go_wp2_with fail
            go_quiet (fail)
            go_wp2
            go_ret
            exact ⟨by rw [HQ.out]; rfl, below_drewN hb01 _⟩
          · by_cases hv0 : v < 0
            · omega
            · go_wp2_with fail
              go_quiet (fail)
              go_wp2
              go_ret
              exact ⟨by rw [HQ.out]; rfl, below_drewN hb01 _⟩
        · have h0v : 0 ≤ v := by omega
          have h15 : v ≤ 15 := by omega
          obtain ⟨m, rfl⟩ := Int.eq_ofNat_of_zero_le h0v
          have HI := Lib.hid (fun W => Tryz.strconv_Itoa_small m (by omega) W)
          have hxl : (s.extract 1 s.size).toList = s.data.toList.drop 1 := by rw [ByteArray.toList_eq]; exact hx
          have HM : Hid (regP s.data.toList = if Lib.decDigits m = s.data.toList.drop 1 then (m : Int) else -1) := by
            have := HP.out
            rw [ha] at this
            exact Lib.hid (this.trans (if_neg hv))
          have hm : m < 100 := by omega
          have hs1 : 1 ≤ s.size := by omega
          have hs1' : (1 : Int) ≤ (s.size : Int) := by omega
          cases hd : (Lib.decDigits m == (s.extract 1 s.size).toList) with
          | true =>
            have HQ : Hid (regP s.data.toList = m) := Lib.hid (HM.out.trans (if_pos (by rw [hxl] at hd; simpa using hd)))
            clear HP ha hx hxs E hv h0v HM hxl
            go_enter Tryz.func51, Tryz.ntmps51
            go_wp2_with fail
            refine HA.out.mono ?_
            rintro e w1 ⟨rfl, hb1⟩
            have hb01 : Below w.heap.size w w1 := by
              rcases hb1 with rfl | ⟨t, rfl⟩
              · exact Below.refl _ _
              · exact Lib.bytesWorld_below _ _ _
            clear hb1
            go_wp2_with fail
            go_quiet ((go_at_call 74; exact Calls.quiet_of_same (HI.out _)))
            go_wp2
            go_ret
            exact ⟨by rw [HQ.out]; rfl, below_drewN hb01 _⟩
          | false =>
            have HQ : Hid (regP s.data.toList = -1) := Lib.hid (HM.out.trans (if_neg (by rw [hxl] at hd; simpa using hd)))
            clear HP ha hx hxs E hv h0v HM hxl
            go_enter Tryz.func51, Tryz.ntmps51
            go_wp2_with fail
            refine HA.out.mono ?_
            rintro e w1 ⟨rfl, hb1⟩
            have hb01 : Below w.heap.size w w1 := by
              rcases hb1 with rfl | ⟨t, rfl⟩
              · exact Below.refl _ _
              · exact Lib.bytesWorld_below _ _ _
            clear hb1
            go_wp2_with fail
            go_quiet ((go_at_call 74; exact Calls.quiet_of_same (HI.out _)))
            go_wp2
            go_ret
            exact ⟨by rw [HQ.out]; rfl, below_drewN hb01 _⟩
      · obtain ⟨tp, p, hv⟩ := E.rng
        have HA := Lib.hid (Tryz.strconv_Atoi_range_var (s.extract 1 s.size) (by omega) (by rw [hx]; exact ha) tp p w hv)
        have HQ : Hid (regP s.data.toList = -1) := by
          have := HP.out
          rw [ha] at this
          exact Lib.hid this
        clear HP ha hx hxs E hv
        go_enter Tryz.func51, Tryz.ntmps51
        go_wp2_with fail
        refine HA.out.mono ?_
        rintro e w1 ⟨N, rfl, _, _, hb01⟩
        go_wp2_with fail
        go_quiet (fail)
        go_wp2
        go_ret
        exact ⟨by rw [HQ.out]; rfl, below_drewN hb01 _⟩
      · obtain ⟨tp, p, hv⟩ := E.syn
        have HA := Lib.hid (atoi_bad (s.extract 1 s.size) (by omega) (by rw [hx]; exact ha) tp p w hv)
        have HQ : Hid (regP s.data.toList = -1) := by
          have h1 := HP.out
          revert h1 ha
          cases Lib.atoiAll (s.data.toList.drop 1) <;> intro ha h1
          all_goals first | exact absurd rfl (ha.1 _) | exact absurd rfl ha.2 | exact Lib.hid h1
        clear HP ha hx hxs E hv
        go_enter Tryz.func51, Tryz.ntmps51
        go_wp2_with fail
        refine HA.out.mono ?_
        rintro e w1 ⟨N, rfl, hb01⟩
        go_wp2_with fail
        go_quiet (fail)
        go_wp2
        go_ret
        exact ⟨by rw [HQ.out]; rfl, below_drewN hb01 _⟩
    · have HP : Hid (regP s.data.toList = -1) := by
        unfold regP
        rw [if_neg (by omega), if_pos hr]
        rfl
      have hb : (((s[0]'h0).toNat : Int) != 114) = true := by
        rw [first_byte s h0] at hr
        rw [bne_iff_ne]
        omega
      clear hsz E hr h2
      go_enter Tryz.func51, Tryz.ntmps51
      go_wp2
      go_ret
      exact ⟨by rw [HP.out]; rfl, Below.refl _ _⟩
end Go.Proofs.YtecmeegnjjhilaaGreatDoor
