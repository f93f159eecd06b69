/- ferrylaw04.IsaMemory: the rule of memory at Assemble, List, Bytes and Words: what is handed in stays as it is, spare room too; answers are new memory; a list that is written over is read again. The second form's card: where what it reads is of bulk at most 1048576. Conditions: the listed package variables lie as the program lays them (tied to its text). -/
import Derived.Test.YtecmeegnjjhilaaGreatDoorMemoryA
import Derived.Test.YtecmeegnjjhilaaGreatDoorWit
import Derived.Test.YtecmeegnjjhilaaGreatDoorCards
import Derived.Test.YtecmeegnjjhilaaGreatDoorTie
import Derived.ProofKit
import Derived.OpenShut
import Derived.LaidMore
import Derived.Lay
import Derived.Carry
import Derived.Deep.DeepHandedRow
import Derived.SevenTiedAt
import Derived.SizedLaws
namespace Go.Proofs.YtecmeegnjjhilaaGreatDoor.isaMemoryUpto
open Go.ChangeShapes Go.WideShapes Go.ChangeAt Go.RowKit

theorem own : ownKnob Tryz.prog.godebug = none := by kernel_rfl
theorem laidOut : laidOutB Tryz.prog = true := by kernel_rfl

theorem bulk_lits {H : Type} (k : IntKind) : ∀ xs : List Int, Rows.uptoBulkAll (lits (H := H) k xs) = xs.length
  | [] => rfl
  | x :: xs => by
    have ih := bulk_lits (H := H) k xs
    have e : lits (H := H) k (x :: xs) = .lit (.int k x) :: lits k xs := rfl
    have e1 : Rows.uptoBulk (H := H) (.lit (.int k x)) = 1 := rfl
    rw [e, Rows.uptoBulkAll, e1, ih, List.length_cons]
    omega
theorem bulk_list {H : Type} {k : IntKind} {xs : List Int} {d : DataW H} (h : d = .nil ∧ xs = [] ∨ ∃ r, d = .slice (lits k xs) r) : xs.length ≤ Rows.uptoBulk d := by
  rcases h with ⟨rfl, rfl⟩ | ⟨r, rfl⟩
  · exact Nat.zero_le _
  · rw [Rows.uptoBulk, bulk_lits]
    omega
theorem bulk_source {H : Type} {x : SrcArg} {d1 d2 : DataW H} (h1 : d1 = .nil ∧ x.ws = [] ∨ ∃ r, d1 = .slice (lits .u32 x.ws) r) (h2 : d2 = .nil ∧ x.bs = [] ∨ ∃ r, d2 = .slice (lits .u8 x.bs) r)
    (h : Rows.uptoBulkAll ([.agg [.lit (.string x.text.data.toList), d1, d2]] ++ []) ≤ 1048576) : x.text.size ≤ 1048576 ∧ x.ws.length ≤ 1048576 ∧ x.bs.length ≤ 1048576 := by
  have a := bulk_list h1
  have b := bulk_list h2
  simp only [List.cons_append, List.nil_append, Rows.uptoBulkAll, Rows.uptoBulk] at h
  rw [Lib.size_eq]
  omega

set_option maxRecDepth 100000 in
theorem contract (H : Type) (enc : TypeId × Value → H) (W : World) (base : Nat) (args : Array Value) (ds gs : List (DataW H)) (before : List MemPlace)
    (hval : ∀ (j : Nat) t v, Tryz.f9.params[j]? = some t → args[j]? = some v → Value.okWide Tryz.prog W .any base t v)
    (hW : DataW.Whole enc Tryz.prog Tryz.f9.params.toList Rows.isaMemorySpec.vars false W args.toList ds gs before) (hk : Rows.uptoSmall H (ds ++ gs) = true) (hL : laidMetH Tryz.prog L30 W) (hsh : W.ShapedOpen Tryz.prog) :
    Calls Tryz.prog 9 args W fun e W' => ∃ v, e = .returned v ∧ Rows.isaMemorySpec.post enc Tryz.prog Tryz.f9 false true false false W args v W' := by
  obtain ⟨er, E⟩ := env2_of hL hsh
  have hW' := hW
  obtain ⟨p, q, hA0, hV, rfl, _, _⟩ := hW
  have hA : DataW.TrodAll enc Tryz.prog W 0 (fun _ => true) true Tryz.f9.params.toList args.toList ds p := hA0
  rw [Tryz.params9] at hA hval
  obtain ⟨v0, d0, rfl, rfl, h0⟩ := trodAll_one hA
  obtain ⟨rfl, rfl⟩ := trodVars_none hV
  obtain ⟨x, rfl, hIn, d1, d2, rfl, hd1, hd2⟩ := open_source (hval 0 58 v0 rfl rfl) h0
  have hsz := bulk_source hd1 hd2 (of_decide_eq_true hk)
  clear hA0
  simp only [List.append_nil] at hW'
  have hlt : ∀ x ∈ p, x.block < W.heap.size := fun x hx => by simpa using hW'.lt x hx
  refine (memory_walk er x hsz.1 hsz.2.1 hsz.2.2 W E hIn).mono fun e W' ⟨he, hb⟩ => ?_
  subst he
  refine ⟨_, rfl, _, _, _, [], p, [], hW', ?_, ?_, ?_, hb.frame _, fun h => by cases h⟩
  · exact trodAll_mk1 (shut_bool Tryz.underlying4 true)
  · exact trodAll_mk1 (Below.trod laidOut (by kernel_rfl) (of_decide_eq_true (by kernel_rfl)) h0 hb hlt)
  · rfl

theorem laid_met (os : Os) (args : Array Value) : laidMetH Tryz.prog Rows.isaMemoryUptoRow.laid ((witW os).forCall (fun _ _ => 0) ⟨#[], args, []⟩).memory := wit_met os args
def wArgs : Array Value := #[.agg #[.string ⟨#[]⟩, .slice none 0 0, .slice none 0 0]]
theorem reads (os : Os) {H : Type} (enc : TypeId × Value → H) : ∃ places, DataW.whole enc Tryz.prog ((witW os).forCall (fun _ _ => 0) ⟨#[], wArgs, []⟩).memory Tryz.f9.params.toList Rows.isaMemorySpec.vars false wArgs.toList 8 = some ([.agg [.lit (.string []), .nil, .nil]], [], places) :=
  ⟨[], by kernel_rfl⟩

set_option maxRecDepth 100000 in
theorem lifted (os : Os) (started : os.Started) (H : Type) (enc : TypeId × Value → H) (F : Stop.Interp) :
    ReturnsInHanded {} Tryz.checked os 9 .any ((Rows.OpenSpec.upto Rows.isaMemorySpec).preRow enc Tryz.prog Tryz.f9 Rows.isaMemoryUptoRow.domain false Rows.isaMemoryUptoRow.laid) (((Rows.OpenSpec.upto Rows.isaMemorySpec).at F).post enc Tryz.prog Tryz.f9 false true false false) := by
  obtain ⟨places, hx⟩ := reads os enc
  refine returnsInHanded_of_row (C := Tryz.checked) (s := Rows.OpenSpec.upto Rows.isaMemorySpec) own started (by kernel_rfl) Tryz.func9
    ⟨witW os, fun _ _ => 0, ⟨#[], wArgs, []⟩, witW_os os, World.shaped_of_ZipB (by kernel_rfl) (by kernel_rfl), rfl,
      (Input.okWide_of_okWideB (by kernel_rfl)).2, OpenSpec.preRow_of_cond 8 hx (by kernel_rfl) (fun k hk => by cases hk; kernel_rfl) (by kernel_rfl) (laid_met os _), ?_⟩ ?_
  · simp only [Assume.holds]
    exact ⟨by simp, by simp, fun _ => Modest.zero, by simp, by simp⟩
  intro W base args ds gs before hval hW _ hcond _ hL hsh _
  exact contract H enc W base args ds gs before hval hW (hcond _ rfl) hL hsh

theorem said : Rows.IsaMemoryUptoSaid :=
  OpenClaim.holds_of_cond 9 Tryz.f9 rfl rfl rfl rfl rfl rfl rfl ⟨rfl, rfl, rfl, rfl, rfl⟩ rfl rfl rfl rfl rfl (by kernel_rfl) Tryz.func9 (by kernel_rfl)
    (of_decide_eq_true (by kernel_rfl)) (by unfold Func.isWrapper; first | (rw [if_pos (by decide +kernel)]; kernel_rfl) | (rw [if_neg (by decide +kernel)]; exact ⟨rfl, rfl⟩))
    (fun os started H enc _ F => by rw [OpenClaim.pre_eq_preRow]; exact lifted os started H enc F)

theorem plain (f : FuncId) (fn : Func) (hf : Tryz.pinned.checked.prog.funcNamed "ferry/ferrylaw04.IsaMemory" = some f) (hfn : Tryz.pinned.checked.prog.funcs[f]? = some fn) :
    true = Tryz.pinned.checked.prog.looks [] ∧ ∀ (j : Nat) t, fn.params[j]? = some t → Tryz.pinned.checked.prog.wantsStandIn t = false := by
  obtain rfl : f = 9 := Option.some.inj ((show Tryz.prog.funcNamed "ferry/ferrylaw04.IsaMemory" = some 9 by kernel_rfl).symm.trans hf) |>.symm
  obtain rfl : fn = Tryz.f9 := (Option.some.inj (Tryz.func9.symm.trans hfn)).symm
  refine ⟨by kernel_rfl, fun j t ht => ?_⟩
  rw [Tryz.params9] at ht
  obtain rfl : t = 58 := by simpa using Array.mem_of_getElem? ht
  exact (show Tryz.prog.wantsStandIn 58 = false by kernel_rfl)

/-- THE CARD. -/
theorem card : Rows.IsaMemoryUptoCardSaid :=
  Claim7.holds_tied_plain_at .later [] _ _ _ _ said (fun _ h => by cases h) (by kernel_rfl) (fun _ h => by cases h) isaMemoryUpto_row_tie rfl ⟨rfl, rfl⟩ (by kernel_rfl) rfl plain (by kernel_rfl)
#print axioms card
end Go.Proofs.YtecmeegnjjhilaaGreatDoor.isaMemoryUpto
