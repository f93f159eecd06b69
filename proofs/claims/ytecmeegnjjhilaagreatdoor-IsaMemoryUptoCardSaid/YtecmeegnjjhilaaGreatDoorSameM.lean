/- errors.Is by its contracts: against a sentinel: the sentinel itself, nil, another sentinel, an *api.At that wraps the sentinel or another one. -/
import Derived.Test.YtecmeegnjjhilaaGreatDoorEnv
import Derived.WalkKit
import Derived.LaidEql
import Derived.Stop.Asserts
import Derived.RowKitTokens
import Derived.Test.YtecmeegnjjhilaaGreatDoorEnvOf
import Derived.LaidHandle
import Derived.Deep.RegionHeld3
namespace Go.Proofs.YtecmeegnjjhilaaGreatDoor
open Go.RowKit Go.Extern.Stop Go.Stop Go.Extern
theorem isTypeOf (v : Value) (w : World) : (Extern.ReflectliteType.typeOf #[.iface 236 v]).run Tryz.prog w = .ok (.iface 190 (.agg #[.pointer (some ⟨32, 236, none⟩)])) w := by kernel_rfl
/-- The entry behind rtype.Comparable, under a name. -/
def cmpM : Array Value → Sem Value := Extern.ReflectliteType.method fun t => do Extern.Rtype.noPackHeld "Comparable" t; pure (.bool (← typeInfo t).comparable)
theorem isComparable (w : World) : (cmpM #[.agg #[.pointer (some ⟨32, 236, none⟩)]]).run Tryz.prog w = .ok (.bool true) w := by kernel_rfl
theorem isMethodComparable (v : Value) (w : World) : (Go.method 386 190 v "Comparable").run Tryz.prog w = .ok (199, v) w := by kernel_rfl
theorem isComp : (Tryz.prog.info? 236).map (·.comparable) = some true := by kernel_rfl
theorem isSize : (Tryz.prog.info? 238).map (·.size) = some 1 := by kernel_rfl
theorem noIsE (v : Value) (xT : TypeId) (w : World) : (Instr.typeAssert (.iface 236 v) xT 192 true).run Tryz.prog w = .ok (.tuple #[.nilIface, .bool false]) w := run_typeAssert_lacksB Tryz.underlying192 (by kernel_rfl) (by kernel_rfl) v xT w
theorem noUnwrapE (v : Value) (xT : TypeId) (w : World) : (Instr.typeAssert (.iface 236 v) xT 195 true).run Tryz.prog w = .ok (.tuple #[.nilIface, .bool false]) w := run_typeAssert_lacksB Tryz.underlying195 (by kernel_rfl) (by kernel_rfl) v xT w
theorem noUnwrapsE (v : Value) (xT : TypeId) (w : World) : (Instr.typeAssert (.iface 236 v) xT 197 true).run Tryz.prog w = .ok (.tuple #[.nilIface, .bool false]) w := run_typeAssert_lacksB Tryz.underlying197 (by kernel_rfl) (by kernel_rfl) v xT w
theorem noIsW (v : Value) (xT : TypeId) (w : World) : (Instr.typeAssert (.iface 108 v) xT 192 true).run Tryz.prog w = .ok (.tuple #[.nilIface, .bool false]) w := run_typeAssert_lacksB Tryz.underlying192 (by kernel_rfl) (by kernel_rfl) v xT w
theorem hasUnwrapW (v : Value) (xT : TypeId) (w : World) : (Instr.typeAssert (.iface 108 v) xT 195 true).run Tryz.prog w = .ok (.tuple #[.iface 108 v, .bool true]) w := run_typeAssert_hasB Tryz.underlying195 (by kernel_rfl) v xT w
theorem methodUnwrap (v : Value) (w : World) : (Go.method 386 108 v "Unwrap").run Tryz.prog w = .ok (189, v) w := by kernel_rfl

/-- errors.Is(x, x). -/
theorem is_same (a : Addr) (w : World) : Calls Tryz.prog 64 #[ev a, ev a] w fun e w' => e = .returned (.bool true) ∧ w' = w := by
  obtain ⟨i, hi, hcmp⟩ := Option.map_eq_some_iff.1 isComp
  obtain ⟨j, hj, hjs⟩ := Option.map_eq_some_iff.1 isSize
  have h8 := @run_callFunc_extern Tryz.prog 91 _ Extern.ReflectliteType.typeOf Tryz.func91 (by kernel_rfl) (by kernel_rfl) (by kernel_rfl) (by kernel_rfl)
  have h32 := @run_callFunc_extern Tryz.prog 199 _ cmpM Tryz.func199 (by kernel_rfl) (by kernel_rfl) (by kernel_rfl) (by kernel_rfl)
  have tT := isTypeOf
  have cT := isComparable
  have mR := isMethodComparable
  have heq := run_eql_iface_ptr_same (P := Tryz.prog) w a Tryz.underlying33 Tryz.underlying236 hi hcmp hj
  go_enter Tryz.func64, Tryz.ntmps64
  go_wp2
  refine wp_loop_rounds 1 ?_
  rw [rounds_succ]
  go_wp2
  go_ret
  exact ⟨rfl, rfl⟩

/-- errors.Is(x, y), two sentinels. -/
theorem is_other (a b : Addr) (ca cb : Array Value) (ta tb : TypeId) (w : World) (hne : a ≠ b) (ha : w.heap[a.block]? = some (.cells ca ta (0, 0))) (hb : w.heap[b.block]? = some (.cells cb tb (0, 0))) :
    Calls Tryz.prog 64 #[ev a, ev b] w fun e w' => e = .returned (.bool false) ∧ w' = w := by
  obtain ⟨i, hi, hcmp⟩ := Option.map_eq_some_iff.1 isComp
  obtain ⟨j, hj, hjs⟩ := Option.map_eq_some_iff.1 isSize
  have h8 := @run_callFunc_extern Tryz.prog 91 _ Extern.ReflectliteType.typeOf Tryz.func91 (by kernel_rfl) (by kernel_rfl) (by kernel_rfl) (by kernel_rfl)
  have h32 := @run_callFunc_extern Tryz.prog 199 _ cmpM Tryz.func199 (by kernel_rfl) (by kernel_rfl) (by kernel_rfl) (by kernel_rfl)
  have tT := isTypeOf
  have cT := isComparable
  have mR := isMethodComparable
  have nE := noIsE
  have uE := noUnwrapE
  have vE := noUnwrapsE
  have nW := noIsW
  have uW := hasUnwrapW
  have mU := methodUnwrap
  have heq := run_eql_iface_ptr_other (P := Tryz.prog) w Tryz.underlying33 Tryz.underlying236 hi hcmp hj (by rw [hjs]; decide) hne ha hb
  go_enter Tryz.func64, Tryz.ntmps64
  go_wp2
  refine wp_loop_rounds 1 ?_
  rw [rounds_succ]
  go_wp2
  go_ret
  exact ⟨rfl, rfl⟩

/-- errors.Is(e, x), e an *api.At that wraps x. -/
theorem is_wrap_same (pb po : Nat) (b : Addr) (w : World) (h1 : w.cell? ⟨pb, po + 1, none⟩ = some (ev b)) :
    Calls Tryz.prog 64 #[.iface 108 (.pointer (some ⟨pb, po, none⟩)), ev b] w fun e w' => e = .returned (.bool true) ∧ w' = w := by
  obtain ⟨i, hi, hcmp⟩ := Option.map_eq_some_iff.1 isComp
  obtain ⟨j, hj, hjs⟩ := Option.map_eq_some_iff.1 isSize
  have h8 := @run_callFunc_extern Tryz.prog 91 _ Extern.ReflectliteType.typeOf Tryz.func91 (by kernel_rfl) (by kernel_rfl) (by kernel_rfl) (by kernel_rfl)
  have h32 := @run_callFunc_extern Tryz.prog 199 _ cmpM Tryz.func199 (by kernel_rfl) (by kernel_rfl) (by kernel_rfl) (by kernel_rfl)
  have tT := isTypeOf
  have cT := isComparable
  have mR := isMethodComparable
  have nE := noIsE
  have uE := noUnwrapE
  have vE := noUnwrapsE
  have nW := noIsW
  have uW := hasUnwrapW
  have mU := methodUnwrap
  have heq := run_eql_iface_ptr_same (P := Tryz.prog) w b Tryz.underlying33 Tryz.underlying236 hi hcmp hj
  have hty := run_eql_iface_types (P := Tryz.prog) 108 236 (.pointer (some ⟨pb, po, none⟩)) (.pointer (some b)) Tryz.underlying33 (by decide) w
  go_enter Tryz.func64, Tryz.ntmps64
  go_wp2
  refine wp_loop_rounds 2 ?_
  rw [rounds_succ]
  go_wp2
  rw [rounds_succ]
  go_wp2
  go_ret
  exact ⟨rfl, rfl⟩

/-- errors.Is(e, x), e an *api.At that wraps another sentinel. -/
theorem is_wrap_other (pb po : Nat) (b a : Addr) (ca cb : Array Value) (ta tb : TypeId) (w : World) (h1 : w.cell? ⟨pb, po + 1, none⟩ = some (ev a)) (hne : a ≠ b) (ha : w.heap[a.block]? = some (.cells ca ta (0, 0))) (hb : w.heap[b.block]? = some (.cells cb tb (0, 0))) :
    Calls Tryz.prog 64 #[.iface 108 (.pointer (some ⟨pb, po, none⟩)), ev b] w fun e w' => e = .returned (.bool false) ∧ w' = w := by
  obtain ⟨i, hi, hcmp⟩ := Option.map_eq_some_iff.1 isComp
  obtain ⟨j, hj, hjs⟩ := Option.map_eq_some_iff.1 isSize
  have h8 := @run_callFunc_extern Tryz.prog 91 _ Extern.ReflectliteType.typeOf Tryz.func91 (by kernel_rfl) (by kernel_rfl) (by kernel_rfl) (by kernel_rfl)
  have h32 := @run_callFunc_extern Tryz.prog 199 _ cmpM Tryz.func199 (by kernel_rfl) (by kernel_rfl) (by kernel_rfl) (by kernel_rfl)
  have tT := isTypeOf
  have cT := isComparable
  have mR := isMethodComparable
  have nE := noIsE
  have uE := noUnwrapE
  have vE := noUnwrapsE
  have nW := noIsW
  have uW := hasUnwrapW
  have mU := methodUnwrap
  have heq := run_eql_iface_ptr_other (P := Tryz.prog) w Tryz.underlying33 Tryz.underlying236 hi hcmp hj (by rw [hjs]; decide) hne ha hb
  have hty := run_eql_iface_types (P := Tryz.prog) 108 236 (.pointer (some ⟨pb, po, none⟩)) (.pointer (some b)) Tryz.underlying33 (by decide) w
  go_enter Tryz.func64, Tryz.ntmps64
  go_wp2
  refine wp_loop_rounds 2 ?_
  rw [rounds_succ]
  go_wp2
  rw [rounds_succ]
  go_wp2
  go_ret
  exact ⟨rfl, rfl⟩
end Go.Proofs.YtecmeegnjjhilaaGreatDoor

/- errors.As(err, &a), a an *api.At, by its contracts: nil, a sentinel (no hit), an *api.At (a hit). The lines follow the kit's worked example for errors.As. -/
namespace Go.Proofs.YtecmeegnjjhilaaGreatDoor
open Go.RowKit Go.Extern.Stop Go.Stop Go.Extern
/-- errors.As(nil, target). -/
theorem as_nil (t : Value) (w : World) :
    Calls Tryz.prog 66 #[.nilIface, t] w fun e w' => e = .returned (.bool false) ∧ w' = w := by
  go_enter Tryz.func66, Tryz.ntmps66
  go_wp2
  go_ret
  exact ⟨rfl, rfl⟩

theorem as_valueOf27 (t : Addr) (w : World) : (ReflectliteValue.unpack (.iface 125 (.pointer (some t)))).run Tryz.prog w
    = .ok (.agg #[.pointer (some ⟨32, 125, none⟩), .pointer (some ⟨w.heap.size, 0, none⟩), .int .u64 150]) (w.alloc (.cells #[.pointer (some t)] 125)) := by kernel_rfl
theorem as_type27 (a : Addr) (w : World) : (ReflectliteValue.methodAny (ReflectliteValue.valueError "reflectlite.Value.Type" 0) (fun t _ _ _ => ReflectliteType.toType t) #[.agg #[.pointer (some ⟨32, 125, none⟩), .pointer (some a), .int .u64 150]]).run Tryz.prog w
    = .ok (.iface 190 (.agg #[.pointer (some ⟨32, 125, none⟩)])) w := by kernel_rfl
theorem as_methodKind (h : Value) (w : World) : (Go.method 386 190 (.agg #[h]) "Kind").run Tryz.prog w = .ok (185, h) w := by kernel_rfl
theorem as_kind27 (w : World) : ((ReflectliteType.abiMethod fun t => (fun a : Nat => Value.int IntKind.u8 (a : Int)) <$> Rtype.kind t) #[.pointer (some ⟨32, 125, none⟩)]).run Tryz.prog w = .ok (.int .u8 22) w := by kernel_rfl
theorem as_kind25 (w : World) : ((ReflectliteType.abiMethod fun t => (fun a : Nat => Value.int IntKind.u8 (a : Int)) <$> Rtype.kind t) #[.pointer (some ⟨32, 108, none⟩)]).run Tryz.prog w = .ok (.int .u8 22) w := by kernel_rfl

theorem rlm (z : Sem Value) (f : TypeId → Addr → Nat → Nat → Sem Value) (v : Value) :
    ReflectliteValue.method z f #[v] = (do match ← ReflectliteValue.parts v with | none => z | some (t, a, fl) => f t a fl (fl % 32)) := rfl
theorem as_parts27 (a : Addr) (w : World) : (ReflectliteValue.parts (.agg #[.pointer (some ⟨32, 125, none⟩), .pointer (some a), .int .u64 150])).run Tryz.prog w = .ok (some (125, a, 150)) w := by kernel_rfl
/-- (Value).IsNil at the Value of a **p.E that is not nil. -/
theorem as_isNil27 (a p : Addr) (W : World) (ha : W.cell? a = some (.pointer (some p))) :
    (ReflectliteValue.method (ReflectliteValue.valueError "reflectlite.Value.IsNil" 0) ReflectliteValue.isNil #[.agg #[.pointer (some ⟨32, 125, none⟩), .pointer (some a), .int .u64 150]]).run Tryz.prog W = .ok (.bool false) W := by
  rw [rlm]
  simp only [Sem.run_bind, as_parts27, Result.andThen]
  simp [ReflectliteValue.isNil, loadVar, isAgg, underlying, Tryz.underlying125, ha, Result.andThen]

theorem as_methodElem (h : Value) (w : World) : (Go.method 386 190 (.agg #[h]) "Elem").run Tryz.prog w = .ok (200, .agg #[h]) w := by kernel_rfl
theorem as_methodImplements (h : Value) (w : World) : (Go.method 386 190 (.agg #[h]) "Implements").run Tryz.prog w = .ok (201, .agg #[h]) w := by kernel_rfl
theorem as_methodAssignableTo (h : Value) (w : World) : (Go.method 386 190 (.agg #[h]) "AssignableTo").run Tryz.prog w = .ok (198, .agg #[h]) w := by kernel_rfl
theorem as_elem27 (w : World) : (ReflectliteType.method ReflectliteType.elem #[.agg #[.pointer (some ⟨32, 125, none⟩)]]).run Tryz.prog w = .ok (.iface 190 (.agg #[.pointer (some ⟨32, 108, none⟩)])) w := by kernel_rfl
theorem as_implements25 (w : World) : (ReflectliteType.relation "Implements" ReflectliteType.implements_ #[.agg #[.pointer (some ⟨32, 108, none⟩)], .iface 190 (.agg #[.pointer (some ⟨32, 33, none⟩)])]).run Tryz.prog w = .ok (.bool true) w := by kernel_rfl
theorem as_typeOf25 (v : Value) (w : World) : (ReflectliteType.typeOf #[.iface 108 v]).run Tryz.prog w = .ok (.iface 190 (.agg #[.pointer (some ⟨32, 108, none⟩)])) w := by kernel_rfl
theorem as_assignable25 (w : World) : (ReflectliteType.relation "AssignableTo" ReflectliteType.assignableTo #[.agg #[.pointer (some ⟨32, 108, none⟩)], .iface 190 (.agg #[.pointer (some ⟨32, 108, none⟩)])]).run Tryz.prog w = .ok (.bool true) w := by kernel_rfl
theorem as_valueOf25 (e : Addr) (w : World) : (ReflectliteValue.unpack (.iface 108 (.pointer (some e)))).run Tryz.prog w
    = .ok (.agg #[.pointer (some ⟨32, 108, none⟩), .pointer (some ⟨w.heap.size, 0, none⟩), .int .u64 150]) (w.alloc (.cells #[.pointer (some e)] 108)) := by kernel_rfl

theorem as_elemOf27 (w : World) : (Rtype.elem? 125).run Tryz.prog w = .ok (some 108) w := by kernel_rfl
theorem as_mk25 (p : Addr) (w : World) : (ReflectliteValue.mk 108 p ReflectliteValue.flagAddr).run Tryz.prog w = .ok (.agg #[.pointer (some ⟨32, 108, none⟩), .pointer (some p), .int .u64 406]) w := by kernel_rfl
/-- (Value).Elem at the Value of a **p.E that is not nil: the Value of the *p.E variable that it points to, addressable. -/
theorem as_elemV27 (a p : Addr) (W : World) (ha : W.cell? a = some (.pointer (some p))) :
    (ReflectliteValue.method (ReflectliteValue.valueError "reflectlite.Value.Elem" 0) ReflectliteValue.elem #[.agg #[.pointer (some ⟨32, 125, none⟩), .pointer (some a), .int .u64 150]]).run Tryz.prog W
      = .ok (.agg #[.pointer (some ⟨32, 108, none⟩), .pointer (some p), .int .u64 406]) W := by
  rw [rlm]
  simp only [Sem.run_bind, as_parts27, Result.andThen]
  simp [ReflectliteValue.elem, loadVar, isAgg, underlying, Tryz.underlying125, ha, Result.andThen, as_elemOf27, as_mk25]
theorem rls (v x : Value) : ReflectliteValue.set #[v, x] = (do
    let (some (dst, a, fl), some (src, b, _)) := (← ReflectliteValue.parts v, ← ReflectliteValue.parts x)
      | unsupported (.noEntry "extern/(internal/reflectlite.Value).Set.zeroValue")
    if fl / ReflectliteValue.flagAddr % 2 == 0 then unsupported (.noEntry "extern/(internal/reflectlite.Value).Set.unaddressable")
    let val ← loadVar src b
    if ← Rtype.directlyAssignable dst src then storeVar dst a val
    else if ← Rtype.implements dst src then
      if (← Rtype.kind src) == 20 then
        match val with
        | .nilIface => unsupported (.noEntry "extern/reflectlite: a nil value of one interface type handed on as a value of another")
        | _ => storeVar dst a val
      else storeVar dst a (.iface src val)
    else panicString ("reflectlite.Set: value of type " ++ (← Rtype.spelt src) ++ " is not assignable to type " ++ (← Rtype.spelt dst))
    pure (.tuple #[])) := rfl
theorem as_parts25a (a : Addr) (w : World) : (ReflectliteValue.parts (.agg #[.pointer (some ⟨32, 108, none⟩), .pointer (some a), .int .u64 406])).run Tryz.prog w = .ok (some (108, a, 406)) w := by kernel_rfl
theorem as_parts25 (a : Addr) (w : World) : (ReflectliteValue.parts (.agg #[.pointer (some ⟨32, 108, none⟩), .pointer (some a), .int .u64 150])).run Tryz.prog w = .ok (some (108, a, 150)) w := by kernel_rfl
theorem as_direct25 (w : World) : (Rtype.directlyAssignable 108 108).run Tryz.prog w = .ok true w := by kernel_rfl
/-- (Value).Set: the *p.E variable at 'ta' gets what the Value's own variable 'b' holds. -/
theorem as_set25 (ta b e : Addr) (old : Value) (W : World) (hb : W.cell? b = some (.pointer (some e))) (ht : W.cell? ta = some old) (hf : W.frozen? ta = false) :
    (ReflectliteValue.set #[.agg #[.pointer (some ⟨32, 108, none⟩), .pointer (some ta), .int .u64 406], .agg #[.pointer (some ⟨32, 108, none⟩), .pointer (some b), .int .u64 150]]).run Tryz.prog W
      = .ok (.tuple #[]) (W.setCell ta (.pointer (some e))) := by
  rw [rls]
  simp only [Sem.run_bind, as_parts25a, as_parts25, Result.andThen]
  simp [ReflectliteValue.flagAddr, loadVar, isAgg, underlying, Tryz.underlying108, hb, Result.andThen, as_direct25, storeVar, Value.cells, storeCells, Addr.add]
  rw [run_store Tryz.prog W ta _ _ (by rfl)]
  simp [ht, hf]

set_option maxHeartbeats 4000000 in
theorem as_hit (e t : Addr) (old : Value) (w : World) (hg : w.cell? ⟨20, 0, none⟩ = some (.iface 190 (.agg #[.pointer (some ⟨32, 33, none⟩)]))) (ht0 : w.cell? t = some old) (hf0 : w.frozen? t = false) :
    Calls Tryz.prog 66 #[.iface 108 (.pointer (some e)), .iface 125 (.pointer (some t))] w fun ev w' => ev = .returned (.bool true) ∧ w' = ((((w.alloc (.cells #[.pointer (some t)] 125)).alloc (.cells #[.pointer (some ⟨32, 125, none⟩), .pointer (some ⟨w.heap.size, 0, none⟩), .int .u64 150] 161)).alloc (.cells #[.pointer (some ⟨32, 125, none⟩), .pointer (some ⟨w.heap.size, 0, none⟩), .int .u64 150] 161)).alloc (.cells #[.pointer (some e)] 108)).setCell t (.pointer (some e)) := by
  have h6 := @run_callFunc_extern Tryz.prog 93 _ (fun args => ReflectliteValue.unpack (args.getD 0 (.tuple #[]))) Tryz.func93 (by kernel_rfl) (by kernel_rfl) (by kernel_rfl) (by kernel_rfl)
  have h7 := @run_callFunc_extern Tryz.prog 94 _ (ReflectliteValue.methodAny (ReflectliteValue.valueError "reflectlite.Value.Type" 0) (fun t _ _ _ => ReflectliteType.toType t)) Tryz.func94 (by kernel_rfl) (by kernel_rfl) (by kernel_rfl) (by kernel_rfl)
  have h8 := @run_callFunc_extern Tryz.prog 95 _ (ReflectliteValue.method (ReflectliteValue.valueError "reflectlite.Value.IsNil" 0) ReflectliteValue.isNil) Tryz.func95 (by kernel_rfl) (by kernel_rfl) (by kernel_rfl) (by kernel_rfl)
  have h27 := @run_callFunc_extern Tryz.prog 185 _ (ReflectliteType.abiMethod fun t => do pure (.int .u8 (← Rtype.kind t))) Tryz.func185 (by kernel_rfl) (by kernel_rfl) (by kernel_rfl) (by kernel_rfl)
  have h37 := @run_callFunc_extern Tryz.prog 200 _ (ReflectliteType.method ReflectliteType.elem) Tryz.func200 (by kernel_rfl) (by kernel_rfl) (by kernel_rfl) (by kernel_rfl)
  have h38 := @run_callFunc_extern Tryz.prog 201 _ (ReflectliteType.relation "Implements" ReflectliteType.implements_) Tryz.func201 (by kernel_rfl) (by kernel_rfl) (by kernel_rfl) (by kernel_rfl)
  have h10 := @run_callFunc_extern Tryz.prog 91 _ ReflectliteType.typeOf Tryz.func91 (by kernel_rfl) (by kernel_rfl) (by kernel_rfl) (by kernel_rfl)
  have h35 := @run_callFunc_extern Tryz.prog 198 _ (ReflectliteType.relation "AssignableTo" ReflectliteType.assignableTo) Tryz.func198 (by kernel_rfl) (by kernel_rfl) (by kernel_rfl) (by kernel_rfl)
  have h11 := @run_callFunc_extern Tryz.prog 124 _ (ReflectliteValue.method (ReflectliteValue.valueError "reflectlite.Value.Elem" 0) ReflectliteValue.elem) Tryz.func124 (by kernel_rfl) (by kernel_rfl) (by kernel_rfl) (by kernel_rfl)
  have h12 := @run_callFunc_extern Tryz.prog 125 _ ReflectliteValue.set Tryz.func125 (by kernel_rfl) (by kernel_rfl) (by kernel_rfl) (by kernel_rfl)
  have tO := as_typeOf25
  have mA := as_methodAssignableTo
  have a25 := as_assignable25
  have v25 := as_valueOf25
  have f6 := as_valueOf27
  have f7 := as_type27
  have mK := as_methodKind
  have mE := as_methodElem
  have mI := as_methodImplements
  have k27 := as_kind27
  have k25 := as_kind25
  have e27 := as_elem27
  have i25 := as_implements25
  have n8 := as_isNil27 ⟨w.heap.size, 0, none⟩ t ((w.alloc (.cells #[.pointer (some t)] 125)).alloc (.cells #[.pointer (some ⟨32, 125, none⟩), .pointer (some ⟨w.heap.size, 0, none⟩), .int .u64 150] 161)) (by simp)
  have hlt : 20 < w.heap.size := World.block_lt_of_cell? w _ hg
  have hg2 : ((w.alloc (.cells #[.pointer (some t)] 125)).alloc (.cells #[.pointer (some ⟨32, 125, none⟩), .pointer (some ⟨w.heap.size, 0, none⟩), .int .u64 150] 161)).cell? ⟨20, 0, none⟩ = some (.iface 190 (.agg #[.pointer (some ⟨32, 33, none⟩)])) := by
    rw [World.cell?_alloc_lt _ _ ⟨20, 0, none⟩ (by simp; omega), World.cell?_alloc_lt _ _ ⟨20, 0, none⟩ hlt]; exact hg
  have htl : t.block < w.heap.size := by
    rcases Nat.lt_or_ge t.block w.heap.size with h | h
    · exact h
    · simp [World.cell?, Array.getElem?_eq_none h] at ht0
  have el := as_elemV27 ⟨w.heap.size, 0, none⟩ t (((w.alloc (.cells #[.pointer (some t)] 125)).alloc (.cells #[.pointer (some ⟨32, 125, none⟩), .pointer (some ⟨w.heap.size, 0, none⟩), .int .u64 150] 161)).alloc (.cells #[.pointer (some ⟨32, 125, none⟩), .pointer (some ⟨w.heap.size, 0, none⟩), .int .u64 150] 161)) (by rw [World.cell?_alloc_lt _ _ ⟨w.heap.size, 0, none⟩ (by simp; omega)]; simp)
  have st := as_set25 t ⟨w.heap.size + 1 + 1 + 1, 0, none⟩ e old ((((w.alloc (.cells #[.pointer (some t)] 125)).alloc (.cells #[.pointer (some ⟨32, 125, none⟩), .pointer (some ⟨w.heap.size, 0, none⟩), .int .u64 150] 161)).alloc (.cells #[.pointer (some ⟨32, 125, none⟩), .pointer (some ⟨w.heap.size, 0, none⟩), .int .u64 150] 161)).alloc (.cells #[.pointer (some e)] 108))
    (by rw [World.cell?_alloc_at _ _ _ _ (by simp)]; rfl)
    (by rw [World.cell?_alloc_lt _ _ t (by simp; omega), World.cell?_alloc_lt _ _ t (by simp; omega), World.cell?_alloc_lt _ _ t (by simp; omega), World.cell?_alloc_lt _ _ t htl]; exact ht0)
    (by rw [World.frozen?_alloc_old _ _ t (by simp; omega), World.frozen?_alloc_old _ _ t (by simp; omega), World.frozen?_alloc_old _ _ t (by simp; omega), World.frozen?_alloc_old _ _ t (Nat.ne_of_lt htl)]; exact hf0)
  go_enter Tryz.func66, Tryz.ntmps66
  go_wp2
  refine wp_loop_rounds 1 ?_
  rw [rounds_succ]
  go_wp2
  go_ret
  exact ⟨rfl, rfl⟩

theorem as_typeOfE (v : Value) (w : World) : (ReflectliteType.typeOf #[.iface 236 v]).run Tryz.prog w = .ok (.iface 190 (.agg #[.pointer (some ⟨32, 236, none⟩)])) w := by kernel_rfl
theorem as_assignableE (w : World) : (ReflectliteType.relation "AssignableTo" ReflectliteType.assignableTo #[.agg #[.pointer (some ⟨32, 236, none⟩)], .iface 190 (.agg #[.pointer (some ⟨32, 108, none⟩)])]).run Tryz.prog w = .ok (.bool false) w := by kernel_rfl
theorem noAsE (v : Value) (xT : TypeId) (w : World) : (Instr.typeAssert (.iface 236 v) xT 202 true).run Tryz.prog w = .ok (.tuple #[.nilIface, .bool false]) w := run_typeAssert_lacksB Tryz.underlying202 (by kernel_rfl) (by kernel_rfl) v xT w

set_option maxHeartbeats 4000000 in
theorem as_miss (v : Value) (t : Addr) (w : World) (hg : w.cell? ⟨20, 0, none⟩ = some (.iface 190 (.agg #[.pointer (some ⟨32, 33, none⟩)]))) (_ : t.block < w.heap.size) :
    Calls Tryz.prog 66 #[.iface 236 v, .iface 125 (.pointer (some t))] w fun ev w' => ev = .returned (.bool false) ∧ w' = ((w.alloc (.cells #[.pointer (some t)] 125)).alloc (.cells #[.pointer (some ⟨32, 125, none⟩), .pointer (some ⟨w.heap.size, 0, none⟩), .int .u64 150] 161)).alloc (.cells #[.pointer (some ⟨32, 125, none⟩), .pointer (some ⟨w.heap.size, 0, none⟩), .int .u64 150] 161) := by
  have h6 := @run_callFunc_extern Tryz.prog 93 _ (fun args => ReflectliteValue.unpack (args.getD 0 (.tuple #[]))) Tryz.func93 (by kernel_rfl) (by kernel_rfl) (by kernel_rfl) (by kernel_rfl)
  have h7 := @run_callFunc_extern Tryz.prog 94 _ (ReflectliteValue.methodAny (ReflectliteValue.valueError "reflectlite.Value.Type" 0) (fun t _ _ _ => ReflectliteType.toType t)) Tryz.func94 (by kernel_rfl) (by kernel_rfl) (by kernel_rfl) (by kernel_rfl)
  have h8 := @run_callFunc_extern Tryz.prog 95 _ (ReflectliteValue.method (ReflectliteValue.valueError "reflectlite.Value.IsNil" 0) ReflectliteValue.isNil) Tryz.func95 (by kernel_rfl) (by kernel_rfl) (by kernel_rfl) (by kernel_rfl)
  have h27 := @run_callFunc_extern Tryz.prog 185 _ (ReflectliteType.abiMethod fun t => do pure (.int .u8 (← Rtype.kind t))) Tryz.func185 (by kernel_rfl) (by kernel_rfl) (by kernel_rfl) (by kernel_rfl)
  have h37 := @run_callFunc_extern Tryz.prog 200 _ (ReflectliteType.method ReflectliteType.elem) Tryz.func200 (by kernel_rfl) (by kernel_rfl) (by kernel_rfl) (by kernel_rfl)
  have h38 := @run_callFunc_extern Tryz.prog 201 _ (ReflectliteType.relation "Implements" ReflectliteType.implements_) Tryz.func201 (by kernel_rfl) (by kernel_rfl) (by kernel_rfl) (by kernel_rfl)
  have h10 := @run_callFunc_extern Tryz.prog 91 _ ReflectliteType.typeOf Tryz.func91 (by kernel_rfl) (by kernel_rfl) (by kernel_rfl) (by kernel_rfl)
  have h35 := @run_callFunc_extern Tryz.prog 198 _ (ReflectliteType.relation "AssignableTo" ReflectliteType.assignableTo) Tryz.func198 (by kernel_rfl) (by kernel_rfl) (by kernel_rfl) (by kernel_rfl)
  have mA := as_methodAssignableTo
  have f6 := as_valueOf27
  have f7 := as_type27
  have mK := as_methodKind
  have mE := as_methodElem
  have mI := as_methodImplements
  have k27 := as_kind27
  have k25 := as_kind25
  have e27 := as_elem27
  have i25 := as_implements25
  have n8 := as_isNil27 ⟨w.heap.size, 0, none⟩ t ((w.alloc (.cells #[.pointer (some t)] 125)).alloc (.cells #[.pointer (some ⟨32, 125, none⟩), .pointer (some ⟨w.heap.size, 0, none⟩), .int .u64 150] 161)) (by simp)
  have hlt : 20 < w.heap.size := World.block_lt_of_cell? w _ hg
  have hg2 : ((w.alloc (.cells #[.pointer (some t)] 125)).alloc (.cells #[.pointer (some ⟨32, 125, none⟩), .pointer (some ⟨w.heap.size, 0, none⟩), .int .u64 150] 161)).cell? ⟨20, 0, none⟩ = some (.iface 190 (.agg #[.pointer (some ⟨32, 33, none⟩)])) := by
    rw [World.cell?_alloc_lt _ _ ⟨20, 0, none⟩ (by simp; omega), World.cell?_alloc_lt _ _ ⟨20, 0, none⟩ hlt]; exact hg
  have tE := as_typeOfE
  have aE := as_assignableE
  have nA := noAsE
  have uE := noUnwrapE
  have vE := noUnwrapsE
  go_enter Tryz.func66, Tryz.ntmps66
  go_wp2
  refine wp_loop_rounds 1 ?_
  rw [rounds_succ]
  go_wp2
  go_ret
  exact ⟨rfl, rfl⟩
end Go.Proofs.YtecmeegnjjhilaaGreatDoor

/- What memory holds where the code of an error is asked: all twenty sentinels, apart from one another, and the handle of the type of errors; and that a row's thirty listed variables give it. -/
namespace Go.Proofs.YtecmeegnjjhilaaGreatDoor
open Go.RowKit Go.ChangeShapes
/-- The variable of a code. -/
def gOf (c : Nat) : Nat := [0, 4, 5, 6, 1, 7, 8, 0, 9, 10, 11, 13, 12, 14, 15, 16, 17, 3, 2, 18, 19].getD c 0

structure Env2 (er : Nat → Addr) (w : World) : Prop where
  env : Env er w
  ety : w.cell? ⟨20, 0, none⟩ = some (.iface 190 (.agg #[.pointer (some ⟨32, 33, none⟩)]))
  sent : ∀ c, 1 ≤ c → c ≤ 20 → w.cell? ⟨gOf c, 0, none⟩ = some (ev (er c))
  rows : ∀ c, 1 ≤ c → c ≤ 20 → ∃ cs t, w.heap[(er c).block]? = some (.cells cs t (0, 0))
  apart : ∀ c d, 1 ≤ c → c ≤ 20 → 1 ≤ d → d ≤ 20 → er c = er d → c = d

theorem Env2.below {er : Nat → Addr} {w w' : World} (h : Env2 er w) (hb : Below w.heap.size w w') : Env2 er w' where
  env := h.env.below hb
  ety := cell_below h.ety hb
  sent := fun c h1 h2 => cell_below (h.sent c h1 h2) hb
  rows := fun c h1 h2 => by
    obtain ⟨cs, t, hr⟩ := h.rows c h1 h2
    refine ⟨cs, t, ?_⟩
    have hlt : (er c).block < w.heap.size := by
      rcases Nat.lt_or_ge (er c).block w.heap.size with hl | hl
      · exact hl
      · rw [Array.getElem?_eq_none hl] at hr; simp at hr
    rw [hb.block _ hlt]
    exact hr
  apart := h.apart

set_option maxRecDepth 100000 in
/-- The sentinels at the head of a list of laid variables. -/
theorem sents_of {W : World} : ∀ (l : List (String × Nat × DataW Unit)) (r : List (String × DataW Unit)) (ps : List MemPlace),
    (∀ x ∈ l, Tryz.prog.globalNamed x.1 = some x.2.1 ∧ (Tryz.prog.globals[x.2.1]?).map (·.type) = some 33 ∧ ∃ text, x.2.2 = .iface "*errors.errorString" (.ptr (.agg [.lit (.string text)]))) →
    DataW.LaidVars Tryz.prog W (l.map (fun x => (x.1, x.2.2)) ++ r) ps → ps.Nodup →
    (∀ b off, MemPlace.cell b off ∈ ps → (∃ c t, W.heap[b]? = some (.cells c t (0, 0))) ∧ ∀ u v, W.cell? ⟨b, off, none⟩ = some (.iface u v) → Value.okWide Tryz.prog W .any 0 u v) →
    ∃ al : List Addr, al.length = l.length ∧ (al.map fun a => MemPlace.cell a.block a.off).Nodup ∧ (∀ a ∈ al, MemPlace.cell a.block a.off ∈ ps) ∧ ∀ (i : Nat) x a, l[i]? = some x → al[i]? = some a → W.cell? ⟨x.2.1, 0, none⟩ = some (ev a)
  | [], _, _, _, _, _, _ => ⟨[], rfl, List.nodup_nil, by simp, by simp⟩
  | (n, g, d) :: l, r, ps, hl, hv, hnd, hrows => by
    obtain ⟨g0, t0, cs0, f0, p0, q0, hg0, ht0, hv0, hd0, hq, e0⟩ := hv
    obtain ⟨hg, ht, text, hd⟩ := hl (n, g, d) (List.mem_cons_self ..)
    simp only at hg ht hd hd0
    subst hd
    obtain rfl := Option.some.inj (hg.symm.trans hg0)
    obtain rfl := Option.some.inj (ht.symm.trans ht0)
    subst e0
    obtain ⟨l0⟩ := cs0
    have ok0 : ∀ u v, l0 = [.iface u v] → Value.okWide Tryz.prog W .any 0 u v := fun u v e => by
      subst e
      exact (hrows g 0 (by simp [MemPlace.row])).2 u v (by simpa using World.var?_cell hg0 hv0 0)
    obtain ⟨a0, s0, rfl, _, _, _, rfl⟩ := errorString_of_trod Tryz.underlying33 row_err Tryz.underlying236 Tryz.underlying238 rfl rfl Tryz.underlying9 (by kernel_rfl) (by kernel_rfl) hd0 ok0
    have hcell : W.cell? ⟨g, 0, none⟩ = some (ev a0) := by simpa using World.var?_cell hg0 hv0 0
    have hin : MemPlace.cell a0.block a0.off ∈ MemPlace.row a0 1 := by simp [MemPlace.row]
    obtain ⟨al, h1, h2, h3, h4⟩ := sents_of l r q0 (fun x hx => hl x (List.mem_cons_of_mem _ hx)) hq (List.Nodup.sublist (List.sublist_append_right _ _) hnd) (fun b off hb => hrows b off (List.mem_append_right _ hb))
    refine ⟨a0 :: al, by simp [h1], ?_, ?_, ?_⟩
    · rw [List.map_cons, List.nodup_cons]
      refine ⟨fun hm => ?_, h2⟩
      obtain ⟨a, ha, hae⟩ := List.mem_map.1 hm
      have hq0 : MemPlace.cell a0.block a0.off ∈ q0 := hae ▸ h3 a ha
      exact (List.nodup_append.1 hnd).2.2 _ (List.mem_append_right _ hin) _ hq0 rfl
    · intro a ha
      rcases List.mem_cons.1 ha with rfl | ha
      · exact List.mem_append_left _ (List.mem_append_right _ hin)
      · exact List.mem_append_right _ (h3 a ha)
    · intro i x a hi ha
      cases i with
      | zero =>
        simp only [List.getElem?_cons_zero, Option.some.injEq] at hi ha
        subst hi ha
        exact hcell
      | succ i =>
        rw [List.getElem?_cons_succ] at hi ha
        exact h4 i x a hi ha

def SL : List (String × Nat × DataW Unit) := [("ferry/api.ErrShort", 4, Rows.laid_ferry_api_ErrShort), ("ferry/api.ErrRest", 5, Rows.laid_ferry_api_ErrRest), ("ferry/api.ErrTag", 6, Rows.laid_ferry_api_ErrTag), ("ferry/api.ErrRange", 1, Rows.laid_ferry_api_ErrRange), ("ferry/api.ErrLength", 7, Rows.laid_ferry_api_ErrLength), ("ferry/api.ErrSum", 8, Rows.laid_ferry_api_ErrSum), ("ferry/api.ErrKind", 0, Rows.laid_ferry_api_ErrKind), ("ferry/api.ErrPlan", 9, Rows.laid_ferry_api_ErrPlan), ("ferry/api.ErrState", 10, Rows.laid_ferry_api_ErrState), ("ferry/api.ErrBase", 11, Rows.laid_ferry_api_ErrBase), ("ferry/api.ErrSize", 13, Rows.laid_ferry_api_ErrSize), ("ferry/api.ErrArg", 12, Rows.laid_ferry_api_ErrArg), ("ferry/api.ErrEnd", 14, Rows.laid_ferry_api_ErrEnd), ("ferry/api.ErrBusy", 15, Rows.laid_ferry_api_ErrBusy), ("ferry/api.ErrDown", 16, Rows.laid_ferry_api_ErrDown), ("ferry/api.ErrLost", 17, Rows.laid_ferry_api_ErrLost), ("ferry/api.ErrNone", 3, Rows.laid_ferry_api_ErrNone), ("ferry/api.ErrText", 2, Rows.laid_ferry_api_ErrText), ("ferry/api.ErrStop", 18, Rows.laid_ferry_api_ErrStop), ("ferry/api.ErrDivide", 19, Rows.laid_ferry_api_ErrDivide)]
def L30 : List (String × DataW Unit) := [("math/bits.deBruijn32tab", Rows.laid_math_bits_deBruijn32tab), ("math/bits.deBruijn64tab", Rows.laid_math_bits_deBruijn64tab), ("internal/strconv.uint64pow10", Rows.laid_internal_strconv_uint64pow10), ("unicode/utf8.acceptRanges", Rows.laid_unicode_utf8_acceptRanges), ("errors.errorType", Rows.laid_errors_errorType), ("ferry/api.ErrShort", Rows.laid_ferry_api_ErrShort), ("ferry/api.ErrRest", Rows.laid_ferry_api_ErrRest), ("ferry/api.ErrTag", Rows.laid_ferry_api_ErrTag), ("ferry/api.ErrRange", Rows.laid_ferry_api_ErrRange), ("ferry/api.ErrLength", Rows.laid_ferry_api_ErrLength), ("ferry/api.ErrSum", Rows.laid_ferry_api_ErrSum), ("ferry/api.ErrKind", Rows.laid_ferry_api_ErrKind), ("ferry/api.ErrPlan", Rows.laid_ferry_api_ErrPlan), ("ferry/api.ErrState", Rows.laid_ferry_api_ErrState), ("ferry/api.ErrBase", Rows.laid_ferry_api_ErrBase), ("ferry/api.ErrSize", Rows.laid_ferry_api_ErrSize), ("ferry/api.ErrArg", Rows.laid_ferry_api_ErrArg), ("ferry/api.ErrEnd", Rows.laid_ferry_api_ErrEnd), ("ferry/api.ErrBusy", Rows.laid_ferry_api_ErrBusy), ("ferry/api.ErrDown", Rows.laid_ferry_api_ErrDown), ("ferry/api.ErrLost", Rows.laid_ferry_api_ErrLost), ("ferry/api.ErrNone", Rows.laid_ferry_api_ErrNone), ("ferry/api.ErrText", Rows.laid_ferry_api_ErrText), ("ferry/api.ErrStop", Rows.laid_ferry_api_ErrStop), ("ferry/api.ErrDivide", Rows.laid_ferry_api_ErrDivide), ("strconv.ErrRange", Rows.laid_strconv_ErrRange), ("strconv.ErrSyntax", Rows.laid_strconv_ErrSyntax), ("unicode.White_Space", Rows.laid_unicode_White_Space), ("strings.asciiSpace", Rows.laid_strings_asciiSpace), ("unicode/utf8.first", Rows.laid_unicode_utf8_first)]
def L29 : List (String × DataW Unit) := [("math/bits.deBruijn32tab", Rows.laid_math_bits_deBruijn32tab), ("math/bits.deBruijn64tab", Rows.laid_math_bits_deBruijn64tab), ("internal/strconv.uint64pow10", Rows.laid_internal_strconv_uint64pow10), ("unicode/utf8.acceptRanges", Rows.laid_unicode_utf8_acceptRanges), ("ferry/api.ErrShort", Rows.laid_ferry_api_ErrShort), ("ferry/api.ErrRest", Rows.laid_ferry_api_ErrRest), ("ferry/api.ErrTag", Rows.laid_ferry_api_ErrTag), ("ferry/api.ErrRange", Rows.laid_ferry_api_ErrRange), ("ferry/api.ErrLength", Rows.laid_ferry_api_ErrLength), ("ferry/api.ErrSum", Rows.laid_ferry_api_ErrSum), ("ferry/api.ErrKind", Rows.laid_ferry_api_ErrKind), ("ferry/api.ErrPlan", Rows.laid_ferry_api_ErrPlan), ("ferry/api.ErrState", Rows.laid_ferry_api_ErrState), ("ferry/api.ErrBase", Rows.laid_ferry_api_ErrBase), ("ferry/api.ErrSize", Rows.laid_ferry_api_ErrSize), ("ferry/api.ErrArg", Rows.laid_ferry_api_ErrArg), ("ferry/api.ErrEnd", Rows.laid_ferry_api_ErrEnd), ("ferry/api.ErrBusy", Rows.laid_ferry_api_ErrBusy), ("ferry/api.ErrDown", Rows.laid_ferry_api_ErrDown), ("ferry/api.ErrLost", Rows.laid_ferry_api_ErrLost), ("ferry/api.ErrNone", Rows.laid_ferry_api_ErrNone), ("ferry/api.ErrText", Rows.laid_ferry_api_ErrText), ("ferry/api.ErrStop", Rows.laid_ferry_api_ErrStop), ("ferry/api.ErrDivide", Rows.laid_ferry_api_ErrDivide), ("strconv.ErrRange", Rows.laid_strconv_ErrRange), ("strconv.ErrSyntax", Rows.laid_strconv_ErrSyntax), ("unicode.White_Space", Rows.laid_unicode_White_Space), ("strings.asciiSpace", Rows.laid_strings_asciiSpace), ("unicode/utf8.first", Rows.laid_unicode_utf8_first)]
def L5 : List (String × DataW Unit) := [("strconv.ErrRange", Rows.laid_strconv_ErrRange), ("strconv.ErrSyntax", Rows.laid_strconv_ErrSyntax), ("unicode.White_Space", Rows.laid_unicode_White_Space), ("strings.asciiSpace", Rows.laid_strings_asciiSpace), ("unicode/utf8.first", Rows.laid_unicode_utf8_first)]

theorem rowT : (Tryz.prog.cutTypes.find? (·.1 == "internal/reflectlite.rtype")).map (·.2) = some 190 := by kernel_rfl
theorem oneRow : ((List.range 286).filter fun t => Tryz.prog.rowNamed t [101, 114, 114, 111, 114]) = [33] := by kernel_rfl
theorem typesN : Tryz.prog.types.size = 286 := by kernel_rfl

set_option maxRecDepth 100000 in
theorem env2_of {W : World} (h0 : laidMetH Tryz.prog L30 W) (hsh : W.ShapedOpen Tryz.prog) : ∃ er : Nat → Addr, Env2 er W := by
  have h' : laidMet Tryz.prog (L30.filter fun x => x.2.handleName?.isNone) W ∧ handlesMet Tryz.prog [("errors.errorType", Rows.laid_errors_errorType)] W := h0
  obtain ⟨h, hh⟩ := h'
  rw [show (L30.filter fun x => x.2.handleName?.isNone) = L29 by kernel_rfl] at h
  have hety : W.cell? ⟨20, 0, none⟩ = some (.iface 190 (.agg #[.pointer (some ⟨32, 33, none⟩)])) := by
    obtain ⟨name, u, ty, e1, e2, e3, e4, e5⟩ := hh _ (List.mem_singleton.2 rfl)
    have en : name = [101, 114, 114, 111, 114] := (Option.some.inj e1).symm
    subst en
    obtain rfl := Option.some.inj (rowT.symm.trans e2)
    have hm : ty ∈ (List.range 286).filter fun t => Tryz.prog.rowNamed t [101, 114, 114, 111, 114] := List.mem_filter.2 ⟨List.mem_range.2 (by rw [← typesN]; exact e3), e4⟩
    rw [oneRow] at hm
    obtain rfl := List.mem_singleton.1 hm
    have hty : typeHandle Tryz.prog 33 = .pointer (some ⟨32, 33, none⟩) := by kernel_rfl
    rw [hty] at e5
    simpa using World.var?_cell (show Tryz.prog.globalNamed "errors.errorType" = some 20 by kernel_rfl) e5 0
  have r2 : Lib.VarReads Tryz.prog W "internal/strconv.uint64pow10" Rows.laid_internal_strconv_uint64pow10 := Lib.laidMet.reads h (by unfold L29; repeat (first | exact List.Mem.head _ | apply List.Mem.tail))
  have r3 : Lib.VarReads Tryz.prog W "unicode/utf8.acceptRanges" Rows.laid_unicode_utf8_acceptRanges := Lib.laidMet.reads h (by unfold L29; repeat (first | exact List.Mem.head _ | apply List.Mem.tail))
  have r13 : Lib.VarReads Tryz.prog W "strings.asciiSpace" Rows.laid_strings_asciiSpace := Lib.laidMet.reads h (by unfold L29; repeat (first | exact List.Mem.head _ | apply List.Mem.tail))
  have r14 : Lib.VarReads Tryz.prog W "unicode/utf8.first" Rows.laid_unicode_utf8_first := Lib.laidMet.reads h (by unfold L29; repeat (first | exact List.Mem.head _ | apply List.Mem.tail))
  rw [show (Rows.laid_internal_strconv_uint64pow10 : DataW Unit) = Lib.tabData .u64 Lib.pow10Tab by kernel_rfl] at r2
  rw [show (Rows.laid_unicode_utf8_acceptRanges : DataW Unit) = Lib.acceptData by kernel_rfl] at r3
  rw [show (Rows.laid_strings_asciiSpace : DataW Unit) = Lib.tabData .u8 Lib.asciiSpaceTab by kernel_rfl] at r13
  rw [show Rows.laid_unicode_utf8_first = Lib.firstData by kernel_rfl] at r14
  have g4 : laidMet Tryz.prog (SL.map (fun x => (x.1, x.2.2)) ++ L5) W := h.tail.tail.tail.tail
  have g24 : laidMet Tryz.prog L5 W := g4.tail.tail.tail.tail.tail.tail.tail.tail.tail.tail.tail.tail.tail.tail.tail.tail.tail.tail.tail.tail
  obtain ⟨aR, vR, _⟩ := err_of (g := 23) g24 (by kernel_rfl) (by kernel_rfl)
  obtain ⟨aS, vS, _⟩ := err_of (g := 22) g24.tail (by kernel_rfl) (by kernel_rfl)
  obtain ⟨ps, hv, hnd, hrows⟩ := g4
  have hSL : ∀ x ∈ SL, Tryz.prog.globalNamed x.1 = some x.2.1 ∧ (Tryz.prog.globals[x.2.1]?).map (·.type) = some 33 ∧ ∃ text, x.2.2 = .iface "*errors.errorString" (.ptr (.agg [.lit (.string text)])) := by
    intro x hx
    simp only [SL, List.mem_cons, List.not_mem_nil, or_false] at hx
    rcases hx with rfl | rfl | rfl | rfl | rfl | rfl | rfl | rfl | rfl | rfl | rfl | rfl | rfl | rfl | rfl | rfl | rfl | rfl | rfl | rfl <;> exact ⟨by kernel_rfl, by kernel_rfl, _, rfl⟩
  obtain ⟨al, ha1, ha2, ha3, ha4⟩ := sents_of SL L5 ps hSL hv hnd hrows
  have hlen : al.length = 20 := ha1
  have hget : ∀ c, 1 ≤ c → c ≤ 20 → al[c - 1]? = some (al.getD (c - 1) ⟨0, 0, none⟩) := fun c h1 h2 => by
    rw [List.getD_eq_getElem?_getD, List.getElem?_eq_getElem (by omega)]; rfl
  have hs : ∀ c, 1 ≤ c → c ≤ 20 → W.cell? ⟨gOf c, 0, none⟩ = some (ev (al.getD (c - 1) ⟨0, 0, none⟩)) := fun c h1 h2 => by
    have hx : ∃ x, SL[c - 1]? = some x ∧ x.2.1 = gOf c := by
      have hc : c ∈ List.range' 1 20 := by rw [List.mem_range'_1]; omega
      have hall : (List.range' 1 20).all (fun c => (SL[c - 1]?).map (fun x => x.2.1) == some (gOf c)) = true := by kernel_rfl
      have h3 := List.all_eq_true.1 hall c hc
      rw [beq_iff_eq, Option.map_eq_some_iff] at h3
      exact h3
    obtain ⟨x, hx1, hx2⟩ := hx
    have := ha4 (c - 1) x _ hx1 (hget c h1 h2)
    rw [hx2] at this
    exact this
  refine ⟨fun c => al.getD (c - 1) ⟨0, 0, none⟩, ?_⟩
  exact {
    env := {
      space := tab_of_reads (g := 21) (by kernel_rfl) (by kernel_rfl) Tryz.underlying211 Tryz.underlying5 (by kernel_rfl) (by kernel_rfl) r13
      pow := tab_of_reads (g := 24) (by kernel_rfl) (by kernel_rfl) Tryz.underlying229 Tryz.underlying130 (by kernel_rfl) (by kernel_rfl) r2
      utf := utf8Tabs_of_readsT (ρ := rho) ⟨Tryz.underlying5, Tryz.underlying211, Tryz.underlying251, Tryz.underlying252⟩ ⟨by kernel_rfl, by kernel_rfl, by kernel_rfl, by kernel_rfl, by kernel_rfl, by kernel_rfl, by kernel_rfl⟩ r14 r3
      maxl := Tryz.laysM143.s1_3 W hsh
      syn := ⟨_, _, vS⟩
      rng := ⟨_, _, vR⟩
      eRange := hs 4 (by omega) (by omega)
      eKind := hs 7 (by omega) (by omega)
      eSize := hs 11 (by omega) (by omega)
      eArg := hs 12 (by omega) (by omega)
      eNone := hs 17 (by omega) (by omega)
      eText := hs 18 (by omega) (by omega) }
    ety := hety
    sent := hs
    rows := fun c h1 h2 => (hrows _ _ (ha3 _ (List.mem_of_getElem? (hget c h1 h2)))).1
    apart := fun c d h1 h2 h3 h4 he => by
      have e1 : (al.map fun a => MemPlace.cell a.block a.off)[c - 1]? = (al.map fun a => MemPlace.cell a.block a.off)[d - 1]? := by
        rw [List.getElem?_map, List.getElem?_map, hget c h1 h2, hget d h3 h4]
        exact congrArg _ (congrArg _ he)
      have e2 := (List.getElem?_inj (by rw [List.length_map]; omega) ha2).1 e1
      omega }
end Go.Proofs.YtecmeegnjjhilaaGreatDoor

/- api.Code, api.Place and the law's 'same' at the errors that the program answers with: nil, a sentinel, an *api.At that wraps one. -/
namespace Go.Proofs.YtecmeegnjjhilaaGreatDoor
open Go.RowKit
/-- How errors.Is answers of x: true at the sentinel of code c alone. -/
def IsOf (er : Nat → Addr) (x : Value) (c : Nat) (w : World) : Prop := ∀ k, 1 ≤ k → k ≤ 20 → Calls Tryz.prog 64 #[x, ev (er k)] w fun e w' => e = .returned (.bool (decide (c = k))) ∧ w' = w

theorem isOf_sent {er : Nat → Addr} {w : World} (E : Env2 er w) (c : Nat) (h1 : 1 ≤ c) (h2 : c ≤ 20) : IsOf er (ev (er c)) c w := fun k k1 k2 => by
  by_cases h : c = k
  · subst h
    simp only [decide_true]
    exact is_same (er c) w
  · rw [decide_eq_false h]
    obtain ⟨ca, ta, ha⟩ := E.rows c h1 h2
    obtain ⟨cb, tb, hb⟩ := E.rows k k1 k2
    exact is_other (er c) (er k) ca cb ta tb w (fun he => h (E.apart c k h1 h2 k1 k2 he)) ha hb
theorem isOf_wrap {er : Nat → Addr} {w : World} (E : Env2 er w) (c : Nat) (h1 : 1 ≤ c) (h2 : c ≤ 20) (pb po : Nat) (hw : w.cell? ⟨pb, po + 1, none⟩ = some (ev (er c))) : IsOf er (.iface 108 (.pointer (some ⟨pb, po, none⟩))) c w := fun k k1 k2 => by
  by_cases h : c = k
  · subst h
    simp only [decide_true]
    exact is_wrap_same pb po (er c) w hw
  · rw [decide_eq_false h]
    obtain ⟨ca, ta, ha⟩ := E.rows c h1 h2
    obtain ⟨cb, tb, hb⟩ := E.rows k k1 k2
    exact is_wrap_other pb po (er k) (er c) ca cb ta tb w hw (fun he => h (E.apart c k h1 h2 k1 k2 he)) ha hb
theorem IsOf.yes {er : Nat → Addr} {x : Value} {c : Nat} {w : World} (h : IsOf er x c w) (h1 : 1 ≤ c) (h2 : c ≤ 20) : Calls Tryz.prog 64 #[x, ev (er c)] w fun e w' => e = .returned (.bool true) ∧ w' = w := by
  have := h c h1 h2
  simpa using this
theorem IsOf.no {er : Nat → Addr} {x : Value} {c : Nat} {w : World} (h : IsOf er x c w) (k : Nat) (h1 : 1 ≤ k) (h2 : k ≤ 20) (hne : c ≠ k) : Calls Tryz.prog 64 #[x, ev (er k)] w fun e w' => e = .returned (.bool false) ∧ w' = w := by
  have := h k h1 h2
  rw [decide_eq_false hne] at this
  exact this

attribute [local irreducible] Calls
set_option maxHeartbeats 2000000 in
theorem code_11 (er : Nat → Addr) (tp : TypeId) (p : Value) (w : World) (E : Env2 er w) (H : IsOf er (.iface tp p) 11 w) :
    Calls Tryz.prog 65 #[.iface tp p] w fun e w' => e = .returned (.int .i64 11) ∧ w' = w := by
  have s11 : w.cell? ⟨13, 0, none⟩ = some (ev (er 11)) := E.sent 11 (by omega) (by omega)
  have Y := Lib.hid (H.yes (by omega) (by omega))
  clear E H
  go_enter Tryz.func65, Tryz.ntmps65
  go_wp2_with (go_at_call 64; first | (refine (Y.out).mono ?_; rintro e w' ⟨rfl, rfl⟩))
  go_ret
  exact ⟨rfl, rfl⟩

set_option maxHeartbeats 2000000 in
theorem code_12 (er : Nat → Addr) (tp : TypeId) (p : Value) (w : World) (E : Env2 er w) (H : IsOf er (.iface tp p) 12 w) :
    Calls Tryz.prog 65 #[.iface tp p] w fun e w' => e = .returned (.int .i64 12) ∧ w' = w := by
  have s11 : w.cell? ⟨13, 0, none⟩ = some (ev (er 11)) := E.sent 11 (by omega) (by omega)
  have s12 : w.cell? ⟨12, 0, none⟩ = some (ev (er 12)) := E.sent 12 (by omega) (by omega)
  have N11 := Lib.hid (H.no 11 (by omega) (by omega) (by omega))
  have Y := Lib.hid (H.yes (by omega) (by omega))
  clear E H
  go_enter Tryz.func65, Tryz.ntmps65
  go_wp2_with (go_at_call 64; first | (refine (N11.out).mono ?_; rintro e w' ⟨rfl, rfl⟩) | (refine (Y.out).mono ?_; rintro e w' ⟨rfl, rfl⟩))
  go_ret
  exact ⟨rfl, rfl⟩

set_option maxHeartbeats 2000000 in
theorem code_17 (er : Nat → Addr) (tp : TypeId) (p : Value) (w : World) (E : Env2 er w) (H : IsOf er (.iface tp p) 17 w) :
    Calls Tryz.prog 65 #[.iface tp p] w fun e w' => e = .returned (.int .i64 17) ∧ w' = w := by
  have s11 : w.cell? ⟨13, 0, none⟩ = some (ev (er 11)) := E.sent 11 (by omega) (by omega)
  have s12 : w.cell? ⟨12, 0, none⟩ = some (ev (er 12)) := E.sent 12 (by omega) (by omega)
  have s13 : w.cell? ⟨14, 0, none⟩ = some (ev (er 13)) := E.sent 13 (by omega) (by omega)
  have s14 : w.cell? ⟨15, 0, none⟩ = some (ev (er 14)) := E.sent 14 (by omega) (by omega)
  have s15 : w.cell? ⟨16, 0, none⟩ = some (ev (er 15)) := E.sent 15 (by omega) (by omega)
  have s16 : w.cell? ⟨17, 0, none⟩ = some (ev (er 16)) := E.sent 16 (by omega) (by omega)
  have s17 : w.cell? ⟨3, 0, none⟩ = some (ev (er 17)) := E.sent 17 (by omega) (by omega)
  have N11 := Lib.hid (H.no 11 (by omega) (by omega) (by omega))
  have N12 := Lib.hid (H.no 12 (by omega) (by omega) (by omega))
  have N13 := Lib.hid (H.no 13 (by omega) (by omega) (by omega))
  have N14 := Lib.hid (H.no 14 (by omega) (by omega) (by omega))
  have N15 := Lib.hid (H.no 15 (by omega) (by omega) (by omega))
  have N16 := Lib.hid (H.no 16 (by omega) (by omega) (by omega))
  have Y := Lib.hid (H.yes (by omega) (by omega))
  clear E H
  go_enter Tryz.func65, Tryz.ntmps65
  go_wp2_with (go_at_call 64; first | (refine (N11.out).mono ?_; rintro e w' ⟨rfl, rfl⟩) | (refine (N12.out).mono ?_; rintro e w' ⟨rfl, rfl⟩) | (refine (N13.out).mono ?_; rintro e w' ⟨rfl, rfl⟩) | (refine (N14.out).mono ?_; rintro e w' ⟨rfl, rfl⟩) | (refine (N15.out).mono ?_; rintro e w' ⟨rfl, rfl⟩) | (refine (N16.out).mono ?_; rintro e w' ⟨rfl, rfl⟩) | (refine (Y.out).mono ?_; rintro e w' ⟨rfl, rfl⟩))
  go_ret
  exact ⟨rfl, rfl⟩

set_option maxHeartbeats 2000000 in
theorem code_18 (er : Nat → Addr) (tp : TypeId) (p : Value) (w : World) (E : Env2 er w) (H : IsOf er (.iface tp p) 18 w) :
    Calls Tryz.prog 65 #[.iface tp p] w fun e w' => e = .returned (.int .i64 18) ∧ w' = w := by
  have s11 : w.cell? ⟨13, 0, none⟩ = some (ev (er 11)) := E.sent 11 (by omega) (by omega)
  have s12 : w.cell? ⟨12, 0, none⟩ = some (ev (er 12)) := E.sent 12 (by omega) (by omega)
  have s13 : w.cell? ⟨14, 0, none⟩ = some (ev (er 13)) := E.sent 13 (by omega) (by omega)
  have s14 : w.cell? ⟨15, 0, none⟩ = some (ev (er 14)) := E.sent 14 (by omega) (by omega)
  have s15 : w.cell? ⟨16, 0, none⟩ = some (ev (er 15)) := E.sent 15 (by omega) (by omega)
  have s16 : w.cell? ⟨17, 0, none⟩ = some (ev (er 16)) := E.sent 16 (by omega) (by omega)
  have s17 : w.cell? ⟨3, 0, none⟩ = some (ev (er 17)) := E.sent 17 (by omega) (by omega)
  have s18 : w.cell? ⟨2, 0, none⟩ = some (ev (er 18)) := E.sent 18 (by omega) (by omega)
  have N11 := Lib.hid (H.no 11 (by omega) (by omega) (by omega))
  have N12 := Lib.hid (H.no 12 (by omega) (by omega) (by omega))
  have N13 := Lib.hid (H.no 13 (by omega) (by omega) (by omega))
  have N14 := Lib.hid (H.no 14 (by omega) (by omega) (by omega))
  have N15 := Lib.hid (H.no 15 (by omega) (by omega) (by omega))
  have N16 := Lib.hid (H.no 16 (by omega) (by omega) (by omega))
  have N17 := Lib.hid (H.no 17 (by omega) (by omega) (by omega))
  have Y := Lib.hid (H.yes (by omega) (by omega))
  clear E H
  go_enter Tryz.func65, Tryz.ntmps65
  go_wp2_with (go_at_call 64; first | (refine (N11.out).mono ?_; rintro e w' ⟨rfl, rfl⟩) | (refine (N12.out).mono ?_; rintro e w' ⟨rfl, rfl⟩) | (refine (N13.out).mono ?_; rintro e w' ⟨rfl, rfl⟩) | (refine (N14.out).mono ?_; rintro e w' ⟨rfl, rfl⟩) | (refine (N15.out).mono ?_; rintro e w' ⟨rfl, rfl⟩) | (refine (N16.out).mono ?_; rintro e w' ⟨rfl, rfl⟩) | (refine (N17.out).mono ?_; rintro e w' ⟨rfl, rfl⟩) | (refine (Y.out).mono ?_; rintro e w' ⟨rfl, rfl⟩))
  go_ret
  exact ⟨rfl, rfl⟩

set_option maxHeartbeats 2000000 in
theorem Code_4 (er : Nat → Addr) (tp : TypeId) (p : Value) (w : World) (E : Env2 er w) (H : IsOf er (.iface tp p) 4 w) :
    Calls Tryz.prog 32 #[.iface tp p] w fun e w' => e = .returned (.int .i64 4) ∧ w' = w := by
  have s1 : w.cell? ⟨4, 0, none⟩ = some (ev (er 1)) := E.sent 1 (by omega) (by omega)
  have s2 : w.cell? ⟨5, 0, none⟩ = some (ev (er 2)) := E.sent 2 (by omega) (by omega)
  have s3 : w.cell? ⟨6, 0, none⟩ = some (ev (er 3)) := E.sent 3 (by omega) (by omega)
  have s4 : w.cell? ⟨1, 0, none⟩ = some (ev (er 4)) := E.sent 4 (by omega) (by omega)
  have N1 := Lib.hid (H.no 1 (by omega) (by omega) (by omega))
  have N2 := Lib.hid (H.no 2 (by omega) (by omega) (by omega))
  have N3 := Lib.hid (H.no 3 (by omega) (by omega) (by omega))
  have Y := Lib.hid (H.yes (by omega) (by omega))
  clear E H
  go_enter Tryz.func32, Tryz.ntmps32
  go_wp2_with (first | (go_at_call 64; first | (refine (N1.out).mono ?_; rintro e w' ⟨rfl, rfl⟩) | (refine (N2.out).mono ?_; rintro e w' ⟨rfl, rfl⟩) | (refine (N3.out).mono ?_; rintro e w' ⟨rfl, rfl⟩) | (refine (Y.out).mono ?_; rintro e w' ⟨rfl, rfl⟩)))
  go_ret
  exact ⟨rfl, rfl⟩

set_option maxHeartbeats 2000000 in
theorem Code_5 (er : Nat → Addr) (tp : TypeId) (p : Value) (w : World) (E : Env2 er w) (H : IsOf er (.iface tp p) 5 w) :
    Calls Tryz.prog 32 #[.iface tp p] w fun e w' => e = .returned (.int .i64 5) ∧ w' = w := by
  have s1 : w.cell? ⟨4, 0, none⟩ = some (ev (er 1)) := E.sent 1 (by omega) (by omega)
  have s2 : w.cell? ⟨5, 0, none⟩ = some (ev (er 2)) := E.sent 2 (by omega) (by omega)
  have s3 : w.cell? ⟨6, 0, none⟩ = some (ev (er 3)) := E.sent 3 (by omega) (by omega)
  have s4 : w.cell? ⟨1, 0, none⟩ = some (ev (er 4)) := E.sent 4 (by omega) (by omega)
  have s5 : w.cell? ⟨7, 0, none⟩ = some (ev (er 5)) := E.sent 5 (by omega) (by omega)
  have N1 := Lib.hid (H.no 1 (by omega) (by omega) (by omega))
  have N2 := Lib.hid (H.no 2 (by omega) (by omega) (by omega))
  have N3 := Lib.hid (H.no 3 (by omega) (by omega) (by omega))
  have N4 := Lib.hid (H.no 4 (by omega) (by omega) (by omega))
  have Y := Lib.hid (H.yes (by omega) (by omega))
  clear E H
  go_enter Tryz.func32, Tryz.ntmps32
  go_wp2_with (first | (go_at_call 64; first | (refine (N1.out).mono ?_; rintro e w' ⟨rfl, rfl⟩) | (refine (N2.out).mono ?_; rintro e w' ⟨rfl, rfl⟩) | (refine (N3.out).mono ?_; rintro e w' ⟨rfl, rfl⟩) | (refine (N4.out).mono ?_; rintro e w' ⟨rfl, rfl⟩) | (refine (Y.out).mono ?_; rintro e w' ⟨rfl, rfl⟩)))
  go_ret
  exact ⟨rfl, rfl⟩

set_option maxHeartbeats 2000000 in
theorem Code_7 (er : Nat → Addr) (tp : TypeId) (p : Value) (w : World) (E : Env2 er w) (H : IsOf er (.iface tp p) 7 w) :
    Calls Tryz.prog 32 #[.iface tp p] w fun e w' => e = .returned (.int .i64 7) ∧ w' = w := by
  have s1 : w.cell? ⟨4, 0, none⟩ = some (ev (er 1)) := E.sent 1 (by omega) (by omega)
  have s2 : w.cell? ⟨5, 0, none⟩ = some (ev (er 2)) := E.sent 2 (by omega) (by omega)
  have s3 : w.cell? ⟨6, 0, none⟩ = some (ev (er 3)) := E.sent 3 (by omega) (by omega)
  have s4 : w.cell? ⟨1, 0, none⟩ = some (ev (er 4)) := E.sent 4 (by omega) (by omega)
  have s5 : w.cell? ⟨7, 0, none⟩ = some (ev (er 5)) := E.sent 5 (by omega) (by omega)
  have s6 : w.cell? ⟨8, 0, none⟩ = some (ev (er 6)) := E.sent 6 (by omega) (by omega)
  have s7 : w.cell? ⟨0, 0, none⟩ = some (ev (er 7)) := E.sent 7 (by omega) (by omega)
  have N1 := Lib.hid (H.no 1 (by omega) (by omega) (by omega))
  have N2 := Lib.hid (H.no 2 (by omega) (by omega) (by omega))
  have N3 := Lib.hid (H.no 3 (by omega) (by omega) (by omega))
  have N4 := Lib.hid (H.no 4 (by omega) (by omega) (by omega))
  have N5 := Lib.hid (H.no 5 (by omega) (by omega) (by omega))
  have N6 := Lib.hid (H.no 6 (by omega) (by omega) (by omega))
  have Y := Lib.hid (H.yes (by omega) (by omega))
  clear E H
  go_enter Tryz.func32, Tryz.ntmps32
  go_wp2_with (first | (go_at_call 64; first | (refine (N1.out).mono ?_; rintro e w' ⟨rfl, rfl⟩) | (refine (N2.out).mono ?_; rintro e w' ⟨rfl, rfl⟩) | (refine (N3.out).mono ?_; rintro e w' ⟨rfl, rfl⟩) | (refine (N4.out).mono ?_; rintro e w' ⟨rfl, rfl⟩) | (refine (N5.out).mono ?_; rintro e w' ⟨rfl, rfl⟩) | (refine (N6.out).mono ?_; rintro e w' ⟨rfl, rfl⟩) | (refine (Y.out).mono ?_; rintro e w' ⟨rfl, rfl⟩)))
  go_ret
  exact ⟨rfl, rfl⟩

set_option maxHeartbeats 2000000 in
theorem Code_11 (er : Nat → Addr) (tp : TypeId) (p : Value) (w : World) (E : Env2 er w) (H : IsOf er (.iface tp p) 11 w) :
    Calls Tryz.prog 32 #[.iface tp p] w fun e w' => e = .returned (.int .i64 11) ∧ w' = w := by
  have s1 : w.cell? ⟨4, 0, none⟩ = some (ev (er 1)) := E.sent 1 (by omega) (by omega)
  have s2 : w.cell? ⟨5, 0, none⟩ = some (ev (er 2)) := E.sent 2 (by omega) (by omega)
  have s3 : w.cell? ⟨6, 0, none⟩ = some (ev (er 3)) := E.sent 3 (by omega) (by omega)
  have s4 : w.cell? ⟨1, 0, none⟩ = some (ev (er 4)) := E.sent 4 (by omega) (by omega)
  have s5 : w.cell? ⟨7, 0, none⟩ = some (ev (er 5)) := E.sent 5 (by omega) (by omega)
  have s6 : w.cell? ⟨8, 0, none⟩ = some (ev (er 6)) := E.sent 6 (by omega) (by omega)
  have s7 : w.cell? ⟨0, 0, none⟩ = some (ev (er 7)) := E.sent 7 (by omega) (by omega)
  have s8 : w.cell? ⟨9, 0, none⟩ = some (ev (er 8)) := E.sent 8 (by omega) (by omega)
  have s9 : w.cell? ⟨10, 0, none⟩ = some (ev (er 9)) := E.sent 9 (by omega) (by omega)
  have s10 : w.cell? ⟨11, 0, none⟩ = some (ev (er 10)) := E.sent 10 (by omega) (by omega)
  have N1 := Lib.hid (H.no 1 (by omega) (by omega) (by omega))
  have N2 := Lib.hid (H.no 2 (by omega) (by omega) (by omega))
  have N3 := Lib.hid (H.no 3 (by omega) (by omega) (by omega))
  have N4 := Lib.hid (H.no 4 (by omega) (by omega) (by omega))
  have N5 := Lib.hid (H.no 5 (by omega) (by omega) (by omega))
  have N6 := Lib.hid (H.no 6 (by omega) (by omega) (by omega))
  have N7 := Lib.hid (H.no 7 (by omega) (by omega) (by omega))
  have N8 := Lib.hid (H.no 8 (by omega) (by omega) (by omega))
  have N9 := Lib.hid (H.no 9 (by omega) (by omega) (by omega))
  have N10 := Lib.hid (H.no 10 (by omega) (by omega) (by omega))
  have Z := Lib.hid (code_11 er tp p w E H)
  clear E H
  go_enter Tryz.func32, Tryz.ntmps32
  go_wp2_with (first | (go_at_call 64; first | (refine (N1.out).mono ?_; rintro e w' ⟨rfl, rfl⟩) | (refine (N2.out).mono ?_; rintro e w' ⟨rfl, rfl⟩) | (refine (N3.out).mono ?_; rintro e w' ⟨rfl, rfl⟩) | (refine (N4.out).mono ?_; rintro e w' ⟨rfl, rfl⟩) | (refine (N5.out).mono ?_; rintro e w' ⟨rfl, rfl⟩) | (refine (N6.out).mono ?_; rintro e w' ⟨rfl, rfl⟩) | (refine (N7.out).mono ?_; rintro e w' ⟨rfl, rfl⟩) | (refine (N8.out).mono ?_; rintro e w' ⟨rfl, rfl⟩) | (refine (N9.out).mono ?_; rintro e w' ⟨rfl, rfl⟩) | (refine (N10.out).mono ?_; rintro e w' ⟨rfl, rfl⟩)) | (go_at_call 65; refine (Z.out).mono ?_; rintro e w' ⟨rfl, rfl⟩))
  go_ret
  exact ⟨rfl, rfl⟩

set_option maxHeartbeats 2000000 in
theorem Code_12 (er : Nat → Addr) (tp : TypeId) (p : Value) (w : World) (E : Env2 er w) (H : IsOf er (.iface tp p) 12 w) :
    Calls Tryz.prog 32 #[.iface tp p] w fun e w' => e = .returned (.int .i64 12) ∧ w' = w := by
  have s1 : w.cell? ⟨4, 0, none⟩ = some (ev (er 1)) := E.sent 1 (by omega) (by omega)
  have s2 : w.cell? ⟨5, 0, none⟩ = some (ev (er 2)) := E.sent 2 (by omega) (by omega)
  have s3 : w.cell? ⟨6, 0, none⟩ = some (ev (er 3)) := E.sent 3 (by omega) (by omega)
  have s4 : w.cell? ⟨1, 0, none⟩ = some (ev (er 4)) := E.sent 4 (by omega) (by omega)
  have s5 : w.cell? ⟨7, 0, none⟩ = some (ev (er 5)) := E.sent 5 (by omega) (by omega)
  have s6 : w.cell? ⟨8, 0, none⟩ = some (ev (er 6)) := E.sent 6 (by omega) (by omega)
  have s7 : w.cell? ⟨0, 0, none⟩ = some (ev (er 7)) := E.sent 7 (by omega) (by omega)
  have s8 : w.cell? ⟨9, 0, none⟩ = some (ev (er 8)) := E.sent 8 (by omega) (by omega)
  have s9 : w.cell? ⟨10, 0, none⟩ = some (ev (er 9)) := E.sent 9 (by omega) (by omega)
  have s10 : w.cell? ⟨11, 0, none⟩ = some (ev (er 10)) := E.sent 10 (by omega) (by omega)
  have N1 := Lib.hid (H.no 1 (by omega) (by omega) (by omega))
  have N2 := Lib.hid (H.no 2 (by omega) (by omega) (by omega))
  have N3 := Lib.hid (H.no 3 (by omega) (by omega) (by omega))
  have N4 := Lib.hid (H.no 4 (by omega) (by omega) (by omega))
  have N5 := Lib.hid (H.no 5 (by omega) (by omega) (by omega))
  have N6 := Lib.hid (H.no 6 (by omega) (by omega) (by omega))
  have N7 := Lib.hid (H.no 7 (by omega) (by omega) (by omega))
  have N8 := Lib.hid (H.no 8 (by omega) (by omega) (by omega))
  have N9 := Lib.hid (H.no 9 (by omega) (by omega) (by omega))
  have N10 := Lib.hid (H.no 10 (by omega) (by omega) (by omega))
  have Z := Lib.hid (code_12 er tp p w E H)
  clear E H
  go_enter Tryz.func32, Tryz.ntmps32
  go_wp2_with (first | (go_at_call 64; first | (refine (N1.out).mono ?_; rintro e w' ⟨rfl, rfl⟩) | (refine (N2.out).mono ?_; rintro e w' ⟨rfl, rfl⟩) | (refine (N3.out).mono ?_; rintro e w' ⟨rfl, rfl⟩) | (refine (N4.out).mono ?_; rintro e w' ⟨rfl, rfl⟩) | (refine (N5.out).mono ?_; rintro e w' ⟨rfl, rfl⟩) | (refine (N6.out).mono ?_; rintro e w' ⟨rfl, rfl⟩) | (refine (N7.out).mono ?_; rintro e w' ⟨rfl, rfl⟩) | (refine (N8.out).mono ?_; rintro e w' ⟨rfl, rfl⟩) | (refine (N9.out).mono ?_; rintro e w' ⟨rfl, rfl⟩) | (refine (N10.out).mono ?_; rintro e w' ⟨rfl, rfl⟩)) | (go_at_call 65; refine (Z.out).mono ?_; rintro e w' ⟨rfl, rfl⟩))
  go_ret
  exact ⟨rfl, rfl⟩

set_option maxHeartbeats 2000000 in
theorem Code_17 (er : Nat → Addr) (tp : TypeId) (p : Value) (w : World) (E : Env2 er w) (H : IsOf er (.iface tp p) 17 w) :
    Calls Tryz.prog 32 #[.iface tp p] w fun e w' => e = .returned (.int .i64 17) ∧ w' = w := by
  have s1 : w.cell? ⟨4, 0, none⟩ = some (ev (er 1)) := E.sent 1 (by omega) (by omega)
  have s2 : w.cell? ⟨5, 0, none⟩ = some (ev (er 2)) := E.sent 2 (by omega) (by omega)
  have s3 : w.cell? ⟨6, 0, none⟩ = some (ev (er 3)) := E.sent 3 (by omega) (by omega)
  have s4 : w.cell? ⟨1, 0, none⟩ = some (ev (er 4)) := E.sent 4 (by omega) (by omega)
  have s5 : w.cell? ⟨7, 0, none⟩ = some (ev (er 5)) := E.sent 5 (by omega) (by omega)
  have s6 : w.cell? ⟨8, 0, none⟩ = some (ev (er 6)) := E.sent 6 (by omega) (by omega)
  have s7 : w.cell? ⟨0, 0, none⟩ = some (ev (er 7)) := E.sent 7 (by omega) (by omega)
  have s8 : w.cell? ⟨9, 0, none⟩ = some (ev (er 8)) := E.sent 8 (by omega) (by omega)
  have s9 : w.cell? ⟨10, 0, none⟩ = some (ev (er 9)) := E.sent 9 (by omega) (by omega)
  have s10 : w.cell? ⟨11, 0, none⟩ = some (ev (er 10)) := E.sent 10 (by omega) (by omega)
  have N1 := Lib.hid (H.no 1 (by omega) (by omega) (by omega))
  have N2 := Lib.hid (H.no 2 (by omega) (by omega) (by omega))
  have N3 := Lib.hid (H.no 3 (by omega) (by omega) (by omega))
  have N4 := Lib.hid (H.no 4 (by omega) (by omega) (by omega))
  have N5 := Lib.hid (H.no 5 (by omega) (by omega) (by omega))
  have N6 := Lib.hid (H.no 6 (by omega) (by omega) (by omega))
  have N7 := Lib.hid (H.no 7 (by omega) (by omega) (by omega))
  have N8 := Lib.hid (H.no 8 (by omega) (by omega) (by omega))
  have N9 := Lib.hid (H.no 9 (by omega) (by omega) (by omega))
  have N10 := Lib.hid (H.no 10 (by omega) (by omega) (by omega))
  have Z := Lib.hid (code_17 er tp p w E H)
  clear E H
  go_enter Tryz.func32, Tryz.ntmps32
  go_wp2_with (first | (go_at_call 64; first | (refine (N1.out).mono ?_; rintro e w' ⟨rfl, rfl⟩) | (refine (N2.out).mono ?_; rintro e w' ⟨rfl, rfl⟩) | (refine (N3.out).mono ?_; rintro e w' ⟨rfl, rfl⟩) | (refine (N4.out).mono ?_; rintro e w' ⟨rfl, rfl⟩) | (refine (N5.out).mono ?_; rintro e w' ⟨rfl, rfl⟩) | (refine (N6.out).mono ?_; rintro e w' ⟨rfl, rfl⟩) | (refine (N7.out).mono ?_; rintro e w' ⟨rfl, rfl⟩) | (refine (N8.out).mono ?_; rintro e w' ⟨rfl, rfl⟩) | (refine (N9.out).mono ?_; rintro e w' ⟨rfl, rfl⟩) | (refine (N10.out).mono ?_; rintro e w' ⟨rfl, rfl⟩)) | (go_at_call 65; refine (Z.out).mono ?_; rintro e w' ⟨rfl, rfl⟩))
  go_ret
  exact ⟨rfl, rfl⟩

set_option maxHeartbeats 2000000 in
theorem Code_18 (er : Nat → Addr) (tp : TypeId) (p : Value) (w : World) (E : Env2 er w) (H : IsOf er (.iface tp p) 18 w) :
    Calls Tryz.prog 32 #[.iface tp p] w fun e w' => e = .returned (.int .i64 18) ∧ w' = w := by
  have s1 : w.cell? ⟨4, 0, none⟩ = some (ev (er 1)) := E.sent 1 (by omega) (by omega)
  have s2 : w.cell? ⟨5, 0, none⟩ = some (ev (er 2)) := E.sent 2 (by omega) (by omega)
  have s3 : w.cell? ⟨6, 0, none⟩ = some (ev (er 3)) := E.sent 3 (by omega) (by omega)
  have s4 : w.cell? ⟨1, 0, none⟩ = some (ev (er 4)) := E.sent 4 (by omega) (by omega)
  have s5 : w.cell? ⟨7, 0, none⟩ = some (ev (er 5)) := E.sent 5 (by omega) (by omega)
  have s6 : w.cell? ⟨8, 0, none⟩ = some (ev (er 6)) := E.sent 6 (by omega) (by omega)
  have s7 : w.cell? ⟨0, 0, none⟩ = some (ev (er 7)) := E.sent 7 (by omega) (by omega)
  have s8 : w.cell? ⟨9, 0, none⟩ = some (ev (er 8)) := E.sent 8 (by omega) (by omega)
  have s9 : w.cell? ⟨10, 0, none⟩ = some (ev (er 9)) := E.sent 9 (by omega) (by omega)
  have s10 : w.cell? ⟨11, 0, none⟩ = some (ev (er 10)) := E.sent 10 (by omega) (by omega)
  have N1 := Lib.hid (H.no 1 (by omega) (by omega) (by omega))
  have N2 := Lib.hid (H.no 2 (by omega) (by omega) (by omega))
  have N3 := Lib.hid (H.no 3 (by omega) (by omega) (by omega))
  have N4 := Lib.hid (H.no 4 (by omega) (by omega) (by omega))
  have N5 := Lib.hid (H.no 5 (by omega) (by omega) (by omega))
  have N6 := Lib.hid (H.no 6 (by omega) (by omega) (by omega))
  have N7 := Lib.hid (H.no 7 (by omega) (by omega) (by omega))
  have N8 := Lib.hid (H.no 8 (by omega) (by omega) (by omega))
  have N9 := Lib.hid (H.no 9 (by omega) (by omega) (by omega))
  have N10 := Lib.hid (H.no 10 (by omega) (by omega) (by omega))
  have Z := Lib.hid (code_18 er tp p w E H)
  clear E H
  go_enter Tryz.func32, Tryz.ntmps32
  go_wp2_with (first | (go_at_call 64; first | (refine (N1.out).mono ?_; rintro e w' ⟨rfl, rfl⟩) | (refine (N2.out).mono ?_; rintro e w' ⟨rfl, rfl⟩) | (refine (N3.out).mono ?_; rintro e w' ⟨rfl, rfl⟩) | (refine (N4.out).mono ?_; rintro e w' ⟨rfl, rfl⟩) | (refine (N5.out).mono ?_; rintro e w' ⟨rfl, rfl⟩) | (refine (N6.out).mono ?_; rintro e w' ⟨rfl, rfl⟩) | (refine (N7.out).mono ?_; rintro e w' ⟨rfl, rfl⟩) | (refine (N8.out).mono ?_; rintro e w' ⟨rfl, rfl⟩) | (refine (N9.out).mono ?_; rintro e w' ⟨rfl, rfl⟩) | (refine (N10.out).mono ?_; rintro e w' ⟨rfl, rfl⟩)) | (go_at_call 65; refine (Z.out).mono ?_; rintro e w' ⟨rfl, rfl⟩))
  go_ret
  exact ⟨rfl, rfl⟩

/-- The codes of the errors that layer 4 answers with. -/
def isCode (c : Nat) : Prop := c = 4 ∨ c = 5 ∨ c = 7 ∨ c = 11 ∨ c = 12 ∨ c = 17 ∨ c = 18
theorem isCode.bounds {c : Nat} (h : isCode c) : 1 ≤ c ∧ c ≤ 20 := by
  unfold isCode at h
  omega
theorem Code_of (er : Nat → Addr) (tp : TypeId) (p : Value) (c : Nat) (hc : isCode c) (w : World) (E : Env2 er w) (H : IsOf er (.iface tp p) c w) :
    Calls Tryz.prog 32 #[.iface tp p] w fun e w' => e = .returned (.int .i64 c) ∧ w' = w := by
  rcases hc with rfl | rfl | rfl | rfl | rfl | rfl | rfl
  · exact Code_4 er tp p w E H
  · exact Code_5 er tp p w E H
  · exact Code_7 er tp p w E H
  · exact Code_11 er tp p w E H
  · exact Code_12 er tp p w E H
  · exact Code_17 er tp p w E H
  · exact Code_18 er tp p w E H
theorem Code_nil (w : World) : Calls Tryz.prog 32 #[.nilIface] w fun e w' => e = .returned (.int .i64 0) ∧ w' = w := by
  go_enter Tryz.func32, Tryz.ntmps32
  go_wp2
  go_ret
  exact ⟨rfl, rfl⟩
end Go.Proofs.YtecmeegnjjhilaaGreatDoor

/- api.Place and the law's 'same'. -/
namespace Go.Proofs.YtecmeegnjjhilaaGreatDoor
open Go.RowKit
attribute [local irreducible] Calls
theorem Place_nil (w : World) : Calls Tryz.prog 33 #[.nilIface] w fun e w' => e = .returned (.int .i64 (-1)) ∧ Below w.heap.size w w' := by
  have hb := (Below.refl w.heap.size w).alloc (Nat.le_refl _) (.cells #[.pointer none] 108)
  have HA := Lib.hid (as_nil (.iface 125 (.pointer (some ⟨w.heap.size, 0, none⟩))) (w.alloc (.cells #[.pointer none] 108)))
  go_enter Tryz.func33, Tryz.ntmps33
  go_wp2_with fail
  refine HA.out.mono ?_
  rintro e w' ⟨rfl, rfl⟩
  go_wp2_with fail
  go_ret
  exact ⟨rfl, hb⟩

theorem Place_sent (er : Nat → Addr) (v : Value) (w : World) (E : Env2 er w) : Calls Tryz.prog 33 #[.iface 236 v] w fun e w' => e = .returned (.int .i64 (-1)) ∧ Below w.heap.size w w' := by
  have hb := (Below.refl w.heap.size w).alloc (Nat.le_refl _) (.cells #[.pointer none] 108)
  have HA := Lib.hid (as_miss v ⟨w.heap.size, 0, none⟩ (w.alloc (.cells #[.pointer none] 108)) (cell_below E.ety hb) (by simp))
  go_enter Tryz.func33, Tryz.ntmps33
  go_wp2_with fail
  refine HA.out.mono ?_
  rintro e w' ⟨rfl, rfl⟩
  have hb' := ((hb.alloc hb.size (.cells #[.pointer (some ⟨w.heap.size, 0, none⟩)] 125)).alloc (Nat.le_trans hb.size (by simp)) (.cells #[.pointer (some ⟨32, 125, none⟩), .pointer (some ⟨(w.alloc (.cells #[.pointer none] 108)).heap.size, 0, none⟩), .int .u64 150] 161)).alloc (Nat.le_trans hb.size (by simp)) (.cells #[.pointer (some ⟨32, 125, none⟩), .pointer (some ⟨(w.alloc (.cells #[.pointer none] 108)).heap.size, 0, none⟩), .int .u64 150] 161)
  generalize (((w.alloc (.cells #[.pointer none] 108)).alloc (.cells #[.pointer (some ⟨w.heap.size, 0, none⟩)] 125)).alloc (.cells #[.pointer (some ⟨32, 125, none⟩), .pointer (some ⟨(w.alloc (.cells #[.pointer none] 108)).heap.size, 0, none⟩), .int .u64 150] 161)).alloc (.cells #[.pointer (some ⟨32, 125, none⟩), .pointer (some ⟨(w.alloc (.cells #[.pointer none] 108)).heap.size, 0, none⟩), .int .u64 150] 161) = W at hb' ⊢
  go_wp2_with fail
  go_ret
  exact ⟨rfl, hb'⟩

theorem Place_at (er : Nat → Addr) (b : Nat) (n : Int) (w : World) (E : Env2 er w) (hc : w.cell? ⟨b, 0, none⟩ = some (.int .i64 n)) : Calls Tryz.prog 33 #[.iface 108 (.pointer (some ⟨b, 0, none⟩))] w fun e w' => e = .returned (.int .i64 n) ∧ Below w.heap.size w w' := by
  have hb := (Below.refl w.heap.size w).alloc (Nat.le_refl _) (.cells #[.pointer none] 108)
  have HA := Lib.hid (as_hit ⟨b, 0, none⟩ ⟨w.heap.size, 0, none⟩ (.pointer none) (w.alloc (.cells #[.pointer none] 108)) (cell_below E.ety hb) (by simp) (by simp))
  go_enter Tryz.func33, Tryz.ntmps33
  go_wp2_with fail
  refine HA.out.mono ?_
  rintro e w' ⟨rfl, rfl⟩
  have hb3 := ((hb.alloc hb.size (.cells #[.pointer (some ⟨w.heap.size, 0, none⟩)] 125)).alloc (Nat.le_trans hb.size (by simp)) (.cells #[.pointer (some ⟨32, 125, none⟩), .pointer (some ⟨(w.alloc (.cells #[.pointer none] 108)).heap.size, 0, none⟩), .int .u64 150] 161)).alloc (Nat.le_trans hb.size (by simp)) (.cells #[.pointer (some ⟨32, 125, none⟩), .pointer (some ⟨(w.alloc (.cells #[.pointer none] 108)).heap.size, 0, none⟩), .int .u64 150] 161)
  have hB := (((Blk.new w 108 #[.pointer none]).alloc (.cells #[.pointer (some ⟨w.heap.size, 0, none⟩)] 125)).alloc (.cells #[.pointer (some ⟨32, 125, none⟩), .pointer (some ⟨(w.alloc (.cells #[.pointer none] 108)).heap.size, 0, none⟩), .int .u64 150] 161)).alloc (.cells #[.pointer (some ⟨32, 125, none⟩), .pointer (some ⟨(w.alloc (.cells #[.pointer none] 108)).heap.size, 0, none⟩), .int .u64 150] 161)
  generalize (((w.alloc (.cells #[.pointer none] 108)).alloc (.cells #[.pointer (some ⟨w.heap.size, 0, none⟩)] 125)).alloc (.cells #[.pointer (some ⟨32, 125, none⟩), .pointer (some ⟨(w.alloc (.cells #[.pointer none] 108)).heap.size, 0, none⟩), .int .u64 150] 161)).alloc (.cells #[.pointer (some ⟨32, 125, none⟩), .pointer (some ⟨(w.alloc (.cells #[.pointer none] 108)).heap.size, 0, none⟩), .int .u64 150] 161) = W0 at hb3 hB ⊢
  have hb4 := hb3.alloc (Nat.le_of_lt hB.lt) (.cells #[.pointer (some ⟨b, 0, none⟩)] 108)
  have hB4 := hB.alloc (.cells #[.pointer (some ⟨b, 0, none⟩)] 108)
  generalize W0.alloc (.cells #[.pointer (some ⟨b, 0, none⟩)] 108) = W at hb4 hB4 ⊢
  have hb5 : Below w.heap.size w (W.setCell ⟨w.heap.size, 0, none⟩ (.pointer (some ⟨b, 0, none⟩))) := hb4.setCell (Nat.le_refl _) _
  have hB5 := (hB4.store 0 (.pointer (some ⟨b, 0, none⟩))).cell 0
  have hc5 := cell_below hc hb5
  generalize W.setCell ⟨w.heap.size, 0, none⟩ (.pointer (some ⟨b, 0, none⟩)) = W2 at hb5 hB5 hc5 ⊢
  have k5 : W2.cell? ⟨w.heap.size, 0, none⟩ = some (.pointer (some ⟨b, 0, none⟩)) := hB5
  go_wp2_with fail
  go_ret
  exact ⟨rfl, hb5⟩

/-- same(err, n): is the error of code c, and without a place. -/
theorem same_any (er : Nat → Addr) (c : Nat) (hc : c = 0 ∨ isCode c) (n : Int) (w : World) (E : Env2 er w) :
    Calls Tryz.prog 24 #[errV er c, .int .i64 n] w fun e w' => e = .returned (.bool (decide ((c : Int) = n))) ∧ Below w.heap.size w w' := by
  have hcode : ∃ x, errV er c = x ∧ (∀ W, Below w.heap.size w W → Calls Tryz.prog 32 #[x] W fun e w' => e = .returned (.int .i64 c) ∧ w' = W) ∧ (∀ W, Below w.heap.size w W → Calls Tryz.prog 33 #[x] W fun e w' => e = .returned (.int .i64 (-1)) ∧ Below W.heap.size W w') := by
    rcases hc with rfl | hc
    · exact ⟨.nilIface, rfl, fun W _ => Code_nil W, fun W _ => Place_nil W⟩
    · have hcb := hc.bounds
      refine ⟨ev (er c), errV_pos er c (by omega), fun W hW => ?_, fun W hW => ?_⟩
      · exact Code_of er _ _ c hc W (E.below hW) (isOf_sent (E.below hW) c hcb.1 hcb.2)
      · exact Place_sent er _ W (E.below hW)
  obtain ⟨x, hx, hC, hP⟩ := hcode
  rw [hx]
  have HC := Lib.hid hC
  have HP := Lib.hid hP
  have hr := Below.refl w.heap.size w
  clear hC hP hx hc E
  go_enter Tryz.func24, Tryz.ntmps24
  go_wp2_with fail
  refine (HC.out w hr).mono ?_
  rintro e w1 ⟨rfl, rfl⟩
  by_cases h : (c : Int) = n
  · subst h
    go_wp2_with fail
    refine (HP.out _ hr).mono ?_
    rintro e w2 ⟨rfl, hb⟩
    go_wp2_with fail
    go_ret
    exact ⟨by simp, hb⟩
  · have hd : decide ((c : Int) = n) = false := decide_eq_false h
    go_wp2_with fail
    go_ret
    exact ⟨by rw [hd]; rfl, hr⟩
end Go.Proofs.YtecmeegnjjhilaaGreatDoor
