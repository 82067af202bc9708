import Derived.Test.YteciceelinbfoaaDoorAs
import Derived.Laws.Rows
import Derived.Laws.Tables
import Derived.WalkKit
import Derived.LaidEql
import Derived.Stop.Asserts
import Derived.RowKitTokens
import Derived.Lib.Hide
import Derived.Below
set_option linter.unusedVariables false
namespace Go.Proofs.YteciceelinbfoaaDoor
open Go.RowKit Go.Extern.Stop Go.Stop Go.Extern

theorem af_valueOfP (t : Addr) (w : World) : (ReflectliteValue.unpack (.iface 83 (.pointer (some t)))).run Tryd.prog w
    = .ok (.agg #[.pointer (some ⟨1, 83, none⟩), .pointer (some ⟨w.heap.size, 0, none⟩), .int .u64 150]) (w.alloc (.cells #[.pointer (some t)] 83)) := by kernel_rfl
theorem af_typeP (a : Addr) (w : World) : (ReflectliteValue.methodAny (ReflectliteValue.valueError "reflectlite.Value.Type" 0) (fun t _ _ _ => ReflectliteType.toType t) #[.agg #[.pointer (some ⟨1, 83, none⟩), .pointer (some a), .int .u64 150]]).run Tryd.prog w
    = .ok (.iface 105 (.agg #[.pointer (some ⟨1, 83, none⟩)])) w := by kernel_rfl
theorem af_methodKind (h : Value) (w : World) : (Go.method 247 105 (.agg #[h]) "Kind").run Tryd.prog w = .ok (49, h) w := by kernel_rfl
theorem af_kindP (w : World) : ((ReflectliteType.abiMethod fun t => (fun a : Nat => Value.int IntKind.u8 (a : Int)) <$> Rtype.kind t) #[.pointer (some ⟨1, 83, none⟩)]).run Tryd.prog w = .ok (.int .u8 22) w := by kernel_rfl
theorem af_kindE (w : World) : ((ReflectliteType.abiMethod fun t => (fun a : Nat => Value.int IntKind.u8 (a : Int)) <$> Rtype.kind t) #[.pointer (some ⟨1, 82, none⟩)]).run Tryd.prog w = .ok (.int .u8 25) w := by kernel_rfl
theorem af_rlm (z : Sem Value) (f : TypeId → Addr → Nat → Nat → Sem Value) (v : Value) :
    ReflectliteValue.method z f #[v] = (do match ← ReflectliteValue.parts v with | none => z | some (t, a, fl) => f t a fl (fl % 32)) := rfl
theorem af_partsP (a : Addr) (w : World) : (ReflectliteValue.parts (.agg #[.pointer (some ⟨1, 83, none⟩), .pointer (some a), .int .u64 150])).run Tryd.prog w = .ok (some (83, a, 150)) w := by kernel_rfl
theorem af_isNilP (a p : Addr) (W : World) (ha : W.cell? a = some (.pointer (some p))) :
    (ReflectliteValue.method (ReflectliteValue.valueError "reflectlite.Value.IsNil" 0) ReflectliteValue.isNil #[.agg #[.pointer (some ⟨1, 83, none⟩), .pointer (some a), .int .u64 150]]).run Tryd.prog W = .ok (.bool false) W := by
  rw [af_rlm]
  simp only [Sem.run_bind, af_partsP, Result.andThen]
  simp [ReflectliteValue.isNil, loadVar, isAgg, underlying, Tryd.underlying83, ha, Result.andThen]
theorem af_methodElem (h : Value) (w : World) : (Go.method 247 105 (.agg #[h]) "Elem").run Tryd.prog w = .ok (61, .agg #[h]) w := by kernel_rfl
theorem af_methodImplements (h : Value) (w : World) : (Go.method 247 105 (.agg #[h]) "Implements").run Tryd.prog w = .ok (62, .agg #[h]) w := by kernel_rfl
theorem af_methodAssignableTo (h : Value) (w : World) : (Go.method 247 105 (.agg #[h]) "AssignableTo").run Tryd.prog w = .ok (59, .agg #[h]) w := by kernel_rfl
theorem af_elemP (w : World) : (ReflectliteType.method ReflectliteType.elem #[.agg #[.pointer (some ⟨1, 83, none⟩)]]).run Tryd.prog w = .ok (.iface 105 (.agg #[.pointer (some ⟨1, 82, none⟩)])) w := by kernel_rfl
theorem af_implementsE (w : World) : (ReflectliteType.relation "Implements" ReflectliteType.implements_ #[.agg #[.pointer (some ⟨1, 82, none⟩)], .iface 105 (.agg #[.pointer (some ⟨1, 28, none⟩)])]).run Tryd.prog w = .ok (.bool true) w := by kernel_rfl
theorem af_typeOfE (v : Value) (w : World) : (ReflectliteType.typeOf #[.iface 82 v]).run Tryd.prog w = .ok (.iface 105 (.agg #[.pointer (some ⟨1, 82, none⟩)])) w := by kernel_rfl
theorem af_assignableE (w : World) : (ReflectliteType.relation "AssignableTo" ReflectliteType.assignableTo #[.agg #[.pointer (some ⟨1, 82, none⟩)], .iface 105 (.agg #[.pointer (some ⟨1, 82, none⟩)])]).run Tryd.prog w = .ok (.bool true) w := by kernel_rfl
theorem af_valueOfE (n p : Int) (w : World) : (ReflectliteValue.unpack (.iface 82 (.agg #[.int .i64 n, .int .i64 p]))).run Tryd.prog w
    = .ok (.agg #[.pointer (some ⟨1, 82, none⟩), .pointer (some ⟨w.heap.size, 0, none⟩), .int .u64 153]) (w.alloc (.cells #[.int .i64 n, .int .i64 p] 82)) := by kernel_rfl
theorem af_elemOfP (w : World) : (Rtype.elem? 83).run Tryd.prog w = .ok (some 82) w := by kernel_rfl
theorem af_mkE (p : Addr) (w : World) : (ReflectliteValue.mk 82 p ReflectliteValue.flagAddr).run Tryd.prog w = .ok (.agg #[.pointer (some ⟨1, 82, none⟩), .pointer (some p), .int .u64 409]) w := by kernel_rfl
theorem af_elemVP (a p : Addr) (W : World) (ha : W.cell? a = some (.pointer (some p))) :
    (ReflectliteValue.method (ReflectliteValue.valueError "reflectlite.Value.Elem" 0) ReflectliteValue.elem #[.agg #[.pointer (some ⟨1, 83, none⟩), .pointer (some a), .int .u64 150]]).run Tryd.prog W
      = .ok (.agg #[.pointer (some ⟨1, 82, none⟩), .pointer (some p), .int .u64 409]) W := by
  rw [af_rlm]
  simp only [Sem.run_bind, af_partsP, Result.andThen]
  simp [ReflectliteValue.elem, loadVar, isAgg, underlying, Tryd.underlying83, ha, Result.andThen, af_elemOfP, af_mkE]
theorem af_rls (v x : Value) : ReflectliteValue.set #[v, x] = (do
    let (some (dst, a, fl), some (src, b, _)) := (← ReflectliteValue.parts v, ← ReflectliteValue.parts x)
      | unsupported (.noEntry "extern/(internal/reflectlite.Value).Set.zeroValue")
    if fl / ReflectliteValue.flagAddr % 2 == 0 then unsupported (.noEntry "extern/(internal/reflectlite.Value).Set.unaddressable")
    let val ← loadVar src b
    if ← Rtype.directlyAssignable dst src then storeVar dst a val
    else if ← Rtype.implements dst src then
      if (← Rtype.kind src) == 20 then
        match val with
        | .nilIface => unsupported (.noEntry "extern/reflectlite: a nil value of one interface type handed on as a value of another")
        | _ => storeVar dst a val
      else storeVar dst a (.iface src val)
    else panicString ("reflectlite.Set: value of type " ++ (← Rtype.spelt src) ++ " is not assignable to type " ++ (← Rtype.spelt dst))
    pure (.tuple #[])) := rfl
theorem af_partsEa (a : Addr) (w : World) : (ReflectliteValue.parts (.agg #[.pointer (some ⟨1, 82, none⟩), .pointer (some a), .int .u64 409])).run Tryd.prog w = .ok (some (82, a, 409)) w := by kernel_rfl
theorem af_partsE (a : Addr) (w : World) : (ReflectliteValue.parts (.agg #[.pointer (some ⟨1, 82, none⟩), .pointer (some a), .int .u64 153])).run Tryd.prog w = .ok (some (82, a, 153)) w := by kernel_rfl
theorem af_directE (w : World) : (Rtype.directlyAssignable 82 82).run Tryd.prog w = .ok true w := by kernel_rfl
theorem af_setE (tb b : Nat) (n p : Int) (old0 old1 : Value) (W : World) (hb : W.heap[b]? = some (.cells #[.int .i64 n, .int .i64 p] 82 (0, 0))) (ht : W.heap[tb]? = some (.cells #[old0, old1] 82 (0, 0))) :
    (ReflectliteValue.set #[.agg #[.pointer (some ⟨1, 82, none⟩), .pointer (some ⟨tb, 0, none⟩), .int .u64 409], .agg #[.pointer (some ⟨1, 82, none⟩), .pointer (some ⟨b, 0, none⟩), .int .u64 153]]).run Tryd.prog W
      = .ok (.tuple #[]) (W.setRow tb #[.int .i64 n, .int .i64 p]) := by
  rw [af_rls]
  have h1 := run_loadVar_row (P := Tryd.prog) W b 82 82 _ (0, 0) _ hb Tryd.underlying82 rfl (by kernel_rfl)
  have h2 := run_storeVar_row (P := Tryd.prog) W tb 82 82 #[old0, old1] #[.int .i64 n, .int .i64 p] ht (by kernel_rfl) rfl (by simp [Value.oneCell'])
  simp only [Sem.run_bind, af_partsEa, af_partsE, Result.andThen]
  simp [ReflectliteValue.flagAddr, Result.andThen, af_directE, h1, h2]
def hitF (w : World) (tb : Nat) (n p : Int) : World := ((((w.alloc (.cells #[.pointer (some ⟨tb, 0, none⟩)] 83)).alloc (.cells #[.pointer (some ⟨1, 83, none⟩), .pointer (some ⟨w.heap.size, 0, none⟩), .int .u64 150] 95)).alloc (.cells #[.pointer (some ⟨1, 83, none⟩), .pointer (some ⟨w.heap.size, 0, none⟩), .int .u64 150] 95)).alloc (.cells #[.int .i64 n, .int .i64 p] 82)).setRow tb #[.int .i64 n, .int .i64 p]

set_option maxHeartbeats 4000000 in
theorem af_hit (n p : Int) (tb : Nat) (old0 old1 : Value) (w : World) (hg : ErrG w) (ht0 : w.heap[tb]? = some (.cells #[old0, old1] 82 (0, 0))) :
    Calls Tryd.prog 26 #[.iface 82 (.agg #[.int .i64 n, .int .i64 p]), .iface 83 (.pointer (some ⟨tb, 0, none⟩))] w fun ev w' => ev = .returned (.bool true) ∧ w' = hitF w tb n p := by
  have h6 := @run_callFunc_extern Tryd.prog 28 _ (fun args => ReflectliteValue.unpack (args.getD 0 (.tuple #[]))) Tryd.func28 (by kernel_rfl) (by kernel_rfl) (by kernel_rfl) (by kernel_rfl)
  have h7 := @run_callFunc_extern Tryd.prog 29 _ (ReflectliteValue.methodAny (ReflectliteValue.valueError "reflectlite.Value.Type" 0) (fun t _ _ _ => ReflectliteType.toType t)) Tryd.func29 (by kernel_rfl) (by kernel_rfl) (by kernel_rfl) (by kernel_rfl)
  have h8 := @run_callFunc_extern Tryd.prog 30 _ (ReflectliteValue.method (ReflectliteValue.valueError "reflectlite.Value.IsNil" 0) ReflectliteValue.isNil) Tryd.func30 (by kernel_rfl) (by kernel_rfl) (by kernel_rfl) (by kernel_rfl)
  have h27 := @run_callFunc_extern Tryd.prog 49 _ (ReflectliteType.abiMethod fun t => do pure (.int .u8 (← Rtype.kind t))) Tryd.func49 (by kernel_rfl) (by kernel_rfl) (by kernel_rfl) (by kernel_rfl)
  have h37 := @run_callFunc_extern Tryd.prog 61 _ (ReflectliteType.method ReflectliteType.elem) Tryd.func61 (by kernel_rfl) (by kernel_rfl) (by kernel_rfl) (by kernel_rfl)
  have h38 := @run_callFunc_extern Tryd.prog 62 _ (ReflectliteType.relation "Implements" ReflectliteType.implements_) Tryd.func62 (by kernel_rfl) (by kernel_rfl) (by kernel_rfl) (by kernel_rfl)
  have h10 := @run_callFunc_extern Tryd.prog 32 _ ReflectliteType.typeOf Tryd.func32 (by kernel_rfl) (by kernel_rfl) (by kernel_rfl) (by kernel_rfl)
  have h35 := @run_callFunc_extern Tryd.prog 59 _ (ReflectliteType.relation "AssignableTo" ReflectliteType.assignableTo) Tryd.func59 (by kernel_rfl) (by kernel_rfl) (by kernel_rfl) (by kernel_rfl)
  have h11 := @run_callFunc_extern Tryd.prog 33 _ (ReflectliteValue.method (ReflectliteValue.valueError "reflectlite.Value.Elem" 0) ReflectliteValue.elem) Tryd.func33 (by kernel_rfl) (by kernel_rfl) (by kernel_rfl) (by kernel_rfl)
  have h12 := @run_callFunc_extern Tryd.prog 34 _ ReflectliteValue.set Tryd.func34 (by kernel_rfl) (by kernel_rfl) (by kernel_rfl) (by kernel_rfl)
  have tO := af_typeOfE
  have mA := af_methodAssignableTo
  have a25 := af_assignableE
  have v25 := af_valueOfE
  have f6 := af_valueOfP
  have f7 := af_typeP
  have mK := af_methodKind
  have mE := af_methodElem
  have mI := af_methodImplements
  have k27 := af_kindP
  have k25 := af_kindE
  have e27 := af_elemP
  have i25 := af_implementsE
  have hlt := hg.lt
  unfold ErrG at hg
  have n8 := af_isNilP ⟨w.heap.size, 0, none⟩ ⟨tb, 0, none⟩ ((w.alloc (.cells #[.pointer (some ⟨tb, 0, none⟩)] 83)).alloc (.cells #[.pointer (some ⟨1, 83, none⟩), .pointer (some ⟨w.heap.size, 0, none⟩), .int .u64 150] 95)) (by simp)
  have hg2 : ((w.alloc (.cells #[.pointer (some ⟨tb, 0, none⟩)] 83)).alloc (.cells #[.pointer (some ⟨1, 83, none⟩), .pointer (some ⟨w.heap.size, 0, none⟩), .int .u64 150] 95)).cell? ⟨0, 0, none⟩ = some (.iface 105 (.agg #[.pointer (some ⟨1, 28, none⟩)])) := by
    rw [World.cell?_alloc_lt _ _ ⟨0, 0, none⟩ (by simp), World.cell?_alloc_lt _ _ ⟨0, 0, none⟩ hlt]; exact hg
  have htl : tb < w.heap.size := (Array.getElem?_eq_some_iff.1 ht0).1
  have el := af_elemVP ⟨w.heap.size, 0, none⟩ ⟨tb, 0, none⟩ (((w.alloc (.cells #[.pointer (some ⟨tb, 0, none⟩)] 83)).alloc (.cells #[.pointer (some ⟨1, 83, none⟩), .pointer (some ⟨w.heap.size, 0, none⟩), .int .u64 150] 95)).alloc (.cells #[.pointer (some ⟨1, 83, none⟩), .pointer (some ⟨w.heap.size, 0, none⟩), .int .u64 150] 95)) (by rw [World.cell?_alloc_lt _ _ ⟨w.heap.size, 0, none⟩ (by simp; omega)]; simp)
  have st := af_setE tb (w.heap.size + 1 + 1 + 1) n p old0 old1 ((((w.alloc (.cells #[.pointer (some ⟨tb, 0, none⟩)] 83)).alloc (.cells #[.pointer (some ⟨1, 83, none⟩), .pointer (some ⟨w.heap.size, 0, none⟩), .int .u64 150] 95)).alloc (.cells #[.pointer (some ⟨1, 83, none⟩), .pointer (some ⟨w.heap.size, 0, none⟩), .int .u64 150] 95)).alloc (.cells #[.int .i64 n, .int .i64 p] 82))
    (by have := heap_alloc_new (((w.alloc (.cells #[.pointer (some ⟨tb, 0, none⟩)] 83)).alloc (.cells #[.pointer (some ⟨1, 83, none⟩), .pointer (some ⟨w.heap.size, 0, none⟩), .int .u64 150] 95)).alloc (.cells #[.pointer (some ⟨1, 83, none⟩), .pointer (some ⟨w.heap.size, 0, none⟩), .int .u64 150] 95)) (.cells #[.int .i64 n, .int .i64 p] 82); simpa only [World.size_alloc] using this)
    (by rw [Below.heap_alloc _ _ _ (by simp; omega), Below.heap_alloc _ _ _ (by simp; omega), Below.heap_alloc _ _ _ (by simp; omega), Below.heap_alloc _ _ _ htl]; exact ht0)
  go_enter Tryd.func26, Tryd.ntmps26
  go_wp2
  refine wp_loop_rounds 1 ?_
  rw [rounds_succ]
  go_wp2
  go_ret
  exact ⟨rfl, rfl⟩
end Go.Proofs.YteciceelinbfoaaDoor
