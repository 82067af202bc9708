import Derived.Test.YteciceelinbfoaaDoorAsf
set_option linter.unusedVariables false
namespace Go.Proofs.YteciceelinbfoaaDoor
open Go.RowKit Go.Extern.Stop Go.Stop Go.Extern

theorem au_notAssign (w : World) : (ReflectliteType.relation "AssignableTo" ReflectliteType.assignableTo #[.agg #[.pointer (some ⟨1, 82, none⟩)], .iface 105 (.agg #[.pointer (some ⟨1, 37, none⟩)])]).run Tryd.prog w = .ok (.bool false) w := by kernel_rfl
theorem au_unwrap (n p : Int) (w : World) : Calls Tryd.prog 54 #[.agg #[.int .i64 n, .int .i64 p]] w fun e w' => e = .returned (.iface 37 (.int .i64 n)) ∧ w' = w.alloc (.cells #[.int .i64 n, .int .i64 p] 82) := by
  go_enter Tryd.func54, Tryd.ntmps54
  go_wp2
  go_ret
  exact ⟨rfl, rfl⟩
theorem au_noAs (n p : Int) (w : World) : (Instr.typeAssert (.iface 82 (.agg #[.int .i64 n, .int .i64 p])) 28 110 true).run Tryd.prog w = .ok (.tuple #[.nilIface, .bool false]) w := run_typeAssert_lacksB Tryd.underlying110 (by kernel_rfl) (by kernel_rfl) _ _ w
/-- Closed facts on Fault's methods. -/
theorem au_isUnwrap (n p : Int) (w : World) : (Instr.typeAssert (.iface 82 (.agg #[.int .i64 n, .int .i64 p])) 28 113 true).run Tryd.prog w = .ok (.tuple #[.iface 82 (.agg #[.int .i64 n, .int .i64 p]), .bool true]) w := by kernel_rfl
def hitU (w : World) (t : Addr) (n p : Int) : World := (((((w.alloc (.cells #[.pointer (some t)] 80)).alloc (.cells #[.pointer (some ⟨1, 80, none⟩), .pointer (some ⟨w.heap.size, 0, none⟩), .int .u64 150] 95)).alloc (.cells #[.pointer (some ⟨1, 80, none⟩), .pointer (some ⟨w.heap.size, 0, none⟩), .int .u64 150] 95)).alloc (.cells #[.int .i64 n, .int .i64 p] 82)).alloc (.cells #[.int .i64 n] 37)).setCell t (.int .i64 n)
set_option maxRecDepth 100000 in
set_option maxHeartbeats 4000000 in
theorem as_unwrap (n p : Int) (t : Addr) (old : Value) (w : World) (hg : ErrG w) (ht0 : w.cell? t = some old) (hf0 : w.frozen? t = false) :
    Calls Tryd.prog 26 #[.iface 82 (.agg #[.int .i64 n, .int .i64 p]), .iface 80 (.pointer (some t))] w fun ev w' => ev = .returned (.bool true) ∧ w' = hitU w t n p := by
  have h6 := @run_callFunc_extern Tryd.prog 28 _ (fun args => ReflectliteValue.unpack (args.getD 0 (.tuple #[]))) Tryd.func28 (by kernel_rfl) (by kernel_rfl) (by kernel_rfl) (by kernel_rfl)
  have h7 := @run_callFunc_extern Tryd.prog 29 _ (ReflectliteValue.methodAny (ReflectliteValue.valueError "reflectlite.Value.Type" 0) (fun t _ _ _ => ReflectliteType.toType t)) Tryd.func29 (by kernel_rfl) (by kernel_rfl) (by kernel_rfl) (by kernel_rfl)
  have h8 := @run_callFunc_extern Tryd.prog 30 _ (ReflectliteValue.method (ReflectliteValue.valueError "reflectlite.Value.IsNil" 0) ReflectliteValue.isNil) Tryd.func30 (by kernel_rfl) (by kernel_rfl) (by kernel_rfl) (by kernel_rfl)
  have h27 := @run_callFunc_extern Tryd.prog 49 _ (ReflectliteType.abiMethod fun t => do pure (.int .u8 (← Rtype.kind t))) Tryd.func49 (by kernel_rfl) (by kernel_rfl) (by kernel_rfl) (by kernel_rfl)
  have h37 := @run_callFunc_extern Tryd.prog 61 _ (ReflectliteType.method ReflectliteType.elem) Tryd.func61 (by kernel_rfl) (by kernel_rfl) (by kernel_rfl) (by kernel_rfl)
  have h38 := @run_callFunc_extern Tryd.prog 62 _ (ReflectliteType.relation "Implements" ReflectliteType.implements_) Tryd.func62 (by kernel_rfl) (by kernel_rfl) (by kernel_rfl) (by kernel_rfl)
  have h10 := @run_callFunc_extern Tryd.prog 32 _ ReflectliteType.typeOf Tryd.func32 (by kernel_rfl) (by kernel_rfl) (by kernel_rfl) (by kernel_rfl)
  have h35 := @run_callFunc_extern Tryd.prog 59 _ (ReflectliteType.relation "AssignableTo" ReflectliteType.assignableTo) Tryd.func59 (by kernel_rfl) (by kernel_rfl) (by kernel_rfl) (by kernel_rfl)
  have h11 := @run_callFunc_extern Tryd.prog 33 _ (ReflectliteValue.method (ReflectliteValue.valueError "reflectlite.Value.Elem" 0) ReflectliteValue.elem) Tryd.func33 (by kernel_rfl) (by kernel_rfl) (by kernel_rfl) (by kernel_rfl)
  have h12 := @run_callFunc_extern Tryd.prog 34 _ ReflectliteValue.set Tryd.func34 (by kernel_rfl) (by kernel_rfl) (by kernel_rfl) (by kernel_rfl)
  have tO := as_typeOfE
  have mA := as_methodAssignableTo
  have a25 := as_assignableE
  have v25 := as_valueOfE
  have f6 := as_valueOfP
  have f7 := as_typeP
  have mK := as_methodKind
  have mE := as_methodElem
  have mI := as_methodImplements
  have k27 := as_kindP
  have k25 := as_kindE
  have e27 := as_elemP
  have i25 := as_implementsE
  have hlt := hg.lt
  unfold ErrG at hg
  have n8 := as_isNilP ⟨w.heap.size, 0, none⟩ t ((w.alloc (.cells #[.pointer (some t)] 80)).alloc (.cells #[.pointer (some ⟨1, 80, none⟩), .pointer (some ⟨w.heap.size, 0, none⟩), .int .u64 150] 95)) (by simp)
  have hg2 : ((w.alloc (.cells #[.pointer (some t)] 80)).alloc (.cells #[.pointer (some ⟨1, 80, none⟩), .pointer (some ⟨w.heap.size, 0, none⟩), .int .u64 150] 95)).cell? ⟨0, 0, none⟩ = some (.iface 105 (.agg #[.pointer (some ⟨1, 28, none⟩)])) := by
    rw [World.cell?_alloc_lt _ _ ⟨0, 0, none⟩ (by simp), World.cell?_alloc_lt _ _ ⟨0, 0, none⟩ hlt]; exact hg
  have htl : t.block < w.heap.size := by
    rcases Nat.lt_or_ge t.block w.heap.size with h | h
    · exact h
    · simp [World.cell?, Array.getElem?_eq_none h] at ht0
  have el := as_elemVP ⟨w.heap.size, 0, none⟩ t ((((w.alloc (.cells #[.pointer (some t)] 80)).alloc (.cells #[.pointer (some ⟨1, 80, none⟩), .pointer (some ⟨w.heap.size, 0, none⟩), .int .u64 150] 95)).alloc (.cells #[.pointer (some ⟨1, 80, none⟩), .pointer (some ⟨w.heap.size, 0, none⟩), .int .u64 150] 95)).alloc (.cells #[.int .i64 n, .int .i64 p] 82)) (by rw [World.cell?_alloc_lt _ _ ⟨w.heap.size, 0, none⟩ (by simp; omega), World.cell?_alloc_lt _ _ ⟨w.heap.size, 0, none⟩ (by simp; omega)]; simp)
  have st := as_setE t ⟨w.heap.size + 1 + 1 + 1 + 1, 0, none⟩ n old (((((w.alloc (.cells #[.pointer (some t)] 80)).alloc (.cells #[.pointer (some ⟨1, 80, none⟩), .pointer (some ⟨w.heap.size, 0, none⟩), .int .u64 150] 95)).alloc (.cells #[.pointer (some ⟨1, 80, none⟩), .pointer (some ⟨w.heap.size, 0, none⟩), .int .u64 150] 95)).alloc (.cells #[.int .i64 n, .int .i64 p] 82)).alloc (.cells #[.int .i64 n] 37))
    (by rw [World.cell?_alloc_at _ _ _ _ (by simp)]; rfl)
    (by rw [World.cell?_alloc_lt _ _ t (by simp; omega), World.cell?_alloc_lt _ _ t (by simp; omega), World.cell?_alloc_lt _ _ t (by simp; omega), World.cell?_alloc_lt _ _ t (by simp; omega), World.cell?_alloc_lt _ _ t htl]; exact ht0)
    (by rw [World.frozen?_alloc_old _ _ t (by simp; omega), World.frozen?_alloc_old _ _ t (by simp; omega), World.frozen?_alloc_old _ _ t (by simp; omega), World.frozen?_alloc_old _ _ t (by simp; omega), World.frozen?_alloc_old _ _ t (Nat.ne_of_lt htl)]; exact hf0)
  have tF := af_typeOfE
  have aF := au_notAssign
  have t1 := au_noAs
  have t2 := au_isUnwrap
  go_enter Tryd.func26, Tryd.ntmps26
  go_wp2
  refine wp_loop_rounds 2 ?_
  rw [rounds_succ]
  go_wp2
  refine (au_unwrap n p _).mono ?_
  rintro e w1 ⟨rfl, rfl⟩
  go_wp2
  rw [rounds_succ]
  go_wp2
  go_ret
  exact ⟨rfl, rfl⟩
end Go.Proofs.YteciceelinbfoaaDoor
