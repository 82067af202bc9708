import Derived.Test.YteciceelinbfoaaDoorCs
set_option linter.unusedVariables false
namespace Go.Proofs.YteciceelinbfoaaDoor
open Go.RowKit Mq


def errv (e : Nat) : Value := if e = 0 then .nilIface else .iface 37 (.int .i64 e)

theorem eqf_last {P : Program} {d : Nat} {xs ys : Array Value} {f : Field} {a b : Value} {r : Bool} {w : World} (hn : (f.name == "_") = false) (ha : (part f.type xs f.offset).run P w = .ok a w) (hb : (part f.type ys f.offset).run P w = .ok b w) (he : (Op.equalIn d f.type a b).run P w = .ok r w) : (Op.eqFields d xs ys [f]).run P w = .ok r w := by
  have hn' : f.name ≠ "_" := by simpa using hn
  simp only [Op.eqFields, if_pos hn', Sem.run_bind, ha, hb, he, Result.andThen_ok]
  cases r <;> simp
theorem eqf_cons {P : Program} {d : Nat} {xs ys : Array Value} {f : Field} {fs : List Field} {a b : Value} {r s : Bool} {w : World} (hn : (f.name == "_") = false) (ha : (part f.type xs f.offset).run P w = .ok a w) (hb : (part f.type ys f.offset).run P w = .ok b w) (he : (Op.equalIn d f.type a b).run P w = .ok r w) (hr : (Op.eqFields d xs ys fs).run P w = .ok s w) : (Op.eqFields d xs ys (f :: fs)).run P w = .ok (r && s) w := by
  have hn' : f.name ≠ "_" := by simpa using hn
  rw [Op.eqFields]
  simp only [if_pos hn', Sem.run_bind, ha, hb, he, Result.andThen_ok]
  cases r
  · simp
  · simpa using hr
theorem eqA_of {P : Program} {d : Nat} {xs ys : Array Value} {r : Bool} {w : World} {t : TypeId} {fs : Array Field} (hu : P.underlying t = some (.struct fs)) (hp : P.stoodInHeld t = false) (h : (Op.eqFields d xs ys fs.toList).run P w = .ok r w) : (Op.equalIn (d + 1) t (.agg xs) (.agg ys)).run P w = .ok r w := by
  have hf : P.fieldsOf t = fs := by simp [Program.fieldsOf, hu]
  rw [run_equalIn_struct (P := P) w d t xs ys (by rw [hf]; exact hu) hp, hf]
  exact h


def pxv (p : Pfx) : Value := .agg #[.int .u32 p.addr, .int .i64 p.bits]
theorem eq_px (w : World) (d : Nat) (x y : Nat) (x1 y1 : Int) : (Op.equalIn (d + 2) 66 (.agg #[.int .u32 x, .int .i64 x1]) (.agg #[.int .u32 y, .int .i64 y1])).run Tryd.prog w = .ok ((x : Int) == y && (x1 == y1)) w := by
  refine eqA_of Tryd.underlying66 (by kernel_rfl) ?_
  refine eqf_cons (by rfl) (by go_simp; rfl) (by go_simp; rfl) (by go_simp) ?_
  exact eqf_last (by rfl) (by go_simp; rfl) (by go_simp; rfl) (by go_simp)
theorem px_key : KeyT pxv Tryd.prog 66 := by
  refine KeyT.of_equal (by rw [Tryd.underlying66]) ?_ ?_ ?_
  · intro w em x
    kernel_rfl
  · intro w x y
    have h := eq_px w 9998 x.addr y.addr x.bits y.bits
    have e : decide (x = y) = ((x.addr : Int) == y.addr && (x.bits == y.bits)) := by
      cases x; cases y; simp; rw [Bool.eq_iff_iff]; simp; omega
    rw [e]; exact h
  · intro x
    simp [pxv, Instr.sameBits]
abbrev pbObj (L : List (Pfx × Bool)) : Obj := mapObj pxv (fun b : Bool => Value.bool b) L
theorem pmap_info : Tryd.prog.underlying 63 = some (.map 66 4) := by kernel_rfl
theorem pb_look (w : World) {b : Nat} {L : List (Pfx × Bool)} (hb : w.heap[b]? = some (pbObj L)) (x : Pfx) :
    (Instr.lookup 63 (.map (some b)) (pxv x) false).run Tryd.prog w = .ok (.bool ((Mq.look x L).getD false)) w := by
  have := run_look px_key (encv := fun b : Bool => Value.bool b) pmap_info (z := false) (fun w => by kernel_rfl) w hb x false
  simpa using this
theorem pb_store (w : World) {b : Nat} {L : List (Pfx × Bool)} (hb : w.heap[b]? = some (pbObj L)) (x : Pfx) :
    (Instr.mapUpdate 63 (.map (some b)) (pxv x) (.bool true)).run Tryd.prog w = .ok () (ChangeMaps.setBlock w b (pbObj (Mq.put x true L))) :=
  Mq.run_store px_key (encv := fun b : Bool => Value.bool b) pmap_info w hb x true
end Go.Proofs.YteciceelinbfoaaDoor
