import Derived.Test.YtimlfmklbfgliaaDoorRc
import Derived.Laws.StructEq
set_option linter.unusedVariables false
namespace Go.Proofs.YtimlfmklbfgliaaDoor
open Go.RowKit Mq

/-! ### two routes are the same -/
theorem ef_last {P : Program} {d : Nat} {xs ys : Array Value} {f : Field} {a b : Value} {r : Bool} {w : World} (hn : (f.name == "_") = false) (ha : (part f.type xs f.offset).run P w = .ok a w) (hb : (part f.type ys f.offset).run P w = .ok b w) (he : (Op.equalIn d f.type a b).run P w = .ok r w) : (Op.eqFields d xs ys [f]).run P w = .ok r w := by
  have hn' : f.name ≠ "_" := by simpa using hn
  simp only [Op.eqFields, if_pos hn', Sem.run_bind, ha, hb, he, Result.andThen_ok]
  cases r <;> simp
theorem ef_cons {P : Program} {d : Nat} {xs ys : Array Value} {f : Field} {fs : List Field} {a b : Value} {r s : Bool} {w : World} (hn : (f.name == "_") = false) (ha : (part f.type xs f.offset).run P w = .ok a w) (hb : (part f.type ys f.offset).run P w = .ok b w) (he : (Op.equalIn d f.type a b).run P w = .ok r w) (hr : (Op.eqFields d xs ys fs).run P w = .ok s w) : (Op.eqFields d xs ys (f :: fs)).run P w = .ok (r && s) w := by
  have hn' : f.name ≠ "_" := by simpa using hn
  rw [Op.eqFields]
  simp only [if_pos hn', Sem.run_bind, ha, hb, he, Result.andThen_ok]
  cases r
  · simp
  · simpa using hr
theorem ef_of {P : Program} {d : Nat} {xs ys : Array Value} {r : Bool} {w : World} {t : TypeId} {fs : Array Field} (hu : P.underlying t = some (.struct fs)) (hp : P.stoodInHeld t = false) (h : (Op.eqFields d xs ys fs.toList).run P w = .ok r w) : (Op.equalIn (d + 1) t (.agg xs) (.agg ys)).run P w = .ok r w := by
  have hf : P.fieldsOf t = fs := by simp [Program.fieldsOf, hu]
  rw [run_equalIn_struct (P := P) w d t xs ys (by rw [hf]; exact hu) hp, hf]
  exact h
theorem eq_att (w : World) (d : Nat) (x0 y0 : Bool) (x1 y1 x2 y2 x3 y3 : Int) : (Op.equalIn (d + 2) 49 (.agg #[.bool x0, .int .i64 x1, .int .i64 x2, .int .u8 x3]) (.agg #[.bool y0, .int .i64 y1, .int .i64 y2, .int .u8 y3])).run Tryd.prog w = .ok (x0 == y0 && (x1 == y1 && (x2 == y2 && (x3 == y3)))) w := by
  refine ef_of Tryd.underlying49 (by kernel_rfl) ?_
  refine ef_cons (by rfl) (by go_simp; rfl) (by go_simp; rfl) (by go_simp) ?_
  refine ef_cons (by rfl) (by go_simp; rfl) (by go_simp; rfl) (by go_simp) ?_
  refine ef_cons (by rfl) (by go_simp; rfl) (by go_simp; rfl) (by go_simp) ?_
  exact ef_last (by rfl) (by go_simp; rfl) (by go_simp; rfl) (by go_simp)
/-- A contract in all worlds of a class. -/
theorem calls_in {P : Program} {f : FuncId} {args : Array Value} {v : Value} {W : World} (h : ∀ w, Below W.heap.size W w → Calls P f args w fun e w' => e = .returned v ∧ Below w.heap.size w w') (x : InW (Below W.heap.size W)) :
    Calls P f args x.val fun e w' => e = .returned v ∧ ∃ y : InW (Below W.heap.size W), w' = y.val :=
  (h x.val x.prop).mono fun _ _ ⟨he, hb⟩ => ⟨he, in_after x hb⟩
theorem in_cells4 {W : World} {b : Nat} {x y z u : Value} {t : TypeId} (h : W.heap[b]? = some (.cells #[x, y, z, u] t (0, 0))) : (∀ q : InW (Below W.heap.size W), q.val.cell? ⟨b, 0, none⟩ = some x) ∧ (∀ q : InW (Below W.heap.size W), q.val.cell? ⟨b, 1, none⟩ = some y) ∧ (∀ q : InW (Below W.heap.size W), q.val.cell? ⟨b, 2, none⟩ = some z) ∧ (∀ q : InW (Below W.heap.size W), q.val.cell? ⟨b, 3, none⟩ = some u) :=
  ⟨fun q => in_cell h 0 q, fun q => in_cell h 1 q, fun q => in_cell h 2 q, fun q => in_cell h 3 q⟩
theorem Sli.one {α : Type} {enc : α → List Value} {size B b : Nat} {w : World} {u : α} {t : TypeId} (h : w.heap[b]? = some (.cells (enc u).toArray t (0, 0))) (hb : b < B) (hs : ∀ a, (enc a).length = size) : Sli enc size w B (some ⟨b, 0, none⟩) [u] :=
  fun _ => ⟨b, 0, rfl, hb, fun k v hk j hj => by
    cases k with
    | zero => simp at hk; subst hk; rw [gb_cell h]; simp
    | succ k => simp at hk⟩
theorem att_ok {b : Bool} {p c : Int} {m : Nat} (h1 : -9223372036854775808 ≤ p) (h2 : p ≤ 9223372036854775807) (h3 : -9223372036854775808 ≤ c) (h4 : c ≤ 9223372036854775807) (h5 : m < 256) : (⟨b, p, c, m⟩ : Att).Ok := ⟨⟨h1, h2⟩, ⟨h3, h4⟩, h5⟩
def attl (a : Att) : Value := .agg #[.bool a.ok, .int .i64 a.pref, .int .i64 a.cost, .int .u8 a.tags]

end Go.Proofs.YtimlfmklbfgliaaDoor
