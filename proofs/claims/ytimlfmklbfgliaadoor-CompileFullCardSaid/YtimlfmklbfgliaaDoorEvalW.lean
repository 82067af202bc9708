import Derived.Test.YtimlfmklbfgliaaDoorOf
import Derived.Deep.LoopGhost
set_option linter.unusedVariables false
namespace Go.Proofs.YtimlfmklbfgliaaDoor
open Go.RowKit Mq

theorem ret_bool {a b : Bool} (h : a = b) : Ending.returned (.bool a) = .returned (.bool b) := by rw [h]
theorem ret_int {k : IntKind} {a b : Int} (h : a = b) : Ending.returned (.int k a) = .returned (.int k b) := by rw [h]

theorem blk_below {w w' : World} {B b : Nat} {o : Obj} (hb : Below B w w') (h : w.heap[b]? = some o) (hB : b < B) : w'.heap[b]? = some o := (hb.block b hB).trans h
theorem blk_new {w w' : World} {o : Obj} (hb : Below (w.alloc o).heap.size (w.alloc o) w') : w'.heap[w.heap.size]? = some o := blk_below hb (heap_alloc_new w o) (by simp)
theorem pw_below_drewN {B : Nat} {w W : World} (h : Below B w W) (n : Nat) : Below B w (W.drewN n) := ⟨h.os, h.tape, h.output, h.size, h.block⟩
theorem below_drew1 (w : World) : Below w.heap.size w w.drew := ⟨rfl, rfl, rfl, Nat.le_refl _, fun _ _ => rfl⟩
theorem below_alloc {w w' : World} (h : Below w.heap.size w w') (o : Obj) : Below w.heap.size w (w'.alloc o) := h.alloc h.size o
theorem below_trans {w w1 w2 : World} (h : Below w.heap.size w w1) (k : Below w1.heap.size w1 w2) : Below w.heap.size w w2 := h.trans (k.mono h.size)
theorem below_set3 {w w' : World} (h : Below w.heap.size w w') {b : Nat} (hb : w.heap.size ≤ b) {x y z : Value} : Below w.heap.size w (((w'.setCell ⟨b, 0, none⟩ x).setCell ⟨b, 1, none⟩ y).setCell ⟨b, 2, none⟩ z) :=
  ((h.setCell (p := ⟨b, 0, none⟩) hb x).setCell (p := ⟨b, 1, none⟩) hb y).setCell (p := ⟨b, 2, none⟩) hb z
section
variable {w : World} {b : Nat} {t : TypeId} {x y z : Value}
theorem cells1 (h : w.heap[b]? = some (.cells #[x] t (0, 0))) : w.cell? ⟨b, 0, none⟩ = some x ∧ w.frozen? ⟨b, 0, none⟩ = false := by
  constructor
  · rw [cell_of_row _ _ 0 _ _ _ h]; rfl
  · simp [World.frozen?, h]
theorem cells2 (h : w.heap[b]? = some (.cells #[x, y] t (0, 0))) : w.cell? ⟨b, 0, none⟩ = some x ∧ w.cell? ⟨b, 1, none⟩ = some y ∧ w.frozen? ⟨b, 0, none⟩ = false ∧ w.frozen? ⟨b, 1, none⟩ = false := by
  refine ⟨?_, ?_, ?_, ?_⟩
  · rw [cell_of_row _ _ 0 _ _ _ h]; rfl
  · rw [cell_of_row _ _ 1 _ _ _ h]; rfl
  · simp [World.frozen?, h]
  · simp [World.frozen?, h]
theorem cells3 (h : w.heap[b]? = some (.cells #[x, y, z] t (0, 0))) : w.cell? ⟨b, 0, none⟩ = some x ∧ w.cell? ⟨b, 1, none⟩ = some y ∧ w.cell? ⟨b, 2, none⟩ = some z ∧
    w.frozen? ⟨b, 0, none⟩ = false ∧ w.frozen? ⟨b, 1, none⟩ = false ∧ w.frozen? ⟨b, 2, none⟩ = false := by
  refine ⟨?_, ?_, ?_, ?_, ?_, ?_⟩
  · rw [cell_of_row _ _ 0 _ _ _ h]; rfl
  · rw [cell_of_row _ _ 1 _ _ _ h]; rfl
  · rw [cell_of_row _ _ 2 _ _ _ h]; rfl
  · simp [World.frozen?, h]
  · simp [World.frozen?, h]
  · simp [World.frozen?, h]
theorem set3 (h : w.heap[b]? = some (.cells #[x, y, z] t (0, 0))) (x' y' z' : Value) :
    (((w.setCell ⟨b, 0, none⟩ x').setCell ⟨b, 1, none⟩ y').setCell ⟨b, 2, none⟩ z').heap[b]? = some (.cells #[x', y', z'] t (0, 0)) := by
  simp [World.setCell, Array.getElem?_modify, h]
theorem set1 (h : w.heap[b]? = some (.cells #[x] t (0, 0))) (x' : Value) : (w.setCell ⟨b, 0, none⟩ x').heap[b]? = some (.cells #[x'] t (0, 0)) := by
  simp [World.setCell, Array.getElem?_modify, h]
end

/-- What stands at the head of each round of Eval: at node kk, its copy in a block b. -/
def EvRel (w : World) (a : Nat) (ns : List Nd) (most : Nat) (r : Nat → Bool) (k0 : Nat) (k n : Value) (wr : World) : Prop :=
  ∃ kk b : Nat, k = .int .i64 kk ∧ n = .pointer (some ⟨b, 0, none⟩) ∧ kk < ns.length ∧ ev ns r kk = ev ns r k0 ∧ Below w.heap.size w wr ∧
    wr.heap[b]? = some (.cells #[.int .i64 (nd ns kk).v, .int .i64 (nd ns kk).lo, .int .i64 (nd ns kk).hi] 43 (0, 0)) ∧ w.heap.size ≤ b

end Go.Proofs.YtimlfmklbfgliaaDoor
