import Derived.WalkKit
import Derived.WalkLawsBesides
import Derived.KernelRfl
import Derived.Deep.QuietTactic
import Derived.BigQuiet
import Derived.Lib.Hide
import Derived.StillTailTactics
import Derived.Laws.BitsAllLaws
import Derived.Laws.OwnMore
import Derived.Maps.AppendAt
import Derived.Deep.AppendLies
import Derived.Deep.Draws
import Derived.OwnWalk
import Derived.Deep.RegionHeld3
import Derived.Deep.RegionWith
import Derived.Deep.DrawnRows
import Derived.Outline
import Derived.Deep.DeepFit
import Derived.Deep.DeepCutAuto
import Derived.RegionTactic
import Derived.Test.YteciceelinbfoaaDoorCl
set_option linter.unusedVariables false
namespace Go.Proofs.YteciceelinbfoaaDoor
open Go.RowKit Mq

/-! ### worlds -/
theorem gb_blk {w w' : World} {B b : Nat} {o : Obj} (hb : Below B w w') (h : w.heap[b]? = some o) (hB : b < B) : w'.heap[b]? = some o := (hb.block b hB).trans h
theorem gb_alloc {w w' : World} (h : Below w.heap.size w w') (o : Obj) : Below w.heap.size w (w'.alloc o) := h.alloc h.size o
theorem gb_trans {w w1 w2 : World} (h : Below w.heap.size w w1) (k : Below w1.heap.size w1 w2) : Below w.heap.size w w2 := h.trans (k.mono h.size)
theorem gb_drewN {B : Nat} {a w : World} (h : Below B a w) (n : Nat) : Below B a (w.drewN n) := ⟨h.os, h.tape, h.output, h.size, h.block⟩
theorem gb_le {B C : Nat} {w w' : World} (h : Below C w w') (hb : B ≤ C) : Below B w w' := h.mono hb
theorem gb_lt {w : World} {b : Nat} {o : Obj} (h : w.heap[b]? = some o) : b < w.heap.size := (Array.getElem?_eq_some_iff.1 h).1
theorem gb_cell {w : World} {b : Nat} {cs : Array Value} {t : TypeId} (h : w.heap[b]? = some (.cells cs t (0, 0))) (i : Nat) : w.cell? ⟨b, i, none⟩ = cs[i]? := cell_of_row w b i cs t (0, 0) h
theorem gb_free {w : World} {b : Nat} {cs : Array Value} {t : TypeId} (h : w.heap[b]? = some (.cells cs t (0, 0))) (i : Nat) : w.frozen? ⟨b, i, none⟩ = false := by simp [World.frozen?, h]
theorem gb_new (w : World) (o : Obj) : (w.alloc o).heap[w.heap.size]? = some o := heap_alloc_new w o
theorem gb_old (w : World) (o : Obj) {b : Nat} {o' : Obj} (h : w.heap[b]? = some o') : (w.alloc o).heap[b]? = some o' := (Below.heap_alloc w o b (gb_lt h)).trans h

theorem rt_int {k : IntKind} {a b : Int} (h : a = b) : Ending.returned (.int k a) = .returned (.int k b) := by rw [h]
theorem rt_bool {a b : Bool} (h : a = b) : Ending.returned (.bool a) = .returned (.bool b) := by rw [h]

theorem gb_set {w : World} {b : Nat} {cs : Array Value} {t : TypeId} (h : w.heap[b]? = some (.cells cs t (0, 0))) (i : Nat) (u : Value) : (w.setCell ⟨b, i, none⟩ u).heap[b]? = some (.cells (cs.setIfInBounds i u) t (0, 0)) := by
  simp [World.setCell, Array.getElem?_modify, h]
theorem gb_far {w : World} {b : Nat} {o : Obj} (h : w.heap[b]? = some o) {p : Addr} (hp : b ≠ p.block) (u : Value) : (w.setCell p u).heap[b]? = some o := (Below.heap_setCell w p u b hp).trans h
/-- Rows that the call owns. -/
theorem ow_move {w w' : World} {b : Nat} {e : TypeId} {s : Nat} {v : Value} {n : Nat} {xs : List Value} (h : w.ownsRow b e s v n xs) (hb : ∀ k, k < w.heap.size → b ≤ k → v.ownBlock = some k → w'.heap[k]? = w.heap[k]?) : w'.ownsRow b e s v n xs := by
  obtain ⟨h1, h2⟩ := h
  refine ⟨h1, ?_⟩
  rcases h2 with h2 | ⟨g, cap, cur, h2, h3, h4, h5⟩
  · exact .inl h2
  · exact .inr ⟨g, cap, cur, h2, h3, (hb g (gb_lt h4) h3 (by rw [h2]; rfl)).trans h4, h5⟩
theorem ow_below {w w' : World} {b : Nat} {e : TypeId} {s : Nat} {v : Value} {n : Nat} {xs : List Value} (h : w.ownsRow b e s v n xs) (hb : Below w.heap.size w w') : w'.ownsRow b e s v n xs := ow_move h fun k hk _ _ => hb.block k hk
theorem ow_alloc {w : World} {b : Nat} {e : TypeId} {s : Nat} {v : Value} {n : Nat} {xs : List Value} (h : w.ownsRow b e s v n xs) (o : Obj) : (w.alloc o).ownsRow b e s v n xs := ow_below h (gb_alloc (Below.refl _ _) _)
theorem ow_grown {B : Nat} {w w6 w7 : World} {e : TypeId} {s : Nat} {v : Value} {n : Nat} {xs : List Value} (hb : Below B w w6) {w0 : World} (hg : w6.grownBy w7 v.ownBlock) (ho : w0.ownsRow B e s v n xs) (hB : B ≤ w6.heap.size := by omega) : Below B w w7 := by
  refine ⟨hg.os.trans hb.os, hg.tape.trans hb.tape, hg.output.trans hb.output, Nat.le_trans hb.size hg.size, fun k hk => (hg.block k (by omega) ?_).trans (hb.block k hk)⟩
  rcases ho.2 with ⟨rfl, -⟩ | ⟨g, cap, cur, rfl, h3, -⟩
  · simp [Value.ownBlock]
  · simp [Value.ownBlock]; omega

/-! ### slices that read as lists -/
section
variable {α : Type}
/-- A slice's elements, each of so many cells, in blocks below B. -/
def Sli (enc : α → List Value) (size : Nat) (w : World) (B : Nat) (A : Option Addr) (l : List α) : Prop :=
  0 < l.length → ∃ b off, A = some ⟨b, off, none⟩ ∧ b < B ∧ ∀ k u, l[k]? = some u → ∀ j, j < size → w.cell? ⟨b, off + k * size + j, none⟩ = (enc u)[j]?
variable {enc : α → List Value} {size B B' : Nat} {w w' : World} {A : Option Addr} {l : List α}
theorem Sli.below (h : Sli enc size w B A l) (hb : Below B w w') : Sli enc size w' B A l := fun hl => by
  obtain ⟨b, off, rfl, hB, hc⟩ := h hl
  exact ⟨b, off, rfl, hB, fun k u hu j hj => (hb.cell (p := ⟨b, off + k * size + j, none⟩) hB).trans (hc k u hu j hj)⟩
theorem Sli.more (h : Sli enc size w B A l) (hb : B ≤ B') : Sli enc size w B' A l := fun hl => by
  obtain ⟨b, off, rfl, hB, hc⟩ := h hl
  exact ⟨b, off, rfl, by omega, hc⟩
theorem Sli.nil (w : World) (B : Nat) (A : Option Addr) : Sli enc size w B A [] := fun h => by simp at h

theorem flat_length (hs : ∀ a, (enc a).length = size) (l : List α) : (l.flatMap enc).length = l.length * size := by
  induction l with
  | nil => simp
  | cons a l ih => rw [List.flatMap_cons, List.length_append, ih, hs, List.length_cons, Nat.add_mul, Nat.one_mul, Nat.add_comm]
theorem flat_at (hs : ∀ a, (enc a).length = size) (l : List α) : ∀ (k j : Nat) (u : α), l[k]? = some u → j < size → (l.flatMap enc)[k * size + j]? = (enc u)[j]? := by
  induction l with
  | nil => intro k j u h; simp at h
  | cons a l ih =>
    intro k j u hk hj
    cases k with
    | zero =>
      simp only [List.getElem?_cons_zero, Option.some.injEq] at hk
      subst hk
      rw [List.flatMap_cons, Nat.zero_mul, Nat.zero_add, List.getElem?_append_left (by rw [hs]; exact hj)]
    | succ k =>
      rw [List.getElem?_cons_succ] at hk
      rw [List.flatMap_cons, List.getElem?_append_right (by rw [hs, Nat.add_mul]; omega)]
      have e : (k + 1) * size + j - (enc a).length = k * size + j := by rw [hs, Nat.add_mul]; omega
      rw [e]
      exact ih k j u hk hj
/-- A row that the call made. -/
theorem Sli.of_own (hs : ∀ a, (enc a).length = size) (hp : 0 < size) {base : Nat} {e : TypeId} {n c : Nat} (h : w.ownsRow base e size (.slice A n c) n (l.flatMap enc)) : Sli enc size w w.heap.size A l := fun hl => by
  have hlen := h.1
  rw [flat_length hs] at hlen
  rcases h.2 with ⟨h0, hn⟩ | ⟨g, cap, cur, hv, hb, hg, hnc, hcm, hcs, htake⟩
  · subst hn
    exfalso
    rw [Nat.zero_mul] at hlen
    have := Nat.mul_pos hl hp
    omega
  · injection hv with hA _ _
    subst hA
    refine ⟨g, 0, rfl, gb_lt hg, fun k u hu j hj => ?_⟩
    have hk := (List.getElem?_eq_some_iff.1 hu).1
    rw [gb_cell hg, ← flat_at hs l k j u hu hj, ← htake, List.getElem?_take]
    have : 0 + k * size + j < n * size := by
      rw [← hlen]
      have := Nat.mul_le_mul_right size (show k + 1 ≤ l.length by omega)
      rw [Nat.add_mul] at this
      omega
    rw [if_pos (by omega)]
    simp
end
theorem max2_ii (ats : Array TypeId) (ty : TypeId) (k : IntKind) (a b : Int) : Builtin.max_ ats ty #[.int k a, .int k b] = pure (.int k (max a b)) := by
  simp only [Builtin.max_, List.foldlM_cons, List.foldlM_nil, Builtin.max2]
  have : max a b = if b > a then b else a := by omega
  rw [this]; rfl
theorem min2_ii (ats : Array TypeId) (ty : TypeId) (k : IntKind) (a b : Int) : Builtin.min_ ats ty #[.int k a, .int k b] = pure (.int k (min a b)) := by
  simp only [Builtin.min_, List.foldlM_cons, List.foldlM_nil, Builtin.min2]
  have : min a b = if b < a then b else a := by omega
  rw [this]; rfl

/-- A world of a class. -/
structure InW (S : World → Prop) where
  val : World
  prop : S val
/-- A region that draws its order, and whose operations and calls keep a class of worlds: one walk, in the order of the text. -/
theorem wp_region_in {P : Program} {id : Nat} {Q : Exit → Act → World → Prop} {a : Act} {w : World} {l : List Oper} (S : World → Prop) (hm : P.follows .mixedOrders = true) (hB : Region.lexB .any l.toArray = true) (hC : S w.drew)
    (h : wpQuiet P l.toArray (fun w' => ∃ x : InW S, w' = x.val) (fun a' => ∀ w', (∃ x : InW S, w' = x.val) → Q .normal a' w') l a) : (Code.region id l.toArray true).wp P Q a w :=
  wp_region_quiet (C := fun w' => ∃ x : InW S, w' = x.val) hm hB ⟨⟨_, hC⟩, rfl⟩ (by simpa using h)
instance (W : World) (B : Nat) : Nonempty (InW (Below B W)) := ⟨⟨W, Below.refl _ _⟩⟩
/-- What a block holds in all worlds of such a class. -/
theorem in_cell {W : World} {b : Nat} {cs : Array Value} {t : TypeId} (h : W.heap[b]? = some (.cells cs t (0, 0))) (i : Nat) (x : InW (Below W.heap.size W)) : x.val.cell? ⟨b, i, none⟩ = cs[i]? :=
  (x.prop.cell (p := ⟨b, i, none⟩) (gb_lt h)).trans (gb_cell h i)
theorem in_after {W w' : World} (x : InW (Below W.heap.size W)) (h : Below x.val.heap.size x.val w') : ∃ y : InW (Below W.heap.size W), w' = y.val := ⟨⟨w', gb_trans x.prop h⟩, rfl⟩

theorem in_cells2 {W : World} {b : Nat} {x y : Value} {t : TypeId} (h : W.heap[b]? = some (.cells #[x, y] t (0, 0))) : (∀ z : InW (Below W.heap.size W), z.val.cell? ⟨b, 0, none⟩ = some x) ∧ (∀ z : InW (Below W.heap.size W), z.val.cell? ⟨b, 1, none⟩ = some y) :=
  ⟨fun z => in_cell h 0 z, fun z => in_cell h 1 z⟩

theorem gb_cells2 {W : World} {b : Nat} {x y : Value} {t : TypeId} (h : W.heap[b]? = some (.cells #[x, y] t (0, 0))) : W.cell? ⟨b, 0, none⟩ = some x ∧ W.cell? ⟨b, 1, none⟩ = some y := ⟨gb_cell h 0, gb_cell h 1⟩
theorem gb_cells4 {W : World} {b : Nat} {x y z u : Value} {t : TypeId} (h : W.heap[b]? = some (.cells #[x, y, z, u] t (0, 0))) : W.cell? ⟨b, 0, none⟩ = some x ∧ W.cell? ⟨b, 1, none⟩ = some y ∧ W.cell? ⟨b, 2, none⟩ = some z ∧ W.cell? ⟨b, 3, none⟩ = some u := ⟨gb_cell h 0, gb_cell h 1, gb_cell h 2, gb_cell h 3⟩

/-! ### prefixes, clauses, routes as values -/
def pfxv (p : Pfx) : Value := .agg #[.int .u32 p.addr, .int .i64 p.bits]
def clv (c : Cl) : Value := .agg #[.bool c.any, .int .u32 c.px.addr, .int .i64 c.px.bits, .int .u8 c.wi, .int .u8 c.out, .bool c.drop, .int .u8 c.set, .int .u8 c.clr, .int .i64 c.more, .int .i64 c.pref]
def clc (c : Cl) : List Value := [.bool c.any, .int .u32 c.px.addr, .int .i64 c.px.bits, .int .u8 c.wi, .int .u8 c.out, .bool c.drop, .int .u8 c.set, .int .u8 c.clr, .int .i64 c.more, .int .i64 c.pref]
def attv (a : Att) : Value := .agg #[.bool a.ok, .int .i64 a.pref, .int .i64 a.cost, .int .u8 a.tags]
theorem in_cells10 {W : World} {b : Nat} {c : Cl} {t : TypeId} (h : W.heap[b]? = some (.cells #[.bool c.any, .int .u32 c.px.addr, .int .i64 c.px.bits, .int .u8 c.wi, .int .u8 c.out, .bool c.drop, .int .u8 c.set, .int .u8 c.clr, .int .i64 c.more, .int .i64 c.pref] t (0, 0))) :
    W.cell? ⟨b, 0, none⟩ = some (.bool c.any) ∧ W.cell? ⟨b, 1, none⟩ = some (.int .u32 c.px.addr) ∧ W.cell? ⟨b, 2, none⟩ = some (.int .i64 c.px.bits) ∧ W.cell? ⟨b, 3, none⟩ = some (.int .u8 c.wi) ∧ W.cell? ⟨b, 4, none⟩ = some (.int .u8 c.out) ∧
    W.cell? ⟨b, 5, none⟩ = some (.bool c.drop) ∧ W.cell? ⟨b, 6, none⟩ = some (.int .u8 c.set) ∧ W.cell? ⟨b, 7, none⟩ = some (.int .u8 c.clr) ∧ W.cell? ⟨b, 8, none⟩ = some (.int .i64 c.more) ∧ W.cell? ⟨b, 9, none⟩ = some (.int .i64 c.pref) :=
  ⟨gb_cell h 0, gb_cell h 1, gb_cell h 2, gb_cell h 3, gb_cell h 4, gb_cell h 5, gb_cell h 6, gb_cell h 7, gb_cell h 8, gb_cell h 9⟩
theorem clc_length (c : Cl) : (clc c).length = 10 := rfl
/-- A slice of clauses. -/
def ClsAt (w : World) (B : Nat) (A : Option Addr) (cs : List Cl) : Prop := Sli clc 10 w B A cs
end Go.Proofs.YteciceelinbfoaaDoor
