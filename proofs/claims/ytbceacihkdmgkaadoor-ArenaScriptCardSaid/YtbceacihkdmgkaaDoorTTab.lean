import Derived.Test.YtbceacihkdmgkaaDoorEval
import Derived.Laws.BitsAllLaws
import Derived.Laws.BitsLemmas
import Derived.Deep.DeepCutAuto
import Derived.Deep.RegionWith
set_option linter.unusedVariables false
namespace Go.Proofs.YtbceacihkdmgkaaDoor
open Go.RowKit Mq

/-- The values of four variables in row i. -/
def row4 (i v : Nat) : Bool := decide (v < 4) && ((i >>> (3 - v)) % 2 == 1)

theorem ofInt_i64 (a : Nat) (ha : a < 9223372036854775808) : (BitVec.ofInt 64 (a : Int)).toNat = a := by
  rw [BitVec.ofInt_natCast, BitVec.toNat_ofNat]; exact Nat.mod_eq_of_lt (by omega)
theorem i64_and_nat (a b : Nat) (ha : a < 9223372036854775808) (hb : b < 9223372036854775808) : bits .and .i64 (a : Int) (b : Int) = ((a &&& b : Nat) : Int) := by
  have hx : a &&& b < 2 ^ 63 := Nat.and_lt_two_pow _ (by omega)
  show IntKind.i64.wrap ((BitVec.ofInt 64 (a : Int) &&& BitVec.ofInt 64 (b : Int)).toNat : Int) = _
  rw [BitVec.toNat_and, ofInt_i64 a ha, ofInt_i64 b hb, IntKind.wrap_i64]
  omega
theorem and_one (z : Int) (m : Nat) (hz : z = m) (hm : m < 9223372036854775808) : (bits BinOp.and IntKind.i64 z 1 == 1) = (m % 2 == 1) := by
  subst hz
  have := i64_and_nat m 1 hm (by omega)
  rw [show ((1 : Nat) : Int) = 1 from rfl] at this
  rw [this, Nat.and_one_is_mod, Bool.eq_iff_iff]
  simp
  omega

theorem tab1_any (W : World) (kb i v : Nat) (hi : i < 16) (hv : v < 1024) (hc : W.cell? ⟨kb, 0, none⟩ = some (.int .i64 i)) :
    Calls Tryd.prog 38 #[.int .i64 v, .pointer (some ⟨kb, 0, none⟩)] W fun e W' => e = .returned (.bool (row4 i v)) ∧ Below W.heap.size W W' := by
  by_cases h4 : v < 4
  · have hd : decide ((v : Int) < 4) = true := by simp; omega
    have h3 : v = 0 ∨ v = 1 ∨ v = 2 ∨ v = 3 := by omega
    rcases h3 with rfl | rfl | rfl | rfl
    · go_enter Tryd.func38, Tryd.ntmps38
      go_wp2
      go_ret
      exact ⟨ret_bool ((and_one _ (i / 8) (by omega) (by omega)).trans (by simp [row4, Nat.shiftRight_eq_div_pow])), Below.refl _ _⟩
    · go_enter Tryd.func38, Tryd.ntmps38
      go_wp2
      go_ret
      exact ⟨ret_bool ((and_one _ (i / 4) (by omega) (by omega)).trans (by simp [row4, Nat.shiftRight_eq_div_pow])), Below.refl _ _⟩
    · go_enter Tryd.func38, Tryd.ntmps38
      go_wp2
      go_ret
      exact ⟨ret_bool ((and_one _ (i / 2) (by omega) (by omega)).trans (by simp [row4, Nat.shiftRight_eq_div_pow])), Below.refl _ _⟩
    · go_enter Tryd.func38, Tryd.ntmps38
      go_wp2
      go_ret
      exact ⟨ret_bool ((and_one _ (i / 1) (by omega) (by omega)).trans (by simp [row4, Nat.shiftRight_eq_div_pow])), Below.refl _ _⟩
  · have hd : decide ((v : Int) < 4) = false := by simp; omega
    go_enter Tryd.func38, Tryd.ntmps38
    go_wp2
    go_ret
    exact ⟨ret_bool (by simp [row4, h4]), Below.refl _ _⟩

/-- A table's cells when k rows are done. -/
def tabc (T : Nat → Bool) (k : Nat) : Array Value := ((List.range 16).map fun i => Value.bool (decide (i < k) && T i)).toArray
def tabv (T : Nat → Bool) : Value := .agg #[.bool (T 0), .bool (T 1), .bool (T 2), .bool (T 3), .bool (T 4), .bool (T 5), .bool (T 6), .bool (T 7), .bool (T 8), .bool (T 9), .bool (T 10), .bool (T 11), .bool (T 12), .bool (T 13), .bool (T 14), .bool (T 15)]

theorem heap_alloc_new2 (w : World) (o o' : Obj) : ((w.alloc o).alloc o').heap[w.heap.size + 1]? = some o' := by
  have := heap_alloc_new (w.alloc o) o'
  simpa using this
def tab0 : Obj := .cells #[.bool false, .bool false, .bool false, .bool false, .bool false, .bool false, .bool false, .bool false, .bool false, .bool false, .bool false, .bool false, .bool false, .bool false, .bool false, .bool false] 53 (0, 0)
def TabRel (w : World) (T : Nat → Bool) (k : Value) (wr : World) : Prop :=
  ∃ i : Nat, k = .int .i64 i ∧ i ≤ 16 ∧ Below w.heap.size w wr ∧ wr.heap[w.heap.size]? = some tab0 ∧ wr.heap[w.heap.size + 1]? = some (.cells (tabc T i) 53 (0, 0))
def TabCut (w : World) (T : Nat → Bool) (i : Nat) (wr : World) : Prop :=
  Below w.heap.size w wr ∧ wr.heap[w.heap.size]? = some tab0 ∧ wr.heap[w.heap.size + 1]? = some (.cells (tabc T (i + 1)) 53 (0, 0))

theorem evalRow {W : World} {X : Nat → Prop} {a : Nat} {ns : List Nd} {most : Nat} (h : Ar W X a ns most) (f : Nat) (hf : f < ns.length) (kb i : Nat) (hi : i < 16) {t : TypeId} (hc : W.heap[kb]? = some (.cells #[.int .i64 i] t (0, 0))) :
    Calls Tryd.prog 16 #[.pointer (some ⟨a, 0, none⟩), .int .i64 f, .func (.func 38) #[] #[.pointer (some ⟨kb, 0, none⟩)]] W fun e w' => e = .returned (.bool (ev ns (row4 i) f)) ∧ Below W.heap.size W w' :=
  eval_Table h f hf _ (row4 i) fun W' v hb hv => tab1_any W' kb i v hi hv (cells1 (blk_below hb hc (Array.getElem?_eq_some_iff.1 hc).1)).1

theorem tabc_size (T : Nat → Bool) (k : Nat) : (tabc T k).size = 16 := by simp [tabc]
theorem tabc_set (T : Nat → Bool) (k : Nat) (hk : k < 16) : (tabc T k).setIfInBounds k (.bool (T k)) = tabc T (k + 1) := by
  apply Array.ext
  · simp [tabc]
  · intro j h1 h2
    simp [tabc] at h1
    rw [Array.getElem_setIfInBounds (by simpa [tabc] using h1)]
    simp only [tabc, List.getElem_toArray, List.getElem_map, List.getElem_range]
    by_cases e : k = j
    · subst e; simp
    · have : decide (j < k) = decide (j < k + 1) := by rw [decide_eq_decide]; omega
      simp [e, this]
theorem tabc_store {W : World} {bo : Nat} {T : Nat → Bool} {k : Nat} {t : TypeId} (hk : k < 16) (h : W.heap[bo]? = some (.cells (tabc T k) t (0, 0))) : (W.setCell ⟨bo, k, none⟩ (.bool (T k))).heap[bo]? = some (.cells (tabc T (k + 1)) t (0, 0)) := by
  simp only [World.setCell, Array.getElem?_modify, h]
  simp [tabc_set T k hk]
theorem tabc_cell {W : World} {bo : Nat} {T : Nat → Bool} {k : Nat} {t : TypeId} (h : W.heap[bo]? = some (.cells (tabc T k) t (0, 0))) (j : Nat) (hj : j < 16) : W.cell? ⟨bo, j, none⟩ = some (.bool (decide (j < k) && T j)) ∧ W.frozen? ⟨bo, j, none⟩ = false := by
  constructor
  · rw [cell_of_row _ _ j _ _ _ h]; simp [tabc, hj]
  · simp [World.frozen?, h]

theorem TabRel.step {w wr w2 : World} {T : Nat → Bool} {i : Nat} {o : Obj} {b : Bool} (hi : i < 16) (hb : Below w.heap.size w wr) (hr0 : wr.heap[w.heap.size]? = some tab0)
    (hr1 : wr.heap[w.heap.size + 1]? = some (.cells (tabc T i) 53 (0, 0))) (hb2 : Below ((wr.alloc o).drewN 1).heap.size ((wr.alloc o).drewN 1) w2) (hT : b = T i) :
    TabRel w T (.int .i64 ((i : Int) + 1)) (w2.setCell ⟨w.heap.size + 1, i, none⟩ (.bool b)) := by
  subst hT
  have h0 := (Array.getElem?_eq_some_iff.1 hr0).1
  have h1 := (Array.getElem?_eq_some_iff.1 hr1).1
  have hw2 : Below w.heap.size w w2 := below_trans (w1 := (wr.alloc o).drewN 1) ⟨(below_alloc hb o).os, (below_alloc hb o).tape, (below_alloc hb o).output, (below_alloc hb o).size, (below_alloc hb o).block⟩ hb2
  refine ⟨i + 1, by simp, by omega, hw2.setCell (p := ⟨w.heap.size + 1, i, none⟩) (by simp) _, ?_, tabc_store hi (blk_below hb2 ((Below.heap_alloc wr _ _ h1).trans hr1) (Nat.lt_of_lt_of_le h1 (by simp)))⟩
  rw [Below.heap_setCell _ _ _ _ (by simp)]
  exact blk_below hb2 ((Below.heap_alloc wr _ _ h0).trans hr0) (Nat.lt_of_lt_of_le h0 (by simp))

theorem set_at {w : World} {b : Nat} {c : Array Value} {t : TypeId} (h : w.heap[b]? = some (.cells c t (0, 0))) (j : Nat) (v : Value) : (w.setCell ⟨b, j, none⟩ v).heap[b]? = some (.cells (c.setIfInBounds j v) t (0, 0)) := by
  simp [World.setCell, Array.getElem?_modify, h]
set_option maxHeartbeats 1000000 in
theorem tab_results (W : World) (tmps : Array Value) (b : Nat) (T : Nat → Bool) (h4 : tmps.getD 4 undef = .pointer (some ⟨b, 0, none⟩))
    (hb : W.heap[b]? = some (.cells #[.bool (T 0), .bool (T 1), .bool (T 2), .bool (T 3), .bool (T 4), .bool (T 5), .bool (T 6), .bool (T 7), .bool (T 8), .bool (T 9), .bool (T 10), .bool (T 11), .bool (T 12), .bool (T 13), .bool (T 14), .bool (T 15)] 53 (0, 0))) :
    (results Tryd.f25 tmps).run Tryd.prog W = .ok (tabv T) W := by
  have d0 : W.cell? ⟨b, 0, none⟩ = some (.bool (T 0)) := by rw [cell_of_row _ _ 0 _ _ _ hb]; rfl
  have d1 : W.cell? ⟨b, 1, none⟩ = some (.bool (T 1)) := by rw [cell_of_row _ _ 1 _ _ _ hb]; rfl
  have d2 : W.cell? ⟨b, 2, none⟩ = some (.bool (T 2)) := by rw [cell_of_row _ _ 2 _ _ _ hb]; rfl
  have d3 : W.cell? ⟨b, 3, none⟩ = some (.bool (T 3)) := by rw [cell_of_row _ _ 3 _ _ _ hb]; rfl
  have d4 : W.cell? ⟨b, 4, none⟩ = some (.bool (T 4)) := by rw [cell_of_row _ _ 4 _ _ _ hb]; rfl
  have d5 : W.cell? ⟨b, 5, none⟩ = some (.bool (T 5)) := by rw [cell_of_row _ _ 5 _ _ _ hb]; rfl
  have d6 : W.cell? ⟨b, 6, none⟩ = some (.bool (T 6)) := by rw [cell_of_row _ _ 6 _ _ _ hb]; rfl
  have d7 : W.cell? ⟨b, 7, none⟩ = some (.bool (T 7)) := by rw [cell_of_row _ _ 7 _ _ _ hb]; rfl
  have d8 : W.cell? ⟨b, 8, none⟩ = some (.bool (T 8)) := by rw [cell_of_row _ _ 8 _ _ _ hb]; rfl
  have d9 : W.cell? ⟨b, 9, none⟩ = some (.bool (T 9)) := by rw [cell_of_row _ _ 9 _ _ _ hb]; rfl
  have d10 : W.cell? ⟨b, 10, none⟩ = some (.bool (T 10)) := by rw [cell_of_row _ _ 10 _ _ _ hb]; rfl
  have d11 : W.cell? ⟨b, 11, none⟩ = some (.bool (T 11)) := by rw [cell_of_row _ _ 11 _ _ _ hb]; rfl
  have d12 : W.cell? ⟨b, 12, none⟩ = some (.bool (T 12)) := by rw [cell_of_row _ _ 12 _ _ _ hb]; rfl
  have d13 : W.cell? ⟨b, 13, none⟩ = some (.bool (T 13)) := by rw [cell_of_row _ _ 13 _ _ _ hb]; rfl
  have d14 : W.cell? ⟨b, 14, none⟩ = some (.bool (T 14)) := by rw [cell_of_row _ _ 14 _ _ _ hb]; rfl
  have d15 : W.cell? ⟨b, 15, none⟩ = some (.bool (T 15)) := by rw [cell_of_row _ _ 15 _ _ _ hb]; rfl
  clear hb
  have h4' : tmps[4]?.getD undef = .pointer (some ⟨b, 0, none⟩) := by simpa using h4
  simp [results, Tryd.results25, go_sem, h4', tabv, d0, d1, d2, d3, d4, d5, d6, d7, d8, d9, d10, d11, d12, d13, d14, d15]
theorem below_set16 {w wr : World} (hb : Below w.heap.size w wr) {x0 x1 x2 x3 x4 x5 x6 x7 x8 x9 x10 x11 x12 x13 x14 x15 : Value} : Below w.heap.size w ((((((((((((((((wr.setCell ⟨w.heap.size, 0, none⟩ x0).setCell ⟨w.heap.size, 1, none⟩ x1).setCell ⟨w.heap.size, 2, none⟩ x2).setCell ⟨w.heap.size, 3, none⟩ x3).setCell ⟨w.heap.size, 4, none⟩ x4).setCell ⟨w.heap.size, 5, none⟩ x5).setCell ⟨w.heap.size, 6, none⟩ x6).setCell ⟨w.heap.size, 7, none⟩ x7).setCell ⟨w.heap.size, 8, none⟩ x8).setCell ⟨w.heap.size, 9, none⟩ x9).setCell ⟨w.heap.size, 10, none⟩ x10).setCell ⟨w.heap.size, 11, none⟩ x11).setCell ⟨w.heap.size, 12, none⟩ x12).setCell ⟨w.heap.size, 13, none⟩ x13).setCell ⟨w.heap.size, 14, none⟩ x14).setCell ⟨w.heap.size, 15, none⟩ x15) :=
  (((((((((((((((hb.setCell (p := ⟨w.heap.size, 0, none⟩) (Nat.le_refl _) x0).setCell (p := ⟨w.heap.size, 1, none⟩) (Nat.le_refl _) x1).setCell (p := ⟨w.heap.size, 2, none⟩) (Nat.le_refl _) x2).setCell (p := ⟨w.heap.size, 3, none⟩) (Nat.le_refl _) x3).setCell (p := ⟨w.heap.size, 4, none⟩) (Nat.le_refl _) x4).setCell (p := ⟨w.heap.size, 5, none⟩) (Nat.le_refl _) x5).setCell (p := ⟨w.heap.size, 6, none⟩) (Nat.le_refl _) x6).setCell (p := ⟨w.heap.size, 7, none⟩) (Nat.le_refl _) x7).setCell (p := ⟨w.heap.size, 8, none⟩) (Nat.le_refl _) x8).setCell (p := ⟨w.heap.size, 9, none⟩) (Nat.le_refl _) x9).setCell (p := ⟨w.heap.size, 10, none⟩) (Nat.le_refl _) x10).setCell (p := ⟨w.heap.size, 11, none⟩) (Nat.le_refl _) x11).setCell (p := ⟨w.heap.size, 12, none⟩) (Nat.le_refl _) x12).setCell (p := ⟨w.heap.size, 13, none⟩) (Nat.le_refl _) x13).setCell (p := ⟨w.heap.size, 14, none⟩) (Nat.le_refl _) x14).setCell (p := ⟨w.heap.size, 15, none⟩) (Nat.le_refl _) x15
theorem arr16 (T : Nat → Bool) : ((((((((((((((((#[Value.bool false, Value.bool false, Value.bool false, Value.bool false, Value.bool false, Value.bool false, Value.bool false, Value.bool false, Value.bool false, Value.bool false, Value.bool false, Value.bool false, Value.bool false, Value.bool false, Value.bool false, Value.bool false].setIfInBounds 0 (.bool (T 0))).setIfInBounds 1 (.bool (T 1))).setIfInBounds 2 (.bool (T 2))).setIfInBounds 3 (.bool (T 3))).setIfInBounds 4 (.bool (T 4))).setIfInBounds 5 (.bool (T 5))).setIfInBounds 6 (.bool (T 6))).setIfInBounds 7 (.bool (T 7))).setIfInBounds 8 (.bool (T 8))).setIfInBounds 9 (.bool (T 9))).setIfInBounds 10 (.bool (T 10))).setIfInBounds 11 (.bool (T 11))).setIfInBounds 12 (.bool (T 12))).setIfInBounds 13 (.bool (T 13))).setIfInBounds 14 (.bool (T 14))).setIfInBounds 15 (.bool (T 15))) = #[.bool (T 0), .bool (T 1), .bool (T 2), .bool (T 3), .bool (T 4), .bool (T 5), .bool (T 6), .bool (T 7), .bool (T 8), .bool (T 9), .bool (T 10), .bool (T 11), .bool (T 12), .bool (T 13), .bool (T 14), .bool (T 15)] := by
  simp only [List.setIfInBounds_toArray, List.set_cons_zero, List.set_cons_succ]
set_option maxRecDepth 100000 in
set_option maxHeartbeats 1000000 in
theorem table_any {w : World} {X : Nat → Prop} {a : Nat} {ns : List Nd} {most : Nat} (h : Ar w X a ns most) (f : Nat) (hf : f < ns.length) :
    Calls Tryd.prog 25 #[.pointer (some ⟨a, 0, none⟩), .int .i64 f] w fun e w' => e = .returned (tabv fun i => ev ns (row4 i) f) ∧ Below w.heap.size w w' := by
  have H := Lib.hid h
  clear h
  obtain ⟨T, hT⟩ : ∃ T : Nat → Bool, T = fun i => ev ns (row4 i) f := ⟨_, rfl⟩
  have HT := Lib.hid hT
  rw [← hT]
  clear hT
  go_enter Tryd.func25, Tryd.ntmps25
  go_wp2_with fail
  go_loopw [7] (fun k wr => TabRel w T k wr) (fun k _ => 16 - (intOf k).toNat)
  case atStart =>
    refine ⟨0, rfl, by omega, below_alloc (below_alloc (Below.refl _ _) _) _, ?_, ?_⟩
    · rw [Below.heap_alloc _ _ _ (by simp)]; exact heap_alloc_new w _
    · exact heap_alloc_new2 w tab0 tab0
  case round =>
    obtain ⟨i, rfl, hi, hb, hr0, hr1⟩ := hrel
    have hsz := hb.size
    have hs1 := (Array.getElem?_eq_some_iff.1 hr1).1
    by_cases hlt : i < 16
    · go_upto_region 5 with fail
      have hhw := H.out.below hb
      obtain ⟨k0, e0⟩ := tabc_cell hr1 i hlt
      go_region_with (go_at_call 16; refine (evalRow ((hhw.alloc' _).drewN 1) f hf wr.heap.size i hlt (heap_alloc_new wr _)).mono ?_; rintro e w2 ⟨rfl, hb2⟩; obtain ⟨d0, d1⟩ := tabc_cell (blk_below hb2 ((Below.heap_alloc wr _ _ hs1).trans hr1) (Nat.lt_of_lt_of_le hs1 (by simp))) i hlt; have d2 := (cells1 (blk_below hb2 (heap_alloc_new wr _) (by simp))).1)
      all_goals (go_wp2; go_roundw)
      all_goals first
        | (case rel => exact TabRel.step hlt hb hr0 hr1 hb2 (by rw [HT.out]))
        | (case measure => (simp [intOf] <;> omega))
    · obtain rfl : i = 16 := by omega
      have c0 := (tabc_cell hr1 0 (by omega)).1
      have c1 := (tabc_cell hr1 1 (by omega)).1
      have c2 := (tabc_cell hr1 2 (by omega)).1
      have c3 := (tabc_cell hr1 3 (by omega)).1
      have c4 := (tabc_cell hr1 4 (by omega)).1
      have c5 := (tabc_cell hr1 5 (by omega)).1
      have c6 := (tabc_cell hr1 6 (by omega)).1
      have c7 := (tabc_cell hr1 7 (by omega)).1
      have c8 := (tabc_cell hr1 8 (by omega)).1
      have c9 := (tabc_cell hr1 9 (by omega)).1
      have c10 := (tabc_cell hr1 10 (by omega)).1
      have c11 := (tabc_cell hr1 11 (by omega)).1
      have c12 := (tabc_cell hr1 12 (by omega)).1
      have c13 := (tabc_cell hr1 13 (by omega)).1
      have c14 := (tabc_cell hr1 14 (by omega)).1
      have c15 := (tabc_cell hr1 15 (by omega)).1
      simp only [Nat.reduceLT, decide_true, Bool.true_and] at c0 c1 c2 c3 c4 c5 c6 c7 c8 c9 c10 c11 c12 c13 c14 c15
      have d0 : wr.cell? ⟨w.heap.size, 0, none⟩ = some (.bool false) := by rw [cell_of_row _ _ 0 _ _ _ hr0]; rfl
      have d1 : wr.cell? ⟨w.heap.size, 1, none⟩ = some (.bool false) := by rw [cell_of_row _ _ 1 _ _ _ hr0]; rfl
      have d2 : wr.cell? ⟨w.heap.size, 2, none⟩ = some (.bool false) := by rw [cell_of_row _ _ 2 _ _ _ hr0]; rfl
      have d3 : wr.cell? ⟨w.heap.size, 3, none⟩ = some (.bool false) := by rw [cell_of_row _ _ 3 _ _ _ hr0]; rfl
      have d4 : wr.cell? ⟨w.heap.size, 4, none⟩ = some (.bool false) := by rw [cell_of_row _ _ 4 _ _ _ hr0]; rfl
      have d5 : wr.cell? ⟨w.heap.size, 5, none⟩ = some (.bool false) := by rw [cell_of_row _ _ 5 _ _ _ hr0]; rfl
      have d6 : wr.cell? ⟨w.heap.size, 6, none⟩ = some (.bool false) := by rw [cell_of_row _ _ 6 _ _ _ hr0]; rfl
      have d7 : wr.cell? ⟨w.heap.size, 7, none⟩ = some (.bool false) := by rw [cell_of_row _ _ 7 _ _ _ hr0]; rfl
      have d8 : wr.cell? ⟨w.heap.size, 8, none⟩ = some (.bool false) := by rw [cell_of_row _ _ 8 _ _ _ hr0]; rfl
      have d9 : wr.cell? ⟨w.heap.size, 9, none⟩ = some (.bool false) := by rw [cell_of_row _ _ 9 _ _ _ hr0]; rfl
      have d10 : wr.cell? ⟨w.heap.size, 10, none⟩ = some (.bool false) := by rw [cell_of_row _ _ 10 _ _ _ hr0]; rfl
      have d11 : wr.cell? ⟨w.heap.size, 11, none⟩ = some (.bool false) := by rw [cell_of_row _ _ 11 _ _ _ hr0]; rfl
      have d12 : wr.cell? ⟨w.heap.size, 12, none⟩ = some (.bool false) := by rw [cell_of_row _ _ 12 _ _ _ hr0]; rfl
      have d13 : wr.cell? ⟨w.heap.size, 13, none⟩ = some (.bool false) := by rw [cell_of_row _ _ 13 _ _ _ hr0]; rfl
      have d14 : wr.cell? ⟨w.heap.size, 14, none⟩ = some (.bool false) := by rw [cell_of_row _ _ 14 _ _ _ hr0]; rfl
      have d15 : wr.cell? ⟨w.heap.size, 15, none⟩ = some (.bool false) := by rw [cell_of_row _ _ 15 _ _ _ hr0]; rfl
      have f0 : wr.frozen? ⟨w.heap.size, 0, none⟩ = false := by simp [World.frozen?, hr0, tab0]
      have f1 : wr.frozen? ⟨w.heap.size, 1, none⟩ = false := by simp [World.frozen?, hr0, tab0]
      have f2 : wr.frozen? ⟨w.heap.size, 2, none⟩ = false := by simp [World.frozen?, hr0, tab0]
      have f3 : wr.frozen? ⟨w.heap.size, 3, none⟩ = false := by simp [World.frozen?, hr0, tab0]
      have f4 : wr.frozen? ⟨w.heap.size, 4, none⟩ = false := by simp [World.frozen?, hr0, tab0]
      have f5 : wr.frozen? ⟨w.heap.size, 5, none⟩ = false := by simp [World.frozen?, hr0, tab0]
      have f6 : wr.frozen? ⟨w.heap.size, 6, none⟩ = false := by simp [World.frozen?, hr0, tab0]
      have f7 : wr.frozen? ⟨w.heap.size, 7, none⟩ = false := by simp [World.frozen?, hr0, tab0]
      have f8 : wr.frozen? ⟨w.heap.size, 8, none⟩ = false := by simp [World.frozen?, hr0, tab0]
      have f9 : wr.frozen? ⟨w.heap.size, 9, none⟩ = false := by simp [World.frozen?, hr0, tab0]
      have f10 : wr.frozen? ⟨w.heap.size, 10, none⟩ = false := by simp [World.frozen?, hr0, tab0]
      have f11 : wr.frozen? ⟨w.heap.size, 11, none⟩ = false := by simp [World.frozen?, hr0, tab0]
      have f12 : wr.frozen? ⟨w.heap.size, 12, none⟩ = false := by simp [World.frozen?, hr0, tab0]
      have f13 : wr.frozen? ⟨w.heap.size, 13, none⟩ = false := by simp [World.frozen?, hr0, tab0]
      have f14 : wr.frozen? ⟨w.heap.size, 14, none⟩ = false := by simp [World.frozen?, hr0, tab0]
      have f15 : wr.frozen? ⟨w.heap.size, 15, none⟩ = false := by simp [World.frozen?, hr0, tab0]

      clear hr1
      have HR0 := Lib.hid hr0
      clear hr0
      go_wp2
      have hr0 := HR0.out
      unfold tab0 at hr0
      have s0 := set_at hr0 0 (.bool (T 0))
      have s1 := set_at s0 1 (.bool (T 1))
      have s2 := set_at s1 2 (.bool (T 2))
      have s3 := set_at s2 3 (.bool (T 3))
      have s4 := set_at s3 4 (.bool (T 4))
      have s5 := set_at s4 5 (.bool (T 5))
      have s6 := set_at s5 6 (.bool (T 6))
      have s7 := set_at s6 7 (.bool (T 7))
      have s8 := set_at s7 8 (.bool (T 8))
      have s9 := set_at s8 9 (.bool (T 9))
      have s10 := set_at s9 10 (.bool (T 10))
      have s11 := set_at s10 11 (.bool (T 11))
      have s12 := set_at s11 12 (.bool (T 12))
      have s13 := set_at s12 13 (.bool (T 13))
      have s14 := set_at s13 14 (.bool (T 14))
      have s15 := set_at s14 15 (.bool (T 15))
      rw [arr16] at s15
      refine bodyPost_ret (v := tabv T) (tab_results _ _ _ T rfl s15) rfl ⟨rfl, ?_⟩
      exact below_set16 hb
end Go.Proofs.YtbceacihkdmgkaaDoor
