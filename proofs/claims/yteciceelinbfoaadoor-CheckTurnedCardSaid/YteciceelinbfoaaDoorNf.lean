import Derived.Test.YteciceelinbfoaaDoorAsu
set_option linter.unusedVariables false
namespace Go.Proofs.YteciceelinbfoaaDoor
open Go.RowKit Go.Extern.Stop Go.Stop Go.Extern

theorem nf_alloc {w v : World} (h : Below w.heap.size w v) (o : Obj) : Below w.heap.size w (v.alloc o) := h.alloc h.size o
theorem nf_row {w v : World} (h : Below w.heap.size w v) (g : Nat) (hg : w.heap.size ≤ g) (cs : Array Value) : Below w.heap.size w (v.setRow g cs) :=
  h.trans ⟨rfl, rfl, rfl, by simp [World.setRow], fun k hk => setRow_other _ _ k _ (by omega)⟩
theorem hitU_below (w : World) (o : Obj) (n p : Int) : Below w.heap.size w (hitU (w.alloc o) ⟨w.heap.size, 0, none⟩ n p) := by
  unfold hitU
  refine Below.setCell (p := ⟨w.heap.size, 0, none⟩) ?_ (Nat.le_refl _) _
  exact nf_alloc (nf_alloc (nf_alloc (nf_alloc (nf_alloc (nf_alloc (Below.refl _ _) _) _) _) _) _) _
theorem hitU_cell (w : World) (old : Value) (n p : Int) : (hitU (w.alloc (.cells #[old] 37)) ⟨w.heap.size, 0, none⟩ n p).cell? ⟨w.heap.size, 0, none⟩ = some (.int .i64 n) := by
  unfold hitU
  have h0 : (w.alloc (.cells #[old] 37)).heap[w.heap.size]? = some (.cells #[old] 37 (0, 0)) := heap_alloc_new w _
  have hs : w.heap.size < (w.alloc (.cells #[old] 37)).heap.size := by simp
  generalize w.alloc (.cells #[old] 37) = w1 at *
  have h1 : (((((w1.alloc (.cells #[.pointer (some ⟨w.heap.size, 0, none⟩)] 80)).alloc (.cells #[.pointer (some ⟨1, 80, none⟩), .pointer (some ⟨w1.heap.size, 0, none⟩), .int .u64 150] 95)).alloc (.cells #[.pointer (some ⟨1, 80, none⟩), .pointer (some ⟨w1.heap.size, 0, none⟩), .int .u64 150] 95)).alloc (.cells #[.int .i64 n, .int .i64 p] 82)).alloc (.cells #[.int .i64 n] 37)).heap[w.heap.size]? = some (.cells #[old] 37 (0, 0)) := by
    rw [Below.heap_alloc _ _ _ (by simp; omega), Below.heap_alloc _ _ _ (by simp; omega), Below.heap_alloc _ _ _ (by simp; omega), Below.heap_alloc _ _ _ (by simp; omega), Below.heap_alloc _ _ _ hs]; exact h0
  simp [World.cell?, World.setCell, Array.getElem?_modify, h1]
theorem hitF_below (w : World) (o : Obj) (n p : Int) : Below w.heap.size w (hitF (w.alloc o) w.heap.size n p) := by
  unfold hitF
  exact nf_row (nf_alloc (nf_alloc (nf_alloc (nf_alloc (nf_alloc (Below.refl _ _) _) _) _) _) _) _ (Nat.le_refl _) _
theorem hitF_blk (w : World) (x y : Value) (n p : Int) : (hitF (w.alloc (.cells #[x, y] 82)) w.heap.size n p).heap[w.heap.size]? = some (.cells #[.int .i64 n, .int .i64 p] 82 (0, 0)) := by
  unfold hitF
  have h0 : (w.alloc (.cells #[x, y] 82)).heap[w.heap.size]? = some (.cells #[x, y] 82 (0, 0)) := heap_alloc_new w _
  have hs : w.heap.size < (w.alloc (.cells #[x, y] 82)).heap.size := by simp
  generalize w.alloc (.cells #[x, y] 82) = w1 at *
  refine setRow_heap _ _ _ _ _ _ (?_ : _ = some (Obj.cells #[x, y] 82 (0, 0)))
  rw [Below.heap_alloc _ _ _ (by simp; omega), Below.heap_alloc _ _ _ (by simp; omega), Below.heap_alloc _ _ _ (by simp; omega), Below.heap_alloc _ _ _ hs]; exact h0

set_option maxRecDepth 100000 in
theorem number_nil (w : World) : Calls Tryd.prog 13 #[.nilIface] w fun e w' => e = .returned (.int .i64 0) ∧ Below w.heap.size w w' := by
  go_enter Tryd.func13, Tryd.ntmps13
  go_wp2_with fail
  refine (as_nil _ _).mono ?_
  rintro e w1 ⟨rfl, rfl⟩
  go_wp2_with fail
  go_ret
  exact ⟨rfl, (Below.refl _ _).alloc (Nat.le_refl _) _⟩
set_option maxRecDepth 100000 in
theorem number_fault (n p : Int) (w : World) (hg : ErrG w) : Calls Tryd.prog 13 #[.iface 82 (.agg #[.int .i64 n, .int .i64 p])] w fun e w' => e = .returned (.int .i64 n) ∧ Below w.heap.size w w' := by
  have hg1 : ErrG (w.alloc (.cells #[.int .i64 0] 37)) := hg.below ((Below.refl _ _).alloc (Nat.le_refl _) _)
  have h1 := Lib.hid (hitU_below w (.cells #[.int .i64 0] 37) n p)
  have h2 := hitU_cell w (.int .i64 0) n p
  have HC := Lib.hid (as_unwrap n p ⟨w.heap.size, 0, none⟩ (.int .i64 0) (w.alloc (.cells #[.int .i64 0] 37)) hg1 (by simp) (by simp))
  clear hg hg1
  go_enter Tryd.func13, Tryd.ntmps13
  go_wp2_with fail
  refine HC.out.mono ?_
  rintro e w1 ⟨rfl, rfl⟩
  generalize hitU (w.alloc (.cells #[.int .i64 0] 37)) ⟨w.heap.size, 0, none⟩ n p = w2 at *
  go_wp2_with fail
  go_ret
  exact ⟨rfl, h1.out⟩
set_option maxRecDepth 100000 in
theorem place_nil (w : World) : Calls Tryd.prog 14 #[.nilIface] w fun e w' => e = .returned (.int .i64 (-1)) ∧ Below w.heap.size w w' := by
  go_enter Tryd.func14, Tryd.ntmps14
  go_wp2_with fail
  refine (as_nil _ _).mono ?_
  rintro e w1 ⟨rfl, rfl⟩
  go_wp2_with fail
  go_ret
  exact ⟨rfl, (Below.refl _ _).alloc (Nat.le_refl _) _⟩
set_option maxRecDepth 100000 in
theorem place_fault (n p : Int) (w : World) (hg : ErrG w) : Calls Tryd.prog 14 #[.iface 82 (.agg #[.int .i64 n, .int .i64 p])] w fun e w' => e = .returned (.int .i64 p) ∧ Below w.heap.size w w' := by
  have hg1 : ErrG (w.alloc (.cells #[.int .i64 0, .int .i64 0] 82)) := hg.below ((Below.refl _ _).alloc (Nat.le_refl _) _)
  have h1 := Lib.hid (hitF_below w (.cells #[.int .i64 0, .int .i64 0] 82) n p)
  have h3 := hitF_blk w (.int .i64 0) (.int .i64 0) n p
  have h2 := (cell_of_row _ _ 1 _ _ _ h3 : (hitF (w.alloc (.cells #[.int .i64 0, .int .i64 0] 82)) w.heap.size n p).cell? ⟨w.heap.size, 1, none⟩ = _)
  have HC := Lib.hid (af_hit n p w.heap.size (.int .i64 0) (.int .i64 0) (w.alloc (.cells #[.int .i64 0, .int .i64 0] 82)) hg1 (heap_alloc_new w _))
  clear hg hg1 h3
  go_enter Tryd.func14, Tryd.ntmps14
  go_wp2_with fail
  refine HC.out.mono ?_
  rintro e w1 ⟨rfl, rfl⟩
  generalize hitF (w.alloc (.cells #[.int .i64 0, .int .i64 0] 82)) w.heap.size n p = w2 at *
  go_wp2_with fail
  go_ret
  exact ⟨by simp, h1.out⟩
theorem wrap_any (n p : Int) (w : World) : Calls Tryd.prog 18 #[.int .i64 n, .int .i64 p] w fun e w' => e = .returned (.iface 82 (.agg #[.int .i64 n, .int .i64 p])) ∧ w' = w := by
  go_enter Tryd.func18, Tryd.ntmps18
  go_wp2_with fail
  go_ret
  exact ⟨rfl, rfl⟩
end Go.Proofs.YteciceelinbfoaaDoor
