import Derived.Test.YtimlfmklbfgliaaDoorAs
import Derived.Test.YtimlfmklbfgliaaDoorMkW
set_option linter.unusedVariables false
namespace Go.Proofs.YtimlfmklbfgliaaDoor
open Go.RowKit Mq

theorem hit_below (w : World) (o : Obj) (n : Int) : Below w.heap.size w (hitW (w.alloc o) ⟨w.heap.size, 0, none⟩ n) := by
  unfold hitW
  have h := ((Below.refl w.heap.size w).alloc (Nat.le_refl _) o)
  have h1 := h.alloc h.size (.cells #[.pointer (some ⟨w.heap.size, 0, none⟩)] 59)
  have h2 := h1.alloc h1.size (.cells #[.pointer (some ⟨1, 59, none⟩), .pointer (some ⟨(w.alloc o).heap.size, 0, none⟩), .int .u64 150] 68)
  have h3 := h2.alloc h2.size (.cells #[.pointer (some ⟨1, 59, none⟩), .pointer (some ⟨(w.alloc o).heap.size, 0, none⟩), .int .u64 150] 68)
  have h4 := h3.alloc h3.size (.cells #[.int .i64 n] 38)
  exact h4.setCell (p := ⟨w.heap.size, 0, none⟩) (Nat.le_refl _) _
theorem hit_cell (w : World) (old : Value) (n : Int) : (hitW (w.alloc (.cells #[old] 38)) ⟨w.heap.size, 0, none⟩ n).cell? ⟨w.heap.size, 0, none⟩ = some (.int .i64 n) := by
  unfold hitW
  have h0 : (w.alloc (.cells #[old] 38)).heap[w.heap.size]? = some (.cells #[old] 38 (0, 0)) := heap_alloc_new w _
  have hs : w.heap.size < (w.alloc (.cells #[old] 38)).heap.size := by simp
  generalize w.alloc (.cells #[old] 38) = w1 at *
  have h1 : ((((w1.alloc (.cells #[.pointer (some ⟨w.heap.size, 0, none⟩)] 59)).alloc (.cells #[.pointer (some ⟨1, 59, none⟩), .pointer (some ⟨w1.heap.size, 0, none⟩), .int .u64 150] 68)).alloc (.cells #[.pointer (some ⟨1, 59, none⟩), .pointer (some ⟨w1.heap.size, 0, none⟩), .int .u64 150] 68)).alloc (.cells #[.int .i64 n] 38)).heap[w.heap.size]? = some (.cells #[old] 38 (0, 0)) := by
    rw [Below.heap_alloc _ _ _ (by simp; omega), Below.heap_alloc _ _ _ (by simp; omega), Below.heap_alloc _ _ _ (by simp; omega), Below.heap_alloc _ _ _ hs]; exact h0
  simp [World.cell?, World.setCell, Array.getElem?_modify, h1]

set_option maxRecDepth 100000 in
theorem number_nil (w : World) : Calls Tryd.prog 8 #[.nilIface] w fun e w' => e = .returned (.int .i64 0) ∧ Below w.heap.size w w' := by
  go_enter Tryd.func8, Tryd.ntmps8
  go_wp2_with fail
  refine (as_nil _ _).mono ?_
  rintro e w1 ⟨rfl, rfl⟩
  go_wp2_with fail
  go_ret
  exact ⟨rfl, (Below.refl _ _).alloc (Nat.le_refl _) _⟩
set_option maxRecDepth 100000 in
theorem number_hit (n : Int) (w : World) (hg : ErrG w) : Calls Tryd.prog 8 #[.iface 38 (.int .i64 n)] w fun e w' => e = .returned (.int .i64 n) ∧ Below w.heap.size w w' := by
  have hg1 : ErrG (w.alloc (.cells #[.int .i64 0] 38)) := hg.below ((Below.refl _ _).alloc (Nat.le_refl _) _)
  have h1 := Lib.hid (hit_below w (.cells #[.int .i64 0] 38) n)
  have h2 := hit_cell w (.int .i64 0) n
  have HC := Lib.hid (as_hit n ⟨w.heap.size, 0, none⟩ (.int .i64 0) (w.alloc (.cells #[.int .i64 0] 38)) hg1 (by simp) (by simp))
  clear hg hg1
  go_enter Tryd.func8, Tryd.ntmps8
  go_wp2_with fail
  refine HC.out.mono ?_
  rintro e w1 ⟨rfl, rfl⟩
  generalize hitW (w.alloc (.cells #[.int .i64 0] 38)) ⟨w.heap.size, 0, none⟩ n = w2 at *
  go_wp2_with fail
  go_ret
  exact ⟨rfl, h1.out⟩
/-- api.Number, of what Mk hands back. -/
theorem number_any (n : Nat) (w : World) (hg : ErrG w) : Calls Tryd.prog 8 #[errv n] w fun e w' => e = .returned (.int .i64 n) ∧ Below w.heap.size w w' := by
  by_cases h : n = 0
  · subst h; exact number_nil w
  · rw [show errv n = .iface 38 (.int .i64 n) from if_neg h]; exact number_hit n w hg
end Go.Proofs.YtimlfmklbfgliaaDoor
