import Derived.Test.YtimlfmklbfgliaaDoorMk
set_option linter.unusedVariables false
namespace Go.Proofs.YtimlfmklbfgliaaDoor
open Go.RowKit Mq

def OfPost (w : World) (m : Nat) (e : Ending) (w' : World) : Prop :=
  ∃ a, e = .returned (.pointer (some ⟨a, 0, none⟩)) ∧ Ar w' (fun k => k < w.heap.size) a [no, yes] m ∧ Keep (fun k => k < w.heap.size) w w' ∧ w.heap.size ≤ a

theorem ar_start (w : World) (m : Nat) (h2 : 2 ≤ m) (hm : m ≤ 131072) :
    Ar (((w.alloc (.cells #[.int .i64 1024, .int .i64 0, .int .i64 0, .int .i64 1024, .int .i64 1, .int .i64 1] 43)).alloc (.map #[] 0)).alloc
      (.cells #[.slice (some ⟨w.heap.size, 0, none⟩) 2 2, .map (some (w.heap.size + 1)), .int .i64 m] 47)) (fun k => k < w.heap.size) (w.heap.size + 2) [no, yes] m := by
  refine ⟨w.heap.size + 1, w.heap.size, 2, #[.int .i64 1024, .int .i64 0, .int .i64 0, .int .i64 1024, .int .i64 1, .int .i64 1], { low := (fun k hk => by simp; omega), head := ?_, row := ?_, fits := by simp, cap_le := (by unfold maxLen; omega), size := rfl, cells := rfl, seen := ?_, xa := (by omega), xg := (by omega), xs := (by omega), wf := wf_start, room := (by simpa using h2), most_le := hm }⟩
  · have := heap_alloc_new ((w.alloc (.cells #[.int .i64 1024, .int .i64 0, .int .i64 0, .int .i64 1024, .int .i64 1, .int .i64 1] 43)).alloc (.map #[] 0)) (.cells #[.slice (some ⟨w.heap.size, 0, none⟩) 2 2, .map (some (w.heap.size + 1)), .int .i64 m] 47)
    simpa using this
  · rw [Below.heap_alloc _ _ _ (by simp; omega), Below.heap_alloc _ _ _ (by simp)]
    exact heap_alloc_new w _
  · rw [Below.heap_alloc _ _ _ (by simp)]
    have := heap_alloc_new (w.alloc (.cells #[.int .i64 1024, .int .i64 0, .int .i64 0, .int .i64 1024, .int .i64 1, .int .i64 1] 43)) (.map #[] 0)
    simpa [seenL, mapObj, ent] using this

theorem OfPost.mk (w : World) (m : Nat) (h2 : 2 ≤ m) (hm : m ≤ 131072) (z : Int) (hz : z = m) :
    OfPost w m (.returned (.pointer (some ⟨w.heap.size + 1 + 1, 0, none⟩))) (((w.alloc (.cells #[.int .i64 1024, .int .i64 0, .int .i64 0, .int .i64 1024, .int .i64 1, .int .i64 1] 43)).alloc (.map #[] 0)).alloc
      (.cells #[.slice (some ⟨w.heap.size, 0, none⟩) 2 2, .map (some (w.heap.size + 1)), .int .i64 z] 47)) := by
  subst hz
  exact ⟨_, rfl, ar_start w m h2 hm, (((Keep.refl _ _).alloc _).alloc _).alloc _, by omega⟩

set_option maxRecDepth 100000 in
theorem of_any (w : World) (most : Int) (m : Nat) (h : (m : Int) = max 2 (min most 131072)) :
    Calls Tryd.prog 5 #[.int .i64 most] w (OfPost w m) := by
  have hmm := @run_makeMap Tryd.prog
  have H := Lib.hid h
  have h1 : 2 ≤ m := by omega
  have h2 : m ≤ 131072 := by omega
  clear h
  go_enter Tryd.func5, Tryd.ntmps5
  go_wp2
  all_goals (go_ret; exact OfPost.mk w m h1 h2 _ (by have := H.out; omega))
end Go.Proofs.YtimlfmklbfgliaaDoor
