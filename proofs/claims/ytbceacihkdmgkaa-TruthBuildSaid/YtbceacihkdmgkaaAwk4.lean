import Derived.Test.YtbceacihkdmgkaaTc
import Derived.Test.YtbceacihkdmgkaaSz
set_option linter.unusedVariables false
namespace Go.Proofs.Ytbceacihkdmgkaa
open Go.RowKit Mq

set_option maxRecDepth 100000 in
set_option maxHeartbeats 1000000 in
theorem awake4 (w : World) : Calls Try.prog 36 #[] w fun e w' => e = .returned (.bool true) ∧ Below w.heap.size w w' := by
  go_enter Try.func36, Try.ntmps36
  go_wp2_with fail
  refine (of_any w 20 20 (by decide)).mono ?_
  rintro e w1 ⟨a, rfl, hA, hk, hle⟩
  have A1 := Lib.hid hA; have K1 := Lib.hid hk; clear hA hk hle
  go_wp2_with fail
  have hA := A1.out.alloc (.cells #[.bool false, .bool true] 4)
  have hK := K1.out.alloc (.cells #[.bool false, .bool true] 4)
  have hbx := heap_alloc_new w1 (.cells #[.bool false, .bool true] 4)
  generalize w1.alloc (.cells #[.bool false, .bool true] 4) = W at *
  generalize w1.heap.size = b at *
  refine (tbuild_any hA (rb := b) (.inr rfl) 1 2 2 rfl (by omega) (fun j => decide (j = 1)) (by omega) (by omega) (fun j hj => by
    have hj' : j = 0 ∨ j = 1 := by omega
    rcases hj' with rfl | rfl
    · rw [cell_of_row _ _ (0 + 0) _ _ _ hbx]; rfl
    · rw [cell_of_row _ _ (0 + 1) _ _ _ hbx]; rfl) (by simp)).mono ?_
  clear hA hbx
  rintro e w2 ⟨ns, f, rfl, hd, hA, hk⟩
  have hev : ∀ r, ev ns r f = r 0 := fun r => by rw [hd.ev]; simp only [idx]; cases r 0 <;> rfl
  have h0 : f ≠ 0 := by rintro rfl; have := hev (fun _ => true); rw [ev_zero] at this; simp at this
  have h1 : f ≠ 1 := by rintro rfl; have := hev (fun _ => false); rw [ev_one] at this; simp at this
  have hl := hd.lt
  have hf := hd.few
  have h2 : f = 2 := by simp at hf; omega
  subst h2
  have hin := hd.wf.inner 2 (by omega) hl
  have hc : cnt (fun i => ev ns (rowN 1 i) 2) 2 = 1 := by simp [cnt, hev, rowN]
  have hs : (visit ns 2 []).length = 1 := by
    rw [visit, dif_pos ⟨by omega, by simp, hin.2.1, hin.2.2.1⟩, visit_low _ _ _ hin.2.1, visit_low _ _ _ hin.2.2.1]; rfl
  have A2 := Lib.hid hA; have K2 := Lib.hid (hK.trans (hk.mono fun k hk => .inl hk)); have C := Lib.hid hc; have S := Lib.hid hs; have L := Lib.hid hl
  clear hA hk hd hev hl hf hin hc hs hK h0 h1
  go_wp2_with fail
  refine (tcount_any A2.out 2 L.out 1 1 2 (by omega) rfl).mono ?_
  rintro e w3 ⟨rfl, hb⟩
  rw [C.out]
  have B3 := Lib.hid hb; clear hb
  go_wp2_with fail
  refine (tsize_any (A2.out.below B3.out) 2 L.out).mono ?_
  rintro e w4 ⟨rfl, hb⟩
  rw [S.out]
  have B4 := Lib.hid (below_trans B3.out hb); clear hb
  go_wp2_with fail
  go_ret
  exact ⟨rfl, below_of_keep (K2.out.trans (Keep.below B4.out))⟩
end Go.Proofs.Ytbceacihkdmgkaa
