import Derived.Test.YtbceacihkdmgkaaAwk1
import Derived.Test.YtbceacihkdmgkaaOps
set_option linter.unusedVariables false
namespace Go.Proofs.Ytbceacihkdmgkaa
open Go.RowKit Mq

theorem built_dep {ns ns' : List Nd} {t : Nat → Bool} {k : Nat} (h : Built ns 4 0 t ns' k) : Dep 4 ns' k := Dep.of_fun h.ev fun r s e => by rw [idx_dep 4 0 r s (fun u hu => e u (by omega))]
/-- The arena of one variable. -/
theorem mk_first (most v : Nat) (hm : 3 ≤ most) : mk most [no, yes] ⟨v, 0, 1⟩ = ([no, yes, ⟨v, 0, 1⟩], 2, 0) := by
  unfold mk
  have hp : place [no, yes] ⟨v, 0, 1⟩ = none := rfl
  rw [if_neg (by simp)]
  simp only [hp]
  rw [if_neg (by simp; omega)]
  rfl
theorem ev_first {v : Nat} (W : WF [no, yes, ⟨v, 0, 1⟩]) (r : Nat → Bool) : ev [no, yes, ⟨v, 0, 1⟩] r 2 = r v := by
  rw [ev_node W r (Nat.le_refl 2) (by simp)]
  simp [nd, ev_one, ev_zero]

set_option maxRecDepth 100000 in
set_option maxHeartbeats 1000000 in
theorem awake2 (w : World) : Calls Try.prog 27 #[] w fun e w' => e = .returned (.bool true) ∧ Below w.heap.size w w' := by
  have m1 : Hid (mk 20 [no, yes] ⟨2, 0, 1⟩ = ([no, yes, ⟨2, 0, 1⟩], 2, 0)) := mk_first 20 2 (by omega)
  have he : Hid (errv 0 = .nilIface) := by show _ = _; rfl
  go_enter Try.func27, Try.ntmps27
  go_wp2_with fail
  refine (of_any w 20 20 (by decide)).mono ?_
  rintro e w1 ⟨a, rfl, hA, hk, hle⟩
  have A1 := Lib.hid hA; have K1 := Lib.hid hk; clear hA hk
  go_wp2_with fail
  refine (variable_any A1.out 2 (by decide)).mono ?_
  rw [m1.out]
  rintro e w2 ⟨rfl, hA, hk⟩
  have A2 := Lib.hid hA; have K2 := Lib.hid (K1.out.trans hk); clear hA hk
  rw [he.out]
  go_wp2_with fail
  have E2 := Lib.hid (ev_first A2.out.wf)
  have d2 := Lib.hid (Dep.of_fun E2.out (fun r s q => q 2 (by omega)) : Dep 4 _ 2)
  refine (not_at A2.out 2 (by decide) d2.out 2 2 rfl (Nat.le_refl 2)).mono ?_
  rintro e w3 ⟨ns3, n, err, rfl, hA, hk, hX, hc⟩
  rcases hc with ⟨rfl, hd⟩ | ⟨rfl, -, hf⟩
  rotate_left
  · have := hf.1; simp at this
  have A3 := Lib.hid hA; have K3 := Lib.hid (K2.out.trans hk); have D3 := Lib.hid hd; clear hA hk hd hX
  rw [he.out]
  go_wp2_with fail
  have l3 := Lib.hid D3.out.ext.length
  have E3 := Lib.hid (fun r => by rw [D3.out.ev, E2.out] : ∀ r, ev ns3 r n = !r 2)
  have E32 := Lib.hid (fun r => by rw [D3.out.ext.ev A2.out.wf r 2 (by decide), E2.out] : ∀ r, ev ns3 r 2 = r 2)
  refine (and_at A3.out 2 n (by have := l3.out; simp at this; omega) D3.out.lt (Dep.of_fun E32.out fun r s q => q 2 (by omega)) (Dep.of_fun E3.out fun r s q => by rw [q 2 (by omega)]) 2 2 rfl (by rw [D3.out.ext.var (by decide)]; decide) D3.out.var).mono ?_
  rintro e w4 ⟨ns4, y, err, rfl, hA, hk, hX, hc⟩
  have f3 := D3.out.few
  rcases hc with ⟨rfl, hd⟩ | ⟨rfl, -, hf⟩
  rotate_left
  · have := hf.1; simp at f3 this; omega
  clear f3
  have hy : y = 0 := canon hd.wf hd.lt (by have := hd.wf.two; omega) fun r => by rw [hd.ev, ev_zero, E3.out, E32.out]; cases r 2 <;> rfl
  subst hy
  have K4 := Lib.hid (K3.out.trans hk); clear hA hk hd hX
  rw [he.out]
  have hn2 : n ≠ 2 := by
    rintro rfl
    have h1 := E3.out (fun _ => true)
    rw [E32.out] at h1
    simp at h1
  have hn0 : n ≠ 0 := by
    rintro rfl
    have h1 := E3.out (fun _ => false)
    rw [ev_zero] at h1
    simp at h1
  have hn1 : n ≠ 1 := by
    rintro rfl
    have h1 := E3.out (fun _ => true)
    rw [ev_one] at h1
    simp at h1
  have g1 : ((n : Int) != 2) = true := by rw [bne_iff_ne]; omega
  have g2 : 1 < n := by omega
  clear hn2 hn0 hn1
  go_wp2_with fail
  go_ret
  exact ⟨rfl, below_of_keep K4.out⟩
end Go.Proofs.Ytbceacihkdmgkaa
