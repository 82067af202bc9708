import Derived.Test.YtbceacihkdmgkaaDoorAwk1
import Derived.Test.YtbceacihkdmgkaaDoorMkE
import Derived.Test.YtbceacihkdmgkaaDoorNum
import Derived.Test.YtbceacihkdmgkaaDoorCl
set_option linter.unusedVariables false
namespace Go.Proofs.YtbceacihkdmgkaaDoor
open Go.RowKit Mq

theorem okZ_start (v lo hi : Int) : okZ [no, yes] v lo hi ↔ 0 ≤ v ∧ v < 1024 ∧ 0 ≤ lo ∧ lo ≤ 1 ∧ 0 ≤ hi ∧ hi ≤ 1 := by
  unfold okZ
  constructor
  · rintro ⟨h1, h2, h3, h4, h5, h6, -, -⟩
    simp at h4 h6
    omega
  · rintro ⟨h1, h2, h3, h4, h5, h6⟩
    have e : ∀ x : Int, 0 ≤ x → x ≤ 1 → var [no, yes] x.toNat = 1024 := fun x q1 q2 => by
      have : x = 0 ∨ x = 1 := by omega
      rcases this with rfl | rfl <;> rfl
    rw [e lo h3 h4, e hi h5 h6]
    simp
    omega
set_option maxRecDepth 100000 in
set_option maxHeartbeats 1000000 in
theorem walk_ArenaLimits (v lo hi : Int) (w : World) (hv : is64 v) (hl : is64 lo) (hh : is64 hi) (hg : ErrG w) :
    Calls Tryd.prog 4 #[.int .i64 v, .int .i64 lo, .int .i64 hi] w fun e w' => e = .returned (.bool true) ∧ Below w.heap.size w w' := by
  have G := Lib.hid hg; clear hg
  go_enter Tryd.func4, Tryd.ntmps4
  go_wp2_with fail
  refine (awake1 w).mono ?_
  rintro e w1 ⟨rfl, hb⟩
  have B1 := Lib.hid hb; clear hb
  go_wp2_with fail
  refine (of_any w1 9 9 (by decide)).mono ?_
  rintro e w2 ⟨a, rfl, hA, hk, hle⟩
  have A2 := Lib.hid hA; have K2 := Lib.hid hk; clear hA hk hle
  go_wp2_with fail
  by_cases bad : okZ [no, yes] v lo hi
  · have ok := (okZ_start v lo hi).1 bad
    obtain ⟨n, rfl, rfl, rfl, hok⟩ := bad.nd
    refine (mk_any A2.out n hok).mono ?_
    rintro e w3 ⟨rfl, hA, hk⟩
    have A3 := Lib.hid hA; have K3 := Lib.hid (K2.out.trans hk); clear hA hk
    have he : errv 0 = .nilIface := rfl
    by_cases hne : n.lo = n.hi
    · have hm : mk 9 [no, yes] n = ([no, yes], n.lo, 0) := by unfold mk; rw [if_pos hne]
      have M := Lib.hid hm; clear hm bad
      rw [M.out] at A3 ⊢
      rw [he]
      clear he M
      have hne1 : ((n.lo : Int) == (n.hi : Int)) = true := by rw [beq_iff_eq]; omega
      clear hne hok
      generalize n.v = nv at *
      generalize n.lo = nl at *
      generalize n.hi = nh at *
      go_wp2_with fail
      refine (len_any A3.out).mono ?_
      rintro e w5 ⟨rfl, rfl⟩
      go_wp2_with fail
      go_ret
      exact ⟨ret_bool (by simp), below_trans B1.out (below_of_keep K3.out)⟩
    · have hp : place [no, yes] n = none := rfl
      have hm : mk 9 [no, yes] n = ([no, yes, n], 2, 0) := by unfold mk; rw [if_neg hne, hp]; rfl
      have M := Lib.hid hm; clear hm bad hp
      rw [M.out] at A3 ⊢
      rw [he]
      clear he M
      have hne1 : ((n.lo : Int) == (n.hi : Int)) = false := by rw [beq_eq_false_iff_ne]; omega
      have hgi := Lib.hid (show geti [no, yes, n] 2 = n from rfl)
      obtain ⟨nv, nl, nh⟩ := n
      simp only at *
      clear hne hok
      go_wp2_with fail
      refine (len_any A3.out).mono ?_
      rintro e w5 ⟨rfl, rfl⟩
      go_wp2_with fail
      refine (get_any A3.out 2).mono ?_
      rintro e w6 ⟨rfl, hb6⟩
      rw [hgi.out]
      unfold ndv
      have B6 := Lib.hid hb6; clear hb6
      have heq := eq_ints3 w6
      go_wp2_with fail
      go_ret
      exact ⟨ret_bool (by simp), below_trans B1.out (below_trans (below_of_keep K3.out) B6.out)⟩
  · refine (mk_bad A2.out v lo hi bad).mono ?_
    rintro e w3 ⟨rfl, hA, hk⟩
    have A3 := Lib.hid hA; have K3 := Lib.hid (K2.out.trans hk); clear hA hk
    have bad' : v < 0 ∨ 1024 ≤ v ∨ lo < 0 ∨ 1 < lo ∨ hi < 0 ∨ 1 < hi := by rw [okZ_start] at bad; omega
    have G3 := Lib.hid (G.out.below (below_trans B1.out (below_of_keep K3.out)))
    clear bad
    have fin : ∀ w6, Below w3.heap.size w3 w6 → Below w.heap.size w w6 := fun w6 hb => below_trans B1.out (below_trans (below_of_keep K3.out) hb)
    have FIN := Lib.hid fin
    clear fin
    by_cases b1 : v < 0
    · clear bad'
      go_wp2_with fail
      refine (number_any 10 w3 G3.out).mono ?_
      rintro e w6 ⟨rfl, hb6⟩
      have B6 := Lib.hid hb6; clear hb6
      have A6 := Lib.hid (A3.out.below B6.out)
      go_wp2_with fail
      refine (len_any A6.out).mono ?_
      rintro e w5 ⟨rfl, rfl⟩
      go_wp2_with fail
      go_ret
      exact ⟨ret_bool (by simp), FIN.out _ B6.out⟩
    by_cases b2 : 1024 ≤ v
    · clear bad'
      go_wp2_with fail
      refine (number_any 10 w3 G3.out).mono ?_
      rintro e w6 ⟨rfl, hb6⟩
      have B6 := Lib.hid hb6; clear hb6
      have A6 := Lib.hid (A3.out.below B6.out)
      go_wp2_with fail
      refine (len_any A6.out).mono ?_
      rintro e w5 ⟨rfl, rfl⟩
      go_wp2_with fail
      go_ret
      exact ⟨ret_bool (by simp), FIN.out _ B6.out⟩
    by_cases b3 : lo < 0
    · clear bad'
      go_wp2_with fail
      refine (number_any 10 w3 G3.out).mono ?_
      rintro e w6 ⟨rfl, hb6⟩
      have B6 := Lib.hid hb6; clear hb6
      have A6 := Lib.hid (A3.out.below B6.out)
      go_wp2_with fail
      refine (len_any A6.out).mono ?_
      rintro e w5 ⟨rfl, rfl⟩
      go_wp2_with fail
      go_ret
      exact ⟨ret_bool (by simp), FIN.out _ B6.out⟩
    by_cases b4 : 1 < lo
    · clear bad'
      go_wp2_with fail
      refine (number_any 10 w3 G3.out).mono ?_
      rintro e w6 ⟨rfl, hb6⟩
      have B6 := Lib.hid hb6; clear hb6
      have A6 := Lib.hid (A3.out.below B6.out)
      go_wp2_with fail
      refine (len_any A6.out).mono ?_
      rintro e w5 ⟨rfl, rfl⟩
      go_wp2_with fail
      go_ret
      exact ⟨ret_bool (by simp), FIN.out _ B6.out⟩
    by_cases b5 : hi < 0
    · clear bad'
      go_wp2_with fail
      refine (number_any 10 w3 G3.out).mono ?_
      rintro e w6 ⟨rfl, hb6⟩
      have B6 := Lib.hid hb6; clear hb6
      have A6 := Lib.hid (A3.out.below B6.out)
      go_wp2_with fail
      refine (len_any A6.out).mono ?_
      rintro e w5 ⟨rfl, rfl⟩
      go_wp2_with fail
      go_ret
      exact ⟨ret_bool (by simp), FIN.out _ B6.out⟩
    have b6 : 1 < hi := by omega
    clear bad'
    go_wp2_with fail
    refine (number_any 10 w3 G3.out).mono ?_
    rintro e w6 ⟨rfl, hb6⟩
    have B6 := Lib.hid hb6; clear hb6
    have A6 := Lib.hid (A3.out.below B6.out)
    go_wp2_with fail
    refine (len_any A6.out).mono ?_
    rintro e w5 ⟨rfl, rfl⟩
    go_wp2_with fail
    go_ret
    exact ⟨ret_bool (by simp), FIN.out _ B6.out⟩
end Go.Proofs.YtbceacihkdmgkaaDoor
