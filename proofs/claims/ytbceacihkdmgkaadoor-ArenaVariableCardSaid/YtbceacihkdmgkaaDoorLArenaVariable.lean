import Derived.Test.YtbceacihkdmgkaaDoorAwk1
import Derived.Test.YtbceacihkdmgkaaDoorMkE
import Derived.Test.YtbceacihkdmgkaaDoorNum
import Derived.Test.YtbceacihkdmgkaaDoorCl
import Derived.Test.YtbceacihkdmgkaaDoorEvV
import Derived.Test.YtbceacihkdmgkaaDoorLArenaLimits
set_option linter.unusedVariables false
namespace Go.Proofs.YtbceacihkdmgkaaDoor
open Go.RowKit Mq

set_option maxRecDepth 100000 in
theorem variable_bad {w : World} {X : Nat → Prop} {a : Nat} {ns : List Nd} {most : Nat} (h : Ar w X a ns most) (v : Int) (hv : v < 0 ∨ 1024 ≤ v) :
    Calls Tryd.prog 15 #[.pointer (some ⟨a, 0, none⟩), .int .i64 v] w (MkPost X a most w ns 0 10) := by
  have HC := Lib.hid (mk_bad h v 0 1 (by unfold okZ; omega))
  clear h
  go_enter Tryd.func15, Tryd.ntmps15
  go_wp2_with fail
  refine HC.out.mono ?_
  rintro e w1 ⟨rfl, hA, hk⟩
  have P := Lib.hid (And.intro hA hk)
  clear hA hk
  have he : errv 10 = .iface 36 (.int .i64 10) := rfl
  rw [he]
  go_wp2_with fail
  go_ret2
  exact ⟨rfl, P.out.1, P.out.2⟩
theorem av1_any (W : World) (b : Nat) (v x : Nat) (hc : W.cell? ⟨b, 0, none⟩ = some (.int .i64 x)) : Calls Tryd.prog 17 #[.int .i64 v, .pointer (some ⟨b, 0, none⟩)] W fun e W' => e = .returned (.bool (decide (v = x))) ∧ Below W.heap.size W W' := by
  go_enter Tryd.func17, Tryd.ntmps17
  go_wp2_with fail
  go_ret
  exact ⟨ret_bool (by rw [Bool.eq_iff_iff]; simp; omega), Below.refl _ _⟩
theorem av2_any (W : World) (b : Nat) (v x : Nat) (hc : W.cell? ⟨b, 0, none⟩ = some (.int .i64 x)) : Calls Tryd.prog 18 #[.int .i64 v, .pointer (some ⟨b, 0, none⟩)] W fun e W' => e = .returned (.bool (!decide (v = x))) ∧ Below W.heap.size W W' := by
  go_enter Tryd.func18, Tryd.ntmps18
  go_wp2_with fail
  go_ret
  exact ⟨ret_bool (by rw [Bool.eq_iff_iff]; simp; omega), Below.refl _ _⟩
theorem one_ev (v : Nat) (hv : v < 1024) (r : Nat → Bool) (W : WF [no, yes, ⟨v, 0, 1⟩]) : ev [no, yes, ⟨v, 0, 1⟩] r 2 = r v := by
  rw [ev_node W r (by omega) (by simp)]
  simp [nd, ev_one, ev_zero]

set_option maxRecDepth 100000 in
set_option maxHeartbeats 1000000 in
theorem walk_ArenaVariable (v : Int) (room : Nat) (w : World) (hv : is64 v) (hr : room < 256) (hg : ErrG w) :
    Calls Tryd.prog 5 #[.int .i64 v, .int .u8 room] w fun e w' => e = .returned (.bool true) ∧ Below w.heap.size w w' := by
  have G := Lib.hid hg; clear hg
  go_enter Tryd.func5, Tryd.ntmps5
  go_wp2_with fail
  have hb0 := (Below.refl w.heap.size w).alloc (Nat.le_refl _) (.cells #[.int .i64 v] 3)
  have hc0 := heap_alloc_new w (.cells #[.int .i64 v] 3)
  generalize w.alloc (.cells #[.int .i64 v] 3) = w0 at *
  refine (awake1 w0).mono ?_
  rintro e w1 ⟨rfl, hb⟩
  have B1 : Hid (Below w.heap.size w w1) := Lib.hid (below_trans hb0 hb)
  have C1 := Lib.hid (blk_below hb hc0 (Array.getElem?_eq_some_iff.1 hc0).1)
  clear hb hc0 hb0
  obtain ⟨m, hm⟩ : ∃ m : Nat, (m : Int) = max 2 (min (room : Int) 131072) := ⟨max 2 room, by omega⟩
  have HM := Lib.hid hm
  clear hm
  go_wp2_with fail
  refine (of_any w1 room m HM.out).mono ?_
  rintro e w2 ⟨a, rfl, hA, hk, hle⟩
  have A2 := Lib.hid hA; have K2 := Lib.hid hk; clear hA hk hle
  have hb2 := below_of_keep K2.out
  have s1 := (Array.getElem?_eq_some_iff.1 C1.out).1
  have C2 := Lib.hid (blk_below hb2 C1.out s1)
  obtain ⟨x0, -⟩ := cells1 C2.out
  have B2 := Lib.hid (below_trans B1.out hb2)
  clear hb2
  go_wp2_with fail
  by_cases bad : v < 0 ∨ 1024 ≤ v
  · refine (variable_bad A2.out v bad).mono ?_
    rintro e w3 ⟨rfl, hA, hk⟩
    have A3 := Lib.hid hA; have K3 := Lib.hid (K2.out.trans hk); clear hA hk x0
    have B3 := Lib.hid (below_of_keep K3.out)
    have C3 := Lib.hid (blk_below B3.out C1.out s1)
    obtain ⟨x0, -⟩ := cells1 C3.out
    have G3 := Lib.hid (G.out.below (below_trans B1.out B3.out))
    by_cases b1 : v < 0
    · clear bad
      go_wp2_with fail
      refine (number_any 10 w3 G3.out).mono ?_
      rintro e w4 ⟨rfl, hb⟩
      have B4 := Lib.hid (below_trans (below_trans B1.out B3.out) hb); clear hb
      go_wp2_with fail
      go_ret
      exact ⟨ret_bool (by simp), B4.out⟩
    · have b2 : 1024 ≤ v := by omega
      clear bad
      go_wp2_with fail
      refine (number_any 10 w3 G3.out).mono ?_
      rintro e w4 ⟨rfl, hb⟩
      have B4 := Lib.hid (below_trans (below_trans B1.out B3.out) hb); clear hb
      go_wp2_with fail
      go_ret
      exact ⟨ret_bool (by simp), B4.out⟩
  · obtain ⟨x, rfl⟩ := Int.eq_ofNat_of_zero_le (show 0 ≤ v by omega)
    have hx : x < 1024 := by omega
    refine (variable_any A2.out x hx).mono ?_
    rintro e w3 ⟨rfl, hA, hk⟩
    have A3 := Lib.hid hA; have K3 := Lib.hid (K2.out.trans hk); clear hA hk x0 bad
    have B3 := Lib.hid (below_of_keep K3.out)
    have C3 := Lib.hid (blk_below B3.out C1.out s1)
    obtain ⟨x0, -⟩ := cells1 C3.out
    have G3 := Lib.hid (G.out.below (below_trans B1.out B3.out))
    by_cases hroom : room < 3
    · have hm : mk m [no, yes] ⟨x, 0, 1⟩ = ([no, yes], 0, 8) := by
        have hp : place [no, yes] ⟨x, 0, 1⟩ = none := rfl
        have : m = 2 := by have := HM.out; omega
        subst this
        unfold mk; rw [if_neg (show ¬ (0 : Nat) = 1 by decide), hp]; rfl
      have M := Lib.hid hm; clear hm
      rw [M.out] at A3 ⊢
      clear M
      go_wp2_with fail
      refine (number_any 8 w3 G3.out).mono ?_
      rintro e w4 ⟨rfl, hb⟩
      have B4 := Lib.hid (below_trans (below_trans B1.out B3.out) hb); clear hb
      go_wp2_with fail
      go_ret
      exact ⟨ret_bool (by simp), B4.out⟩
    · have hm : mk m [no, yes] ⟨x, 0, 1⟩ = ([no, yes, ⟨x, 0, 1⟩], 2, 0) := by
        have hp : place [no, yes] ⟨x, 0, 1⟩ = none := rfl
        have : ¬ 2 = m := by have := HM.out; omega
        unfold mk; rw [if_neg (show ¬ (0 : Nat) = 1 by decide), hp]; simp [this]
      have M := Lib.hid hm; clear hm
      rw [M.out] at A3 ⊢
      clear M
      have he : errv 0 = .nilIface := rfl
      rw [he]
      clear he
      have s3 := (Array.getElem?_eq_some_iff.1 C3.out).1
      go_wp2_with fail
      refine (eval_ArenaVar1 A3.out 2 (by simp) (.pointer (some ⟨w.heap.size, 0, none⟩)) (fun v => decide (v = x)) (fun W v hb hv => av1_any W w.heap.size v x ((cells1 (blk_below hb C3.out s3)).1))).mono ?_
      rintro e w4 ⟨rfl, hb⟩
      rw [one_ev x hx _ A3.out.wf]
      have B4 := Lib.hid hb; clear hb
      have A4 := Lib.hid (A3.out.below B4.out)
      have C4 := Lib.hid (blk_below B4.out C3.out s3)
      have s4 := (Array.getElem?_eq_some_iff.1 C4.out).1
      go_wp2_with fail
      refine (eval_ArenaVar2 A4.out 2 (by simp) (.pointer (some ⟨w.heap.size, 0, none⟩)) (fun v => !decide (v = x)) (fun W v hb hv => av2_any W w.heap.size v x ((cells1 (blk_below hb C4.out s4)).1))).mono ?_
      rintro e w5 ⟨rfl, hb⟩
      rw [one_ev x hx _ A3.out.wf]
      have B5 := Lib.hid (below_trans (below_trans B1.out B3.out) (below_trans B4.out hb)); clear hb
      go_wp2_with fail
      go_ret
      exact ⟨ret_bool (by simp), B5.out⟩
end Go.Proofs.YtbceacihkdmgkaaDoor
