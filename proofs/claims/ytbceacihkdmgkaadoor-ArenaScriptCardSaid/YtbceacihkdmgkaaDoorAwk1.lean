import Derived.Test.YtbceacihkdmgkaaDoorTBits
set_option linter.unusedVariables false
namespace Go.Proofs.YtbceacihkdmgkaaDoor
open Go.RowKit Mq

theorem idx_row4 (i : Nat) (hi : i < 16) : idx 4 0 (row4 i) = i := by
  have h : i = 0 ∨ i = 1 ∨ i = 2 ∨ i = 3 ∨ i = 4 ∨ i = 5 ∨ i = 6 ∨ i = 7 ∨ i = 8 ∨ i = 9 ∨ i = 10 ∨ i = 11 ∨ i = 12 ∨ i = 13 ∨ i = 14 ∨ i = 15 := by omega
  rcases h with rfl | rfl | rfl | rfl | rfl | rfl | rfl | rfl | rfl | rfl | rfl | rfl | rfl | rfl | rfl | rfl <;> decide
/-- The table of a diagram that says what a number's bits do. -/
theorem num_table {ns : List Nd} {k b : Nat} (hb : b < 65536) (h : ∀ r, ev ns r k = b.testBit (idx 4 0 r)) : numOf (fun i => ev ns (row4 i) k) 16 = b := by
  rw [numOf_testBit b _ 16 fun i hi => by rw [h, idx_row4 i hi]]
  omega

set_option maxRecDepth 100000 in
theorem variable_any {w : World} {X : Nat → Prop} {a : Nat} {ns : List Nd} {most : Nat} (h : Ar w X a ns most) (v : Nat) (hv : v < 1024) :
    Calls Tryd.prog 15 #[.pointer (some ⟨a, 0, none⟩), .int .i64 v] w (MkPost X a most w (mk most ns ⟨v, 0, 1⟩).1 (mk most ns ⟨v, 0, 1⟩).2.1 (mk most ns ⟨v, 0, 1⟩).2.2) := by
  have hw := h.wf
  have hok : okNd ns ⟨v, 0, 1⟩ := by
    have := hw.two
    refine ⟨hv, by simp; omega, by simp; omega, ?_, ?_⟩
    · simp only [var, hw.zero, no]; exact hv
    · simp only [var, hw.one, yes]; exact hv
  have HC := Lib.hid (mk_any h ⟨v, 0, 1⟩ hok)
  clear h hw hok
  go_enter Tryd.func15, Tryd.ntmps15
  go_wp2_with fail
  refine HC.out.mono ?_
  rintro e w1 ⟨rfl, hA, hk⟩
  generalize (mk most ns ⟨v, 0, 1⟩).2.1 = k at *
  generalize (mk most ns ⟨v, 0, 1⟩).2.2 = e at *
  generalize (mk most ns ⟨v, 0, 1⟩).1 = ns' at *
  have P := Lib.hid (And.intro hA hk)
  clear hA hk
  go_wp2_with fail
  go_ret2
  exact ⟨rfl, P.out.1, P.out.2⟩

theorem below_of_keep {w w' : World} (h : Keep (fun k => k < w.heap.size) w w') : Below w.heap.size w w' := ⟨h.os, h.tape, h.output, h.size, fun k hk => h.block k hk hk⟩
theorem awk1_any (W : World) (v : Nat) (hv : v < 1024) : Calls Tryd.prog 29 #[.int .i64 v] W fun e W' => e = .returned (.bool (decide (v = 3))) ∧ Below W.heap.size W W' := by
  go_enter Tryd.func29, Tryd.ntmps29
  go_wp2_with fail
  go_ret
  exact ⟨ret_bool (by rw [Bool.eq_iff_iff]; simp; omega), Below.refl _ _⟩

set_option maxRecDepth 100000 in
set_option maxHeartbeats 1000000 in
theorem awake1 (w : World) : Calls Tryd.prog 9 #[] w fun e w' => e = .returned (.bool true) ∧ Below w.heap.size w w' := by
  have m1 : Hid (mk 9 [no, yes] ⟨3, 0, 1⟩ = ([no, yes, ⟨3, 0, 1⟩], 2, 0)) := by show _ = _; rfl
  have m2 : Hid (mk 9 [no, yes, ⟨3, 0, 1⟩] ⟨3, 0, 1⟩ = ([no, yes, ⟨3, 0, 1⟩], 2, 0)) := by show _ = _; rfl
  have m3 : Hid (mk 9 [no, yes, ⟨3, 0, 1⟩] ⟨3, 1, 1⟩ = ([no, yes, ⟨3, 0, 1⟩], 1, 0)) := by show _ = _; rfl
  have he : Hid (errv 0 = .nilIface) := by show _ = _; rfl
  go_enter Tryd.func9, Tryd.ntmps9
  go_wp2_with fail
  refine (of_any w 9 9 (by decide)).mono ?_
  rintro e w1 ⟨a, rfl, hA, hk, hle⟩
  have A1 := Lib.hid hA; have K1 := Lib.hid hk; clear hA hk
  go_wp2_with fail
  refine (variable_any A1.out 3 (by decide)).mono ?_
  rw [m1.out]
  rintro e w2 ⟨rfl, hA, hk⟩
  have A2 := Lib.hid hA; have K2 := Lib.hid (K1.out.trans hk); clear hA hk
  rw [he.out]
  go_wp2_with fail
  refine (variable_any A2.out 3 (by decide)).mono ?_
  rw [m2.out]
  rintro e w3 ⟨rfl, hA, hk⟩
  have A3 := Lib.hid hA; have K3 := Lib.hid (K2.out.trans hk); clear hA hk
  rw [he.out]
  go_wp2_with fail
  refine (mk_any A3.out ⟨3, 1, 1⟩ ⟨by decide, by decide, by decide, by decide, by decide⟩).mono ?_
  rw [m3.out]
  rintro e w4 ⟨rfl, hA, hk⟩
  have A4 := Lib.hid hA; have K4 := Lib.hid (K3.out.trans hk); clear hA hk
  rw [he.out]
  go_wp2_with fail
  refine (len_any A4.out).mono ?_
  rintro e w5 ⟨rfl, rfl⟩
  go_wp2_with fail
  refine (eval_awake1 A4.out 2 (by decide) (fun v => decide (v = 3)) (fun W v _ hv => awk1_any W v hv)).mono ?_
  rintro e w6 ⟨rfl, hb⟩
  have hev : ev [no, yes, ⟨3, 0, 1⟩] (fun v => decide (v = 3)) 2 = true := by rw [ev_node A4.out.wf _ (by decide) (by decide)]; simp [nd, ev_one]
  rw [hev]
  clear hev
  have B := Lib.hid (And.intro K4.out hb)
  clear hb
  go_wp2_with fail
  go_ret
  exact ⟨rfl, below_trans (below_of_keep B.out.1) B.out.2⟩
end Go.Proofs.YtbceacihkdmgkaaDoor
