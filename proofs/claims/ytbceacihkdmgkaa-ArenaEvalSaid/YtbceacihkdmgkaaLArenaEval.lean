import Derived.Test.YtbceacihkdmgkaaAwk1
set_option linter.unusedVariables false
namespace Go.Proofs.Ytbceacihkdmgkaa
open Go.RowKit Mq

/-- The law's own fact: two tables have one diagram just if they are the same. -/
theorem same_diagram {ns1 ns2 : List Nd} {f g x y : Nat} {ns : List Nd} (hx : x < 65536) (hy : y < 65536) (h1 : Built ns 4 0 (fun i => x.testBit i) ns1 f) (h2 : Built ns1 4 0 (fun i => y.testBit i) ns2 g) : f = g ↔ x = y := by
  have e1 : ∀ r, ev ns2 r f = x.testBit (idx 4 0 r) := fun r => by rw [h2.ext.ev h1.wf r f h1.lt, h1.ev]
  constructor
  · intro e
    subst e
    have a := num_table hx e1
    have b := num_table hy h2.ev
    exact a.symm.trans b
  · intro e
    subst e
    exact canon h2.wf (Nat.lt_of_lt_of_le h1.lt h2.ext.length) h2.lt fun r => by rw [e1, h2.ev]

theorem beq_beq {f g x y : Nat} (h : f = g ↔ x = y) : (((f : Int) == (g : Int)) == ((x : Int) == (y : Int))) = true := by
  by_cases e : x = y
  · have := h.2 e; subst e; subst this; simp
  · have hn : f ≠ g := fun q => e (h.1 q)
    have h1 : ((f : Int) == (g : Int)) = false := by rw [beq_eq_false_iff_ne]; omega
    have h2 : ((x : Int) == (y : Int)) = false := by rw [beq_eq_false_iff_ne]; omega
    rw [h1, h2]; rfl

set_option maxRecDepth 100000 in
set_option maxHeartbeats 1000000 in
theorem walk_ArenaEval (x y : Nat) (hx : x < 65536) (hy : y < 65536) (w : World) :
    Calls Try.prog 3 #[.int .u16 x, .int .u16 y] w fun e w' => e = .returned (.bool true) ∧ Below w.heap.size w w' := by
  go_enter Try.func3, Try.ntmps3
  go_wp2_with fail
  refine (awake1 w).mono ?_
  rintro e w1 ⟨rfl, hb⟩
  have B1 := Lib.hid hb; clear hb
  go_wp2_with fail
  refine (of_any w1 100 100 (by decide)).mono ?_
  rintro e w2 ⟨a, rfl, hA, hk, hle⟩
  have A2 := Lib.hid hA; have K2 := Lib.hid hk; clear hA hk
  go_wp2_with fail
  refine (build_any A2.out x hx (by simp)).mono ?_
  rintro e w3 ⟨ns1, f, rfl, hb1, hA, hk⟩
  have A3 := Lib.hid hA; have D1 := Lib.hid hb1; have K3 := Lib.hid (K2.out.trans hk); clear hA hk hb1
  go_wp2_with fail
  refine (build_any A3.out y hy (by have := D1.out.few; simp at this; omega)).mono ?_
  rintro e w4 ⟨ns2, g, rfl, hb2, hA, hk⟩
  have A4 := Lib.hid hA; have D2 := Lib.hid hb2; have K4 := Lib.hid (K3.out.trans hk); clear hA hk hb2
  go_wp2_with fail
  have L1 := Lib.hid (Nat.lt_of_lt_of_le D1.out.lt D2.out.ext.length)
  have E1 := Lib.hid (num_table hx (fun r => by rw [D2.out.ext.ev D1.out.wf r f D1.out.lt]; exact D1.out.ev r) : numOf (fun i => ev ns2 (row4 i) f) 16 = x)
  have E2 := Lib.hid (num_table hy D2.out.ev : numOf (fun i => ev ns2 (row4 i) g) 16 = y)
  refine (table_any A4.out f L1.out).mono ?_
  rintro e w5 ⟨rfl, hb⟩
  have B5 := Lib.hid hb; clear hb
  go_wp2_with fail
  refine (bits_any w5 _).mono ?_
  rintro e w6 ⟨rfl, hb⟩
  rw [E1.out]
  have B6 := Lib.hid (below_trans B5.out hb); clear hb
  go_wp2_with fail
  refine (table_any (A4.out.below B6.out) g D2.out.lt).mono ?_
  rintro e w7 ⟨rfl, hb⟩
  have B7 := Lib.hid (below_trans B6.out hb); clear hb
  go_wp2_with fail
  refine (bits_any w7 _).mono ?_
  rintro e w8 ⟨rfl, hb⟩
  rw [E2.out]
  have B8 := Lib.hid (below_trans B7.out hb); clear hb
  go_wp2_with fail
  go_ret
  refine ⟨ret_bool ?_, below_trans (below_trans B1.out (below_of_keep K4.out)) B8.out⟩
  exact beq_beq (same_diagram hx hy D1.out D2.out)
end Go.Proofs.Ytbceacihkdmgkaa
