import Derived.Test.YtbceacihkdmgkaaAlg
import Derived.Deep.RegionHeld3
import Derived.Deep.LoopGhost
set_option linter.unusedVariables false
namespace Go.Proofs.Ytbceacihkdmgkaa
open Go.RowKit Mq

def OrdRel (w2 : World) (ns : List Nd) (k : Value) (wr : World) : Prop := ∃ i : Nat, k = .int .i64 i ∧ 2 ≤ i ∧ i ≤ ns.length ∧ Below w2.heap.size w2 wr

set_option maxRecDepth 100000 in
set_option maxHeartbeats 2000000 in
theorem walk_ArenaOrder (x y : Nat) (hx : x < 65536) (hy : y < 65536) (w : World) :
    Calls Try.prog 4 #[.int .u16 x, .int .u16 y] w fun e w' => e = .returned (.bool true) ∧ Below w.heap.size w w' := by
  go_enter Try.func4, Try.ntmps4
  go_wp2_with fail
  refine (awake1 w).mono ?_
  rintro e w1 ⟨rfl, hb⟩
  have B1 := Lib.hid hb; clear hb
  go_wp2_with fail
  refine (of_any w1 100 100 (by decide)).mono ?_
  rintro e w2 ⟨a, rfl, hA, hk, hle⟩
  have A2 := Lib.hid hA; have K2 := Lib.hid hk; clear hA hk
  go_wp2_with fail
  refine (build_any A2.out x hx (by simp)).mono ?_
  rintro e w3 ⟨ns1, f, rfl, hb1, hA, hk⟩
  have A3 := Lib.hid hA; have D1 := Lib.hid hb1; have K3 := Lib.hid (K2.out.trans hk); clear hA hk hb1
  go_wp2_with fail
  refine (build_any A3.out y hy (by have := D1.out.few; simp at this; omega)).mono ?_
  rintro e w4 ⟨ns2, g, rfl, hb2, hA, hk⟩
  have A4 := Lib.hid hA; have D2 := Lib.hid hb2; have K4 := Lib.hid (K3.out.trans hk); clear hA hk hb2
  go_wp2_with fail
  refine (build_any A4.out x hx (by have := D1.out.few; have := D2.out.few; simp at *; omega)).mono ?_
  rintro e w5 ⟨ns3, h, rfl, hb3, hA, hk⟩
  have A5 := Lib.hid hA; have D3 := Lib.hid hb3; have K5 := Lib.hid (K4.out.trans hk); clear hA hk hb3
  -- no node is new: the table had its diagram
  have T1 := Lib.hid ((Tab.of_built hx D1.out).ext D1.out.wf D2.out.ext)
  have hst := D3.out.stay ⟨f, T1.out.lt, T1.out.ev⟩
  subst hst
  have hfh := Tab.same A5.out.wf T1.out (Tab.of_built hx D3.out)
  subst hfh
  have f1 := Lib.hid D1.out.few
  have f2 := Lib.hid D2.out.few
  go_wp2_with fail
  have hw2 := A5.out.wf.two
  have hle := A5.out.len_le
  go_loopw [8] (fun k wr => OrdRel w5 ns3 k wr) (fun k _ => ns3.length - (intOf k).toNat)
  case atStart => exact ⟨2, rfl, by omega, hw2, Below.refl _ _⟩
  case round =>
    obtain ⟨i, rfl, hi2, hil, hb⟩ := hrel
    have B := Lib.hid hb; clear hb
    by_cases hlt : i < ns3.length
    · have hin := A5.out.wf.inner i hi2 hlt
      obtain ⟨p1, p2, p3, p4, p5, p6⟩ := hin
      unfold var at p5 p6
      have hg1 := geti_nat ns3 (nd ns3 i).lo
      have hg2 := geti_nat ns3 (nd ns3 i).hi
      have G1 := Lib.hid hg1; have G2 := Lib.hid hg2
      clear hg1 hg2
      generalize nd ns3 (nd ns3 i).lo = nl at *
      generalize nd ns3 (nd ns3 i).hi = nh at *
      have hgi := geti_nat ns3 i
      have GI := Lib.hid hgi; clear hgi
      generalize nd ns3 i = n at *
      obtain ⟨nv, nlo, nhi⟩ := n
      simp only at *
      go_wp2_with (first | (go_at_call 25; refine (len_any (A5.out.below B.out)).mono ?_; rintro e w6 ⟨rfl, rfl⟩) | (go_at_call 26; refine (get_any (A5.out.below B.out) _).mono ?_; rintro e w7 ⟨rfl, hb7⟩; rw [GI.out]; unfold ndv))
      have hbx := heap_alloc_new w7 (.cells #[.int .i64 nv, .int .i64 nlo, .int .i64 nhi] 33)
      have hB1 := below_alloc (below_trans B.out hb7) (.cells #[.int .i64 nv, .int .i64 nlo, .int .i64 nhi] 33)
      generalize w7.alloc (.cells #[.int .i64 nv, .int .i64 nlo, .int .i64 nhi] 33) = W1 at *
      generalize w7.heap.size = b at *
      obtain ⟨c0, c1, c2, -, -, -⟩ := cells3 hbx
      have hbl := (Array.getElem?_eq_some_iff.1 hbx).1
      have hS : ∀ w', Below W1.heap.size W1 w' → w'.cell? ⟨b, 0, none⟩ = some (.int .i64 nv) ∧ w'.cell? ⟨b, 1, none⟩ = some (.int .i64 nlo) ∧ w'.cell? ⟨b, 2, none⟩ = some (.int .i64 nhi) ∧ Below W1.heap.size W1 w' := fun w' hb =>
        ⟨(hb.cell (p := ⟨b, 0, none⟩) hbl).trans c0, (hb.cell (p := ⟨b, 1, none⟩) hbl).trans c1, (hb.cell (p := ⟨b, 2, none⟩) hbl).trans c2, hb⟩
      have HS := Lib.hid hS
      have BB1 := Lib.hid hB1
      clear hS hB1 hb7 hbx hbl
      have hfld := run_node_var
      have q1 : decide (nl.v ≤ nv) = false := by simp; omega
      have q2 : decide (nh.v ≤ nv) = false := by simp; omega
      have q3 : ((nlo : Int) == (nhi : Int)) = false := by rw [beq_eq_false_iff_ne]; omega
      have q4 : decide (i ≤ nlo) = false := by simp; omega
      have q5 : decide (i ≤ nhi) = false := by simp; omega
      go_region_held3 (fun w' => w'.cell? ⟨b, 0, none⟩ = some (.int .i64 nv) ∧ w'.cell? ⟨b, 1, none⟩ = some (.int .i64 nlo) ∧ w'.cell? ⟨b, 2, none⟩ = some (.int .i64 nhi) ∧ Below W1.heap.size W1 w')
        (first | exact HS.out _ (below_drew1 _) | exact HS.out _ hs8 | go_keep)
        (first | (go_at_call 26; refine get_at A5.out BB1.out ?_ _ ?_; (first | exact below_drew1 _ | assumption | exact (‹_ ∧ _ ∧ _ ∧ Below _ _ _›).2.2.2); intro w8 hs8; (first | rw [G1.out] | rw [G2.out]); unfold ndv))
      go_wp2_with fail
      go_roundw
      case rel => exact ⟨i + 1, by go_num, by omega, by omega, below_trans BB1.out (‹_ ∧ _ ∧ _ ∧ Below _ _ _›).2.2.2⟩
      case measure => simp [intOf] <;> omega
    · have hi' : i = ns3.length := by omega
      subst hi'
      have hL : ns3.length ≤ 32 := by have := f1.out; have := f2.out; simp at *; omega
      go_wp2_with (go_at_call 25; refine (len_any (A5.out.below B.out)).mono ?_; rintro e w6 ⟨rfl, rfl⟩)
      go_ret
      exact ⟨ret_bool (by simp; omega), below_trans B1.out (below_of_keep (K5.out.trans (Keep.below B.out)))⟩
end Go.Proofs.Ytbceacihkdmgkaa
