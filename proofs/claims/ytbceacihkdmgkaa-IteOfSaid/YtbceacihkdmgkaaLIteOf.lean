import Derived.Test.YtbceacihkdmgkaaAlg
set_option linter.unusedVariables false
namespace Go.Proofs.Ytbceacihkdmgkaa
open Go.RowKit Mq

set_option maxRecDepth 100000 in
set_option maxHeartbeats 2000000 in
theorem walk_IteOf (x y z : Nat) (hx : x < 65536) (hy : y < 65536) (hz : z < 65536) (w : World) :
    Calls Try.prog 8 #[.int .u16 x, .int .u16 y, .int .u16 z] w fun e w' => e = .returned (.bool true) ∧ Below w.heap.size w w' := by
  have he : Hid (errv 0 = .nilIface) := by show _ = _; rfl
  go_enter Try.func8, Try.ntmps8
  go_wp2_with fail
  refine (awake2 w).mono ?_
  rintro e w1 ⟨rfl, hb⟩
  have B1 := Lib.hid hb; clear hb
  go_wp2_with fail
  refine (of_any w1 200 200 (by decide)).mono ?_
  rintro e w2 ⟨a, rfl, hA, hk, hle⟩
  have A2 := Lib.hid hA; have K2 := Lib.hid hk; clear hA hk
  go_wp2_with fail
  refine (build_any A2.out x hx (by simp)).mono ?_
  rintro e w3 ⟨ns1, f, rfl, hb1, hA, hk⟩
  have A3 := Lib.hid hA; have D1 := Lib.hid hb1; have K3 := Lib.hid (K2.out.trans hk); clear hA hk hb1
  go_wp2_with fail
  have f1 := Lib.hid D1.out.few
  refine (build_any A3.out y hy (by have := f1.out; simp at this; omega)).mono ?_
  rintro e w4 ⟨ns2, g, rfl, hb2, hA, hk⟩
  have A4 := Lib.hid hA; have D2 := Lib.hid hb2; have K4 := Lib.hid (K3.out.trans hk); clear hA hk hb2
  go_wp2_with fail
  have f2 := Lib.hid D2.out.few
  refine (build_any A4.out z hz (by have := f1.out; have := f2.out; simp at *; omega)).mono ?_
  rintro e w5 ⟨ns3, h, rfl, hb3, hA, hk⟩
  have A5 := Lib.hid hA; have D3 := Lib.hid hb3; have K5 := Lib.hid (K4.out.trans hk); clear hA hk hb3
  go_wp2_with fail
  have f3 := Lib.hid D3.out.few
  have X1 := Lib.hid (D2.out.ext.trans D3.out.ext)
  have T1 := Lib.hid (Tab.ext (Tab.of_built hx D1.out) D1.out.wf X1.out)
  have T2 := Lib.hid (Tab.ext (Tab.of_built hy D2.out) D2.out.wf D3.out.ext)
  have T3 := Lib.hid (Tab.of_built hz D3.out)
  refine (iteOf_nat A5.out f g h T1.out.lt T2.out.lt T3.out.lt T1.out.dep T2.out.dep T3.out.dep 4 0 rfl (Nat.zero_le _) (Nat.zero_le _) (Nat.zero_le _)).mono ?_
  rintro e w6 ⟨ns4, k, err, rfl, hA, hk, hX, hc⟩
  rcases hc with ⟨rfl, hd⟩ | ⟨rfl, -, hf⟩
  rotate_left
  · have := hf.1; have := f1.out; have := f2.out; have := f3.out; simp at *; omega
  have A6 := Lib.hid hA; have K6 := Lib.hid (K5.out.trans hk); have D4 := Lib.hid hd; clear hA hk hX hd
  rw [he.out]
  have T4 := Lib.hid (Tab.ite D4.out T1.out T2.out T3.out)
  have E4 := ite_u16 x y z hx hy hz
  go_wp2_with fail

  clear E4
  generalize ((x &&& y) ||| ((65535 - x) &&& z)) = b at *
  refine (table_any A6.out k T4.out.lt).mono ?_
  rintro e w7 ⟨rfl, hb⟩
  have B7 := Lib.hid hb; clear hb
  go_wp2_with fail
  refine (bits_any w7 _).mono ?_
  rintro e w8 ⟨rfl, hb⟩
  rw [T4.out.num]
  have B8 := Lib.hid (below_trans B7.out hb); clear hb
  go_wp2_with fail
  have f4 := Lib.hid D4.out.few
  refine (build_any (A6.out.below B8.out) b T4.out.b_lt (by have := f1.out; have := f2.out; have := f3.out; have := f4.out; simp at *; omega)).mono ?_
  rintro e w9 ⟨ns5, j, rfl, hb5, hA, hk⟩
  have e : k = j := Tab.same hb5.wf (T4.out.ext D4.out.wf hb5.ext) (Tab.of_built T4.out.b_lt hb5)
  subst e
  have K9 := Lib.hid ((K6.out.trans (Keep.below B8.out)).trans hk); clear hA hk hb5
  go_wp2_with fail
  go_ret
  exact ⟨rfl, below_trans B1.out (below_of_keep K9.out)⟩
end Go.Proofs.Ytbceacihkdmgkaa
