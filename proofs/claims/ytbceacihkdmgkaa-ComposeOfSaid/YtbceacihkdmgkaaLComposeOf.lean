import Derived.Test.YtbceacihkdmgkaaCol
set_option linter.unusedVariables false
namespace Go.Proofs.Ytbceacihkdmgkaa
open Go.RowKit Mq

set_option maxRecDepth 100000 in
set_option maxHeartbeats 2000000 in
theorem walk_ComposeOf (x v y : Nat) (hx : x < 65536) (hv : v < 256) (hy : y < 65536) (w : World) :
    Calls Try.prog 19 #[.int .u16 x, .int .u8 v, .int .u16 y] w fun e w' => e = .returned (.bool true) ∧ Below w.heap.size w w' := by
  have he : Hid (errv 0 = .nilIface) := by show _ = _; rfl
  go_enter Try.func19, Try.ntmps19
  go_wp2_with fail
  refine (awake3 w).mono ?_
  rintro e w1 ⟨rfl, hb⟩
  have B1 := Lib.hid hb; clear hb
  go_wp2_with fail
  refine (of_any w1 300 300 (by decide)).mono ?_
  rintro e w2 ⟨a, rfl, hA, hk, hle⟩
  have A2 := Lib.hid hA; have K2 := Lib.hid hk; clear hA hk hle
  go_wp2_with fail
  refine (build_any A2.out x hx (by simp)).mono ?_
  rintro e w3 ⟨ns1, f, rfl, hd, hA, hk⟩
  have A3 := Lib.hid hA; have K3 := Lib.hid (K2.out.trans hk)
  have L3 : Hid (ns1.length ≤ 17) := Lib.hid (by have := hd.few; simp at this; omega)
  have T1 := Lib.hid (Tab.of_built hx hd)
  clear hA hk hd
  go_wp2_with fail
  refine (build_any A3.out y hy (by have := L3.out; omega)).mono ?_
  rintro e w4 ⟨ns2, g, rfl, hd, hA, hk⟩
  have A4 := Lib.hid hA; have K4 := Lib.hid (K3.out.trans hk)
  have L4 : Hid (ns2.length ≤ 32) := Lib.hid (by have := hd.few; have := L3.out; simp at *; omega)
  have T2 := Lib.hid (Tab.of_built hy hd)
  have T1b := Lib.hid (T1.out.ext A3.out.wf hd.ext)
  clear hA hk hd
  go_wp2_with fail
  have ek : (v : Int) % 4 = ((v % 4 : Nat) : Int) := by omega
  have hk4 : v % 4 < 4 := Nat.mod_lt _ (by omega)
  rw [ek]
  clear ek
  generalize v % 4 = k at *
  refine (cmpOf_any A4.out f k g (by omega) T1b.out.lt T1b.out.dep T2.out.lt T2.out.dep 4 0 rfl (Nat.zero_le _) (Nat.zero_le _)).mono ?_
  rintro e w5 ⟨ns3, z, err, rfl, hA, hk, hX, hc⟩
  rcases hc with ⟨rfl, hfew, hl, hev⟩ | ⟨rfl, -, hf⟩
  rotate_left
  · have := L4.out; simp at *; omega
  have A5 := Lib.hid hA; have K5 := Lib.hid (K4.out.trans hk)
  have T3 : Hid (Tab ns3 z ((y &&& atN x k true) ||| ((65535 - y) &&& atN x k false))) := Lib.hid ⟨ite_lt hy (atN_lt _ _ _) (atN_lt _ _ _), hl, fun r => by
    rw [hev]; show (if _ then _ else _) = _
    rw [T1b.out.ev, T1b.out.ev, T2.out.ev, Nat.testBit_or, Nat.testBit_and, Nat.testBit_and, atN_bit x k hk4, atN_bit x k hk4, not_bit hy _ (idx_lt16 r)]
    cases y.testBit (idx 4 0 r) <;> simp⟩
  clear hA hk hX hfew hl hev
  rw [he.out]
  have c1 := atN_lt x k true
  have c2 := atN_lt x k false
  go_wp2_with fail
  refine (at_any x k true hx hk4 w5).mono ?_
  rintro e w7 ⟨rfl, hb⟩
  have B7 := Lib.hid hb; clear hb
  go_wp2_with fail
  refine (at_any x k false hx hk4 w7).mono ?_
  rintro e w8 ⟨rfl, hb⟩
  have B8 := Lib.hid (below_trans B7.out hb); clear hb
  have e1 := ite_u16 y _ _ hy c1 c2
  go_wp2_with fail
  refine (table_any (A5.out.below B8.out) z T3.out.lt).mono ?_
  rintro e w9 ⟨rfl, hb⟩
  have B9 := Lib.hid (below_trans B8.out hb); clear hb
  go_wp2_with fail
  refine (bits_any w9 _).mono ?_
  rintro e w10 ⟨rfl, hb⟩
  rw [T3.out.num]
  have B10 := Lib.hid (below_trans B9.out hb); clear hb
  go_wp2_with fail
  go_ret
  exact ⟨rfl, below_trans B1.out (below_of_keep (K5.out.trans (Keep.below B10.out)))⟩
end Go.Proofs.Ytbceacihkdmgkaa
