import Derived.Test.YtbceacihkdmgkaaCol
set_option linter.unusedVariables false
namespace Go.Proofs.Ytbceacihkdmgkaa
open Go.RowKit Mq

set_option maxRecDepth 100000 in
set_option maxHeartbeats 2000000 in
theorem walk_ComposeSome (x v : Nat) (hx : x < 65536) (hv : v < 256) (w : World) :
    Calls Try.prog 18 #[.int .u16 x, .int .u8 v] w fun e w' => e = .returned (.bool true) ∧ Below w.heap.size w w' := by
  have he : Hid (errv 0 = .nilIface) := by show _ = _; rfl
  go_enter Try.func18, Try.ntmps18
  go_wp2_with fail
  refine (awake3 w).mono ?_
  rintro e w1 ⟨rfl, hb⟩
  have B1 := Lib.hid hb; clear hb
  go_wp2_with fail
  refine (of_any w1 200 200 (by decide)).mono ?_
  rintro e w2 ⟨a, rfl, hA, hk, hle⟩
  have A2 := Lib.hid hA; have K2 := Lib.hid hk; clear hA hk hle
  go_wp2_with fail
  refine (build_any A2.out x hx (by simp)).mono ?_
  rintro e w3 ⟨ns1, f, rfl, hd, hA, hk⟩
  have A3 := Lib.hid hA; have K3 := Lib.hid (K2.out.trans hk)
  have L3 : Hid (ns1.length ≤ 17) := Lib.hid (by have := hd.few; simp at this; omega)
  have T1 := Lib.hid (Tab.of_built hx hd)
  clear hA hk hd
  go_wp2_with fail
  have ek : (v : Int) % 4 = ((v % 4 : Nat) : Int) := by omega
  have hk4 : v % 4 < 4 := Nat.mod_lt _ (by omega)
  rw [ek]
  clear ek
  generalize v % 4 = k at *
  refine (cmpSome_any A3.out f k (by omega) T1.out.lt T1.out.dep 4 0 rfl (Nat.zero_le _)).mono ?_
  rintro e w4 ⟨ns2, y, err, rfl, hA, hk, hX, hc⟩
  rcases hc with ⟨rfl, hfew, hl, hv⟩ | ⟨rfl, -, hf⟩
  rotate_left
  · have := L3.out; simp at *; omega
  have A4 := Lib.hid hA; have K4 := Lib.hid (K3.out.trans hk)
  have L4 : Hid (ns2.length ≤ 62) := Lib.hid (by have := L3.out; simp at *; omega)
  have T2 : Hid (Tab ns2 y (atN x k true ||| atN x k false)) := Lib.hid ⟨or_lt (atN_lt _ _ _) (atN_lt _ _ _), hl, fun r => by
    rw [hv]; show (_ || _) = _; rw [T1.out.ev, T1.out.ev, Nat.testBit_or, atN_bit x k hk4, atN_bit x k hk4, Bool.or_comm]⟩
  clear hA hk hX hfew hl hv
  rw [he.out]
  have c1 := atN_lt x k true
  have c2 := atN_lt x k false
  go_wp2_with fail
  · refine (table_any A4.out y T2.out.lt).mono ?_
    rintro e w5 ⟨rfl, hb⟩
    have B5 := Lib.hid hb; clear hb
    go_wp2_with fail
    refine (bits_any w5 _).mono ?_
    rintro e w6 ⟨rfl, hb⟩
    rw [T2.out.num]
    have B6 := Lib.hid (below_trans B5.out hb); clear hb
    go_wp2_with fail
    refine (at_any x k true hx hk4 w6).mono ?_
    rintro e w7 ⟨rfl, hb⟩
    have B7 := Lib.hid (below_trans B6.out hb); clear hb
    go_wp2_with fail
    refine (at_any x k false hx hk4 w7).mono ?_
    rintro e w8 ⟨rfl, hb⟩
    have B8 := Lib.hid (below_trans B7.out hb); clear hb
    have e1 := u16_or_nat _ _ c1 c2
    go_wp2_with fail
    go_ret
    exact ⟨rfl, below_trans B1.out (below_of_keep (K4.out.trans (Keep.below B8.out)))⟩
end Go.Proofs.Ytbceacihkdmgkaa
