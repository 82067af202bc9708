import Derived.Test.YtbceacihkdmgkaaDoorBx
import Derived.Test.YtbceacihkdmgkaaDoorOps
import Derived.Test.YtbceacihkdmgkaaDoorAlg
import Derived.Test.YtbceacihkdmgkaaDoorNum
set_option linter.unusedVariables false
namespace Go.Proofs.YtbceacihkdmgkaaDoor
open Go.RowKit Mq

set_option maxRecDepth 100000 in
set_option maxHeartbeats 2000000 in
theorem walk_IteFull (x y z : Nat) (w : World) (hx : x < 65536) (hy : y < 65536) (hz : z < 256) (hg : ErrG w) :
    Calls Tryd.prog 7 #[.int .u16 x, .int .u16 y, .int .u8 z] w fun e w' => e = .returned (.bool true) ∧ Below w.heap.size w w' := by
  have G := Lib.hid hg; clear hg
  obtain ⟨q1, s1⟩ := bldP_all 100 (fun i => x.testBit i) 4 0 0 [no, yes] wf_start (by omega) (by simp)
  have f1 := q1.few
  simp only [Nat.zero_add] at q1
  obtain ⟨q2, s2⟩ := bldP_all 100 (fun i => y.testBit i) 4 0 0 _ q1.wf (by omega) (by simp at f1 ⊢; omega)
  have f2 := q2.few
  simp only [Nat.zero_add] at q2
  have x2 := q2.ext
  have l1 := x2.length
  have hwf1 := q1.wf
  have T1 := Lib.hid ((Tab.of_built hx q1).ext q1.wf q2.ext)
  have T2 := Lib.hid (Tab.of_built hy q2)
  have two := q2.wf.two
  generalize h1 : bldP 100 (fun i => x.testBit i) 4 0 0 [no, yes] = P1 at *
  generalize h2 : bldP 100 (fun i => y.testBit i) 4 0 0 P1.1 = P2 at *
  obtain ⟨n1, p⟩ := P1
  obtain ⟨n2, q⟩ := P2
  simp only at *
  have hlen : n2.length ≤ 40 := by simp at f1; omega
  have S1 := Lib.hid s1
  have S2 := Lib.hid s2
  have H1 := Lib.hid h1
  have H2 := Lib.hid h2
  clear s1 s2 h1 h2 q1 q2 f1 f2 x2 hwf1
  go_enter Tryd.func7, Tryd.ntmps7
  go_wp2_with fail
  refine (awake2 w).mono ?_
  rintro e w1 ⟨rfl, hb⟩
  have B1 := Lib.hid hb; clear hb
  go_wp2_with fail
  refine (of_any w1 100 100 (by decide)).mono ?_
  rintro e w2 ⟨a, rfl, hA, hk, hle⟩
  have A2 := Lib.hid hA; have K2 := Lib.hid hk; clear hA hk hle
  go_wp2_with fail
  refine (buildX_any A2.out x hx).mono ?_
  rw [H1.out]
  rintro e w3 ⟨rfl, hA, hk⟩
  have A3 := Lib.hid hA; have K3 := Lib.hid (K2.out.trans hk); clear hA hk
  go_wp2_with fail
  refine (buildX_any A3.out y hy).mono ?_
  rw [H2.out]
  rintro e w4 ⟨rfl, hA, hk⟩
  have A4 := Lib.hid hA; have K4 := Lib.hid (K3.out.trans hk); clear hA hk
  go_wp2_with fail
  refine (len_any A4.out).mono ?_
  rintro e w5 ⟨rfl, rfl⟩
  go_wp2_with fail
  refine (of_any w4 _ (n2.length + z % 8) (by omega)).mono ?_
  rintro e w5 ⟨b, rfl, hA, hk, hle⟩
  have A5 := Lib.hid hA; have K5 := Lib.hid (K4.out.trans (hk.mono fun k hk => Nat.lt_of_lt_of_le hk K4.out.size)); clear hA hk hle
  go_wp2_with fail
  refine (buildX_any A5.out x hx).mono ?_
  rw [S1.out _ (by omega)]
  rintro e w6 ⟨rfl, hA, hk⟩
  have A6 := Lib.hid hA; have K6 := Lib.hid (K5.out.trans (hk.mono fun k hk => Nat.lt_of_lt_of_le hk K4.out.size)); clear hA hk
  go_wp2_with fail
  refine (buildX_any A6.out y hy).mono ?_
  rw [S2.out _ (by omega)]
  rintro e w7 ⟨rfl, hA, hk⟩
  have A7 := Lib.hid hA; have K7 := Lib.hid (K6.out.trans (hk.mono fun k hk => Nat.lt_of_lt_of_le hk K4.out.size)); clear hA hk
  go_wp2_with fail
  refine (xor_any A7.out p q T1.out.lt T2.out.lt T1.out.dep T2.out.dep).mono ?_
  rintro e w8 ⟨ns8, k, err, rfl, hA, hk, hX, hc⟩
  have A8 := Lib.hid hA; have K8 := Lib.hid (K7.out.trans (hk.mono fun k hk => Nat.lt_of_lt_of_le hk K4.out.size)); clear hA hk hX
  have B8 := Lib.hid (below_trans B1.out (below_of_keep K8.out))
  rcases hc with ⟨rfl, -, hl, hv⟩ | ⟨rfl, rfl, -⟩
  · have Q : Hid (Tab ns8 k (x ^^^ y)) := Lib.hid ⟨xor_lt hx hy, hl, fun r => by rw [hv]; show (_ != _) = _; rw [T1.out.ev, T2.out.ev, Nat.testBit_xor]⟩
    have he : errv 0 = .nilIface := rfl
    rw [he]
    have e3 := u16_xor_nat x y hx hy
    clear he hl hv
    go_wp2_with fail
    refine (table_any A8.out k Q.out.lt).mono ?_
    rintro e w9 ⟨rfl, hb⟩
    have B9 := Lib.hid (below_trans B8.out hb); clear hb
    go_wp2_with fail
    refine (bits_any w9 _).mono ?_
    rintro e w10 ⟨rfl, hb⟩
    rw [Q.out.num]
    have B10 := Lib.hid (below_trans B9.out hb); clear hb
    go_wp2_with fail
    go_ret
    exact ⟨ret_bool (by simp), B10.out⟩
  · have G8 := Lib.hid (G.out.below B8.out)
    have he : errv 8 = .iface 36 (.int .i64 8) := rfl
    have HN := Lib.hid (number_any 8 w8 G8.out)
    rw [he] at HN ⊢
    clear he
    go_wp2_with fail
    refine HN.out.mono ?_
    rintro e w9 ⟨rfl, hb⟩
    have B9 := Lib.hid (below_trans B8.out hb); clear hb
    go_wp2_with fail
    go_ret
    exact ⟨ret_bool (by simp), B9.out⟩
end Go.Proofs.YtbceacihkdmgkaaDoor
