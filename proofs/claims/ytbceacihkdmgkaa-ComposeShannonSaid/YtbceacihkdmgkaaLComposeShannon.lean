import Derived.Test.YtbceacihkdmgkaaCol
set_option linter.unusedVariables false
namespace Go.Proofs.Ytbceacihkdmgkaa
open Go.RowKit Mq

set_option maxRecDepth 100000 in
set_option maxHeartbeats 2000000 in
theorem walk_ComposeShannon (x v : Nat) (hx : x < 65536) (hv : v < 256) (w : World) :
    Calls Try.prog 14 #[.int .u16 x, .int .u8 v] w fun e w' => e = .returned (.bool true) ∧ Below w.heap.size w w' := by
  have he : Hid (errv 0 = .nilIface) := by show _ = _; rfl
  go_enter Try.func14, Try.ntmps14
  go_wp2_with fail
  refine (awake3 w).mono ?_
  rintro e w1 ⟨rfl, hb⟩
  have B1 := Lib.hid hb; clear hb
  go_wp2_with fail
  refine (of_any w1 300 300 (by decide)).mono ?_
  rintro e w2 ⟨a, rfl, hA, hk, hle⟩
  have A2 := Lib.hid hA; have K2 := Lib.hid hk; clear hA hk hle
  go_wp2_with fail
  refine (build_any A2.out x hx (by simp)).mono ?_
  rintro e w3 ⟨ns1, f, rfl, hd, hA, hk⟩
  have A3 := Lib.hid hA; have K3 := Lib.hid (K2.out.trans hk)
  have L3 : Hid (ns1.length ≤ 17) := Lib.hid (by have := hd.few; simp at this; omega)
  have T1 := Lib.hid (Tab.of_built hx hd)
  clear hA hk hd
  go_wp2_with fail
  have ek : (v : Int) % 4 = ((v % 4 : Nat) : Int) := by omega
  have hk4 : v % 4 < 4 := Nat.mod_lt _ (by omega)
  rw [ek]
  clear ek
  generalize v % 4 = k at *
  refine (rst_any A3.out f k (by omega) true T1.out.lt T1.out.dep).mono ?_
  rintro e w4 ⟨ns2, hi, err, rfl, hA, hk, hX, hc⟩
  rcases hc with ⟨rfl, hd⟩ | ⟨rfl, -, hf⟩
  rotate_left
  · have := hf.1; have := L3.out; simp at *; omega
  have A4 := Lib.hid hA; have K4 := Lib.hid (K3.out.trans hk); have D4 := Lib.hid hd; have X4 := Lib.hid hX
  have L4 : Hid (ns2.length ≤ 32) := Lib.hid (by have := hd.few; have := L3.out; simp at *; omega)
  have T2 := Lib.hid (T1.out.ext A3.out.wf hX)
  clear hA hk hX hd
  rw [he.out]
  go_wp2_with fail
  refine (rst_any A4.out f k (by omega) false T2.out.lt T2.out.dep).mono ?_
  rintro e w5 ⟨ns3, lo, err, rfl, hA, hk, hX, hc⟩
  rcases hc with ⟨rfl, hd⟩ | ⟨rfl, -, hf⟩
  rotate_left
  · have := hf.1; have := L4.out; simp at *; omega
  have A5 := Lib.hid hA; have K5 := Lib.hid (K4.out.trans hk); have D5 := Lib.hid hd
  have L5 : Hid (ns3.length ≤ 47) := Lib.hid (by have := hd.few; have := L4.out; simp at *; omega)
  have T3 := Lib.hid (T2.out.ext A4.out.wf hX)
  have H5 : Hid (Tab ns3 hi (atN x k true)) := Lib.hid ((Tab.fn D4.out (atN_lt x k true) fun r => by rw [T1.out.ev, atN_bit x k hk4]).ext A4.out.wf hX)
  have O5 : Hid (Tab ns3 lo (atN x k false)) := Lib.hid (Tab.fn D5.out (atN_lt x k false) fun r => by rw [T2.out.ev, atN_bit x k hk4])
  clear hA hk hX hd D4 D5
  rw [he.out]
  go_wp2_with fail
  have hok : okNd ns3 ⟨k, 0, 1⟩ := by
    have := A5.out.wf.two
    refine ⟨by simp; omega, by simp; omega, by simp; omega, ?_, ?_⟩
    · simp only [var, A5.out.wf.zero, no]; omega
    · simp only [var, A5.out.wf.one, yes]; omega
  have hM := mk_made (most := 300) A5.out.wf hok
  refine (variable_any A5.out k (by omega)).mono ?_
  rintro e w6 ⟨rfl, hA, hk⟩
  generalize (mk 300 ns3 ⟨k, 0, 1⟩).2.1 = c at *
  generalize (mk 300 ns3 ⟨k, 0, 1⟩).2.2 = er at *
  generalize (mk 300 ns3 ⟨k, 0, 1⟩).1 = ns4 at *
  have her : er = 0 := by
    rcases Nat.eq_zero_or_pos er with q | q
    · exact q
    · have := (hM.fail (by omega)).2.2.2; have := L5.out; omega
  subst her
  obtain ⟨g1, -, g3⟩ := hM.good rfl
  have A6 := Lib.hid hA; have K6 := Lib.hid (K5.out.trans hk)
  have L6 : Hid (ns4.length ≤ 48) := Lib.hid (by have := hM.few; have := L5.out; omega)
  have C6 : Hid (Tab ns4 c (colN k)) := Lib.hid ⟨colN_lt k, g1, fun r => by rw [g3, ev_zero, ev_one, colN_bit k hk4]; cases r k <;> rfl⟩
  have T6 := Lib.hid (T3.out.ext A5.out.wf hM.ext)
  have H6 := Lib.hid (H5.out.ext A5.out.wf hM.ext)
  have O6 := Lib.hid (O5.out.ext A5.out.wf hM.ext)
  clear hA hk hok hM g1 g3
  rw [he.out]
  go_wp2_with fail
  refine (iteOf_nat A6.out c hi lo C6.out.lt H6.out.lt O6.out.lt C6.out.dep H6.out.dep O6.out.dep 4 0 rfl (Nat.zero_le _) (Nat.zero_le _) (Nat.zero_le _)).mono ?_
  rintro e w7 ⟨ns5, y, err, rfl, hA, hk, hX, hc⟩
  rcases hc with ⟨rfl, hd⟩ | ⟨rfl, -, hf⟩
  rotate_left
  · have := hf.1; have := L6.out; simp at *; omega
  have hy : y = f := by
    have q : Tab ns5 y x := Tab.fn hd hx fun r => by
      simp only [iteF]
      rw [C6.out.ev, H6.out.ev, O6.out.ev, colN_bit k hk4, atN_bit x k hk4, atN_bit x k hk4]
      have e : ∀ b, r k = b → upd r k b = r := fun b hb => by
        funext u; unfold upd; split
        · subst_vars; rfl
        · rfl
      cases hr : r k
      · rw [e false hr]; simp
      · rw [e true hr]; simp
    exact Tab.same hd.wf q (T6.out.ext A6.out.wf hd.ext)
  subst hy
  have K7 := Lib.hid (K6.out.trans hk)
  clear hA hk hX hd
  rw [he.out]
  go_wp2_with fail
  go_ret
  exact ⟨rfl, below_trans B1.out (below_of_keep K7.out)⟩
end Go.Proofs.Ytbceacihkdmgkaa
