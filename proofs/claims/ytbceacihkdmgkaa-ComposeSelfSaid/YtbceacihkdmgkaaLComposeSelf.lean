import Derived.Test.YtbceacihkdmgkaaCol
set_option linter.unusedVariables false
namespace Go.Proofs.Ytbceacihkdmgkaa
open Go.RowKit Mq

set_option maxRecDepth 100000 in
set_option maxHeartbeats 2000000 in
theorem walk_ComposeSelf (x v u : Nat) (hx : x < 65536) (hv : v < 256) (hu : u < 256) (w : World) :
    Calls Try.prog 16 #[.int .u16 x, .int .u8 v, .int .u8 u] w fun e w' => e = .returned (.bool true) ∧ Below w.heap.size w w' := by
  have he : Hid (errv 0 = .nilIface) := by show _ = _; rfl
  go_enter Try.func16, Try.ntmps16
  go_wp2_with fail
  refine (awake3 w).mono ?_
  rintro e w1 ⟨rfl, hb⟩
  have B1 := Lib.hid hb; clear hb
  go_wp2_with fail
  refine (of_any w1 300 300 (by decide)).mono ?_
  rintro e w2 ⟨a, rfl, hA, hk, hle⟩
  have A2 := Lib.hid hA; have K2 := Lib.hid hk; clear hA hk hle
  go_wp2_with fail
  refine (build_any A2.out x hx (by simp)).mono ?_
  rintro e w3 ⟨ns1, f, rfl, hd, hA, hk⟩
  have A3 := Lib.hid hA; have K3 := Lib.hid (K2.out.trans hk)
  have L3 : Hid (ns1.length ≤ 17) := Lib.hid (by have := hd.few; simp at this; omega)
  have T1 := Lib.hid (Tab.of_built hx hd)
  clear hA hk hd
  go_wp2_with fail
  have ei : (v : Int) % 4 = ((v % 4 : Nat) : Int) := by omega
  have hi4 : v % 4 < 4 := Nat.mod_lt _ (by omega)
  have ek : (u : Int) % 4 = ((u % 4 : Nat) : Int) := by omega
  have hk4 : u % 4 < 4 := Nat.mod_lt _ (by omega)
  rw [ei, ek]
  clear ei ek
  generalize v % 4 = i at *
  generalize u % 4 = k at *
  refine (column_any i hi4 w3).mono ?_
  rintro e w4 ⟨rfl, hb⟩
  have A4 := Lib.hid (A3.out.below hb); have K4 := Lib.hid (K3.out.trans (Keep.below hb)); clear hb
  have cl := colN_lt i
  go_wp2_with fail
  refine (build_any A4.out (colN i) cl (by have := L3.out; omega)).mono ?_
  rintro e w5 ⟨ns2, c, rfl, hd, hA, hk⟩
  have A5 := Lib.hid hA; have K5 := Lib.hid (K4.out.trans hk)
  have L5 : Hid (ns2.length ≤ 32) := Lib.hid (by have := hd.few; have := L3.out; simp at *; omega)
  have C5 := Lib.hid (Tab.of_built cl hd)
  have T5 := Lib.hid (T1.out.ext A4.out.wf hd.ext)
  clear hA hk hd
  go_wp2_with fail
  refine (cmpOf_any A5.out f i c (by omega) T5.out.lt T5.out.dep C5.out.lt C5.out.dep 4 0 rfl (Nat.zero_le _) (Nat.zero_le _)).mono ?_
  rintro e w6 ⟨ns6, y, err, rfl, hA, hk, hX, hc⟩
  rcases hc with ⟨rfl, hfew, hl, hev⟩ | ⟨rfl, -, hf⟩
  rotate_left
  · have := L5.out; simp at *; omega
  have hy : y = f := by
    have q : Tab ns6 y x := ⟨hx, hl, fun r => by
      rw [hev]; show (if _ then _ else _) = _
      rw [C5.out.ev, T5.out.ev, T5.out.ev, colN_bit i hi4]
      have e : ∀ b, r i = b → upd r i b = r := fun b hb => by
        funext u; unfold upd; split
        · subst_vars; rfl
        · rfl
      cases hr : r i
      · rw [e false hr]; simp
      · rw [e true hr]; simp⟩
    exact Tab.same hA.wf q (T5.out.ext A5.out.wf hX)
  subst hy
  have A6 := Lib.hid hA; have K6 := Lib.hid (K5.out.trans hk)
  have L6 : Hid (ns6.length ≤ 77) := Lib.hid (by have := L5.out; simp at *; omega)
  have T_y := Lib.hid (T5.out.ext A5.out.wf hX)
  clear hA hk hX hfew hl hev
  rw [he.out]
  go_wp2_with fail
  refine (rst_any A6.out y i (by omega) true T_y.out.lt T_y.out.dep).mono ?_
  rintro e w7 ⟨ns7, p1, err, rfl, hA, hk, hX, hc⟩
  rcases hc with ⟨rfl, hd⟩ | ⟨rfl, -, hf⟩
  rotate_left
  · have := hf.1; have := L6.out; simp at *; omega
  have A7 := Lib.hid hA; have K7 := Lib.hid (K6.out.trans hk)
  have L7 : Hid (ns7.length ≤ 92) := Lib.hid (by have := hd.few; have := L6.out; simp at *; omega)
  have T_p1 : Hid (Tab ns7 p1 (atN x i true)) := Lib.hid (Tab.fn hd (atN_lt _ _ _) fun r => (T_y.out.ev _).trans (atN_bit _ _ (by omega) _ r).symm)
  have T_y := Lib.hid (T_y.out.ext A6.out.wf hX)
  clear hA hk hX hd
  rw [he.out]
  go_wp2_with fail
  refine (rst_any A7.out p1 k (by omega) false T_p1.out.lt T_p1.out.dep).mono ?_
  rintro e w8 ⟨ns8, p2, err, rfl, hA, hk, hX, hc⟩
  rcases hc with ⟨rfl, hd⟩ | ⟨rfl, -, hf⟩
  rotate_left
  · have := hf.1; have := L7.out; simp at *; omega
  have A8 := Lib.hid hA; have K8 := Lib.hid (K7.out.trans hk)
  have L8 : Hid (ns8.length ≤ 107) := Lib.hid (by have := hd.few; have := L7.out; simp at *; omega)
  have T_p2 : Hid (Tab ns8 p2 (atN (atN x i true) k false)) := Lib.hid (Tab.fn hd (atN_lt _ _ _) fun r => (T_p1.out.ev _).trans (atN_bit _ _ (by omega) _ r).symm)
  have T_y := Lib.hid (T_y.out.ext A7.out.wf hX)
  clear hA hk hX hd
  rw [he.out]
  go_wp2_with fail
  refine (rst_any A8.out y k (by omega) false T_y.out.lt T_y.out.dep).mono ?_
  rintro e w9 ⟨ns9, q1, err, rfl, hA, hk, hX, hc⟩
  rcases hc with ⟨rfl, hd⟩ | ⟨rfl, -, hf⟩
  rotate_left
  · have := hf.1; have := L8.out; simp at *; omega
  have A9 := Lib.hid hA; have K9 := Lib.hid (K8.out.trans hk)
  have L9 : Hid (ns9.length ≤ 122) := Lib.hid (by have := hd.few; have := L8.out; simp at *; omega)
  have T_q1 : Hid (Tab ns9 q1 (atN x k false)) := Lib.hid (Tab.fn hd (atN_lt _ _ _) fun r => (T_y.out.ev _).trans (atN_bit _ _ (by omega) _ r).symm)
  have T_y := Lib.hid (T_y.out.ext A8.out.wf hX)
  have T_p2 := Lib.hid (T_p2.out.ext A8.out.wf hX)
  clear hA hk hX hd
  rw [he.out]
  go_wp2_with fail
  refine (rst_any A9.out q1 i (by omega) true T_q1.out.lt T_q1.out.dep).mono ?_
  rintro e w10 ⟨ns10, q2, err, rfl, hA, hk, hX, hc⟩
  rcases hc with ⟨rfl, hd⟩ | ⟨rfl, -, hf⟩
  rotate_left
  · have := hf.1; have := L9.out; simp at *; omega
  have A10 := Lib.hid hA; have K10 := Lib.hid (K9.out.trans hk)
  have L10 : Hid (ns10.length ≤ 137) := Lib.hid (by have := hd.few; have := L9.out; simp at *; omega)
  have T_q2 : Hid (Tab ns10 q2 (atN (atN x k false) i true)) := Lib.hid (Tab.fn hd (atN_lt _ _ _) fun r => (T_q1.out.ev _).trans (atN_bit _ _ (by omega) _ r).symm)
  have T_y := Lib.hid (T_y.out.ext A9.out.wf hX)
  have T_p2 := Lib.hid (T_p2.out.ext A9.out.wf hX)
  clear hA hk hX hd
  rw [he.out]
  by_cases hik : i = k
  · subst hik
    go_wp2_with fail
    go_ret
    exact ⟨rfl, below_trans B1.out (below_of_keep K10.out)⟩
  · have hpq : p2 = q2 := by
      refine canon A10.out.wf T_p2.out.lt T_q2.out.lt fun r => ?_
      rw [T_p2.out.ev, T_q2.out.ev, atN_bit _ _ hk4, atN_bit _ _ hi4, atN_bit _ _ hi4, atN_bit _ _ hk4]
      congr 2
      funext z
      unfold upd
      by_cases h1 : z = i
      · subst h1; simp [hik]
      · by_cases h2 : z = k
        · subst h2; simp [h1]
        · simp [h1, h2]
    subst hpq
    have hik' : ((i : Int) == (k : Int)) = false := by rw [beq_eq_false_iff_ne]; omega
    go_wp2_with fail
    go_ret
    exact ⟨rfl, below_trans B1.out (below_of_keep K10.out)⟩
end Go.Proofs.Ytbceacihkdmgkaa
