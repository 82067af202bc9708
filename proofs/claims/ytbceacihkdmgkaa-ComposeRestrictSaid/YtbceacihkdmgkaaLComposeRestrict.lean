import Derived.Test.YtbceacihkdmgkaaCol
set_option linter.unusedVariables false
namespace Go.Proofs.Ytbceacihkdmgkaa
open Go.RowKit Mq

theorem at_tab {ns ns' : List Nd} {f k x v : Nat} {b : Bool} (T : Tab ns f x) (hv : v < 4) (hk : k < ns'.length) (e : ∀ r, ev ns' r k = ev ns (upd r v b) f) : Tab ns' k (atN x v b) :=
  ⟨atN_lt x v b, hk, fun r => by rw [e, T.ev, atN_bit x v hv]⟩
theorem past_tab {ns ns' : List Nd} {f k x v : Nat} {b : Bool} (T : Tab ns f x) (hv : 4 ≤ v) (hk : k < ns'.length) (e : ∀ r, ev ns' r k = ev ns (upd r v b) f) : Tab ns' k x :=
  ⟨T.b_lt, hk, fun r => by rw [e, T.dep (upd r v b) r (fun u hu => upd_other r b (by omega)), T.ev]⟩

set_option maxRecDepth 100000 in
set_option maxHeartbeats 2000000 in
theorem walk_ComposeRestrict (x v : Nat) (one : Bool) (hx : x < 65536) (hv : v < 256) (w : World) :
    Calls Try.prog 17 #[.int .u16 x, .int .u8 v, .bool one] w fun e w' => e = .returned (.bool true) ∧ Below w.heap.size w w' := by
  have he : Hid (errv 0 = .nilIface) := by show _ = _; rfl
  go_enter Try.func17, Try.ntmps17
  go_wp2_with fail
  refine (awake3 w).mono ?_
  rintro e w1 ⟨rfl, hb⟩
  have B1 := Lib.hid hb; clear hb
  go_wp2_with fail
  refine (of_any w1 200 200 (by decide)).mono ?_
  rintro e w2 ⟨a, rfl, hA, hk, hle⟩
  have A2 := Lib.hid hA; have K2 := Lib.hid hk; clear hA hk hle
  go_wp2_with fail
  refine (build_any A2.out x hx (by simp)).mono ?_
  rintro e w3 ⟨ns1, f, rfl, hd, hA, hk⟩
  have A3 := Lib.hid hA; have K3 := Lib.hid (K2.out.trans hk)
  have L3 : Hid (ns1.length ≤ 17) := Lib.hid (by have := hd.few; simp at this; omega)
  have T1 := Lib.hid (Tab.of_built hx hd)
  clear hA hk hd
  go_wp2_with fail
  have ek : (v : Int) % 6 = ((v % 6 : Nat) : Int) := by omega
  have hk : v % 6 < 6 := Nat.mod_lt _ (by omega)
  rw [ek]
  clear ek
  generalize v % 6 = k at *
  refine (rst_any A3.out f k (by omega) one T1.out.lt T1.out.dep).mono ?_
  rintro e w4 ⟨ns2, y, err, rfl, hA, hk, hX, hc⟩
  rcases hc with ⟨rfl, hd⟩ | ⟨rfl, -, hf⟩
  rotate_left
  · have := hf.1; have := L3.out; simp at *; omega
  have A4 := Lib.hid hA; have K4 := Lib.hid (K3.out.trans hk); have D4 := Lib.hid hd
  have L4 : Hid (ns2.length ≤ 32) := Lib.hid (by have := hd.few; have := L3.out; simp at *; omega)
  clear hA hk hX hd
  rw [he.out]
  by_cases h4 : k < 4
  · have T2 := Lib.hid (at_tab T1.out h4 D4.out.lt D4.out.ev)
    go_wp2_with fail
    refine (at_any x k one hx h4 w4).mono ?_
    rintro e w5 ⟨rfl, hb⟩
    have B5 := Lib.hid hb; clear hb
    generalize atN x k one = b at *
    go_wp2_with fail
    refine (table_any (A4.out.below B5.out) y T2.out.lt).mono ?_
    rintro e wt ⟨rfl, hb⟩
    have Bt := Lib.hid (below_trans B5.out hb); clear hb
    go_wp2_with fail
    refine (bits_any wt _).mono ?_
    rintro e wb ⟨rfl, hb⟩
    rw [T2.out.num]
    have Bb := Lib.hid (below_trans Bt.out hb); clear hb
    go_wp2_with fail
    refine (build_any (A4.out.below Bb.out) b T2.out.b_lt (by have := L4.out; omega)).mono ?_
    rintro e wj ⟨ns5, j, rfl, hd, hA, hk⟩
    have e : y = j := Tab.same hd.wf (T2.out.ext A4.out.wf hd.ext) (Tab.of_built T2.out.b_lt hd)
    subst e
    have Kj := Lib.hid ((K4.out.trans (Keep.below Bb.out)).trans hk); clear hA hk hd
    go_wp2_with fail
    go_ret
    exact ⟨rfl, below_trans B1.out (below_of_keep Kj.out)⟩
  · have T2 := Lib.hid (past_tab T1.out (by omega) D4.out.lt D4.out.ev)
    go_wp2_with fail
    refine (table_any A4.out y T2.out.lt).mono ?_
    rintro e wt ⟨rfl, hb⟩
    have Bt := Lib.hid hb; clear hb
    go_wp2_with fail
    refine (bits_any wt _).mono ?_
    rintro e wb ⟨rfl, hb⟩
    rw [T2.out.num]
    have Bb := Lib.hid (below_trans Bt.out hb); clear hb
    go_wp2_with fail
    refine (build_any (A4.out.below Bb.out) x T2.out.b_lt (by have := L4.out; omega)).mono ?_
    rintro e wj ⟨ns5, j, rfl, hd, hA, hk⟩
    have e : y = j := Tab.same hd.wf (T2.out.ext A4.out.wf hd.ext) (Tab.of_built T2.out.b_lt hd)
    subst e
    have Kj := Lib.hid ((K4.out.trans (Keep.below Bb.out)).trans hk); clear hA hk hd
    go_wp2_with fail
    go_ret
    exact ⟨rfl, below_trans B1.out (below_of_keep Kj.out)⟩
end Go.Proofs.Ytbceacihkdmgkaa
