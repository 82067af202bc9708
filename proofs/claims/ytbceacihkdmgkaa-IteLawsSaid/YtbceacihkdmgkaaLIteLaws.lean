import Derived.Test.YtbceacihkdmgkaaAlg
set_option linter.unusedVariables false
namespace Go.Proofs.Ytbceacihkdmgkaa
open Go.RowKit Mq

/-- What a law's own and, or, not leave: the diagram of a table of bits. -/
def TabPost (X : Nat → Prop) (a most : Nat) (W : World) (ns : List Nd) (v : Nat) (e : Ending) (W' : World) : Prop :=
  ∃ ns' k, e = .returned (.int .i64 (k : Nat)) ∧ Ar W' X a ns' most ∧ Keep X W W' ∧ Ext ns ns' ∧ Tab ns' k v ∧ ns'.length ≤ ns.length + 15 ∧ ((∃ j, Tab ns j v) → ns' = ns)
theorem TabPost.of {X : Nat → Prop} {a most : Nat} {W W' : World} {ns ns' : List Nd} {v k : Nat} {F : (Nat → Bool) → Bool} (hd : Dia ns 4 0 F ns' k) (hv : v < 65536) (hF : ∀ r, F r = v.testBit (idx 4 0 r)) (hA : Ar W' X a ns' most) (hK : Keep X W W') :
    TabPost X a most W ns v (.returned (.int .i64 (k : Nat))) W' :=
  ⟨ns', k, rfl, hA, hK, hd.ext, Tab.fn hd hv hF, by have := hd.few; simp at this; omega, fun ⟨j, T⟩ => hd.stay ⟨j, T.lt, fun r => by rw [T.ev, hF]⟩⟩
theorem no_lack {most : Nat} {ns : List Nd} {F : (Nat → Bool) → Bool} (hr : ns.length + 15 ≤ most) (h : Lack most ns 4 F) : False := by have := h.1; simp at this; omega

set_option maxRecDepth 100000 in
theorem andF {W : World} {X : Nat → Prop} {a : Nat} {ns : List Nd} {most b p q x y : Nat} (h : Ar W X a ns most) (c : W.cell? ⟨b, 0, none⟩ = some (.pointer (some ⟨a, 0, none⟩))) (T1 : Tab ns p x) (T2 : Tab ns q y) (v : Nat) (hv : x &&& y = v) (hr : ns.length + 15 ≤ most) :
    Calls Try.prog 28 #[.int .i64 p, .int .i64 q, .pointer (some ⟨b, 0, none⟩)] W (TabPost X a most W ns v) := by
  have H := Lib.hid h
  have HT1 := Lib.hid T1
  have HT2 := Lib.hid T2
  have HV := Lib.hid hv
  have HR := Lib.hid hr
  clear h T1 T2 hv hr
  go_enter Try.func28, Try.ntmps28
  go_wp2_with fail
  refine (and_any H.out p q HT1.out.lt HT2.out.lt HT1.out.dep HT2.out.dep).mono ?_
  rintro e w1 ⟨ns', k, err, rfl, hA, hK, hX, hc⟩
  rcases hc with ⟨rfl, hd⟩ | ⟨rfl, -, hf⟩
  rotate_left
  · exact (no_lack HR.out hf).elim
  have A1 := Lib.hid hA; have K1 := Lib.hid hK; have D1 := Lib.hid hd
  clear hA hK hX hd
  go_wp2_with fail
  go_ret
  exact TabPost.of D1.out (by rw [← HV.out]; exact and_lt HT1.out.b_lt) (fun r => by rw [← HV.out, HT1.out.ev, HT2.out.ev, Nat.testBit_and]) A1.out K1.out

set_option maxRecDepth 100000 in
theorem orF {W : World} {X : Nat → Prop} {a : Nat} {ns : List Nd} {most b p q x y : Nat} (h : Ar W X a ns most) (c : W.cell? ⟨b, 0, none⟩ = some (.pointer (some ⟨a, 0, none⟩))) (T1 : Tab ns p x) (T2 : Tab ns q y) (v : Nat) (hv : x ||| y = v) (hr : ns.length + 15 ≤ most) :
    Calls Try.prog 30 #[.int .i64 p, .int .i64 q, .pointer (some ⟨b, 0, none⟩)] W (TabPost X a most W ns v) := by
  have H := Lib.hid h
  have HT1 := Lib.hid T1
  have HT2 := Lib.hid T2
  have HV := Lib.hid hv
  have HR := Lib.hid hr
  clear h T1 T2 hv hr
  go_enter Try.func30, Try.ntmps30
  go_wp2_with fail
  refine (or_any H.out p q HT1.out.lt HT2.out.lt HT1.out.dep HT2.out.dep).mono ?_
  rintro e w1 ⟨ns', k, err, rfl, hA, hK, hX, hc⟩
  rcases hc with ⟨rfl, hd⟩ | ⟨rfl, -, hf⟩
  rotate_left
  · exact (no_lack HR.out hf).elim
  have A1 := Lib.hid hA; have K1 := Lib.hid hK; have D1 := Lib.hid hd
  clear hA hK hX hd
  go_wp2_with fail
  go_ret
  exact TabPost.of D1.out (by rw [← HV.out]; exact or_lt HT1.out.b_lt HT2.out.b_lt) (fun r => by rw [← HV.out, HT1.out.ev, HT2.out.ev, Nat.testBit_or]) A1.out K1.out

set_option maxRecDepth 100000 in
theorem notF {W : World} {X : Nat → Prop} {a : Nat} {ns : List Nd} {most b p x : Nat} (h : Ar W X a ns most) (c : W.cell? ⟨b, 0, none⟩ = some (.pointer (some ⟨a, 0, none⟩))) (T1 : Tab ns p x) (v : Nat) (hv : 65535 - x = v) (hr : ns.length + 15 ≤ most) :
    Calls Try.prog 32 #[.int .i64 p, .pointer (some ⟨b, 0, none⟩)] W (TabPost X a most W ns v) := by
  have H := Lib.hid h
  have HT1 := Lib.hid T1
  have HV := Lib.hid hv
  have HR := Lib.hid hr
  clear h T1  hv hr
  go_enter Try.func32, Try.ntmps32
  go_wp2_with fail
  refine (not_any H.out p HT1.out.lt HT1.out.dep).mono ?_
  rintro e w1 ⟨ns', k, err, rfl, hA, hK, hX, hc⟩
  rcases hc with ⟨rfl, hd⟩ | ⟨rfl, -, hf⟩
  rotate_left
  · exact (no_lack HR.out hf).elim
  have A1 := Lib.hid hA; have K1 := Lib.hid hK; have D1 := Lib.hid hd
  clear hA hK hX hd
  go_wp2_with fail
  go_ret
  exact TabPost.of D1.out (by rw [← HV.out]; omega) (fun r => by rw [← HV.out, HT1.out.ev, not_bit HT1.out.b_lt _ (idx_lt16 r)]) A1.out K1.out

theorem bits_eq {x y : Nat} (hx : x < 65536) (hy : y < 65536) (h : ∀ i, i < 16 → x.testBit i = y.testBit i) : x = y := by
  apply Nat.eq_of_testBit_eq
  intro i
  by_cases hi : i < 16
  · exact h i hi
  · have h2 : 2 ^ 16 ≤ 2 ^ i := Nat.pow_le_pow_right (by omega) (by omega)
    rw [Nat.testBit_lt_two_pow (Nat.lt_of_lt_of_le hx h2), Nat.testBit_lt_two_pow (Nat.lt_of_lt_of_le hy h2)]
theorem al_dist (x y z : Nat) : (x &&& y) ||| (x &&& z) = x &&& (y ||| z) := (Nat.and_or_distrib_left x y z).symm
theorem al_morgan {x y : Nat} (hx : x < 65536) (hy : y < 65536) : (65535 - x) ||| (65535 - y) = 65535 - (x &&& y) :=
  bits_eq (or_lt (by omega) (by omega)) (by omega) fun i hi => by
    rw [Nat.testBit_or, not_bit hx i hi, not_bit hy i hi, not_bit (and_lt hx) i hi, Nat.testBit_and]; cases x.testBit i <;> cases y.testBit i <;> rfl
theorem al_never {x : Nat} (hx : x < 65536) : x &&& (65535 - x) = 0 :=
  bits_eq (and_lt hx) (by omega) fun i hi => by rw [Nat.testBit_and, not_bit hx i hi, Nat.zero_testBit]; cases x.testBit i <;> rfl
theorem al_always {x : Nat} (hx : x < 65536) : x ||| (65535 - x) = 65535 :=
  bits_eq (or_lt hx (by omega)) (by omega) fun i hi => by rw [Nat.testBit_or, not_bit hx i hi, ones_bit i hi]; cases x.testBit i <;> rfl

set_option maxRecDepth 100000 in
set_option maxHeartbeats 8000000 in
theorem walk_IteLaws (x y z : Nat) (hx : x < 65536) (hy : y < 65536) (hz : z < 65536) (w : World) :
    Calls Try.prog 6 #[.int .u16 x, .int .u16 y, .int .u16 z] w fun e w' => e = .returned (.bool true) ∧ Below w.heap.size w w' := by
  go_enter Try.func6, Try.ntmps6
  go_wp2_with fail
  refine (awake2 w).mono ?_
  rintro e w1 ⟨rfl, hb⟩
  have B1 := Lib.hid hb; clear hb
  go_wp2_with fail
  refine (of_any w1 300 300 (by decide)).mono ?_
  rintro e w2 ⟨a, rfl, hA, hk, hle⟩
  have A2 := Lib.hid hA; have K2 := Lib.hid hk; clear hA hk hle
  go_wp2_with fail
  have hA := A2.out.alloc (.cells #[.pointer (some ⟨a, 0, none⟩)] 24)
  have hbx := heap_alloc_new w2 (.cells #[.pointer (some ⟨a, 0, none⟩)] 24)
  have hK := K2.out.alloc (.cells #[.pointer (some ⟨a, 0, none⟩)] 24)
  generalize w2.alloc (.cells #[.pointer (some ⟨a, 0, none⟩)] 24) = W at *
  generalize w2.heap.size = b at *
  have hlt := (Array.getElem?_eq_some_iff.1 hbx).1
  have c0 := (cells1 hbx).1
  have hS : ∀ w', Keep (fun k => k < w1.heap.size ∨ k = b) W w' → w'.cell? ⟨b, 0, none⟩ = some (.pointer (some ⟨a, 0, none⟩)) := fun w' hk => (hk.cell (p := ⟨b, 0, none⟩) (.inr rfl) hlt).trans c0
  have HS := Lib.hid hS
  have A2 := Lib.hid hA
  have K0 := Lib.hid hK
  clear hA hK hbx hlt c0 hS
  go_region_held3 (fun w' => w'.cell? ⟨b, 0, none⟩ = some (.pointer (some ⟨a, 0, none⟩)))
    (first | exact HS.out _ ((Keep.refl _ _).drew) | exact HS.out _ K5.out | exact HS.out _ K4.out | exact HS.out _ K3.out | go_keep)
    (first
      | (go_at_call 22; refine (build_any A4.out z hz (by have := D1.out.few; have := D2.out.few; simp at *; omega)).mono ?_; rintro e w5 ⟨ns3, h, rfl, hd3, hA, hk⟩; have A5 := Lib.hid hA; have D3 := Lib.hid hd3; have K5 := Lib.hid (K4.out.trans hk); clear hA hk hd3)
      | (go_at_call 22; refine (build_any A3.out y hy (by have := D1.out.few; simp at this; omega)).mono ?_; rintro e w4 ⟨ns2, g, rfl, hd2, hA, hk⟩; have A4 := Lib.hid hA; have D2 := Lib.hid hd2; have K4 := Lib.hid (K3.out.trans hk); clear hA hk hd2)
      | (go_at_call 22; refine (build_any (A2.out.drew) x hx (by simp)).mono ?_; rintro e w3 ⟨ns1, f, rfl, hd1, hA, hk⟩; have A3 := Lib.hid hA; have D1 := Lib.hid hd1; have K3 := Lib.hid (((Keep.refl _ _).drew).trans hk); clear hA hk hd1))
  have L5 : Hid (ns3.length ≤ 47) := Lib.hid (by have := D1.out.few; have := D2.out.few; have := D3.out.few; simp at *; omega)
  have T5_x := Lib.hid (Tab.ext (Tab.of_built hx D1.out) D1.out.wf (D2.out.ext.trans D3.out.ext))
  have T5_y := Lib.hid (Tab.ext (Tab.of_built hy D2.out) D2.out.wf D3.out.ext)
  have T5_z := Lib.hid (Tab.of_built hz D3.out)
  have T5_0 := Lib.hid (Tab.zero A5.out.wf)
  have T5_1 := Lib.hid (Tab.one A5.out.wf)
  clear D1 D2 D3 A2 K2 A3 A4 K3 K4
  have c5 := HS.out _ K5.out
  go_wp2_with fail
  clear c5
  refine (orF A5.out (HS.out _ K5.out) T5_y.out T5_z.out (y ||| z) (rfl) (by have := L5.out; omega)).mono ?_
  rintro e w6 ⟨ns_6, k6, rfl, hA, hk, hX, hT, hlen, hstay⟩
  have K6 := Lib.hid (K5.out.trans hk)
  have A6 := Lib.hid hA
  have L6 : Hid (ns_6.length ≤ 62) := Lib.hid (by have := L5.out; omega)
  have T6_x := Lib.hid (T5_x.out.ext A5.out.wf hX)
  have T6_y := Lib.hid (T5_y.out.ext A5.out.wf hX)
  have T6_z := Lib.hid (T5_z.out.ext A5.out.wf hX)
  have T6_0 := Lib.hid (T5_0.out.ext A5.out.wf hX)
  have T6_1 := Lib.hid (T5_1.out.ext A5.out.wf hX)
  have T6_yz := Lib.hid hT
  clear hA hk hX hT hlen hstay K5 A5 L5 T5_x T5_y T5_z T5_0 T5_1
  have c6 := HS.out _ K6.out
  go_wp2_with fail
  clear c6
  refine (andF A6.out (HS.out _ K6.out) T6_x.out T6_yz.out (x &&& (y ||| z)) (rfl) (by have := L6.out; omega)).mono ?_
  rintro e w7 ⟨ns_7, k7, rfl, hA, hk, hX, hT, hlen, hstay⟩
  have K7 := Lib.hid (K6.out.trans hk)
  have A7 := Lib.hid hA
  have L7 : Hid (ns_7.length ≤ 77) := Lib.hid (by have := L6.out; omega)
  have T7_x := Lib.hid (T6_x.out.ext A6.out.wf hX)
  have T7_y := Lib.hid (T6_y.out.ext A6.out.wf hX)
  have T7_z := Lib.hid (T6_z.out.ext A6.out.wf hX)
  have T7_0 := Lib.hid (T6_0.out.ext A6.out.wf hX)
  have T7_1 := Lib.hid (T6_1.out.ext A6.out.wf hX)
  have T7_yz := Lib.hid (T6_yz.out.ext A6.out.wf hX)
  have T7_x_yz := Lib.hid hT
  clear hA hk hX hT hlen hstay K6 A6 L6 T6_x T6_y T6_z T6_0 T6_1 T6_yz
  have c7 := HS.out _ K7.out
  go_wp2_with fail
  clear c7
  refine (andF A7.out (HS.out _ K7.out) T7_x.out T7_y.out (x &&& y) (rfl) (by have := L7.out; omega)).mono ?_
  rintro e w8 ⟨ns_8, k8, rfl, hA, hk, hX, hT, hlen, hstay⟩
  have K8 := Lib.hid (K7.out.trans hk)
  have A8 := Lib.hid hA
  have L8 : Hid (ns_8.length ≤ 92) := Lib.hid (by have := L7.out; omega)
  have T8_x := Lib.hid (T7_x.out.ext A7.out.wf hX)
  have T8_y := Lib.hid (T7_y.out.ext A7.out.wf hX)
  have T8_z := Lib.hid (T7_z.out.ext A7.out.wf hX)
  have T8_0 := Lib.hid (T7_0.out.ext A7.out.wf hX)
  have T8_1 := Lib.hid (T7_1.out.ext A7.out.wf hX)
  have T8_yz := Lib.hid (T7_yz.out.ext A7.out.wf hX)
  have T8_x_yz := Lib.hid (T7_x_yz.out.ext A7.out.wf hX)
  have T8_xy := Lib.hid hT
  clear hA hk hX hT hlen hstay K7 A7 L7 T7_x T7_y T7_z T7_0 T7_1 T7_yz T7_x_yz
  have c8 := HS.out _ K8.out
  go_wp2_with fail
  clear c8
  refine (andF A8.out (HS.out _ K8.out) T8_x.out T8_z.out (x &&& z) (rfl) (by have := L8.out; omega)).mono ?_
  rintro e w9 ⟨ns_9, k9, rfl, hA, hk, hX, hT, hlen, hstay⟩
  have K9 := Lib.hid (K8.out.trans hk)
  have A9 := Lib.hid hA
  have L9 : Hid (ns_9.length ≤ 107) := Lib.hid (by have := L8.out; omega)
  have T9_x := Lib.hid (T8_x.out.ext A8.out.wf hX)
  have T9_y := Lib.hid (T8_y.out.ext A8.out.wf hX)
  have T9_z := Lib.hid (T8_z.out.ext A8.out.wf hX)
  have T9_0 := Lib.hid (T8_0.out.ext A8.out.wf hX)
  have T9_1 := Lib.hid (T8_1.out.ext A8.out.wf hX)
  have T9_yz := Lib.hid (T8_yz.out.ext A8.out.wf hX)
  have T9_x_yz := Lib.hid (T8_x_yz.out.ext A8.out.wf hX)
  have T9_xy := Lib.hid (T8_xy.out.ext A8.out.wf hX)
  have T9_xz := Lib.hid hT
  clear hA hk hX hT hlen hstay K8 A8 L8 T8_x T8_y T8_z T8_0 T8_1 T8_yz T8_x_yz T8_xy
  have c9 := HS.out _ K9.out
  go_wp2_with fail
  clear c9
  refine (orF A9.out (HS.out _ K9.out) T9_xy.out T9_xz.out (x &&& (y ||| z)) (al_dist x y z) (by have := L9.out; omega)).mono ?_
  rintro e w10 ⟨ns_10, k10, rfl, hA, hk, hX, hT, hlen, hstay⟩
  have K10 := Lib.hid (K9.out.trans hk)
  have es := hstay ⟨_, T9_x_yz.out⟩
  subst es
  have ek := Tab.same hA.wf hT T9_x_yz.out
  subst ek
  have A10 := Lib.hid hA; have L10 := L9
  have T10_x := T9_x
  have T10_y := T9_y
  have T10_z := T9_z
  have T10_0 := T9_0
  have T10_1 := T9_1
  have T10_yz := T9_yz
  have T10_x_yz := T9_x_yz
  have T10_xy := T9_xy
  have T10_xz := T9_xz
  clear hA hk hX hT hlen hstay K9 A9 L9 T9_x T9_y T9_z T9_0 T9_1 T9_yz T9_x_yz T9_xy T9_xz
  have c10 := HS.out _ K10.out
  go_wp2_with fail
  clear c10
  refine (andF A10.out (HS.out _ K10.out) T10_x.out T10_y.out (x &&& y) (rfl) (by have := L10.out; omega)).mono ?_
  rintro e w11 ⟨ns_11, k11, rfl, hA, hk, hX, hT, hlen, hstay⟩
  have K11 := Lib.hid (K10.out.trans hk)
  have es := hstay ⟨_, T10_xy.out⟩
  subst es
  have ek := Tab.same hA.wf hT T10_xy.out
  subst ek
  have A11 := Lib.hid hA; have L11 := L10
  have T11_x := T10_x
  have T11_y := T10_y
  have T11_z := T10_z
  have T11_0 := T10_0
  have T11_1 := T10_1
  have T11_yz := T10_yz
  have T11_x_yz := T10_x_yz
  have T11_xy := T10_xy
  have T11_xz := T10_xz
  clear hA hk hX hT hlen hstay K10 A10 L10 T10_x T10_y T10_z T10_0 T10_1 T10_yz T10_x_yz T10_xy T10_xz
  have c11 := HS.out _ K11.out
  go_wp2_with fail
  clear c11
  refine (notF A11.out (HS.out _ K11.out) T11_xy.out (65535 - (x &&& y)) (rfl) (by have := L11.out; omega)).mono ?_
  rintro e w12 ⟨ns_12, k12, rfl, hA, hk, hX, hT, hlen, hstay⟩
  have K12 := Lib.hid (K11.out.trans hk)
  have A12 := Lib.hid hA
  have L12 : Hid (ns_12.length ≤ 122) := Lib.hid (by have := L11.out; omega)
  have T12_x := Lib.hid (T11_x.out.ext A11.out.wf hX)
  have T12_y := Lib.hid (T11_y.out.ext A11.out.wf hX)
  have T12_z := Lib.hid (T11_z.out.ext A11.out.wf hX)
  have T12_0 := Lib.hid (T11_0.out.ext A11.out.wf hX)
  have T12_1 := Lib.hid (T11_1.out.ext A11.out.wf hX)
  have T12_yz := Lib.hid (T11_yz.out.ext A11.out.wf hX)
  have T12_x_yz := Lib.hid (T11_x_yz.out.ext A11.out.wf hX)
  have T12_xy := Lib.hid (T11_xy.out.ext A11.out.wf hX)
  have T12_xz := Lib.hid (T11_xz.out.ext A11.out.wf hX)
  have T12_nxy := Lib.hid hT
  clear hA hk hX hT hlen hstay K11 A11 L11 T11_x T11_y T11_z T11_0 T11_1 T11_yz T11_x_yz T11_xy T11_xz
  have c12 := HS.out _ K12.out
  go_wp2_with fail
  clear c12
  refine (notF A12.out (HS.out _ K12.out) T12_x.out (65535 - x) (rfl) (by have := L12.out; omega)).mono ?_
  rintro e w13 ⟨ns_13, k13, rfl, hA, hk, hX, hT, hlen, hstay⟩
  have K13 := Lib.hid (K12.out.trans hk)
  have A13 := Lib.hid hA
  have L13 : Hid (ns_13.length ≤ 137) := Lib.hid (by have := L12.out; omega)
  have T13_x := Lib.hid (T12_x.out.ext A12.out.wf hX)
  have T13_y := Lib.hid (T12_y.out.ext A12.out.wf hX)
  have T13_z := Lib.hid (T12_z.out.ext A12.out.wf hX)
  have T13_0 := Lib.hid (T12_0.out.ext A12.out.wf hX)
  have T13_1 := Lib.hid (T12_1.out.ext A12.out.wf hX)
  have T13_yz := Lib.hid (T12_yz.out.ext A12.out.wf hX)
  have T13_x_yz := Lib.hid (T12_x_yz.out.ext A12.out.wf hX)
  have T13_xy := Lib.hid (T12_xy.out.ext A12.out.wf hX)
  have T13_xz := Lib.hid (T12_xz.out.ext A12.out.wf hX)
  have T13_nxy := Lib.hid (T12_nxy.out.ext A12.out.wf hX)
  have T13_nx := Lib.hid hT
  clear hA hk hX hT hlen hstay K12 A12 L12 T12_x T12_y T12_z T12_0 T12_1 T12_yz T12_x_yz T12_xy T12_xz T12_nxy
  have c13 := HS.out _ K13.out
  go_wp2_with fail
  clear c13
  refine (notF A13.out (HS.out _ K13.out) T13_y.out (65535 - y) (rfl) (by have := L13.out; omega)).mono ?_
  rintro e w14 ⟨ns_14, k14, rfl, hA, hk, hX, hT, hlen, hstay⟩
  have K14 := Lib.hid (K13.out.trans hk)
  have A14 := Lib.hid hA
  have L14 : Hid (ns_14.length ≤ 152) := Lib.hid (by have := L13.out; omega)
  have T14_x := Lib.hid (T13_x.out.ext A13.out.wf hX)
  have T14_y := Lib.hid (T13_y.out.ext A13.out.wf hX)
  have T14_z := Lib.hid (T13_z.out.ext A13.out.wf hX)
  have T14_0 := Lib.hid (T13_0.out.ext A13.out.wf hX)
  have T14_1 := Lib.hid (T13_1.out.ext A13.out.wf hX)
  have T14_yz := Lib.hid (T13_yz.out.ext A13.out.wf hX)
  have T14_x_yz := Lib.hid (T13_x_yz.out.ext A13.out.wf hX)
  have T14_xy := Lib.hid (T13_xy.out.ext A13.out.wf hX)
  have T14_xz := Lib.hid (T13_xz.out.ext A13.out.wf hX)
  have T14_nxy := Lib.hid (T13_nxy.out.ext A13.out.wf hX)
  have T14_nx := Lib.hid (T13_nx.out.ext A13.out.wf hX)
  have T14_ny := Lib.hid hT
  clear hA hk hX hT hlen hstay K13 A13 L13 T13_x T13_y T13_z T13_0 T13_1 T13_yz T13_x_yz T13_xy T13_xz T13_nxy T13_nx
  have c14 := HS.out _ K14.out
  go_wp2_with fail
  clear c14
  refine (orF A14.out (HS.out _ K14.out) T14_nx.out T14_ny.out (65535 - (x &&& y)) (al_morgan hx hy) (by have := L14.out; omega)).mono ?_
  rintro e w15 ⟨ns_15, k15, rfl, hA, hk, hX, hT, hlen, hstay⟩
  have K15 := Lib.hid (K14.out.trans hk)
  have es := hstay ⟨_, T14_nxy.out⟩
  subst es
  have ek := Tab.same hA.wf hT T14_nxy.out
  subst ek
  have A15 := Lib.hid hA; have L15 := L14
  have T15_x := T14_x
  have T15_y := T14_y
  have T15_z := T14_z
  have T15_0 := T14_0
  have T15_1 := T14_1
  have T15_yz := T14_yz
  have T15_x_yz := T14_x_yz
  have T15_xy := T14_xy
  have T15_xz := T14_xz
  have T15_nxy := T14_nxy
  have T15_nx := T14_nx
  have T15_ny := T14_ny
  clear hA hk hX hT hlen hstay K14 A14 L14 T14_x T14_y T14_z T14_0 T14_1 T14_yz T14_x_yz T14_xy T14_xz T14_nxy T14_nx T14_ny
  have c15 := HS.out _ K15.out
  go_wp2_with fail
  clear c15
  refine (notF A15.out (HS.out _ K15.out) T15_x.out (65535 - x) (rfl) (by have := L15.out; omega)).mono ?_
  rintro e w16 ⟨ns_16, k16, rfl, hA, hk, hX, hT, hlen, hstay⟩
  have K16 := Lib.hid (K15.out.trans hk)
  have es := hstay ⟨_, T15_nx.out⟩
  subst es
  have ek := Tab.same hA.wf hT T15_nx.out
  subst ek
  have A16 := Lib.hid hA; have L16 := L15
  have T16_x := T15_x
  have T16_y := T15_y
  have T16_z := T15_z
  have T16_0 := T15_0
  have T16_1 := T15_1
  have T16_yz := T15_yz
  have T16_x_yz := T15_x_yz
  have T16_xy := T15_xy
  have T16_xz := T15_xz
  have T16_nxy := T15_nxy
  have T16_nx := T15_nx
  have T16_ny := T15_ny
  clear hA hk hX hT hlen hstay K15 A15 L15 T15_x T15_y T15_z T15_0 T15_1 T15_yz T15_x_yz T15_xy T15_xz T15_nxy T15_nx T15_ny
  have c16 := HS.out _ K16.out
  go_wp2_with fail
  clear c16
  refine (notF A16.out (HS.out _ K16.out) T16_nx.out (x) (by omega) (by have := L16.out; omega)).mono ?_
  rintro e w17 ⟨ns_17, k17, rfl, hA, hk, hX, hT, hlen, hstay⟩
  have K17 := Lib.hid (K16.out.trans hk)
  have es := hstay ⟨_, T16_x.out⟩
  subst es
  have ek := Tab.same hA.wf hT T16_x.out
  subst ek
  have A17 := Lib.hid hA; have L17 := L16
  have T17_x := T16_x
  have T17_y := T16_y
  have T17_z := T16_z
  have T17_0 := T16_0
  have T17_1 := T16_1
  have T17_yz := T16_yz
  have T17_x_yz := T16_x_yz
  have T17_xy := T16_xy
  have T17_xz := T16_xz
  have T17_nxy := T16_nxy
  have T17_nx := T16_nx
  have T17_ny := T16_ny
  clear hA hk hX hT hlen hstay K16 A16 L16 T16_x T16_y T16_z T16_0 T16_1 T16_yz T16_x_yz T16_xy T16_xz T16_nxy T16_nx T16_ny
  have c17 := HS.out _ K17.out
  go_wp2_with fail
  clear c17
  refine (notF A17.out (HS.out _ K17.out) T17_x.out (65535 - x) (rfl) (by have := L17.out; omega)).mono ?_
  rintro e w18 ⟨ns_18, k18, rfl, hA, hk, hX, hT, hlen, hstay⟩
  have K18 := Lib.hid (K17.out.trans hk)
  have es := hstay ⟨_, T17_nx.out⟩
  subst es
  have ek := Tab.same hA.wf hT T17_nx.out
  subst ek
  have A18 := Lib.hid hA; have L18 := L17
  have T18_x := T17_x
  have T18_y := T17_y
  have T18_z := T17_z
  have T18_0 := T17_0
  have T18_1 := T17_1
  have T18_yz := T17_yz
  have T18_x_yz := T17_x_yz
  have T18_xy := T17_xy
  have T18_xz := T17_xz
  have T18_nxy := T17_nxy
  have T18_nx := T17_nx
  have T18_ny := T17_ny
  clear hA hk hX hT hlen hstay K17 A17 L17 T17_x T17_y T17_z T17_0 T17_1 T17_yz T17_x_yz T17_xy T17_xz T17_nxy T17_nx T17_ny
  have c18 := HS.out _ K18.out
  go_wp2_with fail
  clear c18
  refine (andF A18.out (HS.out _ K18.out) T18_x.out T18_nx.out (0) (al_never hx) (by have := L18.out; omega)).mono ?_
  rintro e w19 ⟨ns_19, k19, rfl, hA, hk, hX, hT, hlen, hstay⟩
  have K19 := Lib.hid (K18.out.trans hk)
  have es := hstay ⟨_, T18_0.out⟩
  subst es
  have ek := Tab.same hA.wf hT T18_0.out
  subst ek
  have A19 := Lib.hid hA; have L19 := L18
  have T19_x := T18_x
  have T19_y := T18_y
  have T19_z := T18_z
  have T19_0 := T18_0
  have T19_1 := T18_1
  have T19_yz := T18_yz
  have T19_x_yz := T18_x_yz
  have T19_xy := T18_xy
  have T19_xz := T18_xz
  have T19_nxy := T18_nxy
  have T19_nx := T18_nx
  have T19_ny := T18_ny
  clear hA hk hX hT hlen hstay K18 A18 L18 T18_x T18_y T18_z T18_0 T18_1 T18_yz T18_x_yz T18_xy T18_xz T18_nxy T18_nx T18_ny
  have c19 := HS.out _ K19.out
  go_wp2_with fail
  clear c19
  refine (notF A19.out (HS.out _ K19.out) T19_x.out (65535 - x) (rfl) (by have := L19.out; omega)).mono ?_
  rintro e w20 ⟨ns_20, k20, rfl, hA, hk, hX, hT, hlen, hstay⟩
  have K20 := Lib.hid (K19.out.trans hk)
  have es := hstay ⟨_, T19_nx.out⟩
  subst es
  have ek := Tab.same hA.wf hT T19_nx.out
  subst ek
  have A20 := Lib.hid hA; have L20 := L19
  have T20_x := T19_x
  have T20_y := T19_y
  have T20_z := T19_z
  have T20_0 := T19_0
  have T20_1 := T19_1
  have T20_yz := T19_yz
  have T20_x_yz := T19_x_yz
  have T20_xy := T19_xy
  have T20_xz := T19_xz
  have T20_nxy := T19_nxy
  have T20_nx := T19_nx
  have T20_ny := T19_ny
  clear hA hk hX hT hlen hstay K19 A19 L19 T19_x T19_y T19_z T19_0 T19_1 T19_yz T19_x_yz T19_xy T19_xz T19_nxy T19_nx T19_ny
  have c20 := HS.out _ K20.out
  go_wp2_with fail
  clear c20
  refine (orF A20.out (HS.out _ K20.out) T20_x.out T20_nx.out (65535) (al_always hx) (by have := L20.out; omega)).mono ?_
  rintro e w21 ⟨ns_21, k21, rfl, hA, hk, hX, hT, hlen, hstay⟩
  have K21 := Lib.hid (K20.out.trans hk)
  have es := hstay ⟨_, T20_1.out⟩
  subst es
  have ek := Tab.same hA.wf hT T20_1.out
  subst ek
  have A21 := Lib.hid hA; have L21 := L20
  have T21_x := T20_x
  have T21_y := T20_y
  have T21_z := T20_z
  have T21_0 := T20_0
  have T21_1 := T20_1
  have T21_yz := T20_yz
  have T21_x_yz := T20_x_yz
  have T21_xy := T20_xy
  have T21_xz := T20_xz
  have T21_nxy := T20_nxy
  have T21_nx := T20_nx
  have T21_ny := T20_ny
  clear hA hk hX hT hlen hstay K20 A20 L20 T20_x T20_y T20_z T20_0 T20_1 T20_yz T20_x_yz T20_xy T20_xz T20_nxy T20_nx T20_ny
  have c21 := HS.out _ K21.out
  go_wp2_with fail
  clear c21
  refine (andF A21.out (HS.out _ K21.out) T21_x.out T21_y.out (x &&& y) (rfl) (by have := L21.out; omega)).mono ?_
  rintro e w22 ⟨ns_22, k22, rfl, hA, hk, hX, hT, hlen, hstay⟩
  have K22 := Lib.hid (K21.out.trans hk)
  have es := hstay ⟨_, T21_xy.out⟩
  subst es
  have ek := Tab.same hA.wf hT T21_xy.out
  subst ek
  have A22 := Lib.hid hA; have L22 := L21
  have T22_x := T21_x
  have T22_y := T21_y
  have T22_z := T21_z
  have T22_0 := T21_0
  have T22_1 := T21_1
  have T22_yz := T21_yz
  have T22_x_yz := T21_x_yz
  have T22_xy := T21_xy
  have T22_xz := T21_xz
  have T22_nxy := T21_nxy
  have T22_nx := T21_nx
  have T22_ny := T21_ny
  clear hA hk hX hT hlen hstay K21 A21 L21 T21_x T21_y T21_z T21_0 T21_1 T21_yz T21_x_yz T21_xy T21_xz T21_nxy T21_nx T21_ny
  have c22 := HS.out _ K22.out
  go_wp2_with fail
  clear c22
  refine (andF A22.out (HS.out _ K22.out) T22_y.out T22_x.out (x &&& y) (Nat.and_comm y x) (by have := L22.out; omega)).mono ?_
  rintro e w23 ⟨ns_23, k23, rfl, hA, hk, hX, hT, hlen, hstay⟩
  have K23 := Lib.hid (K22.out.trans hk)
  have es := hstay ⟨_, T22_xy.out⟩
  subst es
  have ek := Tab.same hA.wf hT T22_xy.out
  subst ek
  have A23 := Lib.hid hA; have L23 := L22
  have T23_x := T22_x
  have T23_y := T22_y
  have T23_z := T22_z
  have T23_0 := T22_0
  have T23_1 := T22_1
  have T23_yz := T22_yz
  have T23_x_yz := T22_x_yz
  have T23_xy := T22_xy
  have T23_xz := T22_xz
  have T23_nxy := T22_nxy
  have T23_nx := T22_nx
  have T23_ny := T22_ny
  clear hA hk hX hT hlen hstay K22 A22 L22 T22_x T22_y T22_z T22_0 T22_1 T22_yz T22_x_yz T22_xy T22_xz T22_nxy T22_nx T22_ny
  have c23 := HS.out _ K23.out
  go_wp2_with fail
  clear c23
  go_ret
  refine ⟨rfl, below_trans B1.out (below_of_keep (K0.out.trans ?_))⟩
  exact K23.out.mono fun k hk => .inl hk
end Go.Proofs.Ytbceacihkdmgkaa
