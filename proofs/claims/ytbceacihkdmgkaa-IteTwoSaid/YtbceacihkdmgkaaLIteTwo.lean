import Derived.Test.YtbceacihkdmgkaaAlg
set_option linter.unusedVariables false
namespace Go.Proofs.Ytbceacihkdmgkaa
open Go.RowKit Mq

set_option maxRecDepth 100000 in
theorem bitsF_any {W : World} {X : Nat → Prop} {a : Nat} {ns : List Nd} {most b k v : Nat} (h : Ar W X a ns most) (c : W.cell? ⟨b, 0, none⟩ = some (.pointer (some ⟨a, 0, none⟩))) (T : Tab ns k v) :
    Calls Try.prog 41 #[.int .i64 k, .pointer (some ⟨b, 0, none⟩)] W fun e w' => e = .returned (.int .u16 v) ∧ Below W.heap.size W w' := by
  have H := Lib.hid h
  have HT := Lib.hid T
  clear h T
  go_enter Try.func41, Try.ntmps41
  go_wp2_with fail
  refine (table_any H.out k HT.out.lt).mono ?_
  rintro e w1 ⟨rfl, hb⟩
  have B1 := Lib.hid hb; clear hb
  go_wp2_with fail
  refine (bits_any w1 _).mono ?_
  rintro e w2 ⟨rfl, hb⟩
  rw [HT.out.num]
  have B2 := Lib.hid (below_trans B1.out hb); clear hb
  go_wp2_with fail
  go_ret
  exact ⟨rfl, B2.out⟩

set_option maxRecDepth 100000 in
set_option maxHeartbeats 4000000 in
theorem walk_IteTwo (x y : Nat) (hx : x < 65536) (hy : y < 65536) (w : World) :
    Calls Try.prog 13 #[.int .u16 x, .int .u16 y] w fun e w' => e = .returned (.bool true) ∧ Below w.heap.size w w' := by
  have he : Hid (errv 0 = .nilIface) := by show _ = _; rfl
  go_enter Try.func13, Try.ntmps13
  go_wp2_with fail
  refine (awake2 w).mono ?_
  rintro e w1 ⟨rfl, hb⟩
  have B1 := Lib.hid hb; clear hb
  go_wp2_with fail
  refine (of_any w1 200 200 (by decide)).mono ?_
  rintro e w2 ⟨a, rfl, hA, hk, hle⟩
  have A2 := Lib.hid hA; have K2 := Lib.hid hk; clear hA hk hle
  go_wp2_with fail
  have hA := A2.out.alloc (.cells #[.pointer (some ⟨a, 0, none⟩)] 24)
  have hbx := heap_alloc_new w2 (.cells #[.pointer (some ⟨a, 0, none⟩)] 24)
  have hK := K2.out.alloc (.cells #[.pointer (some ⟨a, 0, none⟩)] 24)
  generalize w2.alloc (.cells #[.pointer (some ⟨a, 0, none⟩)] 24) = W at *
  generalize w2.heap.size = b at *
  have hlt := (Array.getElem?_eq_some_iff.1 hbx).1
  have c0 := (cells1 hbx).1
  have hS : ∀ w', Keep (fun k => k < w1.heap.size ∨ k = b) W w' → w'.cell? ⟨b, 0, none⟩ = some (.pointer (some ⟨a, 0, none⟩)) := fun w' hk => (hk.cell (p := ⟨b, 0, none⟩) (.inr rfl) hlt).trans c0
  have HS := Lib.hid hS
  have A2 := Lib.hid hA
  have K0 := Lib.hid hK
  clear hA hK hbx hlt c0 hS
  go_region_held3 (fun w' => w'.cell? ⟨b, 0, none⟩ = some (.pointer (some ⟨a, 0, none⟩)))
    (first | exact HS.out _ ((Keep.refl _ _).drew) | exact HS.out _ K4.out | exact HS.out _ K3.out | go_keep)
    (first
      | (go_at_call 22; refine (build_any A3.out y hy (by have := D1.out.few; simp at this; omega)).mono ?_; rintro e w4 ⟨ns2, g, rfl, hd2, hA, hk⟩; have A4 := Lib.hid hA; have D2 := Lib.hid hd2; have K4 := Lib.hid (K3.out.trans hk); clear hA hk hd2)
      | (go_at_call 22; refine (build_any (A2.out.drew) x hx (by simp)).mono ?_; rintro e w3 ⟨ns1, f, rfl, hd1, hA, hk⟩; have A3 := Lib.hid hA; have D1 := Lib.hid hd1; have K3 := Lib.hid (((Keep.refl _ _).drew).trans hk); clear hA hk hd1))
  have f1 := Lib.hid D1.out.few
  have f2 := Lib.hid D2.out.few
  have T1 := Lib.hid (Tab.ext (Tab.of_built hx D1.out) D1.out.wf D2.out.ext)
  have T2 := Lib.hid (Tab.of_built hy D2.out)
  have c4 := HS.out _ K4.out
  go_wp2_with fail
  clear c4
  refine (and_any A4.out f g T1.out.lt T2.out.lt T1.out.dep T2.out.dep).mono ?_
  rintro e w5 ⟨ns3, kand, err, rfl, hA, hk, hX, hc⟩
  rcases hc with ⟨rfl, hd⟩ | ⟨rfl, -, hf⟩
  rotate_left
  · have := hf.1; have := f1.out; have := f2.out; simp at *; omega
  have f3 := Lib.hid hd.few
  have A5 := Lib.hid hA; have K5 := Lib.hid (K4.out.trans hk); have X5 := Lib.hid hX
  have Q1 := Lib.hid (Tab.fn hd (and_lt (y := y) hx) fun r => by rw [T1.out.ev, T2.out.ev, Nat.testBit_and])
  clear hA hk hX hd
  rw [he.out]
  have T1b := Lib.hid (T1.out.ext A4.out.wf X5.out)
  have T2b := Lib.hid (T2.out.ext A4.out.wf X5.out)
  have c5 := HS.out _ K5.out
  go_wp2_with fail
  clear c5
  refine (or_any A5.out f g T1b.out.lt T2b.out.lt T1b.out.dep T2b.out.dep).mono ?_
  rintro e w6 ⟨ns4, kor, err, rfl, hA, hk, hX, hc⟩
  rcases hc with ⟨rfl, hd⟩ | ⟨rfl, -, hf⟩
  rotate_left
  · have := hf.1; have := f1.out; have := f2.out; have := f3.out; simp at *; omega
  have f4 := Lib.hid hd.few
  have A6 := Lib.hid hA; have K6 := Lib.hid (K5.out.trans hk); have X6 := Lib.hid hX
  have Q2 := Lib.hid (Tab.fn hd (or_lt hx hy) fun r => by rw [T1b.out.ev, T2b.out.ev, Nat.testBit_or])
  clear hA hk hX hd
  rw [he.out]
  have T1c := Lib.hid (T1b.out.ext A5.out.wf X6.out)
  have T2c := Lib.hid (T2b.out.ext A5.out.wf X6.out)
  have c6 := HS.out _ K6.out
  go_wp2_with fail
  clear c6
  refine (xor_any A6.out f g T1c.out.lt T2c.out.lt T1c.out.dep T2c.out.dep).mono ?_
  rintro e w7 ⟨ns5, kxor, err, rfl, hA, hk, hX, hc⟩
  rcases hc with ⟨rfl, hfew, hl, hv⟩ | ⟨rfl, -, hf⟩
  rotate_left
  · have := f1.out; have := f2.out; have := f3.out; have := f4.out; simp at *; omega
  have f5 := Lib.hid hfew
  have A7 := Lib.hid hA; have K7 := Lib.hid (K6.out.trans hk); have X7 := Lib.hid hX
  have Q3 : Hid (Tab ns5 kxor (x ^^^ y)) := Lib.hid ⟨xor_lt hx hy, hl, fun r => by rw [hv]; show (_ != _) = _; rw [T1c.out.ev, T2c.out.ev, Nat.testBit_xor]⟩
  clear hA hk hX hfew hl hv
  rw [he.out]
  have T1d := Lib.hid (T1c.out.ext A6.out.wf X7.out)
  have c7 := HS.out _ K7.out
  go_wp2_with fail
  clear c7
  refine (not_any A7.out f T1d.out.lt T1d.out.dep).mono ?_
  rintro e w8 ⟨ns6, knot, err, rfl, hA, hk, hX, hc⟩
  rcases hc with ⟨rfl, hd⟩ | ⟨rfl, -, hf⟩
  rotate_left
  · have := hf.1; have := f1.out; have := f2.out; have := f3.out; have := f4.out; have := f5.out; simp at *; omega
  have A8 := Lib.hid hA; have K8 := Lib.hid (K7.out.trans hk); have X8 := Lib.hid hX
  have Q4 := Lib.hid (Tab.fn hd (show 65535 - x < 65536 by omega) fun r => by rw [T1d.out.ev, not_bit hx _ (idx_lt16 r)])
  clear hA hk hX hd
  rw [he.out]
  have R3 := Lib.hid (Q3.out.ext A7.out.wf X8.out)
  have R2 := Lib.hid ((Q2.out.ext A6.out.wf X7.out).ext A7.out.wf X8.out)
  have R1 := Lib.hid (((Q1.out.ext A5.out.wf X6.out).ext A6.out.wf X7.out).ext A7.out.wf X8.out)
  have c8 := HS.out _ K8.out
  have e1 := u16_and_nat x y hx hy
  have e2 := u16_or_nat x y hx hy
  have e3 := u16_xor_nat x y hx hy
  have e4 := u16_not x hx
  go_wp2_with fail
  refine (bitsF_any A8.out c8 R1.out).mono ?_
  rintro e w9 ⟨rfl, hb⟩
  have B9 := Lib.hid hb; clear hb
  go_wp2_with fail
  refine (bitsF_any (A8.out.below B9.out) (HS.out _ (K8.out.trans (Keep.below B9.out))) R2.out).mono ?_
  rintro e w10 ⟨rfl, hb⟩
  have B10 := Lib.hid (below_trans B9.out hb); clear hb
  go_wp2_with fail
  refine (bitsF_any (A8.out.below B10.out) (HS.out _ (K8.out.trans (Keep.below B10.out))) R3.out).mono ?_
  rintro e w11 ⟨rfl, hb⟩
  have B11 := Lib.hid (below_trans B10.out hb); clear hb
  go_wp2_with fail
  refine (bitsF_any (A8.out.below B11.out) (HS.out _ (K8.out.trans (Keep.below B11.out))) Q4.out).mono ?_
  rintro e w12 ⟨rfl, hb⟩
  have B12 := Lib.hid (below_trans B11.out hb); clear hb
  go_wp2_with fail
  go_ret
  refine ⟨rfl, below_trans B1.out (below_of_keep ((K0.out.trans ?_).trans (Keep.below B12.out)))⟩
  exact K8.out.mono fun k hk => .inl hk
end Go.Proofs.Ytbceacihkdmgkaa
