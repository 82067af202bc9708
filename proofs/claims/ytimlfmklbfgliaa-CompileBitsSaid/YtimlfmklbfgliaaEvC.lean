import Derived.Test.YtimlfmklbfgliaaEvalW
set_option linter.unusedVariables false
namespace Go.Proofs.Ytimlfmklbfgliaa
open Go.RowKit Mq

set_option maxRecDepth 100000 in
set_option maxHeartbeats 1000000 in
theorem eval_CTake {w : World} {X : Nat → Prop} {a : Nat} {ns : List Nd} {most : Nat} (h : Ar w X a ns most) (k : Nat) (hk : k < ns.length) (q1 : Value) (r : Nat → Bool)
    (hf : ∀ (W : World) (v : Nat), Below w.heap.size w W → v < 1024 → Calls Try.prog 25 #[.int .i64 v, q1] W fun e W' => e = .returned (.bool (r v)) ∧ Below W.heap.size W W') :
    Calls Try.prog 14 #[.pointer (some ⟨a, 0, none⟩), .int .i64 k, .func (.func 25) #[] #[q1]] w fun e w' => e = .returned (.bool (ev ns r k)) ∧ Below w.heap.size w w' := by
  have H := Lib.hid h
  have HF := Lib.hid hf
  clear hf
  have hlt := h.lt
  clear h
  have hgi : Hid (geti ns (k : Int) = nd ns k) := geti_nat ns k
  go_enter Try.func14, Try.ntmps14
  go_wp2_with (go_at_call 22; refine (get_any H.out _).mono ?_; rintro e w1 ⟨rfl, hb1⟩; rw [hgi.out]; unfold ndv)
  go_loopw [1, 7] (fun k' n wr => EvRel w a ns most r k k' n wr) (fun k' _ _ => (intOf k').toNat)
  case atStart =>
    refine ⟨k, w1.heap.size, rfl, rfl, hk, rfl, hb1.trans ((Below.refl _ _).alloc hb1.size _), ?_, hb1.size⟩
    exact heap_alloc_new w1 _
  case round =>
    obtain ⟨kk, b, rfl, rfl, hkk, hev, hbw, hbox, hbl⟩ := hrel
    obtain ⟨c0, c1', c2, -, -, -⟩ := cells3 hbox
    have hbs := (Array.getElem?_eq_some_iff.1 hbox).1
    clear hbox
    have hwf := Lib.hid H.out.wf
    by_cases h2 : kk < 2
    · have HE : Hid (ev ns r k = (((nd ns kk).lo : Int) == 1)) := by
        rw [← hev]
        have h01 : kk = 0 ∨ kk = 1 := by omega
        rcases h01 with rfl | rfl
        · rw [hwf.out.zero, ev_zero]; rfl
        · rw [hwf.out.one, ev_one]; rfl
      have hv : (nd ns kk).v = 1024 := (var_last hwf.out hkk).2 h2
      rw [hv] at c0
      have HH := Lib.hid hv
      clear hev hv
      generalize ((nd ns kk).lo : Int) = lo at *
      go_wp2_with fail
      go_ret
      exact ⟨ret_bool HE.out.symm, hbw⟩
    · obtain ⟨i1, i2, i3, -, -, -⟩ := hwf.out.inner kk (by omega) hkk
      have hne : (((nd ns kk).v : Int) == 1024) = false := by rw [beq_eq_false_iff_ne]; omega
      have he0 : ev ns r k = if r (nd ns kk).v then ev ns r (nd ns kk).hi else ev ns r (nd ns kk).lo := by rw [← hev, ev_node hwf.out r (by omega) hkk]
      have HE := Lib.hid he0
      clear he0
      clear hev
      have hgl : Hid (geti ns ((nd ns kk).lo : Int) = nd ns (nd ns kk).lo) := geti_nat _ _
      have hgh : Hid (geti ns ((nd ns kk).hi : Int) = nd ns (nd ns kk).hi) := geti_nat _ _
      generalize (nd ns kk).lo = lo at *
      generalize (nd ns kk).hi = hi at *
      generalize (nd ns kk).v = v at *
      cases hr : r v
      · have HR := Lib.hid hr
        have he2 : ev ns r k = ev ns r lo := HE.out.trans (by simp [hr])
        have HE2 := Lib.hid he2
        clear he2
        clear hr HE
        go_wp2_with (first | (go_at_call 25; refine (HF.out wr v hbw i1).mono ?_; rintro e w2 ⟨rfl, hb2⟩; rw [HR.out]; have d0 := (hb2.cell (p := ⟨b, 0, none⟩) hbs).trans c0; have d1 := (hb2.cell (p := ⟨b, 1, none⟩) hbs).trans c1'; have d2 := (hb2.cell (p := ⟨b, 2, none⟩) hbs).trans c2) | (go_at_call 22; refine (get_any (H.out.below (below_alloc (below_trans hbw hb2) _)) _).mono ?_; rintro e w3 ⟨rfl, hb3⟩; rw [hgl.out]; unfold ndv; obtain ⟨g0, g1, g2, f0, f1, f2⟩ := cells3 (blk_new hb3)))
        go_roundw
        case rel => exact ⟨lo, _, rfl, rfl, by omega, HE2.out.symm, below_set3 (below_trans (below_alloc (below_trans hbw hb2) _) hb3) (Nat.le_trans hbw.size hb2.size), set3 (blk_new hb3) _ _ _, Nat.le_trans hbw.size hb2.size⟩
        case measure => simp [intOf] <;> omega
      · have HR := Lib.hid hr
        have he2 : ev ns r k = ev ns r hi := HE.out.trans (by simp [hr])
        have HE2 := Lib.hid he2
        clear he2
        clear hr HE
        go_wp2_with (first | (go_at_call 25; refine (HF.out wr v hbw i1).mono ?_; rintro e w2 ⟨rfl, hb2⟩; rw [HR.out]; have d0 := (hb2.cell (p := ⟨b, 0, none⟩) hbs).trans c0; have d1 := (hb2.cell (p := ⟨b, 1, none⟩) hbs).trans c1'; have d2 := (hb2.cell (p := ⟨b, 2, none⟩) hbs).trans c2) | (go_at_call 22; refine (get_any (H.out.below (below_alloc (below_trans hbw hb2) _)) _).mono ?_; rintro e w3 ⟨rfl, hb3⟩; rw [hgh.out]; unfold ndv; obtain ⟨g0, g1, g2, f0, f1, f2⟩ := cells3 (blk_new hb3)))
        go_roundw
        case rel => exact ⟨hi, _, rfl, rfl, by omega, HE2.out.symm, below_set3 (below_trans (below_alloc (below_trans hbw hb2) _) hb3) (Nat.le_trans hbw.size hb2.size), set3 (blk_new hb3) _ _ _, Nat.le_trans hbw.size hb2.size⟩
        case measure => simp [intOf] <;> omega

end Go.Proofs.Ytimlfmklbfgliaa
