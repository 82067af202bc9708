import Derived.Test.YtbceacihkdmgkaaIteC
set_option linter.unusedVariables false
namespace Go.Proofs.Ytbceacihkdmgkaa
open Go.RowKit Mq

theorem dep_zero (ns : List Nd) : Dep 4 ns 0 := fun r s _ => by rw [ev_zero, ev_zero]
theorem dep_one (ns : List Nd) : Dep 4 ns 1 := fun r s _ => by rw [ev_one, ev_one]
theorem fit_zero {ns : List Nd} (W : WF ns) : fit ns 0 = 0 := by have := W.two; unfold fit; rw [if_pos (by omega)]; rfl
theorem fit_one {ns : List Nd} (W : WF ns) : fit ns 1 = 1 := by have := W.two; unfold fit; rw [if_pos (by omega)]; rfl
theorem var_zero {ns : List Nd} (W : WF ns) {v : Nat} (hv : v ≤ 1024) : v ≤ var ns 0 := by rw [(var_last W (by have := W.two; omega)).2 (by omega)]; exact hv
theorem var_one {ns : List Nd} (W : WF ns) {v : Nat} (hv : v ≤ 1024) : v ≤ var ns 1 := by rw [(var_last W (by have := W.two; omega)).2 (by omega)]; exact hv
theorem OpPost.congr {X : Nat → Prop} {a most : Nat} {W : World} {ns : List Nd} {n v : Nat} {F G : (Nat → Bool) → Bool} {e : Ending} {W' : World} (h : OpPost X a most W ns n v F e W') (q : ∀ r, F r = G r) : OpPost X a most W ns n v G e W' := by
  have : F = G := funext q
  subst this; exact h
section
variable {w : World} {X : Nat → Prop} {a : Nat} {ns : List Nd} {most : Nat}
/-- ite.Of, of diagrams that are there. -/
theorem iteOf_nat (h : Ar w X a ns most) (f g i : Nat) (hf : f < ns.length) (hg : g < ns.length) (hi : i < ns.length) (df : Dep 4 ns f) (dg : Dep 4 ns g) (di : Dep 4 ns i)
    (n v : Nat) (hn : v + n = 4) (vf : v ≤ var ns f) (vg : v ≤ var ns g) (vi : v ≤ var ns i) :
    Calls Try.prog 35 #[.pointer (some ⟨a, 0, none⟩), .int .i64 f, .int .i64 g, .int .i64 i] w (OpPost X a most w ns n v (iteF ns f g i)) := by
  have := iteOf_any h (f : Int) (g : Int) (i : Int) (by rw [fit_nat _ _ hf]; exact df) (by rw [fit_nat _ _ hg]; exact dg) (by rw [fit_nat _ _ hi]; exact di) n v hn (by rw [fit_nat _ _ hf]; exact vf) (by rw [fit_nat _ _ hg]; exact vg) (by rw [fit_nat _ _ hi]; exact vi)
  rw [fit_nat _ _ hf, fit_nat _ _ hg, fit_nat _ _ hi] at this
  exact this
set_option maxRecDepth 100000 in
theorem not_at (h : Ar w X a ns most) (f : Nat) (hf : f < ns.length) (df : Dep 4 ns f) (n v : Nat) (hn : v + n = 4) (vf : v ≤ var ns f) :
    Calls Try.prog 33 #[.pointer (some ⟨a, 0, none⟩), .int .i64 f] w (OpPost X a most w ns n v (fun r => !ev ns r f)) := by
  have h2 := h.wf.two
  have HC := Lib.hid (iteOf_nat h f 0 1 hf (by omega) (by omega) df (dep_zero _) (dep_one _) n v hn vf (var_zero h.wf (by omega)) (var_one h.wf (by omega)))
  have hF : Hid (∀ r, iteF ns f 0 1 r = !ev ns r f) := fun r => by simp only [iteF, ev_zero, ev_one]; cases ev ns r f <;> rfl
  clear h df h2
  go_enter Try.func33, Try.ntmps33
  go_wp2_with fail
  refine HC.out.mono ?_
  rintro e w1 ⟨ns', k, err, rfl, hA, hK, hX, hc⟩
  have P := Lib.hid (And.intro hA (And.intro hK (And.intro hX hc)))
  clear hA hK hX hc
  go_wp2_with fail
  go_ret2
  exact OpPost.congr ⟨ns', k, err, rfl, P.out.1, P.out.2.1, P.out.2.2.1, P.out.2.2.2⟩ hF.out
set_option maxRecDepth 100000 in
theorem and_at (h : Ar w X a ns most) (f g : Nat) (hf : f < ns.length) (hg : g < ns.length) (df : Dep 4 ns f) (dg : Dep 4 ns g) (n v : Nat) (hn : v + n = 4) (vf : v ≤ var ns f) (vg : v ≤ var ns g) :
    Calls Try.prog 29 #[.pointer (some ⟨a, 0, none⟩), .int .i64 f, .int .i64 g] w (OpPost X a most w ns n v (fun r => ev ns r f && ev ns r g)) := by
  have h2 := h.wf.two
  have HC := Lib.hid (iteOf_nat h f g 0 hf hg (by omega) df dg (dep_zero _) n v hn vf vg (var_zero h.wf (by omega)))
  have hF : Hid (∀ r, iteF ns f g 0 r = (ev ns r f && ev ns r g)) := fun r => by simp only [iteF, ev_zero]; cases ev ns r f <;> simp
  clear h df dg h2
  go_enter Try.func29, Try.ntmps29
  go_wp2_with fail
  refine HC.out.mono ?_
  rintro e w1 ⟨ns', k, err, rfl, hA, hK, hX, hc⟩
  have P := Lib.hid (And.intro hA (And.intro hK (And.intro hX hc)))
  clear hA hK hX hc
  go_wp2_with fail
  go_ret2
  exact OpPost.congr ⟨ns', k, err, rfl, P.out.1, P.out.2.1, P.out.2.2.1, P.out.2.2.2⟩ hF.out
set_option maxRecDepth 100000 in
theorem or_at (h : Ar w X a ns most) (f g : Nat) (hf : f < ns.length) (hg : g < ns.length) (df : Dep 4 ns f) (dg : Dep 4 ns g) (n v : Nat) (hn : v + n = 4) (vf : v ≤ var ns f) (vg : v ≤ var ns g) :
    Calls Try.prog 31 #[.pointer (some ⟨a, 0, none⟩), .int .i64 f, .int .i64 g] w (OpPost X a most w ns n v (fun r => ev ns r f || ev ns r g)) := by
  have h2 := h.wf.two
  have HC := Lib.hid (iteOf_nat h f 1 g hf (by omega) hg df (dep_one _) dg n v hn vf (var_one h.wf (by omega)) vg)
  have hF : Hid (∀ r, iteF ns f 1 g r = (ev ns r f || ev ns r g)) := fun r => by simp only [iteF, ev_one]; cases ev ns r f <;> simp
  clear h df dg h2
  go_enter Try.func31, Try.ntmps31
  go_wp2_with fail
  refine HC.out.mono ?_
  rintro e w1 ⟨ns', k, err, rfl, hA, hK, hX, hc⟩
  have P := Lib.hid (And.intro hA (And.intro hK (And.intro hX hc)))
  clear hA hK hX hc
  go_wp2_with fail
  go_ret2
  exact OpPost.congr ⟨ns', k, err, rfl, P.out.1, P.out.2.1, P.out.2.2.1, P.out.2.2.2⟩ hF.out

theorem not_any (h : Ar w X a ns most) (f : Nat) (hf : f < ns.length) (df : Dep 4 ns f) :
    Calls Try.prog 33 #[.pointer (some ⟨a, 0, none⟩), .int .i64 f] w (OpPost X a most w ns 4 0 (fun r => !ev ns r f)) := not_at h f hf df 4 0 rfl (Nat.zero_le _)
theorem and_any (h : Ar w X a ns most) (f g : Nat) (hf : f < ns.length) (hg : g < ns.length) (df : Dep 4 ns f) (dg : Dep 4 ns g) :
    Calls Try.prog 29 #[.pointer (some ⟨a, 0, none⟩), .int .i64 f, .int .i64 g] w (OpPost X a most w ns 4 0 (fun r => ev ns r f && ev ns r g)) := and_at h f g hf hg df dg 4 0 rfl (Nat.zero_le _) (Nat.zero_le _)
theorem or_any (h : Ar w X a ns most) (f g : Nat) (hf : f < ns.length) (hg : g < ns.length) (df : Dep 4 ns f) (dg : Dep 4 ns g) :
    Calls Try.prog 31 #[.pointer (some ⟨a, 0, none⟩), .int .i64 f, .int .i64 g] w (OpPost X a most w ns 4 0 (fun r => ev ns r f || ev ns r g)) := or_at h f g hf hg df dg 4 0 rfl (Nat.zero_le _) (Nat.zero_le _)

/-- What Xor leaves (its two steps each cost fewer than sixteen nodes). -/
def XorPost (X : Nat → Prop) (a most : Nat) (W : World) (ns : List Nd) (F : (Nat → Bool) → Bool) (e : Ending) (W' : World) : Prop :=
  ∃ ns' k err, e = .returned (.tuple #[.int .i64 (k : Nat), errv err]) ∧ Ar W' X a ns' most ∧ Keep X W W' ∧ Ext ns ns' ∧
    ((err = 0 ∧ ns'.length ≤ ns.length + 30 ∧ k < ns'.length ∧ ∀ r, ev ns' r k = F r) ∨ (err = 8 ∧ k = 0 ∧ most < ns.length + 30))
set_option maxRecDepth 100000 in
theorem xor_any (h : Ar w X a ns most) (f g : Nat) (hf : f < ns.length) (hg : g < ns.length) (df : Dep 4 ns f) (dg : Dep 4 ns g) :
    Calls Try.prog 34 #[.pointer (some ⟨a, 0, none⟩), .int .i64 f, .int .i64 g] w (XorPost X a most w ns (fun r => ev ns r f != ev ns r g)) := by
  have H := Lib.hid h
  have DF := Lib.hid df
  have DG := Lib.hid dg
  have HF := Lib.hid hf
  have HG := Lib.hid hg
  clear h df dg hf hg
  go_enter Try.func34, Try.ntmps34
  go_wp2_with fail
  refine (not_any H.out g HG.out DG.out).mono ?_
  rintro e w1 ⟨ns1, n, err, rfl, hA, hK, hX, hc⟩
  rcases hc with ⟨rfl, hd⟩ | ⟨rfl, rfl, hfull⟩
  · have he : errv 0 = .nilIface := rfl
    rw [he]
    clear he
    have A1 := Lib.hid hA
    have K1 := Lib.hid hK
    have X1 := Lib.hid hX
    have D1 := Lib.hid hd
    clear hA hK hX hd
    have W0 := Lib.hid H.out.wf
    go_wp2_with fail
    have l1 := X1.out.length
    refine (iteOf_nat A1.out f n g (by have := HF.out; omega) D1.out.lt (by have := HG.out; omega) (DF.out.ext W0.out HF.out X1.out)
      (Dep.of_fun D1.out.ev fun r s q => by rw [DG.out r s q]) (DG.out.ext W0.out HG.out X1.out) 4 0 rfl (Nat.zero_le _) (Nat.zero_le _) (Nat.zero_le _)).mono ?_
    rintro e w2 ⟨ns2, k, err, rfl, hA, hK, hX, hc⟩
    have P := Lib.hid (And.intro hA (And.intro (K1.out.trans hK) (And.intro (X1.out.trans hX) hc)))
    clear hA hK hX hc
    go_wp2_with fail
    go_ret2
    refine ⟨ns2, k, err, rfl, P.out.1, P.out.2.1, P.out.2.2.1, ?_⟩
    have f1 := D1.out.few
    rcases P.out.2.2.2 with ⟨q1, q2⟩ | ⟨q1, q2, q3⟩
    · refine .inl ⟨q1, by have := q2.few; omega, q2.lt, fun r => ?_⟩
      rw [q2.ev]
      simp only [iteF]
      rw [X1.out.ev W0.out r f HF.out, D1.out.ev, X1.out.ev W0.out r g HG.out]
      cases Mq.ev ns r f <;> cases Mq.ev ns r g <;> rfl
    · exact .inr ⟨q1, q2, by have := q3.1; omega⟩
  · have he : errv 8 = .iface 79 (.int .i64 8) := rfl
    rw [he]
    clear he
    have A1 := Lib.hid hA
    have K1 := Lib.hid hK
    have X1 := Lib.hid hX
    clear hA hK hX
    go_wp2_with fail
    go_ret2
    exact ⟨ns1, 0, 8, rfl, A1.out, K1.out, X1.out, .inr ⟨rfl, rfl, by have := hfull.1; omega⟩⟩
end
end Go.Proofs.Ytbceacihkdmgkaa
