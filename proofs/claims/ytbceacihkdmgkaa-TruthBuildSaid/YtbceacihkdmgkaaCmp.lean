import Derived.Test.YtbceacihkdmgkaaRst
set_option linter.unusedVariables false
namespace Go.Proofs.Ytbceacihkdmgkaa
open Go.RowKit Mq

/-- What compose's functions leave (three steps, each of fewer than sixteen nodes). -/
def CmpPost (X : Nat → Prop) (a most : Nat) (W : World) (ns : List Nd) (n : Nat) (F : (Nat → Bool) → Bool) (e : Ending) (W' : World) : Prop :=
  ∃ ns' k err, e = .returned (.tuple #[.int .i64 (k : Nat), errv err]) ∧ Ar W' X a ns' most ∧ Keep X W W' ∧ Ext ns ns' ∧
    ((err = 0 ∧ ns'.length + 3 ≤ ns.length + 3 * 2 ^ n ∧ k < ns'.length ∧ ∀ r, ev ns' r k = F r) ∨ (err = 8 ∧ k = 0 ∧ most + 3 < ns.length + 3 * 2 ^ n))
theorem dep_upd {ns : List Nd} {f v : Nat} {b : Bool} {N : Nat} (h : Dep N ns f) {ns' : List Nd} {k : Nat} (e : ∀ r, ev ns' r k = ev ns (upd r v b) f) : Dep N ns' k := Dep.of_fun e fun r s q => h _ _ fun u hu => by
  unfold upd; split
  · rfl
  · exact q u hu

set_option maxRecDepth 100000 in
set_option maxHeartbeats 1000000 in
theorem cmpOf_any {w : World} {X : Nat → Prop} {a : Nat} {ns : List Nd} {most : Nat} (h : Ar w X a ns most) (f v g : Nat) (hv : v < 1024) (hf : f < ns.length) (df : Dep 4 ns f) (hg : g < ns.length) (dg : Dep 4 ns g) (n lev : Nat) (hn : lev + n = 4) (lf : lev ≤ var ns f) (lg : lev ≤ var ns g) :
    Calls Try.prog 46 #[.pointer (some ⟨a, 0, none⟩), .int .i64 f, .int .i64 v, .int .i64 g] w (CmpPost X a most w ns n (fun r => if ev ns r g then ev ns (upd r v true) f else ev ns (upd r v false) f)) := by
  have H := Lib.hid h
  have DF := Lib.hid df
  have DG := Lib.hid dg
  have HF := Lib.hid hf
  have HG := Lib.hid hg
  have HW := Lib.hid h.wf
  clear h df dg hf hg
  go_enter Try.func46, Try.ntmps46
  go_wp2_with fail
  refine (rst_all v hv true n lev hn X w ns f H.out HF.out DF.out lf).mono ?_
  rintro e w1 ⟨ns1, hi, err, rfl, hA, hK, hX, hc⟩
  have A1 := Lib.hid hA; have K1 := Lib.hid hK; have X1 := Lib.hid hX
  clear hA hK hX
  rcases hc with ⟨rfl, hd⟩ | ⟨rfl, rfl, hfull⟩
  rotate_left
  · have he : errv 8 = .iface 79 (.int .i64 8) := rfl
    rw [he]
    clear he
    have hq := Lib.hid hfull.1
    clear hfull
    go_wp2_with fail
    go_ret2
    exact ⟨ns1, 0, 8, rfl, A1.out, K1.out, X1.out, .inr ⟨rfl, rfl, by have := Nat.two_pow_pos n; have := hq.out; omega⟩⟩
  have D1 := Lib.hid hd
  clear hd
  have he : errv 0 = .nilIface := rfl
  rw [he]
  clear he
  go_wp2_with fail
  have HF1 := Lib.hid (Nat.lt_of_lt_of_le HF.out X1.out.length)
  refine (rst_all v hv false n lev hn X w1 ns1 f A1.out HF1.out (DF.out.ext HW.out HF.out X1.out) (by rw [X1.out.var HF.out]; exact lf)).mono ?_
  rintro e w2 ⟨ns2, lo, err, rfl, hA, hK, hX, hc⟩
  have A2 := Lib.hid hA; have K2 := Lib.hid (K1.out.trans hK); have X2 := Lib.hid hX
  clear hA hK hX
  have f1 := Lib.hid D1.out.few
  rcases hc with ⟨rfl, hd⟩ | ⟨rfl, rfl, hfull⟩
  rotate_left
  · have he : errv 8 = .iface 79 (.int .i64 8) := rfl
    rw [he]
    clear he
    have hq := Lib.hid hfull.1
    clear hfull
    go_wp2_with fail
    go_ret2
    exact ⟨ns2, 0, 8, rfl, A2.out, K2.out, X1.out.trans X2.out, .inr ⟨rfl, rfl, by have := Nat.two_pow_pos n; have := hq.out; have := f1.out; omega⟩⟩
  have D2 := Lib.hid hd
  clear hd
  have he : errv 0 = .nilIface := rfl
  rw [he]
  clear he
  have f2 := Lib.hid D2.out.few
  have E1 := Lib.hid (fun r => (X2.out.ev D1.out.wf r hi D1.out.lt).trans (D1.out.ev r) : ∀ r, ev ns2 r hi = ev ns (upd r v true) f)
  have E2 := Lib.hid (fun r => (D2.out.ev r).trans (X1.out.ev HW.out _ f HF.out) : ∀ r, ev ns2 r lo = ev ns (upd r v false) f)
  have XX := Lib.hid (X1.out.trans X2.out)
  have E3 := Lib.hid (fun r => XX.out.ev HW.out r g HG.out : ∀ r, ev ns2 r g = ev ns r g)
  have L1 := Lib.hid (Nat.lt_of_lt_of_le D1.out.lt X2.out.length)
  go_wp2_with fail
  refine (iteOf_nat A2.out g hi lo (Nat.lt_of_lt_of_le HG.out XX.out.length) L1.out D2.out.lt (DG.out.ext HW.out HG.out XX.out) (dep_upd DF.out E1.out) (dep_upd DF.out E2.out) n lev hn (by rw [XX.out.var HG.out]; exact lg) (by rw [X2.out.var D1.out.lt]; exact D1.out.var) D2.out.var).mono ?_
  rintro e w3 ⟨ns3, k, err, rfl, hA, hK, hX, hc⟩
  have P := Lib.hid (And.intro hA (And.intro (K2.out.trans hK) (And.intro (XX.out.trans hX) hc)))
  clear hA hK hX hc
  go_wp2_with fail
  go_ret2
  refine ⟨ns3, k, err, rfl, P.out.1, P.out.2.1, P.out.2.2.1, ?_⟩
  have := f1.out
  have := f2.out
  rcases P.out.2.2.2 with ⟨q1, q2⟩ | ⟨q1, q2, q3⟩
  · refine .inl ⟨q1, by have := Nat.two_pow_pos n; have := q2.few; omega, q2.lt, fun r => ?_⟩
    rw [q2.ev]
    simp only [iteF]
    rw [E1.out, E2.out, E3.out]
  · exact .inr ⟨q1, q2, by have := Nat.two_pow_pos n; have := q3.1; omega⟩

set_option maxRecDepth 100000 in
set_option maxHeartbeats 1000000 in
theorem cmpSome_any {w : World} {X : Nat → Prop} {a : Nat} {ns : List Nd} {most : Nat} (h : Ar w X a ns most) (f v : Nat) (hv : v < 1024) (hf : f < ns.length) (df : Dep 4 ns f) (n lev : Nat) (hn : lev + n = 4) (lf : lev ≤ var ns f) :
    Calls Try.prog 49 #[.pointer (some ⟨a, 0, none⟩), .int .i64 f, .int .i64 v] w (CmpPost X a most w ns n (fun r => ev ns (upd r v false) f || ev ns (upd r v true) f)) := by
  have H := Lib.hid h
  have DF := Lib.hid df
  have HF := Lib.hid hf
  have HW := Lib.hid h.wf
  clear h df hf
  go_enter Try.func49, Try.ntmps49
  go_wp2_with fail
  refine (rst_all v hv true n lev hn X w ns f H.out HF.out DF.out lf).mono ?_
  rintro e w1 ⟨ns1, hi, err, rfl, hA, hK, hX, hc⟩
  have A1 := Lib.hid hA; have K1 := Lib.hid hK; have X1 := Lib.hid hX
  clear hA hK hX
  rcases hc with ⟨rfl, hd⟩ | ⟨rfl, rfl, hfull⟩
  rotate_left
  · have he : errv 8 = .iface 79 (.int .i64 8) := rfl
    rw [he]
    clear he
    have hq := Lib.hid hfull.1
    clear hfull
    go_wp2_with fail
    go_ret2
    exact ⟨ns1, 0, 8, rfl, A1.out, K1.out, X1.out, .inr ⟨rfl, rfl, by have := Nat.two_pow_pos n; have := hq.out; omega⟩⟩
  have D1 := Lib.hid hd
  clear hd
  have he : errv 0 = .nilIface := rfl
  rw [he]
  clear he
  go_wp2_with fail
  have HF1 := Lib.hid (Nat.lt_of_lt_of_le HF.out X1.out.length)
  refine (rst_all v hv false n lev hn X w1 ns1 f A1.out HF1.out (DF.out.ext HW.out HF.out X1.out) (by rw [X1.out.var HF.out]; exact lf)).mono ?_
  rintro e w2 ⟨ns2, lo, err, rfl, hA, hK, hX, hc⟩
  have A2 := Lib.hid hA; have K2 := Lib.hid (K1.out.trans hK); have X2 := Lib.hid hX
  clear hA hK hX
  have f1 := Lib.hid D1.out.few
  rcases hc with ⟨rfl, hd⟩ | ⟨rfl, rfl, hfull⟩
  rotate_left
  · have he : errv 8 = .iface 79 (.int .i64 8) := rfl
    rw [he]
    clear he
    have hq := Lib.hid hfull.1
    clear hfull
    go_wp2_with fail
    go_ret2
    exact ⟨ns2, 0, 8, rfl, A2.out, K2.out, X1.out.trans X2.out, .inr ⟨rfl, rfl, by have := Nat.two_pow_pos n; have := hq.out; have := f1.out; omega⟩⟩
  have D2 := Lib.hid hd
  clear hd
  have he : errv 0 = .nilIface := rfl
  rw [he]
  clear he
  have f2 := Lib.hid D2.out.few
  have E1 := Lib.hid (fun r => (X2.out.ev D1.out.wf r hi D1.out.lt).trans (D1.out.ev r) : ∀ r, ev ns2 r hi = ev ns (upd r v true) f)
  have E2 := Lib.hid (fun r => (D2.out.ev r).trans (X1.out.ev HW.out _ f HF.out) : ∀ r, ev ns2 r lo = ev ns (upd r v false) f)
  have XX := Lib.hid (X1.out.trans X2.out)
  have L1 := Lib.hid (Nat.lt_of_lt_of_le D1.out.lt X2.out.length)
  go_wp2_with fail
  refine (or_at A2.out lo hi D2.out.lt L1.out (dep_upd DF.out E2.out) (dep_upd DF.out E1.out) n lev hn D2.out.var (by rw [X2.out.var D1.out.lt]; exact D1.out.var)).mono ?_
  rintro e w3 ⟨ns3, k, err, rfl, hA, hK, hX, hc⟩
  have P := Lib.hid (And.intro hA (And.intro (K2.out.trans hK) (And.intro (XX.out.trans hX) hc)))
  clear hA hK hX hc
  go_wp2_with fail
  go_ret2
  refine ⟨ns3, k, err, rfl, P.out.1, P.out.2.1, P.out.2.2.1, ?_⟩
  have := f1.out
  have := f2.out
  rcases P.out.2.2.2 with ⟨q1, q2⟩ | ⟨q1, q2, q3⟩
  · refine .inl ⟨q1, by have := Nat.two_pow_pos n; have := q2.few; omega, q2.lt, fun r => ?_⟩
    rw [q2.ev, E1.out, E2.out]
  · exact .inr ⟨q1, q2, by have := Nat.two_pow_pos n; have := q3.1; omega⟩

set_option maxRecDepth 100000 in
set_option maxHeartbeats 1000000 in
theorem awake3 (w : World) : Calls Try.prog 42 #[] w fun e w' => e = .returned (.bool true) ∧ Below w.heap.size w w' := by
  have m1 : Hid (mk 20 [no, yes] ⟨2, 0, 1⟩ = ([no, yes, ⟨2, 0, 1⟩], 2, 0)) := mk_first 20 2 (by omega)
  have he : Hid (errv 0 = .nilIface) := by show _ = _; rfl
  go_enter Try.func42, Try.ntmps42
  go_wp2_with fail
  refine (of_any w 20 20 (by decide)).mono ?_
  rintro e w1 ⟨a, rfl, hA, hk, hle⟩
  have A1 := Lib.hid hA; have K1 := Lib.hid hk; clear hA hk
  go_wp2_with fail
  refine (variable_any A1.out 2 (by decide)).mono ?_
  rw [m1.out]
  rintro e w2 ⟨rfl, hA, hk⟩
  have A2 := Lib.hid hA; have K2 := Lib.hid (K1.out.trans hk); clear hA hk
  rw [he.out]
  go_wp2_with fail
  have E2 := Lib.hid (ev_first A2.out.wf)
  have d2 := Lib.hid (Dep.of_fun E2.out (fun r s q => q 2 (by omega)) : Dep 4 _ 2)
  refine (cmpSome_any A2.out 2 2 (by decide) (by decide) d2.out 2 2 rfl (by decide)).mono ?_
  rintro e w3 ⟨ns3, y, err, rfl, hA, hk, hX, hc⟩
  rcases hc with ⟨rfl, hfew, hl, hv⟩ | ⟨rfl, -, hf⟩
  rotate_left
  · simp at hf
  have hy : y = 1 := canon hA.wf hl (by have := hA.wf.two; omega) fun r => by rw [hv, ev_one]; simp only [E2.out, upd_same]; rfl
  subst hy
  have A3 := Lib.hid hA; have K3 := Lib.hid (K2.out.trans hk); have X3 := Lib.hid hX; have f3 := Lib.hid hfew
  clear hA hk hX hfew hl hv
  rw [he.out]
  go_wp2_with fail
  have E3 := Lib.hid (fun r => (X3.out.ev A2.out.wf r 2 (by decide)).trans (E2.out r) : ∀ r, ev ns3 r 2 = r 2)
  refine (rst_all 2 (by decide) false 2 2 rfl _ w3 ns3 2 A3.out (by have := X3.out.length; simp at this; omega) (Dep.of_fun E3.out fun r s q => q 2 (by omega)) (by rw [X3.out.var (by decide)]; decide)).mono ?_
  rintro e w4 ⟨ns4, z, err, rfl, hA, hk, hX, hc⟩
  rcases hc with ⟨rfl, hd⟩ | ⟨rfl, -, hf⟩
  rotate_left
  · have := hf.1; have := f3.out; simp at *; omega
  have hz : z = 0 := canon hd.wf hd.lt (by have := hd.wf.two; omega) fun r => by rw [hd.ev, ev_zero, E3.out, upd_same]
  subst hz
  have K4 := Lib.hid (K3.out.trans hk)
  clear hA hk hX hd
  rw [he.out]
  go_wp2_with fail
  go_ret
  exact ⟨rfl, below_of_keep K4.out⟩
end Go.Proofs.Ytbceacihkdmgkaa
