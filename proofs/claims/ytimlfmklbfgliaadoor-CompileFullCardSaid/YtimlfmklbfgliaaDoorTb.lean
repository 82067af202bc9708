import Derived.Test.YtimlfmklbfgliaaDoorEvalW
import Derived.Test.YtimlfmklbfgliaaDoorBdt
import Derived.Test.YtimlfmklbfgliaaDoorMk
set_option linter.unusedVariables false
namespace Go.Proofs.YtimlfmklbfgliaaDoor
open Go.RowKit Mq

/-- Rows in memory. -/
def RowsAt (W : World) (rb off n : Nat) (t : Nat → Bool) : Prop := ∀ j, j < n → W.cell? ⟨rb, off + j, none⟩ = some (.bool (t j))
theorem RowsAt.keep {W W' : World} {X : Nat → Prop} {rb off n : Nat} {t : Nat → Bool} (h : RowsAt W rb off n t) (hk : Keep X W W') (hx : X rb) (hl : rb < W.heap.size) : RowsAt W' rb off n t := fun j hj => (hk.cell (p := ⟨rb, off + j, none⟩) hx hl).trans (h j hj)
def BldPost (X : Nat → Prop) (a most : Nat) (W : World) (ns : List Nd) (n v : Nat) (t : Nat → Bool) (e : Ending) (W' : World) : Prop :=
  ∃ ns' k, e = .returned (.tuple #[.int .i64 (k : Nat), .nilIface]) ∧ Built ns n v t ns' k ∧ Ar W' X a ns' most ∧ Keep X W W'

set_option maxRecDepth 100000 in
theorem bld_leaf {X : Nat → Prop} {a most rb : Nat} (v off cap : Nat) (t : Nat → Bool) (W : World) (ns : List Nd) (hv : v ≤ 1024) (hc : 1 ≤ cap) (h : Ar W X a ns most) (hr : RowsAt W rb off 1 t) :
    Calls Tryd.prog 16 #[.pointer (some ⟨a, 0, none⟩), .int .i64 v, .slice (some ⟨rb, off, none⟩) 1 cap] W (BldPost X a most W ns 0 v t) := by
  have c0 := hr 0 (by omega)
  rw [Nat.add_zero] at c0
  have H := Lib.hid h
  clear h hr
  have hl := Lib.hid (built_leaf H.out.wf v hv t)
  cases ht : t 0
  · rw [ht] at c0
    have HT := Lib.hid ht; clear ht
    go_enter Tryd.func16, Tryd.ntmps16
    go_wp2_with fail
    go_ret2
    exact ⟨ns, _, by rw [HT.out]; rfl, hl.out, H.out, Keep.refl _ _⟩
  · rw [ht] at c0
    have HT := Lib.hid ht; clear ht
    go_enter Tryd.func16, Tryd.ntmps16
    go_wp2_with fail
    go_ret2
    exact ⟨ns, _, by rw [HT.out]; rfl, hl.out, H.out, Keep.refl _ _⟩

set_option maxRecDepth 100000 in
set_option maxHeartbeats 1000000 in
theorem bld_step {X : Nat → Prop} {a most rb : Nat} (n : Nat) (hx : X rb)
    (ih : ∀ (v off cap : Nat) (t : Nat → Bool) (W : World) (ns : List Nd), v + n ≤ 10 → 2 ^ n ≤ cap → cap ≤ 9223372036854775807 → Ar W X a ns most → RowsAt W rb off (2 ^ n) t → ns.length + 2 ^ n ≤ most + 1 →
      Calls Tryd.prog 16 #[.pointer (some ⟨a, 0, none⟩), .int .i64 v, .slice (some ⟨rb, off, none⟩) (2 ^ n) cap] W (BldPost X a most W ns n v t))
    (v off cap m : Nat) (t : Nat → Bool) (W : World) (ns : List Nd) (hm : m = 2 ^ n) (hv : v + (n + 1) ≤ 10) (hc : 2 * m ≤ cap) (hc2 : cap ≤ 9223372036854775807) (h : Ar W X a ns most) (hr : RowsAt W rb off (2 * m) t) (hroom : ns.length + 2 * m ≤ most + 1) :
    Calls Tryd.prog 16 #[.pointer (some ⟨a, 0, none⟩), .int .i64 v, .slice (some ⟨rb, off, none⟩) (2 * m) cap] W (BldPost X a most W ns (n + 1) v t) := by
  have hpos := Nat.two_pow_pos n
  have hlo := h.low rb hx
  have R0 : Hid (RowsAt W rb off m t) := Lib.hid fun j hj => hr j (by omega)
  have R1 : Hid (RowsAt W rb (off + m) m (fun i => t (m + i))) := Lib.hid fun j hj => by
    have := hr (m + j) (by omega)
    rw [← Nat.add_assoc] at this; exact this
  have H := Lib.hid h
  rw [← hm] at ih
  have IH := Lib.hid ih
  clear h ih hr
  have hm1 : (((2 * m : Nat) : Int) == 1) = false := by rw [beq_eq_false_iff_ne]; omega
  have hd : ((2 * m : Nat) : Int) / 2 = (m : Int) := by omega
  have hm0 : 1 ≤ m := by omega
  have HM := Lib.hid hm
  have HR := Lib.hid hroom
  clear hm hroom
  go_enter Tryd.func16, Tryd.ntmps16
  go_wp2_with fail
  refine (IH.out (v + 1) off cap t W ns (by omega) (by omega) hc2 H.out R0.out (by have := HR.out; omega)).mono ?_
  rintro e w1 ⟨ns1, lo, rfl, hb1, hA1, hk1⟩
  have R2 := Lib.hid (R1.out.keep hk1 hx hlo)
  have s1 := hk1.size
  have B1 := Lib.hid hb1
  have A1 := Lib.hid hA1
  have K1 := Lib.hid hk1
  clear hb1 hA1 hk1
  go_wp2_with fail
  rw [show 2 * m - m = m by omega]
  refine (IH.out (v + 1) (off + m) (cap - m) (fun i => t (m + i)) w1 ns1 (by omega) (by omega) (by omega) A1.out R2.out (by have := HR.out; have := B1.out.few; have := HM.out; omega)).mono ?_
  rintro e w2 ⟨ns2, hi, rfl, hb2, hA2, hk2⟩
  have B2 := Lib.hid hb2
  have A2 := Lib.hid hA2
  have K2 := Lib.hid hk2
  clear hb2 hA2 hk2
  go_wp2_with fail
  have hok := built_ok (by omega) B1.out B2.out
  refine (mk_any A2.out ⟨v, lo, hi⟩ hok).mono ?_
  rintro e w3 ⟨rfl, hA3, hk3⟩
  have hM := mk_made (most := most) A2.out.wf hok
  have hp := Nat.pow_succ 2 n
  obtain ⟨he, hB3⟩ := built_node H.out.wf (by omega) B1.out (by have := B2.out; rw [HM.out] at this; exact this) (by have := HR.out; have := HM.out; omega) hM
  have P := Lib.hid (And.intro hB3 (And.intro hA3 ((K1.out.trans K2.out).trans hk3)))
  clear hB3 hA3 hk3 hM hp
  rw [he]
  generalize (mk most ns2 ⟨v, lo, hi⟩).2.1 = k at *
  generalize (mk most ns2 ⟨v, lo, hi⟩).1 = ns3 at *
  clear he hok
  have he0 : errv 0 = .nilIface := rfl
  rw [he0]
  clear he0
  go_wp2_with fail
  go_ret2
  exact ⟨ns3, k, rfl, P.out.1, P.out.2.1, P.out.2.2⟩

theorem bld_all {X : Nat → Prop} {a most rb : Nat} (hx : X rb) (n : Nat) : ∀ (v off cap : Nat) (t : Nat → Bool) (W : World) (ns : List Nd), v + n ≤ 10 → 2 ^ n ≤ cap → cap ≤ 9223372036854775807 → Ar W X a ns most → RowsAt W rb off (2 ^ n) t → ns.length + 2 ^ n ≤ most + 1 →
    Calls Tryd.prog 16 #[.pointer (some ⟨a, 0, none⟩), .int .i64 v, .slice (some ⟨rb, off, none⟩) (2 ^ n) cap] W (BldPost X a most W ns n v t) := by
  induction n with
  | zero => exact fun v off cap t W ns hv hc _ hA hr _ => bld_leaf v off cap t W ns (by omega) (by simpa using hc) hA hr
  | succ n ih =>
    intro v off cap t W ns hv hc hc2 hA hr hroom
    have hp := Nat.pow_succ 2 n
    have e : 2 ^ (n + 1) = 2 * 2 ^ n := by omega
    rw [e] at hc hr hroom ⊢
    exact bld_step n hx ih v off cap (2 ^ n) t W ns rfl hv hc hc2 hA hr hroom

set_option maxRecDepth 100000 in
/-- truth.Build. -/
theorem tbuild_off {w : World} {X : Nat → Prop} {a : Nat} {ns : List Nd} {most : Nat} (h : Ar w X a ns most) {rb : Nat} (hx : X rb) (off n cap m : Nat) (hm : m = 2 ^ n) (hn : n ≤ 10) (t : Nat → Bool) (hc : m ≤ cap) (hc2 : cap ≤ 9223372036854775807) (hr : RowsAt w rb off m t) (hroom : ns.length + m ≤ most + 1) :
    Calls Tryd.prog 12 #[.pointer (some ⟨a, 0, none⟩), .int .i64 n, .slice (some ⟨rb, off, none⟩) m cap] w (BldPost X a most w ns n 0 t) := by
  have hsh : (1 : Int) * 2 ^ n = (m : Int) := by rw [hm]; simp
  have H := Lib.hid (bld_all (a := a) (most := most) hx n 0 off cap t w ns (by omega) (by rw [← hm]; exact hc) hc2 h (by rw [← hm]; exact hr) (by rw [← hm]; exact hroom))
  rw [← hm] at H
  have hm2 : m ≤ 1024 := by
    have : 2 ^ n ≤ 2 ^ 10 := Nat.pow_le_pow_right (by omega) hn
    omega
  clear h hr hroom hm
  go_enter Tryd.func12, Tryd.ntmps12
  go_wp2_with fail
  refine H.out.mono ?_
  rintro e w1 ⟨ns', k, rfl, hb, hA, hk⟩
  have P := Lib.hid (And.intro hb (And.intro hA hk))
  clear hb hA hk
  go_wp2_with fail
  go_ret2
  exact ⟨ns', k, rfl, P.out.1, P.out.2.1, P.out.2.2⟩
/-- truth.Build, of rows that lie ahead in their array. -/
theorem tbuild_any {w : World} {X : Nat → Prop} {a : Nat} {ns : List Nd} {most : Nat} (h : Ar w X a ns most) {rb : Nat} (hx : X rb) (n cap m : Nat) (hm : m = 2 ^ n) (hn : n ≤ 10) (t : Nat → Bool) (hc : m ≤ cap) (hc2 : cap ≤ 4096) (hr : RowsAt w rb 0 m t) (hroom : ns.length + m ≤ most + 1) :
    Calls Tryd.prog 12 #[.pointer (some ⟨a, 0, none⟩), .int .i64 n, .slice (some ⟨rb, 0, none⟩) m cap] w (BldPost X a most w ns n 0 t) :=
  tbuild_off h hx 0 n cap m hm hn t hc (by omega) hr hroom
end Go.Proofs.YtimlfmklbfgliaaDoor
