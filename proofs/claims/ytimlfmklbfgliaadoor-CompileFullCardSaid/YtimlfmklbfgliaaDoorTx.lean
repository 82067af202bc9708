import Derived.Test.YtimlfmklbfgliaaDoorTb
set_option linter.unusedVariables false
namespace Mq
/-! ### what truth.build makes, to the number, whatever room there is -/
def tbP (most : Nat) (t : Nat → Bool) : Nat → Nat → Nat → List Nd → List Nd × Nat × Nat
  | 0, _, off, ns => (ns, if t off then 1 else 0, 0)
  | n + 1, v, off, ns =>
    if (tbP most t n (v + 1) off ns).2.2 = 0 then
      (if (tbP most t n (v + 1) (off + 2 ^ n) (tbP most t n (v + 1) off ns).1).2.2 = 0 then
        mk most (tbP most t n (v + 1) (off + 2 ^ n) (tbP most t n (v + 1) off ns).1).1 ⟨v, (tbP most t n (v + 1) off ns).2.1, (tbP most t n (v + 1) (off + 2 ^ n) (tbP most t n (v + 1) off ns).1).2.1⟩
      else ((tbP most t n (v + 1) (off + 2 ^ n) (tbP most t n (v + 1) off ns).1).1, 0, (tbP most t n (v + 1) (off + 2 ^ n) (tbP most t n (v + 1) off ns).1).2.2))
    else ((tbP most t n (v + 1) off ns).1, 0, (tbP most t n (v + 1) off ns).2.2)
structure TbOk (most : Nat) (ns : List Nd) (v : Nat) (p : List Nd × Nat × Nat) : Prop where
  wf : WF p.1
  ext : Ext ns p.1
  lt : p.2.2 = 0 → p.2.1 < p.1.length
  var : p.2.2 = 0 → v ≤ var p.1 p.2.1
  fail : p.2.2 ≠ 0 → p.2.1 = 0 ∧ p.2.2 = 8 ∧ p.1.length = most
theorem tb_okNd {most : Nat} {ns : List Nd} {v : Nat} {p q : List Nd × Nat × Nat} (hv : v < 1024) (h1 : TbOk most ns (v + 1) p) (h2 : TbOk most p.1 (v + 1) q) (e1 : p.2.2 = 0) (e2 : q.2.2 = 0) : okNd q.1 ⟨v, p.2.1, q.2.1⟩ :=
  ⟨hv, Nat.lt_of_lt_of_le (h1.lt e1) h2.ext.length, h2.lt e2, by have := h2.ext.var (h1.lt e1); have := h1.var e1; simp only; omega, by have := h2.var e2; simp only; omega⟩
theorem tbP_ok (most : Nat) (t : Nat → Bool) (n : Nat) : ∀ (v off : Nat) (ns : List Nd), WF ns → v + n ≤ 1024 → TbOk most ns v (tbP most t n v off ns) := by
  induction n with
  | zero =>
    intro v off ns W hv
    have h2 := W.two
    refine ⟨W, Ext.refl _, fun _ => ?_, fun _ => ?_, fun h => by simp [tbP] at h⟩
    · simp only [tbP]; split <;> omega
    · simp only [tbP]
      split
      · rw [(var_last W (by omega)).2 (by omega)]; omega
      · rw [(var_last W (by omega)).2 (by omega)]; omega
  | succ n ih =>
    intro v off ns W hv
    have h1 := ih (v + 1) off ns W (by omega)
    have h2 := ih (v + 1) (off + 2 ^ n) _ h1.wf (by omega)
    simp only [tbP]
    by_cases e1 : (tbP most t n (v + 1) off ns).2.2 = 0
    · rw [if_pos e1]
      by_cases e2 : (tbP most t n (v + 1) (off + 2 ^ n) (tbP most t n (v + 1) off ns).1).2.2 = 0
      · rw [if_pos e2]
        have hok := tb_okNd (by omega) h1 h2 e1 e2
        have hM := mk_made (most := most) h2.wf hok
        exact ⟨hM.wf, (h1.ext.trans h2.ext).trans hM.ext, fun e => (hM.good e).1, fun e => (hM.good e).2.1, fun e => ⟨(hM.fail e).2.1, (hM.fail e).1, by rw [(hM.fail e).2.2.1]; exact (hM.fail e).2.2.2⟩⟩
      · rw [if_neg e2]
        exact ⟨h2.wf, h1.ext.trans h2.ext, fun e => absurd e e2, fun e => absurd e e2, fun e => ⟨rfl, (h2.fail e).2⟩⟩
    · rw [if_neg e1]
      exact ⟨h1.wf, h1.ext, fun e => absurd e e1, fun e => absurd e e1, fun e => ⟨rfl, (h1.fail e).2⟩⟩
theorem tbP_all (most : Nat) (t : Nat → Bool) (n : Nat) : ∀ (v off : Nat) (ns : List Nd), WF ns → v + n ≤ 1024 → ns.length + 2 ^ n ≤ most + 1 →
    (tbP most t n v off ns).2.2 = 0 ∧ Built ns n v (fun i => t (off + i)) (tbP most t n v off ns).1 (tbP most t n v off ns).2.1 := by
  induction n with
  | zero =>
    intro v off ns W hv hr
    exact ⟨rfl, built_leaf W v (by omega) (fun i => t (off + i))⟩
  | succ n ih =>
    intro v off ns W hv hr
    have hp := Nat.pow_succ 2 n
    have hpos := Nat.two_pow_pos n
    obtain ⟨e1, b1⟩ := ih (v + 1) off ns W (by omega) (by omega)
    have hf1 := b1.few
    obtain ⟨e2, b2⟩ := ih (v + 1) (off + 2 ^ n) _ b1.wf (by omega) (by omega)
    have hok := built_ok (by omega) b1 b2
    have hM := mk_made (most := most) b2.wf hok
    obtain ⟨he, b3⟩ := built_node W (by omega) b1 (by simpa [Nat.add_assoc] using b2) (by omega) hM
    simp only [tbP, if_pos e1, if_pos e2]
    exact ⟨he, b3⟩
/-- With other room it is the same, or there is none, and the greater one has more nodes than that. -/
theorem mk_other {most most' : Nat} {ns : List Nd} {n : Nd} (he : (mk most ns n).2.2 = 0) (hl : ns.length ≤ most') : mk most' ns n = mk most ns n ∨ (mk most' ns n = (ns, 0, 8) ∧ most' < (mk most ns n).1.length) := by
  unfold mk at *
  by_cases e : n.lo = n.hi
  · simp only [if_pos e]; exact .inl trivial
  · simp only [if_neg e] at *
    cases hp : place ns n with
    | some k => exact .inl rfl
    | none =>
      rw [hp] at he
      simp only at he ⊢
      by_cases hm : ns.length = most
      · simp [hm] at he
      · by_cases hm' : ns.length = most'
        · right
          have h3 : ¬ most' = most := by omega
          simp only [hm', if_true, if_neg h3]
          simp
          omega
        · left
          simp only [if_neg hm, if_neg hm']
theorem tbP_other (most most' : Nat) (t : Nat → Bool) (n : Nat) : ∀ (v off : Nat) (ns : List Nd), WF ns → v + n ≤ 1024 → (tbP most t n v off ns).2.2 = 0 → ns.length ≤ most' →
    (tbP most' t n v off ns = tbP most t n v off ns ∧ (tbP most t n v off ns).1.length ≤ most') ∨ ((tbP most' t n v off ns).2.2 = 8 ∧ most' < (tbP most t n v off ns).1.length) := by
  induction n with
  | zero => intro v off ns W hv he hl; exact .inl ⟨rfl, hl⟩
  | succ n ih =>
    intro v off ns W hv he hl
    have o1 := tbP_ok most t n (v + 1) off ns W (by omega)
    have o2 := tbP_ok most t n (v + 1) (off + 2 ^ n) _ o1.wf (by omega)
    have o3 := tbP_ok most t (n + 1) v off ns W hv
    simp only [tbP] at he
    by_cases e1 : (tbP most t n (v + 1) off ns).2.2 = 0
    · rw [if_pos e1] at he
      by_cases e2 : (tbP most t n (v + 1) (off + 2 ^ n) (tbP most t n (v + 1) off ns).1).2.2 = 0
      · rw [if_pos e2] at he
        have hM := mk_made (most := most) o2.wf (tb_okNd (by omega) o1 o2 e1 e2)
        have l2 := o2.ext.length
        have l3 := hM.ext.length
        have hE : tbP most t (n + 1) v off ns = mk most (tbP most t n (v + 1) (off + 2 ^ n) (tbP most t n (v + 1) off ns).1).1 ⟨v, (tbP most t n (v + 1) off ns).2.1, (tbP most t n (v + 1) (off + 2 ^ n) (tbP most t n (v + 1) off ns).1).2.1⟩ := by
          simp only [tbP, if_pos e1, if_pos e2]
        rcases ih (v + 1) off ns W (by omega) e1 hl with ⟨q1, q1'⟩ | ⟨q1, q1'⟩
        · rcases ih (v + 1) (off + 2 ^ n) _ o1.wf (by omega) e2 q1' with ⟨q2, q2'⟩ | ⟨q2, q2'⟩
          · have hE' : tbP most' t (n + 1) v off ns = mk most' (tbP most t n (v + 1) (off + 2 ^ n) (tbP most t n (v + 1) off ns).1).1 ⟨v, (tbP most t n (v + 1) off ns).2.1, (tbP most t n (v + 1) (off + 2 ^ n) (tbP most t n (v + 1) off ns).1).2.1⟩ := by
              rw [tbP, q1, if_pos e1, q2, if_pos e2]
            rw [hE, hE']
            rcases mk_other he q2' with h | ⟨h, h'⟩
            · by_cases hle : (mk most (tbP most t n (v + 1) (off + 2 ^ n) (tbP most t n (v + 1) off ns).1).1 ⟨v, (tbP most t n (v + 1) off ns).2.1, (tbP most t n (v + 1) (off + 2 ^ n) (tbP most t n (v + 1) off ns).1).2.1⟩).1.length ≤ most'
              · exact .inl ⟨h, hle⟩
              · exfalso
                have hM' := mk_made (most := most') o2.wf (tb_okNd (by omega) o1 o2 e1 e2)
                rw [h] at hM'
                exact hle (hM'.room q2')
            · right; rw [h]; exact ⟨rfl, h'⟩
          · right
            rw [hE]
            refine ⟨?_, by omega⟩
            rw [tbP, q1, if_pos e1, if_neg (by omega)]
            exact q2
        · right
          rw [hE]
          refine ⟨?_, by omega⟩
          rw [tbP, if_neg (by omega)]
          exact q1
      · rw [if_neg e2] at he; exact absurd he e2
    · rw [if_neg e1] at he; exact absurd he e1
/-- A table that is the same everywhere. -/
theorem tbP_const (most : Nat) (t : Nat → Bool) (b : Bool) (n : Nat) : ∀ (v off : Nat) (ns : List Nd), (∀ i, i < 2 ^ n → t (off + i) = b) → tbP most t n v off ns = (ns, if b then 1 else 0, 0) := by
  induction n with
  | zero => intro v off ns h; simp only [tbP]; rw [show t off = b from h 0 (by simp)]
  | succ n ih =>
    intro v off ns h
    have hp := Nat.pow_succ 2 n
    have h1 := ih (v + 1) off ns fun i hi => h i (by omega)
    have h2 := ih (v + 1) (off + 2 ^ n) ns fun i hi => by rw [Nat.add_assoc]; exact h (2 ^ n + i) (by omega)
    rw [tbP, h1]
    simp only [if_true]
    rw [h2]
    simp [mk]
end Mq
namespace Go.Proofs.YtimlfmklbfgliaaDoor
open Go.RowKit Mq

def TbPost (X : Nat → Prop) (a most : Nat) (W : World) (p : List Nd × Nat × Nat) (e : Ending) (W' : World) : Prop :=
  e = .returned (.tuple #[.int .i64 (p.2.1 : Nat), errv p.2.2]) ∧ Ar W' X a p.1 most ∧ Keep X W W'

set_option maxRecDepth 100000 in
theorem tbX_leaf {X : Nat → Prop} {a most rb : Nat} (v off cap : Nat) (off0 : Nat) (t : Nat → Bool) (W : World) (ns : List Nd) (hc : 1 ≤ cap) (h : Ar W X a ns most) (hr : RowsAt W rb off 1 (fun i => t (off0 + i))) :
    Calls Tryd.prog 16 #[.pointer (some ⟨a, 0, none⟩), .int .i64 v, .slice (some ⟨rb, off, none⟩) 1 cap] W (TbPost X a most W (tbP most t 0 v off0 ns)) := by
  have c0 := hr 0 (by omega)
  simp only [Nat.add_zero] at c0
  have H := Lib.hid h
  clear h hr
  have he : errv 0 = .nilIface := rfl
  cases ht : t off0
  · rw [ht] at c0
    have HT := Lib.hid (show tbP most t 0 v off0 ns = (ns, 0, 0) by simp [tbP, ht]); clear ht
    rw [HT.out]
    go_enter Tryd.func16, Tryd.ntmps16
    go_wp2_with fail
    go_ret2
    exact ⟨rfl, H.out, Keep.refl _ _⟩
  · rw [ht] at c0
    have HT := Lib.hid (show tbP most t 0 v off0 ns = (ns, 1, 0) by simp [tbP, ht]); clear ht
    rw [HT.out]
    go_enter Tryd.func16, Tryd.ntmps16
    go_wp2_with fail
    go_ret2
    exact ⟨rfl, H.out, Keep.refl _ _⟩

set_option maxRecDepth 100000 in
set_option maxHeartbeats 1000000 in
theorem tbX_step {X : Nat → Prop} {a most rb : Nat} (n : Nat) (hx : X rb) (t : Nat → Bool)
    (ih : ∀ (v off cap off0 : Nat) (W : World) (ns : List Nd), v + n ≤ 10 → 2 ^ n ≤ cap → cap ≤ 9223372036854775807 → Ar W X a ns most → RowsAt W rb off (2 ^ n) (fun i => t (off0 + i)) →
      Calls Tryd.prog 16 #[.pointer (some ⟨a, 0, none⟩), .int .i64 v, .slice (some ⟨rb, off, none⟩) (2 ^ n) cap] W (TbPost X a most W (tbP most t n v off0 ns)))
    (v off cap m off0 : Nat) (W : World) (ns : List Nd) (hm : m = 2 ^ n) (hv : v + (n + 1) ≤ 10) (hc : 2 * m ≤ cap) (hc2 : cap ≤ 9223372036854775807) (h : Ar W X a ns most) (hr : RowsAt W rb off (2 * m) (fun i => t (off0 + i))) :
    Calls Tryd.prog 16 #[.pointer (some ⟨a, 0, none⟩), .int .i64 v, .slice (some ⟨rb, off, none⟩) (2 * m) cap] W (TbPost X a most W (tbP most t (n + 1) v off0 ns)) := by
  have hpos := Nat.two_pow_pos n
  have hlo := h.low rb hx
  have R0 : Hid (RowsAt W rb off m (fun i => t (off0 + i))) := Lib.hid fun j hj => hr j (by omega)
  have R1 : Hid (RowsAt W rb (off + m) m (fun i => t (off0 + m + i))) := Lib.hid fun j hj => by
    have := hr (m + j) (by omega)
    simp only [← Nat.add_assoc] at this; exact this
  have O1 := Lib.hid (tbP_ok most t n (v + 1) off0 ns h.wf (by omega))
  have O2 := Lib.hid (tbP_ok most t n (v + 1) (off0 + m) _ O1.out.wf (by omega))
  have HP : Hid (tbP most t (n + 1) v off0 ns = _) := Lib.hid (by rw [tbP, ← hm])
  have H := Lib.hid h
  rw [← hm] at ih
  have IH := Lib.hid ih
  clear h ih hr
  have hm1 : (((2 * m : Nat) : Int) == 1) = false := by rw [beq_eq_false_iff_ne]; omega
  have hd : ((2 * m : Nat) : Int) / 2 = (m : Int) := by omega
  have hm0 : 1 ≤ m := by omega
  have HM := Lib.hid hm
  clear hm
  have he0 : errv 0 = .nilIface := rfl
  have he8 : errv 8 = .iface 38 (.int .i64 8) := rfl
  have HE0 := Lib.hid he0
  have HE8 := Lib.hid he8
  clear he0 he8
  go_enter Tryd.func16, Tryd.ntmps16
  go_wp2_with fail
  refine (IH.out (v + 1) off cap off0 W ns (by omega) (by omega) hc2 H.out R0.out).mono ?_
  rintro e w1 ⟨rfl, hA1, hk1⟩
  have R2 := Lib.hid (R1.out.keep hk1 hx hlo)
  have s1 := hk1.size
  have A1 := Lib.hid hA1
  have K1 := Lib.hid hk1
  clear hA1 hk1
  generalize hpp : tbP most t n (v + 1) off0 ns = p at *
  obtain ⟨n1, lo, e1⟩ := p
  simp only at *
  by_cases hz1 : e1 = 0
  rotate_left
  · obtain ⟨f1, f2, -⟩ := O1.out.fail hz1
    simp only at f1 f2
    subst f1
    subst f2
    rw [HE8.out]
    rw [if_neg (by decide)] at HP
    clear hz1
    go_wp2_with fail
    go_ret2
    unfold TbPost
    rw [HP.out]
    exact ⟨rfl, A1.out, K1.out⟩
  subst hz1
  rw [HE0.out]
  rw [if_pos rfl] at HP
  go_wp2_with fail
  rw [show 2 * m - m = m by omega]
  refine (IH.out (v + 1) (off + m) (cap - m) (off0 + m) w1 n1 (by omega) (by omega) (by omega) A1.out R2.out).mono ?_
  rintro e w2 ⟨rfl, hA2, hk2⟩
  have A2 := Lib.hid hA2
  have K2 := Lib.hid hk2
  clear hA2 hk2
  generalize hqq : tbP most t n (v + 1) (off0 + m) n1 = q at *
  obtain ⟨n2, hi, e2⟩ := q
  simp only at *
  by_cases hz2 : e2 = 0
  rotate_left
  · obtain ⟨f1, f2, -⟩ := O2.out.fail hz2
    simp only at f1 f2
    subst f1
    subst f2
    rw [HE8.out]
    rw [if_neg (by decide)] at HP
    clear hz2
    go_wp2_with fail
    go_ret2
    unfold TbPost
    rw [HP.out]
    exact ⟨rfl, A2.out, K1.out.trans K2.out⟩
  subst hz2
  rw [HE0.out]
  rw [if_pos rfl] at HP
  go_wp2_with fail
  have hok : okNd n2 ⟨v, lo, hi⟩ := tb_okNd (p := (n1, lo, 0)) (q := (n2, hi, 0)) (by omega) O1.out O2.out rfl rfl
  refine (mk_any A2.out ⟨v, lo, hi⟩ hok).mono ?_
  rintro e w3 ⟨rfl, hA3, hk3⟩
  have P := Lib.hid (And.intro hA3 ((K1.out.trans K2.out).trans hk3))
  clear hA3 hk3 hok
  generalize mk most n2 ⟨v, lo, hi⟩ = r at *
  obtain ⟨n3, k, er⟩ := r
  simp only at *
  generalize hev : errv er = ev at *
  have HEV := Lib.hid hev
  clear hev
  go_wp2_with fail
  go_ret2
  unfold TbPost
  rw [HP.out]
  exact ⟨by rw [HEV.out]; rfl, P.out.1, P.out.2⟩

theorem tbX_all {X : Nat → Prop} {a most rb : Nat} (hx : X rb) (t : Nat → Bool) (n : Nat) : ∀ (v off cap off0 : Nat) (W : World) (ns : List Nd), v + n ≤ 10 → 2 ^ n ≤ cap → cap ≤ 9223372036854775807 → Ar W X a ns most → RowsAt W rb off (2 ^ n) (fun i => t (off0 + i)) →
    Calls Tryd.prog 16 #[.pointer (some ⟨a, 0, none⟩), .int .i64 v, .slice (some ⟨rb, off, none⟩) (2 ^ n) cap] W (TbPost X a most W (tbP most t n v off0 ns)) := by
  induction n with
  | zero => exact fun v off cap off0 W ns hv hc _ hA hr => tbX_leaf v off cap off0 t W ns (by simpa using hc) hA hr
  | succ n ih =>
    intro v off cap off0 W ns hv hc hc2 hA hr
    have hp := Nat.pow_succ 2 n
    have e : 2 ^ (n + 1) = 2 * 2 ^ n := by omega
    rw [e] at hc hr ⊢
    exact tbX_step n hx t ih v off cap (2 ^ n) off0 W ns rfl hv hc hc2 hA hr
set_option maxRecDepth 100000 in
/-- truth.Build, to the number. -/
theorem tbuildX {w : World} {X : Nat → Prop} {a : Nat} {ns : List Nd} {most : Nat} (h : Ar w X a ns most) {rb : Nat} (hx : X rb) (off n cap m : Nat) (hm : m = 2 ^ n) (hn : n ≤ 10) (t : Nat → Bool) (hc : m ≤ cap) (hc2 : cap ≤ 9223372036854775807) (hr : RowsAt w rb off m t) :
    Calls Tryd.prog 12 #[.pointer (some ⟨a, 0, none⟩), .int .i64 n, .slice (some ⟨rb, off, none⟩) m cap] w (TbPost X a most w (tbP most t n 0 0 ns)) := by
  have hsh : (1 : Int) * 2 ^ n = (m : Int) := by rw [hm]; simp
  have H := Lib.hid (tbX_all (a := a) (most := most) hx t n 0 off cap 0 w ns (by omega) (by rw [← hm]; exact hc) hc2 h (by rw [← hm]; intro j hj; rw [hr j hj]; simp only [Nat.zero_add]))
  rw [← hm] at H
  have hm2 : m ≤ 1024 := by
    have : 2 ^ n ≤ 2 ^ 10 := Nat.pow_le_pow_right (by omega) hn
    omega
  clear h hr hm
  obtain ⟨p, hp⟩ : ∃ p, p = tbP most t n 0 0 ns := ⟨_, rfl⟩
  have HP := Lib.hid hp
  rw [← hp] at H ⊢
  clear hp
  obtain ⟨n1, k, er⟩ := p
  unfold TbPost at *
  simp only at *
  generalize errv er = ev at *
  go_enter Tryd.func12, Tryd.ntmps12
  go_wp2_with fail
  refine H.out.mono ?_
  rintro e w1 ⟨rfl, hA, hk⟩
  have P := Lib.hid (And.intro hA hk)
  clear hA hk
  go_wp2_with fail
  go_ret2
  exact ⟨rfl, P.out.1, P.out.2⟩
end Go.Proofs.YtimlfmklbfgliaaDoor
