import Derived.Test.YtimlfmklbfgliaaDoorBdd
set_option linter.unusedVariables false
namespace Mq

/-- Is there a diagram of a function? -/
def HasF (ns : List Nd) (F : (Nat → Bool) → Bool) : Prop := ∃ k, k < ns.length ∧ ∀ r, ev ns r k = F r

/-- The diagram of a function, which asks nothing ahead of variable v; making it has cost fewer than 2^n nodes, and none if it was there. -/
structure Dia (ns : List Nd) (n v : Nat) (F : (Nat → Bool) → Bool) (ns' : List Nd) (k : Nat) : Prop where
  wf : WF ns'
  ext : Ext ns ns'
  few : ns'.length + 1 ≤ ns.length + 2 ^ n
  lt : k < ns'.length
  var : v ≤ var ns' k
  ev : ∀ r, ev ns' r k = F r
  stay : HasF ns F → ns' = ns

theorem Dia.mono {ns ns' : List Nd} {n m v u : Nat} {F : (Nat → Bool) → Bool} {k : Nat} (h : Dia ns n v F ns' k) (hn : n ≤ m) (hv : u ≤ v) : Dia ns m u F ns' k :=
  { h with few := Nat.le_trans h.few (Nat.add_le_add_left (Nat.pow_le_pow_right (by omega) hn) _), var := Nat.le_trans hv h.var }
theorem Dia.congr {ns ns' : List Nd} {n v : Nat} {F G : (Nat → Bool) → Bool} {k : Nat} (h : Dia ns n v F ns' k) (e : ∀ r, F r = G r) : Dia ns n v G ns' k := by
  have : F = G := funext e
  subst this
  exact h
/-- What is there already. -/
theorem dia_old {ns : List Nd} (W : WF ns) {n v : Nat} {F : (Nat → Bool) → Bool} {k : Nat} (hk : k < ns.length) (hv : v ≤ var ns k) (he : ∀ r, ev ns r k = F r) : Dia ns n v F ns k :=
  ⟨W, Ext.refl _, by have := Nat.two_pow_pos n; omega, hk, hv, he, fun _ => rfl⟩
theorem Dia.free {ns ns' : List Nd} {n v : Nat} {F : (Nat → Bool) → Bool} {k : Nat} (h : Dia ns n v F ns' k) {u : Nat} (hu : u < v) (r : Nat → Bool) (b : Bool) : F (upd r u b) = F r := by
  rw [← h.ev, ← h.ev, ev_upd h.wf h.lt (Nat.lt_of_lt_of_le hu h.var)]

/-- A diagram of a function that hangs on nothing ahead of v asks nothing ahead of v. -/
theorem var_ge {ns : List Nd} (W : WF ns) {v : Nat} (hv : v ≤ 1024) {F : (Nat → Bool) → Bool} (hF : ∀ u, u < v → ∀ r b, F (upd r u b) = F r) {k : Nat} (hk : k < ns.length) (h : ∀ r, ev ns r k = F r) : v ≤ var ns k := by
  rcases Nat.lt_or_ge (var ns k) v with hlt | hge
  · exfalso
    have h2 : 2 ≤ k := by
      rcases Nat.lt_or_ge k 2 with h2 | h2
      · have := (var_last W hk).2 h2; omega
      · exact h2
    refine matters W h2 hk fun r b => ?_
    rw [h, h, hF]
    exact hlt
  · exact hge

/-- The node over two halves: how it comes out. -/
theorem dia_node {most : Nat} {ns ns1 ns2 ns3 : List Nd} {n v : Nat} {F0 F1 : (Nat → Bool) → Bool} {lo hi k e : Nat} (W : WF ns) (hv : v < 1024)
    (h1 : Dia ns n (v + 1) F0 ns1 lo) (h2 : Dia ns1 n (v + 1) F1 ns2 hi) (hm : Made most ns2 ⟨v, lo, hi⟩ ns3 k e) (he : e = 0) :
    Dia ns (n + 1) v (fun r => if r v then F1 r else F0 r) ns3 k := by
  have hp := Nat.pow_succ 2 n
  have f1 := h1.few
  have f2 := h2.few
  subst he
  obtain ⟨g1, g2, g3⟩ := hm.good rfl
  have hev : ∀ r, (if r v then Mq.ev ns2 r hi else Mq.ev ns2 r lo) = (if r v then F1 r else F0 r) := fun r => by
    rw [h2.ev, h2.ext.ev h1.wf r lo h1.lt, h1.ev]
  refine ⟨hm.wf, (h1.ext.trans h2.ext).trans hm.ext, by have := hm.few; omega, g1, g2, fun r => (g3 r).trans (hev r), fun hs => ?_⟩
  obtain ⟨k0, hk0, he0⟩ := hs
  have hvar : v ≤ var ns k0 := var_ge W (by omega) (fun u hu r b => by
    rw [upd_other r b (show v ≠ u by omega), h1.free (by omega), h2.free (by omega)]) hk0 he0
  have s1 : HasF ns F0 := by
    obtain ⟨k1, q1, q2⟩ := cofactor W hk0 hvar false
    exact ⟨k1, q1, fun r => (q2 r).trans ((he0 _).trans (by simp only [upd_same, h1.free (Nat.lt_succ_self v)]; simp))⟩
  have e1 := h1.stay s1
  subst e1
  have s2 : HasF ns1 F1 := by
    obtain ⟨k1, q1, q2⟩ := cofactor W hk0 hvar true
    exact ⟨k1, q1, fun r => (q2 r).trans ((he0 _).trans (by simp only [upd_same, h2.free (Nat.lt_succ_self v)]; simp))⟩
  have e2 := h2.stay s2
  subst e2
  exact made_stay hm W hk0 fun r => (he0 r).trans (hev r).symm
theorem dia_room {most : Nat} {ns ns1 ns2 ns3 : List Nd} {n v : Nat} {F0 F1 : (Nat → Bool) → Bool} {lo hi k e : Nat}
    (h1 : Dia ns n (v + 1) F0 ns1 lo) (h2 : Dia ns1 n (v + 1) F1 ns2 hi) (hm : Made most ns2 ⟨v, lo, hi⟩ ns3 k e) (hroom : ns.length + 2 ^ (n + 1) ≤ most + 1) : e = 0 := by
  have hp := Nat.pow_succ 2 n
  have f1 := h1.few
  have f2 := h2.few
  rcases Nat.eq_zero_or_pos e with h | h
  · exact h
  · have := hm.fail (by omega)
    omega
theorem dia_ok {ns ns1 ns2 : List Nd} {n m v : Nat} {F G : (Nat → Bool) → Bool} {lo hi : Nat} (hv : v < 1024)
    (h1 : Dia ns n (v + 1) F ns1 lo) (h2 : Dia ns1 m (v + 1) G ns2 hi) : okNd ns2 ⟨v, lo, hi⟩ := by
  refine ⟨hv, Nat.lt_of_lt_of_le h1.lt h2.ext.length, h2.lt, ?_, h2.var⟩
  simp only
  rw [h2.ext.var h1.lt]; exact h1.var
/-- Two diagrams of one function are one. -/
theorem dia_same {ns ns1 ns2 : List Nd} {n m v u : Nat} {F G : (Nat → Bool) → Bool} {k j : Nat} (h1 : Dia ns n v F ns1 k) (h2 : Dia ns1 m u G ns2 j) (e : ∀ r, F r = G r) : k = j :=
  canon h2.wf (Nat.lt_of_lt_of_le h1.lt h2.ext.length) h2.lt fun r => by rw [h2.ext.ev h1.wf r k h1.lt, h1.ev, h2.ev, e]

/-- There was no room for the diagram: it was not there, and would have cost too much. -/
def Lack (most : Nat) (ns : List Nd) (n : Nat) (F : (Nat → Bool) → Bool) : Prop := most + 1 < ns.length + 2 ^ n ∧ ¬ HasF ns F
theorem Lack.mono {most : Nat} {ns : List Nd} {n m : Nat} {F : (Nat → Bool) → Bool} (h : Lack most ns n F) (hn : n ≤ m) : Lack most ns m F :=
  ⟨Nat.lt_of_lt_of_le h.1 (Nat.add_le_add_left (Nat.pow_le_pow_right (by omega) hn) _), h.2⟩
theorem Lack.congr {most : Nat} {ns : List Nd} {n : Nat} {F G : (Nat → Bool) → Bool} (h : Lack most ns n F) (e : ∀ r, F r = G r) : Lack most ns n G := by
  have : F = G := funext e
  subst this; exact h
/-- A node's halves are there, if it is. -/
theorem hasF_half {ns : List Nd} (W : WF ns) {v : Nat} (hv : v ≤ 1024) {F0 F1 : (Nat → Bool) → Bool} (f0 : ∀ u, u < v + 1 → ∀ r b, F0 (upd r u b) = F0 r) (f1 : ∀ u, u < v + 1 → ∀ r b, F1 (upd r u b) = F1 r)
    (h : HasF ns (fun r => if r v then F1 r else F0 r)) : HasF ns F0 ∧ HasF ns F1 := by
  obtain ⟨k0, hk0, he0⟩ := h
  have hvar : v ≤ var ns k0 := var_ge W hv (fun u hu r b => by
    rw [upd_other r b (show v ≠ u by omega), f1 u (by omega), f0 u (by omega)]) hk0 he0
  constructor
  · obtain ⟨k1, q1, q2⟩ := cofactor W hk0 hvar false
    exact ⟨k1, q1, fun r => (q2 r).trans ((he0 _).trans (by simp only [upd_same, f0 v (Nat.lt_succ_self v)]; simp))⟩
  · obtain ⟨k1, q1, q2⟩ := cofactor W hk0 hvar true
    exact ⟨k1, q1, fun r => (q2 r).trans ((he0 _).trans (by simp only [upd_same, f1 v (Nat.lt_succ_self v)]; simp))⟩
theorem lack_lo {most : Nat} {ns : List Nd} {n v : Nat} {F0 F1 : (Nat → Bool) → Bool} (W : WF ns) (hv : v ≤ 1024) (f0 : ∀ u, u < v + 1 → ∀ r b, F0 (upd r u b) = F0 r) (f1 : ∀ u, u < v + 1 → ∀ r b, F1 (upd r u b) = F1 r)
    (h : Lack most ns n F0) : Lack most ns (n + 1) (fun r => if r v then F1 r else F0 r) :=
  ⟨(h.mono (Nat.le_succ n)).1, fun q => h.2 (hasF_half W hv f0 f1 q).1⟩
theorem lack_hi {most : Nat} {ns ns1 : List Nd} {n v lo : Nat} {F0 F1 : (Nat → Bool) → Bool} (W : WF ns) (hv : v ≤ 1024) (h1 : Dia ns n (v + 1) F0 ns1 lo) (f1 : ∀ u, u < v + 1 → ∀ r b, F1 (upd r u b) = F1 r)
    (h : Lack most ns1 n F1) : Lack most ns (n + 1) (fun r => if r v then F1 r else F0 r) := by
  have hp := Nat.pow_succ 2 n
  have q := h1.few
  refine ⟨by have := h.1; omega, fun q => ?_⟩
  obtain ⟨s0, s1⟩ := hasF_half W hv (fun u hu => h1.free hu) f1 q
  have e := h1.stay s0
  subst e
  exact h.2 s1
theorem lack_mk {most : Nat} {ns ns1 ns2 ns3 : List Nd} {n v lo hi k e : Nat} {F0 F1 : (Nat → Bool) → Bool} (W : WF ns) (hv : v ≤ 1024) (h1 : Dia ns n (v + 1) F0 ns1 lo) (h2 : Dia ns1 n (v + 1) F1 ns2 hi)
    (hm : Made most ns2 ⟨v, lo, hi⟩ ns3 k e) (he : e ≠ 0) : Lack most ns (n + 1) (fun r => if r v then F1 r else F0 r) := by
  refine ⟨?_, fun q => ?_⟩
  · rcases Nat.lt_or_ge (most + 1) (ns.length + 2 ^ (n + 1)) with h | h
    · exact h
    · exact absurd (dia_room h1 h2 hm h) he
  · obtain ⟨s0, s1⟩ := hasF_half W hv (fun u hu => h1.free hu) (fun u hu => h2.free hu) q
    have e1 := h1.stay s0
    subst e1
    have e2 := h2.stay s1
    subst e2
    obtain ⟨k0, q1, q2⟩ := q
    refine hm.lack he k0 q1 fun r => (q2 r).trans ?_
    simp only
    rw [h2.ev, h1.ev]

/-! ### tables -/
/-- The row of some variables' values: the first one highest. -/
def idx : Nat → Nat → (Nat → Bool) → Nat
  | 0, _, _ => 0
  | n + 1, v, r => (if r v then 2 ^ n else 0) + idx n (v + 1) r
theorem idx_lt (n : Nat) : ∀ v r, idx n v r < 2 ^ n := by
  induction n with
  | zero => intro v r; simp [idx]
  | succ n ih =>
    intro v r
    have := ih (v + 1) r
    simp only [idx, Nat.pow_succ]
    split <;> omega

/-- A diagram that was made of a table. -/
abbrev Built (ns : List Nd) (n v : Nat) (t : Nat → Bool) (ns' : List Nd) (k : Nat) : Prop := Dia ns n v (fun r => t (idx n v r)) ns' k

theorem built_leaf {ns : List Nd} (W : WF ns) (v : Nat) (hv : v ≤ 1024) (t : Nat → Bool) : Built ns 0 v t ns (if t 0 then 1 else 0) := by
  have h2 := W.two
  by_cases h : t 0 = true
  · rw [if_pos h]
    refine dia_old W (by omega) ?_ fun r => by rw [ev_one]; simp [idx, h]
    rw [(var_last W (by omega)).2 (by omega)]; exact hv
  · rw [if_neg h]
    refine dia_old W (by omega) ?_ fun r => by rw [ev_zero]; simp [idx, h]
    rw [(var_last W (by omega)).2 (by omega)]; exact hv
theorem built_node {most : Nat} {ns ns1 ns2 ns3 : List Nd} {n v : Nat} {t : Nat → Bool} {lo hi k e : Nat} (W : WF ns) (hv : v < 1024)
    (h1 : Built ns n (v + 1) t ns1 lo) (h2 : Built ns1 n (v + 1) (fun i => t (2 ^ n + i)) ns2 hi) (hroom : ns.length + 2 ^ (n + 1) ≤ most + 1)
    (hm : Made most ns2 ⟨v, lo, hi⟩ ns3 k e) : e = 0 ∧ Built ns (n + 1) v t ns3 k := by
  have he := dia_room h1 h2 hm hroom
  exact ⟨he, (dia_node W hv h1 h2 hm he).congr fun r => by simp only [idx]; split <;> simp⟩
theorem built_ok {ns ns1 ns2 : List Nd} {n v : Nat} {t u : Nat → Bool} {lo hi : Nat} (hv : v < 1024)
    (h1 : Built ns n (v + 1) t ns1 lo) (h2 : Built ns1 n (v + 1) u ns2 hi) : okNd ns2 ⟨v, lo, hi⟩ := dia_ok hv h1 h2
end Mq
