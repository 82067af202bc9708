import Derived.Test.YtbceacihkdmgkaaBdd
set_option linter.unusedVariables false
namespace Mq

/-- The row of some variables' values: the first one highest. -/
def idx : Nat → Nat → (Nat → Bool) → Nat
  | 0, _, _ => 0
  | n + 1, v, r => (if r v then 2 ^ n else 0) + idx n (v + 1) r
theorem idx_lt (n : Nat) : ∀ v r, idx n v r < 2 ^ n := by
  induction n with
  | zero => intro v r; simp [idx]
  | succ n ih =>
    intro v r
    have := ih (v + 1) r
    simp only [idx, Nat.pow_succ]
    split <;> omega

/-- A diagram that was made of a table. -/
structure Built (ns : List Nd) (n v : Nat) (t : Nat → Bool) (ns' : List Nd) (k : Nat) : Prop where
  wf : WF ns'
  ext : Ext ns ns'
  few : ns'.length + 1 ≤ ns.length + 2 ^ n
  lt : k < ns'.length
  var : v ≤ var ns' k
  ev : ∀ r, ev ns' r k = t (idx n v r)

theorem built_leaf {ns : List Nd} (W : WF ns) (v : Nat) (hv : v ≤ 1024) (t : Nat → Bool) : Built ns 0 v t ns (if t 0 then 1 else 0) := by
  have h2 := W.two
  by_cases h : t 0 = true
  · rw [if_pos h]
    refine ⟨W, Ext.refl _, by simp, by omega, ?_, fun r => by rw [ev_one]; simp [idx, h]⟩
    rw [(var_last W (by omega)).2 (by omega)]; exact hv
  · rw [if_neg h]
    refine ⟨W, Ext.refl _, by simp, by omega, ?_, fun r => by rw [ev_zero]; simp [idx, h]⟩
    rw [(var_last W (by omega)).2 (by omega)]; exact hv

/-- The node over two halves. -/
theorem built_node {most : Nat} {ns ns1 ns2 ns3 : List Nd} {n v : Nat} {t : Nat → Bool} {lo hi k e : Nat} (hv : v < 1024)
    (h1 : Built ns n (v + 1) t ns1 lo) (h2 : Built ns1 n (v + 1) (fun i => t (2 ^ n + i)) ns2 hi) (hroom : ns.length + 2 ^ (n + 1) ≤ most + 1)
    (hm : Made most ns2 ⟨v, lo, hi⟩ ns3 k e) : e = 0 ∧ Built ns (n + 1) v t ns3 k := by
  have hp := Nat.pow_succ 2 n
  have f1 := h1.few
  have f2 := h2.few
  have he : e = 0 := by
    rcases Nat.eq_zero_or_pos e with h | h
    · exact h
    · have := hm.fail (by omega)
      omega
  refine ⟨he, ?_⟩
  obtain ⟨g1, g2, g3⟩ := hm.good he
  refine ⟨hm.wf, (h1.ext.trans h2.ext).trans hm.ext, by have := hm.few; omega, g1, g2, fun r => ?_⟩
  rw [g3, h2.ev]
  simp only
  rw [h2.ext.ev h1.wf r lo h1.lt, h1.ev]
  simp only [idx]
  split
  · rfl
  · simp
theorem built_ok {ns ns1 ns2 : List Nd} {n v : Nat} {t u : Nat → Bool} {lo hi : Nat} (hv : v < 1024)
    (h1 : Built ns n (v + 1) t ns1 lo) (h2 : Built ns1 n (v + 1) u ns2 hi) : okNd ns2 ⟨v, lo, hi⟩ := by
  refine ⟨hv, Nat.lt_of_lt_of_le h1.lt h2.ext.length, h2.lt, ?_, h2.var⟩
  simp only
  rw [h2.ext.var h1.lt]; exact h1.var
end Mq
