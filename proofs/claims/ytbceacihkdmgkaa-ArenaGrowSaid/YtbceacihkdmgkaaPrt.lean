import Derived.Test.YtbceacihkdmgkaaVis
set_option linter.unusedVariables false
namespace Mq

/-- Values of four variables by a number's bits. -/
def rowv (i u : Nat) : Bool := (i >>> (3 - u)) % 2 == 1
theorem idx_rowv : ∀ v, v < 5 → ∀ i, i < 2 ^ (4 - v) → idx (4 - v) v (rowv i) = i := by decide +kernel
theorem idx_put4 (v : Nat) (hv : v < 5) (j : Nat) (hj : j < 2 ^ v) (r : Nat → Bool) : idx 4 0 (put4 v j r) = 2 ^ (4 - v) * j + idx (4 - v) v r := by
  have hv' : v = 0 ∨ v = 1 ∨ v = 2 ∨ v = 3 ∨ v = 4 := by omega
  rcases hv' with rfl | rfl | rfl | rfl | rfl
  · simp at hj; subst hj
    simp [idx, put4]
  · have hj' : j = 0 ∨ j = 1 := by simp at hj; omega
    rcases hj' with rfl | rfl <;> simp [idx, put4]
  · have hj' : j = 0 ∨ j = 1 ∨ j = 2 ∨ j = 3 := by simp at hj; omega
    rcases hj' with rfl | rfl | rfl | rfl <;> simp [idx, put4] <;> omega
  · have hj' : j = 0 ∨ j = 1 ∨ j = 2 ∨ j = 3 ∨ j = 4 ∨ j = 5 ∨ j = 6 ∨ j = 7 := by simp at hj; omega
    rcases hj' with rfl | rfl | rfl | rfl | rfl | rfl | rfl | rfl <;> simp [idx, put4] <;> omega
  · have hj' : j = 0 ∨ j = 1 ∨ j = 2 ∨ j = 3 ∨ j = 4 ∨ j = 5 ∨ j = 6 ∨ j = 7 ∨ j = 8 ∨ j = 9 ∨ j = 10 ∨ j = 11 ∨ j = 12 ∨ j = 13 ∨ j = 14 ∨ j = 15 := by simp at hj; omega
    rcases hj' with rfl | rfl | rfl | rfl | rfl | rfl | rfl | rfl | rfl | rfl | rfl | rfl | rfl | rfl | rfl | rfl <;> simp [idx, put4]

/-- The part of a table where the first v variables have the values of j's bits. -/
def part4 (x v j : Nat) : Nat := x / 2 ^ (2 ^ (4 - v) * j) % 2 ^ 2 ^ (4 - v)
theorem part4_bit (x v j t : Nat) : (part4 x v j).testBit t = (decide (t < 2 ^ (4 - v)) && x.testBit (2 ^ (4 - v) * j + t)) := by
  unfold part4
  rw [Nat.testBit_mod_two_pow, Nat.testBit_div_two_pow, Nat.add_comm]
theorem part4_eq (x v i j : Nat) : part4 x v i = part4 x v j ↔ ∀ t, t < 2 ^ (4 - v) → x.testBit (2 ^ (4 - v) * i + t) = x.testBit (2 ^ (4 - v) * j + t) := by
  constructor
  · intro h t ht
    have := congrArg (fun z => z.testBit t) h
    simpa [part4_bit, ht] using this
  · intro h
    apply Nat.eq_of_testBit_eq
    intro t
    rw [part4_bit, part4_bit]
    by_cases ht : t < 2 ^ (4 - v)
    · rw [h t ht]
    · simp [ht]
theorem part4_low (x v j : Nat) (hv : v < 4) : part4 x v j % 2 ^ 2 ^ (4 - (v + 1)) = part4 x v j / 2 ^ 2 ^ (4 - (v + 1)) ↔ part4 x (v + 1) (2 * j) = part4 x (v + 1) (2 * j + 1) := by
  have hp : 2 ^ (4 - v) = 2 * 2 ^ (4 - (v + 1)) := by rw [show 4 - v = 4 - (v + 1) + 1 by omega, Nat.pow_succ, Nat.mul_comm]
  rw [part4_eq]
  generalize hh : 2 ^ (4 - (v + 1)) = h at *
  have b : ∀ t, (part4 x v j).testBit t = (decide (t < 2 * h) && x.testBit (2 * h * j + t)) := fun t => by rw [part4_bit, hp]
  have e1 : h * (2 * j) = 2 * h * j := by rw [Nat.mul_comm 2 h, Nat.mul_assoc]
  have e2 : h * (2 * j + 1) = 2 * h * j + h := by rw [Nat.mul_add, e1, Nat.mul_one]
  rw [e1, e2]
  constructor
  · intro q t ht
    have := congrArg (fun z => z.testBit t) q
    simp only [Nat.testBit_mod_two_pow, Nat.testBit_div_two_pow, b] at this
    simp only [ht, show t < 2 * h by omega, show t + h < 2 * h by omega, decide_true, Bool.true_and] at this
    rw [this]; congr 1; omega
  · intro q
    apply Nat.eq_of_testBit_eq
    intro t
    simp only [Nat.testBit_mod_two_pow, Nat.testBit_div_two_pow, b]
    by_cases ht : t < h
    · simp only [ht, show t < 2 * h by omega, show t + h < 2 * h by omega, decide_true, Bool.true_and]
      rw [q t ht]; congr 1; omega
    · have h2 : ¬ (t + h < 2 * h) := by omega
      simp [ht, h2]

section
variable {ns : List Nd} {f x : Nat}
theorem part_cof (W : WF ns) (hf : f < ns.length) (he : ∀ r, ev ns r f = x.testBit (idx 4 0 r)) (v : Nat) (hv : v < 5) (i j : Nat) (hi : i < 2 ^ v) (hj : j < 2 ^ v) : part4 x v i = part4 x v j ↔ cof ns f v i = cof ns f v j := by
  obtain ⟨i1, -, i3, -⟩ := cof_is W hf v (by omega) i
  obtain ⟨j1, -, j3, -⟩ := cof_is W hf v (by omega) j
  rw [part4_eq]
  constructor
  · intro h
    refine canon W i1 j1 fun r => ?_
    rw [i3, j3, he, he, idx_put4 v hv i hi, idx_put4 v hv j hj]
    exact h _ (idx_lt _ _ _)
  · intro h t ht
    have a := i3 (rowv t)
    have b := j3 (rowv t)
    rw [he, idx_put4 v hv _ (by assumption), idx_rowv v hv t ht] at a b
    rw [← a, ← b, h]
theorem low_cof (W : WF ns) (hf : f < ns.length) (he : ∀ r, ev ns r f = x.testBit (idx 4 0 r)) (v : Nat) (hv : v < 4) (j : Nat) (hj : j < 2 ^ v) :
    part4 x v j % 2 ^ 2 ^ (4 - (v + 1)) = part4 x v j / 2 ^ 2 ^ (4 - (v + 1)) ↔ var ns (cof ns f v j) ≠ v := by
  have hp := Nat.pow_succ 2 v
  rw [part4_low x v j hv, part_cof W hf he (v + 1) (by omega) _ _ (by omega) (by omega)]
  obtain ⟨i1, i2, -, -⟩ := cof_is W hf v (by omega) j
  show half ns (cof ns f v (2 * j / 2)) v (2 * j % 2 == 1) = half ns (cof ns f v ((2 * j + 1) / 2)) v ((2 * j + 1) % 2 == 1) ↔ _
  rw [show 2 * j / 2 = j by omega, show (2 * j + 1) / 2 = j by omega, show (2 * j % 2 == 1) = false by simp, show ((2 * j + 1) % 2 == 1) = true by simp]
  generalize cof ns f v j = c at *
  unfold half
  by_cases hc : var ns c = v
  · rw [if_pos hc, if_pos hc]
    have h2 : 2 ≤ c := by
      rcases Nat.lt_or_ge c 2 with h | h
      · have := (var_last W i1).2 h; omega
      · exact h
    have := (W.inner c h2 i1).2.2.2.1
    simp [hc, this]
  · rw [if_neg hc, if_neg hc]
    simp [hc]
/-- The law's own count at a variable. -/
def parts (x v : Nat) (n : Nat) : List Nat := uniq (fun j => decide (part4 x v j % 2 ^ 2 ^ (4 - (v + 1)) ≠ part4 x v j / 2 ^ 2 ^ (4 - (v + 1)))) (part4 x v) n
theorem parts_lvl (W : WF ns) (hf : f < ns.length) (he : ∀ r, ev ns r f = x.testBit (idx 4 0 r)) (v : Nat) (hv : v < 4) : (parts x v (2 ^ v)).length = (lvl ns f v).length := by
  unfold parts lvl
  refine uniq_length _ (fun i hi => ?_) fun i j hi hj => part_cof W hf he v (by omega) i j hi hj
  have := low_cof W hf he v hv i hi
  rw [decide_eq_decide]
  rw [ne_eq, this]
  simp
/-- A diagram has as many nodes as its table has unlike parts that hang on their first variable. -/
theorem size_parts (W : WF ns) (hf : f < ns.length) (he : ∀ r, ev ns r f = x.testBit (idx 4 0 r)) : (visit ns f []).length = (parts x 0 1).length + (parts x 1 2).length + (parts x 2 4).length + (parts x 3 8).length := by
  have hd : Dep 4 ns f := Dep.of_fun he fun r s e => by rw [idx_dep 4 0 r s (fun u hu => e u (by omega))]
  rw [visit_lvl W hf hd]
  have a := parts_lvl W hf he 0 (by omega)
  have b := parts_lvl W hf he 1 (by omega)
  have c := parts_lvl W hf he 2 (by omega)
  have d := parts_lvl W hf he 3 (by omega)
  simp only [Nat.reducePow] at a b c d
  omega
end
end Mq
