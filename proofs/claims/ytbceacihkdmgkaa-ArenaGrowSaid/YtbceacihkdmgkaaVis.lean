import Derived.Test.YtbceacihkdmgkaaBdi
set_option linter.unusedVariables false
namespace Mq

/-! ### what a walk over a diagram has seen -/
def visit (ns : List Nd) (k : Nat) (S : List Nat) : List Nat :=
  if _h : 2 ≤ k ∧ k ∉ S ∧ (nd ns k).lo < k ∧ (nd ns k).hi < k then visit ns (nd ns k).hi (visit ns (nd ns k).lo (S ++ [k])) else S
termination_by k
theorem visit_low (ns : List Nd) (k : Nat) (S : List Nat) (h : k < 2) : visit ns k S = S := by rw [visit, dif_neg (fun q => by omega)]

/-- The nodes of a diagram. -/
inductive Reach (ns : List Nd) : Nat → Nat → Prop
  | self (k : Nat) : 2 ≤ k → Reach ns k k
  | lo (k x : Nat) : 2 ≤ k → Reach ns (nd ns k).lo x → Reach ns k x
  | hi (k x : Nat) : 2 ≤ k → Reach ns (nd ns k).hi x → Reach ns k x
theorem Reach.two {ns : List Nd} {k x : Nat} (h : Reach ns k x) : 2 ≤ x := by
  induction h with
  | self k h => exact h
  | lo k x h _ ih => exact ih
  | hi k x h _ ih => exact ih
theorem Reach.le {ns : List Nd} (W : WF ns) {k x : Nat} (h : Reach ns k x) : k < ns.length → x ≤ k := by
  induction h with
  | self k h => intro _; exact Nat.le_refl _
  | lo k x h _ ih => intro hk; have := W.inner k h hk; have := ih (by omega); omega
  | hi k x h _ ih => intro hk; have := W.inner k h hk; have := ih (by omega); omega
theorem Reach.trans {ns : List Nd} {k x y : Nat} (h : Reach ns k x) (g : Reach ns x y) : Reach ns k y := by
  induction h with
  | self k h => exact g
  | lo k x h _ ih => exact .lo k y h (ih g)
  | hi k x h _ ih => exact .hi k y h (ih g)
theorem reach_low {ns : List Nd} {k x : Nat} (h : k < 2) : ¬ Reach ns k x := fun q => by cases q <;> omega

/-- Whatever lies below a bound and has been seen, has been seen with all its nodes. -/
def Closed (ns : List Nd) (m : Nat) (S : List Nat) : Prop := ∀ y ∈ S, y ≤ m → ∀ x, Reach ns y x → x ∈ S
theorem visit_mem {ns : List Nd} (W : WF ns) (k : Nat) : k < ns.length → ∀ S, Closed ns k S → ∀ x, x ∈ visit ns k S ↔ x ∈ S ∨ Reach ns k x := by
  induction k using Nat.strongRecOn with
  | ind k ih =>
    intro hk S hS x
    rcases Nat.lt_or_ge k 2 with h2 | h2
    · rw [visit_low _ _ _ h2]
      exact ⟨.inl, fun h => h.elim id fun q => (reach_low h2 q).elim⟩
    · have hin := W.inner k h2 hk
      rw [visit]
      by_cases hkS : k ∈ S
      · rw [dif_neg (fun q => q.2.1 hkS)]
        exact ⟨.inl, fun h => h.elim id fun q => hS k hkS (Nat.le_refl _) x q⟩
      · rw [dif_pos ⟨h2, hkS, hin.2.1, hin.2.2.1⟩]
        have c1 : Closed ns (nd ns k).lo (S ++ [k]) := fun y hy hle z hz => by
          rcases List.mem_append.1 hy with hy | hy
          · exact List.mem_append_left _ (hS y hy (by omega) z hz)
          · simp at hy; omega
        have m1 := ih _ hin.2.1 (by omega) (S ++ [k]) c1
        have c2 : Closed ns (nd ns k).hi (visit ns (nd ns k).lo (S ++ [k])) := fun y hy hle z hz => by
          rcases (m1 y).1 hy with hy | hy
          · rcases List.mem_append.1 hy with hy | hy
            · exact (m1 z).2 (.inl (List.mem_append_left _ (hS y hy (by omega) z hz)))
            · simp at hy; omega
          · exact (m1 z).2 (.inr (hy.trans hz))
        rw [ih _ hin.2.2.1 (by omega) _ c2, m1]
        constructor
        · rintro ((h | h) | h)
          · rcases List.mem_append.1 h with h | h
            · exact .inl h
            · simp at h; subst h; exact .inr (.self _ h2)
          · exact .inr (.lo k x h2 h)
          · exact .inr (.hi k x h2 h)
        · rintro (h | h)
          · exact .inl (.inl (List.mem_append_left _ h))
          · cases h with
            | self _ => exact .inl (.inl (by simp))
            | lo _ _ _ h => exact .inl (.inr h)
            | hi _ _ _ h => exact .inr h
theorem visit_nodup (ns : List Nd) (k : Nat) : ∀ S : List Nat, S.Nodup → (visit ns k S).Nodup := by
  induction k using Nat.strongRecOn with
  | ind k ih =>
    intro S hS
    rw [visit]
    split
    · rename_i h
      refine ih _ h.2.2.2 _ (ih _ h.2.2.1 _ ?_)
      rw [List.nodup_append]
      refine ⟨hS, by simp, fun x hx y hy => ?_⟩
      simp at hy
      subst hy
      rintro rfl
      exact h.2.1 hx
    · exact hS
theorem visit_all {ns : List Nd} (W : WF ns) {k : Nat} (hk : k < ns.length) : (visit ns k []).Nodup ∧ ∀ x, x ∈ visit ns k [] ↔ Reach ns k x :=
  ⟨visit_nodup ns k [] List.nodup_nil, fun x => by rw [visit_mem W k hk [] (fun y hy => by cases hy) x]; simp⟩

/-! ### the halves of halves -/
/-- The part of a diagram where the first v variables have the values of j's bits. -/
def cof (ns : List Nd) (f : Nat) : Nat → Nat → Nat
  | 0, _ => f
  | v + 1, j => half ns (cof ns f v (j / 2)) v (j % 2 == 1)
/-- These values put in. -/
def put4 (v j : Nat) (r : Nat → Bool) (u : Nat) : Bool := if u < v then (j >>> (v - 1 - u)) % 2 == 1 else r u
theorem put4_step (v j : Nat) (r : Nat → Bool) : put4 v (j / 2) (upd r v (j % 2 == 1)) = put4 (v + 1) j r := by
  funext u
  unfold put4 upd
  by_cases h : u < v
  · rw [if_pos h, if_pos (by omega)]
    have e : v + 1 - 1 - u = (v - 1 - u) + 1 := by omega
    rw [e, Nat.shiftRight_add, Nat.shiftRight_eq_div_pow, Nat.shiftRight_eq_div_pow, Nat.shiftRight_eq_div_pow, Nat.div_div_eq_div_mul, Nat.div_div_eq_div_mul, Nat.pow_one, Nat.mul_comm]
  · rw [if_neg h]
    by_cases e : u = v
    · subst e
      rw [if_pos rfl, if_pos (by omega)]
      simp
    · rw [if_neg e, if_neg (by omega)]
theorem cof_is {ns : List Nd} (W : WF ns) {f : Nat} (hf : f < ns.length) (v : Nat) (hv : v ≤ 1024) : ∀ j, cof ns f v j < ns.length ∧ v ≤ var ns (cof ns f v j) ∧ (∀ r, ev ns r (cof ns f v j) = ev ns (put4 v j r) f) ∧
    (cof ns f v j < 2 ∨ Reach ns f (cof ns f v j)) := by
  induction v with
  | zero =>
    intro j
    refine ⟨hf, Nat.zero_le _, fun r => ?_, ?_⟩
    · have : put4 0 j r = r := by funext u; simp [put4]
      rw [this]; rfl
    · rcases Nat.lt_or_ge f 2 with h | h
      · exact .inl h
      · exact .inr (.self f h)
  | succ v ih =>
    intro j
    obtain ⟨i1, i2, i3, i4⟩ := ih (by omega) (j / 2)
    have q := half_is W i1 (v := v) (by omega) i2 (j % 2 == 1)
    refine ⟨q.lt, q.var, fun r => ?_, ?_⟩
    · show ev ns r (half ns (cof ns f v (j / 2)) v (j % 2 == 1)) = _
      rw [q.ev, i3, put4_step]
    · show half ns (cof ns f v (j / 2)) v (j % 2 == 1) < 2 ∨ Reach ns f (half ns (cof ns f v (j / 2)) v (j % 2 == 1))
      generalize cof ns f v (j / 2) = c at *
      unfold half
      split
      · rename_i hc
        have hc2 : 2 ≤ c := by
          rcases Nat.lt_or_ge c 2 with h | h
          · have := (var_last W i1).2 h; omega
          · exact h
        have rc : Reach ns f c := i4.resolve_left (by omega)
        split
        · rcases Nat.lt_or_ge (nd ns c).hi 2 with h | h
          · exact .inl h
          · exact .inr (rc.trans (.hi c _ hc2 (.self _ h)))
        · rcases Nat.lt_or_ge (nd ns c).lo 2 with h | h
          · exact .inl h
          · exact .inr (rc.trans (.lo c _ hc2 (.self _ h)))
      · exact i4

theorem cof_down {ns : List Nd} {f u i k : Nat} (hc : cof ns f u i = k) (hi : i < 2 ^ u) (n : Nat) : u + n ≤ var ns k → ∃ j, j < 2 ^ (u + n) ∧ cof ns f (u + n) j = k := by
  induction n with
  | zero => intro _; exact ⟨i, hi, hc⟩
  | succ n ih =>
    intro h
    obtain ⟨j, h1, h2⟩ := ih (by omega)
    refine ⟨j * 2, ?_, ?_⟩
    · have := Nat.pow_succ 2 (u + n)
      rw [show u + (n + 1) = u + n + 1 by omega]
      omega
    · show half ns (cof ns f (u + n) (j * 2 / 2)) (u + n) (j * 2 % 2 == 1) = k
      rw [Nat.mul_div_cancel _ (by omega), h2]
      unfold half
      rw [if_neg (by omega)]
/-- Each node is the part at some values of the variables ahead of its own. -/
theorem cof_onto {ns : List Nd} (W : WF ns) {f k x : Nat} (h : Reach ns k x) : ∀ u i, i < 2 ^ u → cof ns f u i = k → u ≤ var ns k → k < ns.length → ∃ j, j < 2 ^ var ns x ∧ cof ns f (var ns x) j = x := by
  have step : ∀ k, 2 ≤ k → k < ns.length → ∀ u i, i < 2 ^ u → cof ns f u i = k → u ≤ var ns k → ∀ b : Bool, ∃ j, j < 2 ^ (var ns k + 1) ∧ cof ns f (var ns k + 1) j = if b then (nd ns k).hi else (nd ns k).lo := by
    intro k h2 hk u i hi hc hu b
    obtain ⟨j, h1, h3⟩ := cof_down hc hi (var ns k - u) (by omega)
    rw [show u + (var ns k - u) = var ns k by omega] at h1 h3
    refine ⟨j * 2 + if b then 1 else 0, ?_, ?_⟩
    · have := Nat.pow_succ 2 (var ns k)
      split <;> omega
    · show half ns (cof ns f (var ns k) ((j * 2 + if b then 1 else 0) / 2)) (var ns k) ((j * 2 + if b then 1 else 0) % 2 == 1) = _
      have e1 : (j * 2 + if b then 1 else 0) / 2 = j := by split <;> omega
      have e2 : ((j * 2 + if b then 1 else 0) % 2 == 1) = b := by cases b <;> simp <;> omega
      rw [e1, e2, h3]
      unfold half
      rw [if_pos rfl]
  induction h with
  | self k h2 =>
    intro u i hi hc hu hk
    obtain ⟨j, h1, h3⟩ := cof_down hc hi (var ns k - u) (by omega)
    rw [show u + (var ns k - u) = var ns k by omega] at h1 h3
    exact ⟨j, h1, h3⟩
  | lo k x h2 _ ih =>
    intro u i hi hc hu hk
    obtain ⟨j, h1, h3⟩ := step k h2 hk u i hi hc hu false
    have hin := W.inner k h2 hk
    exact ih (var ns k + 1) j h1 h3 (by have := hin.2.2.2.2.1; unfold var at *; omega) (by omega)
  | hi k x h2 _ ih =>
    intro u i hi hc hu hk
    obtain ⟨j, h1, h3⟩ := step k h2 hk u i hi hc hu true
    have hin := W.inner k h2 hk
    exact ih (var ns k + 1) j h1 h3 (by have := hin.2.2.2.2.2; unfold var at *; omega) (by omega)

/-! ### unlike things, one by one -/
def uniq (p : Nat → Bool) (g : Nat → Nat) : Nat → List Nat
  | 0 => []
  | n + 1 => if p n ∧ g n ∉ uniq p g n then uniq p g n ++ [g n] else uniq p g n
theorem uniq_mem (p : Nat → Bool) (g : Nat → Nat) (n : Nat) : ∀ x, x ∈ uniq p g n ↔ ∃ i, i < n ∧ p i = true ∧ g i = x := by
  induction n with
  | zero => intro x; simp [uniq]
  | succ n ih =>
    intro x
    have old : (∃ i, i < n + 1 ∧ p i = true ∧ g i = x) ↔ (∃ i, i < n ∧ p i = true ∧ g i = x) ∨ (p n = true ∧ g n = x) := by
      constructor
      · rintro ⟨i, h1, h2, h3⟩
        by_cases e : i = n
        · subst e; exact .inr ⟨h2, h3⟩
        · exact .inl ⟨i, by omega, h2, h3⟩
      · rintro (⟨i, h1, h2, h3⟩ | ⟨h2, h3⟩)
        · exact ⟨i, by omega, h2, h3⟩
        · exact ⟨n, by omega, h2, h3⟩
    rw [old, ← ih x, uniq]
    split
    · rename_i h
      rw [List.mem_append]
      constructor
      · rintro (q | q)
        · exact .inl q
        · simp at q; exact .inr ⟨h.1, q.symm⟩
      · rintro (q | q)
        · exact .inl q
        · exact .inr (by simp [q.2])
    · rename_i h
      constructor
      · exact .inl
      · rintro (q | q)
        · exact q
        · rw [← q.2]
          exact Classical.byContradiction fun hn => h ⟨q.1, hn⟩
theorem uniq_nodup (p : Nat → Bool) (g : Nat → Nat) (n : Nat) : (uniq p g n).Nodup := by
  induction n with
  | zero => simp [uniq]
  | succ n ih =>
    rw [uniq]
    split
    · rename_i h
      rw [List.nodup_append]
      refine ⟨ih, by simp, fun x hx y hy => ?_⟩
      simp at hy
      subst hy
      rintro rfl
      exact h.2 hx
    · exact ih
theorem uniq_length {p q : Nat → Bool} {g h : Nat → Nat} (n : Nat) (hp : ∀ i, i < n → p i = q i) (hg : ∀ i j, i < n → j < n → (g i = g j ↔ h i = h j)) : (uniq p g n).length = (uniq q h n).length := by
  induction n with
  | zero => rfl
  | succ n ih =>
    have e := ih (fun i hi => hp i (by omega)) (fun i j hi hj => hg i j (by omega) (by omega))
    have m : g n ∈ uniq p g n ↔ h n ∈ uniq q h n := by
      rw [uniq_mem, uniq_mem]
      constructor
      · rintro ⟨i, h1, h2, h3⟩
        exact ⟨i, h1, (hp i (by omega)).symm.trans h2, (hg i n (by omega) (by omega)).1 h3⟩
      · rintro ⟨i, h1, h2, h3⟩
        exact ⟨i, h1, (hp i (by omega)).trans h2, (hg i n (by omega) (by omega)).2 h3⟩
    rw [uniq, uniq, hp n (by omega)]
    by_cases hc : q n = true ∧ g n ∉ uniq p g n
    · rw [if_pos hc, if_pos ⟨hc.1, fun x => hc.2 (m.2 x)⟩]
      simp [e]
    · rw [if_neg hc, if_neg (fun x => hc ⟨x.1, fun y => x.2 (m.1 y)⟩)]
      exact e

/-- The nodes that ask variable v. -/
def lvl (ns : List Nd) (f v : Nat) : List Nat := uniq (fun j => decide (var ns (cof ns f v j) = v)) (cof ns f v) (2 ^ v)
theorem lvl_mem {ns : List Nd} (W : WF ns) {f v : Nat} (hf : f < ns.length) (hv : v < 1024) (x : Nat) : x ∈ lvl ns f v ↔ Reach ns f x ∧ var ns x = v := by
  unfold lvl
  rw [uniq_mem]
  constructor
  · rintro ⟨i, h1, h2, h3⟩
    obtain ⟨q1, q2, q3, q4⟩ := cof_is W hf v (by omega) i
    have h2' : var ns (cof ns f v i) = v := by simpa using h2
    subst h3
    refine ⟨q4.resolve_left fun h => ?_, h2'⟩
    have := (var_last W q1).2 h; omega
  · rintro ⟨h1, h2⟩
    obtain ⟨j, q1, q2⟩ := cof_onto W (f := f) h1 0 0 (by simp) rfl (Nat.zero_le _) hf
    rw [h2] at q1 q2
    exact ⟨j, q1, by simp [q2, h2], q2⟩
/-- A diagram of four variables: its nodes, by their variables. -/
theorem visit_lvl {ns : List Nd} (W : WF ns) {f : Nat} (hf : f < ns.length) (hd : Dep 4 ns f) : (visit ns f []).length = (lvl ns f 0).length + (lvl ns f 1).length + (lvl ns f 2).length + (lvl ns f 3).length := by
  obtain ⟨n1, m1⟩ := visit_all W hf
  have hdep : ∀ x, Reach ns f x → var ns x < 4 := by
    intro x hr
    have h2 := hr.two
    have hx : x < ns.length := Nat.lt_of_le_of_lt (hr.le W hf) hf
    obtain ⟨j, q1, q2⟩ := cof_onto W (f := f) hr 0 0 (by simp) rfl (Nat.zero_le _) hf
    obtain ⟨-, -, q3, -⟩ := cof_is W hf (var ns x) (var_le W x) j
    rw [q2] at q3
    refine Dep.var W hx (fun r s e => ?_) h2
    rw [q3, q3]
    refine hd _ _ fun u hu => ?_
    unfold put4
    split
    · rfl
    · exact e u hu
  have n2 : (lvl ns f 0 ++ lvl ns f 1 ++ lvl ns f 2 ++ lvl ns f 3).Nodup := by
    have d : ∀ u v, u ≠ v → u < 4 → v < 4 → ∀ x, x ∈ lvl ns f u → ∀ y, y ∈ lvl ns f v → x ≠ y := by
      rintro u v huv hu hv x hx y hy rfl
      have a := (lvl_mem W hf (by omega) x).1 hx
      have b := (lvl_mem W hf (by omega) x).1 hy
      exact huv (a.2.symm.trans b.2)
    rw [List.nodup_append, List.nodup_append, List.nodup_append]
    refine ⟨⟨⟨uniq_nodup _ _ _, uniq_nodup _ _ _, d 0 1 (by omega) (by omega) (by omega)⟩, uniq_nodup _ _ _, fun x hx y hy => ?_⟩, uniq_nodup _ _ _, fun x hx y hy => ?_⟩
    · rcases List.mem_append.1 hx with hx | hx
      · exact d 0 2 (by omega) (by omega) (by omega) x hx y hy
      · exact d 1 2 (by omega) (by omega) (by omega) x hx y hy
    · rcases List.mem_append.1 hx with hx | hx
      · rcases List.mem_append.1 hx with hx | hx
        · exact d 0 3 (by omega) (by omega) (by omega) x hx y hy
        · exact d 1 3 (by omega) (by omega) (by omega) x hx y hy
      · exact d 2 3 (by omega) (by omega) (by omega) x hx y hy
  have p : (visit ns f []).Perm (lvl ns f 0 ++ lvl ns f 1 ++ lvl ns f 2 ++ lvl ns f 3) := by
    rw [List.perm_ext_iff_of_nodup n1 n2]
    intro x
    rw [m1]
    simp only [List.mem_append, lvl_mem W hf (show 0 < 1024 by omega), lvl_mem W hf (show 1 < 1024 by omega), lvl_mem W hf (show 2 < 1024 by omega), lvl_mem W hf (show 3 < 1024 by omega)]
    constructor
    · intro h
      have := hdep x h
      have q : var ns x = 0 ∨ var ns x = 1 ∨ var ns x = 2 ∨ var ns x = 3 := by omega
      rcases q with q | q | q | q
      · exact .inl (.inl (.inl ⟨h, q⟩))
      · exact .inl (.inl (.inr ⟨h, q⟩))
      · exact .inl (.inr ⟨h, q⟩)
      · exact .inr ⟨h, q⟩
    · rintro (((h | h) | h) | h) <;> exact h.1
  rw [p.length_eq]
  simp
  omega
end Mq
