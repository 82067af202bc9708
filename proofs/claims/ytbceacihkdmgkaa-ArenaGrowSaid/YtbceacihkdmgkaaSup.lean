import Derived.Test.YtbceacihkdmgkaaPrt
set_option linter.unusedVariables false
namespace Mq

/-! ### which variables a diagram asks -/
def addU (U : List Nat) (v : Nat) : List Nat := if v ∈ U then U else U ++ [v]
theorem addU_mem (U : List Nat) (v x : Nat) : x ∈ addU U v ↔ x ∈ U ∨ x = v := by
  unfold addU
  split
  · rename_i h
    exact ⟨.inl, fun q => q.elim id fun e => e ▸ h⟩
  · simp
def visitU (ns : List Nd) (k : Nat) (S U : List Nat) : List Nat × List Nat :=
  if _h : 2 ≤ k ∧ k ∉ S ∧ (nd ns k).lo < k ∧ (nd ns k).hi < k then
    let q := visitU ns (nd ns k).lo (S ++ [k]) (addU U (nd ns k).v)
    visitU ns (nd ns k).hi q.1 q.2
  else (S, U)
termination_by k
theorem visitU_fst (ns : List Nd) (k : Nat) : ∀ S U, (visitU ns k S U).1 = visit ns k S := by
  induction k using Nat.strongRecOn with
  | ind k ih =>
    intro S U
    rw [visitU, visit]
    split
    · rename_i h
      simp only
      rw [ih _ h.2.2.2, ih _ h.2.2.1]
    · rfl
theorem visitU_snd (ns : List Nd) (k : Nat) : ∀ S U, (∀ x, x ∈ U ↔ ∃ y, y ∈ S ∧ var ns y = x) → ∀ x, x ∈ (visitU ns k S U).2 ↔ ∃ y, y ∈ (visitU ns k S U).1 ∧ var ns y = x := by
  induction k using Nat.strongRecOn with
  | ind k ih =>
    intro S U hU
    rw [visitU]
    split
    · rename_i h
      simp only
      refine ih _ h.2.2.2 _ _ (ih _ h.2.2.1 _ _ fun x => ?_)
      rw [addU_mem, hU]
      constructor
      · rintro (⟨y, h1, h2⟩ | rfl)
        · exact ⟨y, List.mem_append_left _ h1, h2⟩
        · exact ⟨k, by simp, rfl⟩
      · rintro ⟨y, h1, h2⟩
        rcases List.mem_append.1 h1 with h1 | h1
        · exact .inl ⟨y, h1, h2⟩
        · simp at h1; subst h1; exact .inr h2.symm
    · exact hU
/-- The variables that the walk finds are those of the nodes. -/
theorem vars_mem {ns : List Nd} (W : WF ns) {f : Nat} (hf : f < ns.length) (x : Nat) : x ∈ (visitU ns f [] []).2 ↔ ∃ y, Reach ns f y ∧ var ns y = x := by
  rw [visitU_snd ns f [] [] (fun x => by simp) x, visitU_fst]
  simp only [(visit_all W hf).2]

theorem ev_off {ns : List Nd} (W : WF ns) (v : Nat) (k : Nat) : k < ns.length → (∀ y, Reach ns k y → var ns y ≠ v) → ∀ r b, ev ns (upd r v b) k = ev ns r k := by
  induction k using Nat.strongRecOn with
  | ind k ih =>
    intro hk hn r b
    rcases Nat.lt_or_ge k 2 with h2 | h2
    · have : k = 0 ∨ k = 1 := by omega
      rcases this with rfl | rfl <;> simp [ev_zero, ev_one]
    · have hin := W.inner k h2 hk
      have hv : (nd ns k).v ≠ v := hn k (.self k h2)
      rw [ev_node W _ h2 hk, ev_node W _ h2 hk, upd_other r b hv, ih _ hin.2.1 (by omega) (fun y hy => hn y (.lo k y h2 hy)), ih _ hin.2.2.1 (by omega) (fun y hy => hn y (.hi k y h2 hy))]

theorem idx_flip : ∀ v, v < 4 → ∀ i, i < 16 → idx 4 0 (upd (rowv i) v (!rowv i v)) = i ^^^ 2 ^ (3 - v) := by decide +kernel
theorem idx_rowv4 : ∀ i, i < 16 → idx 4 0 (rowv i) = i := by decide +kernel
theorem upd_self (r : Nat → Bool) (v : Nat) : upd r v (r v) = r := by
  funext u; unfold upd; split
  · subst_vars; rfl
  · rfl
/-- A diagram doesn't do without the variables that it asks. -/
theorem reach_free {ns : List Nd} {f v : Nat} (W : WF ns) (hf : f < ns.length) (h : ∃ y, Reach ns f y ∧ var ns y = v) (free : ∀ r b, ev ns (upd r v b) f = ev ns r f) : False := by
  obtain ⟨y, h1, h2⟩ := h
  have hy := h1.two
  have hyl : y < ns.length := Nat.lt_of_le_of_lt (h1.le W hf) hf
  obtain ⟨j, q1, q2⟩ := cof_onto W (f := f) h1 0 0 (by simp) rfl (Nat.zero_le _) hf
  obtain ⟨-, -, q3, -⟩ := cof_is W hf (var ns y) (var_le W y) j
  rw [q2] at q3
  refine matters W hy hyl fun r b => ?_
  have hvy : (nd ns y).v = v := h2
  rw [hvy, q3, q3, h2]
  have e : put4 v j (upd r v b) = upd (put4 v j r) v b := by
    funext u
    unfold put4 upd
    by_cases hu : u = v
    · subst hu; simp
    · simp [hu]
  rw [e, free]
/-- Of four variables a diagram asks these alone. -/
theorem vars_lt {ns : List Nd} {f x : Nat} (W : WF ns) (hf : f < ns.length) (he : ∀ r, ev ns r f = x.testBit (idx 4 0 r)) {v : Nat} (hv : v ∈ (visitU ns f [] []).2) : v < 4 := by
  refine Classical.byContradiction fun hc => reach_free W hf ((vars_mem W hf v).1 hv) fun r b => ?_
  rw [he, he, idx_dep 4 0 _ _ fun u hu => upd_other r b (by omega)]
/-- A table hangs on a variable, just if its diagram asks it. -/
theorem hangs_iff {ns : List Nd} {f x : Nat} (W : WF ns) (hf : f < ns.length) (he : ∀ r, ev ns r f = x.testBit (idx 4 0 r)) (v : Nat) (hv : v < 4) :
    (∃ y, Reach ns f y ∧ var ns y = v) ↔ ∃ k, k < 16 ∧ x.testBit k ≠ x.testBit (k ^^^ 2 ^ (3 - v)) := by
  constructor
  · rintro ⟨y, h1, h2⟩
    refine Classical.byContradiction fun hc => ?_
    have h0 : ∀ k, k < 16 → x.testBit k = x.testBit (k ^^^ 2 ^ (3 - v)) := fun k hk => Classical.byContradiction fun q => hc ⟨k, hk, q⟩
    have hy := h1.two
    have hyl : y < ns.length := Nat.lt_of_le_of_lt (h1.le W hf) hf
    obtain ⟨j, q1, q2⟩ := cof_onto W (f := f) h1 0 0 (by simp) rfl (Nat.zero_le _) hf
    obtain ⟨-, -, q3, -⟩ := cof_is W hf (var ns y) (var_le W y) j
    rw [q2] at q3
    -- the diagram doesn't hang on v
    have free : ∀ r b, ev ns (upd r v b) f = ev ns r f := fun r b => by
      by_cases hb : r v = b
      · rw [← hb, upd_self]
      · have hb' : b = !r v := by cases b <;> cases hr : r v <;> simp_all
        rw [he, he]
        have hi := idx_lt 4 0 r
        have e1 : idx 4 0 r = idx 4 0 (rowv (idx 4 0 r)) := (idx_rowv4 _ (by simpa using hi)).symm
        have e2 : ∀ u, u < 4 → r u = rowv (idx 4 0 r) u := fun u hu => by
          have hu' : u = 0 ∨ u = 1 ∨ u = 2 ∨ u = 3 := by omega
          simp only [idx, rowv]
          rcases hu' with rfl | rfl | rfl | rfl <;> simp only [Nat.reduceAdd] <;> cases r 0 <;> cases r 1 <;> cases r 2 <;> cases r 3 <;> rfl
        have e3 : idx 4 0 (upd r v b) = idx 4 0 (upd (rowv (idx 4 0 r)) v (!rowv (idx 4 0 r) v)) := idx_dep 4 0 _ _ fun u hu => by
          unfold upd
          split
          · rw [hb', e2 v hv]
          · exact e2 u (by omega)
        rw [e3, idx_flip v hv _ (by simpa using hi), ← h0 _ (by simpa using hi)]
    refine matters W hy hyl fun r b => ?_
    have hvy : (nd ns y).v = v := h2
    rw [hvy, q3, q3, h2]
    have e : put4 v j (upd r v b) = upd (put4 v j r) v b := by
      funext u
      unfold put4 upd
      by_cases hu : u = v
      · subst hu; simp
      · simp [hu]
    rw [e, free]
  · rintro ⟨k, h1, h2⟩
    refine Classical.byContradiction fun hc => ?_
    have hn : ∀ y, Reach ns f y → var ns y ≠ v := fun y hy q => hc ⟨y, hy, q⟩
    have := ev_off W v f hf hn (rowv k) (!rowv k v)
    rw [he, he, idx_flip v hv k h1, idx_rowv4 k h1] at this
    exact h2 this.symm
end Mq
