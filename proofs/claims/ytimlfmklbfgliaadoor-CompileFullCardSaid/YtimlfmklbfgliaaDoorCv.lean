import Derived.Test.YtimlfmklbfgliaaDoorCu
import Derived.ChangeKeysEq
set_option linter.unusedVariables false
namespace Mq
open Go.Proofs.YtimlfmklbfgliaaDoor
/-! ### policies to the number -/
theorem polP_all {most : Nat} {T : Nat → Nat → Bool} {ns : List Nd} (W : WF ns) (hroom : ns.length + 360 ≤ most) : ∀ k, k ≤ 24 →
    (polP most T k ns).2.2 = 0 ∧ WF (polP most T k ns).1 ∧ Ext ns (polP most T k ns).1 ∧ (polP most T k ns).1.length ≤ ns.length + 15 * k ∧ (polP most T k ns).2.1.length = k ∧
    ∀ (j u : Nat), (polP most T k ns).2.1[j]? = some u → u < (polP most T k ns).1.length ∧ ∀ r, ev (polP most T k ns).1 r u = T j (idx 4 0 r) := by
  intro k
  induction k with
  | zero => intro _; exact ⟨rfl, W, Ext.refl _, by simp [polP], rfl, fun j u h => by simp [polP] at h⟩
  | succ k ih =>
    intro hk
    obtain ⟨h1, h2, h3, h4, h5, h6⟩ := ih (by omega)
    obtain ⟨q1, q2⟩ := tbP_all most (T k) 4 0 0 (polP most T k ns).1 h2 (by omega) (by simp; omega)
    have qf := q2.few
    have qx := q2.ext
    have e : polP most T (k + 1) ns = ((tbP most (T k) 4 0 0 (polP most T k ns).1).1, (polP most T k ns).2.1 ++ [(tbP most (T k) 4 0 0 (polP most T k ns).1).2.1], 0) := by
      rw [polP, if_pos h1, if_pos q1]
    rw [e]
    refine ⟨rfl, q2.wf, h3.trans qx, by simp only; simp at qf; omega, by simp [h5], fun j u hu => ?_⟩
    simp only at hu ⊢
    by_cases hj : j < k
    · rw [List.getElem?_append_left (by omega)] at hu
      obtain ⟨a1, a2⟩ := h6 j u hu
      exact ⟨Nat.lt_of_lt_of_le a1 qx.length, fun r => by rw [qx.ev h2 r u a1, a2]⟩
    · have hjk : j = k := by have := (List.getElem?_eq_some_iff.1 hu).1; simp [h5] at this; omega
      subst hjk
      rw [List.getElem?_append_right (by omega), h5] at hu
      simp at hu
      subst hu
      exact ⟨q2.lt, fun r => by rw [q2.ev]; simp⟩
theorem polP_ok {most : Nat} {T : Nat → Nat → Bool} {ns : List Nd} (W : WF ns) (hroom : ns.length + 360 ≤ most) : PolOk (polP most T 24 ns).1 T (polP most T 24 ns).2.1 := by
  obtain ⟨h1, h2, h3, h4, h5, h6⟩ := polP_all (T := T) W hroom 24 (by omega)
  exact ⟨h5, fun k u h => (h6 k u h).1, fun k u h => (h6 k u h).2⟩
theorem PolOk.ext {ns ns' : List Nd} {T : Nat → Nat → Bool} {L : List Nat} (h : PolOk ns T L) (W : WF ns) (x : Ext ns ns') : PolOk ns' T L :=
  ⟨h.len, fun k u hu => Nat.lt_of_lt_of_le (h.lt k u hu) x.length, fun k u hu r => by rw [x.ev W r u (h.lt k u hu), h.ev k u hu]⟩
theorem rowv_idx : ∀ t, t < 16 → idx 4 0 (rowT t) = t := by decide
/-- Two policies in one arena are the same just if their tables are. -/
theorem PolOk.same {ns : List Nd} {T T' : Nat → Nat → Bool} {L L' : List Nat} (W : WF ns) (h : PolOk ns T L) (h' : PolOk ns T' L') : L = L' ↔ ∀ k, k < 24 → ∀ t, t < 16 → T k t = T' k t := by
  constructor
  · rintro rfl k hk t ht
    obtain ⟨u, hu⟩ : ∃ u, L[k]? = some u := ⟨_, List.getElem?_eq_getElem (by rw [h.len]; exact hk)⟩
    have a := h.ev k u hu (rowT t)
    have b := h'.ev k u hu (rowT t)
    rw [rowv_idx t ht] at a b
    rw [← a, b]
  · intro he
    refine List.ext_getElem (by rw [h.len, h'.len]) fun k h1 h2 => ?_
    have u1 := List.getElem?_eq_getElem h1
    have u2 := List.getElem?_eq_getElem h2
    refine canon W (h.lt k _ u1) (h'.lt k _ u2) fun r => ?_
    rw [h.ev k _ u1, h'.ev k _ u2, he k (by rw [h.len] at h1; exact h1) _ (by have := idx_lt 4 0 r; simpa using this)]
theorem polP_other {most most' : Nat} {T : Nat → Nat → Bool} {ns : List Nd} (W : WF ns) (hroom : ns.length + 360 ≤ most) (hl : ns.length ≤ most') : ∀ k, k ≤ 24 →
    (polP most' T k ns = polP most T k ns ∧ (polP most T k ns).1.length ≤ most') ∨ ((polP most' T k ns).2.2 = 8 ∧ (polP most' T k ns).2.1 = [] ∧ most' < (polP most T k ns).1.length) := by
  intro k
  induction k with
  | zero => intro _; exact .inl ⟨rfl, hl⟩
  | succ k ih =>
    intro hk
    obtain ⟨h1, h2, h3, h4, h5, h6⟩ := polP_all (T := T) W hroom k (by omega)
    obtain ⟨q1, q2⟩ := tbP_all most (T k) 4 0 0 (polP most T k ns).1 h2 (by omega) (by simp; omega)
    have qx := q2.ext.length
    have e : polP most T (k + 1) ns = ((tbP most (T k) 4 0 0 (polP most T k ns).1).1, (polP most T k ns).2.1 ++ [(tbP most (T k) 4 0 0 (polP most T k ns).1).2.1], 0) := by
      rw [polP, if_pos h1, if_pos q1]
    rcases ih (by omega) with ⟨a1, a2⟩ | ⟨a1, a2, a3⟩
    · rcases tbP_other most most' (T k) 4 0 0 _ h2 (by omega) q1 a2 with ⟨b1, b2⟩ | ⟨b1, b2⟩
      · left
        rw [e]
        refine ⟨?_, b2⟩
        rw [polP, a1, if_pos h1, b1, if_pos q1]
      · right
        rw [e]
        refine ⟨?_, ?_, b2⟩
        · rw [polP, a1, if_pos h1, if_neg (by omega)]; exact b1
        · rw [polP, a1, if_pos h1, if_neg (by omega)]
    · right
      rw [e]
      refine ⟨?_, ?_, by simp only; omega⟩
      · rw [polP, if_neg (by omega)]; exact a1
      · rw [polP, if_neg (by omega)]; exact a2
theorem polP_congr {most : Nat} {T T' : Nat → Nat → Bool} {ns : List Nd} : ∀ k, (∀ j, j < k → ∀ t, t < 16 → T j t = T' j t) → polP most T k ns = polP most T' k ns := by
  have tb : ∀ (t t' : Nat → Bool) (n v off : Nat) (ns : List Nd), (∀ i, i < 2 ^ n → t (off + i) = t' (off + i)) → tbP most t n v off ns = tbP most t' n v off ns := by
    intro t t' n
    induction n with
    | zero => intro v off ns h; simp only [tbP]; rw [show t off = t' off from h 0 (by simp)]
    | succ n ih =>
      intro v off ns h
      have hp := Nat.pow_succ 2 n
      have e1 := fun ns => ih (v + 1) off ns fun i hi => h i (by omega)
      have e2 := fun ns => ih (v + 1) (off + 2 ^ n) ns fun i hi => by rw [Nat.add_assoc]; exact h (2 ^ n + i) (by omega)
      simp only [tbP, e1, e2]
  intro k
  induction k with
  | zero => intro _; rfl
  | succ k ih =>
    intro h
    have e1 := ih fun j hj => h j (by omega)
    have e2 := fun ns => tb (T k) (T' k) 4 0 0 ns fun i hi => by rw [Nat.zero_add]; exact h k (by omega) i (by simpa using hi)
    simp only [polP, e1, e2]
end Mq
namespace Go.Proofs.YtimlfmklbfgliaaDoor
open Go.RowKit Mq

theorem getD_eq {L L' : List Nat} (h : L.length = 24) (h' : L'.length = 24) : ((List.range 24).all fun i => ((L.getD i 0 : Nat) : Int) == ((L'.getD i 0 : Nat) : Int)) = decide (L = L') := by
  rw [Bool.eq_iff_iff, List.all_eq_true, decide_eq_true_iff]
  constructor
  · intro he
    refine List.ext_getElem (by rw [h, h']) fun k h1 h2 => ?_
    have := he k (by simp; omega)
    simp [List.getD_eq_getElem?_getD, List.getElem?_eq_getElem h1, List.getElem?_eq_getElem h2] at this
    omega
  · rintro rfl k _; simp
theorem outC_cell (L : List Nat) (i : Nat) (hi : i < 24) : (outC L)[i]? = some (.int .i64 (L.getD i 0 : Nat)) := by simp [outC, hi]
set_option maxRecDepth 100000 in
theorem eq_items (w : World) (d : Nat) (L L' : List Nat) (is : List Nat) (h : ∀ i ∈ is, i < 24) :
    (Op.eqItems (d + 1) 3 1 (outC L) (outC L') is).run Tryd.prog w = .ok (is.all fun i => ((L.getD i 0 : Nat) : Int) == ((L'.getD i 0 : Nat) : Int)) w := by
  induction is with
  | nil => rfl
  | cons i is ih =>
    have hi := h i (by simp)
    have p1 : (part 3 (outC L) (i * 1)).run Tryd.prog w = .ok (.int .i64 (L.getD i 0 : Nat)) w := by
      have := outC_cell L i hi
      go_simp
    have p2 : (part 3 (outC L') (i * 1)).run Tryd.prog w = .ok (.int .i64 (L'.getD i 0 : Nat)) w := by
      have := outC_cell L' i hi
      go_simp
    have p3 : (Op.equalIn (d + 1) 3 (.int .i64 (L.getD i 0 : Nat)) (.int .i64 (L'.getD i 0 : Nat))).run Tryd.prog w = .ok (((L.getD i 0 : Nat) : Int) == ((L'.getD i 0 : Nat) : Int)) w := by go_simp
    simp only [Op.eqItems, Sem.run_bind, p1, p2, p3, Result.andThen_ok, List.all_cons]
    cases hq : ((L.getD i 0 : Nat) : Int) == ((L'.getD i 0 : Nat) : Int)
    · simp
    · simpa using ih fun j hj => h j (by simp [hj])
set_option maxRecDepth 100000 in
theorem eq_policy (w : World) (d : Nat) (L L' : List Nat) (h : L.length = 24) (h' : L'.length = 24) :
    (Op.equalIn (d + 2) 29 (.agg (outC L)) (.agg (outC L'))).run Tryd.prog w = .ok (decide (L = L')) w := by
  obtain ⟨i, hi⟩ : ∃ i, Tryd.prog.info? 3 = some i := ⟨_, rfl⟩
  rw [run_equalIn_array w (d + 1) (outC L) (outC L') Tryd.underlying29 hi, show Tryd.prog.cellsOf 3 = 1 by kernel_rfl, eq_items w d L L' (List.range 24) (fun i hi => by simpa using hi), getD_eq h h']
end Go.Proofs.YtimlfmklbfgliaaDoor
