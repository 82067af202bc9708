import Derived.Deep.RegionHeld3
import Derived.StillTail
set_option linter.unusedVariables false
namespace Mq
open Go
section
variable {P : Program} {ops : Array Oper} {Q : Exit → Act → World → Prop} {md : Region.Mode} {S : World → Prop} {p : Nat}

/-- Whichever order is picked: S behind each operation till number p comes up; from there on nothing is asked. -/
def wpAnyT (P : Program) (md : Region.Mode) (ops : Array Oper) (Q : Exit → Act → World → Prop) (S : World → Prop) (p : Nat) : Nat → Array Bool → Act → World → Prop
  | 0, listed, a, w => Region.ready md ops listed = [] ∧ Q .normal a w
  | f + 1, listed, a, w =>
    (Region.ready md ops listed = [] → Q .normal a w) ∧
    ∀ i ∈ Region.ready md ops listed, wpOp P ops Q i (fun a' w' => if i = p then wpAny P md ops Q f (listed.setIfInBounds i true) a' w' else S w' ∧ wpAnyT P md ops Q S p f (listed.setIfInBounds i true) a' w') a w
theorem wpAny_of_T : ∀ (f : Nat) (listed : Array Bool) (a : Act) (w : World), wpAnyT P md ops Q S p f listed a w → wpAny P md ops Q f listed a w
  | 0, _, _, _, h => h
  | f + 1, _, _, _, h => ⟨h.1, fun i hi => wpOp_mono (fun a' w' h' => by
      by_cases hp : i = p
      · rw [if_pos hp] at h'; exact h'
      · rw [if_neg hp] at h'; exact wpAny_of_T f _ a' w' h'.2) (h.2 i hi)⟩
/-- What is listed has all that it waits for. -/
def Closed (md : Region.Mode) (ops : Array Oper) (listed : Array Bool) : Prop := ∀ j oj, ops[j]? = some oj → listed.getD j true = true → ∀ e ∈ oj.after, Region.binds md e = true → listed.getD e.on true = true
theorem getD_t {l : Array Bool} {i j : Nat} (h : l.getD j true = true) : (l.setIfInBounds i true).getD j true = true := by
  by_cases hj : j < l.size
  · simp [hj] at h ⊢
    rw [Array.getElem_setIfInBounds]
    split
    · rfl
    · exact h
  · simp [hj]
theorem Closed.set {listed : Array Bool} {i : Nat} (h : Closed md ops listed) (hi : i ∈ Region.ready md ops listed) : Closed md ops (listed.setIfInBounds i true) := by
  intro j oj hj hl e he hb
  by_cases hij : i = j
  · subst hij
    obtain ⟨_, oi, hoi, hall⟩ := mem_ready.1 hi
    obtain rfl : oj = oi := Option.some.inj (hj.symm.trans hoi)
    have := hall e he hb
    exact getD_t (by
      rcases Nat.lt_or_ge e.on listed.size with h' | h'
      · simp [h'] at this ⊢; exact this
      · simp [Array.getElem?_eq_none h'])
  · refine getD_t (h j oj hj ?_ e he hb)
    rw [getD_set_ne true hij] at hl; exact hl
/-- p waits for i, by some steps. -/
inductive Waits (md : Region.Mode) (ops : Array Oper) : Nat → Nat → Prop
  | one {j i : Nat} (h : Region.waitsFor md ops j i = true) : Waits md ops j i
  | more {j k i : Nat} (h : Region.waitsFor md ops j k = true) (t : Waits md ops k i) : Waits md ops j i
theorem Waits.listed {listed : Array Bool} (hc : Closed md ops listed) {j i : Nat} (h : Waits md ops j i) : listed.getD j true = true → listed.getD i true = true := by
  induction h with
  | one h =>
    intro hj
    obtain ⟨oj, hoj, e, he, hb, rfl⟩ := Region.waitsFor_spec h
    exact hc _ oj hoj hj e he hb
  | more h t ih =>
    intro hj
    obtain ⟨oj, hoj, e, he, hb, rfl⟩ := Region.waitsFor_spec h
    exact ih (hc _ oj hoj hj e he hb)
theorem Waits.notReady {listed : Array Bool} (hc : Closed md ops listed) {j i : Nat} (h : Waits md ops j i) (hi : listed.getD i true = false) : j ∉ Region.ready md ops listed := by
  intro hr
  have hc' := hc.set hr
  have hsz : (listed.setIfInBounds j true).getD j true = true := by
    by_cases hj : j < listed.size <;> simp [hj]
  have := h.listed hc' hsz
  by_cases hji : j = i
  · subst hji
    cases h with
    | one h =>
      obtain ⟨oj, hoj, e, he, hb, hon⟩ := Region.waitsFor_spec h
      obtain ⟨_, oi, hoi, hall⟩ := mem_ready.1 hr
      obtain rfl : oj = oi := Option.some.inj (hoj.symm.trans hoi)
      have h2 := hall e he hb
      rw [hon, getD_both hi] at h2; cases h2
    | more h t =>
      obtain ⟨oj, hoj, e, he, hb, rfl⟩ := Region.waitsFor_spec h
      obtain ⟨_, oi, hoi, hall⟩ := mem_ready.1 hr
      obtain rfl : oj = oi := Option.some.inj (hoj.symm.trans hoi)
      have h2 := hall e he hb
      have h3 : listed.getD e.on true = true := by
        rcases Nat.lt_or_ge e.on listed.size with h' | h'
        · simp [h'] at h2 ⊢; exact h2
        · simp [Array.getElem?_eq_none h']
      have := t.listed hc h3
      rw [hi] at this; cases this
  · rw [getD_set_ne true hji, hi] at this; cases this
theorem wpAnyT_first {i : Nat} {oi : Oper} {v : Value} (hi : ops[i]? = some oi) (hsel : ∀ (j : Nat) (o : Oper) cs b, ops[j]? = some o → o.op ≠ .select cs b)
    (hQ : ∀ c a w, Q (.panic c) (a.put oi.dst v) w → Q (.panic c) a w) (hp : Waits md ops p i) (hpi : i ≠ p) :
    ∀ (f : Nat) (listed : Array Bool) (a : Act) (w : World), Closed md ops listed → listed.getD i true = false →
      (∀ j oj, ops[j]? = some oj → j ≠ i → listed.getD j true = false → (∀ e ∈ oj.after, Region.binds md e = true → e.on ≠ i) → oi.apart ops oj = true) →
      i ∈ Region.ready md ops listed → YieldsIf P ops S oi v a → S w →
      wpAnyT P md ops Q S p f (listed.setIfInBounds i true) (a.put oi.dst v) w → wpAnyT P md ops Q S p (f + 1) listed a w := by
  intro f
  induction f with
  | zero =>
    intro listed a w hc hun _ hr hy hS H
    refine ⟨fun h => (by rw [h] at hr; cases hr), fun j hj => ?_⟩
    by_cases hji : j = i
    · subst hji; exact hy.wpOp hi hS (by rw [if_neg hpi]; exact ⟨hS, H⟩)
    · have := ready_mono hj hji
      rw [H.1] at this
      cases this
  | succ f ih =>
    intro listed a w hc hun hfree hr hy hS H
    refine ⟨fun h => (by rw [h] at hr; cases hr), fun j hj => ?_⟩
    by_cases hji : j = i
    · subst hji; exact hy.wpOp hi hS (by rw [if_neg hpi]; exact ⟨hS, H⟩)
    · have hjp : ¬ j = p := fun h => hp.notReady hc hun (h ▸ hj)
      have h1 := H.2 j (ready_mono hj hji)
      obtain ⟨hjun, oj, hoj, hall⟩ := mem_ready.1 hj
      have hnot : ∀ e ∈ oj.after, Region.binds md e = true → e.on ≠ i := fun e he hb heq => by
        have h2 := hall e he hb
        rw [heq, getD_both hun] at h2
        cases h2
      have h2 := wpOp_putIf hoj (hfree j oj hoj hji hjun hnot) (fun cs b => hsel i oi cs b hi) (fun cs b => hsel j oj cs b hoj) hQ hy h1
      have hfree' : ∀ k ok, ops[k]? = some ok → k ≠ i → (listed.setIfInBounds j true).getD k true = false →
          (∀ e ∈ ok.after, Region.binds md e = true → e.on ≠ i) → oi.apart ops ok = true := fun k ok hk hki hu hno => by
        refine hfree k ok hk hki ?_ hno
        by_cases hjk : j = k
        · subst hjk; exact hjun
        · rw [getD_set_ne true hjk] at hu; exact hu
      refine wpOp_mono (fun a' w' h3 => ?_) h2
      rw [if_neg hjp] at h3 ⊢
      refine ⟨h3.2.1, ih (listed.setIfInBounds j true) a' w' (hc.set hj) (by rw [getD_set_ne true hji]; exact hun) hfree' (ready_mono hr (Ne.symm hji)) h3.1 h3.2.1 ?_⟩
      rw [Array.setIfInBounds_comm _ _ hji]
      exact h3.2.2
/-- The same as Bools. -/
def waitsB (md : Region.Mode) (ops : Array Oper) (i : Nat) : Nat → Nat → Bool
  | 0, _ => false
  | f + 1, j => Region.waitsFor md ops j i || (List.range ops.size).any fun k => Region.waitsFor md ops j k && waitsB md ops i f k
theorem waits_of {i : Nat} : ∀ {f j : Nat}, waitsB md ops i f j = true → Waits md ops j i
  | 0, _, h => by cases h
  | f + 1, j, h => by
    simp only [waitsB, Bool.or_eq_true] at h
    rcases h with h | h
    · exact .one h
    · obtain ⟨k, -, hk⟩ := List.any_eq_true.1 h
      simp only [Bool.and_eq_true] at hk
      exact .more hk.1 (waits_of hk.2)
def closedB (md : Region.Mode) (ops : Array Oper) (listed : Array Bool) : Bool :=
  (List.range ops.size).all fun j => !(listed.getD j true) || (match ops[j]? with | some oj => oj.after.all fun e => !(Region.binds md e) || listed.getD e.on true | none => true)
theorem closed_of {listed : Array Bool} (h : closedB md ops listed = true) : Closed md ops listed := by
  intro j oj hj hl e he hb
  have hlt := (Array.getElem?_eq_some_iff.1 hj).1
  have h1 := List.all_eq_true.1 h j (List.mem_range.2 hlt)
  simp only [hj, hl, Bool.not_true, Bool.false_or] at h1
  have h2 := Array.all_eq_true'.1 h1 e he
  simpa [hb] using h2
/-- Number i is taken first: it yields its value in every world that meets S, and number p waits for it. -/
theorem wpAnyT_take {i : Nat} {oi : Oper} {v : Value} {f : Nat} {listed : Array Bool} {a : Act} {w : World} (hi : ops[i]? = some oi)
    (hs : Region.noSelect ops = true) (hf : Region.free md ops listed i = true) (hr : (Region.ready md ops listed).contains i = true) (hc : closedB md ops listed = true) (hp : waitsB md ops i ops.size p = true) (hpi : (i == p) = false) (hun : listed.getD i true = false)
    (hQ : ∀ c a w, Q (.panic c) (a.put oi.dst v) w → Q (.panic c) a w) (hy : YieldsIf P ops S oi v a) (hS : S w)
    (h : wpAnyT P md ops Q S p f (listed.setIfInBounds i true) (a.put oi.dst v) w) : wpAnyT P md ops Q S p (f + 1) listed a w :=
  wpAnyT_first hi (Region.noSelect_spec hs) hQ (waits_of hp) (by simpa using hpi) f listed a w (closed_of hc) hun (Region.free_spec hi hf) (by simpa using hr) hy hS h
/-- Number i alone may come up, ahead of p. -/
theorem wpAnyT_step {i : Nat} {o : Oper} {f : Nat} {listed : Array Bool} {a : Act} {w : World} (hr : Region.ready md ops listed = [i]) (hpi : (i == p) = false) (ho : ops[i]? = some o)
    (h : ∀ K' : Act → World → Prop, Shut (∀ a w, S w → (S w → wpAnyT P md ops Q S p f (listed.setIfInBounds i true) a w) → K' a w) → if Region.wanted o (yielded ops a.tmps) = true then Oper.wp P o a w K' Q else K' (a.put o.dst undef) w) :
    wpAnyT P md ops Q S p (f + 1) listed a w := by
  refine ⟨fun h0 => absurd (hr ▸ h0) (by simp), fun j hj => ?_⟩
  rw [hr] at hj
  obtain rfl := List.mem_singleton.1 hj
  have hne : ¬ j = p := by simpa using hpi
  exact wpOp_step ho fun K' hK => h K' fun a w hS hW => hK a w (by rw [if_neg hne]; exact ⟨hS, hW hS⟩)
/-- Number p alone may come up: from there on the order is the library's own. -/
theorem wpAnyT_last {o : Oper} {f : Nat} {listed : Array Bool} {a : Act} {w : World} (hr : Region.ready md ops listed = [p]) (ho : ops[p]? = some o)
    (h : ∀ K' : Act → World → Prop, Shut (∀ a w, wpAny P md ops Q f (listed.setIfInBounds p true) a w → K' a w) → if Region.wanted o (yielded ops a.tmps) = true then Oper.wp P o a w K' Q else K' (a.put o.dst undef) w) :
    wpAnyT P md ops Q S p (f + 1) listed a w := by
  refine ⟨fun h0 => absurd (hr ▸ h0) (by simp), fun j hj => ?_⟩
  rw [hr] at hj
  obtain rfl := List.mem_singleton.1 hj
  exact wpOp_step ho fun K' hK => h K' fun a w hW => hK a w (by rw [if_pos rfl]; exact hW)
theorem wp_region_T {id : Nat} {a : Act} {w : World} (p : Nat) (S : World → Prop) (hm : P.follows .mixedOrders = true) (hS : S w.drew)
    (h : S w.drew → wpAnyT P .any ops Q S p ops.size (Array.replicate ops.size false) a w.drew) : (Code.region id ops true).wp P Q a w :=
  wp_region_any hm (wpAny_of_T _ _ _ _ (h hS))
variable {l : List Oper}
theorem T_take (i : Nat) {oi : Oper} {v : Value} {f : Nat} {listed : Array Bool} {a : Act} {w : World} (hi : l[i]? = some oi)
    (hs : Region.noSelect l.toArray = true) (hf : Region.free md l.toArray listed i = true) (hr : (Region.ready md l.toArray listed).contains i = true) (hc : closedB md l.toArray listed = true) (hp : waitsB md l.toArray i l.toArray.size p = true) (hpi : (i == p) = false) (hun : listed.getD i true = false)
    (hQ : ∀ c a w, Q (.panic c) (a.put oi.dst v) w → Q (.panic c) a w) (hwn : Region.wanted oi (yielded l.toArray a.tmps) = true) (hS : S w) (hy : ∀ w, S w → (execOp a.eval oi).run P w = .ok (.value v) w)
    (h : wpAnyT P md l.toArray Q S p f (listed.setIfInBounds i true) (a.put oi.dst v) w) : wpAnyT P md l.toArray Q S p (f + 1) listed a w :=
  wpAnyT_take (by simpa using hi) hs hf hr hc hp hpi hun hQ (.inl ⟨hwn, hy⟩) hS h
theorem T_step (i : Nat) {o : Oper} {f : Nat} {listed : Array Bool} {a : Act} {w : World} (hr : Region.ready md l.toArray listed = [i]) (hpi : (i == p) = false) (ho : l[i]? = some o)
    (h : ∀ K' : Act → World → Prop, Shut (∀ a w, S w → (S w → wpAnyT P md l.toArray Q S p f (listed.setIfInBounds i true) a w) → K' a w) → if Region.wanted o (yielded l.toArray a.tmps) = true then Oper.wp P o a w K' Q else K' (a.put o.dst undef) w) :
    wpAnyT P md l.toArray Q S p (f + 1) listed a w := wpAnyT_step hr hpi (by simpa using ho) h
theorem T_last {o : Oper} {f : Nat} {listed : Array Bool} {a : Act} {w : World} (hr : Region.ready md l.toArray listed = [p]) (ho : l[p]? = some o)
    (h : ∀ K' : Act → World → Prop, Shut (∀ a w, wpAny P md l.toArray Q f (listed.setIfInBounds p true) a w → K' a w) → if Region.wanted o (yielded l.toArray a.tmps) = true then Oper.wp P o a w K' Q else K' (a.put o.dst undef) w) :
    wpAnyT P md l.toArray Q S p (f + 1) listed a w := wpAnyT_last hr (by simpa using ho) h
theorem A_take (i : Nat) {oi : Oper} {v : Value} {f : Nat} {listed : Array Bool} {a : Act} {w : World} (hi : l[i]? = some oi)
    (hs : Region.noSelect l.toArray = true) (hf : Region.free md l.toArray listed i = true) (hr : (Region.ready md l.toArray listed).contains i = true)
    (hQ : ∀ c a w, Q (.panic c) (a.put oi.dst v) w → Q (.panic c) a w) (hwn : Region.wanted oi (yielded l.toArray a.tmps) = true) (hy : ∀ w, (execOp a.eval oi).run P w = .ok (.value v) w)
    (h : wpAny P md l.toArray Q f (listed.setIfInBounds i true) (a.put oi.dst v) w) : wpAny P md l.toArray Q (f + 1) listed a w :=
  wpAny_take (by simpa using hi) hs hf hr hQ (.inl ⟨hwn, hy⟩) h
theorem A_step (i : Nat) {o : Oper} {f : Nat} {listed : Array Bool} {a : Act} {w : World} (hr : Region.ready md l.toArray listed = [i]) (ho : l[i]? = some o)
    (h : ∀ K' : Act → World → Prop, Shut (∀ a w, wpAny P md l.toArray Q f (listed.setIfInBounds i true) a w → K' a w) → if Region.wanted o (yielded l.toArray a.tmps) = true then Oper.wp P o a w K' Q else K' (a.put o.dst undef) w) :
    wpAny P md l.toArray Q (f + 1) listed a w := wpAny_ready hr (by simp) (AllReady.cons (by simpa using ho) h AllReady.nil)
end
end Mq
