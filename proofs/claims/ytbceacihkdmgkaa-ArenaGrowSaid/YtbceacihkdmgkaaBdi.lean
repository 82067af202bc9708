import Derived.Test.YtbceacihkdmgkaaBdt
set_option linter.unusedVariables false
namespace Mq

/-- Does a diagram hang on variables below N alone? -/
def Dep (N : Nat) (ns : List Nd) (k : Nat) : Prop := ∀ r s : Nat → Bool, (∀ u, u < N → r u = s u) → ev ns r k = ev ns s k

theorem Dep.var {N : Nat} {ns : List Nd} (W : WF ns) {k : Nat} (hk : k < ns.length) (h : Dep N ns k) (h2 : 2 ≤ k) : var ns k < N := by
  rcases Nat.lt_or_ge (Mq.var ns k) N with hl | hl
  · exact hl
  · exact (matters W h2 hk fun r b => h _ _ fun u hu => upd_other r b (by unfold Mq.var at hl; omega)).elim
theorem Dep.ext {N : Nat} {ns ns' : List Nd} (W : WF ns) {k : Nat} (hk : k < ns.length) (h : Dep N ns k) (x : Ext ns ns') : Dep N ns' k := fun r s e => by
  rw [x.ev W r k hk, x.ev W s k hk, h r s e]
theorem Dep.of_fun {N : Nat} {ns : List Nd} {k : Nat} {F : (Nat → Bool) → Bool} (h : ∀ r, ev ns r k = F r) (hF : ∀ r s : Nat → Bool, (∀ u, u < N → r u = s u) → F r = F s) : Dep N ns k := fun r s e => by rw [h, h, hF r s e]
theorem idx_dep (n : Nat) : ∀ v (r s : Nat → Bool), (∀ u, u < v + n → r u = s u) → idx n v r = idx n v s := by
  induction n with
  | zero => intro v r s _; rfl
  | succ n ih =>
    intro v r s h
    simp only [idx]
    rw [h v (by omega), ih (v + 1) r s (fun u hu => h u (by omega))]

/-- Half of a diagram: where a variable is 0, or 1. -/
def half (ns : List Nd) (f v : Nat) (b : Bool) : Nat := if var ns f = v then (if b then (nd ns f).hi else (nd ns f).lo) else f
structure Half (ns : List Nd) (f v : Nat) (b : Bool) (k : Nat) : Prop where
  lt : k < ns.length
  var : v + 1 ≤ var ns k
  ev : ∀ r, ev ns r k = ev ns (upd r v b) f
theorem half_is {ns : List Nd} (W : WF ns) {f v : Nat} (hf : f < ns.length) (hv : v < 1024) (h : v ≤ var ns f) (b : Bool) : Half ns f v b (half ns f v b) := by
  unfold half
  by_cases e : Mq.var ns f = v
  · rw [if_pos e]
    have h2 : 2 ≤ f := by
      rcases Nat.lt_or_ge f 2 with h2 | h2
      · have := (var_last W hf).2 h2; omega
      · exact h2
    have hin := W.inner f h2 hf
    have e' : (nd ns f).v = v := e
    cases b
    · rw [if_neg (by simp)]
      refine ⟨by omega, ?_, fun r => ?_⟩
      · have := hin.2.2.2.2.1; omega
      · rw [← e']; exact (ev_lo W r h2 hf).symm
    · rw [if_pos rfl]
      refine ⟨by omega, ?_, fun r => ?_⟩
      · have := hin.2.2.2.2.2; omega
      · rw [← e']; exact (ev_hi W r h2 hf).symm
  · rw [if_neg e]
    exact ⟨hf, by omega, fun r => (ev_upd W hf (by omega) r b).symm⟩
theorem Half.dep {ns : List Nd} {f v : Nat} {b : Bool} {k N : Nat} (h : Half ns f v b k) (hd : Dep N ns f) : Dep N ns k := fun r s e => by
  rw [h.ev, h.ev]
  refine hd _ _ fun u hu => ?_
  unfold upd
  split
  · rfl
  · exact e u hu

/-- If-then-else of three diagrams. -/
def iteF (ns : List Nd) (f g h : Nat) (r : Nat → Bool) : Bool := if ev ns r f then ev ns r g else ev ns r h
structure Key where
  f : Nat
  g : Nat
  h : Nat
  deriving DecidableEq
/-- What was done, and remembered, is right. -/
def Memo (ns : List Nd) (D : List (Key × Nat)) : Prop :=
  ∀ p ∈ D, p.1.f < ns.length ∧ p.1.g < ns.length ∧ p.1.h < ns.length ∧ p.2 < ns.length ∧ min (var ns p.1.f) (min (var ns p.1.g) (var ns p.1.h)) ≤ var ns p.2 ∧ ∀ r, ev ns r p.2 = iteF ns p.1.f p.1.g p.1.h r
theorem Memo.ext {ns ns' : List Nd} {D : List (Key × Nat)} (W : WF ns) (h : Memo ns D) (x : Ext ns ns') : Memo ns' D := fun p hp => by
  obtain ⟨h1, h2, h3, h4, h5, h6⟩ := h p hp
  have l := x.length
  refine ⟨by omega, by omega, by omega, by omega, ?_, fun r => ?_⟩
  · rw [x.var h1, x.var h2, x.var h3, x.var h4]; exact h5
  · unfold iteF
    rw [x.ev W r _ h1, x.ev W r _ h2, x.ev W r _ h3, x.ev W r _ h4]; exact h6 r
theorem mem_put {α β : Type} [DecidableEq α] {a : α} {b : β} {L : List (α × β)} {p : α × β} (h : p ∈ put a b L) : p = (a, b) ∨ p ∈ L := by
  induction L with
  | nil => simp [put] at h; exact .inl h
  | cons q l ih =>
    obtain ⟨x, c⟩ := q
    simp only [put] at h
    split at h
    · rcases List.mem_cons.1 h with rfl | h
      · exact .inl rfl
      · exact .inr (List.mem_cons_of_mem _ h)
    · rcases List.mem_cons.1 h with rfl | h
      · exact .inr (List.mem_cons_self ..)
      · rcases ih h with e | e
        · exact .inl e
        · exact .inr (List.mem_cons_of_mem _ e)
theorem Memo.put {ns : List Nd} {D : List (Key × Nat)} (h : Memo ns D) {f g i k : Nat} (hf : f < ns.length) (hg : g < ns.length) (hh : i < ns.length) (hk : k < ns.length)
    (hv : min (var ns f) (min (var ns g) (var ns i)) ≤ var ns k) (he : ∀ r, ev ns r k = iteF ns f g i r) : Memo ns (put ⟨f, g, i⟩ k D) := fun p hp => by
  rcases mem_put hp with rfl | hp
  · exact ⟨hf, hg, hh, hk, hv, he⟩
  · exact h p hp
theorem iteF_ext {ns ns' : List Nd} (W : WF ns) (x : Ext ns ns') {f g h : Nat} (hf : f < ns.length) (hg : g < ns.length) (hh : h < ns.length) (r : Nat → Bool) : iteF ns' f g h r = iteF ns f g h r := by
  unfold iteF; rw [x.ev W r f hf, x.ev W r g hg, x.ev W r h hh]
/-- Shannon: the two halves. -/
theorem iteF_split {ns : List Nd} {f g h v f0 g0 h0 f1 g1 h1 : Nat} (a0 : Half ns f v false f0) (b0 : Half ns g v false g0) (c0 : Half ns h v false h0)
    (a1 : Half ns f v true f1) (b1 : Half ns g v true g1) (c1 : Half ns h v true h1) (r : Nat → Bool) : (if r v then iteF ns f1 g1 h1 r else iteF ns f0 g0 h0 r) = iteF ns f g h r := by
  have e : ∀ b, r v = b → upd r v b = r := fun b hb => by
    funext u; unfold upd; split
    · subst_vars; rfl
    · rfl
  unfold iteF
  by_cases hr : r v = true
  · rw [if_pos hr, a1.ev, b1.ev, c1.ev, e true hr]
  · have : r v = false := by simpa using hr
    rw [if_neg hr, a0.ev, b0.ev, c0.ev, e false this]
end Mq
