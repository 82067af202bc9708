set_option linter.unusedSectionVars false
namespace Mq

/-! ### lists of pairs as maps -/
section
variable {α β : Type} [DecidableEq α]

def look (a : α) : List (α × β) → Option β
  | [] => none
  | (x, b) :: l => if x = a then some b else look a l
def whereIs (a : α) : List (α × β) → Option (Nat × β)
  | [] => none
  | (x, b) :: l => if x = a then some (0, b) else (whereIs a l).map fun p => (p.1 + 1, p.2)
def put (a : α) (b : β) : List (α × β) → List (α × β)
  | [] => [(a, b)]
  | (x, c) :: l => if x = a then (a, b) :: l else (x, c) :: put a b l

theorem whereIs_look (a : α) (L : List (α × β)) : (whereIs a L).map (·.2) = look a L := by
  induction L with
  | nil => rfl
  | cons p l ih =>
    obtain ⟨x, b⟩ := p
    simp only [whereIs, look]
    split
    · rfl
    · rw [← ih]; cases whereIs a l <;> rfl
theorem whereIs_at {x : α} {c : β} {L : List (α × β)} : ∀ {j : Nat}, whereIs x L = some (j, c) → ∃ q, L[j]? = some q ∧ q.1 = x := by
  induction L with
  | nil => intro j hw; simp [whereIs] at hw
  | cons q l ih =>
    intro j hw
    obtain ⟨a, d⟩ := q
    simp only [whereIs] at hw
    by_cases ha : a = x
    · rw [if_pos ha] at hw; cases hw; exact ⟨_, rfl, ha⟩
    · rw [if_neg ha] at hw
      cases hl : whereIs x l with
      | none => simp [hl] at hw
      | some r =>
        obtain ⟨m, e⟩ := r
        simp [hl] at hw
        obtain ⟨rfl, rfl⟩ := hw
        obtain ⟨q, h1, h2⟩ := ih hl
        exact ⟨q, by simpa using h1, h2⟩
theorem look_put (a : α) (b : β) (L : List (α × β)) (c : α) : look c (put a b L) = if a = c then some b else look c L := by
  induction L with
  | nil => simp [put, look]
  | cons p l ih =>
    obtain ⟨x, d⟩ := p
    simp only [put]
    by_cases h : x = a
    · subst h; simp only [if_pos, look]; split <;> simp_all
    · rw [if_neg h]; simp only [look]
      by_cases hx : x = c
      · subst hx; simp [Ne.symm h]
      · simp [hx, ih]
theorem put_new {a : α} {b : β} {L : List (α × β)} (h : look a L = none) : put a b L = L ++ [(a, b)] := by
  induction L with
  | nil => rfl
  | cons p l ih =>
    obtain ⟨x, d⟩ := p
    simp only [look] at h
    split at h
    · cases h
    · rename_i hx
      simp only [put, if_neg hx, List.cons_append, ih h]
theorem length_put (a : α) (b : β) (L : List (α × β)) : (put a b L).length ≤ L.length + 1 := by
  induction L with
  | nil => simp [put]
  | cons p l ih =>
    obtain ⟨x, d⟩ := p
    simp only [put]
    split <;> simp <;> omega
end


/-- A node of a diagram. -/
structure Nd where
  v : Nat
  lo : Nat
  hi : Nat
  deriving DecidableEq

def no : Nd := ⟨1024, 0, 0⟩
def yes : Nd := ⟨1024, 1, 1⟩

def nd (ns : List Nd) (k : Nat) : Nd := ns.getD k no
def var (ns : List Nd) (k : Nat) : Nat := (nd ns k).v

structure WF (ns : List Nd) : Prop where
  two : 2 ≤ ns.length
  zero : nd ns 0 = no
  one : nd ns 1 = yes
  inner : ∀ k, 2 ≤ k → k < ns.length → (nd ns k).v < 1024 ∧ (nd ns k).lo < k ∧ (nd ns k).hi < k ∧ (nd ns k).lo ≠ (nd ns k).hi ∧
    (nd ns k).v < var ns (nd ns k).lo ∧ (nd ns k).v < var ns (nd ns k).hi
  once : ∀ i j, 2 ≤ i → i < ns.length → 2 ≤ j → j < ns.length → nd ns i = nd ns j → i = j

theorem get_out {ns : List Nd} {k : Nat} (h : ns.length ≤ k) : nd ns k = no := by simp [nd, List.getD_eq_getElem?_getD, List.getElem?_eq_none h]

/-- What a diagram says. -/
def ev (ns : List Nd) (r : Nat → Bool) (k : Nat) : Bool :=
  if k < 2 then k == 1 else
    if _h : (nd ns k).lo < k ∧ (nd ns k).hi < k then
      if r (nd ns k).v then ev ns r (nd ns k).hi else ev ns r (nd ns k).lo
    else false
termination_by k

theorem ev_zero (ns : List Nd) (r : Nat → Bool) : ev ns r 0 = false := by rw [ev]; simp
theorem ev_one (ns : List Nd) (r : Nat → Bool) : ev ns r 1 = true := by rw [ev]; simp
theorem ev_node {ns : List Nd} (W : WF ns) (r : Nat → Bool) {k : Nat} (h2 : 2 ≤ k) (h : k < ns.length) :
    ev ns r k = if r (nd ns k).v then ev ns r (nd ns k).hi else ev ns r (nd ns k).lo := by
  have hk := W.inner k h2 h
  rw [ev, if_neg (by omega), dif_pos ⟨hk.2.1, hk.2.2.1⟩]
theorem ev_out (ns : List Nd) (r : Nat → Bool) {k : Nat} (h2 : 2 ≤ k) (h : ns.length ≤ k) : ev ns r k = false := by
  rw [ev, if_neg (by omega), get_out h]
  simp [no, ev_zero]

theorem var_le {ns : List Nd} (W : WF ns) (k : Nat) : var ns k ≤ 1024 := by
  unfold var
  by_cases h : k < ns.length
  · by_cases h2 : 2 ≤ k
    · have := (W.inner k h2 h).1; omega
    · have : k = 0 ∨ k = 1 := by omega
      rcases this with rfl | rfl
      · rw [W.zero]; simp [no]
      · rw [W.one]; simp [yes]
  · rw [get_out (by omega)]; simp [no]

theorem var_last {ns : List Nd} (W : WF ns) {k : Nat} (h : k < ns.length) : var ns k = 1024 ↔ k < 2 := by
  unfold var
  constructor
  · intro e
    rcases Nat.lt_or_ge k 2 with h2 | h2
    · exact h2
    · have := (W.inner k h2 h).1; omega
  · intro h2
    have : k = 0 ∨ k = 1 := by omega
    rcases this with rfl | rfl
    · rw [W.zero]; rfl
    · rw [W.one]; rfl

/-- A diagram doesn't hang on variables ahead of its own. -/
theorem ev_free {ns : List Nd} (W : WF ns) {r s : Nat → Bool} (k : Nat) : k < ns.length → (∀ u, var ns k ≤ u → r u = s u) → ev ns r k = ev ns s k := by
  induction k using Nat.strongRecOn with
  | ind k ih =>
    intro hk hrs
    by_cases h2 : 2 ≤ k
    · have hi := W.inner k h2 hk
      rw [ev_node W r h2 hk, ev_node W s h2 hk, hrs (nd ns k).v (Nat.le_refl _)]
      rw [ih _ hi.2.1 (by omega) (fun u hu => hrs u (by unfold var at hu ⊢; have := hi.2.2.2.2.1; unfold var at this; omega)),
        ih _ hi.2.2.1 (by omega) (fun u hu => hrs u (by unfold var at hu ⊢; have := hi.2.2.2.2.2; unfold var at this; omega))]
    · have : k = 0 ∨ k = 1 := by omega
      rcases this with rfl | rfl <;> simp [ev_zero, ev_one]

def upd (r : Nat → Bool) (v : Nat) (b : Bool) : Nat → Bool := fun u => if u = v then b else r u
theorem upd_same (r : Nat → Bool) (v : Nat) (b : Bool) : upd r v b v = b := by simp [upd]
theorem upd_other (r : Nat → Bool) {v u : Nat} (b : Bool) (h : u ≠ v) : upd r v b u = r u := by simp [upd, h]
theorem ev_upd {ns : List Nd} (W : WF ns) {k : Nat} (hk : k < ns.length) {v : Nat} (hv : v < var ns k) (r : Nat → Bool) (b : Bool) : ev ns (upd r v b) k = ev ns r k :=
  ev_free W k hk fun u hu => upd_other r b (by omega)

theorem ev_hi {ns : List Nd} (W : WF ns) (r : Nat → Bool) {k : Nat} (h2 : 2 ≤ k) (h : k < ns.length) : ev ns (upd r (nd ns k).v true) k = ev ns r (nd ns k).hi := by
  have hk := W.inner k h2 h
  rw [ev_node W _ h2 h, upd_same, if_pos rfl, ev_upd W (by omega) hk.2.2.2.2.2]
theorem ev_lo {ns : List Nd} (W : WF ns) (r : Nat → Bool) {k : Nat} (h2 : 2 ≤ k) (h : k < ns.length) : ev ns (upd r (nd ns k).v false) k = ev ns r (nd ns k).lo := by
  have hk := W.inner k h2 h
  rw [ev_node W _ h2 h, upd_same, if_neg (by simp), ev_upd W (by omega) hk.2.2.2.2.1]

/-- A node's two sides differ. -/
theorem apart {ns : List Nd} (W : WF ns) {m : Nat} (ih : ∀ i j, i < m → j < m → i < ns.length → j < ns.length → (∀ r, ev ns r i = ev ns r j) → i = j)
    {k : Nat} (h2 : 2 ≤ k) (hk : k ≤ m) (hl : k < ns.length) (h : ∀ r, ev ns r (nd ns k).lo = ev ns r (nd ns k).hi) : False := by
  have hin := W.inner k h2 hl
  exact hin.2.2.2.1 (ih _ _ (by omega) (by omega) (by omega) (by omega) h)

/-- A node and a diagram that doesn't ask its variable differ. -/
theorem apart_free {ns : List Nd} (W : WF ns) {m : Nat} (ih : ∀ i j, i < m → j < m → i < ns.length → j < ns.length → (∀ r, ev ns r i = ev ns r j) → i = j)
    {k : Nat} (h2 : 2 ≤ k) (hk : k ≤ m) (hl : k < ns.length) {j : Nat} (hj : j < ns.length) (hv : (nd ns k).v < var ns j) (h : ∀ r, ev ns r k = ev ns r j) : False :=
  apart W ih h2 hk hl fun r => by
    rw [← ev_lo W r h2 hl, ← ev_hi W r h2 hl, h, h, ev_upd W hj hv, ev_upd W hj hv]

/-- One function has one diagram. -/
theorem canon_lt {ns : List Nd} (W : WF ns) (m : Nat) : ∀ i j, i < m → j < m → i < ns.length → j < ns.length → (∀ r, ev ns r i = ev ns r j) → i = j := by
  induction m with
  | zero => intro i j h; omega
  | succ m ih =>
    intro i j hi hj hli hlj he
    by_cases hi2 : i < 2
    · by_cases hj2 : j < 2
      · have h0 := he (fun _ => false)
        have hi' : i = 0 ∨ i = 1 := by omega
        have hj' : j = 0 ∨ j = 1 := by omega
        rcases hi' with rfl | rfl <;> rcases hj' with rfl | rfl <;> simp_all [ev_zero, ev_one]
      · exfalso
        refine apart_free W ih (k := j) (by omega) (by omega) hlj hli ?_ fun r => (he r).symm
        rw [(var_last W hli).2 hi2]; exact (W.inner j (by omega) hlj).1
    · by_cases hj2 : j < 2
      · exfalso
        refine apart_free W ih (k := i) (by omega) (by omega) hli hlj ?_ he
        rw [(var_last W hlj).2 hj2]; exact (W.inner i (by omega) hli).1
      · have hii := W.inner i (by omega) hli
        have hjj := W.inner j (by omega) hlj
        rcases Nat.lt_trichotomy (nd ns i).v (nd ns j).v with h | h | h
        · exact (apart_free W ih (k := i) (by omega) (by omega) hli hlj h he).elim
        · refine W.once i j (by omega) hli (by omega) hlj ?_
          have e1 : (nd ns i).lo = (nd ns j).lo := ih _ _ (by omega) (by omega) (by omega) (by omega) fun r => by
            rw [← ev_lo W r (by omega) hli, ← ev_lo W r (by omega) hlj, h, he]
          have e2 : (nd ns i).hi = (nd ns j).hi := ih _ _ (by omega) (by omega) (by omega) (by omega) fun r => by
            rw [← ev_hi W r (by omega) hli, ← ev_hi W r (by omega) hlj, h, he]
          cases hgi : nd ns i; cases hgj : nd ns j
          simp_all
        · exact (apart_free W ih (k := j) (by omega) (by omega) hlj hli h fun r => (he r).symm).elim

theorem canon {ns : List Nd} (W : WF ns) {i j : Nat} (hi : i < ns.length) (hj : j < ns.length) (h : ∀ r, ev ns r i = ev ns r j) : i = j :=
  canon_lt W (i + j + 1) i j (by omega) (by omega) hi hj h

/-! ### growing -/
def Ext (ns ns' : List Nd) : Prop := ∃ t, ns' = ns ++ t
theorem Ext.refl (ns : List Nd) : Ext ns ns := ⟨[], by simp⟩
theorem Ext.trans {a b c : List Nd} (h : Ext a b) (k : Ext b c) : Ext a c := by
  obtain ⟨s, rfl⟩ := h; obtain ⟨t, rfl⟩ := k; exact ⟨s ++ t, by simp⟩
theorem Ext.length {a b : List Nd} (h : Ext a b) : a.length ≤ b.length := by obtain ⟨t, rfl⟩ := h; simp
theorem Ext.nd {a b : List Nd} (h : Ext a b) {k : Nat} (hk : k < a.length) : nd b k = nd a k := by
  obtain ⟨t, rfl⟩ := h
  simp [Mq.nd, List.getD_eq_getElem?_getD, List.getElem?_append_left hk]
theorem Ext.var {a b : List Nd} (h : Ext a b) {k : Nat} (hk : k < a.length) : var b k = var a k := by unfold Mq.var; rw [h.nd hk]
theorem Ext.ev {a b : List Nd} (h : Ext a b) (W : WF a) (r : Nat → Bool) (k : Nat) : k < a.length → ev b r k = ev a r k := by
  induction k using Nat.strongRecOn with
  | ind k ih =>
    intro hk
    rw [show Mq.ev b r k = _ from by rw [Mq.ev], show Mq.ev a r k = _ from by rw [Mq.ev]]
    by_cases h2 : k < 2
    · simp [h2]
    · have hin := W.inner k (by omega) hk
      rw [if_neg h2, if_neg h2, h.nd hk, dif_pos ⟨hin.2.1, hin.2.2.1⟩, dif_pos ⟨hin.2.1, hin.2.2.1⟩, ih _ hin.2.1 (by omega), ih _ hin.2.2.1 (by omega)]

theorem wf_start : WF [no, yes] where
  two := by simp
  zero := rfl
  one := rfl
  inner k h h' := by simp at h'; omega
  once i j h h' := by simp at h'; omega

/-- May this node be asked for? -/
def okNd (ns : List Nd) (n : Nd) : Prop := n.v < 1024 ∧ n.lo < ns.length ∧ n.hi < ns.length ∧ n.v < var ns n.lo ∧ n.v < var ns n.hi

/-- The nodes that ask something, with their numbers. -/
def seenL (ns : List Nd) : List (Nd × Nat) := (ns.drop 2).zipIdx 2
/-- The place of a node that asks something. -/
def place (ns : List Nd) (n : Nd) : Option Nat := look n (seenL ns)
theorem look_mem {α β : Type} [DecidableEq α] {a : α} {b : β} {L : List (α × β)} (h : look a L = some b) : (a, b) ∈ L := by
  induction L with
  | nil => simp [look] at h
  | cons p l ih =>
    obtain ⟨x, c⟩ := p
    simp only [look] at h
    split at h
    · rename_i hx; cases h; subst hx; simp
    · exact List.mem_cons_of_mem _ (ih h)
theorem look_none {α β : Type} [DecidableEq α] {a : α} {L : List (α × β)} (h : look a L = none) : ∀ p ∈ L, p.1 ≠ a := by
  induction L with
  | nil => simp
  | cons p l ih =>
    obtain ⟨x, c⟩ := p
    simp only [look] at h
    split at h
    · cases h
    · rename_i hx
      intro q hq
      rcases List.mem_cons.1 hq with rfl | hq
      · exact hx
      · exact ih h q hq
theorem place_some {ns : List Nd} {n : Nd} {k : Nat} (h : place ns n = some k) : 2 ≤ k ∧ k < ns.length ∧ nd ns k = n := by
  have h1 := look_mem h
  unfold seenL at h1
  rw [List.mem_zipIdx_iff_le_and_getElem?_sub] at h1
  obtain ⟨h2, h3⟩ := h1
  simp only at h2 h3
  rw [List.getElem?_drop] at h3
  have e : 2 + (k - 2) = k := by omega
  rw [e] at h3
  have hk := (List.getElem?_eq_some_iff.1 h3).1
  exact ⟨h2, hk, by simp [nd, List.getD_eq_getElem?_getD, h3]⟩
theorem place_none {ns : List Nd} {n : Nd} (h : place ns n = none) : ∀ k, 2 ≤ k → k < ns.length → nd ns k ≠ n := by
  intro k h2 hk
  have hm : (ns[k], k) ∈ seenL ns := by
    unfold seenL
    rw [List.mem_zipIdx_iff_le_and_getElem?_sub]
    refine ⟨h2, ?_⟩
    simp only
    rw [List.getElem?_drop, show 2 + (k - 2) = k by omega]
    simp [hk]
  have := look_none h _ hm
  simpa [nd, List.getD_eq_getElem?_getD, hk] using this
theorem seenL_push {ns : List Nd} (h : 2 ≤ ns.length) (n : Nd) : seenL (ns ++ [n]) = seenL ns ++ [(n, ns.length)] := by
  unfold seenL
  rw [List.drop_append_of_le_length h, List.zipIdx_append]
  simp
  omega

theorem get_push_old (ns : List Nd) (n : Nd) {k : Nat} (h : k < ns.length) : nd (ns ++ [n]) k = nd ns k := Ext.nd ⟨[n], rfl⟩ h
theorem get_push_new (ns : List Nd) (n : Nd) : nd (ns ++ [n]) ns.length = n := by simp [nd]

theorem wf_push {ns : List Nd} (W : WF ns) {n : Nd} (h : okNd ns n) (hne : n.lo ≠ n.hi) (hp : ∀ k, 2 ≤ k → k < ns.length → nd ns k ≠ n) : WF (ns ++ [n]) where
  two := by have := W.two; simp; omega
  zero := by rw [get_push_old _ _ (by have := W.two; omega)]; exact W.zero
  one := by rw [get_push_old _ _ (by have := W.two; omega)]; exact W.one
  inner k h2 hk := by
    simp at hk
    by_cases e : k = ns.length
    · subst e
      rw [get_push_new]
      have hv1 := Ext.var (a := ns) (b := ns ++ [n]) ⟨[n], rfl⟩ h.2.1
      have hv2 := Ext.var (a := ns) (b := ns ++ [n]) ⟨[n], rfl⟩ h.2.2.1
      exact ⟨h.1, h.2.1, h.2.2.1, hne, by rw [hv1]; exact h.2.2.2.1, by rw [hv2]; exact h.2.2.2.2⟩
    · have hk' : k < ns.length := by omega
      have hin := W.inner k h2 hk'
      rw [get_push_old _ _ hk']
      have hv1 := Ext.var (a := ns) (b := ns ++ [n]) ⟨[n], rfl⟩ (k := (nd ns k).lo) (by omega)
      have hv2 := Ext.var (a := ns) (b := ns ++ [n]) ⟨[n], rfl⟩ (k := (nd ns k).hi) (by omega)
      rw [hv1, hv2]; exact hin
  once i j hi hi' hj hj' he := by
    simp at hi' hj'
    by_cases ei : i = ns.length
    · by_cases ej : j = ns.length
      · omega
      · subst ei
        rw [get_push_new, get_push_old _ _ (by omega)] at he
        exact absurd he.symm (hp j hj (by omega))
    · by_cases ej : j = ns.length
      · subst ej
        rw [get_push_new, get_push_old _ _ (by omega)] at he
        exact absurd he (hp i hi (by omega))
      · rw [get_push_old _ _ (by omega), get_push_old _ _ (by omega)] at he
        exact W.once i j hi (by omega) hj (by omega) he

/-- What Mk does: which nodes there are behind it, its number, its error (0: none, 8: no room, 10: no such argument). -/
def mk (most : Nat) (ns : List Nd) (n : Nd) : List Nd × Nat × Nat :=
  if n.lo = n.hi then (ns, n.lo, 0) else
  match place ns n with
  | some k => (ns, k, 0)
  | none => if ns.length = most then (ns, 0, 8) else (ns ++ [n], ns.length, 0)

/-- What is known of a node that was made. -/
structure Made (most : Nat) (ns : List Nd) (n : Nd) (ns' : List Nd) (k : Nat) (e : Nat) : Prop where
  wf : WF ns'
  ext : Ext ns ns'
  few : ns'.length ≤ ns.length + 1
  room : ns.length ≤ most → ns'.length ≤ most
  fail : e ≠ 0 → e = 8 ∧ k = 0 ∧ ns' = ns ∧ ns.length = most
  new : ns' = ns ∨ k = ns.length
  lack : e ≠ 0 → ∀ k0, k0 < ns.length → ¬ ∀ r, ev ns r k0 = if r n.v then ev ns r n.hi else ev ns r n.lo
  good : e = 0 → k < ns'.length ∧ n.v ≤ var ns' k ∧ ∀ r, ev ns' r k = if r n.v then ev ns r n.hi else ev ns r n.lo

theorem mk_made {most : Nat} {ns : List Nd} (W : WF ns) {n : Nd} (h : okNd ns n) : Made most ns n (mk most ns n).1 (mk most ns n).2.1 (mk most ns n).2.2 := by
  unfold mk
  by_cases e : n.lo = n.hi
  · rw [if_pos e]
    exact ⟨W, Ext.refl _, by simp, by simp, by simp, .inl rfl, by simp, fun _ => ⟨h.2.1, Nat.le_of_lt h.2.2.2.1, fun r => by simp [e]⟩⟩
  · rw [if_neg e]
    cases hp : place ns n with
    | some k =>
      obtain ⟨h2, hk, hg⟩ := place_some hp
      refine ⟨W, Ext.refl _, by simp, by simp, by simp, .inl rfl, by simp, fun _ => ⟨hk, by unfold var; simp [hg], fun r => ?_⟩⟩
      simp only
      rw [ev_node W r h2 hk, hg]
    | none =>
      have hpn := place_none hp
      have W' := wf_push W h e hpn
      have hx : Ext ns (ns ++ [n]) := ⟨[n], rfl⟩
      have hnew : ∀ r, ev (ns ++ [n]) r ns.length = if r n.v then ev ns r n.hi else ev ns r n.lo := fun r => by
        rw [ev_node W' r W.two (by simp), get_push_new, hx.ev W r _ h.2.1, hx.ev W r _ h.2.2.1]
      by_cases hm : ns.length = most
      · simp only [hm, if_true]
        exact ⟨W, Ext.refl _, by simp, by simp, fun _ => ⟨rfl, rfl, rfl, hm⟩, .inl rfl, fun _ k0 hk0 he => absurd (canon W' (Nat.lt_of_lt_of_le hk0 hx.length) (by simp) fun r => by rw [hx.ev W r k0 hk0, he, hnew]) (Nat.ne_of_lt hk0), by simp⟩
      · simp only [if_neg hm]
        refine ⟨W', hx, by simp, fun hl => by simp; omega, by simp, .inr rfl, by simp, fun _ => ⟨by simp, by unfold var; rw [get_push_new]; exact Nat.le_refl _, fun r => ?_⟩⟩
        exact hnew r


theorem made_stay {most : Nat} {ns : List Nd} {n : Nd} {ns' : List Nd} {k : Nat} (h : Made most ns n ns' k 0) (W : WF ns) {k0 : Nat} (hk : k0 < ns.length) (he : ∀ r, ev ns r k0 = if r n.v then ev ns r n.hi else ev ns r n.lo) : ns' = ns := by
  rcases h.new with e | e
  · exact e
  · obtain ⟨g1, _, g3⟩ := h.good rfl
    have : k = k0 := canon h.wf g1 (Nat.lt_of_lt_of_le hk h.ext.length) fun r => by rw [g3, h.ext.ev W r k0 hk, he]
    omega

/-- A node's variable matters. -/
theorem matters {ns : List Nd} (W : WF ns) {k : Nat} (h2 : 2 ≤ k) (hk : k < ns.length) (h : ∀ r b, ev ns (upd r (nd ns k).v b) k = ev ns r k) : False := by
  have hin := W.inner k h2 hk
  refine hin.2.2.2.1 (canon W (by omega) (by omega) fun r => ?_)
  rw [← ev_lo W r h2 hk, ← ev_hi W r h2 hk, h, h]

/-- Where a variable has a value, there is a diagram, if none ahead of it is asked. -/
theorem cofactor {ns : List Nd} (W : WF ns) {k : Nat} (hk : k < ns.length) {v : Nat} (hv : v ≤ var ns k) (b : Bool) : ∃ k1, k1 < ns.length ∧ ∀ r, ev ns r k1 = ev ns (upd r v b) k := by
  by_cases he : v = var ns k
  · by_cases h2 : k < 2
    · refine ⟨k, hk, fun r => ?_⟩
      have : k = 0 ∨ k = 1 := by omega
      rcases this with rfl | rfl <;> simp [ev_zero, ev_one]
    · have hin := W.inner k (by omega) hk
      have hvv : v = (nd ns k).v := he
      subst hvv
      cases b
      · exact ⟨(nd ns k).lo, by omega, fun r => (ev_lo W r (by omega) hk).symm⟩
      · exact ⟨(nd ns k).hi, by omega, fun r => (ev_hi W r (by omega) hk).symm⟩
  · exact ⟨k, hk, fun r => (ev_upd W hk (by omega) r b).symm⟩

end Mq
