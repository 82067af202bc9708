import Derived.Test.YteciceelinbfoaaDoorAps
import Derived.Test.YteciceelinbfoaaDoorAw9
set_option linter.unusedVariables false
namespace Go.Proofs.YteciceelinbfoaaDoor
open Go.RowKit Mq

section
variable {α : Type} {enc : α → List Value} {size : Nat} {w w' : World} {base : Nat} {e : TypeId}
/-- A cell of an owned row is written. -/
theorem own_set {g n cap : Nat} {xs : List Value} (h : w.ownsRow base e size (.slice (some ⟨g, 0, none⟩) n cap) n xs) (j : Nat) (v : Value) : (w.setCell ⟨g, j, none⟩ v).ownsRow base e size (.slice (some ⟨g, 0, none⟩) n cap) n (xs.set j v) := by
  refine ⟨by rw [List.length_set]; exact h.1, ?_⟩
  rcases h.2 with ⟨h1, h2⟩ | ⟨g', cap', cur, h1, h2, h3, h4, h5, h6, h7⟩
  · simp at h1
  · injection h1 with hA hn hc
    injection hA with hA
    injection hA with hA
    subst hA; subst hc
    refine .inr ⟨g, cap, cur.setIfInBounds j v, rfl, h2, gb_set h3 j v, h4, h5, by simpa using h6, ?_⟩
    rw [Array.toList_setIfInBounds, List.take_set, h7]
theorem own_blk {g n cap : Nat} {xs : List Value} (h : w.ownsRow base e size (.slice (some ⟨g, 0, none⟩) n cap) n xs) : ∃ cur, w.heap[g]? = some (.cells cur e (0, 0)) := by
  rcases h.2 with ⟨h1, h2⟩ | ⟨g', cap', cur, h1, h2, h3, h4⟩
  · simp at h1
  · injection h1 with hA hn hc
    injection hA with hA
    injection hA with hA
    subst hA
    exact ⟨cur, h3⟩
theorem own_cell (hs : ∀ a, (enc a).length = size) {g n cap : Nat} {l : List α} (h : w.ownsRow base e size (.slice (some ⟨g, 0, none⟩) n cap) n (l.flatMap enc)) {k : Nat} {a : α} (hk : l[k]? = some a) (j : Nat) (hj : j < size) : w.cell? ⟨g, k * size + j, none⟩ = (enc a)[j]? := by
  rw [← flat_at hs l k j a hk hj]
  refine h.cellAt _ ?_
  rw [← h.1, flat_length hs]
  have hk1 := (List.getElem?_eq_some_iff.1 hk).1
  have := Nat.mul_le_mul_right size (show k + 1 ≤ l.length by omega)
  rw [Nat.add_mul] at this
  omega
theorem flat_set (hs : ∀ a, (enc a).length = size) {a a' : α} {j : Nat} {v : Value} (hj : j < size) (he : enc a' = (enc a).set j v) : ∀ {l : List α} {k : Nat}, l[k]? = some a → (l.flatMap enc).set (k * size + j) v = (l.set k a').flatMap enc
  | [], k, hk => by simp at hk
  | x :: l, 0, hk => by
    simp only [List.getElem?_cons_zero, Option.some.injEq] at hk
    subst hk
    rw [List.set_cons_zero, List.flatMap_cons, List.flatMap_cons, he, Nat.zero_mul, Nat.zero_add, List.set_append_left _ _ (by rw [hs]; exact hj)]
  | x :: l, k + 1, hk => by
    rw [List.getElem?_cons_succ] at hk
    rw [List.set_cons_succ, List.flatMap_cons, List.flatMap_cons, ← flat_set hs hj he hk, List.set_append_right _ _ (by rw [hs, Nat.add_mul]; omega)]
    congr 2
    rw [hs, Nat.add_mul]; omega
theorem own_setE (hs : ∀ a, (enc a).length = size) {g cap : Nat} {l : List α} {k : Nat} {a a' : α} {j : Nat} {v : Value} (h : w.ownsRow base e size (.slice (some ⟨g, 0, none⟩) l.length cap) l.length (l.flatMap enc)) (hk : l[k]? = some a) (hj : j < size) (he : enc a' = (enc a).set j v) :
    (w.setCell ⟨g, k * size + j, none⟩ v).ownsRow base e size (.slice (some ⟨g, 0, none⟩) (l.set k a').length cap) (l.set k a').length ((l.set k a').flatMap enc) := by
  have := own_set h (k * size + j) v
  rw [flat_set hs hj he hk] at this
  rw [List.length_set]
  exact this
/-- Another row of the same type grows. -/
theorem own_grown2 {s n : Nat} {v v' : Value} {xs : List Value} (h : w.ownsRow base e s v n xs) (hne : ∀ k, v.ownBlock = some k → v'.ownBlock ≠ some k) (hg : w.grownBy w' v'.ownBlock) : w'.ownsRow base e s v n xs :=
  ow_move h fun k hk _ hv => hg.block k hk (Ne.symm (hne k hv))
theorem own_far {s n : Nat} {v : Value} {xs : List Value} (h : w.ownsRow base e s v n xs) {g j : Nat} (hne : v.ownBlock ≠ some g) (u : Value) : (w.setCell ⟨g, j, none⟩ u).ownsRow base e s v n xs :=
  ow_move h fun k hk _ hv => Below.heap_setCell _ _ _ _ (by intro hkb; exact hne (by rw [hv]; exact congrArg some hkb))
end
theorem flat_same {α : Type} {enc : α → List Value} {a a' : α} (he : enc a' = enc a) : ∀ {l : List α} {k : Nat}, l[k]? = some a → (l.set k a').flatMap enc = l.flatMap enc
  | [], k, hk => by simp at hk
  | x :: l, 0, hk => by
    simp only [List.getElem?_cons_zero, Option.some.injEq] at hk
    subst hk
    rw [List.set_cons_zero, List.flatMap_cons, List.flatMap_cons, he]
  | x :: l, k + 1, hk => by
    rw [List.getElem?_cons_succ] at hk
    rw [List.set_cons_succ, List.flatMap_cons, List.flatMap_cons, flat_same he hk]
theorem slice_lo2 {P : Program} {α : Type} {enc : α → List Value} (t e : TypeId) (ht : P.underlying t = some (.slice e)) (A : Option Addr) (c k : Nat) (l : List α) {size : Nat} (hk : k ≤ l.length) (hc : l.length ≤ c) (he : (P.info? e).map (·.size) = some size) :
    ∃ A1 c1, (∀ w, (Instr.slice t (.slice A l.length c) (some (.int .i64 (k : Int))) none none).run P w = .ok (.slice A1 (l.drop k).length c1) w) ∧ (∀ w B, Sli enc size w B A l → Sli enc size w B A1 (l.drop k)) ∧ (l.drop k).length ≤ c1 ∧ c1 ≤ c ∧ ∀ b off, A1 = some ⟨b, off, none⟩ → ∃ a, A = some a ∧ a.block = b := by
  obtain ⟨i, hi, hs⟩ := Option.map_eq_some_iff.1 he
  have he' : P.elem t = e := by simp [Program.elem, ht]
  refine ⟨if c = k then A else A.map (·.add (k * size)), c - k, fun w => ?_, fun w B h => ?_, by simp; omega, by omega, ?_⟩
  · rw [run_slice_l w t A l.length c (by rw [he', ht]) .i64 k (by omega) (by omega)]
    simp [sizeOf, typeInfo, he', hi, hs, sliced, Result.andThen, List.length_drop]
  · have h2 := sli_drop h k
    intro hl
    rw [if_neg (by rw [List.length_drop] at hl; omega)]
    exact h2 hl
  · intro b off h
    split at h
    · exact ⟨_, h, rfl⟩
    · cases A with
      | none => simp at h
      | some a =>
        refine ⟨a, rfl, ?_⟩
        simp only [Option.map_some, Option.some.injEq, Addr.add] at h
        split at h
        · rw [h]
        · injection h with h1 h2 h3
structure OwnRt (w : World) (B : Nat) (u : RtV) : Prop where
  nets : w.ownsRow B 66 2 (.slice u.nets.A u.nets.l.length u.nets.cap) u.nets.l.length (u.nets.l.flatMap pfc)
  links : w.ownsRow B 50 5 (.slice u.links.A u.links.l.length u.links.cap) u.links.l.length (u.links.l.flatMap lkc)
  stats : w.ownsRow B 70 4 (.slice u.stats.A u.stats.l.length u.stats.cap) u.stats.l.length (u.stats.l.flatMap stc)
def obk {α : Type} (s : SlV α) : Option Nat := (Value.slice s.A s.l.length s.cap).ownBlock
structure RApart (u v : RtV) : Prop where
  links : ∀ b, obk u.links = some b → obk v.links ≠ some b
  stats : ∀ b, obk u.stats = some b → obk v.stats ≠ some b
structure RBd (N : Nat) (u : RtV) : Prop where
  nets : u.nets.l.length ≤ N
  links : u.links.l.length ≤ N
  stats : u.stats.l.length ≤ N
structure BdC (N : Nat) (c : CfV) : Prop where
  maps : c.maps.l.length ≤ N
  rts : c.rts.l.length ≤ N
  all : ∀ u ∈ c.rts.l, RBd N u
theorem RBd.le {N M : Nat} {u : RtV} (h : RBd N u) (hm : N ≤ M) : RBd M u := ⟨Nat.le_trans h.nets hm, Nat.le_trans h.links hm, Nat.le_trans h.stats hm⟩
/-- What is asked of a router in the end. -/
structure FinOk (w : World) (B N : Nat) (u : RtV) : Prop where
  ok : RtOk w u
  in_ : RtIn (fun b => B ≤ b) u
  bd : RBd N u
theorem OwnRt.fin {w : World} {B N : Nat} {u : RtV} (h : OwnRt w B u) (hb : RBd N u) : FinOk w B N u :=
  ⟨⟨own_slok h.nets pfc_len (by omega) (fun _ _ => trivial), own_slok h.links lkc_len (by omega) (fun _ _ => trivial), own_slok h.stats stc_len (by omega) (fun _ _ => trivial)⟩, ⟨own_in h.nets, own_in h.links, own_in h.stats⟩, hb⟩
theorem OwnRt.below {w w' : World} {B : Nat} {u : RtV} (h : OwnRt w B u) (hb : Below w.heap.size w w') : OwnRt w' B u := ⟨ow_below h.nets hb, ow_below h.links hb, ow_below h.stats hb⟩
theorem OwnRt.le {w : World} {B C : Nat} {u : RtV} (h : OwnRt w C u) (hb : B ≤ C) : OwnRt w B u := ⟨own_le h.nets hb, own_le h.links hb, own_le h.stats hb⟩
/-- A cell of a block that holds routers (or a configuration) is written. -/
theorem OwnRt.store {w : World} {B b : Nat} {u : RtV} {cs : Array Value} {t : TypeId} (h : OwnRt w B u) (hb : w.heap[b]? = some (.cells cs t (0, 0))) (i : Nat) (v : Value) (ht : 66 ≠ t ∧ 50 ≠ t ∧ 70 ≠ t) : OwnRt (w.setCell ⟨b, i, none⟩ v) B u :=
  ⟨own_store h.nets hb ht.1 i v, own_store h.links hb ht.2.1 i v, own_store h.stats hb ht.2.2 i v⟩
theorem OwnRt.grown {w w' : World} {B : Nat} {u : RtV} {e' : TypeId} {s' n' base' : Nat} {v' : Value} {xs' : List Value} (h : OwnRt w B u) (h' : w.ownsRow base' e' s' v' n' xs') (hg : w.grownBy w' v'.ownBlock) (ht : 66 ≠ e' ∧ 50 ≠ e' ∧ 70 ≠ e') : OwnRt w' B u :=
  ⟨own_grown h.nets h' ht.1 hg, own_grown h.links h' ht.2.1 hg, own_grown h.stats h' ht.2.2 hg⟩
theorem set_all {rs : List RtV} {i : Nat} {u' : RtV} {P : RtV → Prop} (h1 : ∀ j v, rs[j]? = some v → j ≠ i → P v) (h2 : P u') : ∀ v ∈ rs.set i u', P v := by
  intro v hv
  obtain ⟨j, hj, he⟩ := List.mem_iff_getElem.1 hv
  rw [List.getElem_set] at he
  rw [List.length_set] at hj
  split at he
  · rw [← he]; exact h2
  · rename_i hne
    exact h1 j v (by rw [← he]; exact List.getElem?_eq_getElem hj) (fun e => hne e.symm)
theorem apart_at {rs : List RtV} (h : rs.Pairwise RApart) {i j : Nat} {u v : RtV} (hi : rs[i]? = some u) (hj : rs[j]? = some v) (hne : j ≠ i) : RApart u v := by
  obtain ⟨h1, e1⟩ := List.getElem?_eq_some_iff.1 hi
  obtain ⟨h2, e2⟩ := List.getElem?_eq_some_iff.1 hj
  rw [List.pairwise_iff_getElem] at h
  rcases Nat.lt_or_ge i j with hlt | hge
  · have := h i j h1 h2 hlt
    rwa [e1, e2] at this
  · have := h j i h2 h1 (by omega)
    rw [e1, e2] at this
    exact ⟨fun b h3 h4 => this.links b h4 h3, fun b h3 h4 => this.stats b h4 h3⟩
theorem pw_snoc {rs : List RtV} (h : rs.Pairwise RApart) {u : RtV} (hu : ∀ v ∈ rs, RApart v u) : (rs ++ [u]).Pairwise RApart := by
  rw [List.pairwise_append]
  exact ⟨h, List.pairwise_singleton _ _, fun a ha b hb => by rw [List.mem_singleton.1 hb]; exact hu a ha⟩
/-- Rows that lie below a number, and one whose rows lie above. -/
theorem apart_new {w w' : World} {B C : Nat} {u v : RtV} (hu : OwnRt w B u) (hv : OwnRt w' C v) (hc : w.heap.size ≤ C) : RApart u v := by
  have lt : ∀ {α : Type} {enc : α → List Value} {size : Nat} {e : TypeId} {s : SlV α} {b : Nat}, w.ownsRow B e size (.slice s.A s.l.length s.cap) s.l.length (s.l.flatMap enc) → obk s = some b → b < w.heap.size := by
    intro α enc size e s b h hb
    unfold obk at hb
    rcases h.2 with ⟨h1, h2⟩ | ⟨g, cap, cur, h1, h2, h3, -⟩
    · rw [h1] at hb; simp [Value.ownBlock] at hb
    · rw [h1] at hb
      simp only [Value.ownBlock, Option.some.injEq] at hb
      subst hb; exact gb_lt h3
  refine ⟨fun b h1 h2 => ?_, fun b h1 h2 => ?_⟩
  · have := lt hu.links h1
    have := own_ge hv.links h2
    omega
  · have := lt hu.stats h1
    have := own_ge hv.stats h2
    omega
/-- The end: the result is laid into its box. -/
theorem turn_fin {w wz : World} {q6 B0 N : Nat} {Am Ar : Option Addr} {cm cr : Nat} {ms : List MpV} {rs : List RtV} {x0 x1 : Value} (T6 : wz.heap[q6]? = some (.cells #[x0, x1] 33)) (hq : q6 < B0)
    (OM : wz.ownsRow B0 57 3 (.slice Am ms.length cm) ms.length (ms.flatMap mpc)) (OR : wz.ownsRow B0 48 5 (.slice Ar rs.length cr) rs.length (rs.flatMap rtc)) (HU : ∀ u ∈ rs, FinOk wz B0 N u) (hw : w.heap.size ≤ q6) (HB : Below w.heap.size w wz) (hms : ms.length ≤ N) (hrs : rs.length ≤ N) :
    ((wz.setCell ⟨q6, 0, none⟩ (.slice Am ms.length cm)).setCell ⟨q6, 1, none⟩ (.slice Ar rs.length cr)).heap[q6]? = some (.cells #[.slice Am ms.length cm, .slice Ar rs.length cr] 33) ∧
    CfOk ((wz.setCell ⟨q6, 0, none⟩ (.slice Am ms.length cm)).setCell ⟨q6, 1, none⟩ (.slice Ar rs.length cr)) ⟨⟨Am, cm, ms⟩, ⟨Ar, cr, rs⟩⟩ ∧ BdC N ⟨⟨Am, cm, ms⟩, ⟨Ar, cr, rs⟩⟩ ∧
    Below w.heap.size w ((wz.setCell ⟨q6, 0, none⟩ (.slice Am ms.length cm)).setCell ⟨q6, 1, none⟩ (.slice Ar rs.length cr)) := by
  have t1 := gb_set T6 0 (.slice Am ms.length cm)
  have t2 := gb_set t1 1 (.slice Ar rs.length cr)
  have o2 := own_store (own_store OM T6 (by decide) 0 (.slice Am ms.length cm)) t1 (by decide) 1 (.slice Ar rs.length cr)
  have p2 := own_store (own_store OR T6 (by decide) 0 (.slice Am ms.length cm)) t1 (by decide) 1 (.slice Ar rs.length cr)
  have hkx : KeepX (fun b => B0 ≤ b) wz ((wz.setCell ⟨q6, 0, none⟩ (.slice Am ms.length cm)).setCell ⟨q6, 1, none⟩ (.slice Ar rs.length cr)) := by
    refine ⟨by simp, fun b hb hX => ?_⟩
    rw [Below.heap_setCell _ _ _ _ (by simp; omega), Below.heap_setCell _ _ _ _ (by simp; omega)]
  refine ⟨by simpa using t2, ⟨own_slok o2 mpc_len (by omega) (fun _ _ => trivial), own_slok p2 rtc_len (by omega) (fun u hu => (HU u hu).ok.keep (HU u hu).in_ hkx)⟩, ⟨hms, hrs, fun u hu => (HU u hu).bd⟩, ?_⟩
  exact Below.setCell (Below.setCell HB hw _) hw _
end Go.Proofs.YteciceelinbfoaaDoor
