import Derived.Test.YteciceelinbfoaaDoorSh0
import Derived.Test.YteciceelinbfoaaDoorRgt
import Derived.Deep.AppendLies
set_option linter.unusedVariables false
namespace Go.Proofs.YteciceelinbfoaaDoor
open Go.RowKit Mq

section
variable {P : Program} {α : Type} {enc : α → List Value} {sz : Nat} {w : World}
theorem run_append_none (base : Nat) (t ty e : TypeId) (i : TypeInfo) (size c : Nat) (A : Option Addr) (ht : P.underlying t = some (.slice e)) (hi : P.info? e = some i)
    (v : Value) (n : Nat) (xs : List Value) (hown : w.ownsRow base e size v n xs) :
    (Builtin.append_ #[t, t] ty #[v, .slice A 0 c]).run P w = .ok v w := by
  cases A with
  | none =>
    rcases hown.2 with ⟨rfl, rfl⟩ | ⟨g, cap, cur, rfl, _, _, hnc, _⟩
    · simp [Builtin.append_, run_underlying ht, sizeOf, typeInfo, hi, Builtin.lenOf, Builtin.firstCells]
    · simp [Builtin.append_, run_underlying ht, sizeOf, typeInfo, hi, Builtin.lenOf, Builtin.firstCells, hnc, storeCells]
  | some a =>
    rcases hown.2 with ⟨rfl, rfl⟩ | ⟨g, cap, cur, rfl, _, _, hnc, _⟩
    · simp [Builtin.append_, run_underlying ht, sizeOf, typeInfo, hi, Builtin.lenOf, Builtin.firstCells, loadCells, loadCellsFrom]
    · simp [Builtin.append_, run_underlying ht, sizeOf, typeInfo, hi, Builtin.lenOf, Builtin.firstCells, hnc, storeCells, loadCells, loadCellsFrom]
/-- append of a slice that reads as a list, onto an owned row. -/
theorem run_append_sli (base : Nat) (t ty e : TypeId) (i : TypeInfo) (z : Value) (bytes : Nat) (ht : P.underlying t = some (.slice e)) (hi : P.info? e = some i) (hz : i.zero = some z)
    (hsize : i.size = sz) (hby : i.bytes = bytes) (hzs : z.cells.size = sz) (hsz : 0 < sz)
    (v : Value) (n : Nat) (xs : List Value) (hown : w.ownsRow base e sz v n xs)
    (A : Option Addr) (c : Nat) (l : List α) {B : Nat} (hl : Sli enc sz w B A l) (hs : ∀ a, (enc a).length = sz) (h1 : ∀ a, ∀ u ∈ enc a, u.oneCell' = true)
    (h63 : n + l.length ≤ maxLen) (hbytes : (n + l.length) * bytes ≤ 140737488355328) (hbase : base ≤ w.heap.size) :
    ∃ A' c' w', (Builtin.append_ #[t, t] ty #[v, .slice A l.length c]).run P w = .ok (.slice A' (n + l.length) c') w' ∧
      w'.ownsRow base e sz (.slice A' (n + l.length) c') (n + l.length) (xs ++ l.flatMap enc) ∧ w.grownBy w' v.ownBlock ∧ ((Value.slice A' (n + l.length) c').ownBlock = v.ownBlock ∨ (Value.slice A' (n + l.length) c').ownBlock = some w.heap.size) := by
  match l, hl with
  | [], _ =>
    have hr := run_append_none (P := P) (w := w) base t ty e i sz c A ht hi v n xs hown
    rcases hown.2 with ⟨rfl, rfl⟩ | ⟨g, cap, cur, rfl, _, _, hnc, _⟩
    · exact ⟨none, 0, w, by simpa using hr, by simpa using hown, World.grownBy.refl w _, .inl rfl⟩
    · exact ⟨some ⟨g, 0, none⟩, cap, w, by simpa using hr, by simpa using hown, World.grownBy.refl w _, .inl rfl⟩
  | a :: l, hl =>
    obtain ⟨b, off, rfl, -, hc⟩ := hl (by simp)
    have hnews : ∀ j u, ((a :: l).flatMap enc)[j]? = some u → w.cell? ((⟨b, off, none⟩ : Addr).add j) = some u := by
      intro j u hu
      have hj : j < (a :: l).length * sz := by rw [← flat_length hs]; exact (List.getElem?_eq_some_iff.1 hu).1
      have hm := Nat.mod_lt j hsz
      have hd : j / sz < (a :: l).length := Nat.div_lt_of_lt_mul (by rw [Nat.mul_comm]; exact hj)
      have he : j = j / sz * sz + j % sz := by rw [Nat.mul_comm]; exact (Nat.div_add_mod j sz).symm
      have h2 := hc (j / sz) _ (List.getElem?_eq_getElem hd) (j % sz) hm
      rw [← flat_at hs (a :: l) (j / sz) (j % sz) _ (List.getElem?_eq_getElem hd) hm, ← he, hu] at h2
      rw [Addr.add]
      have h3 : w.cell? ⟨b, off + j, none⟩ = some u := by simpa [Nat.add_assoc, ← he] using h2
      by_cases hj0 : j = 0
      · subst hj0; simpa using h3
      · simpa [hj0] using h3
    obtain ⟨g, cap, w', hr, h2, h3, h4, h5⟩ := run_append_lies (P := P) w t ty base e i z sz bytes ht hi hz hsize hby hzs hsz v n xs hown ⟨b, off, none⟩ (a :: l).length c _ (flat_length hs _) hnews (fun u hu => by
      obtain ⟨x, -, hx⟩ := List.mem_flatMap.1 hu
      exact h1 x u hx) (by simp) h63 hbytes hbase _ rfl
    refine ⟨_, _, w', hr, h2, h3, ?_⟩
    rcases h4 with h4 | h4
    · exact .inl h4.symm
    · exact .inr (by rw [h4]; rfl)
theorem wp_append_sli {o : Oper} {a : Act} {K : Act → World → Prop} {Q : Exit → Act → World → Prop} (s x : Operand) (t : TypeId)
    (ho : o.op = .call { callee := .builtin .append, args := #[s, x], argTypes := #[t, t] })
    (base : Nat) (e : TypeId) (i : TypeInfo) (z : Value) (bytes : Nat) (ht : P.underlying t = some (.slice e)) (hi : P.info? e = some i) (hz : i.zero = some z)
    (hsize : i.size = sz) (hby : i.bytes = bytes) (hzs : z.cells.size = sz) (hsz : 0 < sz)
    (v : Value) (n : Nat) (xs : List Value) (hsv : a.eval s = v) (hown : w.ownsRow base e sz v n xs)
    (A : Option Addr) (c : Nat) (l : List α) (hx : a.eval x = .slice A l.length c) {B : Nat} (hl : Sli enc sz w B A l) (hs : ∀ a, (enc a).length = sz) (h1 : ∀ a, ∀ u ∈ enc a, u.oneCell' = true)
    (h63 : n + l.length ≤ maxLen) (hbytes : (n + l.length) * bytes ≤ 140737488355328) (hbase : base ≤ w.heap.size)
    (h : ∀ A' c' w', w'.ownsRow base e sz (.slice A' (n + l.length) c') (n + l.length) (xs ++ l.flatMap enc) → w.grownBy w' v.ownBlock → ((Value.slice A' (n + l.length) c').ownBlock = v.ownBlock ∨ (Value.slice A' (n + l.length) c').ownBlock = some w.heap.size) → K (a.put o.dst (.slice A' (n + l.length) c')) w') : o.wp P a w K Q := by
  obtain ⟨A', c', w', hr, h2, h3, h4⟩ := run_append_sli (P := P) (w := w) base t o.type e i z bytes ht hi hz hsize hby hzs hsz v n xs hown A c l hl hs h1 h63 hbytes hbase
  unfold Oper.wp execOp
  simp only [ho, resolve, invoke, builtin, Sem.run_bind, Sem.run_pure, Result.andThen_ok, List.map_toArray, List.map_cons, List.map_nil, hsv, hx, hr]
  exact h A' c' w' h2 h3 h4
theorem wpList_append_sli {ops : Array Oper} {rest : List Oper} {o : Oper} {a : Act} {Q : Exit → Act → World → Prop} (hgd : o.guard = none) (s x : Operand) (t : TypeId)
    (ho : o.op = .call { callee := .builtin .append, args := #[s, x], argTypes := #[t, t] })
    (base : Nat) (e : TypeId) (i : TypeInfo) (z : Value) (bytes : Nat) (ht : P.underlying t = some (.slice e)) (hi : P.info? e = some i) (hz : i.zero = some z)
    (hsize : i.size = sz) (hby : i.bytes = bytes) (hzs : z.cells.size = sz) (hsz : 0 < sz)
    (v : Value) (n : Nat) (xs : List Value) (hsv : a.eval s = v) (hown : w.ownsRow base e sz v n xs)
    (A : Option Addr) (c : Nat) (l : List α) (hx : a.eval x = .slice A l.length c) {B : Nat} (hl : Sli enc sz w B A l) (hs : ∀ a, (enc a).length = sz) (h1 : ∀ a, ∀ u ∈ enc a, u.oneCell' = true)
    (h63 : n + l.length ≤ maxLen) (hbytes : (n + l.length) * bytes ≤ 140737488355328) (hbase : base ≤ w.heap.size)
    (h : ∀ A' c' w', w'.ownsRow base e sz (.slice A' (n + l.length) c') (n + l.length) (xs ++ l.flatMap enc) → w.grownBy w' v.ownBlock → ((Value.slice A' (n + l.length) c').ownBlock = v.ownBlock ∨ (Value.slice A' (n + l.length) c').ownBlock = some w.heap.size) → wpList P ops Q rest (a.put o.dst (.slice A' (n + l.length) c')) w') : wpList P ops Q (o :: rest) a w :=
  wpList_plain hgd fun _ hK => wp_append_sli s x t ho base e i z bytes ht hi hz hsize hby hzs hsz v n xs hsv hown A c l hx hl hs h1 h63 hbytes hbase fun A' c' w' h2 h3 h4 => hK _ _ (h A' c' w' h2 h3 h4)
theorem step_append_sli {ops : Array Oper} {o : Oper} {a : Act} {K : Act → World → Prop} {Q : Exit → Act → World → Prop} {E : Prop} (hgd : o.guard = none) (s x : Operand) (t : TypeId)
    (ho : o.op = .call { callee := .builtin .append, args := #[s, x], argTypes := #[t, t] })
    (base : Nat) (e : TypeId) (i : TypeInfo) (z : Value) (bytes : Nat) (ht : P.underlying t = some (.slice e)) (hi : P.info? e = some i) (hz : i.zero = some z)
    (hsize : i.size = sz) (hby : i.bytes = bytes) (hzs : z.cells.size = sz) (hsz : 0 < sz)
    (v : Value) (n : Nat) (xs : List Value) (hsv : a.eval s = v) (hown : w.ownsRow base e sz v n xs)
    (A : Option Addr) (c : Nat) (l : List α) (hx : a.eval x = .slice A l.length c) {B : Nat} (hl : Sli enc sz w B A l) (hs : ∀ a, (enc a).length = sz) (h1 : ∀ a, ∀ u ∈ enc a, u.oneCell' = true)
    (h63 : n + l.length ≤ maxLen) (hbytes : (n + l.length) * bytes ≤ 140737488355328) (hbase : base ≤ w.heap.size)
    (h : ∀ A' c' w', w'.ownsRow base e sz (.slice A' (n + l.length) c') (n + l.length) (xs ++ l.flatMap enc) → w.grownBy w' v.ownBlock → ((Value.slice A' (n + l.length) c').ownBlock = v.ownBlock ∨ (Value.slice A' (n + l.length) c').ownBlock = some w.heap.size) → K (a.put o.dst (.slice A' (n + l.length) c')) w') :
    if Region.wanted o (yielded ops a.tmps) = true then Oper.wp P o a w K Q else E := by
  have hw : Region.wanted o (yielded ops a.tmps) = true := by simp [Region.wanted, hgd]
  rw [if_pos hw]
  exact wp_append_sli s x t ho base e i z bytes ht hi hz hsize hby hzs hsz v n xs hsv hown A c l hx hl hs h1 h63 hbytes hbase h
theorem wpList_append_sli0 {ops : Array Oper} {rest : List Oper} {o : Oper} {a : Act} {Q : Exit → Act → World → Prop} (hgd : o.guard = none) (s x : Operand) (t : TypeId)
    (ho : o.op = .call { callee := .builtin .append, args := #[s, x], argTypes := #[t, t] })
    (base : Nat) (e : TypeId) (i : TypeInfo) (z : Value) (bytes : Nat) (ht : P.underlying t = some (.slice e)) (hi : P.info? e = some i) (hz : i.zero = some z)
    (hsize : i.size = sz) (hby : i.bytes = bytes) (hzs : z.cells.size = sz) (hsz : 0 < sz) (hsv : a.eval s = .slice none 0 0)
    (A : Option Addr) (c : Nat) (l : List α) (hx : a.eval x = .slice A l.length c) {B : Nat} (hl : Sli enc sz w B A l) (hs : ∀ a, (enc a).length = sz) (h1 : ∀ a, ∀ u ∈ enc a, u.oneCell' = true)
    (h63 : l.length ≤ maxLen) (hbytes : l.length * bytes ≤ 140737488355328) (hbase : base ≤ w.heap.size)
    (h : ∀ A' c' w', w'.ownsRow base e sz (.slice A' l.length c') l.length (l.flatMap enc) → Below w.heap.size w w' → wpList P ops Q rest (a.put o.dst (.slice A' l.length c')) w') : wpList P ops Q (o :: rest) a w :=
  wpList_append_sli hgd s x t ho base e i z bytes ht hi hz hsize hby hzs hsz (.slice none 0 0) 0 [] hsv (World.ownsRow_nil _ _ _ _) A c l hx hl hs h1 (by omega) (by rw [Nat.zero_add]; exact hbytes) hbase fun A' c' w' h2 h3 _ => by
    rw [Nat.zero_add, List.nil_append] at h2
    rw [Nat.zero_add]
    exact h A' c' w' h2 (ow_grown (Below.refl _ _) h3 (World.ownsRow_nil w w.heap.size e sz) (Nat.le_refl _))
theorem step_append_sli0 {ops : Array Oper} {o : Oper} {a : Act} {K : Act → World → Prop} {Q : Exit → Act → World → Prop} {E : Prop} (hgd : o.guard = none) (s x : Operand) (t : TypeId)
    (ho : o.op = .call { callee := .builtin .append, args := #[s, x], argTypes := #[t, t] })
    (base : Nat) (e : TypeId) (i : TypeInfo) (z : Value) (bytes : Nat) (ht : P.underlying t = some (.slice e)) (hi : P.info? e = some i) (hz : i.zero = some z)
    (hsize : i.size = sz) (hby : i.bytes = bytes) (hzs : z.cells.size = sz) (hsz : 0 < sz) (hsv : a.eval s = .slice none 0 0)
    (A : Option Addr) (c : Nat) (l : List α) (hx : a.eval x = .slice A l.length c) {B : Nat} (hl : Sli enc sz w B A l) (hs : ∀ a, (enc a).length = sz) (h1 : ∀ a, ∀ u ∈ enc a, u.oneCell' = true)
    (h63 : l.length ≤ maxLen) (hbytes : l.length * bytes ≤ 140737488355328) (hbase : base ≤ w.heap.size)
    (h : ∀ A' c' w', w'.ownsRow base e sz (.slice A' l.length c') l.length (l.flatMap enc) → Below w.heap.size w w' → K (a.put o.dst (.slice A' l.length c')) w') :
    if Region.wanted o (yielded ops a.tmps) = true then Oper.wp P o a w K Q else E :=
  step_append_sli hgd s x t ho base e i z bytes ht hi hz hsize hby hzs hsz (.slice none 0 0) 0 [] hsv (World.ownsRow_nil _ _ _ _) A c l hx hl hs h1 (by omega) (by rw [Nat.zero_add]; exact hbytes) hbase fun A' c' w' h2 h3 _ => by
    rw [Nat.zero_add, List.nil_append] at h2
    rw [Nat.zero_add]
    exact h A' c' w' h2 (ow_grown (Below.refl _ _) h3 (World.ownsRow_nil w w.heap.size e sz) (Nat.le_refl _))
theorem mpc_one (a : MpV) : ∀ u ∈ mpc a, u.oneCell' = true := by intro u hu; simp [mpc] at hu; rcases hu with rfl | rfl | rfl <;> rfl
theorem lkc_one (a : LkV) : ∀ u ∈ lkc a, u.oneCell' = true := by intro u hu; simp [lkc] at hu; rcases hu with rfl | rfl | rfl | rfl | rfl <;> rfl
theorem stc_one (a : StV) : ∀ u ∈ stc a, u.oneCell' = true := by intro u hu; simp [stc] at hu; rcases hu with rfl | rfl | rfl | rfl <;> rfl
theorem pfc_one (a : Pfx) : ∀ u ∈ pfc a, u.oneCell' = true := by intro u hu; simp [pfc] at hu; rcases hu with rfl | rfl <;> rfl
/-- The parts of a slice. -/
theorem sli_take {size : Nat} {B : Nat} {A : Option Addr} {l : List α} (h : Sli enc size w B A l) (k : Nat) : Sli enc size w B A (l.take k) := fun hl => by
  obtain ⟨b, off, hA, hB, hc⟩ := h (by rw [List.length_take] at hl; omega)
  refine ⟨b, off, hA, hB, fun i u hu j hj => hc i u ?_ j hj⟩
  rw [List.getElem?_take] at hu
  split at hu
  · exact hu
  · cases hu
theorem sli_drop {size : Nat} {B : Nat} {A : Option Addr} {l : List α} (h : Sli enc size w B A l) (k : Nat) : Sli enc size w B (A.map (·.add (k * size))) (l.drop k) := fun hl => by
  obtain ⟨b, off, hA, hB, hc⟩ := h (by rw [List.length_drop] at hl; omega)
  refine ⟨b, off + k * size, by rw [hA]; by_cases h0 : k * size = 0 <;> simp [Addr.add, h0], hB, fun i u hu j hj => ?_⟩
  rw [List.getElem?_drop] at hu
  have := hc (k + i) u hu j hj
  rw [← this, Nat.add_mul]
  congr 2
  omega
theorem slice_hi (t e : TypeId) (ht : P.underlying t = some (.slice e)) (A : Option Addr) (c k : Nat) (l : List α) {size : Nat} (hk : k ≤ l.length) (hc : l.length ≤ c) (he : (P.info? e).map (·.size) = some size) :
    ∃ A1 c1, (∀ w, (Instr.slice t (.slice A l.length c) none (some (.int .i64 (k : Int))) none).run P w = .ok (.slice A1 (l.take k).length c1) w) ∧ (∀ w B, Sli enc size w B A l → Sli enc size w B A1 (l.take k)) ∧ (l.take k).length ≤ c1 ∧ c1 ≤ c := by
  obtain ⟨i, hi, hs⟩ := Option.map_eq_some_iff.1 he
  have he' : P.elem t = e := by simp [Program.elem, ht]
  refine ⟨if c = 0 then A else A.map (·.add (0 * size)), c, fun w => ?_, fun w B h => ?_, by simp; omega, Nat.le_refl _⟩
  · rw [run_slice_h w t A l.length c (by rw [he', ht]) .i64 k (by omega) (by omega)]
    simp [sizeOf, typeInfo, he', hi, hs, sliced, Result.andThen, List.length_take, Nat.min_eq_left hk]
  · have h2 := sli_take h k
    intro hl
    obtain ⟨b, off, rfl, hB, hc⟩ := h2 hl
    split
    · exact ⟨b, off, rfl, hB, hc⟩
    · exact ⟨b, off, by simp [Addr.add], hB, hc⟩
theorem slice_lo (t e : TypeId) (ht : P.underlying t = some (.slice e)) (A : Option Addr) (c k : Nat) (l : List α) {size : Nat} (hk : k ≤ l.length) (hc : l.length ≤ c) (he : (P.info? e).map (·.size) = some size) :
    ∃ A1 c1, (∀ w, (Instr.slice t (.slice A l.length c) (some (.int .i64 (k : Int))) none none).run P w = .ok (.slice A1 (l.drop k).length c1) w) ∧ (∀ w B, Sli enc size w B A l → Sli enc size w B A1 (l.drop k)) ∧ (l.drop k).length ≤ c1 ∧ c1 ≤ c := by
  obtain ⟨i, hi, hs⟩ := Option.map_eq_some_iff.1 he
  have he' : P.elem t = e := by simp [Program.elem, ht]
  refine ⟨if c = k then A else A.map (·.add (k * size)), c - k, fun w => ?_, fun w B h => ?_, by simp; omega, by omega⟩
  · rw [run_slice_l w t A l.length c (by rw [he', ht]) .i64 k (by omega) (by omega)]
    simp [sizeOf, typeInfo, he', hi, hs, sliced, Result.andThen, List.length_drop]
  · have h2 := sli_drop h k
    intro hl
    rw [if_neg (by rw [List.length_drop] at hl; omega)]
    exact h2 hl
end
end Go.Proofs.YteciceelinbfoaaDoor
namespace Mq
open Go
section
variable {P : Program} {Q : Exit → Act → World → Prop} {md : Region.Mode} {S : World → Prop} {p : Nat} {l : List Oper}
/-- Two may come up, ahead of number p. -/
theorem T_two (i j : Nat) {oi oj : Oper} {f : Nat} {listed : Array Bool} {a : Act} {w : World} (hr : Region.ready md l.toArray listed = [i, j]) (hpi : (i == p) = false) (hpj : (j == p) = false) (hi : l[i]? = some oi) (hj : l[j]? = some oj)
    (h1 : ∀ K' : Act → World → Prop, Shut (∀ a w, S w → (S w → wpAnyT P md l.toArray Q S p f (listed.setIfInBounds i true) a w) → K' a w) → if Region.wanted oi (yielded l.toArray a.tmps) = true then Oper.wp P oi a w K' Q else K' (a.put oi.dst undef) w)
    (h2 : ∀ K' : Act → World → Prop, Shut (∀ a w, S w → (S w → wpAnyT P md l.toArray Q S p f (listed.setIfInBounds j true) a w) → K' a w) → if Region.wanted oj (yielded l.toArray a.tmps) = true then Oper.wp P oj a w K' Q else K' (a.put oj.dst undef) w) :
    wpAnyT P md l.toArray Q S p (f + 1) listed a w := by
  refine ⟨fun h0 => absurd (hr ▸ h0) (by simp), fun k hk => ?_⟩
  rw [hr] at hk
  rcases List.mem_cons.1 hk with rfl | hk
  · have hne : ¬ k = p := by simpa using hpi
    exact wpOp_step (by simpa using hi) fun K' hK => h1 K' fun a w hS hW => hK a w (by rw [if_neg hne]; exact ⟨hS, hW hS⟩)
  · obtain rfl := List.mem_singleton.1 hk
    have hne : ¬ k = p := by simpa using hpj
    exact wpOp_step (by simpa using hj) fun K' hK => h2 K' fun a w hS hW => hK a w (by rw [if_neg hne]; exact ⟨hS, hW hS⟩)
end
end Mq
