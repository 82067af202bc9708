import Derived.Test.YteciceelinbfoaaDoorBdd
import Derived.WideKeyRuns
import Derived.WideLaws
import Derived.ChangeMaps4
import Derived.Laws.StructEq
import Derived.Laws.World
import Derived.Laws.NewBlocks
import Derived.Deep.Draws
import Derived.KernelRfl
set_option linter.unusedSectionVars false
namespace Mq
open Go

/-! ### a map's entries -/
section
variable {α β : Type} [DecidableEq α] (enc : α → Value) (encv : β → Value)

def ent (i : Nat) : List (α × β) → List MapEntry
  | [] => []
  | (a, b) :: l => ⟨enc a, encv b, i⟩ :: ent (i + 1) l
theorem ent_length (L : List (α × β)) : ∀ i, (ent enc encv i L).length = L.length := by
  induction L with
  | nil => intro i; rfl
  | cons p l ih => intro i; simp [ent, ih]
theorem ent_append (L M : List (α × β)) : ∀ i, ent enc encv i (L ++ M) = ent enc encv i L ++ ent enc encv (i + L.length) M := by
  induction L with
  | nil => intro i; simp [ent]
  | cons p l ih => intro i; simp [ent, ih, Nat.add_assoc, Nat.add_comm 1]
theorem ent_at (L : List (α × β)) : ∀ (i j : Nat) (p : α × β), L[j]? = some p → (ent enc encv i L)[j]? = some (⟨enc p.1, encv p.2, i + j⟩ : MapEntry) := by
  induction L with
  | nil => intro i j p h; simp at h
  | cons q l ih =>
    intro i j p h
    cases j with
    | zero => simp at h; subst h; simp [ent]
    | succ j => simp at h; simp only [ent, List.getElem?_cons_succ]; rw [ih (i + 1) j p h]; congr 2; omega

/-- The block of a map that holds these pairs. -/
def mapObj (L : List (α × β)) : Obj := .map (ent enc encv 0 L).toArray L.length

theorem ent_put {a : α} {b c : β} {j : Nat} (L : List (α × β)) : ∀ i, whereIs a L = some (j, c) →
    (ent enc encv i L).modify j (fun e => { e with key := enc a, val := encv b }) = ent enc encv i (put a b L) ∧ (put a b L).length = L.length := by
  induction L generalizing j with
  | nil => intro i h; simp [whereIs] at h
  | cons p l ih =>
    obtain ⟨x, d⟩ := p
    intro i h
    simp only [whereIs] at h
    by_cases hx : x = a
    · rw [if_pos hx] at h
      obtain ⟨rfl, rfl⟩ := h
      simp [put, hx, ent, List.modify]
    · rw [if_neg hx] at h
      cases hw : whereIs a l with
      | none => simp [hw] at h
      | some q =>
        obtain ⟨m, e⟩ := q
        simp [hw] at h
        obtain ⟨rfl, rfl⟩ := h
        have := ih (i + 1) hw
        simp [put, hx, ent, this.1, this.2]

/-- What the laws want of a key's type. -/
structure KeyT (P : Program) (kt : TypeId) : Prop where
  check : ∀ (w : World) (em : Bool) (x : α), (Instr.checkKey em 10000 kt (enc x)).run P w = .ok () w
  find : ∀ (w : World) (x : α) (L : List (α × Value)), (Instr.findKey kt (enc x) (ent enc id 0 L)).run P w = .ok (whereIs x L) w
  stays : ∀ (w : World) (x : α), (Instr.keyThatStays (enc x) (enc x)).run P w = .ok (enc x) w

theorem ent_map (L : List (α × β)) : ∀ i, ent enc encv i L = ent enc id i (L.map fun p => (p.1, encv p.2)) := by
  induction L with
  | nil => intro i; rfl
  | cons p l ih => intro i; simp [ent, ih]
theorem whereIs_map (x : α) (L : List (α × β)) : whereIs x (L.map fun p => (p.1, encv p.2)) = (whereIs x L).map fun p => (p.1, encv p.2) := by
  induction L with
  | nil => rfl
  | cons p l ih =>
    simp only [List.map_cons, whereIs]
    split
    · rfl
    · rw [ih]; cases whereIs x l <;> rfl

variable {enc encv} {P : Program} {kt : TypeId}

theorem findAsking_eq (heq : ∀ (w : World) (x y : α), (Op.equal kt (enc x) (enc y)).run P w = .ok (decide (x = y)) w) (w : World) (x : α) (L : List (α × Value)) :
    ∀ (i k : Nat), (Instr.findAsking kt (enc x) (ent enc id i L) k).run P w = .ok ((whereIs x L).map fun p => (p.1 + k, p.2)) w := by
  induction L with
  | nil => intro i k; simp [ent, Instr.findAsking, whereIs]
  | cons p l ih =>
    obtain ⟨y, v⟩ := p
    intro i k
    simp only [ent, Instr.findAsking, Sem.run_bind, heq, Result.andThen_ok, whereIs, id]
    by_cases h : x = y
    · subst h; simp
    · rw [if_neg (by simpa using h), ih, if_neg (Ne.symm h)]
      cases whereIs x l <;> simp [Nat.add_assoc, Nat.add_comm 1]

/-- A struct's key type. -/
theorem KeyT.of_equal (hwide : (match P.underlying kt with | some (.array _ _) | some (.struct _) => true | _ => false) = true)
    (hcheck : ∀ (w : World) (em : Bool) (x : α), (Instr.checkKey em 10000 kt (enc x)).run P w = .ok () w)
    (heq : ∀ (w : World) (x y : α), (Op.equal kt (enc x) (enc y)).run P w = .ok (decide (x = y)) w)
    (hbits : ∀ x : α, Instr.sameBits 10000 (enc x) (enc x) = true) : KeyT enc P kt where
  check := hcheck
  find w x L := by
    rw [run_findKey_eq w hwide, findAsking_eq heq]
    cases whereIs x L <;> simp
  stays w x := by simp [Instr.keyThatStays, hbits]

theorem findNow_eq {d : TypeDesc} (hs : ∀ x y : α, Instr.sameNow d (enc x) (enc y) = some (decide (x = y))) (x : α) (L : List (α × Value)) :
    ∀ (i k : Nat), Instr.findNow d (enc x) (ent enc id i L) k = some ((whereIs x L).map fun p => (p.1 + k, p.2)) := by
  induction L with
  | nil => intro i k; simp [ent, Instr.findNow, whereIs]
  | cons p l ih =>
    obtain ⟨y, v⟩ := p
    intro i k
    simp only [ent, Instr.findNow, hs, whereIs, id]
    by_cases h : x = y
    · subst h; simp
    · simp only [decide_eq_false h, ih, if_neg (Ne.symm h)]
      cases whereIs x l <;> simp [Nat.add_assoc, Nat.add_comm 1]

/-- A plain key type. -/
theorem KeyT.of_now {d : TypeDesc} (hd : P.underlying kt = some d) (hk : ∀ x : α, MapKept.IsKey d (enc x)) (hs : ∀ x y : α, Instr.sameNow d (enc x) (enc y) = some (decide (x = y))) : KeyT enc P kt where
  check w em x := MapKept.run_checkKey hd (hk x) em 9999
  find w x L := by
    refine MapKept.run_findKey hd ?_
    rw [findNow_eq hs]
    cases whereIs x L <;> simp
  stays w x := MapKept.run_keyThatStays (hk x)

theorem keyT_int {q : IntKind} (hd : P.underlying kt = some (.int q)) : KeyT (fun x : Int => Value.int q x) P kt :=
  KeyT.of_now hd (fun x => rfl) (fun x y => by simp [Instr.sameNow]; rfl)

theorem find_ent (K : KeyT enc P kt) (w : World) (x : α) (L : List (α × β)) : (Instr.findKey kt (enc x) (ent enc encv 0 L)).run P w = .ok ((whereIs x L).map fun p => (p.1, encv p.2)) w := by
  rw [ent_map, K.find, whereIs_map]

/-- 'v, ok := m[k]' and 'm[k]'. -/
theorem run_look (K : KeyT enc P kt) {t e : TypeId} (ht : P.underlying t = some (.map kt e)) {z : β} (hz : ∀ w : World, (zeroValue e).run P w = .ok (encv z) w) (w : World) {b : Nat} {L : List (α × β)}
    (hb : w.heap[b]? = some (mapObj enc encv L)) (x : α) (ok : Bool) :
    (Instr.lookup t (.map (some b)) (enc x) ok).run P w = .ok (if ok then .tuple #[encv ((look x L).getD z), .bool (look x L).isSome] else encv ((look x L).getD z)) w := by
  have hg := MapKept.run_getObj_map (P := P) hb
  have hf := find_ent (encv := encv) K w x L
  rw [← whereIs_look]
  cases hw : whereIs x L with
  | none =>
    rw [hw] at hf
    simp only [Instr.lookup, Sem.run_bind, run_underlying ht, Result.andThen_ok, hg, K.check, hf, hz, Sem.run_pure, Option.map_none]
    cases ok <;> rfl
  | some p =>
    rw [hw] at hf
    simp only [Instr.lookup, Sem.run_bind, run_underlying ht, Result.andThen_ok, hg, K.check, hf, Sem.run_pure, Option.map_some]
    cases ok <;> rfl

/-- 'm[k] = v'. -/
theorem run_store (K : KeyT enc P kt) {t e : TypeId} (ht : P.underlying t = some (.map kt e)) (w : World) {b : Nat} {L : List (α × β)}
    (hb : w.heap[b]? = some (mapObj enc encv L)) (x : α) (y : β) :
    (Instr.mapUpdate t (.map (some b)) (enc x) (encv y)).run P w = .ok () (ChangeMaps.setBlock w b (mapObj enc encv (put x y L))) := by
  have hg := MapKept.run_getObj_map (P := P) hb
  have hf := find_ent (encv := encv) K w x L
  have hs := fun o => MapKept.run_setObj_map (P := P) o hb
  cases hw : whereIs x L with
  | none =>
    rw [hw] at hf
    have hl : look x L = none := by rw [← whereIs_look, hw]; rfl
    simp only [Instr.mapUpdate, Sem.run_bind, run_underlying ht, Result.andThen_ok, hg, K.check, hf, Option.map_none, hs]
    rw [put_new hl]
    simp only [ChangeMaps.setBlock, mapObj, ent_append, ent]
    simp
  | some p =>
    obtain ⟨j, c⟩ := p
    rw [hw] at hf
    have hp := ent_put enc encv (b := y) L 0 hw
    have hj := whereIs_at hw
    obtain ⟨q, hq, hqx⟩ := hj
    have hat := ent_at enc encv L 0 j q hq
    simp only [Instr.mapUpdate, Sem.run_bind, run_underlying ht, Result.andThen_ok, hg, K.check, hf, Option.map_some]
    simp only [List.getElem?_toArray, hat, Option.map_some, Option.getD_some, hqx, K.stays, Result.andThen_ok, hs]
    simp only [ChangeMaps.setBlock, mapObj]
    rw [List.modify_toArray, hp.1, hp.2]
end
end Mq
