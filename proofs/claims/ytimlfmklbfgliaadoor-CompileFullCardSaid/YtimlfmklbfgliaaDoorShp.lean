import Derived.Test.YtimlfmklbfgliaaDoorCl
set_option linter.unusedVariables false
namespace Mq

/-! ### what clauses do hangs on a route's tags alone -/
structure Shp where
  tags : Nat
  more : Int
  pref : Option Int
  deriving DecidableEq
def shapeL (cs : List Cl) (o : Pfx) (t : Nat) : Option Shp :=
  match cs with
  | [] => some ⟨t, 0, none⟩
  | c :: l => if matchB c o t then (if c.drop then none else some ⟨(t ||| c.set) &&& (255 - c.clr) &&& 15, max 0 (min c.more 15), if 0 < c.pref ∧ c.pref ≤ 255 then some c.pref else none⟩) else shapeL l o t
def outL (s : Option Shp) (p c : Int) : Att :=
  match s with
  | none => noAtt
  | some s => ⟨true, s.pref.getD p, w64 (c + s.more), s.tags⟩
theorem goL_shape (cs : List Cl) (o : Pfx) (p c : Int) (t : Nat) (hc : is64 c) : goL cs o ⟨true, p, c, t⟩ = outL (shapeL cs o t) p c := by
  induction cs with
  | nil => simp [goL, shapeL, outL, w64_id hc]
  | cons d l ih =>
    simp only [goL, shapeL]
    by_cases hm : matchB d o t = true
    · rw [if_pos hm, if_pos hm]
      unfold actL
      by_cases hd : d.drop = true
      · rw [if_pos hd, if_pos hd]; rfl
      · rw [if_neg hd, if_neg hd]
        simp only [outL]
        split <;> rfl
    · rw [if_neg hm, if_neg hm, ih]
theorem doL_shape (cs : List Cl) (o : Pfx) (p c : Int) (t : Nat) (hc : is64 c) : doL cs o ⟨true, p, c, t⟩ = outL (shapeL cs o t) p c := by
  unfold doL; rw [if_pos rfl]; exact goL_shape cs o p c t hc
structure Shp.Ok (s : Shp) (t : Nat) : Prop where
  lo : 0 ≤ s.more
  hi : s.more ≤ 15
  tags : t < 16 → s.tags < 16
  tags8 : t < 256 → s.tags < 256
  pref : ∀ q, s.pref = some q → 1 ≤ q ∧ q ≤ 255
theorem shapeL_ok {cs : List Cl} {o : Pfx} {t : Nat} {s : Shp} (h : shapeL cs o t = some s) : s.Ok t := by
  induction cs with
  | nil =>
    simp only [shapeL, Option.some.injEq] at h
    subst h
    exact ⟨by simp, by simp, id, id, fun q h => by simp at h⟩
  | cons d l ih =>
    simp only [shapeL] at h
    split at h
    · split at h
      · cases h
      · injection h with h
        subst h
        have h15 : ∀ x : Nat, x &&& 15 < 16 := fun x => Nat.lt_of_le_of_lt Nat.and_le_right (by omega)
        refine ⟨by simp only; omega, by simp only; omega, fun _ => h15 _, fun _ => Nat.lt_trans (h15 _) (by omega), fun q hq => ?_⟩
        simp only at hq
        split at hq
        · injection hq with hq; omega
        · cases hq
    · exact ih h
/-- No clause makes a route cheaper. -/
theorem dearer (cs : List Cl) (o : Pfx) (c t : Nat) (hc : c < 65536) (ht : t < 16) (r : Att) (hr : r = doL cs o ⟨true, 100, c, t⟩) :
    r = noAtt ∨ (r.ok = true ∧ (c : Int) ≤ r.cost ∧ r.cost ≤ (c : Int) + 15 ∧ r.tags < 16 ∧ 0 < r.pref ∧ r.pref ≤ 255) := by
  rw [hr, doL_shape _ _ _ _ _ (by unfold is64; omega)]
  cases h : shapeL cs o t with
  | none => exact .inl rfl
  | some s =>
    have hs := shapeL_ok h
    have h1 := hs.lo
    have h2 := hs.hi
    right
    simp only [outL]
    rw [w64_id (by unfold is64; omega)]
    refine ⟨trivial, by omega, by omega, hs.tags ht, ?_, ?_⟩
    · cases hp : s.pref with
      | none => simp
      | some q => have := hs.pref q hp; simp; omega
    · cases hp : s.pref with
      | none => simp
      | some q => have := hs.pref q hp; simp; omega

/-! ### edges -/
def takeL (cost : Int) (ex im : List Cl) (a : Att) : Att :=
  let b := doL ex noPfx a
  if b.ok then doL im noPfx ⟨true, 100, w64 (b.cost + max 1 (min cost 1000)), b.tags⟩ else noAtt
def rowL (cost : Int) (ex im : List Cl) (t : Nat) : Att := takeL cost ex im ⟨true, 100, 0, t⟩
/-- What an edge does to routes of some tags: none, or how much dearer, how liked, which tags. -/
def edgeL (cost : Int) (ex im : List Cl) (t : Nat) : Option Shp :=
  match shapeL ex noPfx t with
  | none => none
  | some s => match shapeL im noPfx s.tags with
    | none => none
    | some u => some ⟨u.tags, s.more + max 1 (min cost 1000) + u.more, some (u.pref.getD 100)⟩
structure Edg (s : Shp) (t : Nat) : Prop where
  lo : 1 ≤ s.more
  hi : s.more ≤ 1030
  tags : t < 16 → s.tags < 16
  tags8 : t < 256 → s.tags < 256
  pref : 1 ≤ s.pref.getD 100 ∧ s.pref.getD 100 ≤ 255
  some_ : s.pref.isSome = true
theorem edgeL_ok {cost : Int} {ex im : List Cl} {t : Nat} {s : Shp} (h : edgeL cost ex im t = some s) : Edg s t := by
  unfold edgeL at h
  cases h1 : shapeL ex noPfx t with
  | none => rw [h1] at h; cases h
  | some u =>
    rw [h1] at h
    simp only at h
    cases h2 : shapeL im noPfx u.tags with
    | none => rw [h2] at h; cases h
    | some v =>
      rw [h2] at h
      simp only at h
      injection h with h
      subst h
      have o1 := shapeL_ok h1
      have o2 := shapeL_ok h2
      have := o1.lo; have := o1.hi; have := o2.lo; have := o2.hi
      refine ⟨by simp only; omega, by simp only; omega, fun h => o2.tags (o1.tags h), fun h => o2.tags8 (o1.tags8 h), ?_, rfl⟩
      simp only [Option.getD_some]
      cases hp : v.pref with
      | none => simp
      | some q => have := o2.pref q hp; simp; omega
theorem takeL_shape {cost : Int} {ex im : List Cl} {p c : Int} {t : Nat} (h0 : 0 ≤ c) (h1 : c ≤ 9000000000) : takeL cost ex im ⟨true, p, c, t⟩ = outL (edgeL cost ex im t) p c := by
  unfold takeL edgeL
  simp only
  rw [doL_shape _ _ _ _ _ (by unfold is64; omega)]
  cases e1 : shapeL ex noPfx t with
  | none => simp [outL, noAtt]
  | some u =>
    have o1 := shapeL_ok e1
    have := o1.lo; have := o1.hi
    simp only [outL, if_true]
    rw [w64_id (x := c + u.more) (by unfold is64; omega), w64_id (by unfold is64; omega), doL_shape _ _ _ _ _ (by unfold is64; omega)]
    cases e2 : shapeL im noPfx u.tags with
    | none => simp [outL]
    | some v =>
      have o2 := shapeL_ok e2
      have := o2.lo; have := o2.hi
      simp only [outL, Option.getD_some]
      rw [w64_id (by unfold is64; omega), w64_id (by unfold is64; omega)]
      congr 1
      omega
theorem takeL_ok {cost : Int} {ex im : List Cl} {a : Att} (he : ∀ c ∈ ex, c.Ok) (hi : ∀ c ∈ im, c.Ok) (ha : a.Ok) : (takeL cost ex im a).Ok := by
  unfold takeL
  simp only
  split
  · exact doL_ok _ hi ⟨⟨by simp, by simp⟩, w64_is _, (doL_ok _ he ha).tags⟩
  · exact noAtt_ok
end Mq
