set_option linter.unusedVariables false
namespace Mq

/-! ### prefixes, clauses, routes -/
structure Pfx where
  addr : Nat
  bits : Int
  deriving DecidableEq
structure Cl where
  any : Bool
  px : Pfx
  wi : Nat
  out : Nat
  drop : Bool
  set : Nat
  clr : Nat
  more : Int
  pref : Int
  deriving DecidableEq
structure Att where
  ok : Bool
  pref : Int
  cost : Int
  tags : Nat
  deriving DecidableEq
def noAtt : Att := ⟨false, 0, 0, 0⟩
def noPfx : Pfx := ⟨0, 0⟩

/-- Numbers are of their kinds. -/
def is64 (x : Int) : Prop := -9223372036854775808 ≤ x ∧ x ≤ 9223372036854775807
structure Pfx.Ok (p : Pfx) : Prop where
  addr : p.addr < 4294967296
  bits : is64 p.bits
structure Cl.Ok (c : Cl) : Prop where
  px : c.px.Ok
  wi : c.wi < 256
  out : c.out < 256
  set : c.set < 256
  clr : c.clr < 256
  more : is64 c.more
  pref : is64 c.pref
structure Att.Ok (a : Att) : Prop where
  pref : is64 a.pref
  cost : is64 a.cost
  tags : a.tags < 256
theorem noPfx_ok : noPfx.Ok := ⟨by decide, by decide, by decide⟩
theorem noAtt_ok : noAtt.Ok := ⟨⟨by decide, by decide⟩, ⟨by decide, by decide⟩, by decide⟩

def w64 (x : Int) : Int := (x + 9223372036854775808) % 18446744073709551616 - 9223372036854775808
theorem w64_id {x : Int} (h : is64 x) : w64 x = x := by unfold w64 is64 at *; omega
theorem w64_is (x : Int) : is64 (w64 x) := by unfold w64 is64; omega

def maskOf (b : Int) : Nat := if b ≤ 0 then 0 else (4294967295 * 2 ^ (32 - min b 32).toNat) % 4294967296
theorem maskOf_lt (b : Int) : maskOf b < 4294967296 := by unfold maskOf; split <;> omega
def mayB (p : Pfx) : Bool := decide (0 ≤ p.bits) && decide (p.bits ≤ 32) && decide (p.addr &&& (4294967295 - maskOf p.bits) = 0)
def coversB (p o : Pfx) : Bool := mayB p && mayB o && decide (p.bits ≤ o.bits) && decide (o.addr &&& maskOf p.bits = p.addr)
/-- Whether a clause is for a destination, and for tags. -/
def forB (c : Cl) (to : Pfx) : Bool := c.any || coversB c.px to
def tagsB (c : Cl) (t : Nat) : Bool := decide (t &&& c.wi = c.wi) && decide (t &&& c.out = 0)
def matchB (c : Cl) (to : Pfx) (t : Nat) : Bool := forB c to && tagsB c t
/-- What one clause does. -/
def actL (c : Cl) (a : Att) : Att :=
  if c.drop then noAtt else
    ⟨true, if 0 < c.pref ∧ c.pref ≤ 255 then c.pref else a.pref, w64 (a.cost + max 0 (min c.more 15)), (a.tags ||| c.set) &&& (255 - c.clr) &&& 15⟩
def goL (cs : List Cl) (to : Pfx) (a : Att) : Att :=
  match cs with
  | [] => a
  | c :: l => if matchB c to a.tags then actL c a else goL l to a
def doL (cs : List Cl) (to : Pfx) (a : Att) : Att := if a.ok then goL cs to a else noAtt
/-- The clauses for a destination. -/
def bareCl (c : Cl) : Cl := { c with any := true, px := noPfx }
def forL (cs : List Cl) (to : Pfx) : List Cl :=
  match cs with
  | [] => []
  | c :: l => if forB c to then bareCl c :: (if c.wi = 0 ∧ c.out = 0 then [] else forL l to) else forL l to

theorem and_lt {a b n : Nat} (h : a < n) : a &&& b < n := Nat.lt_of_le_of_lt Nat.and_le_left h
theorem or_lt8 {a b : Nat} (ha : a < 256) (hb : b < 256) : a ||| b < 256 := Nat.or_lt_two_pow (n := 8) ha hb
theorem actL_ok {c : Cl} {a : Att} (hc : c.Ok) (ha : a.Ok) : (actL c a).Ok := by
  unfold actL
  split
  · exact noAtt_ok
  · refine ⟨?_, w64_is _, and_lt (and_lt (or_lt8 ha.tags hc.set))⟩
    simp only
    split
    · exact hc.pref
    · exact ha.pref
theorem goL_ok {cs : List Cl} (to : Pfx) {a : Att} (hc : ∀ c ∈ cs, c.Ok) (ha : a.Ok) : (goL cs to a).Ok := by
  induction cs with
  | nil => exact ha
  | cons c l ih =>
    simp only [goL]
    split
    · exact actL_ok (hc c (by simp)) ha
    · exact ih fun d hd => hc d (by simp [hd])
theorem doL_ok {cs : List Cl} (to : Pfx) {a : Att} (hc : ∀ c ∈ cs, c.Ok) (ha : a.Ok) : (doL cs to a).Ok := by
  unfold doL; split
  · exact goL_ok to hc ha
  · exact noAtt_ok
theorem forL_ok {cs : List Cl} (to : Pfx) (hc : ∀ c ∈ cs, c.Ok) : ∀ c ∈ forL cs to, c.Ok := by
  induction cs with
  | nil => intro c h; simp [forL] at h
  | cons d l ih =>
    have i := ih fun c h => hc c (by simp [h])
    have hd := hc d (by simp)
    have hb : (bareCl d).Ok := ⟨noPfx_ok, hd.wi, hd.out, hd.set, hd.clr, hd.more, hd.pref⟩
    intro c h
    simp only [forL] at h
    split at h
    · rcases List.mem_cons.1 h with rfl | h
      · exact hb
      · split at h
        · simp at h
        · exact i c h
    · exact i c h
theorem forL_len (cs : List Cl) (to : Pfx) : (forL cs to).length ≤ cs.length := by
  induction cs with
  | nil => simp [forL]
  | cons d l ih =>
    simp only [forL]
    split
    · split <;> simp <;> omega
    · simp; omega

/-- Whoever says that something is a clause's first match, by index. -/
theorem goL_skip {cs : List Cl} {to : Pfx} {a : Att} {k : Nat} (hk : k < cs.length) (h : matchB (cs[k]) to a.tags = false) : goL (cs.drop k) to a = goL (cs.drop (k + 1)) to a := by
  rw [List.drop_eq_getElem_cons hk, goL, if_neg (by simp [h])]
theorem goL_hit {cs : List Cl} {to : Pfx} {a : Att} {k : Nat} (hk : k < cs.length) (h : matchB (cs[k]) to a.tags = true) : goL (cs.drop k) to a = actL (cs[k]) a := by
  rw [List.drop_eq_getElem_cons hk, goL, if_pos h]

/-! ### what is done hangs on the clauses for the destination alone -/
theorem matchB_bare (c : Cl) (o : Pfx) (t : Nat) : matchB (bareCl c) o t = tagsB c t := by
  show (true && tagsB (bareCl c) t) = _
  rw [Bool.true_and]; rfl
theorem actL_bare (c : Cl) (a : Att) : actL (bareCl c) a = actL c a := rfl
theorem tagsB_zero {c : Cl} (h : c.wi = 0 ∧ c.out = 0) (t : Nat) : tagsB c t = true := by simp [tagsB, h.1, h.2]
theorem goL_for (cs : List Cl) (to o : Pfx) (a : Att) : goL (forL cs to) o a = goL cs to a := by
  induction cs with
  | nil => rfl
  | cons c l ih =>
    simp only [forL]
    by_cases hf : forB c to = true
    · rw [if_pos hf]
      by_cases hz : c.wi = 0 ∧ c.out = 0
      · rw [if_pos hz]
        simp only [goL, matchB_bare, tagsB_zero hz, actL_bare, if_true]
        rw [if_pos (by rw [matchB, hf, tagsB_zero hz]; rfl)]
      · rw [if_neg hz]
        have e : matchB c to a.tags = tagsB c a.tags := by rw [matchB, hf, Bool.true_and]
        simp only [goL, matchB_bare, actL_bare, ih, e]
    · rw [if_neg hf]
      simp only [goL, matchB, ih, Bool.eq_false_iff.2 hf, Bool.false_and]
      simp
theorem doL_for (cs : List Cl) (to o : Pfx) (a : Att) : doL (forL cs to) o a = doL cs to a := by
  unfold doL; rw [goL_for]
theorem forL_for (cs : List Cl) (to o : Pfx) : forL (forL cs to) o = forL cs to := by
  induction cs with
  | nil => rfl
  | cons c l ih =>
    simp only [forL]
    by_cases hf : forB c to = true
    · rw [if_pos hf]
      have : forB (bareCl c) o = true := rfl
      simp only [forL, this, if_true]
      by_cases hz : c.wi = 0 ∧ c.out = 0
      · rw [if_pos hz]
        have hz' : (bareCl c).wi = 0 ∧ (bareCl c).out = 0 := hz
        rw [if_pos hz']; rfl
      · rw [if_neg hz]
        have hz' : ¬ ((bareCl c).wi = 0 ∧ (bareCl c).out = 0) := hz
        rw [if_neg hz', ih]; rfl
    · rw [if_neg hf]; exact ih

/-! ### bits -/
theorem with_iff {t x : Nat} (ht : t < 256) (hx : x < 256) : (255 - t) &&& x = 0 ↔ t &&& x = x := by
  have h : ∀ i, (255 - t).testBit i = (decide (i < 8) && !t.testBit i) := fun i => by
    have := Nat.testBit_two_pow_sub_succ (n := 8) (x := t) ht i
    rw [show (2 ^ 8 - (t + 1)) = 255 - t by omega] at this
    exact this
  constructor
  · intro e
    refine Nat.eq_of_testBit_eq fun i => ?_
    have ei : ((255 - t) &&& x).testBit i = (0 : Nat).testBit i := by rw [e]
    rw [Nat.testBit_and, h, Nat.zero_testBit] at ei
    rw [Nat.testBit_and]
    by_cases hi : i < 8
    · cases hti : t.testBit i <;> cases hxi : x.testBit i <;> simp_all
    · rw [Nat.testBit_lt_two_pow (Nat.lt_of_lt_of_le hx (Nat.pow_le_pow_right (n := 2) (by omega) (show 8 ≤ i by omega)))]; simp
  · intro e
    refine Nat.eq_of_testBit_eq fun i => ?_
    have ei : (t &&& x).testBit i = x.testBit i := by rw [e]
    rw [Nat.testBit_and] at ei
    rw [Nat.testBit_and, h, Nat.zero_testBit]
    by_cases hi : i < 8
    · cases hti : t.testBit i <;> cases hxi : x.testBit i <;> simp_all
    · simp [hi]
end Mq
