import Derived.Test.YtimlfmklbfgliaaDoorCv
set_option linter.unusedVariables false
namespace Mq
open Go.Proofs.YtimlfmklbfgliaaDoor
theorem eq_of_bits {a b n : Nat} (ha : a < 2 ^ n) (hb : b < 2 ^ n) (h : ∀ j, j < n → a.testBit j = b.testBit j) : a = b := by
  refine Nat.eq_of_testBit_eq fun j => ?_
  by_cases hj : j < n
  · exact h j hj
  · have := Nat.pow_le_pow_right (show 0 < 2 by omega) (show n ≤ j by omega)
    rw [Nat.testBit_lt_two_pow (by omega), Nat.testBit_lt_two_pow (by omega)]
/-- What an edge does is told by its bits. -/
theorem row_inj {a b : Att} (ha : a.Row) (hb : b.Row) (na : a.ok = false → a = noAtt) (nb : b.ok = false → b = noAtt) (h : ∀ k, k < 24 → bitN a k = bitN b k) : a = b := by
  have h0 := h 0 (by omega)
  have e0 : ∀ x : Att, bitN x 0 = x.ok := fun x => by simp [bitN]
  rw [e0, e0] at h0
  cases hok : a.ok with
  | false => rw [na hok, nb (by rw [← h0]; exact hok)]
  | true =>
    have hok' : b.ok = true := by rw [← h0]; exact hok
    have e1 : ∀ (x : Att) k, x.ok = true → 1 ≤ k → k ≤ 4 → bitN x k = x.tags.testBit (k - 1) := fun x k hx h1 h2 => by unfold bitN; rw [if_neg (by simp [hx]; omega), if_pos h2]
    have e2 : ∀ (x : Att) k, x.ok = true → 4 < k → k ≤ 12 → bitN x k = x.pref.toNat.testBit (k - 5) := fun x k hx h1 h2 => by unfold bitN; rw [if_neg (by simp [hx]; omega), if_neg (by omega), if_pos h2]
    have e3 : ∀ (x : Att) k, x.ok = true → 12 < k → bitN x k = x.cost.toNat.testBit (k - 13) := fun x k hx h1 => by unfold bitN; rw [if_neg (by simp [hx]; omega), if_neg (by omega), if_neg (by omega)]
    have t1 : a.tags = b.tags := eq_of_bits (n := 4) ha.tags hb.tags fun j hj => by have := h (j + 1) (by omega); rw [e1 a _ hok (by omega) (by omega), e1 b _ hok' (by omega) (by omega)] at this; simpa using this
    have t2 : a.pref.toNat = b.pref.toNat := eq_of_bits (n := 8) (by have := ha.pref; omega) (by have := hb.pref; omega) fun j hj => by have := h (j + 5) (by omega); rw [e2 a _ hok (by omega) (by omega), e2 b _ hok' (by omega) (by omega)] at this; simpa using this
    have t3 : a.cost.toNat = b.cost.toNat := eq_of_bits (n := 11) (by have := ha.cost; omega) (by have := hb.cost; omega) fun j hj => by have := h (j + 13) (by omega); rw [e3 a _ hok (by omega), e3 b _ hok' (by omega)] at this; simpa using this
    have := ha.pref; have := hb.pref; have := ha.cost; have := hb.cost
    obtain ⟨a1, a2, a3, a4⟩ := a
    obtain ⟨b1, b2, b3, b4⟩ := b
    simp only at *
    subst t1
    rw [hok, hok', show a2 = b2 by omega, show a3 = b3 by omega]
/-! ### an edge without maps -/
def bareT (k t : Nat) : Bool := if k = 0 then true else t.testBit (k - 1)
def ns6 : List Nd := [no, yes, ⟨3, 0, 1⟩, ⟨2, 0, 1⟩, ⟨1, 0, 1⟩, ⟨0, 0, 1⟩]
theorem bare99 : polP 99 bareT 5 [no, yes] = (ns6, [1, 2, 3, 4, 5], 0) := by decide +kernel
theorem bare4096 : polP 4096 bareT 5 [no, yes] = (ns6, [1, 2, 3, 4, 5], 0) := by decide +kernel
def bareL (c : Nat) (n : Nat) : List Nat := [1, 2, 3, 4, 5] ++ (List.range n).map fun j => if bitN ⟨true, 100, (c : Int), 0⟩ (5 + j) then 1 else 0
theorem bare_pol {most : Nat} {T : Nat → Nat → Bool} {c : Nat} (hT : ∀ k, k < 24 → ∀ t, t < 16 → T k t = bitN ⟨true, 100, (c : Int), t⟩ k) (h5 : polP most bareT 5 [no, yes] = (ns6, [1, 2, 3, 4, 5], 0)) :
    ∀ n, n ≤ 19 → polP most T (5 + n) [no, yes] = (ns6, bareL c n, 0) := by
  intro n
  induction n with
  | zero =>
    intro _
    rw [Nat.add_zero, polP_congr (T' := bareT) 5 fun j hj t ht => ?_, h5]
    · simp [bareL]
    · rw [hT j (by omega) t ht]
      unfold bareT bitN
      by_cases h0 : j = 0
      · subst h0; simp
      · rw [if_neg (by simp; omega), if_pos (by omega), if_neg h0]
  | succ n ih =>
    intro hn
    have e := ih (by omega)
    have hc : tbP most (T (5 + n)) 4 0 0 ns6 = (ns6, if bitN ⟨true, 100, (c : Int), 0⟩ (5 + n) then 1 else 0, 0) := by
      refine tbP_const most (T (5 + n)) _ 4 0 0 ns6 fun i hi => ?_
      rw [hT (5 + n) (by omega) (0 + i) (by simpa using hi)]
      have h4 : ¬ 5 + n ≤ 4 := by omega
      have h0 : ¬ 5 + n = 0 := by omega
      simp [bitN, h4, h0]
    rw [← Nat.add_assoc, polP, e]
    simp only [if_true, hc]
    simp [bareL, List.range_succ]
end Mq
namespace Go.Proofs.YtimlfmklbfgliaaDoor
open Go.RowKit Mq

theorem edRow_no (e : EdV) (t : Nat) (h : (edRow e t).ok = false) : edRow e t = noAtt := by
  unfold edRow edTake at *
  rw [takeL_shape (by omega) (by omega)] at *
  cases hs : edgeL e.cost e.ex.l e.im.l (t &&& 15) with
  | none => rfl
  | some s => rw [hs] at h; simp [outL] at h
theorem edRow_and (e : EdV) (t : Nat) (ht : t < 16) : t &&& 15 = t := by
  have : t &&& (2 ^ 4 - 1) = t % 2 ^ 4 := Nat.and_two_pow_sub_one_eq_mod t 4
  rw [show (15 : Nat) = 2 ^ 4 - 1 from rfl, this]; omega
theorem edT_bare {e : EdV} (h1 : e.ex.l = []) (h2 : e.im.l = []) {c : Nat} (hc : (c : Int) = max 1 (min e.cost 1000)) : ∀ k, k < 24 → ∀ t, t < 16 → edT e k t = bitN ⟨true, 100, (c : Int), t⟩ k := by
  intro k hk t ht
  unfold edT edRow edTake
  rw [edRow_and e t ht, takeL_shape (by omega) (by omega), h1, h2]
  simp only [edgeL, shapeL, outL]
  congr 2
  · simp
    rw [w64_id (by unfold is64; omega), hc]
/-- Two edges have the same tables just if they do the same to all tags. -/
theorem edT_same {e f : EdV} : (∀ k, k < 24 → ∀ t, t < 16 → edT e k t = edT f k t) ↔ ∀ t, t < 16 → edRow e t = edRow f t :=
  ⟨fun h t ht => row_inj (edRow_row e t) (edRow_row f t) (edRow_no e t) (edRow_no f t) fun k hk => h k hk t ht, fun h k _ t ht => by unfold edT; rw [h t ht]⟩
end Go.Proofs.YtimlfmklbfgliaaDoor
