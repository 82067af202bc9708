import Derived.Test.YtimlfmklbfgliaaDoorCt
set_option linter.unusedVariables false
namespace Mq
theorem mod_step (x s : Nat) : x % 2 ^ (s + 1) = x % 2 ^ s + if x.testBit s then 2 ^ s else 0 := by
  rw [Nat.mod_pow_succ, Nat.testBit_eq_decide_div_mod_eq]
  have h : x / 2 ^ s % 2 = 0 ∨ x / 2 ^ s % 2 = 1 := by omega
  rcases h with h | h <;> simp [h]
theorem mod_big {x a b : Nat} (h : x < 2 ^ a) (hb : a ≤ b) : x % 2 ^ b = x := Nat.mod_eq_of_lt (Nat.lt_of_lt_of_le h (Nat.pow_le_pow_right (by omega) hb))
/-- One bit more. -/
theorem next_bits {p c m k : Nat} (hp : p < 256) (hc : c < 2048) (hm : m < 16) (hk1 : 1 ≤ k) (b : Bool) (hb : bitN ⟨true, (p : Int), (c : Int), m⟩ k = b) :
    (k ≤ 4 → p % 2 ^ (k + 1 - 5) = p % 2 ^ (k - 5) ∧ c % 2 ^ (k + 1 - 13) = c % 2 ^ (k - 13) ∧ m % 2 ^ (k + 1 - 1) = m % 2 ^ (k - 1) + if b then 2 ^ (k - 1) else 0) ∧
    (4 < k → k ≤ 12 → p % 2 ^ (k + 1 - 5) = p % 2 ^ (k - 5) + (if b then 2 ^ (k - 5) else 0) ∧ c % 2 ^ (k + 1 - 13) = c % 2 ^ (k - 13) ∧ m % 2 ^ (k + 1 - 1) = m % 2 ^ (k - 1)) ∧
    (12 < k → p % 2 ^ (k + 1 - 5) = p % 2 ^ (k - 5) ∧ c % 2 ^ (k + 1 - 13) = c % 2 ^ (k - 13) + (if b then 2 ^ (k - 13) else 0) ∧ m % 2 ^ (k + 1 - 1) = m % 2 ^ (k - 1)) := by
  unfold bitN at hb
  rw [if_neg (by simp; omega)] at hb
  refine ⟨fun h4 => ?_, fun h4 h12 => ?_, fun h12 => ?_⟩
  · rw [if_pos h4] at hb
    refine ⟨by rw [show k + 1 - 5 = k - 5 by omega], by rw [show k + 1 - 13 = k - 13 by omega], ?_⟩
    have := mod_step m (k - 1)
    simp only at hb
    rw [hb, show k - 1 + 1 = k + 1 - 1 by omega] at this
    exact this
  · rw [if_neg (by omega), if_pos h12] at hb
    refine ⟨?_, by rw [show k + 1 - 13 = k - 13 by omega], by rw [mod_big (a := 4) hm (by omega), mod_big (a := 4) hm (by omega)]⟩
    have := mod_step p (k - 5)
    simp only [Int.toNat_natCast] at hb
    rw [hb, show k - 5 + 1 = k + 1 - 5 by omega] at this
    exact this
  · rw [if_neg (by omega), if_neg (by omega)] at hb
    refine ⟨by rw [mod_big (a := 8) hp (by omega), mod_big (a := 8) hp (by omega)], ?_, by rw [mod_big (a := 4) hm (by omega), mod_big (a := 4) hm (by omega)]⟩
    have := mod_step c (k - 13)
    simp only [Int.toNat_natCast] at hb
    rw [hb, show k - 13 + 1 = k + 1 - 13 by omega] at this
    exact this
/-- What a policy makes of a route. -/
def compTake (q r : Att) : Att := if r.ok && q.ok then ⟨true, q.pref, r.cost + q.cost, q.tags⟩ else noAtt
end Mq
namespace Go.Proofs.YtimlfmklbfgliaaDoor
open Go.RowKit Mq

theorem or_lit : ∀ s, s < 4 → ∀ m : Nat, m < 16 → bits BinOp.or .u8 ((m : Int) % 2 ^ s) (2 ^ s % 256) = ((m % 2 ^ s + 2 ^ s : Nat) : Int) := by decide +kernel
theorem add_bit (x s : Nat) (c0 z : Int) (hz : z = c0 + ((x % 2 ^ s : Nat) : Int)) (hx : x % 2 ^ s + 2 ^ s < 4096) (h0 : 0 ≤ c0) (h1 : c0 ≤ 9000000000) : wrap64 (z + wrap64 (2 ^ s)) = c0 + ((x % 2 ^ s + 2 ^ s : Nat) : Int) := by
  subst hz
  have e : (2 : Int) ^ s = ((2 ^ s : Nat) : Int) := by simp
  rw [e]
  unfold wrap64
  omega
structure CuRel (w wr : World) (a ab pb rb ob xb : Nat) (X : Nat → Prop) (L : List Nat) (r : Att) (ns : List Nd) (most : Nat) (p c m : Nat) (c0 : Int) (k : Nat) : Prop where
  ar : Ar wr X a ns most
  below : Below w.heap.size w wr
  ha : wr.heap[ab]? = some (.cells #[.pointer (some ⟨a, 0, none⟩)] 26 (0, 0))
  hp : wr.heap[pb]? = some (.cells (outC L) 29 (0, 0))
  hr : wr.heap[rb]? = some (.cells #[.bool r.ok, .int .i64 r.pref, .int .i64 r.cost, .int .u8 r.tags] 49 (0, 0))
  hx : wr.heap[xb]? = some (.cells #[.bool false, .int .i64 0, .int .i64 0, .int .u8 0] 49 (0, 0))
  ho : wr.heap[ob]? = some (.cells #[.bool true, .int .i64 (p % 2 ^ (k - 5) : Nat), .int .i64 (c0 + (c % 2 ^ (k - 13) : Nat)), .int .u8 (m % 2 ^ (k - 1) : Nat)] 49 (0, 0))

end Go.Proofs.YtimlfmklbfgliaaDoor
