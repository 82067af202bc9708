set_option linter.unusedVariables false
namespace Mq
/-! ### prefixes and clauses that numbers make -/
def clrs (a b : Nat) : Nat → Nat
  | 0 => a
  | i + 1 => clrs a b i &&& (4294967295 - 2 ^ (31 - (b + i)))
def mkBits (n : Nat) : Nat := match n % 8 with | 0 => 0 | 1 => 8 | 2 => 16 | 3 => 24 | 4 => 32 | 5 => 9 | 6 => 17 | _ => 30
def mkAddr (n : Nat) : Nat := 167772160 + n / 64 * 65536 + n / 16 % 4 * 256 + n / 8 % 2
theorem mkBits_le (n : Nat) : mkBits n ≤ 32 := by unfold mkBits; split <;> omega
theorem mkAddr_lt {n : Nat} (h : n < 256) : mkAddr n < 4294967296 := by unfold mkAddr; omega
theorem clrs_lt {a b : Nat} (h : a < 4294967296) (i : Nat) : clrs a b i < 4294967296 := by
  induction i with
  | zero => exact h
  | succ i ih => exact Nat.lt_of_le_of_lt Nat.and_le_left ih
/-- A rule: six numbers below 256. -/
structure Rul where
  t : Nat
  w : Nat
  o : Nat
  d : Nat
  m : Nat
  p : Nat
structure Rul.Ok (r : Rul) : Prop where
  t : r.t < 256
  w : r.w < 256
  o : r.o < 256
  d : r.d < 256
  m : r.m < 256
  p : r.p < 256
end Mq
