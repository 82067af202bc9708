import Derived.Test.YtbceacihkdmgkaaDoorTTab
import Derived.Test.YtbceacihkdmgkaaDoorBuild
set_option linter.unusedVariables false
namespace Go.Proofs.YtbceacihkdmgkaaDoor
open Go.RowKit Mq

/-- The first k rows as a number. -/
def numOf (T : Nat → Bool) : Nat → Nat
  | 0 => 0
  | k + 1 => numOf T k + if T k then 2 ^ k else 0
theorem numOf_lt (T : Nat → Bool) (k : Nat) : numOf T k < 2 ^ k := by
  induction k with
  | zero => simp [numOf]
  | succ k ih => simp only [numOf, Nat.pow_succ]; split <;> omega
theorem numOf_testBit (b : Nat) (T : Nat → Bool) (k : Nat) : (∀ i, i < k → T i = b.testBit i) → numOf T k = b % 2 ^ k := by
  induction k with
  | zero => intro _; simp [numOf, Nat.mod_one]
  | succ k ih =>
    intro h
    rw [numOf, ih (fun i hi => h i (by omega)), h k (by omega), Nat.mod_pow_succ, Nat.testBit_eq_decide_div_mod_eq]
    by_cases hb : b / 2 ^ k % 2 = 1
    · simp [hb]
    · have : b / 2 ^ k % 2 = 0 := by omega
      simp [this]

theorem or_bit (n i : Nat) (hi : i < 16) (hn : n < 2 ^ i) : bits BinOp.or IntKind.u16 (n : Int) (IntKind.u16.wrap (2 ^ i)) = ((n + 2 ^ i : Nat) : Int) := by
  have hp : 2 ^ i ≤ 2 ^ 15 := Nat.pow_le_pow_right (by omega) (by omega)
  have hw : IntKind.u16.wrap (2 ^ i) = ((2 ^ i : Nat) : Int) := by
    rw [show (2 ^ i : Int) = ((2 ^ i : Nat) : Int) by simp, IntKind.wrap_u16]; omega
  rw [hw, u16_or_nat n (2 ^ i) (by omega) (by omega), Nat.or_comm]
  have := Nat.two_pow_add_eq_or_of_lt hn 1
  rw [Nat.mul_one] at this
  rw [← this, Nat.add_comm]

theorem tab_index (W : World) (T : Nat → Bool) (k : Nat) (hk : k < 16) : (Instr.index 53 (tabv T) (.int .i64 k)).run Tryd.prog W = .ok (.bool (T k)) W := by
  have h : k = 0 ∨ k = 1 ∨ k = 2 ∨ k = 3 ∨ k = 4 ∨ k = 5 ∨ k = 6 ∨ k = 7 ∨ k = 8 ∨ k = 9 ∨ k = 10 ∨ k = 11 ∨ k = 12 ∨ k = 13 ∨ k = 14 ∨ k = 15 := by omega
  rcases h with rfl | rfl | rfl | rfl | rfl | rfl | rfl | rfl | rfl | rfl | rfl | rfl | rfl | rfl | rfl | rfl
  all_goals (show _ = _; kernel_rfl)

set_option maxRecDepth 100000 in
set_option maxHeartbeats 1000000 in
theorem bits_any (w : World) (T : Nat → Bool) :
    Calls Tryd.prog 24 #[tabv T] w fun e w' => e = .returned (.int .u16 (numOf T 16 : Nat)) ∧ Below w.heap.size w w' := by
  have hidx := fun (W : World) (k : Nat) (hk : k < 16) => tab_index W T k hk
  have HI := Lib.hid hidx
  clear hidx
  unfold tabv at *
  go_enter Tryd.func24, Tryd.ntmps24
  go_wp2_with fail
  go_loopw [3, 7] (fun o k wr => ∃ i : Nat, i ≤ 16 ∧ k = .int .i64 i ∧ o = .int .u16 (numOf T i : Nat) ∧ Below w.heap.size w wr) (fun _ k _ => 16 - (intOf k).toNat)
  case atStart => exact ⟨0, by omega, rfl, rfl, below_alloc (Below.refl _ _) _⟩
  case round =>
    obtain ⟨i, hi, rfl, rfl, hb⟩ := hrel
    by_cases hlt : i < 16
    · have hix := HI.out wr i hlt
      cases hT : T i
      · rw [hT] at hix
        have hn : Hid (numOf T (i + 1) = numOf T i) := by show numOf T (i + 1) = _; simp [numOf, hT]
        clear hT
        go_wp2
        exact ⟨⟨i + 1, by omega, by go_num, by rw [hn.out], hb⟩, by simp [intOf]; omega⟩
      · rw [hT] at hix
        have hn : Hid (numOf T (i + 1) = numOf T i + 2 ^ i) := by show numOf T (i + 1) = _; simp [numOf, hT]
        clear hT
        go_wp2
        exact ⟨⟨i + 1, by omega, by go_num, by rw [hn.out, or_bit _ _ hlt (numOf_lt T i)], hb⟩, by simp [intOf]; omega⟩
    · obtain rfl : i = 16 := by omega
      go_wp2
      go_ret
      exact ⟨rfl, hb⟩
end Go.Proofs.YtbceacihkdmgkaaDoor
