import Derived.Test.YtbceacihkdmgkaaAwk4
import Derived.Test.YtbceacihkdmgkaaCol
set_option linter.unusedVariables false
namespace Go.Proofs.Ytbceacihkdmgkaa
open Go.RowKit Mq

theorem clamp_small : ∀ n, n < 5 → ∀ k, k < 2 ^ n → idx 4 0 (rowN n k) = k * 16 / 2 ^ n := by decide +kernel
theorem clamp_big : ∀ n, n < 11 → 4 < n → ∀ k, k < 2 ^ n → idx 4 0 (rowN n k) = k / 2 ^ (n - 4) := by decide +kernel
attribute [local go_sem high] max2_i min2_i
set_option maxRecDepth 100000 in
set_option maxHeartbeats 1000000 in
theorem walk_TruthClamps (vars : Int) (x : Nat) (hv1 : -9223372036854775808 ≤ vars) (hv2 : vars ≤ 9223372036854775807) (hx : x < 65536) (w : World) : Calls Try.prog 12 #[.int .i64 vars, .int .u16 x] w fun e w' => e = .returned (.bool true) ∧ Below w.heap.size w w' := by
  obtain ⟨n, hn0⟩ := Int.eq_ofNat_of_zero_le (show (0 : Int) ≤ max 0 (min vars 10) by omega)
  have hn : max 0 (min vars 10) = (n : Int) := hn0
  clear hn0
  have hn10 : n ≤ 10 := by omega
  obtain ⟨m, hm⟩ : ∃ m, m = 2 ^ n := ⟨_, rfl⟩
  have hm2 : m ≤ 1024 := by
    have : 2 ^ n ≤ 2 ^ 10 := Nat.pow_le_pow_right (by omega) hn10
    omega
  have hsh : ((2 : Int) ^ n) = (m : Int) := by rw [hm]; simp
  go_enter Try.func12, Try.ntmps12
  go_wp2_with fail
  refine (awake4 w).mono ?_
  rintro e w1 ⟨rfl, hb⟩
  have B1 := Lib.hid hb; clear hb
  go_wp2_with fail
  refine (of_any w1 100 100 (by decide)).mono ?_
  rintro e w2 ⟨a, rfl, hA, hk, hle⟩
  have A2 := Lib.hid hA; have K2 := Lib.hid hk; clear hA hk hle
  go_wp2_with fail
  refine (build_any A2.out x hx (by simp)).mono ?_
  rintro e w3 ⟨ns, f, rfl, hd, hA, hk⟩
  have A3 := Lib.hid hA; have K3 := Lib.hid (K2.out.trans hk); have T1 := Lib.hid (Tab.of_built hx hd); clear hA hk hd
  go_wp2_with fail
  refine (ttable_any A3.out f T1.out.lt vars n m hn hm).mono ?_
  rintro e w4 ⟨b, rfl, hb, hB, hR⟩
  have R : Hid (w4.rowIs b 4 m (fun k => .bool (x.testBit (idx 4 0 (rowN n k))))) := Lib.hid (hR.congr fun j hj => by show Value.bool (ev ns _ f) = _; rw [T1.out.ev])
  have K4 := Lib.hid (K3.out.trans (Keep.below hB))
  clear hR hB hb
  have HM := Lib.hid hm
  clear hm
  go_wp2_with fail
  go_loopw [31] (fun k wr => ∃ i : Nat, k = .int .i64 i ∧ i ≤ m ∧ Below w4.heap.size w4 wr) (fun k _ => m - (intOf k).toNat)
  case atStart => exact ⟨0, rfl, by omega, Below.refl _ _⟩
  case round =>
    obtain ⟨i, rfl, hi, hbw⟩ := hrel
    have BW := Lib.hid hbw; clear hbw
    by_cases hlt : i < m
    · have k0 := (BW.out.cell (p := ⟨b, i, none⟩) R.out.lt).trans (R.out.cell hlt)
      have hi2 : i < 2 ^ n := by rw [← HM.out]; exact hlt
      by_cases h4 : n ≤ 4
      · rw [clamp_small n (by omega) i hi2, ← HM.out] at k0
        have hr5 : i * 16 / m < 16 := by have := idx_lt16 (rowN n i); rw [clamp_small n (by omega) i hi2, ← HM.out] at this; exact this
        have hr1 : (i : Int) * 16 / (m : Int) = ((i * 16 / m : Nat) : Int) := by simp
        have hr2 : i * 16 / m < 16384 := Nat.lt_of_le_of_lt (Nat.div_le_self _ _) (by omega)
        have hb := and_bit1 x (i * 16 / m) hx
        generalize i * 16 / m = row at *
        clear hi2
        have hn4 : ¬ (4 : Int) < (n : Int) := by omega
        have hmin : min row 16 = row := by omega
        cases hT : x.testBit row
        · rw [hT] at k0 hb
          simp only [Bool.false_eq_true, if_false, Int.cast_ofNat_Int] at hb
          clear hT
          go_wp2_with fail
          go_quiet (fail)
          go_wp2_with fail
          go_roundw
          case rel => exact ⟨i + 1, by go_num, by omega, pw_below_drewN BW.out _⟩
          case measure => simp [intOf] <;> omega
        · rw [hT] at k0 hb
          simp only [if_true, Int.cast_ofNat_Int] at hb
          clear hT
          go_wp2_with fail
          go_quiet (fail)
          go_wp2_with fail
          go_roundw
          case rel => exact ⟨i + 1, by go_num, by omega, pw_below_drewN BW.out _⟩
          case measure => simp [intOf] <;> omega
      · rw [clamp_big n (by omega) (by omega) i hi2] at k0
        have hr5 : i / 2 ^ (n - 4) < 16 := by have := idx_lt16 (rowN n i); rw [clamp_big n (by omega) (by omega) i hi2] at this; exact this
        have hr1 : (i : Int) / 2 ^ (n - 4) = ((i / 2 ^ (n - 4) : Nat) : Int) := by simp
        have hr2 : i / 2 ^ (n - 4) < 16384 := Nat.lt_of_le_of_lt (Nat.div_le_self _ _) (by omega)
        have hr3 : (0 : Int) ≤ (i : Int) * 16 / (m : Int) := Int.ediv_nonneg (by omega) (by omega)
        have hb := and_bit1 x (i / 2 ^ (n - 4)) hx
        have hr4 : (n : Int) - 4 = ((n - 4 : Nat) : Int) := by omega
        have hn7 : n - 4 ≤ 6 := by omega
        generalize i / 2 ^ (n - 4) = row at *
        clear hi2
        have hn4 : (4 : Int) < (n : Int) := by omega
        have hmin : min row 16 = row := by omega
        cases hT : x.testBit row
        · rw [hT] at k0 hb
          simp only [Bool.false_eq_true, if_false, Int.cast_ofNat_Int] at hb
          clear hT
          go_wp2_with fail
          go_quiet (fail)
          go_wp2_with fail
          go_roundw
          case rel => exact ⟨i + 1, by go_num, by omega, pw_below_drewN BW.out _⟩
          case measure => simp [intOf] <;> omega
        · rw [hT] at k0 hb
          simp only [if_true, Int.cast_ofNat_Int] at hb
          clear hT
          go_wp2_with fail
          go_quiet (fail)
          go_wp2_with fail
          go_roundw
          case rel => exact ⟨i + 1, by go_num, by omega, pw_below_drewN BW.out _⟩
          case measure => simp [intOf] <;> omega
    · obtain rfl : i = m := by omega
      go_wp2_with fail
      go_ret
      exact ⟨rfl, below_trans B1.out (below_of_keep (K4.out.trans (Keep.below BW.out)))⟩
end Go.Proofs.Ytbceacihkdmgkaa
