import Derived.Test.YteciceelinbfoaaDoorProg
import Derived.Test.YteciceelinbfoaaDoorGn
set_option linter.unusedVariables false
namespace Go.Proofs.YteciceelinbfoaaDoor
open Go.RowKit Mq
attribute [local go_sem high] max2_ii min2_ii
attribute [local go_sem ↓] Go.wp_at_zero Go.wp_at_succ

theorem eqn_dec (n m : Nat) : (((n : Nat) : Int) == ((m : Nat) : Int)) = decide (n = m) := by rw [Bool.eq_iff_iff]; simp; omega
theorem eq0_dec (n : Nat) : (((n : Nat) : Int) == 0) = decide (n = 0) := by rw [Bool.eq_iff_iff]; simp
end Go.Proofs.YteciceelinbfoaaDoor
