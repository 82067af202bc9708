import Derived.Test.YtimlfmklbfgliaaDoorCo
import Derived.Test.YtimlfmklbfgliaaDoorEq
set_option linter.unusedVariables false
namespace Mq
/-- The values of four variables of a route's tags. -/
def rowT (m v : Nat) : Bool := decide (v < 4) && m.testBit (3 - v)
theorem idx_rowT : ∀ m, m < 256 → idx 4 0 (rowT m) = m % 16 := by decide +kernel
/-- Two lists of diagrams say what tables say. -/
structure PolOk (ns : List Nd) (T : Nat → Nat → Bool) (L : List Nat) : Prop where
  len : L.length = 24
  lt : ∀ (k u : Nat), L[k]? = some u → u < ns.length
  ev : ∀ (k u : Nat), L[k]? = some u → ∀ r, ev ns r u = T k (idx 4 0 r)
end Mq
namespace Go.Proofs.YtimlfmklbfgliaaDoor
open Go.RowKit Mq

theorem outC_get (L : List Nat) {k u : Nat} (h : L[k]? = some u) (hk : k < 24) : (outC L)[k]? = some (.int .i64 u) := by
  simp [outC, hk, List.getD_eq_getElem?_getD, h]
end Go.Proofs.YtimlfmklbfgliaaDoor
