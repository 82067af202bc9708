import Derived.Test.YtimlfmklbfgliaaDoorEr
set_option linter.unusedVariables false
namespace Go.Proofs.YtimlfmklbfgliaaDoor
open Go.RowKit Mq

def sameAt (e f : EdV) (k : Nat) : Bool := decide (edRow e k = edRow f k)
def sameB (e f : EdV) : Bool := !(anyB (fun k => !sameAt e f k) 16)
theorem att_beq (a b : Att) : (a.ok == b.ok && (a.pref == b.pref && (a.cost == b.cost && ((a.tags : Int) == (b.tags : Int))))) = decide (a = b) := by
  obtain ⟨a1, a2, a3, a4⟩ := a
  obtain ⟨b1, b2, b3, b4⟩ := b
  rw [Bool.eq_iff_iff]
  simp
  omega
theorem eq_attD (w : World) (d : Nat) (a b : Att) : (Op.equalIn (d + 2) 49 (.agg #[.bool a.ok, .int .i64 a.pref, .int .i64 a.cost, .int .u8 a.tags]) (.agg #[.bool b.ok, .int .i64 b.pref, .int .i64 b.cost, .int .u8 b.tags])).run Tryd.prog w = .ok (decide (a = b)) w := by
  rw [eq_att, att_beq]
end Go.Proofs.YtimlfmklbfgliaaDoor
