import Derived.Test.YtimlfmklbfgliaaDoorMkA
import Derived.Test.YtimlfmklbfgliaaDoorMkB
set_option linter.unusedVariables false
namespace Go.Proofs.YtimlfmklbfgliaaDoor
open Go.RowKit Mq

/-- Mk, of a node that may be asked for. -/
theorem mk_any {w : World} {X : Nat → Prop} {a : Nat} {ns : List Nd} {most : Nat} (h : Ar w X a ns most) (n : Nd) (ok : okNd ns n) :
    Calls Tryd.prog 24 #[.pointer (some ⟨a, 0, none⟩), .int .i64 n.v, .int .i64 n.lo, .int .i64 n.hi] w (MkPost X a most w (mk most ns n).1 (mk most ns n).2.1 (mk most ns n).2.2) := by
  unfold mk
  by_cases e : n.lo = n.hi
  · rw [if_pos e]
    have := mk_same h n.v n.lo (by obtain ⟨v, l, i⟩ := n; simp only at e; subst e; exact ok)
    rw [← e]; exact this
  · rw [if_neg e]
    cases hp : place ns n with
    | some k => exact mk_found h n ok e k hp
    | none =>
      by_cases hm : ns.length = most
      · simp only [hm, if_true]
        exact mk_full h n ok e hp hm
      · simp only [if_neg hm]
        exact mk_push h n ok e hp (by have := h.room; omega)
end Go.Proofs.YtimlfmklbfgliaaDoor
