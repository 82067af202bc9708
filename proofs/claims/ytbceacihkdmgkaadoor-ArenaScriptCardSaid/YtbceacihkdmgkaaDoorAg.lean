import Derived.Test.YtbceacihkdmgkaaDoorAr
import Derived.Test.YtbceacihkdmgkaaDoorGn
set_option linter.unusedVariables false
namespace Go.Proofs.YtbceacihkdmgkaaDoor
open Go.RowKit Mq

theorem calls_in2 {P : Program} {f : FuncId} {args : Array Value} {v : Value} {W : World} (h : ∀ w, Below W.heap.size W w → Calls P f args w fun e w' => e = .returned v ∧ Below w.heap.size w w') (x : InW (Below W.heap.size W)) :
    Calls P f args x.val fun e w' => e = .returned v ∧ ∃ y : InW (Below W.heap.size W), w' = y.val :=
  (h x.val x.prop).mono fun _ _ ⟨he, hb⟩ => ⟨he, in_after x hb⟩
/-- An arena over a row that grew. -/
theorem Ar.grown {w w' : World} {X : Nat → Prop} {a : Nat} {ns : List Nd} {most : Nat} {o : Option Nat} (h : Ar w X a ns most) (hg : w.grownBy w' o) (hx : ∀ k, o = some k → X k) :
    Ar w' (fun k => X k ∨ w.heap.size ≤ k ∧ k < w'.heap.size) a ns most := by
  obtain ⟨sb, g, cap, cur, h⟩ := h
  refine ⟨sb, g, cap, cur, h.moved (fun k hk hs => hg.block k hk fun e => ?_) (fun k hk => ?_) (fun k hk hs hY => ?_)⟩
  · exact h.not_x hs (hx k e.symm)
  · rcases hk with hk | hk
    · exact Nat.lt_of_lt_of_le (h.low k hk) hg.size
    · exact hk.2
  · rcases hY with hY | hY
    · exact h.not_x hs hY
    · omega
end Go.Proofs.YtbceacihkdmgkaaDoor
