import Derived.Test.YtimlfmklbfgliaaCz
set_option linter.unusedVariables false
namespace Go.Proofs.Ytimlfmklbfgliaa
open Go.RowKit Mq

set_option maxRecDepth 100000 in
theorem variable_any {w : World} {X : Nat → Prop} {a : Nat} {ns : List Nd} {most : Nat} (h : Ar w X a ns most) (v : Nat) (hv : v < 1024) :
    Calls Try.prog 16 #[.pointer (some ⟨a, 0, none⟩), .int .i64 v] w (MkPost X a most w (mk most ns ⟨v, 0, 1⟩).1 (mk most ns ⟨v, 0, 1⟩).2.1 (mk most ns ⟨v, 0, 1⟩).2.2) := by
  have hw := h.wf
  have hok : okNd ns ⟨v, 0, 1⟩ := by
    have := hw.two
    refine ⟨hv, by simp; omega, by simp; omega, ?_, ?_⟩
    · simp only [var, hw.zero, no]; exact hv
    · simp only [var, hw.one, yes]; exact hv
  have HC := Lib.hid (mk_any h ⟨v, 0, 1⟩ hok)
  clear h hw hok
  go_enter Try.func16, Try.ntmps16
  go_wp2_with fail
  refine HC.out.mono ?_
  rintro e w1 ⟨rfl, hA, hk⟩
  generalize (mk most ns ⟨v, 0, 1⟩).2.1 = k at *
  generalize (mk most ns ⟨v, 0, 1⟩).2.2 = e at *
  generalize (mk most ns ⟨v, 0, 1⟩).1 = ns' at *
  have P := Lib.hid (And.intro hA hk)
  clear hA hk
  go_wp2_with fail
  go_ret2
  exact ⟨rfl, P.out.1, P.out.2⟩

end Go.Proofs.Ytimlfmklbfgliaa
