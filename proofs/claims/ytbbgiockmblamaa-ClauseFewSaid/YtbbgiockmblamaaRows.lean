/-
  No cell of these rows narrows 'for every input' (looked for: loops, veiled, ifaces, maps, wideKeys, modest, calm, conditions, laid).
  DERIVED. THE GIVEN ROWS OF THIS SEAT. 12 by the template 'for every input the law returns true; each argument reads behind the call as it read before'; 0 by the template 'total and deterministic' (their statements: YtbbgiockmblamaaTotals.lean).
  GIVEN WITH THE SEED: the statements are not yours to turn. If you find one false, say at which input.
  Laid BY PROGRAM, IN A SANDBOX (cutbox-rows.mjs): the forced cells as the released guide's own fill.sh prints them over the translation 8566325b7b540692… (all of the seat's roots in one cut). By AI agents, Wed Nov 11 2026. No macro, syntax, notation, axiom, sorry.
-/
import Derived.Test.YtbbgiockmblamaaChecked
import GoSem.Claim
import GoSem.ClaimJoined
import GoSem.ClaimMapViews
import Derived.JoinedTies
import Derived.KernelRfl
namespace Go.Proofs.Ytbbgiockmblamaa
/- THE CELL 'sum', in the pinned program and in every row, IS THE sha256 OF THE DUMP (.gsa) THAT YtbbgiockmblamaaProg.lean LOADS. Nothing in Lean hashes anything: it is a label: what it is worth is what the hold of that sum in a sandbox is worth. -/
noncomputable def Try.pinned : Pinned := { name := "ytbbgiockmblamaa", sum := "8566325b7b540692e6eb36720e260e5e7a96187308ed0d1eb393ff384107d4c0", checked := Try.checked }
namespace Rows
def none {H : Type} : Left H := { results := [], args := [] }

/-- 'maquettelaw11.ClauseDo': WHATEVER THE INPUT: true; the input reads as it did. -/
def clauseDoSpec : ChangeSpec := { name := "clauseDo", fn := fun _ => fun
  | [d1, d2, d3, d4, d5] => { results := [.lit (.bool true)], args := [d1, d2, d3, d4, d5] }
  | _ => none }
def clauseDoRow : OpenClaim := { program := "ytbbgiockmblamaa", sum := "8566325b7b540692e6eb36720e260e5e7a96187308ed0d1eb393ff384107d4c0", func := "maquette/maquettelaw11.ClauseDo", spec := "clauseDo", apart := false }
def ClauseDoSaid : Prop := clauseDoRow.holds Try.pinned (OpenSpec.ofChange clauseDoSpec)

/-- ITS FALSE NEIGHBOUR: 'it returns false'. Refute it at one input. -/
def clauseDoWrong : ChangeSpec := { name := "clauseDo", fn := fun _ => fun
  | [d1, d2, d3, d4, d5] => { results := [.lit (.bool false)], args := [d1, d2, d3, d4, d5] }
  | _ => none }
def ClauseDoWrongFalsely : Prop := clauseDoRow.holds Try.pinned (OpenSpec.ofChange clauseDoWrong)

/-- 'maquettelaw11.ClauseMatches': WHATEVER THE INPUT: true; the input reads as it did. -/
def clauseMatchesSpec : ChangeSpec := { name := "clauseMatches", fn := fun _ => fun
  | [d1, d2, d3, d4] => { results := [.lit (.bool true)], args := [d1, d2, d3, d4] }
  | _ => none }
def clauseMatchesRow : OpenClaim := { program := "ytbbgiockmblamaa", sum := "8566325b7b540692e6eb36720e260e5e7a96187308ed0d1eb393ff384107d4c0", func := "maquette/maquettelaw11.ClauseMatches", spec := "clauseMatches", apart := false }
def ClauseMatchesSaid : Prop := clauseMatchesRow.holds Try.pinned (OpenSpec.ofChange clauseMatchesSpec)

/-- ITS FALSE NEIGHBOUR: 'it returns false'. Refute it at one input. -/
def clauseMatchesWrong : ChangeSpec := { name := "clauseMatches", fn := fun _ => fun
  | [d1, d2, d3, d4] => { results := [.lit (.bool false)], args := [d1, d2, d3, d4] }
  | _ => none }
def ClauseMatchesWrongFalsely : Prop := clauseMatchesRow.holds Try.pinned (OpenSpec.ofChange clauseMatchesWrong)

/-- 'maquettelaw11.ClauseDearer': WHATEVER THE INPUT: true; the input reads as it did. -/
def clauseDearerSpec : ChangeSpec := { name := "clauseDearer", fn := fun _ => fun
  | [d1, d2, d3, d4] => { results := [.lit (.bool true)], args := [d1, d2, d3, d4] }
  | _ => none }
def clauseDearerRow : OpenClaim := { program := "ytbbgiockmblamaa", sum := "8566325b7b540692e6eb36720e260e5e7a96187308ed0d1eb393ff384107d4c0", func := "maquette/maquettelaw11.ClauseDearer", spec := "clauseDearer", apart := false }
def ClauseDearerSaid : Prop := clauseDearerRow.holds Try.pinned (OpenSpec.ofChange clauseDearerSpec)

/-- ITS FALSE NEIGHBOUR: 'it returns false'. Refute it at one input. -/
def clauseDearerWrong : ChangeSpec := { name := "clauseDearer", fn := fun _ => fun
  | [d1, d2, d3, d4] => { results := [.lit (.bool false)], args := [d1, d2, d3, d4] }
  | _ => none }
def ClauseDearerWrongFalsely : Prop := clauseDearerRow.holds Try.pinned (OpenSpec.ofChange clauseDearerWrong)

/-- 'maquettelaw11.ClauseNone': WHATEVER THE INPUT: true; the input reads as it did. -/
def clauseNoneSpec : ChangeSpec := { name := "clauseNone", fn := fun _ => fun
  | [d1, d2, d3] => { results := [.lit (.bool true)], args := [d1, d2, d3] }
  | _ => none }
def clauseNoneRow : OpenClaim := { program := "ytbbgiockmblamaa", sum := "8566325b7b540692e6eb36720e260e5e7a96187308ed0d1eb393ff384107d4c0", func := "maquette/maquettelaw11.ClauseNone", spec := "clauseNone", apart := false }
def ClauseNoneSaid : Prop := clauseNoneRow.holds Try.pinned (OpenSpec.ofChange clauseNoneSpec)

/-- ITS FALSE NEIGHBOUR: 'it returns false'. Refute it at one input. -/
def clauseNoneWrong : ChangeSpec := { name := "clauseNone", fn := fun _ => fun
  | [d1, d2, d3] => { results := [.lit (.bool false)], args := [d1, d2, d3] }
  | _ => none }
def ClauseNoneWrongFalsely : Prop := clauseNoneRow.holds Try.pinned (OpenSpec.ofChange clauseNoneWrong)

/-- 'maquettelaw12.EdgeShift': WHATEVER THE INPUT: true; the input reads as it did. -/
def edgeShiftSpec : ChangeSpec := { name := "edgeShift", fn := fun _ => fun
  | [d1, d2, d3, d4] => { results := [.lit (.bool true)], args := [d1, d2, d3, d4] }
  | _ => none }
def edgeShiftRow : OpenClaim := { program := "ytbbgiockmblamaa", sum := "8566325b7b540692e6eb36720e260e5e7a96187308ed0d1eb393ff384107d4c0", func := "maquette/maquettelaw12.EdgeShift", spec := "edgeShift", apart := false }
def EdgeShiftSaid : Prop := edgeShiftRow.holds Try.pinned (OpenSpec.ofChange edgeShiftSpec)

/-- ITS FALSE NEIGHBOUR: 'it returns false'. Refute it at one input. -/
def edgeShiftWrong : ChangeSpec := { name := "edgeShift", fn := fun _ => fun
  | [d1, d2, d3, d4] => { results := [.lit (.bool false)], args := [d1, d2, d3, d4] }
  | _ => none }
def EdgeShiftWrongFalsely : Prop := edgeShiftRow.holds Try.pinned (OpenSpec.ofChange edgeShiftWrong)

/-- 'maquettelaw11.ClauseFor': WHATEVER THE INPUT: true; the input reads as it did. -/
def clauseForSpec : ChangeSpec := { name := "clauseFor", fn := fun _ => fun
  | [d1, d2, d3, d4] => { results := [.lit (.bool true)], args := [d1, d2, d3, d4] }
  | _ => none }
def clauseForRow : OpenClaim := { program := "ytbbgiockmblamaa", sum := "8566325b7b540692e6eb36720e260e5e7a96187308ed0d1eb393ff384107d4c0", func := "maquette/maquettelaw11.ClauseFor", spec := "clauseFor", apart := false }
def ClauseForSaid : Prop := clauseForRow.holds Try.pinned (OpenSpec.ofChange clauseForSpec)

/-- ITS FALSE NEIGHBOUR: 'it returns false'. Refute it at one input. -/
def clauseForWrong : ChangeSpec := { name := "clauseFor", fn := fun _ => fun
  | [d1, d2, d3, d4] => { results := [.lit (.bool false)], args := [d1, d2, d3, d4] }
  | _ => none }
def ClauseForWrongFalsely : Prop := clauseForRow.holds Try.pinned (OpenSpec.ofChange clauseForWrong)

/-- 'maquettelaw11.ClauseFew': WHATEVER THE INPUT: true; the input reads as it did. -/
def clauseFewSpec : ChangeSpec := { name := "clauseFew", fn := fun _ => fun
  | [d1, d2, d3, d4] => { results := [.lit (.bool true)], args := [d1, d2, d3, d4] }
  | _ => none }
def clauseFewRow : OpenClaim := { program := "ytbbgiockmblamaa", sum := "8566325b7b540692e6eb36720e260e5e7a96187308ed0d1eb393ff384107d4c0", func := "maquette/maquettelaw11.ClauseFew", spec := "clauseFew", apart := false }
def ClauseFewSaid : Prop := clauseFewRow.holds Try.pinned (OpenSpec.ofChange clauseFewSpec)

/-- ITS FALSE NEIGHBOUR: 'it returns false'. Refute it at one input. -/
def clauseFewWrong : ChangeSpec := { name := "clauseFew", fn := fun _ => fun
  | [d1, d2, d3, d4] => { results := [.lit (.bool false)], args := [d1, d2, d3, d4] }
  | _ => none }
def ClauseFewWrongFalsely : Prop := clauseFewRow.holds Try.pinned (OpenSpec.ofChange clauseFewWrong)

/-- 'maquettelaw12.EdgeBare': WHATEVER THE INPUT: true; the input reads as it did. -/
def edgeBareSpec : ChangeSpec := { name := "edgeBare", fn := fun _ => fun
  | [d1, d2] => { results := [.lit (.bool true)], args := [d1, d2] }
  | _ => none }
def edgeBareRow : OpenClaim := { program := "ytbbgiockmblamaa", sum := "8566325b7b540692e6eb36720e260e5e7a96187308ed0d1eb393ff384107d4c0", func := "maquette/maquettelaw12.EdgeBare", spec := "edgeBare", apart := false }
def EdgeBareSaid : Prop := edgeBareRow.holds Try.pinned (OpenSpec.ofChange edgeBareSpec)

/-- ITS FALSE NEIGHBOUR: 'it returns false'. Refute it at one input. -/
def edgeBareWrong : ChangeSpec := { name := "edgeBare", fn := fun _ => fun
  | [d1, d2] => { results := [.lit (.bool false)], args := [d1, d2] }
  | _ => none }
def EdgeBareWrongFalsely : Prop := edgeBareRow.holds Try.pinned (OpenSpec.ofChange edgeBareWrong)

/-- 'maquettelaw12.EdgeTake': WHATEVER THE INPUT: true; the input reads as it did. -/
def edgeTakeSpec : ChangeSpec := { name := "edgeTake", fn := fun _ => fun
  | [d1, d2, d3, d4] => { results := [.lit (.bool true)], args := [d1, d2, d3, d4] }
  | _ => none }
def edgeTakeRow : OpenClaim := { program := "ytbbgiockmblamaa", sum := "8566325b7b540692e6eb36720e260e5e7a96187308ed0d1eb393ff384107d4c0", func := "maquette/maquettelaw12.EdgeTake", spec := "edgeTake", apart := false }
def EdgeTakeSaid : Prop := edgeTakeRow.holds Try.pinned (OpenSpec.ofChange edgeTakeSpec)

/-- ITS FALSE NEIGHBOUR: 'it returns false'. Refute it at one input. -/
def edgeTakeWrong : ChangeSpec := { name := "edgeTake", fn := fun _ => fun
  | [d1, d2, d3, d4] => { results := [.lit (.bool false)], args := [d1, d2, d3, d4] }
  | _ => none }
def EdgeTakeWrongFalsely : Prop := edgeTakeRow.holds Try.pinned (OpenSpec.ofChange edgeTakeWrong)

/-- 'maquettelaw12.EdgeRow': WHATEVER THE INPUT: true; the input reads as it did. -/
def edgeRowSpec : ChangeSpec := { name := "edgeRow", fn := fun _ => fun
  | [d1, d2, d3] => { results := [.lit (.bool true)], args := [d1, d2, d3] }
  | _ => none }
def edgeRowRow : OpenClaim := { program := "ytbbgiockmblamaa", sum := "8566325b7b540692e6eb36720e260e5e7a96187308ed0d1eb393ff384107d4c0", func := "maquette/maquettelaw12.EdgeRow", spec := "edgeRow", apart := false }
def EdgeRowSaid : Prop := edgeRowRow.holds Try.pinned (OpenSpec.ofChange edgeRowSpec)

/-- ITS FALSE NEIGHBOUR: 'it returns false'. Refute it at one input. -/
def edgeRowWrong : ChangeSpec := { name := "edgeRow", fn := fun _ => fun
  | [d1, d2, d3] => { results := [.lit (.bool false)], args := [d1, d2, d3] }
  | _ => none }
def EdgeRowWrongFalsely : Prop := edgeRowRow.holds Try.pinned (OpenSpec.ofChange edgeRowWrong)

/-- 'maquettelaw12.EdgeLikes': WHATEVER THE INPUT: true; the input reads as it did. -/
def edgeLikesSpec : ChangeSpec := { name := "edgeLikes", fn := fun _ => fun
  | [d1, d2] => { results := [.lit (.bool true)], args := [d1, d2] }
  | _ => none }
def edgeLikesRow : OpenClaim := { program := "ytbbgiockmblamaa", sum := "8566325b7b540692e6eb36720e260e5e7a96187308ed0d1eb393ff384107d4c0", func := "maquette/maquettelaw12.EdgeLikes", spec := "edgeLikes", apart := false }
def EdgeLikesSaid : Prop := edgeLikesRow.holds Try.pinned (OpenSpec.ofChange edgeLikesSpec)

/-- ITS FALSE NEIGHBOUR: 'it returns false'. Refute it at one input. -/
def edgeLikesWrong : ChangeSpec := { name := "edgeLikes", fn := fun _ => fun
  | [d1, d2] => { results := [.lit (.bool false)], args := [d1, d2] }
  | _ => none }
def EdgeLikesWrongFalsely : Prop := edgeLikesRow.holds Try.pinned (OpenSpec.ofChange edgeLikesWrong)

/-- 'maquettelaw12.EdgeSame': WHATEVER THE INPUT: true; the input reads as it did. -/
def edgeSameSpec : ChangeSpec := { name := "edgeSame", fn := fun _ => fun
  | [d1, d2] => { results := [.lit (.bool true)], args := [d1, d2] }
  | _ => none }
def edgeSameRow : OpenClaim := { program := "ytbbgiockmblamaa", sum := "8566325b7b540692e6eb36720e260e5e7a96187308ed0d1eb393ff384107d4c0", func := "maquette/maquettelaw12.EdgeSame", spec := "edgeSame", apart := false }
def EdgeSameSaid : Prop := edgeSameRow.holds Try.pinned (OpenSpec.ofChange edgeSameSpec)

/-- ITS FALSE NEIGHBOUR: 'it returns false'. Refute it at one input. -/
def edgeSameWrong : ChangeSpec := { name := "edgeSame", fn := fun _ => fun
  | [d1, d2] => { results := [.lit (.bool false)], args := [d1, d2] }
  | _ => none }
def EdgeSameWrongFalsely : Prop := edgeSameRow.holds Try.pinned (OpenSpec.ofChange edgeSameWrong)

/- THE SECOND FORM. 'bulk': how many values and letters a reading holds, each counted each time it is reached (what is shared counts as often as it is met; a slice's spare places count too). A statement '..UptoSaid' is the law's where the arguments, and the package variables that the reading takes, are together of bulk at most 1048576: NARROWER than '..Said'. Prove '..Said' where nothing that the law and all that it calls make is longer than what came in: it says more and counts as full. Else prove '..UptoSaid'. A law counts once. -/
mutual
def uptoBulk {H : Type} : DataW H → Nat
  | .lit (.string bytes) => bytes.length + 1
  | .lit _ => 1
  | .nil => 1
  | .ptr d => uptoBulk d + 1
  | .slice elems spare => uptoBulkAll elems + uptoBulkAll spare + 1
  | .agg parts => uptoBulkAll parts + 1
  | .iface _ d => uptoBulk d + 1
  | .map entries => uptoBulkEntries entries + 1
  | .held _ => 1
def uptoBulkAll {H : Type} : List (DataW H) → Nat
  | [] => 0
  | d :: r => uptoBulk d + uptoBulkAll r
def uptoBulkEntries {H : Type} : List (Lit × DataW H) → Nat
  | [] => 0
  | x :: r => uptoBulkEntry x + uptoBulkEntries r
def uptoBulkEntry {H : Type} : Lit × DataW H → Nat
  | (.string bytes, d) => bytes.length + uptoBulk d + 1
  | (_, d) => uptoBulk d + 1
 end
def uptoSmall : (H : Type) → List (DataW H) → Bool := fun _ ds => decide (uptoBulkAll ds ≤ 1048576)
def OpenSpec.upto (s : _root_.Go.ChangeSpec) : _root_.Go.OpenSpec := { _root_.Go.OpenSpec.ofChange s with cond := some uptoSmall }

/-- 'maquettelaw11.ClauseDo', WHERE WHAT IT READS IS OF BULK AT MOST 1048576: true; the input reads as it did. -/
def clauseDoUptoRow : OpenClaim := { program := "ytbbgiockmblamaa", sum := "8566325b7b540692e6eb36720e260e5e7a96187308ed0d1eb393ff384107d4c0", func := "maquette/maquettelaw11.ClauseDo", spec := "clauseDo", apart := false, narrowed := true }
def ClauseDoUptoSaid : Prop := clauseDoUptoRow.holds Try.pinned (OpenSpec.upto clauseDoSpec)

/-- 'maquettelaw11.ClauseMatches', WHERE WHAT IT READS IS OF BULK AT MOST 1048576: true; the input reads as it did. -/
def clauseMatchesUptoRow : OpenClaim := { program := "ytbbgiockmblamaa", sum := "8566325b7b540692e6eb36720e260e5e7a96187308ed0d1eb393ff384107d4c0", func := "maquette/maquettelaw11.ClauseMatches", spec := "clauseMatches", apart := false, narrowed := true }
def ClauseMatchesUptoSaid : Prop := clauseMatchesUptoRow.holds Try.pinned (OpenSpec.upto clauseMatchesSpec)

/-- 'maquettelaw11.ClauseDearer', WHERE WHAT IT READS IS OF BULK AT MOST 1048576: true; the input reads as it did. -/
def clauseDearerUptoRow : OpenClaim := { program := "ytbbgiockmblamaa", sum := "8566325b7b540692e6eb36720e260e5e7a96187308ed0d1eb393ff384107d4c0", func := "maquette/maquettelaw11.ClauseDearer", spec := "clauseDearer", apart := false, narrowed := true }
def ClauseDearerUptoSaid : Prop := clauseDearerUptoRow.holds Try.pinned (OpenSpec.upto clauseDearerSpec)

/-- 'maquettelaw11.ClauseNone', WHERE WHAT IT READS IS OF BULK AT MOST 1048576: true; the input reads as it did. -/
def clauseNoneUptoRow : OpenClaim := { program := "ytbbgiockmblamaa", sum := "8566325b7b540692e6eb36720e260e5e7a96187308ed0d1eb393ff384107d4c0", func := "maquette/maquettelaw11.ClauseNone", spec := "clauseNone", apart := false, narrowed := true }
def ClauseNoneUptoSaid : Prop := clauseNoneUptoRow.holds Try.pinned (OpenSpec.upto clauseNoneSpec)

/-- 'maquettelaw12.EdgeShift', WHERE WHAT IT READS IS OF BULK AT MOST 1048576: true; the input reads as it did. -/
def edgeShiftUptoRow : OpenClaim := { program := "ytbbgiockmblamaa", sum := "8566325b7b540692e6eb36720e260e5e7a96187308ed0d1eb393ff384107d4c0", func := "maquette/maquettelaw12.EdgeShift", spec := "edgeShift", apart := false, narrowed := true }
def EdgeShiftUptoSaid : Prop := edgeShiftUptoRow.holds Try.pinned (OpenSpec.upto edgeShiftSpec)

/-- 'maquettelaw11.ClauseFor', WHERE WHAT IT READS IS OF BULK AT MOST 1048576: true; the input reads as it did. -/
def clauseForUptoRow : OpenClaim := { program := "ytbbgiockmblamaa", sum := "8566325b7b540692e6eb36720e260e5e7a96187308ed0d1eb393ff384107d4c0", func := "maquette/maquettelaw11.ClauseFor", spec := "clauseFor", apart := false, narrowed := true }
def ClauseForUptoSaid : Prop := clauseForUptoRow.holds Try.pinned (OpenSpec.upto clauseForSpec)

/-- 'maquettelaw11.ClauseFew', WHERE WHAT IT READS IS OF BULK AT MOST 1048576: true; the input reads as it did. -/
def clauseFewUptoRow : OpenClaim := { program := "ytbbgiockmblamaa", sum := "8566325b7b540692e6eb36720e260e5e7a96187308ed0d1eb393ff384107d4c0", func := "maquette/maquettelaw11.ClauseFew", spec := "clauseFew", apart := false, narrowed := true }
def ClauseFewUptoSaid : Prop := clauseFewUptoRow.holds Try.pinned (OpenSpec.upto clauseFewSpec)

/-- 'maquettelaw12.EdgeBare', WHERE WHAT IT READS IS OF BULK AT MOST 1048576: true; the input reads as it did. -/
def edgeBareUptoRow : OpenClaim := { program := "ytbbgiockmblamaa", sum := "8566325b7b540692e6eb36720e260e5e7a96187308ed0d1eb393ff384107d4c0", func := "maquette/maquettelaw12.EdgeBare", spec := "edgeBare", apart := false, narrowed := true }
def EdgeBareUptoSaid : Prop := edgeBareUptoRow.holds Try.pinned (OpenSpec.upto edgeBareSpec)

/-- 'maquettelaw12.EdgeTake', WHERE WHAT IT READS IS OF BULK AT MOST 1048576: true; the input reads as it did. -/
def edgeTakeUptoRow : OpenClaim := { program := "ytbbgiockmblamaa", sum := "8566325b7b540692e6eb36720e260e5e7a96187308ed0d1eb393ff384107d4c0", func := "maquette/maquettelaw12.EdgeTake", spec := "edgeTake", apart := false, narrowed := true }
def EdgeTakeUptoSaid : Prop := edgeTakeUptoRow.holds Try.pinned (OpenSpec.upto edgeTakeSpec)

/-- 'maquettelaw12.EdgeRow', WHERE WHAT IT READS IS OF BULK AT MOST 1048576: true; the input reads as it did. -/
def edgeRowUptoRow : OpenClaim := { program := "ytbbgiockmblamaa", sum := "8566325b7b540692e6eb36720e260e5e7a96187308ed0d1eb393ff384107d4c0", func := "maquette/maquettelaw12.EdgeRow", spec := "edgeRow", apart := false, narrowed := true }
def EdgeRowUptoSaid : Prop := edgeRowUptoRow.holds Try.pinned (OpenSpec.upto edgeRowSpec)

/-- 'maquettelaw12.EdgeLikes', WHERE WHAT IT READS IS OF BULK AT MOST 1048576: true; the input reads as it did. -/
def edgeLikesUptoRow : OpenClaim := { program := "ytbbgiockmblamaa", sum := "8566325b7b540692e6eb36720e260e5e7a96187308ed0d1eb393ff384107d4c0", func := "maquette/maquettelaw12.EdgeLikes", spec := "edgeLikes", apart := false, narrowed := true }
def EdgeLikesUptoSaid : Prop := edgeLikesUptoRow.holds Try.pinned (OpenSpec.upto edgeLikesSpec)

/-- 'maquettelaw12.EdgeSame', WHERE WHAT IT READS IS OF BULK AT MOST 1048576: true; the input reads as it did. -/
def edgeSameUptoRow : OpenClaim := { program := "ytbbgiockmblamaa", sum := "8566325b7b540692e6eb36720e260e5e7a96187308ed0d1eb393ff384107d4c0", func := "maquette/maquettelaw12.EdgeSame", spec := "edgeSame", apart := false, narrowed := true }
def EdgeSameUptoSaid : Prop := edgeSameUptoRow.holds Try.pinned (OpenSpec.upto edgeSameSpec)

end Rows
end Go.Proofs.Ytbbgiockmblamaa
