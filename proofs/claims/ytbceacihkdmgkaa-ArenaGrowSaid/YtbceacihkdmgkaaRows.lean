/-
  No cell of these rows narrows 'for every input' (looked for: loops, veiled, ifaces, maps, wideKeys, modest, calm, conditions, laid).
  DERIVED. THE GIVEN ROWS OF THIS SEAT. 17 by the template 'for every input the law returns true; each argument reads behind the call as it read before'; 0 by the template 'total and deterministic' (their statements: YtbceacihkdmgkaaTotals.lean).
  GIVEN WITH THE SEED: the statements are not yours to turn. If you find one false, say at which input.
  Laid BY PROGRAM, IN A SANDBOX (cutbox-rows.mjs): the forced cells as the released guide's own fill.sh prints them over the translation 1288b4c559f79c0c… (all of the seat's roots in one cut). By AI agents, Wed Nov 11 2026. No macro, syntax, notation, axiom, sorry.
-/
import Derived.Test.YtbceacihkdmgkaaChecked
import GoSem.Claim
import GoSem.ClaimJoined
import GoSem.ClaimMapViews
import Derived.JoinedTies
import Derived.KernelRfl
namespace Go.Proofs.Ytbceacihkdmgkaa
/- THE CELL 'sum', in the pinned program and in every row, IS THE sha256 OF THE DUMP (.gsa) THAT YtbceacihkdmgkaaProg.lean LOADS. Nothing in Lean hashes anything: it is a label: what it is worth is what the hold of that sum in a sandbox is worth. -/
noncomputable def Try.pinned : Pinned := { name := "ytbceacihkdmgkaa", sum := "1288b4c559f79c0c5f8437014e9b5083ce9cf052823b9bc37b528e168a83011c", checked := Try.checked }
namespace Rows
def none {H : Type} : Left H := { results := [], args := [] }

/-- 'maquettelaw01.ArenaEval': WHATEVER THE INPUT: true; the input reads as it did. -/
def arenaEvalSpec : ChangeSpec := { name := "arenaEval", fn := fun _ => fun
  | [d1, d2] => { results := [.lit (.bool true)], args := [d1, d2] }
  | _ => none }
def arenaEvalRow : OpenClaim := { program := "ytbceacihkdmgkaa", sum := "1288b4c559f79c0c5f8437014e9b5083ce9cf052823b9bc37b528e168a83011c", func := "maquette/maquettelaw01.ArenaEval", spec := "arenaEval", unfollowed := true, recurses := true, plainKeys := false, apart := false }
def ArenaEvalSaid : Prop := arenaEvalRow.holds Try.pinned (OpenSpec.ofChange arenaEvalSpec)

/-- ITS FALSE NEIGHBOUR: 'it returns false'. Refute it at one input. -/
def arenaEvalWrong : ChangeSpec := { name := "arenaEval", fn := fun _ => fun
  | [d1, d2] => { results := [.lit (.bool false)], args := [d1, d2] }
  | _ => none }
def ArenaEvalWrongFalsely : Prop := arenaEvalRow.holds Try.pinned (OpenSpec.ofChange arenaEvalWrong)

/-- 'maquettelaw01.ArenaOrder': WHATEVER THE INPUT: true; the input reads as it did. -/
def arenaOrderSpec : ChangeSpec := { name := "arenaOrder", fn := fun _ => fun
  | [d1, d2] => { results := [.lit (.bool true)], args := [d1, d2] }
  | _ => none }
def arenaOrderRow : OpenClaim := { program := "ytbceacihkdmgkaa", sum := "1288b4c559f79c0c5f8437014e9b5083ce9cf052823b9bc37b528e168a83011c", func := "maquette/maquettelaw01.ArenaOrder", spec := "arenaOrder", unfollowed := true, recurses := true, plainKeys := false, apart := false }
def ArenaOrderSaid : Prop := arenaOrderRow.holds Try.pinned (OpenSpec.ofChange arenaOrderSpec)

/-- ITS FALSE NEIGHBOUR: 'it returns false'. Refute it at one input. -/
def arenaOrderWrong : ChangeSpec := { name := "arenaOrder", fn := fun _ => fun
  | [d1, d2] => { results := [.lit (.bool false)], args := [d1, d2] }
  | _ => none }
def ArenaOrderWrongFalsely : Prop := arenaOrderRow.holds Try.pinned (OpenSpec.ofChange arenaOrderWrong)

/-- 'maquettelaw01.ArenaGrow': WHATEVER THE INPUT: true; the input reads as it did. -/
def arenaGrowSpec : ChangeSpec := { name := "arenaGrow", fn := fun _ => fun
  | [d] => { results := [.lit (.bool true)], args := [d] }
  | _ => none }
def arenaGrowRow : OpenClaim := { program := "ytbceacihkdmgkaa", sum := "1288b4c559f79c0c5f8437014e9b5083ce9cf052823b9bc37b528e168a83011c", func := "maquette/maquettelaw01.ArenaGrow", spec := "arenaGrow", unfollowed := true, recurses := true, plainKeys := false, apart := false }
def ArenaGrowSaid : Prop := arenaGrowRow.holds Try.pinned (OpenSpec.ofChange arenaGrowSpec)

/-- ITS FALSE NEIGHBOUR: 'it returns false'. Refute it at one input. -/
def arenaGrowWrong : ChangeSpec := { name := "arenaGrow", fn := fun _ => fun
  | [d] => { results := [.lit (.bool false)], args := [d] }
  | _ => none }
def ArenaGrowWrongFalsely : Prop := arenaGrowRow.holds Try.pinned (OpenSpec.ofChange arenaGrowWrong)

/-- 'maquettelaw02.IteLaws': WHATEVER THE INPUT: true; the input reads as it did. -/
def iteLawsSpec : ChangeSpec := { name := "iteLaws", fn := fun _ => fun
  | [d1, d2, d3] => { results := [.lit (.bool true)], args := [d1, d2, d3] }
  | _ => none }
def iteLawsRow : OpenClaim := { program := "ytbceacihkdmgkaa", sum := "1288b4c559f79c0c5f8437014e9b5083ce9cf052823b9bc37b528e168a83011c", func := "maquette/maquettelaw02.IteLaws", spec := "iteLaws", unfollowed := true, recurses := true, plainKeys := false, apart := false }
def IteLawsSaid : Prop := iteLawsRow.holds Try.pinned (OpenSpec.ofChange iteLawsSpec)

/-- ITS FALSE NEIGHBOUR: 'it returns false'. Refute it at one input. -/
def iteLawsWrong : ChangeSpec := { name := "iteLaws", fn := fun _ => fun
  | [d1, d2, d3] => { results := [.lit (.bool false)], args := [d1, d2, d3] }
  | _ => none }
def IteLawsWrongFalsely : Prop := iteLawsRow.holds Try.pinned (OpenSpec.ofChange iteLawsWrong)

/-- 'maquettelaw02.IteKeeps': WHATEVER THE INPUT: true; the input reads as it did. -/
def iteKeepsSpec : ChangeSpec := { name := "iteKeeps", fn := fun _ => fun
  | [d1, d2] => { results := [.lit (.bool true)], args := [d1, d2] }
  | _ => none }
def iteKeepsRow : OpenClaim := { program := "ytbceacihkdmgkaa", sum := "1288b4c559f79c0c5f8437014e9b5083ce9cf052823b9bc37b528e168a83011c", func := "maquette/maquettelaw02.IteKeeps", spec := "iteKeeps", unfollowed := true, recurses := true, plainKeys := false, apart := false }
def IteKeepsSaid : Prop := iteKeepsRow.holds Try.pinned (OpenSpec.ofChange iteKeepsSpec)

/-- ITS FALSE NEIGHBOUR: 'it returns false'. Refute it at one input. -/
def iteKeepsWrong : ChangeSpec := { name := "iteKeeps", fn := fun _ => fun
  | [d1, d2] => { results := [.lit (.bool false)], args := [d1, d2] }
  | _ => none }
def IteKeepsWrongFalsely : Prop := iteKeepsRow.holds Try.pinned (OpenSpec.ofChange iteKeepsWrong)

/-- 'maquettelaw02.IteOf': WHATEVER THE INPUT: true; the input reads as it did. -/
def iteOfSpec : ChangeSpec := { name := "iteOf", fn := fun _ => fun
  | [d1, d2, d3] => { results := [.lit (.bool true)], args := [d1, d2, d3] }
  | _ => none }
def iteOfRow : OpenClaim := { program := "ytbceacihkdmgkaa", sum := "1288b4c559f79c0c5f8437014e9b5083ce9cf052823b9bc37b528e168a83011c", func := "maquette/maquettelaw02.IteOf", spec := "iteOf", unfollowed := true, recurses := true, plainKeys := false, apart := false }
def IteOfSaid : Prop := iteOfRow.holds Try.pinned (OpenSpec.ofChange iteOfSpec)

/-- ITS FALSE NEIGHBOUR: 'it returns false'. Refute it at one input. -/
def iteOfWrong : ChangeSpec := { name := "iteOf", fn := fun _ => fun
  | [d1, d2, d3] => { results := [.lit (.bool false)], args := [d1, d2, d3] }
  | _ => none }
def IteOfWrongFalsely : Prop := iteOfRow.holds Try.pinned (OpenSpec.ofChange iteOfWrong)

/-- 'maquettelaw04.TruthBuild': WHATEVER THE INPUT: true; the input reads as it did. -/
def truthBuildSpec : ChangeSpec := { name := "truthBuild", fn := fun _ => fun
  | [d1, d2] => { results := [.lit (.bool true)], args := [d1, d2] }
  | _ => none }
def truthBuildRow : OpenClaim := { program := "ytbceacihkdmgkaa", sum := "1288b4c559f79c0c5f8437014e9b5083ce9cf052823b9bc37b528e168a83011c", func := "maquette/maquettelaw04.TruthBuild", spec := "truthBuild", unfollowed := true, recurses := true, plainKeys := false, apart := false }
def TruthBuildSaid : Prop := truthBuildRow.holds Try.pinned (OpenSpec.ofChange truthBuildSpec)

/-- ITS FALSE NEIGHBOUR: 'it returns false'. Refute it at one input. -/
def truthBuildWrong : ChangeSpec := { name := "truthBuild", fn := fun _ => fun
  | [d1, d2] => { results := [.lit (.bool false)], args := [d1, d2] }
  | _ => none }
def TruthBuildWrongFalsely : Prop := truthBuildRow.holds Try.pinned (OpenSpec.ofChange truthBuildWrong)

/-- 'maquettelaw04.TruthFour': WHATEVER THE INPUT: true; the input reads as it did. -/
def truthFourSpec : ChangeSpec := { name := "truthFour", fn := fun _ => fun
  | [d] => { results := [.lit (.bool true)], args := [d] }
  | _ => none }
def truthFourRow : OpenClaim := { program := "ytbceacihkdmgkaa", sum := "1288b4c559f79c0c5f8437014e9b5083ce9cf052823b9bc37b528e168a83011c", func := "maquette/maquettelaw04.TruthFour", spec := "truthFour", unfollowed := true, recurses := true, plainKeys := false, apart := false }
def TruthFourSaid : Prop := truthFourRow.holds Try.pinned (OpenSpec.ofChange truthFourSpec)

/-- ITS FALSE NEIGHBOUR: 'it returns false'. Refute it at one input. -/
def truthFourWrong : ChangeSpec := { name := "truthFour", fn := fun _ => fun
  | [d] => { results := [.lit (.bool false)], args := [d] }
  | _ => none }
def TruthFourWrongFalsely : Prop := truthFourRow.holds Try.pinned (OpenSpec.ofChange truthFourWrong)

/-- 'maquettelaw04.TruthSize': WHATEVER THE INPUT: true; the input reads as it did. -/
def truthSizeSpec : ChangeSpec := { name := "truthSize", fn := fun _ => fun
  | [d1, d2] => { results := [.lit (.bool true)], args := [d1, d2] }
  | _ => none }
def truthSizeRow : OpenClaim := { program := "ytbceacihkdmgkaa", sum := "1288b4c559f79c0c5f8437014e9b5083ce9cf052823b9bc37b528e168a83011c", func := "maquette/maquettelaw04.TruthSize", spec := "truthSize", unfollowed := true, recurses := true, plainKeys := false, apart := false }
def TruthSizeSaid : Prop := truthSizeRow.holds Try.pinned (OpenSpec.ofChange truthSizeSpec)

/-- ITS FALSE NEIGHBOUR: 'it returns false'. Refute it at one input. -/
def truthSizeWrong : ChangeSpec := { name := "truthSize", fn := fun _ => fun
  | [d1, d2] => { results := [.lit (.bool false)], args := [d1, d2] }
  | _ => none }
def TruthSizeWrongFalsely : Prop := truthSizeRow.holds Try.pinned (OpenSpec.ofChange truthSizeWrong)

/-- 'maquettelaw04.TruthClamps': WHATEVER THE INPUT: true; the input reads as it did. -/
def truthClampsSpec : ChangeSpec := { name := "truthClamps", fn := fun _ => fun
  | [d1, d2] => { results := [.lit (.bool true)], args := [d1, d2] }
  | _ => none }
def truthClampsRow : OpenClaim := { program := "ytbceacihkdmgkaa", sum := "1288b4c559f79c0c5f8437014e9b5083ce9cf052823b9bc37b528e168a83011c", func := "maquette/maquettelaw04.TruthClamps", spec := "truthClamps", unfollowed := true, recurses := true, plainKeys := false, apart := false }
def TruthClampsSaid : Prop := truthClampsRow.holds Try.pinned (OpenSpec.ofChange truthClampsSpec)

/-- ITS FALSE NEIGHBOUR: 'it returns false'. Refute it at one input. -/
def truthClampsWrong : ChangeSpec := { name := "truthClamps", fn := fun _ => fun
  | [d1, d2] => { results := [.lit (.bool false)], args := [d1, d2] }
  | _ => none }
def TruthClampsWrongFalsely : Prop := truthClampsRow.holds Try.pinned (OpenSpec.ofChange truthClampsWrong)

/-- 'maquettelaw02.IteTwo': WHATEVER THE INPUT: true; the input reads as it did. -/
def iteTwoSpec : ChangeSpec := { name := "iteTwo", fn := fun _ => fun
  | [d1, d2] => { results := [.lit (.bool true)], args := [d1, d2] }
  | _ => none }
def iteTwoRow : OpenClaim := { program := "ytbceacihkdmgkaa", sum := "1288b4c559f79c0c5f8437014e9b5083ce9cf052823b9bc37b528e168a83011c", func := "maquette/maquettelaw02.IteTwo", spec := "iteTwo", unfollowed := true, recurses := true, plainKeys := false, apart := false }
def IteTwoSaid : Prop := iteTwoRow.holds Try.pinned (OpenSpec.ofChange iteTwoSpec)

/-- ITS FALSE NEIGHBOUR: 'it returns false'. Refute it at one input. -/
def iteTwoWrong : ChangeSpec := { name := "iteTwo", fn := fun _ => fun
  | [d1, d2] => { results := [.lit (.bool false)], args := [d1, d2] }
  | _ => none }
def IteTwoWrongFalsely : Prop := iteTwoRow.holds Try.pinned (OpenSpec.ofChange iteTwoWrong)

/-- 'maquettelaw03.ComposeShannon': WHATEVER THE INPUT: true; the input reads as it did. -/
def composeShannonSpec : ChangeSpec := { name := "composeShannon", fn := fun _ => fun
  | [d1, d2] => { results := [.lit (.bool true)], args := [d1, d2] }
  | _ => none }
def composeShannonRow : OpenClaim := { program := "ytbceacihkdmgkaa", sum := "1288b4c559f79c0c5f8437014e9b5083ce9cf052823b9bc37b528e168a83011c", func := "maquette/maquettelaw03.ComposeShannon", spec := "composeShannon", unfollowed := true, recurses := true, plainKeys := false, apart := false }
def ComposeShannonSaid : Prop := composeShannonRow.holds Try.pinned (OpenSpec.ofChange composeShannonSpec)

/-- ITS FALSE NEIGHBOUR: 'it returns false'. Refute it at one input. -/
def composeShannonWrong : ChangeSpec := { name := "composeShannon", fn := fun _ => fun
  | [d1, d2] => { results := [.lit (.bool false)], args := [d1, d2] }
  | _ => none }
def ComposeShannonWrongFalsely : Prop := composeShannonRow.holds Try.pinned (OpenSpec.ofChange composeShannonWrong)

/-- 'maquettelaw04.TruthSupport': WHATEVER THE INPUT: true; the input reads as it did. -/
def truthSupportSpec : ChangeSpec := { name := "truthSupport", fn := fun _ => fun
  | [d] => { results := [.lit (.bool true)], args := [d] }
  | _ => none }
def truthSupportRow : OpenClaim := { program := "ytbceacihkdmgkaa", sum := "1288b4c559f79c0c5f8437014e9b5083ce9cf052823b9bc37b528e168a83011c", func := "maquette/maquettelaw04.TruthSupport", spec := "truthSupport", unfollowed := true, recurses := true, plainKeys := false, apart := false }
def TruthSupportSaid : Prop := truthSupportRow.holds Try.pinned (OpenSpec.ofChange truthSupportSpec)

/-- ITS FALSE NEIGHBOUR: 'it returns false'. Refute it at one input. -/
def truthSupportWrong : ChangeSpec := { name := "truthSupport", fn := fun _ => fun
  | [d] => { results := [.lit (.bool false)], args := [d] }
  | _ => none }
def TruthSupportWrongFalsely : Prop := truthSupportRow.holds Try.pinned (OpenSpec.ofChange truthSupportWrong)

/-- 'maquettelaw03.ComposeSelf': WHATEVER THE INPUT: true; the input reads as it did. -/
def composeSelfSpec : ChangeSpec := { name := "composeSelf", fn := fun _ => fun
  | [d1, d2, d3] => { results := [.lit (.bool true)], args := [d1, d2, d3] }
  | _ => none }
def composeSelfRow : OpenClaim := { program := "ytbceacihkdmgkaa", sum := "1288b4c559f79c0c5f8437014e9b5083ce9cf052823b9bc37b528e168a83011c", func := "maquette/maquettelaw03.ComposeSelf", spec := "composeSelf", unfollowed := true, recurses := true, plainKeys := false, apart := false }
def ComposeSelfSaid : Prop := composeSelfRow.holds Try.pinned (OpenSpec.ofChange composeSelfSpec)

/-- ITS FALSE NEIGHBOUR: 'it returns false'. Refute it at one input. -/
def composeSelfWrong : ChangeSpec := { name := "composeSelf", fn := fun _ => fun
  | [d1, d2, d3] => { results := [.lit (.bool false)], args := [d1, d2, d3] }
  | _ => none }
def ComposeSelfWrongFalsely : Prop := composeSelfRow.holds Try.pinned (OpenSpec.ofChange composeSelfWrong)

/-- 'maquettelaw03.ComposeRestrict': WHATEVER THE INPUT: true; the input reads as it did. -/
def composeRestrictSpec : ChangeSpec := { name := "composeRestrict", fn := fun _ => fun
  | [d1, d2, d3] => { results := [.lit (.bool true)], args := [d1, d2, d3] }
  | _ => none }
def composeRestrictRow : OpenClaim := { program := "ytbceacihkdmgkaa", sum := "1288b4c559f79c0c5f8437014e9b5083ce9cf052823b9bc37b528e168a83011c", func := "maquette/maquettelaw03.ComposeRestrict", spec := "composeRestrict", unfollowed := true, recurses := true, plainKeys := false, apart := false }
def ComposeRestrictSaid : Prop := composeRestrictRow.holds Try.pinned (OpenSpec.ofChange composeRestrictSpec)

/-- ITS FALSE NEIGHBOUR: 'it returns false'. Refute it at one input. -/
def composeRestrictWrong : ChangeSpec := { name := "composeRestrict", fn := fun _ => fun
  | [d1, d2, d3] => { results := [.lit (.bool false)], args := [d1, d2, d3] }
  | _ => none }
def ComposeRestrictWrongFalsely : Prop := composeRestrictRow.holds Try.pinned (OpenSpec.ofChange composeRestrictWrong)

/-- 'maquettelaw03.ComposeSome': WHATEVER THE INPUT: true; the input reads as it did. -/
def composeSomeSpec : ChangeSpec := { name := "composeSome", fn := fun _ => fun
  | [d1, d2] => { results := [.lit (.bool true)], args := [d1, d2] }
  | _ => none }
def composeSomeRow : OpenClaim := { program := "ytbceacihkdmgkaa", sum := "1288b4c559f79c0c5f8437014e9b5083ce9cf052823b9bc37b528e168a83011c", func := "maquette/maquettelaw03.ComposeSome", spec := "composeSome", unfollowed := true, recurses := true, plainKeys := false, apart := false }
def ComposeSomeSaid : Prop := composeSomeRow.holds Try.pinned (OpenSpec.ofChange composeSomeSpec)

/-- ITS FALSE NEIGHBOUR: 'it returns false'. Refute it at one input. -/
def composeSomeWrong : ChangeSpec := { name := "composeSome", fn := fun _ => fun
  | [d1, d2] => { results := [.lit (.bool false)], args := [d1, d2] }
  | _ => none }
def ComposeSomeWrongFalsely : Prop := composeSomeRow.holds Try.pinned (OpenSpec.ofChange composeSomeWrong)

/-- 'maquettelaw03.ComposeOf': WHATEVER THE INPUT: true; the input reads as it did. -/
def composeOfSpec : ChangeSpec := { name := "composeOf", fn := fun _ => fun
  | [d1, d2, d3] => { results := [.lit (.bool true)], args := [d1, d2, d3] }
  | _ => none }
def composeOfRow : OpenClaim := { program := "ytbceacihkdmgkaa", sum := "1288b4c559f79c0c5f8437014e9b5083ce9cf052823b9bc37b528e168a83011c", func := "maquette/maquettelaw03.ComposeOf", spec := "composeOf", unfollowed := true, recurses := true, plainKeys := false, apart := false }
def ComposeOfSaid : Prop := composeOfRow.holds Try.pinned (OpenSpec.ofChange composeOfSpec)

/-- ITS FALSE NEIGHBOUR: 'it returns false'. Refute it at one input. -/
def composeOfWrong : ChangeSpec := { name := "composeOf", fn := fun _ => fun
  | [d1, d2, d3] => { results := [.lit (.bool false)], args := [d1, d2, d3] }
  | _ => none }
def ComposeOfWrongFalsely : Prop := composeOfRow.holds Try.pinned (OpenSpec.ofChange composeOfWrong)

/- THE SECOND FORM. 'bulk': how many values and letters a reading holds, each counted each time it is reached (what is shared counts as often as it is met; a slice's spare places count too). A statement '..UptoSaid' is the law's where the arguments, and the package variables that the reading takes, are together of bulk at most 1048576: NARROWER than '..Said'. Prove '..Said' where nothing that the law and all that it calls make is longer than what came in: it says more and counts as full. Else prove '..UptoSaid'. A law counts once. -/
mutual
def uptoBulk {H : Type} : DataW H → Nat
  | .lit (.string bytes) => bytes.length + 1
  | .lit _ => 1
  | .nil => 1
  | .ptr d => uptoBulk d + 1
  | .slice elems spare => uptoBulkAll elems + uptoBulkAll spare + 1
  | .agg parts => uptoBulkAll parts + 1
  | .iface _ d => uptoBulk d + 1
  | .map entries => uptoBulkEntries entries + 1
  | .held _ => 1
def uptoBulkAll {H : Type} : List (DataW H) → Nat
  | [] => 0
  | d :: r => uptoBulk d + uptoBulkAll r
def uptoBulkEntries {H : Type} : List (Lit × DataW H) → Nat
  | [] => 0
  | x :: r => uptoBulkEntry x + uptoBulkEntries r
def uptoBulkEntry {H : Type} : Lit × DataW H → Nat
  | (.string bytes, d) => bytes.length + uptoBulk d + 1
  | (_, d) => uptoBulk d + 1
 end
def uptoSmall : (H : Type) → List (DataW H) → Bool := fun _ ds => decide (uptoBulkAll ds ≤ 1048576)
def OpenSpec.upto (s : _root_.Go.ChangeSpec) : _root_.Go.OpenSpec := { _root_.Go.OpenSpec.ofChange s with cond := some uptoSmall }

/-- 'maquettelaw01.ArenaEval', WHERE WHAT IT READS IS OF BULK AT MOST 1048576: true; the input reads as it did. -/
def arenaEvalUptoRow : OpenClaim := { program := "ytbceacihkdmgkaa", sum := "1288b4c559f79c0c5f8437014e9b5083ce9cf052823b9bc37b528e168a83011c", func := "maquette/maquettelaw01.ArenaEval", spec := "arenaEval", unfollowed := true, recurses := true, plainKeys := false, apart := false, narrowed := true }
def ArenaEvalUptoSaid : Prop := arenaEvalUptoRow.holds Try.pinned (OpenSpec.upto arenaEvalSpec)

/-- 'maquettelaw01.ArenaOrder', WHERE WHAT IT READS IS OF BULK AT MOST 1048576: true; the input reads as it did. -/
def arenaOrderUptoRow : OpenClaim := { program := "ytbceacihkdmgkaa", sum := "1288b4c559f79c0c5f8437014e9b5083ce9cf052823b9bc37b528e168a83011c", func := "maquette/maquettelaw01.ArenaOrder", spec := "arenaOrder", unfollowed := true, recurses := true, plainKeys := false, apart := false, narrowed := true }
def ArenaOrderUptoSaid : Prop := arenaOrderUptoRow.holds Try.pinned (OpenSpec.upto arenaOrderSpec)

/-- 'maquettelaw01.ArenaGrow', WHERE WHAT IT READS IS OF BULK AT MOST 1048576: true; the input reads as it did. -/
def arenaGrowUptoRow : OpenClaim := { program := "ytbceacihkdmgkaa", sum := "1288b4c559f79c0c5f8437014e9b5083ce9cf052823b9bc37b528e168a83011c", func := "maquette/maquettelaw01.ArenaGrow", spec := "arenaGrow", unfollowed := true, recurses := true, plainKeys := false, apart := false, narrowed := true }
def ArenaGrowUptoSaid : Prop := arenaGrowUptoRow.holds Try.pinned (OpenSpec.upto arenaGrowSpec)

/-- 'maquettelaw02.IteLaws', WHERE WHAT IT READS IS OF BULK AT MOST 1048576: true; the input reads as it did. -/
def iteLawsUptoRow : OpenClaim := { program := "ytbceacihkdmgkaa", sum := "1288b4c559f79c0c5f8437014e9b5083ce9cf052823b9bc37b528e168a83011c", func := "maquette/maquettelaw02.IteLaws", spec := "iteLaws", unfollowed := true, recurses := true, plainKeys := false, apart := false, narrowed := true }
def IteLawsUptoSaid : Prop := iteLawsUptoRow.holds Try.pinned (OpenSpec.upto iteLawsSpec)

/-- 'maquettelaw02.IteKeeps', WHERE WHAT IT READS IS OF BULK AT MOST 1048576: true; the input reads as it did. -/
def iteKeepsUptoRow : OpenClaim := { program := "ytbceacihkdmgkaa", sum := "1288b4c559f79c0c5f8437014e9b5083ce9cf052823b9bc37b528e168a83011c", func := "maquette/maquettelaw02.IteKeeps", spec := "iteKeeps", unfollowed := true, recurses := true, plainKeys := false, apart := false, narrowed := true }
def IteKeepsUptoSaid : Prop := iteKeepsUptoRow.holds Try.pinned (OpenSpec.upto iteKeepsSpec)

/-- 'maquettelaw02.IteOf', WHERE WHAT IT READS IS OF BULK AT MOST 1048576: true; the input reads as it did. -/
def iteOfUptoRow : OpenClaim := { program := "ytbceacihkdmgkaa", sum := "1288b4c559f79c0c5f8437014e9b5083ce9cf052823b9bc37b528e168a83011c", func := "maquette/maquettelaw02.IteOf", spec := "iteOf", unfollowed := true, recurses := true, plainKeys := false, apart := false, narrowed := true }
def IteOfUptoSaid : Prop := iteOfUptoRow.holds Try.pinned (OpenSpec.upto iteOfSpec)

/-- 'maquettelaw04.TruthBuild', WHERE WHAT IT READS IS OF BULK AT MOST 1048576: true; the input reads as it did. -/
def truthBuildUptoRow : OpenClaim := { program := "ytbceacihkdmgkaa", sum := "1288b4c559f79c0c5f8437014e9b5083ce9cf052823b9bc37b528e168a83011c", func := "maquette/maquettelaw04.TruthBuild", spec := "truthBuild", unfollowed := true, recurses := true, plainKeys := false, apart := false, narrowed := true }
def TruthBuildUptoSaid : Prop := truthBuildUptoRow.holds Try.pinned (OpenSpec.upto truthBuildSpec)

/-- 'maquettelaw04.TruthFour', WHERE WHAT IT READS IS OF BULK AT MOST 1048576: true; the input reads as it did. -/
def truthFourUptoRow : OpenClaim := { program := "ytbceacihkdmgkaa", sum := "1288b4c559f79c0c5f8437014e9b5083ce9cf052823b9bc37b528e168a83011c", func := "maquette/maquettelaw04.TruthFour", spec := "truthFour", unfollowed := true, recurses := true, plainKeys := false, apart := false, narrowed := true }
def TruthFourUptoSaid : Prop := truthFourUptoRow.holds Try.pinned (OpenSpec.upto truthFourSpec)

/-- 'maquettelaw04.TruthSize', WHERE WHAT IT READS IS OF BULK AT MOST 1048576: true; the input reads as it did. -/
def truthSizeUptoRow : OpenClaim := { program := "ytbceacihkdmgkaa", sum := "1288b4c559f79c0c5f8437014e9b5083ce9cf052823b9bc37b528e168a83011c", func := "maquette/maquettelaw04.TruthSize", spec := "truthSize", unfollowed := true, recurses := true, plainKeys := false, apart := false, narrowed := true }
def TruthSizeUptoSaid : Prop := truthSizeUptoRow.holds Try.pinned (OpenSpec.upto truthSizeSpec)

/-- 'maquettelaw04.TruthClamps', WHERE WHAT IT READS IS OF BULK AT MOST 1048576: true; the input reads as it did. -/
def truthClampsUptoRow : OpenClaim := { program := "ytbceacihkdmgkaa", sum := "1288b4c559f79c0c5f8437014e9b5083ce9cf052823b9bc37b528e168a83011c", func := "maquette/maquettelaw04.TruthClamps", spec := "truthClamps", unfollowed := true, recurses := true, plainKeys := false, apart := false, narrowed := true }
def TruthClampsUptoSaid : Prop := truthClampsUptoRow.holds Try.pinned (OpenSpec.upto truthClampsSpec)

/-- 'maquettelaw02.IteTwo', WHERE WHAT IT READS IS OF BULK AT MOST 1048576: true; the input reads as it did. -/
def iteTwoUptoRow : OpenClaim := { program := "ytbceacihkdmgkaa", sum := "1288b4c559f79c0c5f8437014e9b5083ce9cf052823b9bc37b528e168a83011c", func := "maquette/maquettelaw02.IteTwo", spec := "iteTwo", unfollowed := true, recurses := true, plainKeys := false, apart := false, narrowed := true }
def IteTwoUptoSaid : Prop := iteTwoUptoRow.holds Try.pinned (OpenSpec.upto iteTwoSpec)

/-- 'maquettelaw03.ComposeShannon', WHERE WHAT IT READS IS OF BULK AT MOST 1048576: true; the input reads as it did. -/
def composeShannonUptoRow : OpenClaim := { program := "ytbceacihkdmgkaa", sum := "1288b4c559f79c0c5f8437014e9b5083ce9cf052823b9bc37b528e168a83011c", func := "maquette/maquettelaw03.ComposeShannon", spec := "composeShannon", unfollowed := true, recurses := true, plainKeys := false, apart := false, narrowed := true }
def ComposeShannonUptoSaid : Prop := composeShannonUptoRow.holds Try.pinned (OpenSpec.upto composeShannonSpec)

/-- 'maquettelaw04.TruthSupport', WHERE WHAT IT READS IS OF BULK AT MOST 1048576: true; the input reads as it did. -/
def truthSupportUptoRow : OpenClaim := { program := "ytbceacihkdmgkaa", sum := "1288b4c559f79c0c5f8437014e9b5083ce9cf052823b9bc37b528e168a83011c", func := "maquette/maquettelaw04.TruthSupport", spec := "truthSupport", unfollowed := true, recurses := true, plainKeys := false, apart := false, narrowed := true }
def TruthSupportUptoSaid : Prop := truthSupportUptoRow.holds Try.pinned (OpenSpec.upto truthSupportSpec)

/-- 'maquettelaw03.ComposeSelf', WHERE WHAT IT READS IS OF BULK AT MOST 1048576: true; the input reads as it did. -/
def composeSelfUptoRow : OpenClaim := { program := "ytbceacihkdmgkaa", sum := "1288b4c559f79c0c5f8437014e9b5083ce9cf052823b9bc37b528e168a83011c", func := "maquette/maquettelaw03.ComposeSelf", spec := "composeSelf", unfollowed := true, recurses := true, plainKeys := false, apart := false, narrowed := true }
def ComposeSelfUptoSaid : Prop := composeSelfUptoRow.holds Try.pinned (OpenSpec.upto composeSelfSpec)

/-- 'maquettelaw03.ComposeRestrict', WHERE WHAT IT READS IS OF BULK AT MOST 1048576: true; the input reads as it did. -/
def composeRestrictUptoRow : OpenClaim := { program := "ytbceacihkdmgkaa", sum := "1288b4c559f79c0c5f8437014e9b5083ce9cf052823b9bc37b528e168a83011c", func := "maquette/maquettelaw03.ComposeRestrict", spec := "composeRestrict", unfollowed := true, recurses := true, plainKeys := false, apart := false, narrowed := true }
def ComposeRestrictUptoSaid : Prop := composeRestrictUptoRow.holds Try.pinned (OpenSpec.upto composeRestrictSpec)

/-- 'maquettelaw03.ComposeSome', WHERE WHAT IT READS IS OF BULK AT MOST 1048576: true; the input reads as it did. -/
def composeSomeUptoRow : OpenClaim := { program := "ytbceacihkdmgkaa", sum := "1288b4c559f79c0c5f8437014e9b5083ce9cf052823b9bc37b528e168a83011c", func := "maquette/maquettelaw03.ComposeSome", spec := "composeSome", unfollowed := true, recurses := true, plainKeys := false, apart := false, narrowed := true }
def ComposeSomeUptoSaid : Prop := composeSomeUptoRow.holds Try.pinned (OpenSpec.upto composeSomeSpec)

/-- 'maquettelaw03.ComposeOf', WHERE WHAT IT READS IS OF BULK AT MOST 1048576: true; the input reads as it did. -/
def composeOfUptoRow : OpenClaim := { program := "ytbceacihkdmgkaa", sum := "1288b4c559f79c0c5f8437014e9b5083ce9cf052823b9bc37b528e168a83011c", func := "maquette/maquettelaw03.ComposeOf", spec := "composeOf", unfollowed := true, recurses := true, plainKeys := false, apart := false, narrowed := true }
def ComposeOfUptoSaid : Prop := composeOfUptoRow.holds Try.pinned (OpenSpec.upto composeOfSpec)

end Rows
end Go.Proofs.Ytbceacihkdmgkaa
