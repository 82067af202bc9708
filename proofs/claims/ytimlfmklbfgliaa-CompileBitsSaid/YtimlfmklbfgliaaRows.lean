/-
  No cell of these rows narrows 'for every input' (looked for: loops, veiled, ifaces, maps, wideKeys, modest, calm, conditions, laid).
  DERIVED. THE GIVEN ROWS OF THIS SEAT. 4 by the template 'for every input the law returns true; each argument reads behind the call as it read before'; 0 by the template 'total and deterministic' (their statements: YtimlfmklbfgliaaTotals.lean).
  GIVEN WITH THE SEED: the statements are not yours to turn. If you find one false, say at which input.
  Laid BY PROGRAM, IN A SANDBOX (cutbox-rows.mjs): the forced cells as the released guide's own fill.sh prints them over the translation 80e12c307bd87a50… (all of the seat's roots in one cut). By AI agents, Wed Nov 11 2026. No macro, syntax, notation, axiom, sorry.
-/
import Derived.Test.YtimlfmklbfgliaaChecked
import GoSem.Claim
import GoSem.ClaimJoined
import GoSem.ClaimMapViews
import Derived.JoinedTies
import Derived.KernelRfl
namespace Go.Proofs.Ytimlfmklbfgliaa
/- THE CELL 'sum', in the pinned program and in every row, IS THE sha256 OF THE DUMP (.gsa) THAT YtimlfmklbfgliaaProg.lean LOADS. Nothing in Lean hashes anything: it is a label: what it is worth is what the hold of that sum in a sandbox is worth. -/
noncomputable def Try.pinned : Pinned := { name := "ytimlfmklbfgliaa", sum := "80e12c307bd87a502ab25be1f297a803804dad02d974a9a703bb845faba922d5", checked := Try.checked }
namespace Rows
def none {H : Type} : Left H := { results := [], args := [] }

/-- 'maquettelaw14.CompileSame': WHATEVER THE INPUT: true; the input reads as it did. -/
def compileSameSpec : ChangeSpec := { name := "compileSame", fn := fun _ => fun
  | [d1, d2, d3] => { results := [.lit (.bool true)], args := [d1, d2, d3] }
  | _ => none }
def compileSameRow : OpenClaim := { program := "ytimlfmklbfgliaa", sum := "80e12c307bd87a502ab25be1f297a803804dad02d974a9a703bb845faba922d5", func := "maquette/maquettelaw14.CompileSame", spec := "compileSame", recurses := true, plainKeys := false, apart := false }
def CompileSameSaid : Prop := compileSameRow.holds Try.pinned (OpenSpec.ofChange compileSameSpec)

/-- ITS FALSE NEIGHBOUR: 'it returns false'. Refute it at one input. -/
def compileSameWrong : ChangeSpec := { name := "compileSame", fn := fun _ => fun
  | [d1, d2, d3] => { results := [.lit (.bool false)], args := [d1, d2, d3] }
  | _ => none }
def CompileSameWrongFalsely : Prop := compileSameRow.holds Try.pinned (OpenSpec.ofChange compileSameWrong)

/-- 'maquettelaw14.CompileBits': WHATEVER THE INPUT: true; the input reads as it did. -/
def compileBitsSpec : ChangeSpec := { name := "compileBits", fn := fun _ => fun
  | [d1, d2] => { results := [.lit (.bool true)], args := [d1, d2] }
  | _ => none }
def compileBitsRow : OpenClaim := { program := "ytimlfmklbfgliaa", sum := "80e12c307bd87a502ab25be1f297a803804dad02d974a9a703bb845faba922d5", func := "maquette/maquettelaw14.CompileBits", spec := "compileBits", unfollowed := true, recurses := true, plainKeys := false, apart := false }
def CompileBitsSaid : Prop := compileBitsRow.holds Try.pinned (OpenSpec.ofChange compileBitsSpec)

/-- ITS FALSE NEIGHBOUR: 'it returns false'. Refute it at one input. -/
def compileBitsWrong : ChangeSpec := { name := "compileBits", fn := fun _ => fun
  | [d1, d2] => { results := [.lit (.bool false)], args := [d1, d2] }
  | _ => none }
def CompileBitsWrongFalsely : Prop := compileBitsRow.holds Try.pinned (OpenSpec.ofChange compileBitsWrong)

/-- 'maquettelaw14.CompileBare': WHATEVER THE INPUT: true; the input reads as it did. -/
def compileBareSpec : ChangeSpec := { name := "compileBare", fn := fun _ => fun
  | [d1, d2] => { results := [.lit (.bool true)], args := [d1, d2] }
  | _ => none }
def compileBareRow : OpenClaim := { program := "ytimlfmklbfgliaa", sum := "80e12c307bd87a502ab25be1f297a803804dad02d974a9a703bb845faba922d5", func := "maquette/maquettelaw14.CompileBare", spec := "compileBare", unfollowed := true, recurses := true, plainKeys := false, apart := false }
def CompileBareSaid : Prop := compileBareRow.holds Try.pinned (OpenSpec.ofChange compileBareSpec)

/-- ITS FALSE NEIGHBOUR: 'it returns false'. Refute it at one input. -/
def compileBareWrong : ChangeSpec := { name := "compileBare", fn := fun _ => fun
  | [d1, d2] => { results := [.lit (.bool false)], args := [d1, d2] }
  | _ => none }
def CompileBareWrongFalsely : Prop := compileBareRow.holds Try.pinned (OpenSpec.ofChange compileBareWrong)

/-- 'maquettelaw14.CompileTake': WHATEVER THE INPUT: true; the input reads as it did. -/
def compileTakeSpec : ChangeSpec := { name := "compileTake", fn := fun _ => fun
  | [d1, d2, d3, d4, d5] => { results := [.lit (.bool true)], args := [d1, d2, d3, d4, d5] }
  | _ => none }
def compileTakeRow : OpenClaim := { program := "ytimlfmklbfgliaa", sum := "80e12c307bd87a502ab25be1f297a803804dad02d974a9a703bb845faba922d5", func := "maquette/maquettelaw14.CompileTake", spec := "compileTake", unfollowed := true, recurses := true, plainKeys := false, apart := false }
def CompileTakeSaid : Prop := compileTakeRow.holds Try.pinned (OpenSpec.ofChange compileTakeSpec)

/-- ITS FALSE NEIGHBOUR: 'it returns false'. Refute it at one input. -/
def compileTakeWrong : ChangeSpec := { name := "compileTake", fn := fun _ => fun
  | [d1, d2, d3, d4, d5] => { results := [.lit (.bool false)], args := [d1, d2, d3, d4, d5] }
  | _ => none }
def CompileTakeWrongFalsely : Prop := compileTakeRow.holds Try.pinned (OpenSpec.ofChange compileTakeWrong)

/- THE SECOND FORM. 'bulk': how many values and letters a reading holds, each counted each time it is reached (what is shared counts as often as it is met; a slice's spare places count too). A statement '..UptoSaid' is the law's where the arguments, and the package variables that the reading takes, are together of bulk at most 1048576: NARROWER than '..Said'. Prove '..Said' where nothing that the law and all that it calls make is longer than what came in: it says more and counts as full. Else prove '..UptoSaid'. A law counts once. -/
mutual
def uptoBulk {H : Type} : DataW H → Nat
  | .lit (.string bytes) => bytes.length + 1
  | .lit _ => 1
  | .nil => 1
  | .ptr d => uptoBulk d + 1
  | .slice elems spare => uptoBulkAll elems + uptoBulkAll spare + 1
  | .agg parts => uptoBulkAll parts + 1
  | .iface _ d => uptoBulk d + 1
  | .map entries => uptoBulkEntries entries + 1
  | .held _ => 1
def uptoBulkAll {H : Type} : List (DataW H) → Nat
  | [] => 0
  | d :: r => uptoBulk d + uptoBulkAll r
def uptoBulkEntries {H : Type} : List (Lit × DataW H) → Nat
  | [] => 0
  | x :: r => uptoBulkEntry x + uptoBulkEntries r
def uptoBulkEntry {H : Type} : Lit × DataW H → Nat
  | (.string bytes, d) => bytes.length + uptoBulk d + 1
  | (_, d) => uptoBulk d + 1
 end
def uptoSmall : (H : Type) → List (DataW H) → Bool := fun _ ds => decide (uptoBulkAll ds ≤ 1048576)
def OpenSpec.upto (s : _root_.Go.ChangeSpec) : _root_.Go.OpenSpec := { _root_.Go.OpenSpec.ofChange s with cond := some uptoSmall }

/-- 'maquettelaw14.CompileSame', WHERE WHAT IT READS IS OF BULK AT MOST 1048576: true; the input reads as it did. -/
def compileSameUptoRow : OpenClaim := { program := "ytimlfmklbfgliaa", sum := "80e12c307bd87a502ab25be1f297a803804dad02d974a9a703bb845faba922d5", func := "maquette/maquettelaw14.CompileSame", spec := "compileSame", recurses := true, plainKeys := false, apart := false, narrowed := true }
def CompileSameUptoSaid : Prop := compileSameUptoRow.holds Try.pinned (OpenSpec.upto compileSameSpec)

/-- 'maquettelaw14.CompileBits', WHERE WHAT IT READS IS OF BULK AT MOST 1048576: true; the input reads as it did. -/
def compileBitsUptoRow : OpenClaim := { program := "ytimlfmklbfgliaa", sum := "80e12c307bd87a502ab25be1f297a803804dad02d974a9a703bb845faba922d5", func := "maquette/maquettelaw14.CompileBits", spec := "compileBits", unfollowed := true, recurses := true, plainKeys := false, apart := false, narrowed := true }
def CompileBitsUptoSaid : Prop := compileBitsUptoRow.holds Try.pinned (OpenSpec.upto compileBitsSpec)

/-- 'maquettelaw14.CompileBare', WHERE WHAT IT READS IS OF BULK AT MOST 1048576: true; the input reads as it did. -/
def compileBareUptoRow : OpenClaim := { program := "ytimlfmklbfgliaa", sum := "80e12c307bd87a502ab25be1f297a803804dad02d974a9a703bb845faba922d5", func := "maquette/maquettelaw14.CompileBare", spec := "compileBare", unfollowed := true, recurses := true, plainKeys := false, apart := false, narrowed := true }
def CompileBareUptoSaid : Prop := compileBareUptoRow.holds Try.pinned (OpenSpec.upto compileBareSpec)

/-- 'maquettelaw14.CompileTake', WHERE WHAT IT READS IS OF BULK AT MOST 1048576: true; the input reads as it did. -/
def compileTakeUptoRow : OpenClaim := { program := "ytimlfmklbfgliaa", sum := "80e12c307bd87a502ab25be1f297a803804dad02d974a9a703bb845faba922d5", func := "maquette/maquettelaw14.CompileTake", spec := "compileTake", unfollowed := true, recurses := true, plainKeys := false, apart := false, narrowed := true }
def CompileTakeUptoSaid : Prop := compileTakeUptoRow.holds Try.pinned (OpenSpec.upto compileTakeSpec)

end Rows
end Go.Proofs.Ytimlfmklbfgliaa
