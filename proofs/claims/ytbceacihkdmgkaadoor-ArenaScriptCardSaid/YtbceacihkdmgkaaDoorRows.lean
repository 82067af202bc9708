/-
  NARROWER THAN 'FOR EVERY INPUT', by the rows' own cells (each row's printed sentence says how): ArenaScript: laid · ArenaLimits: laid · ArenaVariable: laid · TruthMay: laid · IteFull: laid · ComposeNone: laid.
  DERIVED. THE GIVEN ROWS OF THIS SEAT. 6 by the template 'for every input the law returns true; each argument reads behind the call as it read before'; 0 by the template 'total and deterministic' (their statements: YtbceacihkdmgkaaDoorTotals.lean).
  GIVEN WITH THE SEED: the statements are not yours to turn. If you find one false, say at which input.
  Laid BY PROGRAM, IN A SANDBOX (cutbox-rows.mjs): the forced cells as the released guide's own fill.sh prints them over the translation e45b8250d19a4593… (all of the seat's roots in one cut). By AI agents, Wed Nov 11 2026. No macro, syntax, notation, axiom, sorry.
-/
import Derived.Test.YtbceacihkdmgkaaDoorChecked
import GoSem.Claim
import GoSem.ClaimJoined
import GoSem.ClaimMapViews
import Derived.JoinedTies
import Derived.KernelRfl
namespace Go.Proofs.YtbceacihkdmgkaaDoor
/- THE CELL 'sum', in the pinned program and in every row, IS THE sha256 OF THE DUMP (.gsa) THAT YtbceacihkdmgkaaDoorProg.lean LOADS. Nothing in Lean hashes anything: it is a label: what it is worth is what the hold of that sum in a sandbox is worth. -/
noncomputable def Tryd.pinned : Pinned := { name := "ytbceacihkdmgkaadoor", sum := "e45b8250d19a45937529f4379d938ac2f82b2eb0222be54aa2669477db3660e6", checked := Tryd.checked }
namespace Rows
def none {H : Type} : Left H := { results := [], args := [] }

/- WHAT THE LISTED PACKAGE-LEVEL VARIABLES READ AS WHEN THE CALL BEGINS. Each datum BY PROGRAM (the guide's laid-datum.mjs) off the statement by which the dump's own 'gosem.cut.vars' lays the variable. In a bare row this is a premise. The card (YtbceacihkdmgkaaDoorCards.lean) ties it to the program's text. -/
def laid_errors_errorType {H : Type} : DataW H := .iface "internal/reflectlite.rtype" (.agg [.ptr (.lit (.string [101, 114, 114, 111, 114]))])

/-- 'maquettelaw01.ArenaScript': WHATEVER THE INPUT: true; the input reads as it did. -/
def arenaScriptSpec : ChangeSpec := { name := "arenaScript", fn := fun _ => fun
  | [d1, d2] => { results := [.lit (.bool true)], args := [d1, d2] }
  | _ => none }
def arenaScriptRow : OpenClaim := { program := "ytbceacihkdmgkaadoor", sum := "e45b8250d19a45937529f4379d938ac2f82b2eb0222be54aa2669477db3660e6", func := "maquette/maquettelaw01.ArenaScript", spec := "arenaScript", inPlace := ["internal/reflectlite.ValueOf", "(internal/reflectlite.Value).Type", "(internal/reflectlite.Value).IsNil", "internal/reflectlite.TypeOf", "(internal/reflectlite.Value).Elem", "(internal/reflectlite.Value).Set"], unfollowed := true, recurses := true, named := ["errors.errorType"], plainKeys := false, apart := false, laid := [("errors.errorType", laid_errors_errorType)] }
def ArenaScriptSaid : Prop := arenaScriptRow.holds Tryd.pinned (OpenSpec.ofChange arenaScriptSpec)

/-- ITS FALSE NEIGHBOUR: 'it returns false'. Refute it at one input. -/
def arenaScriptWrong : ChangeSpec := { name := "arenaScript", fn := fun _ => fun
  | [d1, d2] => { results := [.lit (.bool false)], args := [d1, d2] }
  | _ => none }
def ArenaScriptWrongFalsely : Prop := arenaScriptRow.holds Tryd.pinned (OpenSpec.ofChange arenaScriptWrong)

/-- 'maquettelaw01.ArenaLimits': WHATEVER THE INPUT: true; the input reads as it did. -/
def arenaLimitsSpec : ChangeSpec := { name := "arenaLimits", fn := fun _ => fun
  | [d1, d2, d3] => { results := [.lit (.bool true)], args := [d1, d2, d3] }
  | _ => none }
def arenaLimitsRow : OpenClaim := { program := "ytbceacihkdmgkaadoor", sum := "e45b8250d19a45937529f4379d938ac2f82b2eb0222be54aa2669477db3660e6", func := "maquette/maquettelaw01.ArenaLimits", spec := "arenaLimits", inPlace := ["internal/reflectlite.ValueOf", "(internal/reflectlite.Value).Type", "(internal/reflectlite.Value).IsNil", "internal/reflectlite.TypeOf", "(internal/reflectlite.Value).Elem", "(internal/reflectlite.Value).Set"], unfollowed := true, recurses := true, named := ["errors.errorType"], plainKeys := false, apart := false, laid := [("errors.errorType", laid_errors_errorType)] }
def ArenaLimitsSaid : Prop := arenaLimitsRow.holds Tryd.pinned (OpenSpec.ofChange arenaLimitsSpec)

/-- ITS FALSE NEIGHBOUR: 'it returns false'. Refute it at one input. -/
def arenaLimitsWrong : ChangeSpec := { name := "arenaLimits", fn := fun _ => fun
  | [d1, d2, d3] => { results := [.lit (.bool false)], args := [d1, d2, d3] }
  | _ => none }
def ArenaLimitsWrongFalsely : Prop := arenaLimitsRow.holds Tryd.pinned (OpenSpec.ofChange arenaLimitsWrong)

/-- 'maquettelaw01.ArenaVariable': WHATEVER THE INPUT: true; the input reads as it did. -/
def arenaVariableSpec : ChangeSpec := { name := "arenaVariable", fn := fun _ => fun
  | [d1, d2] => { results := [.lit (.bool true)], args := [d1, d2] }
  | _ => none }
def arenaVariableRow : OpenClaim := { program := "ytbceacihkdmgkaadoor", sum := "e45b8250d19a45937529f4379d938ac2f82b2eb0222be54aa2669477db3660e6", func := "maquette/maquettelaw01.ArenaVariable", spec := "arenaVariable", inPlace := ["internal/reflectlite.ValueOf", "(internal/reflectlite.Value).Type", "(internal/reflectlite.Value).IsNil", "internal/reflectlite.TypeOf", "(internal/reflectlite.Value).Elem", "(internal/reflectlite.Value).Set"], unfollowed := true, recurses := true, named := ["errors.errorType"], plainKeys := false, apart := false, laid := [("errors.errorType", laid_errors_errorType)] }
def ArenaVariableSaid : Prop := arenaVariableRow.holds Tryd.pinned (OpenSpec.ofChange arenaVariableSpec)

/-- ITS FALSE NEIGHBOUR: 'it returns false'. Refute it at one input. -/
def arenaVariableWrong : ChangeSpec := { name := "arenaVariable", fn := fun _ => fun
  | [d1, d2] => { results := [.lit (.bool false)], args := [d1, d2] }
  | _ => none }
def ArenaVariableWrongFalsely : Prop := arenaVariableRow.holds Tryd.pinned (OpenSpec.ofChange arenaVariableWrong)

/-- 'maquettelaw04.TruthMay': WHATEVER THE INPUT: true; the input reads as it did. -/
def truthMaySpec : ChangeSpec := { name := "truthMay", fn := fun _ => fun
  | [d1, d2] => { results := [.lit (.bool true)], args := [d1, d2] }
  | _ => none }
def truthMayRow : OpenClaim := { program := "ytbceacihkdmgkaadoor", sum := "e45b8250d19a45937529f4379d938ac2f82b2eb0222be54aa2669477db3660e6", func := "maquette/maquettelaw04.TruthMay", spec := "truthMay", inPlace := ["internal/reflectlite.ValueOf", "(internal/reflectlite.Value).Type", "(internal/reflectlite.Value).IsNil", "internal/reflectlite.TypeOf", "(internal/reflectlite.Value).Elem", "(internal/reflectlite.Value).Set"], unfollowed := true, recurses := true, named := ["errors.errorType"], plainKeys := false, apart := false, laid := [("errors.errorType", laid_errors_errorType)] }
def TruthMaySaid : Prop := truthMayRow.holds Tryd.pinned (OpenSpec.ofChange truthMaySpec)

/-- ITS FALSE NEIGHBOUR: 'it returns false'. Refute it at one input. -/
def truthMayWrong : ChangeSpec := { name := "truthMay", fn := fun _ => fun
  | [d1, d2] => { results := [.lit (.bool false)], args := [d1, d2] }
  | _ => none }
def TruthMayWrongFalsely : Prop := truthMayRow.holds Tryd.pinned (OpenSpec.ofChange truthMayWrong)

/-- 'maquettelaw02.IteFull': WHATEVER THE INPUT: true; the input reads as it did. -/
def iteFullSpec : ChangeSpec := { name := "iteFull", fn := fun _ => fun
  | [d1, d2, d3] => { results := [.lit (.bool true)], args := [d1, d2, d3] }
  | _ => none }
def iteFullRow : OpenClaim := { program := "ytbceacihkdmgkaadoor", sum := "e45b8250d19a45937529f4379d938ac2f82b2eb0222be54aa2669477db3660e6", func := "maquette/maquettelaw02.IteFull", spec := "iteFull", inPlace := ["internal/reflectlite.ValueOf", "(internal/reflectlite.Value).Type", "(internal/reflectlite.Value).IsNil", "internal/reflectlite.TypeOf", "(internal/reflectlite.Value).Elem", "(internal/reflectlite.Value).Set"], unfollowed := true, recurses := true, named := ["errors.errorType"], plainKeys := false, apart := false, laid := [("errors.errorType", laid_errors_errorType)] }
def IteFullSaid : Prop := iteFullRow.holds Tryd.pinned (OpenSpec.ofChange iteFullSpec)

/-- ITS FALSE NEIGHBOUR: 'it returns false'. Refute it at one input. -/
def iteFullWrong : ChangeSpec := { name := "iteFull", fn := fun _ => fun
  | [d1, d2, d3] => { results := [.lit (.bool false)], args := [d1, d2, d3] }
  | _ => none }
def IteFullWrongFalsely : Prop := iteFullRow.holds Tryd.pinned (OpenSpec.ofChange iteFullWrong)

/-- 'maquettelaw03.ComposeNone': WHATEVER THE INPUT: true; the input reads as it did. -/
def composeNoneSpec : ChangeSpec := { name := "composeNone", fn := fun _ => fun
  | [d1, d2, d3] => { results := [.lit (.bool true)], args := [d1, d2, d3] }
  | _ => none }
def composeNoneRow : OpenClaim := { program := "ytbceacihkdmgkaadoor", sum := "e45b8250d19a45937529f4379d938ac2f82b2eb0222be54aa2669477db3660e6", func := "maquette/maquettelaw03.ComposeNone", spec := "composeNone", inPlace := ["internal/reflectlite.ValueOf", "(internal/reflectlite.Value).Type", "(internal/reflectlite.Value).IsNil", "internal/reflectlite.TypeOf", "(internal/reflectlite.Value).Elem", "(internal/reflectlite.Value).Set"], unfollowed := true, recurses := true, named := ["errors.errorType"], plainKeys := false, apart := false, laid := [("errors.errorType", laid_errors_errorType)] }
def ComposeNoneSaid : Prop := composeNoneRow.holds Tryd.pinned (OpenSpec.ofChange composeNoneSpec)

/-- ITS FALSE NEIGHBOUR: 'it returns false'. Refute it at one input. -/
def composeNoneWrong : ChangeSpec := { name := "composeNone", fn := fun _ => fun
  | [d1, d2, d3] => { results := [.lit (.bool false)], args := [d1, d2, d3] }
  | _ => none }
def ComposeNoneWrongFalsely : Prop := composeNoneRow.holds Tryd.pinned (OpenSpec.ofChange composeNoneWrong)

/- THE SECOND FORM. 'bulk': how many values and letters a reading holds, each counted each time it is reached (what is shared counts as often as it is met; a slice's spare places count too). A statement '..UptoSaid' is the law's where the arguments, and the package variables that the reading takes, are together of bulk at most 1048576: NARROWER than '..Said'. Prove '..Said' where nothing that the law and all that it calls make is longer than what came in: it says more and counts as full. Else prove '..UptoSaid'. A law counts once. -/
mutual
def uptoBulk {H : Type} : DataW H → Nat
  | .lit (.string bytes) => bytes.length + 1
  | .lit _ => 1
  | .nil => 1
  | .ptr d => uptoBulk d + 1
  | .slice elems spare => uptoBulkAll elems + uptoBulkAll spare + 1
  | .agg parts => uptoBulkAll parts + 1
  | .iface _ d => uptoBulk d + 1
  | .map entries => uptoBulkEntries entries + 1
  | .held _ => 1
def uptoBulkAll {H : Type} : List (DataW H) → Nat
  | [] => 0
  | d :: r => uptoBulk d + uptoBulkAll r
def uptoBulkEntries {H : Type} : List (Lit × DataW H) → Nat
  | [] => 0
  | x :: r => uptoBulkEntry x + uptoBulkEntries r
def uptoBulkEntry {H : Type} : Lit × DataW H → Nat
  | (.string bytes, d) => bytes.length + uptoBulk d + 1
  | (_, d) => uptoBulk d + 1
 end
def uptoSmall : (H : Type) → List (DataW H) → Bool := fun _ ds => decide (uptoBulkAll ds ≤ 1048576)
def OpenSpec.upto (s : _root_.Go.ChangeSpec) : _root_.Go.OpenSpec := { _root_.Go.OpenSpec.ofChange s with cond := some uptoSmall }

/-- 'maquettelaw01.ArenaScript', WHERE WHAT IT READS IS OF BULK AT MOST 1048576: true; the input reads as it did. -/
def arenaScriptUptoRow : OpenClaim := { program := "ytbceacihkdmgkaadoor", sum := "e45b8250d19a45937529f4379d938ac2f82b2eb0222be54aa2669477db3660e6", func := "maquette/maquettelaw01.ArenaScript", spec := "arenaScript", inPlace := ["internal/reflectlite.ValueOf", "(internal/reflectlite.Value).Type", "(internal/reflectlite.Value).IsNil", "internal/reflectlite.TypeOf", "(internal/reflectlite.Value).Elem", "(internal/reflectlite.Value).Set"], unfollowed := true, recurses := true, named := ["errors.errorType"], plainKeys := false, apart := false, laid := [("errors.errorType", laid_errors_errorType)], narrowed := true }
def ArenaScriptUptoSaid : Prop := arenaScriptUptoRow.holds Tryd.pinned (OpenSpec.upto arenaScriptSpec)

/-- 'maquettelaw01.ArenaLimits', WHERE WHAT IT READS IS OF BULK AT MOST 1048576: true; the input reads as it did. -/
def arenaLimitsUptoRow : OpenClaim := { program := "ytbceacihkdmgkaadoor", sum := "e45b8250d19a45937529f4379d938ac2f82b2eb0222be54aa2669477db3660e6", func := "maquette/maquettelaw01.ArenaLimits", spec := "arenaLimits", inPlace := ["internal/reflectlite.ValueOf", "(internal/reflectlite.Value).Type", "(internal/reflectlite.Value).IsNil", "internal/reflectlite.TypeOf", "(internal/reflectlite.Value).Elem", "(internal/reflectlite.Value).Set"], unfollowed := true, recurses := true, named := ["errors.errorType"], plainKeys := false, apart := false, laid := [("errors.errorType", laid_errors_errorType)], narrowed := true }
def ArenaLimitsUptoSaid : Prop := arenaLimitsUptoRow.holds Tryd.pinned (OpenSpec.upto arenaLimitsSpec)

/-- 'maquettelaw01.ArenaVariable', WHERE WHAT IT READS IS OF BULK AT MOST 1048576: true; the input reads as it did. -/
def arenaVariableUptoRow : OpenClaim := { program := "ytbceacihkdmgkaadoor", sum := "e45b8250d19a45937529f4379d938ac2f82b2eb0222be54aa2669477db3660e6", func := "maquette/maquettelaw01.ArenaVariable", spec := "arenaVariable", inPlace := ["internal/reflectlite.ValueOf", "(internal/reflectlite.Value).Type", "(internal/reflectlite.Value).IsNil", "internal/reflectlite.TypeOf", "(internal/reflectlite.Value).Elem", "(internal/reflectlite.Value).Set"], unfollowed := true, recurses := true, named := ["errors.errorType"], plainKeys := false, apart := false, laid := [("errors.errorType", laid_errors_errorType)], narrowed := true }
def ArenaVariableUptoSaid : Prop := arenaVariableUptoRow.holds Tryd.pinned (OpenSpec.upto arenaVariableSpec)

/-- 'maquettelaw04.TruthMay', WHERE WHAT IT READS IS OF BULK AT MOST 1048576: true; the input reads as it did. -/
def truthMayUptoRow : OpenClaim := { program := "ytbceacihkdmgkaadoor", sum := "e45b8250d19a45937529f4379d938ac2f82b2eb0222be54aa2669477db3660e6", func := "maquette/maquettelaw04.TruthMay", spec := "truthMay", inPlace := ["internal/reflectlite.ValueOf", "(internal/reflectlite.Value).Type", "(internal/reflectlite.Value).IsNil", "internal/reflectlite.TypeOf", "(internal/reflectlite.Value).Elem", "(internal/reflectlite.Value).Set"], unfollowed := true, recurses := true, named := ["errors.errorType"], plainKeys := false, apart := false, laid := [("errors.errorType", laid_errors_errorType)], narrowed := true }
def TruthMayUptoSaid : Prop := truthMayUptoRow.holds Tryd.pinned (OpenSpec.upto truthMaySpec)

/-- 'maquettelaw02.IteFull', WHERE WHAT IT READS IS OF BULK AT MOST 1048576: true; the input reads as it did. -/
def iteFullUptoRow : OpenClaim := { program := "ytbceacihkdmgkaadoor", sum := "e45b8250d19a45937529f4379d938ac2f82b2eb0222be54aa2669477db3660e6", func := "maquette/maquettelaw02.IteFull", spec := "iteFull", inPlace := ["internal/reflectlite.ValueOf", "(internal/reflectlite.Value).Type", "(internal/reflectlite.Value).IsNil", "internal/reflectlite.TypeOf", "(internal/reflectlite.Value).Elem", "(internal/reflectlite.Value).Set"], unfollowed := true, recurses := true, named := ["errors.errorType"], plainKeys := false, apart := false, laid := [("errors.errorType", laid_errors_errorType)], narrowed := true }
def IteFullUptoSaid : Prop := iteFullUptoRow.holds Tryd.pinned (OpenSpec.upto iteFullSpec)

/-- 'maquettelaw03.ComposeNone', WHERE WHAT IT READS IS OF BULK AT MOST 1048576: true; the input reads as it did. -/
def composeNoneUptoRow : OpenClaim := { program := "ytbceacihkdmgkaadoor", sum := "e45b8250d19a45937529f4379d938ac2f82b2eb0222be54aa2669477db3660e6", func := "maquette/maquettelaw03.ComposeNone", spec := "composeNone", inPlace := ["internal/reflectlite.ValueOf", "(internal/reflectlite.Value).Type", "(internal/reflectlite.Value).IsNil", "internal/reflectlite.TypeOf", "(internal/reflectlite.Value).Elem", "(internal/reflectlite.Value).Set"], unfollowed := true, recurses := true, named := ["errors.errorType"], plainKeys := false, apart := false, laid := [("errors.errorType", laid_errors_errorType)], narrowed := true }
def ComposeNoneUptoSaid : Prop := composeNoneUptoRow.holds Tryd.pinned (OpenSpec.upto composeNoneSpec)

end Rows
end Go.Proofs.YtbceacihkdmgkaaDoor
