/-
  NARROWER THAN 'FOR EVERY INPUT', by the rows' own cells (each row's printed sentence says how): CheckRight: laid · CheckTurned: laid · CheckAny: laid · CheckPeer: laid · CheckLess: laid.
  DERIVED. THE GIVEN ROWS OF THIS SEAT. 5 by the template 'for every input the law returns true; each argument reads behind the call as it read before'; 0 by the template 'total and deterministic' (their statements: YteciceelinbfoaaDoorTotals.lean).
  GIVEN WITH THE SEED: the statements are not yours to turn. If you find one false, say at which input.
  Laid BY PROGRAM, IN A SANDBOX (cutbox-rows.mjs): the forced cells as the released guide's own fill.sh prints them over the translation 7c95832a69d304cd… (all of the seat's roots in one cut). By AI agents, Wed Nov 11 2026. No macro, syntax, notation, axiom, sorry.
-/
import Derived.Test.YteciceelinbfoaaDoorChecked
import GoSem.Claim
import GoSem.ClaimJoined
import GoSem.ClaimMapViews
import Derived.JoinedTies
import Derived.KernelRfl
namespace Go.Proofs.YteciceelinbfoaaDoor
/- THE CELL 'sum', in the pinned program and in every row, IS THE sha256 OF THE DUMP (.gsa) THAT YteciceelinbfoaaDoorProg.lean LOADS. Nothing in Lean hashes anything: it is a label: what it is worth is what the hold of that sum in a sandbox is worth. -/
noncomputable def Tryd.pinned : Pinned := { name := "yteciceelinbfoaadoor", sum := "7c95832a69d304cd2fa2f8672312c5ff5160d3a4dc051aa60c29066a86cca553", checked := Tryd.checked }
namespace Rows
def none {H : Type} : Left H := { results := [], args := [] }

/- WHAT THE LISTED PACKAGE-LEVEL VARIABLES READ AS WHEN THE CALL BEGINS. Each datum BY PROGRAM (the guide's laid-datum.mjs) off the statement by which the dump's own 'gosem.cut.vars' lays the variable. In a bare row this is a premise. The card (YteciceelinbfoaaDoorCards.lean) ties it to the program's text. -/
def laid_errors_errorType {H : Type} : DataW H := .iface "internal/reflectlite.rtype" (.agg [.ptr (.lit (.string [101, 114, 114, 111, 114]))])

/-- 'maquettelaw09.CheckRight': WHATEVER THE INPUT: true; the input reads as it did. -/
def checkRightSpec : ChangeSpec := { name := "checkRight", fn := fun _ => fun
  | [d] => { results := [.lit (.bool true)], args := [d] }
  | _ => none }
def checkRightRow : OpenClaim := { program := "yteciceelinbfoaadoor", sum := "7c95832a69d304cd2fa2f8672312c5ff5160d3a4dc051aa60c29066a86cca553", func := "maquette/maquettelaw09.CheckRight", spec := "checkRight", inPlace := ["internal/reflectlite.ValueOf", "(internal/reflectlite.Value).Type", "(internal/reflectlite.Value).IsNil", "internal/reflectlite.TypeOf", "(internal/reflectlite.Value).Elem", "(internal/reflectlite.Value).Set"], unfollowed := true, recurses := true, named := ["errors.errorType"], plainKeys := false, apart := false, laid := [("errors.errorType", laid_errors_errorType)] }
def CheckRightSaid : Prop := checkRightRow.holds Tryd.pinned (OpenSpec.ofChange checkRightSpec)

/-- ITS FALSE NEIGHBOUR: 'it returns false'. Refute it at one input. -/
def checkRightWrong : ChangeSpec := { name := "checkRight", fn := fun _ => fun
  | [d] => { results := [.lit (.bool false)], args := [d] }
  | _ => none }
def CheckRightWrongFalsely : Prop := checkRightRow.holds Tryd.pinned (OpenSpec.ofChange checkRightWrong)

/-- 'maquettelaw09.CheckTurned': WHATEVER THE INPUT: true; the input reads as it did. -/
def checkTurnedSpec : ChangeSpec := { name := "checkTurned", fn := fun _ => fun
  | [d1, d2, d3, d4, d5] => { results := [.lit (.bool true)], args := [d1, d2, d3, d4, d5] }
  | _ => none }
def checkTurnedRow : OpenClaim := { program := "yteciceelinbfoaadoor", sum := "7c95832a69d304cd2fa2f8672312c5ff5160d3a4dc051aa60c29066a86cca553", func := "maquette/maquettelaw09.CheckTurned", spec := "checkTurned", inPlace := ["internal/reflectlite.ValueOf", "(internal/reflectlite.Value).Type", "(internal/reflectlite.Value).IsNil", "internal/reflectlite.TypeOf", "(internal/reflectlite.Value).Elem", "(internal/reflectlite.Value).Set"], unfollowed := true, recurses := true, named := ["errors.errorType"], plainKeys := false, apart := false, laid := [("errors.errorType", laid_errors_errorType)] }
def CheckTurnedSaid : Prop := checkTurnedRow.holds Tryd.pinned (OpenSpec.ofChange checkTurnedSpec)

/-- ITS FALSE NEIGHBOUR: 'it returns false'. Refute it at one input. -/
def checkTurnedWrong : ChangeSpec := { name := "checkTurned", fn := fun _ => fun
  | [d1, d2, d3, d4, d5] => { results := [.lit (.bool false)], args := [d1, d2, d3, d4, d5] }
  | _ => none }
def CheckTurnedWrongFalsely : Prop := checkTurnedRow.holds Tryd.pinned (OpenSpec.ofChange checkTurnedWrong)

/-- 'maquettelaw09.CheckAny': WHATEVER THE INPUT: true; the input reads as it did. -/
def checkAnySpec : ChangeSpec := { name := "checkAny", fn := fun _ => fun
  | [d] => { results := [.lit (.bool true)], args := [d] }
  | _ => none }
def checkAnyRow : OpenClaim := { program := "yteciceelinbfoaadoor", sum := "7c95832a69d304cd2fa2f8672312c5ff5160d3a4dc051aa60c29066a86cca553", func := "maquette/maquettelaw09.CheckAny", spec := "checkAny", inPlace := ["internal/reflectlite.ValueOf", "(internal/reflectlite.Value).Type", "(internal/reflectlite.Value).IsNil", "internal/reflectlite.TypeOf", "(internal/reflectlite.Value).Elem", "(internal/reflectlite.Value).Set"], unfollowed := true, recurses := true, named := ["errors.errorType"], plainKeys := false, apart := false, laid := [("errors.errorType", laid_errors_errorType)] }
def CheckAnySaid : Prop := checkAnyRow.holds Tryd.pinned (OpenSpec.ofChange checkAnySpec)

/-- ITS FALSE NEIGHBOUR: 'it returns false'. Refute it at one input. -/
def checkAnyWrong : ChangeSpec := { name := "checkAny", fn := fun _ => fun
  | [d] => { results := [.lit (.bool false)], args := [d] }
  | _ => none }
def CheckAnyWrongFalsely : Prop := checkAnyRow.holds Tryd.pinned (OpenSpec.ofChange checkAnyWrong)

/-- 'maquettelaw09.CheckPeer': WHATEVER THE INPUT: true; the input reads as it did. -/
def checkPeerSpec : ChangeSpec := { name := "checkPeer", fn := fun _ => fun
  | [d1, d2, d3, d4] => { results := [.lit (.bool true)], args := [d1, d2, d3, d4] }
  | _ => none }
def checkPeerRow : OpenClaim := { program := "yteciceelinbfoaadoor", sum := "7c95832a69d304cd2fa2f8672312c5ff5160d3a4dc051aa60c29066a86cca553", func := "maquette/maquettelaw09.CheckPeer", spec := "checkPeer", inPlace := ["internal/reflectlite.ValueOf", "(internal/reflectlite.Value).Type", "(internal/reflectlite.Value).IsNil", "internal/reflectlite.TypeOf", "(internal/reflectlite.Value).Elem", "(internal/reflectlite.Value).Set"], unfollowed := true, recurses := true, named := ["errors.errorType"], plainKeys := false, apart := false, laid := [("errors.errorType", laid_errors_errorType)] }
def CheckPeerSaid : Prop := checkPeerRow.holds Tryd.pinned (OpenSpec.ofChange checkPeerSpec)

/-- ITS FALSE NEIGHBOUR: 'it returns false'. Refute it at one input. -/
def checkPeerWrong : ChangeSpec := { name := "checkPeer", fn := fun _ => fun
  | [d1, d2, d3, d4] => { results := [.lit (.bool false)], args := [d1, d2, d3, d4] }
  | _ => none }
def CheckPeerWrongFalsely : Prop := checkPeerRow.holds Tryd.pinned (OpenSpec.ofChange checkPeerWrong)

/-- 'maquettelaw09.CheckLess': WHATEVER THE INPUT: true; the input reads as it did. -/
def checkLessSpec : ChangeSpec := { name := "checkLess", fn := fun _ => fun
  | [d1, d2] => { results := [.lit (.bool true)], args := [d1, d2] }
  | _ => none }
def checkLessRow : OpenClaim := { program := "yteciceelinbfoaadoor", sum := "7c95832a69d304cd2fa2f8672312c5ff5160d3a4dc051aa60c29066a86cca553", func := "maquette/maquettelaw09.CheckLess", spec := "checkLess", inPlace := ["internal/reflectlite.ValueOf", "(internal/reflectlite.Value).Type", "(internal/reflectlite.Value).IsNil", "internal/reflectlite.TypeOf", "(internal/reflectlite.Value).Elem", "(internal/reflectlite.Value).Set"], unfollowed := true, recurses := true, named := ["errors.errorType"], plainKeys := false, apart := false, laid := [("errors.errorType", laid_errors_errorType)] }
def CheckLessSaid : Prop := checkLessRow.holds Tryd.pinned (OpenSpec.ofChange checkLessSpec)

/-- ITS FALSE NEIGHBOUR: 'it returns false'. Refute it at one input. -/
def checkLessWrong : ChangeSpec := { name := "checkLess", fn := fun _ => fun
  | [d1, d2] => { results := [.lit (.bool false)], args := [d1, d2] }
  | _ => none }
def CheckLessWrongFalsely : Prop := checkLessRow.holds Tryd.pinned (OpenSpec.ofChange checkLessWrong)

/- THE SECOND FORM. 'bulk': how many values and letters a reading holds, each counted each time it is reached (what is shared counts as often as it is met; a slice's spare places count too). A statement '..UptoSaid' is the law's where the arguments, and the package variables that the reading takes, are together of bulk at most 1048576: NARROWER than '..Said'. Prove '..Said' where nothing that the law and all that it calls make is longer than what came in: it says more and counts as full. Else prove '..UptoSaid'. A law counts once. -/
mutual
def uptoBulk {H : Type} : DataW H → Nat
  | .lit (.string bytes) => bytes.length + 1
  | .lit _ => 1
  | .nil => 1
  | .ptr d => uptoBulk d + 1
  | .slice elems spare => uptoBulkAll elems + uptoBulkAll spare + 1
  | .agg parts => uptoBulkAll parts + 1
  | .iface _ d => uptoBulk d + 1
  | .map entries => uptoBulkEntries entries + 1
  | .held _ => 1
def uptoBulkAll {H : Type} : List (DataW H) → Nat
  | [] => 0
  | d :: r => uptoBulk d + uptoBulkAll r
def uptoBulkEntries {H : Type} : List (Lit × DataW H) → Nat
  | [] => 0
  | x :: r => uptoBulkEntry x + uptoBulkEntries r
def uptoBulkEntry {H : Type} : Lit × DataW H → Nat
  | (.string bytes, d) => bytes.length + uptoBulk d + 1
  | (_, d) => uptoBulk d + 1
 end
def uptoSmall : (H : Type) → List (DataW H) → Bool := fun _ ds => decide (uptoBulkAll ds ≤ 1048576)
def OpenSpec.upto (s : _root_.Go.ChangeSpec) : _root_.Go.OpenSpec := { _root_.Go.OpenSpec.ofChange s with cond := some uptoSmall }

/-- 'maquettelaw09.CheckRight', WHERE WHAT IT READS IS OF BULK AT MOST 1048576: true; the input reads as it did. -/
def checkRightUptoRow : OpenClaim := { program := "yteciceelinbfoaadoor", sum := "7c95832a69d304cd2fa2f8672312c5ff5160d3a4dc051aa60c29066a86cca553", func := "maquette/maquettelaw09.CheckRight", spec := "checkRight", inPlace := ["internal/reflectlite.ValueOf", "(internal/reflectlite.Value).Type", "(internal/reflectlite.Value).IsNil", "internal/reflectlite.TypeOf", "(internal/reflectlite.Value).Elem", "(internal/reflectlite.Value).Set"], unfollowed := true, recurses := true, named := ["errors.errorType"], plainKeys := false, apart := false, laid := [("errors.errorType", laid_errors_errorType)], narrowed := true }
def CheckRightUptoSaid : Prop := checkRightUptoRow.holds Tryd.pinned (OpenSpec.upto checkRightSpec)

/-- 'maquettelaw09.CheckTurned', WHERE WHAT IT READS IS OF BULK AT MOST 1048576: true; the input reads as it did. -/
def checkTurnedUptoRow : OpenClaim := { program := "yteciceelinbfoaadoor", sum := "7c95832a69d304cd2fa2f8672312c5ff5160d3a4dc051aa60c29066a86cca553", func := "maquette/maquettelaw09.CheckTurned", spec := "checkTurned", inPlace := ["internal/reflectlite.ValueOf", "(internal/reflectlite.Value).Type", "(internal/reflectlite.Value).IsNil", "internal/reflectlite.TypeOf", "(internal/reflectlite.Value).Elem", "(internal/reflectlite.Value).Set"], unfollowed := true, recurses := true, named := ["errors.errorType"], plainKeys := false, apart := false, laid := [("errors.errorType", laid_errors_errorType)], narrowed := true }
def CheckTurnedUptoSaid : Prop := checkTurnedUptoRow.holds Tryd.pinned (OpenSpec.upto checkTurnedSpec)

/-- 'maquettelaw09.CheckAny', WHERE WHAT IT READS IS OF BULK AT MOST 1048576: true; the input reads as it did. -/
def checkAnyUptoRow : OpenClaim := { program := "yteciceelinbfoaadoor", sum := "7c95832a69d304cd2fa2f8672312c5ff5160d3a4dc051aa60c29066a86cca553", func := "maquette/maquettelaw09.CheckAny", spec := "checkAny", inPlace := ["internal/reflectlite.ValueOf", "(internal/reflectlite.Value).Type", "(internal/reflectlite.Value).IsNil", "internal/reflectlite.TypeOf", "(internal/reflectlite.Value).Elem", "(internal/reflectlite.Value).Set"], unfollowed := true, recurses := true, named := ["errors.errorType"], plainKeys := false, apart := false, laid := [("errors.errorType", laid_errors_errorType)], narrowed := true }
def CheckAnyUptoSaid : Prop := checkAnyUptoRow.holds Tryd.pinned (OpenSpec.upto checkAnySpec)

/-- 'maquettelaw09.CheckPeer', WHERE WHAT IT READS IS OF BULK AT MOST 1048576: true; the input reads as it did. -/
def checkPeerUptoRow : OpenClaim := { program := "yteciceelinbfoaadoor", sum := "7c95832a69d304cd2fa2f8672312c5ff5160d3a4dc051aa60c29066a86cca553", func := "maquette/maquettelaw09.CheckPeer", spec := "checkPeer", inPlace := ["internal/reflectlite.ValueOf", "(internal/reflectlite.Value).Type", "(internal/reflectlite.Value).IsNil", "internal/reflectlite.TypeOf", "(internal/reflectlite.Value).Elem", "(internal/reflectlite.Value).Set"], unfollowed := true, recurses := true, named := ["errors.errorType"], plainKeys := false, apart := false, laid := [("errors.errorType", laid_errors_errorType)], narrowed := true }
def CheckPeerUptoSaid : Prop := checkPeerUptoRow.holds Tryd.pinned (OpenSpec.upto checkPeerSpec)

/-- 'maquettelaw09.CheckLess', WHERE WHAT IT READS IS OF BULK AT MOST 1048576: true; the input reads as it did. -/
def checkLessUptoRow : OpenClaim := { program := "yteciceelinbfoaadoor", sum := "7c95832a69d304cd2fa2f8672312c5ff5160d3a4dc051aa60c29066a86cca553", func := "maquette/maquettelaw09.CheckLess", spec := "checkLess", inPlace := ["internal/reflectlite.ValueOf", "(internal/reflectlite.Value).Type", "(internal/reflectlite.Value).IsNil", "internal/reflectlite.TypeOf", "(internal/reflectlite.Value).Elem", "(internal/reflectlite.Value).Set"], unfollowed := true, recurses := true, named := ["errors.errorType"], plainKeys := false, apart := false, laid := [("errors.errorType", laid_errors_errorType)], narrowed := true }
def CheckLessUptoSaid : Prop := checkLessUptoRow.holds Tryd.pinned (OpenSpec.upto checkLessSpec)

end Rows
end Go.Proofs.YteciceelinbfoaaDoor
