/-
  DERIVED. GIVEN WITH THE SEED: THE CARDS: each row of YteciceelinbfoaaDoorRows.lean that lists a variable, with what it lists TIED to the program's text (the seventh form; the later family's looks); each row that meets fmt, with fmt's text TOLD by the authors' own Lean function (tested against real Go, not proved from fmt's source: count such statements apart). THE CARD IS WHAT COUNTS. Prove the row's statement (the work); the ties are given (YteciceelinbfoaaDoorTie.lean); close each card by the builder's one call (the guide's Derived/Test/ToyasCard.lean, 'card_holds'). Laid BY PROGRAM, IN A SANDBOX (cutbox-door.mjs). By AI agents, Wed Nov 11 2026. No macro, syntax, notation, axiom, sorry.
-/
import Derived.Test.YteciceelinbfoaaDoorRows
import GoSem.ClaimSeven
namespace Go.Proofs.YteciceelinbfoaaDoor
namespace Rows

/-- THE TIED CARD OF 'maquettelaw09.CheckRight'. -/
def checkRightCard : Claim7 := { stood := { row := checkRightRow, standIns := [], harness := (true, "601637326226084943ab3dd803e331349a98fb75a4614279f8b9626a11aebfa8"), looks := true }, kinds := [], alts := [], laidByText := true, laidKinds := [.handle], laidTests := true, laidLooks := .later }
def CheckRightCardSaid : Prop := Claim7.holds Tryd.pinned (.plain (OpenSpec.ofChange checkRightSpec)) checkRightCard

/-- THE TIED CARD OF 'maquettelaw09.CheckTurned'. -/
def checkTurnedCard : Claim7 := { stood := { row := checkTurnedRow, standIns := [], harness := (true, "601637326226084943ab3dd803e331349a98fb75a4614279f8b9626a11aebfa8"), looks := true }, kinds := [], alts := [], laidByText := true, laidKinds := [.handle], laidTests := true, laidLooks := .later }
def CheckTurnedCardSaid : Prop := Claim7.holds Tryd.pinned (.plain (OpenSpec.ofChange checkTurnedSpec)) checkTurnedCard

/-- THE TIED CARD OF 'maquettelaw09.CheckAny'. -/
def checkAnyCard : Claim7 := { stood := { row := checkAnyRow, standIns := [], harness := (true, "601637326226084943ab3dd803e331349a98fb75a4614279f8b9626a11aebfa8"), looks := true }, kinds := [], alts := [], laidByText := true, laidKinds := [.handle], laidTests := true, laidLooks := .later }
def CheckAnyCardSaid : Prop := Claim7.holds Tryd.pinned (.plain (OpenSpec.ofChange checkAnySpec)) checkAnyCard

/-- THE TIED CARD OF 'maquettelaw09.CheckPeer'. -/
def checkPeerCard : Claim7 := { stood := { row := checkPeerRow, standIns := [], harness := (true, "601637326226084943ab3dd803e331349a98fb75a4614279f8b9626a11aebfa8"), looks := true }, kinds := [], alts := [], laidByText := true, laidKinds := [.handle], laidTests := true, laidLooks := .later }
def CheckPeerCardSaid : Prop := Claim7.holds Tryd.pinned (.plain (OpenSpec.ofChange checkPeerSpec)) checkPeerCard

/-- THE TIED CARD OF 'maquettelaw09.CheckLess'. -/
def checkLessCard : Claim7 := { stood := { row := checkLessRow, standIns := [], harness := (true, "601637326226084943ab3dd803e331349a98fb75a4614279f8b9626a11aebfa8"), looks := true }, kinds := [], alts := [], laidByText := true, laidKinds := [.handle], laidTests := true, laidLooks := .later }
def CheckLessCardSaid : Prop := Claim7.holds Tryd.pinned (.plain (OpenSpec.ofChange checkLessSpec)) checkLessCard

/-- THE SECOND FORM's CARD OF 'maquettelaw09.CheckRight'. -/
def checkRightUptoCard : Claim7 := { stood := { row := checkRightUptoRow, standIns := [], harness := (true, "601637326226084943ab3dd803e331349a98fb75a4614279f8b9626a11aebfa8"), looks := true }, kinds := [], alts := [], laidByText := true, laidKinds := [.handle], laidTests := true, laidLooks := .later }
def CheckRightUptoCardSaid : Prop := Claim7.holds Tryd.pinned (.plain (OpenSpec.upto checkRightSpec)) checkRightUptoCard

/-- THE SECOND FORM's CARD OF 'maquettelaw09.CheckTurned'. -/
def checkTurnedUptoCard : Claim7 := { stood := { row := checkTurnedUptoRow, standIns := [], harness := (true, "601637326226084943ab3dd803e331349a98fb75a4614279f8b9626a11aebfa8"), looks := true }, kinds := [], alts := [], laidByText := true, laidKinds := [.handle], laidTests := true, laidLooks := .later }
def CheckTurnedUptoCardSaid : Prop := Claim7.holds Tryd.pinned (.plain (OpenSpec.upto checkTurnedSpec)) checkTurnedUptoCard

/-- THE SECOND FORM's CARD OF 'maquettelaw09.CheckAny'. -/
def checkAnyUptoCard : Claim7 := { stood := { row := checkAnyUptoRow, standIns := [], harness := (true, "601637326226084943ab3dd803e331349a98fb75a4614279f8b9626a11aebfa8"), looks := true }, kinds := [], alts := [], laidByText := true, laidKinds := [.handle], laidTests := true, laidLooks := .later }
def CheckAnyUptoCardSaid : Prop := Claim7.holds Tryd.pinned (.plain (OpenSpec.upto checkAnySpec)) checkAnyUptoCard

/-- THE SECOND FORM's CARD OF 'maquettelaw09.CheckPeer'. -/
def checkPeerUptoCard : Claim7 := { stood := { row := checkPeerUptoRow, standIns := [], harness := (true, "601637326226084943ab3dd803e331349a98fb75a4614279f8b9626a11aebfa8"), looks := true }, kinds := [], alts := [], laidByText := true, laidKinds := [.handle], laidTests := true, laidLooks := .later }
def CheckPeerUptoCardSaid : Prop := Claim7.holds Tryd.pinned (.plain (OpenSpec.upto checkPeerSpec)) checkPeerUptoCard

/-- THE SECOND FORM's CARD OF 'maquettelaw09.CheckLess'. -/
def checkLessUptoCard : Claim7 := { stood := { row := checkLessUptoRow, standIns := [], harness := (true, "601637326226084943ab3dd803e331349a98fb75a4614279f8b9626a11aebfa8"), looks := true }, kinds := [], alts := [], laidByText := true, laidKinds := [.handle], laidTests := true, laidLooks := .later }
def CheckLessUptoCardSaid : Prop := Claim7.holds Tryd.pinned (.plain (OpenSpec.upto checkLessSpec)) checkLessUptoCard
end Rows
end Go.Proofs.YteciceelinbfoaaDoor
