/-
  DERIVED. GIVEN WITH THE SEED: THE CARDS: each row of YtbceacihkdmgkaaDoorRows.lean that lists a variable, with what it lists TIED to the program's text (the seventh form; the later family's looks); each row that meets fmt, with fmt's text TOLD by the authors' own Lean function (tested against real Go, not proved from fmt's source: count such statements apart). THE CARD IS WHAT COUNTS. Prove the row's statement (the work); the ties are given (YtbceacihkdmgkaaDoorTie.lean); close each card by the builder's one call (the guide's Derived/Test/ToyasCard.lean, 'card_holds'). Laid BY PROGRAM, IN A SANDBOX (cutbox-door.mjs). By AI agents, Wed Nov 11 2026. No macro, syntax, notation, axiom, sorry.
-/
import Derived.Test.YtbceacihkdmgkaaDoorRows
import GoSem.ClaimSeven
namespace Go.Proofs.YtbceacihkdmgkaaDoor
namespace Rows

/-- THE TIED CARD OF 'maquettelaw01.ArenaScript'. -/
def arenaScriptCard : Claim7 := { stood := { row := arenaScriptRow, standIns := [], harness := (true, "f8dc1387ddbed4435cb581dccdf7cd414abc87bdf5613d9ed61b05b9f879da6c"), looks := true }, kinds := [], alts := [], laidByText := true, laidKinds := [.handle], laidTests := true, laidLooks := .later }
def ArenaScriptCardSaid : Prop := Claim7.holds Tryd.pinned (.plain (OpenSpec.ofChange arenaScriptSpec)) arenaScriptCard

/-- THE TIED CARD OF 'maquettelaw01.ArenaLimits'. -/
def arenaLimitsCard : Claim7 := { stood := { row := arenaLimitsRow, standIns := [], harness := (true, "f8dc1387ddbed4435cb581dccdf7cd414abc87bdf5613d9ed61b05b9f879da6c"), looks := true }, kinds := [], alts := [], laidByText := true, laidKinds := [.handle], laidTests := true, laidLooks := .later }
def ArenaLimitsCardSaid : Prop := Claim7.holds Tryd.pinned (.plain (OpenSpec.ofChange arenaLimitsSpec)) arenaLimitsCard

/-- THE TIED CARD OF 'maquettelaw01.ArenaVariable'. -/
def arenaVariableCard : Claim7 := { stood := { row := arenaVariableRow, standIns := [], harness := (true, "f8dc1387ddbed4435cb581dccdf7cd414abc87bdf5613d9ed61b05b9f879da6c"), looks := true }, kinds := [], alts := [], laidByText := true, laidKinds := [.handle], laidTests := true, laidLooks := .later }
def ArenaVariableCardSaid : Prop := Claim7.holds Tryd.pinned (.plain (OpenSpec.ofChange arenaVariableSpec)) arenaVariableCard

/-- THE TIED CARD OF 'maquettelaw04.TruthMay'. -/
def truthMayCard : Claim7 := { stood := { row := truthMayRow, standIns := [], harness := (true, "f8dc1387ddbed4435cb581dccdf7cd414abc87bdf5613d9ed61b05b9f879da6c"), looks := true }, kinds := [], alts := [], laidByText := true, laidKinds := [.handle], laidTests := true, laidLooks := .later }
def TruthMayCardSaid : Prop := Claim7.holds Tryd.pinned (.plain (OpenSpec.ofChange truthMaySpec)) truthMayCard

/-- THE TIED CARD OF 'maquettelaw02.IteFull'. -/
def iteFullCard : Claim7 := { stood := { row := iteFullRow, standIns := [], harness := (true, "f8dc1387ddbed4435cb581dccdf7cd414abc87bdf5613d9ed61b05b9f879da6c"), looks := true }, kinds := [], alts := [], laidByText := true, laidKinds := [.handle], laidTests := true, laidLooks := .later }
def IteFullCardSaid : Prop := Claim7.holds Tryd.pinned (.plain (OpenSpec.ofChange iteFullSpec)) iteFullCard

/-- THE TIED CARD OF 'maquettelaw03.ComposeNone'. -/
def composeNoneCard : Claim7 := { stood := { row := composeNoneRow, standIns := [], harness := (true, "f8dc1387ddbed4435cb581dccdf7cd414abc87bdf5613d9ed61b05b9f879da6c"), looks := true }, kinds := [], alts := [], laidByText := true, laidKinds := [.handle], laidTests := true, laidLooks := .later }
def ComposeNoneCardSaid : Prop := Claim7.holds Tryd.pinned (.plain (OpenSpec.ofChange composeNoneSpec)) composeNoneCard

/-- THE SECOND FORM's CARD OF 'maquettelaw01.ArenaScript'. -/
def arenaScriptUptoCard : Claim7 := { stood := { row := arenaScriptUptoRow, standIns := [], harness := (true, "f8dc1387ddbed4435cb581dccdf7cd414abc87bdf5613d9ed61b05b9f879da6c"), looks := true }, kinds := [], alts := [], laidByText := true, laidKinds := [.handle], laidTests := true, laidLooks := .later }
def ArenaScriptUptoCardSaid : Prop := Claim7.holds Tryd.pinned (.plain (OpenSpec.upto arenaScriptSpec)) arenaScriptUptoCard

/-- THE SECOND FORM's CARD OF 'maquettelaw01.ArenaLimits'. -/
def arenaLimitsUptoCard : Claim7 := { stood := { row := arenaLimitsUptoRow, standIns := [], harness := (true, "f8dc1387ddbed4435cb581dccdf7cd414abc87bdf5613d9ed61b05b9f879da6c"), looks := true }, kinds := [], alts := [], laidByText := true, laidKinds := [.handle], laidTests := true, laidLooks := .later }
def ArenaLimitsUptoCardSaid : Prop := Claim7.holds Tryd.pinned (.plain (OpenSpec.upto arenaLimitsSpec)) arenaLimitsUptoCard

/-- THE SECOND FORM's CARD OF 'maquettelaw01.ArenaVariable'. -/
def arenaVariableUptoCard : Claim7 := { stood := { row := arenaVariableUptoRow, standIns := [], harness := (true, "f8dc1387ddbed4435cb581dccdf7cd414abc87bdf5613d9ed61b05b9f879da6c"), looks := true }, kinds := [], alts := [], laidByText := true, laidKinds := [.handle], laidTests := true, laidLooks := .later }
def ArenaVariableUptoCardSaid : Prop := Claim7.holds Tryd.pinned (.plain (OpenSpec.upto arenaVariableSpec)) arenaVariableUptoCard

/-- THE SECOND FORM's CARD OF 'maquettelaw04.TruthMay'. -/
def truthMayUptoCard : Claim7 := { stood := { row := truthMayUptoRow, standIns := [], harness := (true, "f8dc1387ddbed4435cb581dccdf7cd414abc87bdf5613d9ed61b05b9f879da6c"), looks := true }, kinds := [], alts := [], laidByText := true, laidKinds := [.handle], laidTests := true, laidLooks := .later }
def TruthMayUptoCardSaid : Prop := Claim7.holds Tryd.pinned (.plain (OpenSpec.upto truthMaySpec)) truthMayUptoCard

/-- THE SECOND FORM's CARD OF 'maquettelaw02.IteFull'. -/
def iteFullUptoCard : Claim7 := { stood := { row := iteFullUptoRow, standIns := [], harness := (true, "f8dc1387ddbed4435cb581dccdf7cd414abc87bdf5613d9ed61b05b9f879da6c"), looks := true }, kinds := [], alts := [], laidByText := true, laidKinds := [.handle], laidTests := true, laidLooks := .later }
def IteFullUptoCardSaid : Prop := Claim7.holds Tryd.pinned (.plain (OpenSpec.upto iteFullSpec)) iteFullUptoCard

/-- THE SECOND FORM's CARD OF 'maquettelaw03.ComposeNone'. -/
def composeNoneUptoCard : Claim7 := { stood := { row := composeNoneUptoRow, standIns := [], harness := (true, "f8dc1387ddbed4435cb581dccdf7cd414abc87bdf5613d9ed61b05b9f879da6c"), looks := true }, kinds := [], alts := [], laidByText := true, laidKinds := [.handle], laidTests := true, laidLooks := .later }
def ComposeNoneUptoCardSaid : Prop := Claim7.holds Tryd.pinned (.plain (OpenSpec.upto composeNoneSpec)) composeNoneUptoCard
end Rows
end Go.Proofs.YtbceacihkdmgkaaDoor
