/-
  DERIVED. GIVEN WITH THE SEED: THE CARDS: each row of YtimlfmklbfgliaaDoorRows.lean that lists a variable, with what it lists TIED to the program's text (the seventh form; the later family's looks); each row that meets fmt, with fmt's text TOLD by the authors' own Lean function (tested against real Go, not proved from fmt's source: count such statements apart). THE CARD IS WHAT COUNTS. Prove the row's statement (the work); the ties are given (YtimlfmklbfgliaaDoorTie.lean); close each card by the builder's one call (the guide's Derived/Test/ToyasCard.lean, 'card_holds'). Laid BY PROGRAM, IN A SANDBOX (cutbox-door.mjs). By AI agents, Wed Nov 11 2026. No macro, syntax, notation, axiom, sorry.
-/
import Derived.Test.YtimlfmklbfgliaaDoorRows
import GoSem.ClaimSeven
namespace Go.Proofs.YtimlfmklbfgliaaDoor
namespace Rows

/-- THE TIED CARD OF 'maquettelaw14.CompileFull'. -/
def compileFullCard : Claim7 := { stood := { row := compileFullRow, standIns := [], harness := (true, "ce0399d7cbf5d35b9eaeb2b5cb1c71d29cee76ebac58cdae52f922882b0ba7e6"), looks := true }, kinds := [], alts := [], laidByText := true, laidKinds := [.handle], laidTests := true, laidLooks := .later }
def CompileFullCardSaid : Prop := Claim7.holds Tryd.pinned (.plain (OpenSpec.ofChange compileFullSpec)) compileFullCard

/-- THE SECOND FORM's CARD OF 'maquettelaw14.CompileFull'. -/
def compileFullUptoCard : Claim7 := { stood := { row := compileFullUptoRow, standIns := [], harness := (true, "ce0399d7cbf5d35b9eaeb2b5cb1c71d29cee76ebac58cdae52f922882b0ba7e6"), looks := true }, kinds := [], alts := [], laidByText := true, laidKinds := [.handle], laidTests := true, laidLooks := .later }
def CompileFullUptoCardSaid : Prop := Claim7.holds Tryd.pinned (.plain (OpenSpec.upto compileFullSpec)) compileFullUptoCard
end Rows
end Go.Proofs.YtimlfmklbfgliaaDoor
