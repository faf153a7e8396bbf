/-
  DERIVED. GIVEN WITH THE SEED: THE CARDS: each row of YtjinbhnpcdlkiaaGreatDoorRows.lean that lists a variable, with what it lists TIED to the program's text (the seventh form; the later family's looks); each row that meets fmt, with fmt's text TOLD by the authors' own Lean function (tested against real Go, not proved from fmt's source: count such statements apart). THE CARD IS WHAT COUNTS. Prove the row's statement (the work); the ties are given (YtjinbhnpcdlkiaaGreatDoorTie.lean); close each card by the builder's one call (the guide's Derived/Test/ToyasCard.lean, 'card_holds'). Laid BY PROGRAM, IN A SANDBOX (cutbox-door.mjs). By AI agents, Wed Nov 11 2026. No macro, syntax, notation, axiom, sorry.
-/
import Derived.Test.YtjinbhnpcdlkiaaGreatDoorRows
import GoSem.ClaimSeven
namespace Go.Proofs.YtjinbhnpcdlkiaaGreatDoor
namespace Rows

/-- THE TIED CARD OF 'abacistlaw13.ConfigChecks'. -/
def configChecksCard : Claim7 := { stood := { row := configChecksRow, standIns := [], harness := (true, "5a603e36acaeff55d88057b219300a055cbbc2af68288c676dea15bf117cf274"), looks := true }, kinds := [], alts := [], laidByText := true, laidKinds := [.handle], laidTests := true, laidLooks := .later }
def ConfigChecksCardSaid : Prop := Claim7.holds Tryz.pinned (.plain (OpenSpec.ofChange configChecksSpec)) configChecksCard

/-- THE SECOND FORM's CARD OF 'abacistlaw13.ConfigChecks'. -/
def configChecksUptoCard : Claim7 := { stood := { row := configChecksUptoRow, standIns := [], harness := (true, "5a603e36acaeff55d88057b219300a055cbbc2af68288c676dea15bf117cf274"), looks := true }, kinds := [], alts := [], laidByText := true, laidKinds := [.handle], laidTests := true, laidLooks := .later }
def ConfigChecksUptoCardSaid : Prop := Claim7.holds Tryz.pinned (.plain (OpenSpec.upto configChecksSpec)) configChecksUptoCard
end Rows
end Go.Proofs.YtjinbhnpcdlkiaaGreatDoor
