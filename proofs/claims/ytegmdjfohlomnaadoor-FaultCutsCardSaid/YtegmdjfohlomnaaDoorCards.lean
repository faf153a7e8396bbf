/-
  DERIVED. GIVEN WITH THE SEED: THE CARDS: each row of YtegmdjfohlomnaaDoorRows.lean that lists a variable, with what it lists TIED to the program's text (the seventh form; the later family's looks); each row that meets fmt, with fmt's text TOLD by the authors' own Lean function (tested against real Go, not proved from fmt's source: count such statements apart). THE CARD IS WHAT COUNTS. Prove the row's statement (the work); the ties are given (YtegmdjfohlomnaaDoorTie.lean); close each card by the builder's one call (the guide's Derived/Test/ToyasCard.lean, 'card_holds'). Laid BY PROGRAM, IN A SANDBOX (cutbox-door.mjs). By AI agents, Wed Nov 11 2026. No macro, syntax, notation, axiom, sorry.
-/
import Derived.Test.YtegmdjfohlomnaaDoorRows
import GoSem.ClaimSeven
namespace Go.Proofs.YtegmdjfohlomnaaDoor
namespace Rows

/-- THE TIED CARD OF 'abacistlaw08.FaultTexts'. -/
def faultTextsCard : Claim7 := { stood := { row := faultTextsRow, standIns := [], harness := (true, "f35cafc61f1facc6acc88cbb95e0c418570968eaa6a67fb83d0628be95393563"), looks := true }, kinds := [], alts := [], laidByText := true, laidKinds := [.data, .data, .data, .handle], laidTests := true, laidLooks := .later }
def FaultTextsCardSaid : Prop := Claim7.holds Tryd.pinned (.plain (OpenSpec.ofChange faultTextsSpec)) faultTextsCard

/-- THE TIED CARD OF 'abacistlaw08.FaultFinds'. -/
def faultFindsCard : Claim7 := { stood := { row := faultFindsRow, standIns := [], harness := (true, "f35cafc61f1facc6acc88cbb95e0c418570968eaa6a67fb83d0628be95393563"), looks := true }, kinds := [], alts := [], laidByText := true, laidKinds := [.data, .data, .data, .handle], laidTests := true, laidLooks := .later }
def FaultFindsCardSaid : Prop := Claim7.holds Tryd.pinned (.plain (OpenSpec.ofChange faultFindsSpec)) faultFindsCard

/-- THE TIED CARD OF 'abacistlaw08.FaultNone'. -/
def faultNoneCard : Claim7 := { stood := { row := faultNoneRow, standIns := [], harness := (true, "f35cafc61f1facc6acc88cbb95e0c418570968eaa6a67fb83d0628be95393563"), looks := true }, kinds := [], alts := [], laidByText := true, laidKinds := [.data, .data, .data, .handle], laidTests := true, laidLooks := .later }
def FaultNoneCardSaid : Prop := Claim7.holds Tryd.pinned (.plain (OpenSpec.ofChange faultNoneSpec)) faultNoneCard

/-- THE TIED CARD OF 'abacistlaw08.FaultAs'. -/
def faultAsCard : Claim7 := { stood := { row := faultAsRow, standIns := [], harness := (true, "f35cafc61f1facc6acc88cbb95e0c418570968eaa6a67fb83d0628be95393563"), looks := true }, kinds := [], alts := [], laidByText := true, laidKinds := [.data, .data, .data, .handle], laidTests := true, laidLooks := .later }
def FaultAsCardSaid : Prop := Claim7.holds Tryd.pinned (.plain (OpenSpec.ofChange faultAsSpec)) faultAsCard

/-- THE TIED CARD OF 'abacistlaw08.FaultCuts'. -/
def faultCutsCard : Claim7 := { stood := { row := faultCutsRow, standIns := [], harness := (true, "f35cafc61f1facc6acc88cbb95e0c418570968eaa6a67fb83d0628be95393563"), looks := true }, kinds := [], alts := [], laidByText := true, laidKinds := [.data, .data, .data, .handle], laidTests := true, laidLooks := .later }
def FaultCutsCardSaid : Prop := Claim7.holds Tryd.pinned (.plain (OpenSpec.ofChange faultCutsSpec)) faultCutsCard

/-- THE TIED CARD OF 'abacistlaw08.FaultIs'. -/
def faultIsCard : Claim7 := { stood := { row := faultIsRow, standIns := [], harness := (true, "f35cafc61f1facc6acc88cbb95e0c418570968eaa6a67fb83d0628be95393563"), looks := true }, kinds := [], alts := [], laidByText := true, laidKinds := [.data, .data, .data, .handle], laidTests := true, laidLooks := .later }
def FaultIsCardSaid : Prop := Claim7.holds Tryd.pinned (.plain (OpenSpec.ofChange faultIsSpec)) faultIsCard

/-- THE TIED CARD OF 'abacistlaw08.FaultHas'. -/
def faultHasCard : Claim7 := { stood := { row := faultHasRow, standIns := [], harness := (true, "f35cafc61f1facc6acc88cbb95e0c418570968eaa6a67fb83d0628be95393563"), looks := true }, kinds := [], alts := [], laidByText := true, laidKinds := [.data, .data, .data, .handle], laidTests := true, laidLooks := .later }
def FaultHasCardSaid : Prop := Claim7.holds Tryd.pinned (.plain (OpenSpec.ofChange faultHasSpec)) faultHasCard

/-- THE SECOND FORM's CARD OF 'abacistlaw08.FaultTexts'. -/
def faultTextsUptoCard : Claim7 := { stood := { row := faultTextsUptoRow, standIns := [], harness := (true, "f35cafc61f1facc6acc88cbb95e0c418570968eaa6a67fb83d0628be95393563"), looks := true }, kinds := [], alts := [], laidByText := true, laidKinds := [.data, .data, .data, .handle], laidTests := true, laidLooks := .later }
def FaultTextsUptoCardSaid : Prop := Claim7.holds Tryd.pinned (.plain (OpenSpec.upto faultTextsSpec)) faultTextsUptoCard

/-- THE SECOND FORM's CARD OF 'abacistlaw08.FaultFinds'. -/
def faultFindsUptoCard : Claim7 := { stood := { row := faultFindsUptoRow, standIns := [], harness := (true, "f35cafc61f1facc6acc88cbb95e0c418570968eaa6a67fb83d0628be95393563"), looks := true }, kinds := [], alts := [], laidByText := true, laidKinds := [.data, .data, .data, .handle], laidTests := true, laidLooks := .later }
def FaultFindsUptoCardSaid : Prop := Claim7.holds Tryd.pinned (.plain (OpenSpec.upto faultFindsSpec)) faultFindsUptoCard

/-- THE SECOND FORM's CARD OF 'abacistlaw08.FaultNone'. -/
def faultNoneUptoCard : Claim7 := { stood := { row := faultNoneUptoRow, standIns := [], harness := (true, "f35cafc61f1facc6acc88cbb95e0c418570968eaa6a67fb83d0628be95393563"), looks := true }, kinds := [], alts := [], laidByText := true, laidKinds := [.data, .data, .data, .handle], laidTests := true, laidLooks := .later }
def FaultNoneUptoCardSaid : Prop := Claim7.holds Tryd.pinned (.plain (OpenSpec.upto faultNoneSpec)) faultNoneUptoCard

/-- THE SECOND FORM's CARD OF 'abacistlaw08.FaultAs'. -/
def faultAsUptoCard : Claim7 := { stood := { row := faultAsUptoRow, standIns := [], harness := (true, "f35cafc61f1facc6acc88cbb95e0c418570968eaa6a67fb83d0628be95393563"), looks := true }, kinds := [], alts := [], laidByText := true, laidKinds := [.data, .data, .data, .handle], laidTests := true, laidLooks := .later }
def FaultAsUptoCardSaid : Prop := Claim7.holds Tryd.pinned (.plain (OpenSpec.upto faultAsSpec)) faultAsUptoCard

/-- THE SECOND FORM's CARD OF 'abacistlaw08.FaultCuts'. -/
def faultCutsUptoCard : Claim7 := { stood := { row := faultCutsUptoRow, standIns := [], harness := (true, "f35cafc61f1facc6acc88cbb95e0c418570968eaa6a67fb83d0628be95393563"), looks := true }, kinds := [], alts := [], laidByText := true, laidKinds := [.data, .data, .data, .handle], laidTests := true, laidLooks := .later }
def FaultCutsUptoCardSaid : Prop := Claim7.holds Tryd.pinned (.plain (OpenSpec.upto faultCutsSpec)) faultCutsUptoCard

/-- THE SECOND FORM's CARD OF 'abacistlaw08.FaultIs'. -/
def faultIsUptoCard : Claim7 := { stood := { row := faultIsUptoRow, standIns := [], harness := (true, "f35cafc61f1facc6acc88cbb95e0c418570968eaa6a67fb83d0628be95393563"), looks := true }, kinds := [], alts := [], laidByText := true, laidKinds := [.data, .data, .data, .handle], laidTests := true, laidLooks := .later }
def FaultIsUptoCardSaid : Prop := Claim7.holds Tryd.pinned (.plain (OpenSpec.upto faultIsSpec)) faultIsUptoCard

/-- THE SECOND FORM's CARD OF 'abacistlaw08.FaultHas'. -/
def faultHasUptoCard : Claim7 := { stood := { row := faultHasUptoRow, standIns := [], harness := (true, "f35cafc61f1facc6acc88cbb95e0c418570968eaa6a67fb83d0628be95393563"), looks := true }, kinds := [], alts := [], laidByText := true, laidKinds := [.data, .data, .data, .handle], laidTests := true, laidLooks := .later }
def FaultHasUptoCardSaid : Prop := Claim7.holds Tryd.pinned (.plain (OpenSpec.upto faultHasSpec)) faultHasUptoCard
end Rows
end Go.Proofs.YtegmdjfohlomnaaDoor
