/-
  No cell of these rows narrows 'for every input' (looked for: loops, veiled, ifaces, maps, wideKeys, modest, calm, conditions, laid).
  DERIVED. THE GIVEN ROWS OF THIS SEAT. 8 by the template 'for every input the law returns true; each argument reads behind the call as it read before'; 0 by the template 'total and deterministic' (their statements: YtppkifdngjcbeaaTotals.lean).
  GIVEN WITH THE SEED: the statements are not yours to turn. If you find one false, say at which input.
  Laid BY PROGRAM, IN A SANDBOX (cutbox-rows.mjs): the forced cells as the released guide's own fill.sh prints them over the translation b4ceed4743135e3d… (all of the seat's roots in one cut). By AI agents, Wed Nov 11 2026. No macro, syntax, notation, axiom, sorry.
-/
import Derived.Test.YtppkifdngjcbeaaChecked
import GoSem.Claim
import GoSem.ClaimJoined
import GoSem.ClaimMapViews
import Derived.JoinedTies
import Derived.KernelRfl
namespace Go.Proofs.Ytppkifdngjcbeaa
/- THE CELL 'sum', in the pinned program and in every row, IS THE sha256 OF THE DUMP (.gsa) THAT YtppkifdngjcbeaaProg.lean LOADS. Nothing in Lean hashes anything: it is a label: what it is worth is what the hold of that sum in a sandbox is worth. -/
noncomputable def Try.pinned : Pinned := { name := "ytppkifdngjcbeaa", sum := "b4ceed4743135e3ddf15f7472e3320b9ac16009fa0e5309b00125c6d9ae4b3cd", checked := Try.checked }
namespace Rows
def none {H : Type} : Left H := { results := [], args := [] }

/-- 'abacistlaw05.DigitSums': WHATEVER THE INPUT: true; the input reads as it did. -/
def digitSumsSpec : ChangeSpec := { name := "digitSums", fn := fun _ => fun
  | [d] => { results := [.lit (.bool true)], args := [d] }
  | _ => none }
def digitSumsRow : OpenClaim := { program := "ytppkifdngjcbeaa", sum := "b4ceed4743135e3ddf15f7472e3320b9ac16009fa0e5309b00125c6d9ae4b3cd", func := "abacist/abacistlaw05.DigitSums", spec := "digitSums", unfollowed := true, recurses := true, apart := false }
def DigitSumsSaid : Prop := digitSumsRow.holds Try.pinned (OpenSpec.ofChange digitSumsSpec)

/-- ITS FALSE NEIGHBOUR: 'it returns false'. Refute it at one input. -/
def digitSumsWrong : ChangeSpec := { name := "digitSums", fn := fun _ => fun
  | [d] => { results := [.lit (.bool false)], args := [d] }
  | _ => none }
def DigitSumsWrongFalsely : Prop := digitSumsRow.holds Try.pinned (OpenSpec.ofChange digitSumsWrong)

/-- 'abacistlaw14.DraftFrom': WHATEVER THE INPUT: true; the input reads as it did. -/
def draftFromSpec : ChangeSpec := { name := "draftFrom", fn := fun _ => fun
  | [d1, d2, d3] => { results := [.lit (.bool true)], args := [d1, d2, d3] }
  | _ => none }
def draftFromRow : OpenClaim := { program := "ytppkifdngjcbeaa", sum := "b4ceed4743135e3ddf15f7472e3320b9ac16009fa0e5309b00125c6d9ae4b3cd", func := "abacist/abacistlaw14.DraftFrom", spec := "draftFrom", unfollowed := true, recurses := true, apart := false }
def DraftFromSaid : Prop := draftFromRow.holds Try.pinned (OpenSpec.ofChange draftFromSpec)

/-- ITS FALSE NEIGHBOUR: 'it returns false'. Refute it at one input. -/
def draftFromWrong : ChangeSpec := { name := "draftFrom", fn := fun _ => fun
  | [d1, d2, d3] => { results := [.lit (.bool false)], args := [d1, d2, d3] }
  | _ => none }
def DraftFromWrongFalsely : Prop := draftFromRow.holds Try.pinned (OpenSpec.ofChange draftFromWrong)

/-- 'abacistlaw19.EditErases': WHATEVER THE INPUT: true; the input reads as it did. -/
def editErasesSpec : ChangeSpec := { name := "editErases", fn := fun _ => fun
  | [d1, d2, d3] => { results := [.lit (.bool true)], args := [d1, d2, d3] }
  | _ => none }
def editErasesRow : OpenClaim := { program := "ytppkifdngjcbeaa", sum := "b4ceed4743135e3ddf15f7472e3320b9ac16009fa0e5309b00125c6d9ae4b3cd", func := "abacist/abacistlaw19.EditErases", spec := "editErases", unfollowed := true, recurses := true, apart := false }
def EditErasesSaid : Prop := editErasesRow.holds Try.pinned (OpenSpec.ofChange editErasesSpec)

/-- ITS FALSE NEIGHBOUR: 'it returns false'. Refute it at one input. -/
def editErasesWrong : ChangeSpec := { name := "editErases", fn := fun _ => fun
  | [d1, d2, d3] => { results := [.lit (.bool false)], args := [d1, d2, d3] }
  | _ => none }
def EditErasesWrongFalsely : Prop := editErasesRow.holds Try.pinned (OpenSpec.ofChange editErasesWrong)

/-- 'abacistlaw19.EditCounts': WHATEVER THE INPUT: true; the input reads as it did. -/
def editCountsSpec : ChangeSpec := { name := "editCounts", fn := fun _ => fun
  | [d1, d2] => { results := [.lit (.bool true)], args := [d1, d2] }
  | _ => none }
def editCountsRow : OpenClaim := { program := "ytppkifdngjcbeaa", sum := "b4ceed4743135e3ddf15f7472e3320b9ac16009fa0e5309b00125c6d9ae4b3cd", func := "abacist/abacistlaw19.EditCounts", spec := "editCounts", unfollowed := true, recurses := true, apart := false }
def EditCountsSaid : Prop := editCountsRow.holds Try.pinned (OpenSpec.ofChange editCountsSpec)

/-- ITS FALSE NEIGHBOUR: 'it returns false'. Refute it at one input. -/
def editCountsWrong : ChangeSpec := { name := "editCounts", fn := fun _ => fun
  | [d1, d2] => { results := [.lit (.bool false)], args := [d1, d2] }
  | _ => none }
def EditCountsWrongFalsely : Prop := editCountsRow.holds Try.pinned (OpenSpec.ofChange editCountsWrong)

/-- 'abacistlaw19.EditPuts': WHATEVER THE INPUT: true; the input reads as it did. -/
def editPutsSpec : ChangeSpec := { name := "editPuts", fn := fun _ => fun
  | [d1, d2, d3] => { results := [.lit (.bool true)], args := [d1, d2, d3] }
  | _ => none }
def editPutsRow : OpenClaim := { program := "ytppkifdngjcbeaa", sum := "b4ceed4743135e3ddf15f7472e3320b9ac16009fa0e5309b00125c6d9ae4b3cd", func := "abacist/abacistlaw19.EditPuts", spec := "editPuts", unfollowed := true, recurses := true, apart := false }
def EditPutsSaid : Prop := editPutsRow.holds Try.pinned (OpenSpec.ofChange editPutsSpec)

/-- ITS FALSE NEIGHBOUR: 'it returns false'. Refute it at one input. -/
def editPutsWrong : ChangeSpec := { name := "editPuts", fn := fun _ => fun
  | [d1, d2, d3] => { results := [.lit (.bool false)], args := [d1, d2, d3] }
  | _ => none }
def EditPutsWrongFalsely : Prop := editPutsRow.holds Try.pinned (OpenSpec.ofChange editPutsWrong)

/-- 'abacistlaw19.EditMoves': WHATEVER THE INPUT: true; the input reads as it did. -/
def editMovesSpec : ChangeSpec := { name := "editMoves", fn := fun _ => fun
  | [d1, d2] => { results := [.lit (.bool true)], args := [d1, d2] }
  | _ => none }
def editMovesRow : OpenClaim := { program := "ytppkifdngjcbeaa", sum := "b4ceed4743135e3ddf15f7472e3320b9ac16009fa0e5309b00125c6d9ae4b3cd", func := "abacist/abacistlaw19.EditMoves", spec := "editMoves", unfollowed := true, recurses := true, apart := false }
def EditMovesSaid : Prop := editMovesRow.holds Try.pinned (OpenSpec.ofChange editMovesSpec)

/-- ITS FALSE NEIGHBOUR: 'it returns false'. Refute it at one input. -/
def editMovesWrong : ChangeSpec := { name := "editMoves", fn := fun _ => fun
  | [d1, d2] => { results := [.lit (.bool false)], args := [d1, d2] }
  | _ => none }
def EditMovesWrongFalsely : Prop := editMovesRow.holds Try.pinned (OpenSpec.ofChange editMovesWrong)

/-- 'abacistlaw19.EditSelects': WHATEVER THE INPUT: true; the input reads as it did. -/
def editSelectsSpec : ChangeSpec := { name := "editSelects", fn := fun _ => fun
  | [d1, d2, d3, d4] => { results := [.lit (.bool true)], args := [d1, d2, d3, d4] }
  | _ => none }
def editSelectsRow : OpenClaim := { program := "ytppkifdngjcbeaa", sum := "b4ceed4743135e3ddf15f7472e3320b9ac16009fa0e5309b00125c6d9ae4b3cd", func := "abacist/abacistlaw19.EditSelects", spec := "editSelects", unfollowed := true, recurses := true, apart := false }
def EditSelectsSaid : Prop := editSelectsRow.holds Try.pinned (OpenSpec.ofChange editSelectsSpec)

/-- ITS FALSE NEIGHBOUR: 'it returns false'. Refute it at one input. -/
def editSelectsWrong : ChangeSpec := { name := "editSelects", fn := fun _ => fun
  | [d1, d2, d3, d4] => { results := [.lit (.bool false)], args := [d1, d2, d3, d4] }
  | _ => none }
def EditSelectsWrongFalsely : Prop := editSelectsRow.holds Try.pinned (OpenSpec.ofChange editSelectsWrong)

/-- 'abacistlaw19.EditWithin': WHATEVER THE INPUT: true; the input reads as it did. -/
def editWithinSpec : ChangeSpec := { name := "editWithin", fn := fun _ => fun
  | [d1, d2, d3] => { results := [.lit (.bool true)], args := [d1, d2, d3] }
  | _ => none }
def editWithinRow : OpenClaim := { program := "ytppkifdngjcbeaa", sum := "b4ceed4743135e3ddf15f7472e3320b9ac16009fa0e5309b00125c6d9ae4b3cd", func := "abacist/abacistlaw19.EditWithin", spec := "editWithin", unfollowed := true, recurses := true, apart := false }
def EditWithinSaid : Prop := editWithinRow.holds Try.pinned (OpenSpec.ofChange editWithinSpec)

/-- ITS FALSE NEIGHBOUR: 'it returns false'. Refute it at one input. -/
def editWithinWrong : ChangeSpec := { name := "editWithin", fn := fun _ => fun
  | [d1, d2, d3] => { results := [.lit (.bool false)], args := [d1, d2, d3] }
  | _ => none }
def EditWithinWrongFalsely : Prop := editWithinRow.holds Try.pinned (OpenSpec.ofChange editWithinWrong)

/- THE SECOND FORM. 'bulk': how many values and letters a reading holds, each counted each time it is reached (what is shared counts as often as it is met; a slice's spare places count too). A statement '..UptoSaid' is the law's where the arguments, and the package variables that the reading takes, are together of bulk at most 1048576: NARROWER than '..Said'. Prove '..Said' where nothing that the law and all that it calls make is longer than what came in: it says more and counts as full. Else prove '..UptoSaid'. A law counts once. -/
mutual
def uptoBulk {H : Type} : DataW H → Nat
  | .lit (.string bytes) => bytes.length + 1
  | .lit _ => 1
  | .nil => 1
  | .ptr d => uptoBulk d + 1
  | .slice elems spare => uptoBulkAll elems + uptoBulkAll spare + 1
  | .agg parts => uptoBulkAll parts + 1
  | .iface _ d => uptoBulk d + 1
  | .map entries => uptoBulkEntries entries + 1
  | .held _ => 1
def uptoBulkAll {H : Type} : List (DataW H) → Nat
  | [] => 0
  | d :: r => uptoBulk d + uptoBulkAll r
def uptoBulkEntries {H : Type} : List (Lit × DataW H) → Nat
  | [] => 0
  | x :: r => uptoBulkEntry x + uptoBulkEntries r
def uptoBulkEntry {H : Type} : Lit × DataW H → Nat
  | (.string bytes, d) => bytes.length + uptoBulk d + 1
  | (_, d) => uptoBulk d + 1
 end
def uptoSmall : (H : Type) → List (DataW H) → Bool := fun _ ds => decide (uptoBulkAll ds ≤ 1048576)
def OpenSpec.upto (s : _root_.Go.ChangeSpec) : _root_.Go.OpenSpec := { _root_.Go.OpenSpec.ofChange s with cond := some uptoSmall }

/-- 'abacistlaw05.DigitSums', WHERE WHAT IT READS IS OF BULK AT MOST 1048576: true; the input reads as it did. -/
def digitSumsUptoRow : OpenClaim := { program := "ytppkifdngjcbeaa", sum := "b4ceed4743135e3ddf15f7472e3320b9ac16009fa0e5309b00125c6d9ae4b3cd", func := "abacist/abacistlaw05.DigitSums", spec := "digitSums", unfollowed := true, recurses := true, apart := false, narrowed := true }
def DigitSumsUptoSaid : Prop := digitSumsUptoRow.holds Try.pinned (OpenSpec.upto digitSumsSpec)

/-- 'abacistlaw14.DraftFrom', WHERE WHAT IT READS IS OF BULK AT MOST 1048576: true; the input reads as it did. -/
def draftFromUptoRow : OpenClaim := { program := "ytppkifdngjcbeaa", sum := "b4ceed4743135e3ddf15f7472e3320b9ac16009fa0e5309b00125c6d9ae4b3cd", func := "abacist/abacistlaw14.DraftFrom", spec := "draftFrom", unfollowed := true, recurses := true, apart := false, narrowed := true }
def DraftFromUptoSaid : Prop := draftFromUptoRow.holds Try.pinned (OpenSpec.upto draftFromSpec)

/-- 'abacistlaw19.EditErases', WHERE WHAT IT READS IS OF BULK AT MOST 1048576: true; the input reads as it did. -/
def editErasesUptoRow : OpenClaim := { program := "ytppkifdngjcbeaa", sum := "b4ceed4743135e3ddf15f7472e3320b9ac16009fa0e5309b00125c6d9ae4b3cd", func := "abacist/abacistlaw19.EditErases", spec := "editErases", unfollowed := true, recurses := true, apart := false, narrowed := true }
def EditErasesUptoSaid : Prop := editErasesUptoRow.holds Try.pinned (OpenSpec.upto editErasesSpec)

/-- 'abacistlaw19.EditCounts', WHERE WHAT IT READS IS OF BULK AT MOST 1048576: true; the input reads as it did. -/
def editCountsUptoRow : OpenClaim := { program := "ytppkifdngjcbeaa", sum := "b4ceed4743135e3ddf15f7472e3320b9ac16009fa0e5309b00125c6d9ae4b3cd", func := "abacist/abacistlaw19.EditCounts", spec := "editCounts", unfollowed := true, recurses := true, apart := false, narrowed := true }
def EditCountsUptoSaid : Prop := editCountsUptoRow.holds Try.pinned (OpenSpec.upto editCountsSpec)

/-- 'abacistlaw19.EditPuts', WHERE WHAT IT READS IS OF BULK AT MOST 1048576: true; the input reads as it did. -/
def editPutsUptoRow : OpenClaim := { program := "ytppkifdngjcbeaa", sum := "b4ceed4743135e3ddf15f7472e3320b9ac16009fa0e5309b00125c6d9ae4b3cd", func := "abacist/abacistlaw19.EditPuts", spec := "editPuts", unfollowed := true, recurses := true, apart := false, narrowed := true }
def EditPutsUptoSaid : Prop := editPutsUptoRow.holds Try.pinned (OpenSpec.upto editPutsSpec)

/-- 'abacistlaw19.EditMoves', WHERE WHAT IT READS IS OF BULK AT MOST 1048576: true; the input reads as it did. -/
def editMovesUptoRow : OpenClaim := { program := "ytppkifdngjcbeaa", sum := "b4ceed4743135e3ddf15f7472e3320b9ac16009fa0e5309b00125c6d9ae4b3cd", func := "abacist/abacistlaw19.EditMoves", spec := "editMoves", unfollowed := true, recurses := true, apart := false, narrowed := true }
def EditMovesUptoSaid : Prop := editMovesUptoRow.holds Try.pinned (OpenSpec.upto editMovesSpec)

/-- 'abacistlaw19.EditSelects', WHERE WHAT IT READS IS OF BULK AT MOST 1048576: true; the input reads as it did. -/
def editSelectsUptoRow : OpenClaim := { program := "ytppkifdngjcbeaa", sum := "b4ceed4743135e3ddf15f7472e3320b9ac16009fa0e5309b00125c6d9ae4b3cd", func := "abacist/abacistlaw19.EditSelects", spec := "editSelects", unfollowed := true, recurses := true, apart := false, narrowed := true }
def EditSelectsUptoSaid : Prop := editSelectsUptoRow.holds Try.pinned (OpenSpec.upto editSelectsSpec)

/-- 'abacistlaw19.EditWithin', WHERE WHAT IT READS IS OF BULK AT MOST 1048576: true; the input reads as it did. -/
def editWithinUptoRow : OpenClaim := { program := "ytppkifdngjcbeaa", sum := "b4ceed4743135e3ddf15f7472e3320b9ac16009fa0e5309b00125c6d9ae4b3cd", func := "abacist/abacistlaw19.EditWithin", spec := "editWithin", unfollowed := true, recurses := true, apart := false, narrowed := true }
def EditWithinUptoSaid : Prop := editWithinUptoRow.holds Try.pinned (OpenSpec.upto editWithinSpec)

end Rows
end Go.Proofs.Ytppkifdngjcbeaa
