/-
  No cell of these rows narrows 'for every input' (looked for: loops, veiled, ifaces, maps, wideKeys, modest, calm, conditions, laid).
  DERIVED. THE GIVEN ROWS OF THIS SEAT. 12 by the template 'for every input the law returns true; each argument reads behind the call as it read before'; 0 by the template 'total and deterministic' (their statements: YtgjmcanjlcblgaaTotals.lean).
  GIVEN WITH THE SEED: the statements are not yours to turn. If you find one false, say at which input.
  Laid BY PROGRAM, IN A SANDBOX (cutbox-rows.mjs): the forced cells as the released guide's own fill.sh prints them over the translation c12ea6adbf67df3a… (all of the seat's roots in one cut). By AI agents, Wed Nov 11 2026. No macro, syntax, notation, axiom, sorry.
-/
import Derived.Test.YtgjmcanjlcblgaaChecked
import GoSem.Claim
import GoSem.ClaimJoined
import GoSem.ClaimMapViews
import Derived.JoinedTies
import Derived.KernelRfl
namespace Go.Proofs.Ytgjmcanjlcblgaa
/- THE CELL 'sum', in the pinned program and in every row, IS THE sha256 OF THE DUMP (.gsa) THAT YtgjmcanjlcblgaaProg.lean LOADS. Nothing in Lean hashes anything: it is a label: what it is worth is what the hold of that sum in a sandbox is worth. -/
noncomputable def Try.pinned : Pinned := { name := "ytgjmcanjlcblgaa", sum := "c12ea6adbf67df3ab113c0e08c3be25067e3be2e9370497f460e8da4172f94b7", checked := Try.checked }
namespace Rows
def none {H : Type} : Left H := { results := [], args := [] }

/-- 'abacistlaw14.DraftSplices': WHATEVER THE INPUT: true; the input reads as it did. -/
def draftSplicesSpec : ChangeSpec := { name := "draftSplices", fn := fun _ => fun
  | [d1, d2, d3, d4] => { results := [.lit (.bool true)], args := [d1, d2, d3, d4] }
  | _ => none }
def draftSplicesRow : OpenClaim := { program := "ytgjmcanjlcblgaa", sum := "c12ea6adbf67df3ab113c0e08c3be25067e3be2e9370497f460e8da4172f94b7", func := "abacist/abacistlaw14.DraftSplices", spec := "draftSplices", unfollowed := true, recurses := true, apart := false }
def DraftSplicesSaid : Prop := draftSplicesRow.holds Try.pinned (OpenSpec.ofChange draftSplicesSpec)

/-- ITS FALSE NEIGHBOUR: 'it returns false'. Refute it at one input. -/
def draftSplicesWrong : ChangeSpec := { name := "draftSplices", fn := fun _ => fun
  | [d1, d2, d3, d4] => { results := [.lit (.bool false)], args := [d1, d2, d3, d4] }
  | _ => none }
def DraftSplicesWrongFalsely : Prop := draftSplicesRow.holds Try.pinned (OpenSpec.ofChange draftSplicesWrong)

/-- 'abacistlaw14.DraftBack': WHATEVER THE INPUT: true; the input reads as it did. -/
def draftBackSpec : ChangeSpec := { name := "draftBack", fn := fun _ => fun
  | [d1, d2, d3] => { results := [.lit (.bool true)], args := [d1, d2, d3] }
  | _ => none }
def draftBackRow : OpenClaim := { program := "ytgjmcanjlcblgaa", sum := "c12ea6adbf67df3ab113c0e08c3be25067e3be2e9370497f460e8da4172f94b7", func := "abacist/abacistlaw14.DraftBack", spec := "draftBack", unfollowed := true, recurses := true, apart := false }
def DraftBackSaid : Prop := draftBackRow.holds Try.pinned (OpenSpec.ofChange draftBackSpec)

/-- ITS FALSE NEIGHBOUR: 'it returns false'. Refute it at one input. -/
def draftBackWrong : ChangeSpec := { name := "draftBack", fn := fun _ => fun
  | [d1, d2, d3] => { results := [.lit (.bool false)], args := [d1, d2, d3] }
  | _ => none }
def DraftBackWrongFalsely : Prop := draftBackRow.holds Try.pinned (OpenSpec.ofChange draftBackWrong)

/-- 'abacistlaw14.DraftSame': WHATEVER THE INPUT: true; the input reads as it did. -/
def draftSameSpec : ChangeSpec := { name := "draftSame", fn := fun _ => fun
  | [d1, d2] => { results := [.lit (.bool true)], args := [d1, d2] }
  | _ => none }
def draftSameRow : OpenClaim := { program := "ytgjmcanjlcblgaa", sum := "c12ea6adbf67df3ab113c0e08c3be25067e3be2e9370497f460e8da4172f94b7", func := "abacist/abacistlaw14.DraftSame", spec := "draftSame", unfollowed := true, recurses := true, apart := false }
def DraftSameSaid : Prop := draftSameRow.holds Try.pinned (OpenSpec.ofChange draftSameSpec)

/-- ITS FALSE NEIGHBOUR: 'it returns false'. Refute it at one input. -/
def draftSameWrong : ChangeSpec := { name := "draftSame", fn := fun _ => fun
  | [d1, d2] => { results := [.lit (.bool false)], args := [d1, d2] }
  | _ => none }
def DraftSameWrongFalsely : Prop := draftSameRow.holds Try.pinned (OpenSpec.ofChange draftSameWrong)

/-- 'abacistlaw05.DigitRow': WHATEVER THE INPUT: true; the input reads as it did. -/
def digitRowSpec : ChangeSpec := { name := "digitRow", fn := fun _ => fun
  | [d1, d2, d3] => { results := [.lit (.bool true)], args := [d1, d2, d3] }
  | _ => none }
def digitRowRow : OpenClaim := { program := "ytgjmcanjlcblgaa", sum := "c12ea6adbf67df3ab113c0e08c3be25067e3be2e9370497f460e8da4172f94b7", func := "abacist/abacistlaw05.DigitRow", spec := "digitRow", unfollowed := true, recurses := true, apart := false }
def DigitRowSaid : Prop := digitRowRow.holds Try.pinned (OpenSpec.ofChange digitRowSpec)

/-- ITS FALSE NEIGHBOUR: 'it returns false'. Refute it at one input. -/
def digitRowWrong : ChangeSpec := { name := "digitRow", fn := fun _ => fun
  | [d1, d2, d3] => { results := [.lit (.bool false)], args := [d1, d2, d3] }
  | _ => none }
def DigitRowWrongFalsely : Prop := digitRowRow.holds Try.pinned (OpenSpec.ofChange digitRowWrong)

/-- 'abacistlaw05.DigitSums': WHATEVER THE INPUT: true; the input reads as it did. -/
def digitSumsSpec : ChangeSpec := { name := "digitSums", fn := fun _ => fun
  | [d] => { results := [.lit (.bool true)], args := [d] }
  | _ => none }
def digitSumsRow : OpenClaim := { program := "ytgjmcanjlcblgaa", sum := "c12ea6adbf67df3ab113c0e08c3be25067e3be2e9370497f460e8da4172f94b7", func := "abacist/abacistlaw05.DigitSums", spec := "digitSums", unfollowed := true, recurses := true, apart := false }
def DigitSumsSaid : Prop := digitSumsRow.holds Try.pinned (OpenSpec.ofChange digitSumsSpec)

/-- ITS FALSE NEIGHBOUR: 'it returns false'. Refute it at one input. -/
def digitSumsWrong : ChangeSpec := { name := "digitSums", fn := fun _ => fun
  | [d] => { results := [.lit (.bool false)], args := [d] }
  | _ => none }
def DigitSumsWrongFalsely : Prop := digitSumsRow.holds Try.pinned (OpenSpec.ofChange digitSumsWrong)

/-- 'abacistlaw05.DigitSubs': WHATEVER THE INPUT: true; the input reads as it did. -/
def digitSubsSpec : ChangeSpec := { name := "digitSubs", fn := fun _ => fun
  | [d1, d2] => { results := [.lit (.bool true)], args := [d1, d2] }
  | _ => none }
def digitSubsRow : OpenClaim := { program := "ytgjmcanjlcblgaa", sum := "c12ea6adbf67df3ab113c0e08c3be25067e3be2e9370497f460e8da4172f94b7", func := "abacist/abacistlaw05.DigitSubs", spec := "digitSubs", unfollowed := true, recurses := true, apart := false }
def DigitSubsSaid : Prop := digitSubsRow.holds Try.pinned (OpenSpec.ofChange digitSubsSpec)

/-- ITS FALSE NEIGHBOUR: 'it returns false'. Refute it at one input. -/
def digitSubsWrong : ChangeSpec := { name := "digitSubs", fn := fun _ => fun
  | [d1, d2] => { results := [.lit (.bool false)], args := [d1, d2] }
  | _ => none }
def DigitSubsWrongFalsely : Prop := digitSubsRow.holds Try.pinned (OpenSpec.ofChange digitSubsWrong)

/-- 'abacistlaw05.DigitTrims': WHATEVER THE INPUT: true; the input reads as it did. -/
def digitTrimsSpec : ChangeSpec := { name := "digitTrims", fn := fun _ => fun
  | [d1, d2] => { results := [.lit (.bool true)], args := [d1, d2] }
  | _ => none }
def digitTrimsRow : OpenClaim := { program := "ytgjmcanjlcblgaa", sum := "c12ea6adbf67df3ab113c0e08c3be25067e3be2e9370497f460e8da4172f94b7", func := "abacist/abacistlaw05.DigitTrims", spec := "digitTrims", unfollowed := true, recurses := true, apart := false }
def DigitTrimsSaid : Prop := digitTrimsRow.holds Try.pinned (OpenSpec.ofChange digitTrimsSpec)

/-- ITS FALSE NEIGHBOUR: 'it returns false'. Refute it at one input. -/
def digitTrimsWrong : ChangeSpec := { name := "digitTrims", fn := fun _ => fun
  | [d1, d2] => { results := [.lit (.bool false)], args := [d1, d2] }
  | _ => none }
def DigitTrimsWrongFalsely : Prop := digitTrimsRow.holds Try.pinned (OpenSpec.ofChange digitTrimsWrong)

/-- 'abacistlaw05.DigitTimes': WHATEVER THE INPUT: true; the input reads as it did. -/
def digitTimesSpec : ChangeSpec := { name := "digitTimes", fn := fun _ => fun
  | [d1, d2] => { results := [.lit (.bool true)], args := [d1, d2] }
  | _ => none }
def digitTimesRow : OpenClaim := { program := "ytgjmcanjlcblgaa", sum := "c12ea6adbf67df3ab113c0e08c3be25067e3be2e9370497f460e8da4172f94b7", func := "abacist/abacistlaw05.DigitTimes", spec := "digitTimes", unfollowed := true, recurses := true, apart := false }
def DigitTimesSaid : Prop := digitTimesRow.holds Try.pinned (OpenSpec.ofChange digitTimesSpec)

/-- ITS FALSE NEIGHBOUR: 'it returns false'. Refute it at one input. -/
def digitTimesWrong : ChangeSpec := { name := "digitTimes", fn := fun _ => fun
  | [d1, d2] => { results := [.lit (.bool false)], args := [d1, d2] }
  | _ => none }
def DigitTimesWrongFalsely : Prop := digitTimesRow.holds Try.pinned (OpenSpec.ofChange digitTimesWrong)

/-- 'abacistlaw05.DigitShifts': WHATEVER THE INPUT: true; the input reads as it did. -/
def digitShiftsSpec : ChangeSpec := { name := "digitShifts", fn := fun _ => fun
  | [d1, d2] => { results := [.lit (.bool true)], args := [d1, d2] }
  | _ => none }
def digitShiftsRow : OpenClaim := { program := "ytgjmcanjlcblgaa", sum := "c12ea6adbf67df3ab113c0e08c3be25067e3be2e9370497f460e8da4172f94b7", func := "abacist/abacistlaw05.DigitShifts", spec := "digitShifts", unfollowed := true, recurses := true, apart := false }
def DigitShiftsSaid : Prop := digitShiftsRow.holds Try.pinned (OpenSpec.ofChange digitShiftsSpec)

/-- ITS FALSE NEIGHBOUR: 'it returns false'. Refute it at one input. -/
def digitShiftsWrong : ChangeSpec := { name := "digitShifts", fn := fun _ => fun
  | [d1, d2] => { results := [.lit (.bool false)], args := [d1, d2] }
  | _ => none }
def DigitShiftsWrongFalsely : Prop := digitShiftsRow.holds Try.pinned (OpenSpec.ofChange digitShiftsWrong)

/-- 'abacistlaw14.DraftTold': WHATEVER THE INPUT: true; the input reads as it did. -/
def draftToldSpec : ChangeSpec := { name := "draftTold", fn := fun _ => fun
  | [d1, d2, d3] => { results := [.lit (.bool true)], args := [d1, d2, d3] }
  | _ => none }
def draftToldRow : OpenClaim := { program := "ytgjmcanjlcblgaa", sum := "c12ea6adbf67df3ab113c0e08c3be25067e3be2e9370497f460e8da4172f94b7", func := "abacist/abacistlaw14.DraftTold", spec := "draftTold", unfollowed := true, recurses := true, apart := false }
def DraftToldSaid : Prop := draftToldRow.holds Try.pinned (OpenSpec.ofChange draftToldSpec)

/-- ITS FALSE NEIGHBOUR: 'it returns false'. Refute it at one input. -/
def draftToldWrong : ChangeSpec := { name := "draftTold", fn := fun _ => fun
  | [d1, d2, d3] => { results := [.lit (.bool false)], args := [d1, d2, d3] }
  | _ => none }
def DraftToldWrongFalsely : Prop := draftToldRow.holds Try.pinned (OpenSpec.ofChange draftToldWrong)

/-- 'abacistlaw05.DigitTexts': WHATEVER THE INPUT: true; the input reads as it did. -/
def digitTextsSpec : ChangeSpec := { name := "digitTexts", fn := fun _ => fun
  | [d1, d2] => { results := [.lit (.bool true)], args := [d1, d2] }
  | _ => none }
def digitTextsRow : OpenClaim := { program := "ytgjmcanjlcblgaa", sum := "c12ea6adbf67df3ab113c0e08c3be25067e3be2e9370497f460e8da4172f94b7", func := "abacist/abacistlaw05.DigitTexts", spec := "digitTexts", unfollowed := true, recurses := true, apart := false }
def DigitTextsSaid : Prop := digitTextsRow.holds Try.pinned (OpenSpec.ofChange digitTextsSpec)

/-- ITS FALSE NEIGHBOUR: 'it returns false'. Refute it at one input. -/
def digitTextsWrong : ChangeSpec := { name := "digitTexts", fn := fun _ => fun
  | [d1, d2] => { results := [.lit (.bool false)], args := [d1, d2] }
  | _ => none }
def DigitTextsWrongFalsely : Prop := digitTextsRow.holds Try.pinned (OpenSpec.ofChange digitTextsWrong)

/-- 'abacistlaw14.DraftFrom': WHATEVER THE INPUT: true; the input reads as it did. -/
def draftFromSpec : ChangeSpec := { name := "draftFrom", fn := fun _ => fun
  | [d1, d2, d3] => { results := [.lit (.bool true)], args := [d1, d2, d3] }
  | _ => none }
def draftFromRow : OpenClaim := { program := "ytgjmcanjlcblgaa", sum := "c12ea6adbf67df3ab113c0e08c3be25067e3be2e9370497f460e8da4172f94b7", func := "abacist/abacistlaw14.DraftFrom", spec := "draftFrom", unfollowed := true, recurses := true, apart := false }
def DraftFromSaid : Prop := draftFromRow.holds Try.pinned (OpenSpec.ofChange draftFromSpec)

/-- ITS FALSE NEIGHBOUR: 'it returns false'. Refute it at one input. -/
def draftFromWrong : ChangeSpec := { name := "draftFrom", fn := fun _ => fun
  | [d1, d2, d3] => { results := [.lit (.bool false)], args := [d1, d2, d3] }
  | _ => none }
def DraftFromWrongFalsely : Prop := draftFromRow.holds Try.pinned (OpenSpec.ofChange draftFromWrong)

/- THE SECOND FORM. 'bulk': how many values and letters a reading holds, each counted each time it is reached (what is shared counts as often as it is met; a slice's spare places count too). A statement '..UptoSaid' is the law's where the arguments, and the package variables that the reading takes, are together of bulk at most 1048576: NARROWER than '..Said'. Prove '..Said' where nothing that the law and all that it calls make is longer than what came in: it says more and counts as full. Else prove '..UptoSaid'. A law counts once. -/
mutual
def uptoBulk {H : Type} : DataW H → Nat
  | .lit (.string bytes) => bytes.length + 1
  | .lit _ => 1
  | .nil => 1
  | .ptr d => uptoBulk d + 1
  | .slice elems spare => uptoBulkAll elems + uptoBulkAll spare + 1
  | .agg parts => uptoBulkAll parts + 1
  | .iface _ d => uptoBulk d + 1
  | .map entries => uptoBulkEntries entries + 1
  | .held _ => 1
def uptoBulkAll {H : Type} : List (DataW H) → Nat
  | [] => 0
  | d :: r => uptoBulk d + uptoBulkAll r
def uptoBulkEntries {H : Type} : List (Lit × DataW H) → Nat
  | [] => 0
  | x :: r => uptoBulkEntry x + uptoBulkEntries r
def uptoBulkEntry {H : Type} : Lit × DataW H → Nat
  | (.string bytes, d) => bytes.length + uptoBulk d + 1
  | (_, d) => uptoBulk d + 1
 end
def uptoSmall : (H : Type) → List (DataW H) → Bool := fun _ ds => decide (uptoBulkAll ds ≤ 1048576)
def OpenSpec.upto (s : _root_.Go.ChangeSpec) : _root_.Go.OpenSpec := { _root_.Go.OpenSpec.ofChange s with cond := some uptoSmall }

/-- 'abacistlaw14.DraftSplices', WHERE WHAT IT READS IS OF BULK AT MOST 1048576: true; the input reads as it did. -/
def draftSplicesUptoRow : OpenClaim := { program := "ytgjmcanjlcblgaa", sum := "c12ea6adbf67df3ab113c0e08c3be25067e3be2e9370497f460e8da4172f94b7", func := "abacist/abacistlaw14.DraftSplices", spec := "draftSplices", unfollowed := true, recurses := true, apart := false, narrowed := true }
def DraftSplicesUptoSaid : Prop := draftSplicesUptoRow.holds Try.pinned (OpenSpec.upto draftSplicesSpec)

/-- 'abacistlaw14.DraftBack', WHERE WHAT IT READS IS OF BULK AT MOST 1048576: true; the input reads as it did. -/
def draftBackUptoRow : OpenClaim := { program := "ytgjmcanjlcblgaa", sum := "c12ea6adbf67df3ab113c0e08c3be25067e3be2e9370497f460e8da4172f94b7", func := "abacist/abacistlaw14.DraftBack", spec := "draftBack", unfollowed := true, recurses := true, apart := false, narrowed := true }
def DraftBackUptoSaid : Prop := draftBackUptoRow.holds Try.pinned (OpenSpec.upto draftBackSpec)

/-- 'abacistlaw14.DraftSame', WHERE WHAT IT READS IS OF BULK AT MOST 1048576: true; the input reads as it did. -/
def draftSameUptoRow : OpenClaim := { program := "ytgjmcanjlcblgaa", sum := "c12ea6adbf67df3ab113c0e08c3be25067e3be2e9370497f460e8da4172f94b7", func := "abacist/abacistlaw14.DraftSame", spec := "draftSame", unfollowed := true, recurses := true, apart := false, narrowed := true }
def DraftSameUptoSaid : Prop := draftSameUptoRow.holds Try.pinned (OpenSpec.upto draftSameSpec)

/-- 'abacistlaw05.DigitRow', WHERE WHAT IT READS IS OF BULK AT MOST 1048576: true; the input reads as it did. -/
def digitRowUptoRow : OpenClaim := { program := "ytgjmcanjlcblgaa", sum := "c12ea6adbf67df3ab113c0e08c3be25067e3be2e9370497f460e8da4172f94b7", func := "abacist/abacistlaw05.DigitRow", spec := "digitRow", unfollowed := true, recurses := true, apart := false, narrowed := true }
def DigitRowUptoSaid : Prop := digitRowUptoRow.holds Try.pinned (OpenSpec.upto digitRowSpec)

/-- 'abacistlaw05.DigitSums', WHERE WHAT IT READS IS OF BULK AT MOST 1048576: true; the input reads as it did. -/
def digitSumsUptoRow : OpenClaim := { program := "ytgjmcanjlcblgaa", sum := "c12ea6adbf67df3ab113c0e08c3be25067e3be2e9370497f460e8da4172f94b7", func := "abacist/abacistlaw05.DigitSums", spec := "digitSums", unfollowed := true, recurses := true, apart := false, narrowed := true }
def DigitSumsUptoSaid : Prop := digitSumsUptoRow.holds Try.pinned (OpenSpec.upto digitSumsSpec)

/-- 'abacistlaw05.DigitSubs', WHERE WHAT IT READS IS OF BULK AT MOST 1048576: true; the input reads as it did. -/
def digitSubsUptoRow : OpenClaim := { program := "ytgjmcanjlcblgaa", sum := "c12ea6adbf67df3ab113c0e08c3be25067e3be2e9370497f460e8da4172f94b7", func := "abacist/abacistlaw05.DigitSubs", spec := "digitSubs", unfollowed := true, recurses := true, apart := false, narrowed := true }
def DigitSubsUptoSaid : Prop := digitSubsUptoRow.holds Try.pinned (OpenSpec.upto digitSubsSpec)

/-- 'abacistlaw05.DigitTrims', WHERE WHAT IT READS IS OF BULK AT MOST 1048576: true; the input reads as it did. -/
def digitTrimsUptoRow : OpenClaim := { program := "ytgjmcanjlcblgaa", sum := "c12ea6adbf67df3ab113c0e08c3be25067e3be2e9370497f460e8da4172f94b7", func := "abacist/abacistlaw05.DigitTrims", spec := "digitTrims", unfollowed := true, recurses := true, apart := false, narrowed := true }
def DigitTrimsUptoSaid : Prop := digitTrimsUptoRow.holds Try.pinned (OpenSpec.upto digitTrimsSpec)

/-- 'abacistlaw05.DigitTimes', WHERE WHAT IT READS IS OF BULK AT MOST 1048576: true; the input reads as it did. -/
def digitTimesUptoRow : OpenClaim := { program := "ytgjmcanjlcblgaa", sum := "c12ea6adbf67df3ab113c0e08c3be25067e3be2e9370497f460e8da4172f94b7", func := "abacist/abacistlaw05.DigitTimes", spec := "digitTimes", unfollowed := true, recurses := true, apart := false, narrowed := true }
def DigitTimesUptoSaid : Prop := digitTimesUptoRow.holds Try.pinned (OpenSpec.upto digitTimesSpec)

/-- 'abacistlaw05.DigitShifts', WHERE WHAT IT READS IS OF BULK AT MOST 1048576: true; the input reads as it did. -/
def digitShiftsUptoRow : OpenClaim := { program := "ytgjmcanjlcblgaa", sum := "c12ea6adbf67df3ab113c0e08c3be25067e3be2e9370497f460e8da4172f94b7", func := "abacist/abacistlaw05.DigitShifts", spec := "digitShifts", unfollowed := true, recurses := true, apart := false, narrowed := true }
def DigitShiftsUptoSaid : Prop := digitShiftsUptoRow.holds Try.pinned (OpenSpec.upto digitShiftsSpec)

/-- 'abacistlaw14.DraftTold', WHERE WHAT IT READS IS OF BULK AT MOST 1048576: true; the input reads as it did. -/
def draftToldUptoRow : OpenClaim := { program := "ytgjmcanjlcblgaa", sum := "c12ea6adbf67df3ab113c0e08c3be25067e3be2e9370497f460e8da4172f94b7", func := "abacist/abacistlaw14.DraftTold", spec := "draftTold", unfollowed := true, recurses := true, apart := false, narrowed := true }
def DraftToldUptoSaid : Prop := draftToldUptoRow.holds Try.pinned (OpenSpec.upto draftToldSpec)

/-- 'abacistlaw05.DigitTexts', WHERE WHAT IT READS IS OF BULK AT MOST 1048576: true; the input reads as it did. -/
def digitTextsUptoRow : OpenClaim := { program := "ytgjmcanjlcblgaa", sum := "c12ea6adbf67df3ab113c0e08c3be25067e3be2e9370497f460e8da4172f94b7", func := "abacist/abacistlaw05.DigitTexts", spec := "digitTexts", unfollowed := true, recurses := true, apart := false, narrowed := true }
def DigitTextsUptoSaid : Prop := digitTextsUptoRow.holds Try.pinned (OpenSpec.upto digitTextsSpec)

/-- 'abacistlaw14.DraftFrom', WHERE WHAT IT READS IS OF BULK AT MOST 1048576: true; the input reads as it did. -/
def draftFromUptoRow : OpenClaim := { program := "ytgjmcanjlcblgaa", sum := "c12ea6adbf67df3ab113c0e08c3be25067e3be2e9370497f460e8da4172f94b7", func := "abacist/abacistlaw14.DraftFrom", spec := "draftFrom", unfollowed := true, recurses := true, apart := false, narrowed := true }
def DraftFromUptoSaid : Prop := draftFromUptoRow.holds Try.pinned (OpenSpec.upto draftFromSpec)

end Rows
end Go.Proofs.Ytgjmcanjlcblgaa
