/-
  No cell of these rows narrows 'for every input' (looked for: loops, veiled, ifaces, maps, wideKeys, modest, calm, conditions, laid).
  DERIVED. THE GIVEN ROWS OF THIS SEAT. 15 by the template 'for every input the law returns true; each argument reads behind the call as it read before'; 0 by the template 'total and deterministic' (their statements: YtnndiikogaoeiaaTotals.lean).
  GIVEN WITH THE SEED: the statements are not yours to turn. If you find one false, say at which input.
  Laid BY PROGRAM, IN A SANDBOX (cutbox-rows.mjs): the forced cells as the released guide's own fill.sh prints them over the translation b4a81fb07aa0b863… (all of the seat's roots in one cut). By AI agents, Wed Nov 11 2026. No macro, syntax, notation, axiom, sorry.
-/
import Derived.Test.YtnndiikogaoeiaaChecked
import GoSem.Claim
import GoSem.ClaimJoined
import GoSem.ClaimMapViews
import Derived.JoinedTies
import Derived.KernelRfl
namespace Go.Proofs.Ytnndiikogaoeiaa
/- THE CELL 'sum', in the pinned program and in every row, IS THE sha256 OF THE DUMP (.gsa) THAT YtnndiikogaoeiaaProg.lean LOADS. Nothing in Lean hashes anything: it is a label: what it is worth is what the hold of that sum in a sandbox is worth. -/
noncomputable def Try.pinned : Pinned := { name := "ytnndiikogaoeiaa", sum := "b4a81fb07aa0b86375eaf99739a012aecf549cd43b2a0d1a49fd6e457794eace", checked := Try.checked }
namespace Rows
def none {H : Type} : Left H := { results := [], args := [] }

/-- 'abacistlaw07.RoundTo': WHATEVER THE INPUT: true; the input reads as it did. -/
def roundToSpec : ChangeSpec := { name := "roundTo", fn := fun _ => fun
  | [d1, d2, d3] => { results := [.lit (.bool true)], args := [d1, d2, d3] }
  | _ => none }
def roundToRow : OpenClaim := { program := "ytnndiikogaoeiaa", sum := "b4a81fb07aa0b86375eaf99739a012aecf549cd43b2a0d1a49fd6e457794eace", func := "abacist/abacistlaw07.RoundTo", spec := "roundTo", unfollowed := true, recurses := true, apart := false }
def RoundToSaid : Prop := roundToRow.holds Try.pinned (OpenSpec.ofChange roundToSpec)

/-- ITS FALSE NEIGHBOUR: 'it returns false'. Refute it at one input. -/
def roundToWrong : ChangeSpec := { name := "roundTo", fn := fun _ => fun
  | [d1, d2, d3] => { results := [.lit (.bool false)], args := [d1, d2, d3] }
  | _ => none }
def RoundToWrongFalsely : Prop := roundToRow.holds Try.pinned (OpenSpec.ofChange roundToWrong)

/-- 'abacistlaw07.RoundRow': WHATEVER THE INPUT: true; the input reads as it did. -/
def roundRowSpec : ChangeSpec := { name := "roundRow", fn := fun _ => fun
  | [d1, d2, d3, d4] => { results := [.lit (.bool true)], args := [d1, d2, d3, d4] }
  | _ => none }
def roundRowRow : OpenClaim := { program := "ytnndiikogaoeiaa", sum := "b4a81fb07aa0b86375eaf99739a012aecf549cd43b2a0d1a49fd6e457794eace", func := "abacist/abacistlaw07.RoundRow", spec := "roundRow", unfollowed := true, recurses := true, apart := false }
def RoundRowSaid : Prop := roundRowRow.holds Try.pinned (OpenSpec.ofChange roundRowSpec)

/-- ITS FALSE NEIGHBOUR: 'it returns false'. Refute it at one input. -/
def roundRowWrong : ChangeSpec := { name := "roundRow", fn := fun _ => fun
  | [d1, d2, d3, d4] => { results := [.lit (.bool false)], args := [d1, d2, d3, d4] }
  | _ => none }
def RoundRowWrongFalsely : Prop := roundRowRow.holds Try.pinned (OpenSpec.ofChange roundRowWrong)

/-- 'abacistlaw07.RoundFar': WHATEVER THE INPUT: true; the input reads as it did. -/
def roundFarSpec : ChangeSpec := { name := "roundFar", fn := fun _ => fun
  | [d1, d2, d3] => { results := [.lit (.bool true)], args := [d1, d2, d3] }
  | _ => none }
def roundFarRow : OpenClaim := { program := "ytnndiikogaoeiaa", sum := "b4a81fb07aa0b86375eaf99739a012aecf549cd43b2a0d1a49fd6e457794eace", func := "abacist/abacistlaw07.RoundFar", spec := "roundFar", unfollowed := true, recurses := true, apart := false }
def RoundFarSaid : Prop := roundFarRow.holds Try.pinned (OpenSpec.ofChange roundFarSpec)

/-- ITS FALSE NEIGHBOUR: 'it returns false'. Refute it at one input. -/
def roundFarWrong : ChangeSpec := { name := "roundFar", fn := fun _ => fun
  | [d1, d2, d3] => { results := [.lit (.bool false)], args := [d1, d2, d3] }
  | _ => none }
def RoundFarWrongFalsely : Prop := roundFarRow.holds Try.pinned (OpenSpec.ofChange roundFarWrong)

/-- 'abacistlaw07.RoundMirror': WHATEVER THE INPUT: true; the input reads as it did. -/
def roundMirrorSpec : ChangeSpec := { name := "roundMirror", fn := fun _ => fun
  | [d1, d2, d3] => { results := [.lit (.bool true)], args := [d1, d2, d3] }
  | _ => none }
def roundMirrorRow : OpenClaim := { program := "ytnndiikogaoeiaa", sum := "b4a81fb07aa0b86375eaf99739a012aecf549cd43b2a0d1a49fd6e457794eace", func := "abacist/abacistlaw07.RoundMirror", spec := "roundMirror", unfollowed := true, recurses := true, apart := false }
def RoundMirrorSaid : Prop := roundMirrorRow.holds Try.pinned (OpenSpec.ofChange roundMirrorSpec)

/-- ITS FALSE NEIGHBOUR: 'it returns false'. Refute it at one input. -/
def roundMirrorWrong : ChangeSpec := { name := "roundMirror", fn := fun _ => fun
  | [d1, d2, d3] => { results := [.lit (.bool false)], args := [d1, d2, d3] }
  | _ => none }
def RoundMirrorWrongFalsely : Prop := roundMirrorRow.holds Try.pinned (OpenSpec.ofChange roundMirrorWrong)

/-- 'abacistlaw06.DecimalAdds': WHATEVER THE INPUT: true; the input reads as it did. -/
def decimalAddsSpec : ChangeSpec := { name := "decimalAdds", fn := fun _ => fun
  | [d1, d2] => { results := [.lit (.bool true)], args := [d1, d2] }
  | _ => none }
def decimalAddsRow : OpenClaim := { program := "ytnndiikogaoeiaa", sum := "b4a81fb07aa0b86375eaf99739a012aecf549cd43b2a0d1a49fd6e457794eace", func := "abacist/abacistlaw06.DecimalAdds", spec := "decimalAdds", unfollowed := true, recurses := true, apart := false }
def DecimalAddsSaid : Prop := decimalAddsRow.holds Try.pinned (OpenSpec.ofChange decimalAddsSpec)

/-- ITS FALSE NEIGHBOUR: 'it returns false'. Refute it at one input. -/
def decimalAddsWrong : ChangeSpec := { name := "decimalAdds", fn := fun _ => fun
  | [d1, d2] => { results := [.lit (.bool false)], args := [d1, d2] }
  | _ => none }
def DecimalAddsWrongFalsely : Prop := decimalAddsRow.holds Try.pinned (OpenSpec.ofChange decimalAddsWrong)

/-- 'abacistlaw07.RoundExact': WHATEVER THE INPUT: true; the input reads as it did. -/
def roundExactSpec : ChangeSpec := { name := "roundExact", fn := fun _ => fun
  | [d1, d2, d3, d4] => { results := [.lit (.bool true)], args := [d1, d2, d3, d4] }
  | _ => none }
def roundExactRow : OpenClaim := { program := "ytnndiikogaoeiaa", sum := "b4a81fb07aa0b86375eaf99739a012aecf549cd43b2a0d1a49fd6e457794eace", func := "abacist/abacistlaw07.RoundExact", spec := "roundExact", unfollowed := true, recurses := true, apart := false }
def RoundExactSaid : Prop := roundExactRow.holds Try.pinned (OpenSpec.ofChange roundExactSpec)

/-- ITS FALSE NEIGHBOUR: 'it returns false'. Refute it at one input. -/
def roundExactWrong : ChangeSpec := { name := "roundExact", fn := fun _ => fun
  | [d1, d2, d3, d4] => { results := [.lit (.bool false)], args := [d1, d2, d3, d4] }
  | _ => none }
def RoundExactWrongFalsely : Prop := roundExactRow.holds Try.pinned (OpenSpec.ofChange roundExactWrong)

/-- 'abacistlaw06.DecimalRow': WHATEVER THE INPUT: true; the input reads as it did. -/
def decimalRowSpec : ChangeSpec := { name := "decimalRow", fn := fun _ => fun
  | [d1, d2, d3] => { results := [.lit (.bool true)], args := [d1, d2, d3] }
  | _ => none }
def decimalRowRow : OpenClaim := { program := "ytnndiikogaoeiaa", sum := "b4a81fb07aa0b86375eaf99739a012aecf549cd43b2a0d1a49fd6e457794eace", func := "abacist/abacistlaw06.DecimalRow", spec := "decimalRow", unfollowed := true, recurses := true, apart := false }
def DecimalRowSaid : Prop := decimalRowRow.holds Try.pinned (OpenSpec.ofChange decimalRowSpec)

/-- ITS FALSE NEIGHBOUR: 'it returns false'. Refute it at one input. -/
def decimalRowWrong : ChangeSpec := { name := "decimalRow", fn := fun _ => fun
  | [d1, d2, d3] => { results := [.lit (.bool false)], args := [d1, d2, d3] }
  | _ => none }
def DecimalRowWrongFalsely : Prop := decimalRowRow.holds Try.pinned (OpenSpec.ofChange decimalRowWrong)

/-- 'abacistlaw07.RoundNames': WHATEVER THE INPUT: true; the input reads as it did. -/
def roundNamesSpec : ChangeSpec := { name := "roundNames", fn := fun _ => fun
  | [d1, d2] => { results := [.lit (.bool true)], args := [d1, d2] }
  | _ => none }
def roundNamesRow : OpenClaim := { program := "ytnndiikogaoeiaa", sum := "b4a81fb07aa0b86375eaf99739a012aecf549cd43b2a0d1a49fd6e457794eace", func := "abacist/abacistlaw07.RoundNames", spec := "roundNames", unfollowed := true, recurses := true, apart := false }
def RoundNamesSaid : Prop := roundNamesRow.holds Try.pinned (OpenSpec.ofChange roundNamesSpec)

/-- ITS FALSE NEIGHBOUR: 'it returns false'. Refute it at one input. -/
def roundNamesWrong : ChangeSpec := { name := "roundNames", fn := fun _ => fun
  | [d1, d2] => { results := [.lit (.bool false)], args := [d1, d2] }
  | _ => none }
def RoundNamesWrongFalsely : Prop := roundNamesRow.holds Try.pinned (OpenSpec.ofChange roundNamesWrong)

/-- 'abacistlaw06.DecimalTrims': WHATEVER THE INPUT: true; the input reads as it did. -/
def decimalTrimsSpec : ChangeSpec := { name := "decimalTrims", fn := fun _ => fun
  | [d] => { results := [.lit (.bool true)], args := [d] }
  | _ => none }
def decimalTrimsRow : OpenClaim := { program := "ytnndiikogaoeiaa", sum := "b4a81fb07aa0b86375eaf99739a012aecf549cd43b2a0d1a49fd6e457794eace", func := "abacist/abacistlaw06.DecimalTrims", spec := "decimalTrims", unfollowed := true, recurses := true, apart := false }
def DecimalTrimsSaid : Prop := decimalTrimsRow.holds Try.pinned (OpenSpec.ofChange decimalTrimsSpec)

/-- ITS FALSE NEIGHBOUR: 'it returns false'. Refute it at one input. -/
def decimalTrimsWrong : ChangeSpec := { name := "decimalTrims", fn := fun _ => fun
  | [d] => { results := [.lit (.bool false)], args := [d] }
  | _ => none }
def DecimalTrimsWrongFalsely : Prop := decimalTrimsRow.holds Try.pinned (OpenSpec.ofChange decimalTrimsWrong)

/-- 'abacistlaw06.DecimalDigits': WHATEVER THE INPUT: true; the input reads as it did. -/
def decimalDigitsSpec : ChangeSpec := { name := "decimalDigits", fn := fun _ => fun
  | [d] => { results := [.lit (.bool true)], args := [d] }
  | _ => none }
def decimalDigitsRow : OpenClaim := { program := "ytnndiikogaoeiaa", sum := "b4a81fb07aa0b86375eaf99739a012aecf549cd43b2a0d1a49fd6e457794eace", func := "abacist/abacistlaw06.DecimalDigits", spec := "decimalDigits", unfollowed := true, recurses := true, apart := false }
def DecimalDigitsSaid : Prop := decimalDigitsRow.holds Try.pinned (OpenSpec.ofChange decimalDigitsSpec)

/-- ITS FALSE NEIGHBOUR: 'it returns false'. Refute it at one input. -/
def decimalDigitsWrong : ChangeSpec := { name := "decimalDigits", fn := fun _ => fun
  | [d] => { results := [.lit (.bool false)], args := [d] }
  | _ => none }
def DecimalDigitsWrongFalsely : Prop := decimalDigitsRow.holds Try.pinned (OpenSpec.ofChange decimalDigitsWrong)

/-- 'abacistlaw06.DecimalTimes': WHATEVER THE INPUT: true; the input reads as it did. -/
def decimalTimesSpec : ChangeSpec := { name := "decimalTimes", fn := fun _ => fun
  | [d1, d2] => { results := [.lit (.bool true)], args := [d1, d2] }
  | _ => none }
def decimalTimesRow : OpenClaim := { program := "ytnndiikogaoeiaa", sum := "b4a81fb07aa0b86375eaf99739a012aecf549cd43b2a0d1a49fd6e457794eace", func := "abacist/abacistlaw06.DecimalTimes", spec := "decimalTimes", unfollowed := true, recurses := true, apart := false }
def DecimalTimesSaid : Prop := decimalTimesRow.holds Try.pinned (OpenSpec.ofChange decimalTimesSpec)

/-- ITS FALSE NEIGHBOUR: 'it returns false'. Refute it at one input. -/
def decimalTimesWrong : ChangeSpec := { name := "decimalTimes", fn := fun _ => fun
  | [d1, d2] => { results := [.lit (.bool false)], args := [d1, d2] }
  | _ => none }
def DecimalTimesWrongFalsely : Prop := decimalTimesRow.holds Try.pinned (OpenSpec.ofChange decimalTimesWrong)

/-- 'abacistlaw06.DecimalAligns': WHATEVER THE INPUT: true; the input reads as it did. -/
def decimalAlignsSpec : ChangeSpec := { name := "decimalAligns", fn := fun _ => fun
  | [d1, d2] => { results := [.lit (.bool true)], args := [d1, d2] }
  | _ => none }
def decimalAlignsRow : OpenClaim := { program := "ytnndiikogaoeiaa", sum := "b4a81fb07aa0b86375eaf99739a012aecf549cd43b2a0d1a49fd6e457794eace", func := "abacist/abacistlaw06.DecimalAligns", spec := "decimalAligns", unfollowed := true, recurses := true, apart := false }
def DecimalAlignsSaid : Prop := decimalAlignsRow.holds Try.pinned (OpenSpec.ofChange decimalAlignsSpec)

/-- ITS FALSE NEIGHBOUR: 'it returns false'. Refute it at one input. -/
def decimalAlignsWrong : ChangeSpec := { name := "decimalAligns", fn := fun _ => fun
  | [d1, d2] => { results := [.lit (.bool false)], args := [d1, d2] }
  | _ => none }
def DecimalAlignsWrongFalsely : Prop := decimalAlignsRow.holds Try.pinned (OpenSpec.ofChange decimalAlignsWrong)

/-- 'abacistlaw07.RoundClamps': WHATEVER THE INPUT: true; the input reads as it did. -/
def roundClampsSpec : ChangeSpec := { name := "roundClamps", fn := fun _ => fun
  | [d1, d2, d3] => { results := [.lit (.bool true)], args := [d1, d2, d3] }
  | _ => none }
def roundClampsRow : OpenClaim := { program := "ytnndiikogaoeiaa", sum := "b4a81fb07aa0b86375eaf99739a012aecf549cd43b2a0d1a49fd6e457794eace", func := "abacist/abacistlaw07.RoundClamps", spec := "roundClamps", unfollowed := true, recurses := true, apart := false }
def RoundClampsSaid : Prop := roundClampsRow.holds Try.pinned (OpenSpec.ofChange roundClampsSpec)

/-- ITS FALSE NEIGHBOUR: 'it returns false'. Refute it at one input. -/
def roundClampsWrong : ChangeSpec := { name := "roundClamps", fn := fun _ => fun
  | [d1, d2, d3] => { results := [.lit (.bool false)], args := [d1, d2, d3] }
  | _ => none }
def RoundClampsWrongFalsely : Prop := roundClampsRow.holds Try.pinned (OpenSpec.ofChange roundClampsWrong)

/-- 'abacistlaw06.DecimalParses': WHATEVER THE INPUT: true; the input reads as it did. -/
def decimalParsesSpec : ChangeSpec := { name := "decimalParses", fn := fun _ => fun
  | [d1, d2, d3, d4] => { results := [.lit (.bool true)], args := [d1, d2, d3, d4] }
  | _ => none }
def decimalParsesRow : OpenClaim := { program := "ytnndiikogaoeiaa", sum := "b4a81fb07aa0b86375eaf99739a012aecf549cd43b2a0d1a49fd6e457794eace", func := "abacist/abacistlaw06.DecimalParses", spec := "decimalParses", inPlace := ["internal/bytealg.IndexByteString", "internal/bytealg.IndexString"], unfollowed := true, recurses := true, named := ["internal/bytealg.MaxLen"], apart := false }
def DecimalParsesSaid : Prop := decimalParsesRow.holds Try.pinned (OpenSpec.ofChange decimalParsesSpec)

/-- ITS FALSE NEIGHBOUR: 'it returns false'. Refute it at one input. -/
def decimalParsesWrong : ChangeSpec := { name := "decimalParses", fn := fun _ => fun
  | [d1, d2, d3, d4] => { results := [.lit (.bool false)], args := [d1, d2, d3, d4] }
  | _ => none }
def DecimalParsesWrongFalsely : Prop := decimalParsesRow.holds Try.pinned (OpenSpec.ofChange decimalParsesWrong)

/-- 'abacistlaw06.DecimalPrints': WHATEVER THE INPUT: true; the input reads as it did. -/
def decimalPrintsSpec : ChangeSpec := { name := "decimalPrints", fn := fun _ => fun
  | [d] => { results := [.lit (.bool true)], args := [d] }
  | _ => none }
def decimalPrintsRow : OpenClaim := { program := "ytnndiikogaoeiaa", sum := "b4a81fb07aa0b86375eaf99739a012aecf549cd43b2a0d1a49fd6e457794eace", func := "abacist/abacistlaw06.DecimalPrints", spec := "decimalPrints", inPlace := ["internal/bytealg.IndexByteString", "internal/bytealg.IndexString"], unfollowed := true, recurses := true, named := ["internal/bytealg.MaxLen"], apart := false }
def DecimalPrintsSaid : Prop := decimalPrintsRow.holds Try.pinned (OpenSpec.ofChange decimalPrintsSpec)

/-- ITS FALSE NEIGHBOUR: 'it returns false'. Refute it at one input. -/
def decimalPrintsWrong : ChangeSpec := { name := "decimalPrints", fn := fun _ => fun
  | [d] => { results := [.lit (.bool false)], args := [d] }
  | _ => none }
def DecimalPrintsWrongFalsely : Prop := decimalPrintsRow.holds Try.pinned (OpenSpec.ofChange decimalPrintsWrong)

/- THE SECOND FORM. 'bulk': how many values and letters a reading holds, each counted each time it is reached (what is shared counts as often as it is met; a slice's spare places count too). A statement '..UptoSaid' is the law's where the arguments, and the package variables that the reading takes, are together of bulk at most 1048576: NARROWER than '..Said'. Prove '..Said' where nothing that the law and all that it calls make is longer than what came in: it says more and counts as full. Else prove '..UptoSaid'. A law counts once. -/
mutual
def uptoBulk {H : Type} : DataW H → Nat
  | .lit (.string bytes) => bytes.length + 1
  | .lit _ => 1
  | .nil => 1
  | .ptr d => uptoBulk d + 1
  | .slice elems spare => uptoBulkAll elems + uptoBulkAll spare + 1
  | .agg parts => uptoBulkAll parts + 1
  | .iface _ d => uptoBulk d + 1
  | .map entries => uptoBulkEntries entries + 1
  | .held _ => 1
def uptoBulkAll {H : Type} : List (DataW H) → Nat
  | [] => 0
  | d :: r => uptoBulk d + uptoBulkAll r
def uptoBulkEntries {H : Type} : List (Lit × DataW H) → Nat
  | [] => 0
  | x :: r => uptoBulkEntry x + uptoBulkEntries r
def uptoBulkEntry {H : Type} : Lit × DataW H → Nat
  | (.string bytes, d) => bytes.length + uptoBulk d + 1
  | (_, d) => uptoBulk d + 1
 end
def uptoSmall : (H : Type) → List (DataW H) → Bool := fun _ ds => decide (uptoBulkAll ds ≤ 1048576)
def OpenSpec.upto (s : _root_.Go.ChangeSpec) : _root_.Go.OpenSpec := { _root_.Go.OpenSpec.ofChange s with cond := some uptoSmall }

/-- 'abacistlaw07.RoundTo', WHERE WHAT IT READS IS OF BULK AT MOST 1048576: true; the input reads as it did. -/
def roundToUptoRow : OpenClaim := { program := "ytnndiikogaoeiaa", sum := "b4a81fb07aa0b86375eaf99739a012aecf549cd43b2a0d1a49fd6e457794eace", func := "abacist/abacistlaw07.RoundTo", spec := "roundTo", unfollowed := true, recurses := true, apart := false, narrowed := true }
def RoundToUptoSaid : Prop := roundToUptoRow.holds Try.pinned (OpenSpec.upto roundToSpec)

/-- 'abacistlaw07.RoundRow', WHERE WHAT IT READS IS OF BULK AT MOST 1048576: true; the input reads as it did. -/
def roundRowUptoRow : OpenClaim := { program := "ytnndiikogaoeiaa", sum := "b4a81fb07aa0b86375eaf99739a012aecf549cd43b2a0d1a49fd6e457794eace", func := "abacist/abacistlaw07.RoundRow", spec := "roundRow", unfollowed := true, recurses := true, apart := false, narrowed := true }
def RoundRowUptoSaid : Prop := roundRowUptoRow.holds Try.pinned (OpenSpec.upto roundRowSpec)

/-- 'abacistlaw07.RoundFar', WHERE WHAT IT READS IS OF BULK AT MOST 1048576: true; the input reads as it did. -/
def roundFarUptoRow : OpenClaim := { program := "ytnndiikogaoeiaa", sum := "b4a81fb07aa0b86375eaf99739a012aecf549cd43b2a0d1a49fd6e457794eace", func := "abacist/abacistlaw07.RoundFar", spec := "roundFar", unfollowed := true, recurses := true, apart := false, narrowed := true }
def RoundFarUptoSaid : Prop := roundFarUptoRow.holds Try.pinned (OpenSpec.upto roundFarSpec)

/-- 'abacistlaw07.RoundMirror', WHERE WHAT IT READS IS OF BULK AT MOST 1048576: true; the input reads as it did. -/
def roundMirrorUptoRow : OpenClaim := { program := "ytnndiikogaoeiaa", sum := "b4a81fb07aa0b86375eaf99739a012aecf549cd43b2a0d1a49fd6e457794eace", func := "abacist/abacistlaw07.RoundMirror", spec := "roundMirror", unfollowed := true, recurses := true, apart := false, narrowed := true }
def RoundMirrorUptoSaid : Prop := roundMirrorUptoRow.holds Try.pinned (OpenSpec.upto roundMirrorSpec)

/-- 'abacistlaw06.DecimalAdds', WHERE WHAT IT READS IS OF BULK AT MOST 1048576: true; the input reads as it did. -/
def decimalAddsUptoRow : OpenClaim := { program := "ytnndiikogaoeiaa", sum := "b4a81fb07aa0b86375eaf99739a012aecf549cd43b2a0d1a49fd6e457794eace", func := "abacist/abacistlaw06.DecimalAdds", spec := "decimalAdds", unfollowed := true, recurses := true, apart := false, narrowed := true }
def DecimalAddsUptoSaid : Prop := decimalAddsUptoRow.holds Try.pinned (OpenSpec.upto decimalAddsSpec)

/-- 'abacistlaw07.RoundExact', WHERE WHAT IT READS IS OF BULK AT MOST 1048576: true; the input reads as it did. -/
def roundExactUptoRow : OpenClaim := { program := "ytnndiikogaoeiaa", sum := "b4a81fb07aa0b86375eaf99739a012aecf549cd43b2a0d1a49fd6e457794eace", func := "abacist/abacistlaw07.RoundExact", spec := "roundExact", unfollowed := true, recurses := true, apart := false, narrowed := true }
def RoundExactUptoSaid : Prop := roundExactUptoRow.holds Try.pinned (OpenSpec.upto roundExactSpec)

/-- 'abacistlaw06.DecimalRow', WHERE WHAT IT READS IS OF BULK AT MOST 1048576: true; the input reads as it did. -/
def decimalRowUptoRow : OpenClaim := { program := "ytnndiikogaoeiaa", sum := "b4a81fb07aa0b86375eaf99739a012aecf549cd43b2a0d1a49fd6e457794eace", func := "abacist/abacistlaw06.DecimalRow", spec := "decimalRow", unfollowed := true, recurses := true, apart := false, narrowed := true }
def DecimalRowUptoSaid : Prop := decimalRowUptoRow.holds Try.pinned (OpenSpec.upto decimalRowSpec)

/-- 'abacistlaw07.RoundNames', WHERE WHAT IT READS IS OF BULK AT MOST 1048576: true; the input reads as it did. -/
def roundNamesUptoRow : OpenClaim := { program := "ytnndiikogaoeiaa", sum := "b4a81fb07aa0b86375eaf99739a012aecf549cd43b2a0d1a49fd6e457794eace", func := "abacist/abacistlaw07.RoundNames", spec := "roundNames", unfollowed := true, recurses := true, apart := false, narrowed := true }
def RoundNamesUptoSaid : Prop := roundNamesUptoRow.holds Try.pinned (OpenSpec.upto roundNamesSpec)

/-- 'abacistlaw06.DecimalTrims', WHERE WHAT IT READS IS OF BULK AT MOST 1048576: true; the input reads as it did. -/
def decimalTrimsUptoRow : OpenClaim := { program := "ytnndiikogaoeiaa", sum := "b4a81fb07aa0b86375eaf99739a012aecf549cd43b2a0d1a49fd6e457794eace", func := "abacist/abacistlaw06.DecimalTrims", spec := "decimalTrims", unfollowed := true, recurses := true, apart := false, narrowed := true }
def DecimalTrimsUptoSaid : Prop := decimalTrimsUptoRow.holds Try.pinned (OpenSpec.upto decimalTrimsSpec)

/-- 'abacistlaw06.DecimalDigits', WHERE WHAT IT READS IS OF BULK AT MOST 1048576: true; the input reads as it did. -/
def decimalDigitsUptoRow : OpenClaim := { program := "ytnndiikogaoeiaa", sum := "b4a81fb07aa0b86375eaf99739a012aecf549cd43b2a0d1a49fd6e457794eace", func := "abacist/abacistlaw06.DecimalDigits", spec := "decimalDigits", unfollowed := true, recurses := true, apart := false, narrowed := true }
def DecimalDigitsUptoSaid : Prop := decimalDigitsUptoRow.holds Try.pinned (OpenSpec.upto decimalDigitsSpec)

/-- 'abacistlaw06.DecimalTimes', WHERE WHAT IT READS IS OF BULK AT MOST 1048576: true; the input reads as it did. -/
def decimalTimesUptoRow : OpenClaim := { program := "ytnndiikogaoeiaa", sum := "b4a81fb07aa0b86375eaf99739a012aecf549cd43b2a0d1a49fd6e457794eace", func := "abacist/abacistlaw06.DecimalTimes", spec := "decimalTimes", unfollowed := true, recurses := true, apart := false, narrowed := true }
def DecimalTimesUptoSaid : Prop := decimalTimesUptoRow.holds Try.pinned (OpenSpec.upto decimalTimesSpec)

/-- 'abacistlaw06.DecimalAligns', WHERE WHAT IT READS IS OF BULK AT MOST 1048576: true; the input reads as it did. -/
def decimalAlignsUptoRow : OpenClaim := { program := "ytnndiikogaoeiaa", sum := "b4a81fb07aa0b86375eaf99739a012aecf549cd43b2a0d1a49fd6e457794eace", func := "abacist/abacistlaw06.DecimalAligns", spec := "decimalAligns", unfollowed := true, recurses := true, apart := false, narrowed := true }
def DecimalAlignsUptoSaid : Prop := decimalAlignsUptoRow.holds Try.pinned (OpenSpec.upto decimalAlignsSpec)

/-- 'abacistlaw07.RoundClamps', WHERE WHAT IT READS IS OF BULK AT MOST 1048576: true; the input reads as it did. -/
def roundClampsUptoRow : OpenClaim := { program := "ytnndiikogaoeiaa", sum := "b4a81fb07aa0b86375eaf99739a012aecf549cd43b2a0d1a49fd6e457794eace", func := "abacist/abacistlaw07.RoundClamps", spec := "roundClamps", unfollowed := true, recurses := true, apart := false, narrowed := true }
def RoundClampsUptoSaid : Prop := roundClampsUptoRow.holds Try.pinned (OpenSpec.upto roundClampsSpec)

/-- 'abacistlaw06.DecimalParses', WHERE WHAT IT READS IS OF BULK AT MOST 1048576: true; the input reads as it did. -/
def decimalParsesUptoRow : OpenClaim := { program := "ytnndiikogaoeiaa", sum := "b4a81fb07aa0b86375eaf99739a012aecf549cd43b2a0d1a49fd6e457794eace", func := "abacist/abacistlaw06.DecimalParses", spec := "decimalParses", inPlace := ["internal/bytealg.IndexByteString", "internal/bytealg.IndexString"], unfollowed := true, recurses := true, named := ["internal/bytealg.MaxLen"], apart := false, narrowed := true }
def DecimalParsesUptoSaid : Prop := decimalParsesUptoRow.holds Try.pinned (OpenSpec.upto decimalParsesSpec)

/-- 'abacistlaw06.DecimalPrints', WHERE WHAT IT READS IS OF BULK AT MOST 1048576: true; the input reads as it did. -/
def decimalPrintsUptoRow : OpenClaim := { program := "ytnndiikogaoeiaa", sum := "b4a81fb07aa0b86375eaf99739a012aecf549cd43b2a0d1a49fd6e457794eace", func := "abacist/abacistlaw06.DecimalPrints", spec := "decimalPrints", inPlace := ["internal/bytealg.IndexByteString", "internal/bytealg.IndexString"], unfollowed := true, recurses := true, named := ["internal/bytealg.MaxLen"], apart := false, narrowed := true }
def DecimalPrintsUptoSaid : Prop := decimalPrintsUptoRow.holds Try.pinned (OpenSpec.upto decimalPrintsSpec)

end Rows
end Go.Proofs.Ytnndiikogaoeiaa
