/-
  No cell of these rows narrows 'for every input' (looked for: loops, veiled, ifaces, maps, wideKeys, modest, calm, conditions, laid).
  DERIVED. THE GIVEN ROWS OF THIS SEAT. 6 by the template 'for every input the law returns true; each argument reads behind the call as it read before'; 0 by the template 'total and deterministic' (their statements: YtickhmlhciafgaaTotals.lean).
  GIVEN WITH THE SEED: the statements are not yours to turn. If you find one false, say at which input.
  Laid BY PROGRAM, IN A SANDBOX (cutbox-rows.mjs): the forced cells as the released guide's own fill.sh prints them over the translation cf4e95293ba5f6de… (all of the seat's roots in one cut). By AI agents, Wed Nov 11 2026. No macro, syntax, notation, axiom, sorry.
-/
import Derived.Test.YtickhmlhciafgaaChecked
import GoSem.Claim
import GoSem.ClaimJoined
import GoSem.ClaimMapViews
import Derived.JoinedTies
import Derived.KernelRfl
namespace Go.Proofs.Ytickhmlhciafgaa
/- THE CELL 'sum', in the pinned program and in every row, IS THE sha256 OF THE DUMP (.gsa) THAT YtickhmlhciafgaaProg.lean LOADS. Nothing in Lean hashes anything: it is a label: what it is worth is what the hold of that sum in a sandbox is worth. -/
noncomputable def Try.pinned : Pinned := { name := "ytickhmlhciafgaa", sum := "cf4e95293ba5f6de5d2163f7e2f24c697bc249702eeccef6361d4ccf8ad2fc3b", checked := Try.checked }
namespace Rows
def none {H : Type} : Left H := { results := [], args := [] }

/-- 'abacistlaw13.ConfigFits': WHATEVER THE INPUT: true; the input reads as it did. -/
def configFitsSpec : ChangeSpec := { name := "configFits", fn := fun _ => fun
  | [d1, d2] => { results := [.lit (.bool true)], args := [d1, d2] }
  | _ => none }
def configFitsRow : OpenClaim := { program := "ytickhmlhciafgaa", sum := "cf4e95293ba5f6de5d2163f7e2f24c697bc249702eeccef6361d4ccf8ad2fc3b", func := "abacist/abacistlaw13.ConfigFits", spec := "configFits", inPlace := ["internal/bytealg.IndexByteString", "internal/bytealg.IndexString"], unfollowed := true, recurses := true, named := ["internal/bytealg.MaxLen"], apart := false }
def ConfigFitsSaid : Prop := configFitsRow.holds Try.pinned (OpenSpec.ofChange configFitsSpec)

/-- ITS FALSE NEIGHBOUR: 'it returns false'. Refute it at one input. -/
def configFitsWrong : ChangeSpec := { name := "configFits", fn := fun _ => fun
  | [d1, d2] => { results := [.lit (.bool false)], args := [d1, d2] }
  | _ => none }
def ConfigFitsWrongFalsely : Prop := configFitsRow.holds Try.pinned (OpenSpec.ofChange configFitsWrong)

/-- 'abacistlaw13.ConfigBounds': WHATEVER THE INPUT: true; the input reads as it did. -/
def configBoundsSpec : ChangeSpec := { name := "configBounds", fn := fun _ => fun
  | [d1, d2, d3] => { results := [.lit (.bool true)], args := [d1, d2, d3] }
  | _ => none }
def configBoundsRow : OpenClaim := { program := "ytickhmlhciafgaa", sum := "cf4e95293ba5f6de5d2163f7e2f24c697bc249702eeccef6361d4ccf8ad2fc3b", func := "abacist/abacistlaw13.ConfigBounds", spec := "configBounds", inPlace := ["internal/bytealg.IndexByteString", "internal/bytealg.IndexString"], unfollowed := true, recurses := true, named := ["internal/bytealg.MaxLen"], apart := false }
def ConfigBoundsSaid : Prop := configBoundsRow.holds Try.pinned (OpenSpec.ofChange configBoundsSpec)

/-- ITS FALSE NEIGHBOUR: 'it returns false'. Refute it at one input. -/
def configBoundsWrong : ChangeSpec := { name := "configBounds", fn := fun _ => fun
  | [d1, d2, d3] => { results := [.lit (.bool false)], args := [d1, d2, d3] }
  | _ => none }
def ConfigBoundsWrongFalsely : Prop := configBoundsRow.holds Try.pinned (OpenSpec.ofChange configBoundsWrong)

/-- 'abacistlaw13.ConfigSigned': WHATEVER THE INPUT: true; the input reads as it did. -/
def configSignedSpec : ChangeSpec := { name := "configSigned", fn := fun _ => fun
  | [d] => { results := [.lit (.bool true)], args := [d] }
  | _ => none }
def configSignedRow : OpenClaim := { program := "ytickhmlhciafgaa", sum := "cf4e95293ba5f6de5d2163f7e2f24c697bc249702eeccef6361d4ccf8ad2fc3b", func := "abacist/abacistlaw13.ConfigSigned", spec := "configSigned", inPlace := ["internal/bytealg.IndexByteString", "internal/bytealg.IndexString"], unfollowed := true, recurses := true, named := ["internal/bytealg.MaxLen"], apart := false }
def ConfigSignedSaid : Prop := configSignedRow.holds Try.pinned (OpenSpec.ofChange configSignedSpec)

/-- ITS FALSE NEIGHBOUR: 'it returns false'. Refute it at one input. -/
def configSignedWrong : ChangeSpec := { name := "configSigned", fn := fun _ => fun
  | [d] => { results := [.lit (.bool false)], args := [d] }
  | _ => none }
def ConfigSignedWrongFalsely : Prop := configSignedRow.holds Try.pinned (OpenSpec.ofChange configSignedWrong)

/-- 'abacistlaw20.ValueBounds': WHATEVER THE INPUT: true; the input reads as it did. -/
def valueBoundsSpec : ChangeSpec := { name := "valueBounds", fn := fun _ => fun
  | [d1, d2] => { results := [.lit (.bool true)], args := [d1, d2] }
  | _ => none }
def valueBoundsRow : OpenClaim := { program := "ytickhmlhciafgaa", sum := "cf4e95293ba5f6de5d2163f7e2f24c697bc249702eeccef6361d4ccf8ad2fc3b", func := "abacist/abacistlaw20.ValueBounds", spec := "valueBounds", inPlace := ["internal/bytealg.IndexByteString", "internal/bytealg.IndexString"], unfollowed := true, recurses := true, named := ["internal/bytealg.MaxLen"], apart := false }
def ValueBoundsSaid : Prop := valueBoundsRow.holds Try.pinned (OpenSpec.ofChange valueBoundsSpec)

/-- ITS FALSE NEIGHBOUR: 'it returns false'. Refute it at one input. -/
def valueBoundsWrong : ChangeSpec := { name := "valueBounds", fn := fun _ => fun
  | [d1, d2] => { results := [.lit (.bool false)], args := [d1, d2] }
  | _ => none }
def ValueBoundsWrongFalsely : Prop := valueBoundsRow.holds Try.pinned (OpenSpec.ofChange valueBoundsWrong)

/-- 'abacistlaw20.ValuePlaces': WHATEVER THE INPUT: true; the input reads as it did. -/
def valuePlacesSpec : ChangeSpec := { name := "valuePlaces", fn := fun _ => fun
  | [d] => { results := [.lit (.bool true)], args := [d] }
  | _ => none }
def valuePlacesRow : OpenClaim := { program := "ytickhmlhciafgaa", sum := "cf4e95293ba5f6de5d2163f7e2f24c697bc249702eeccef6361d4ccf8ad2fc3b", func := "abacist/abacistlaw20.ValuePlaces", spec := "valuePlaces", inPlace := ["internal/bytealg.IndexByteString", "internal/bytealg.IndexString"], unfollowed := true, recurses := true, named := ["internal/bytealg.MaxLen"], apart := false }
def ValuePlacesSaid : Prop := valuePlacesRow.holds Try.pinned (OpenSpec.ofChange valuePlacesSpec)

/-- ITS FALSE NEIGHBOUR: 'it returns false'. Refute it at one input. -/
def valuePlacesWrong : ChangeSpec := { name := "valuePlaces", fn := fun _ => fun
  | [d] => { results := [.lit (.bool false)], args := [d] }
  | _ => none }
def ValuePlacesWrongFalsely : Prop := valuePlacesRow.holds Try.pinned (OpenSpec.ofChange valuePlacesWrong)

/-- 'abacistlaw20.ValueStays': WHATEVER THE INPUT: true; the input reads as it did. -/
def valueStaysSpec : ChangeSpec := { name := "valueStays", fn := fun _ => fun
  | [d1, d2] => { results := [.lit (.bool true)], args := [d1, d2] }
  | _ => none }
def valueStaysRow : OpenClaim := { program := "ytickhmlhciafgaa", sum := "cf4e95293ba5f6de5d2163f7e2f24c697bc249702eeccef6361d4ccf8ad2fc3b", func := "abacist/abacistlaw20.ValueStays", spec := "valueStays", inPlace := ["internal/bytealg.IndexByteString", "internal/bytealg.IndexString"], unfollowed := true, recurses := true, named := ["internal/bytealg.MaxLen"], apart := false }
def ValueStaysSaid : Prop := valueStaysRow.holds Try.pinned (OpenSpec.ofChange valueStaysSpec)

/-- ITS FALSE NEIGHBOUR: 'it returns false'. Refute it at one input. -/
def valueStaysWrong : ChangeSpec := { name := "valueStays", fn := fun _ => fun
  | [d1, d2] => { results := [.lit (.bool false)], args := [d1, d2] }
  | _ => none }
def ValueStaysWrongFalsely : Prop := valueStaysRow.holds Try.pinned (OpenSpec.ofChange valueStaysWrong)

/- THE SECOND FORM. 'bulk': how many values and letters a reading holds, each counted each time it is reached (what is shared counts as often as it is met; a slice's spare places count too). A statement '..UptoSaid' is the law's where the arguments, and the package variables that the reading takes, are together of bulk at most 1048576: NARROWER than '..Said'. Prove '..Said' where nothing that the law and all that it calls make is longer than what came in: it says more and counts as full. Else prove '..UptoSaid'. A law counts once. -/
mutual
def uptoBulk {H : Type} : DataW H → Nat
  | .lit (.string bytes) => bytes.length + 1
  | .lit _ => 1
  | .nil => 1
  | .ptr d => uptoBulk d + 1
  | .slice elems spare => uptoBulkAll elems + uptoBulkAll spare + 1
  | .agg parts => uptoBulkAll parts + 1
  | .iface _ d => uptoBulk d + 1
  | .map entries => uptoBulkEntries entries + 1
  | .held _ => 1
def uptoBulkAll {H : Type} : List (DataW H) → Nat
  | [] => 0
  | d :: r => uptoBulk d + uptoBulkAll r
def uptoBulkEntries {H : Type} : List (Lit × DataW H) → Nat
  | [] => 0
  | x :: r => uptoBulkEntry x + uptoBulkEntries r
def uptoBulkEntry {H : Type} : Lit × DataW H → Nat
  | (.string bytes, d) => bytes.length + uptoBulk d + 1
  | (_, d) => uptoBulk d + 1
 end
def uptoSmall : (H : Type) → List (DataW H) → Bool := fun _ ds => decide (uptoBulkAll ds ≤ 1048576)
def OpenSpec.upto (s : _root_.Go.ChangeSpec) : _root_.Go.OpenSpec := { _root_.Go.OpenSpec.ofChange s with cond := some uptoSmall }

/-- 'abacistlaw13.ConfigFits', WHERE WHAT IT READS IS OF BULK AT MOST 1048576: true; the input reads as it did. -/
def configFitsUptoRow : OpenClaim := { program := "ytickhmlhciafgaa", sum := "cf4e95293ba5f6de5d2163f7e2f24c697bc249702eeccef6361d4ccf8ad2fc3b", func := "abacist/abacistlaw13.ConfigFits", spec := "configFits", inPlace := ["internal/bytealg.IndexByteString", "internal/bytealg.IndexString"], unfollowed := true, recurses := true, named := ["internal/bytealg.MaxLen"], apart := false, narrowed := true }
def ConfigFitsUptoSaid : Prop := configFitsUptoRow.holds Try.pinned (OpenSpec.upto configFitsSpec)

/-- 'abacistlaw13.ConfigBounds', WHERE WHAT IT READS IS OF BULK AT MOST 1048576: true; the input reads as it did. -/
def configBoundsUptoRow : OpenClaim := { program := "ytickhmlhciafgaa", sum := "cf4e95293ba5f6de5d2163f7e2f24c697bc249702eeccef6361d4ccf8ad2fc3b", func := "abacist/abacistlaw13.ConfigBounds", spec := "configBounds", inPlace := ["internal/bytealg.IndexByteString", "internal/bytealg.IndexString"], unfollowed := true, recurses := true, named := ["internal/bytealg.MaxLen"], apart := false, narrowed := true }
def ConfigBoundsUptoSaid : Prop := configBoundsUptoRow.holds Try.pinned (OpenSpec.upto configBoundsSpec)

/-- 'abacistlaw13.ConfigSigned', WHERE WHAT IT READS IS OF BULK AT MOST 1048576: true; the input reads as it did. -/
def configSignedUptoRow : OpenClaim := { program := "ytickhmlhciafgaa", sum := "cf4e95293ba5f6de5d2163f7e2f24c697bc249702eeccef6361d4ccf8ad2fc3b", func := "abacist/abacistlaw13.ConfigSigned", spec := "configSigned", inPlace := ["internal/bytealg.IndexByteString", "internal/bytealg.IndexString"], unfollowed := true, recurses := true, named := ["internal/bytealg.MaxLen"], apart := false, narrowed := true }
def ConfigSignedUptoSaid : Prop := configSignedUptoRow.holds Try.pinned (OpenSpec.upto configSignedSpec)

/-- 'abacistlaw20.ValueBounds', WHERE WHAT IT READS IS OF BULK AT MOST 1048576: true; the input reads as it did. -/
def valueBoundsUptoRow : OpenClaim := { program := "ytickhmlhciafgaa", sum := "cf4e95293ba5f6de5d2163f7e2f24c697bc249702eeccef6361d4ccf8ad2fc3b", func := "abacist/abacistlaw20.ValueBounds", spec := "valueBounds", inPlace := ["internal/bytealg.IndexByteString", "internal/bytealg.IndexString"], unfollowed := true, recurses := true, named := ["internal/bytealg.MaxLen"], apart := false, narrowed := true }
def ValueBoundsUptoSaid : Prop := valueBoundsUptoRow.holds Try.pinned (OpenSpec.upto valueBoundsSpec)

/-- 'abacistlaw20.ValuePlaces', WHERE WHAT IT READS IS OF BULK AT MOST 1048576: true; the input reads as it did. -/
def valuePlacesUptoRow : OpenClaim := { program := "ytickhmlhciafgaa", sum := "cf4e95293ba5f6de5d2163f7e2f24c697bc249702eeccef6361d4ccf8ad2fc3b", func := "abacist/abacistlaw20.ValuePlaces", spec := "valuePlaces", inPlace := ["internal/bytealg.IndexByteString", "internal/bytealg.IndexString"], unfollowed := true, recurses := true, named := ["internal/bytealg.MaxLen"], apart := false, narrowed := true }
def ValuePlacesUptoSaid : Prop := valuePlacesUptoRow.holds Try.pinned (OpenSpec.upto valuePlacesSpec)

/-- 'abacistlaw20.ValueStays', WHERE WHAT IT READS IS OF BULK AT MOST 1048576: true; the input reads as it did. -/
def valueStaysUptoRow : OpenClaim := { program := "ytickhmlhciafgaa", sum := "cf4e95293ba5f6de5d2163f7e2f24c697bc249702eeccef6361d4ccf8ad2fc3b", func := "abacist/abacistlaw20.ValueStays", spec := "valueStays", inPlace := ["internal/bytealg.IndexByteString", "internal/bytealg.IndexString"], unfollowed := true, recurses := true, named := ["internal/bytealg.MaxLen"], apart := false, narrowed := true }
def ValueStaysUptoSaid : Prop := valueStaysUptoRow.holds Try.pinned (OpenSpec.upto valueStaysSpec)

end Rows
end Go.Proofs.Ytickhmlhciafgaa
