/-
  No cell of these rows narrows 'for every input' (looked for: loops, veiled, ifaces, maps, wideKeys, modest, calm, conditions, laid).
  DERIVED. THE GIVEN ROWS OF THIS SEAT. 5 by the template 'for every input the law returns true; each argument reads behind the call as it read before'; 0 by the template 'total and deterministic' (their statements: YtickhmlhciafgaaGreatTotals.lean).
  GIVEN WITH THE SEED: the statements are not yours to turn. If you find one false, say at which input.
  Laid BY PROGRAM, IN A SANDBOX (cutbox-rows.mjs): the forced cells as the released guide's own fill.sh prints them over the translation 81c26b6526a34143… (all of the seat's roots in one cut). By AI agents, Wed Nov 11 2026. No macro, syntax, notation, axiom, sorry.
-/
import Derived.Test.YtickhmlhciafgaaGreatChecked
import GoSem.Claim
import GoSem.ClaimJoined
import GoSem.ClaimMapViews
import Derived.JoinedTies
import Derived.KernelRfl
namespace Go.Proofs.YtickhmlhciafgaaGreat
/- THE CELL 'sum', in the pinned program and in every row, IS THE sha256 OF THE DUMP (.gsa) THAT YtickhmlhciafgaaGreatProg.lean LOADS. Nothing in Lean hashes anything: it is a label: what it is worth is what the hold of that sum in a sandbox is worth. -/
noncomputable def Tryz.pinned : Pinned := { name := "ytickhmlhciafgaagreat", sum := "81c26b6526a341431727847b41cf024244d511b3b0be3af79c763b20424904db", checked := Tryz.checked }
namespace Rows
def none {H : Type} : Left H := { results := [], args := [] }

/-- 'abacistlaw13.ConfigValues': WHATEVER THE INPUT: true; the input reads as it did. -/
def configValuesSpec : ChangeSpec := { name := "configValues", fn := fun _ => fun
  | [d1, d2] => { results := [.lit (.bool true)], args := [d1, d2] }
  | _ => none }
def configValuesRow : OpenClaim := { program := "ytickhmlhciafgaagreat", sum := "81c26b6526a341431727847b41cf024244d511b3b0be3af79c763b20424904db", func := "abacist/abacistlaw13.ConfigValues", spec := "configValues", inPlace := ["internal/bytealg.IndexByteString", "internal/bytealg.IndexString"], unfollowed := true, recurses := true, named := ["internal/bytealg.MaxLen"], apart := false }
def ConfigValuesSaid : Prop := configValuesRow.holds Tryz.pinned (OpenSpec.ofChange configValuesSpec)

/-- ITS FALSE NEIGHBOUR: 'it returns false'. Refute it at one input. -/
def configValuesWrong : ChangeSpec := { name := "configValues", fn := fun _ => fun
  | [d1, d2] => { results := [.lit (.bool false)], args := [d1, d2] }
  | _ => none }
def ConfigValuesWrongFalsely : Prop := configValuesRow.holds Tryz.pinned (OpenSpec.ofChange configValuesWrong)

/-- 'abacistlaw13.ConfigMoves': WHATEVER THE INPUT: true; the input reads as it did. -/
def configMovesSpec : ChangeSpec := { name := "configMoves", fn := fun _ => fun
  | [d1, d2, d3] => { results := [.lit (.bool true)], args := [d1, d2, d3] }
  | _ => none }
def configMovesRow : OpenClaim := { program := "ytickhmlhciafgaagreat", sum := "81c26b6526a341431727847b41cf024244d511b3b0be3af79c763b20424904db", func := "abacist/abacistlaw13.ConfigMoves", spec := "configMoves", inPlace := ["internal/bytealg.IndexByteString", "internal/bytealg.IndexString"], unfollowed := true, recurses := true, named := ["internal/bytealg.MaxLen"], apart := false }
def ConfigMovesSaid : Prop := configMovesRow.holds Tryz.pinned (OpenSpec.ofChange configMovesSpec)

/-- ITS FALSE NEIGHBOUR: 'it returns false'. Refute it at one input. -/
def configMovesWrong : ChangeSpec := { name := "configMoves", fn := fun _ => fun
  | [d1, d2, d3] => { results := [.lit (.bool false)], args := [d1, d2, d3] }
  | _ => none }
def ConfigMovesWrongFalsely : Prop := configMovesRow.holds Tryz.pinned (OpenSpec.ofChange configMovesWrong)

/-- 'abacistlaw20.ValueEdges': WHATEVER THE INPUT: true; the input reads as it did. -/
def valueEdgesSpec : ChangeSpec := { name := "valueEdges", fn := fun _ => fun
  | [d1, d2] => { results := [.lit (.bool true)], args := [d1, d2] }
  | _ => none }
def valueEdgesRow : OpenClaim := { program := "ytickhmlhciafgaagreat", sum := "81c26b6526a341431727847b41cf024244d511b3b0be3af79c763b20424904db", func := "abacist/abacistlaw20.ValueEdges", spec := "valueEdges", inPlace := ["internal/bytealg.IndexByteString", "internal/bytealg.IndexString"], unfollowed := true, recurses := true, named := ["internal/bytealg.MaxLen"], apart := false }
def ValueEdgesSaid : Prop := valueEdgesRow.holds Tryz.pinned (OpenSpec.ofChange valueEdgesSpec)

/-- ITS FALSE NEIGHBOUR: 'it returns false'. Refute it at one input. -/
def valueEdgesWrong : ChangeSpec := { name := "valueEdges", fn := fun _ => fun
  | [d1, d2] => { results := [.lit (.bool false)], args := [d1, d2] }
  | _ => none }
def ValueEdgesWrongFalsely : Prop := valueEdgesRow.holds Tryz.pinned (OpenSpec.ofChange valueEdgesWrong)

/-- 'abacistlaw20.ValueCommits': WHATEVER THE INPUT: true; the input reads as it did. -/
def valueCommitsSpec : ChangeSpec := { name := "valueCommits", fn := fun _ => fun
  | [d1, d2] => { results := [.lit (.bool true)], args := [d1, d2] }
  | _ => none }
def valueCommitsRow : OpenClaim := { program := "ytickhmlhciafgaagreat", sum := "81c26b6526a341431727847b41cf024244d511b3b0be3af79c763b20424904db", func := "abacist/abacistlaw20.ValueCommits", spec := "valueCommits", inPlace := ["internal/bytealg.IndexByteString", "internal/bytealg.IndexString"], unfollowed := true, recurses := true, named := ["internal/bytealg.MaxLen"], apart := false }
def ValueCommitsSaid : Prop := valueCommitsRow.holds Tryz.pinned (OpenSpec.ofChange valueCommitsSpec)

/-- ITS FALSE NEIGHBOUR: 'it returns false'. Refute it at one input. -/
def valueCommitsWrong : ChangeSpec := { name := "valueCommits", fn := fun _ => fun
  | [d1, d2] => { results := [.lit (.bool false)], args := [d1, d2] }
  | _ => none }
def ValueCommitsWrongFalsely : Prop := valueCommitsRow.holds Tryz.pinned (OpenSpec.ofChange valueCommitsWrong)

/-- 'abacistlaw20.ValueSteps': WHATEVER THE INPUT: true; the input reads as it did. -/
def valueStepsSpec : ChangeSpec := { name := "valueSteps", fn := fun _ => fun
  | [d1, d2, d3] => { results := [.lit (.bool true)], args := [d1, d2, d3] }
  | _ => none }
def valueStepsRow : OpenClaim := { program := "ytickhmlhciafgaagreat", sum := "81c26b6526a341431727847b41cf024244d511b3b0be3af79c763b20424904db", func := "abacist/abacistlaw20.ValueSteps", spec := "valueSteps", inPlace := ["internal/bytealg.IndexByteString", "internal/bytealg.IndexString"], unfollowed := true, recurses := true, named := ["internal/bytealg.MaxLen"], apart := false }
def ValueStepsSaid : Prop := valueStepsRow.holds Tryz.pinned (OpenSpec.ofChange valueStepsSpec)

/-- ITS FALSE NEIGHBOUR: 'it returns false'. Refute it at one input. -/
def valueStepsWrong : ChangeSpec := { name := "valueSteps", fn := fun _ => fun
  | [d1, d2, d3] => { results := [.lit (.bool false)], args := [d1, d2, d3] }
  | _ => none }
def ValueStepsWrongFalsely : Prop := valueStepsRow.holds Tryz.pinned (OpenSpec.ofChange valueStepsWrong)

/- THE SECOND FORM. 'bulk': how many values and letters a reading holds, each counted each time it is reached (what is shared counts as often as it is met; a slice's spare places count too). A statement '..UptoSaid' is the law's where the arguments, and the package variables that the reading takes, are together of bulk at most 1048576: NARROWER than '..Said'. Prove '..Said' where nothing that the law and all that it calls make is longer than what came in: it says more and counts as full. Else prove '..UptoSaid'. A law counts once. -/
mutual
def uptoBulk {H : Type} : DataW H → Nat
  | .lit (.string bytes) => bytes.length + 1
  | .lit _ => 1
  | .nil => 1
  | .ptr d => uptoBulk d + 1
  | .slice elems spare => uptoBulkAll elems + uptoBulkAll spare + 1
  | .agg parts => uptoBulkAll parts + 1
  | .iface _ d => uptoBulk d + 1
  | .map entries => uptoBulkEntries entries + 1
  | .held _ => 1
def uptoBulkAll {H : Type} : List (DataW H) → Nat
  | [] => 0
  | d :: r => uptoBulk d + uptoBulkAll r
def uptoBulkEntries {H : Type} : List (Lit × DataW H) → Nat
  | [] => 0
  | x :: r => uptoBulkEntry x + uptoBulkEntries r
def uptoBulkEntry {H : Type} : Lit × DataW H → Nat
  | (.string bytes, d) => bytes.length + uptoBulk d + 1
  | (_, d) => uptoBulk d + 1
 end
def uptoSmall : (H : Type) → List (DataW H) → Bool := fun _ ds => decide (uptoBulkAll ds ≤ 1048576)
def OpenSpec.upto (s : _root_.Go.ChangeSpec) : _root_.Go.OpenSpec := { _root_.Go.OpenSpec.ofChange s with cond := some uptoSmall }

/-- 'abacistlaw13.ConfigValues', WHERE WHAT IT READS IS OF BULK AT MOST 1048576: true; the input reads as it did. -/
def configValuesUptoRow : OpenClaim := { program := "ytickhmlhciafgaagreat", sum := "81c26b6526a341431727847b41cf024244d511b3b0be3af79c763b20424904db", func := "abacist/abacistlaw13.ConfigValues", spec := "configValues", inPlace := ["internal/bytealg.IndexByteString", "internal/bytealg.IndexString"], unfollowed := true, recurses := true, named := ["internal/bytealg.MaxLen"], apart := false, narrowed := true }
def ConfigValuesUptoSaid : Prop := configValuesUptoRow.holds Tryz.pinned (OpenSpec.upto configValuesSpec)

/-- 'abacistlaw13.ConfigMoves', WHERE WHAT IT READS IS OF BULK AT MOST 1048576: true; the input reads as it did. -/
def configMovesUptoRow : OpenClaim := { program := "ytickhmlhciafgaagreat", sum := "81c26b6526a341431727847b41cf024244d511b3b0be3af79c763b20424904db", func := "abacist/abacistlaw13.ConfigMoves", spec := "configMoves", inPlace := ["internal/bytealg.IndexByteString", "internal/bytealg.IndexString"], unfollowed := true, recurses := true, named := ["internal/bytealg.MaxLen"], apart := false, narrowed := true }
def ConfigMovesUptoSaid : Prop := configMovesUptoRow.holds Tryz.pinned (OpenSpec.upto configMovesSpec)

/-- 'abacistlaw20.ValueEdges', WHERE WHAT IT READS IS OF BULK AT MOST 1048576: true; the input reads as it did. -/
def valueEdgesUptoRow : OpenClaim := { program := "ytickhmlhciafgaagreat", sum := "81c26b6526a341431727847b41cf024244d511b3b0be3af79c763b20424904db", func := "abacist/abacistlaw20.ValueEdges", spec := "valueEdges", inPlace := ["internal/bytealg.IndexByteString", "internal/bytealg.IndexString"], unfollowed := true, recurses := true, named := ["internal/bytealg.MaxLen"], apart := false, narrowed := true }
def ValueEdgesUptoSaid : Prop := valueEdgesUptoRow.holds Tryz.pinned (OpenSpec.upto valueEdgesSpec)

/-- 'abacistlaw20.ValueCommits', WHERE WHAT IT READS IS OF BULK AT MOST 1048576: true; the input reads as it did. -/
def valueCommitsUptoRow : OpenClaim := { program := "ytickhmlhciafgaagreat", sum := "81c26b6526a341431727847b41cf024244d511b3b0be3af79c763b20424904db", func := "abacist/abacistlaw20.ValueCommits", spec := "valueCommits", inPlace := ["internal/bytealg.IndexByteString", "internal/bytealg.IndexString"], unfollowed := true, recurses := true, named := ["internal/bytealg.MaxLen"], apart := false, narrowed := true }
def ValueCommitsUptoSaid : Prop := valueCommitsUptoRow.holds Tryz.pinned (OpenSpec.upto valueCommitsSpec)

/-- 'abacistlaw20.ValueSteps', WHERE WHAT IT READS IS OF BULK AT MOST 1048576: true; the input reads as it did. -/
def valueStepsUptoRow : OpenClaim := { program := "ytickhmlhciafgaagreat", sum := "81c26b6526a341431727847b41cf024244d511b3b0be3af79c763b20424904db", func := "abacist/abacistlaw20.ValueSteps", spec := "valueSteps", inPlace := ["internal/bytealg.IndexByteString", "internal/bytealg.IndexString"], unfollowed := true, recurses := true, named := ["internal/bytealg.MaxLen"], apart := false, narrowed := true }
def ValueStepsUptoSaid : Prop := valueStepsUptoRow.holds Tryz.pinned (OpenSpec.upto valueStepsSpec)

end Rows
end Go.Proofs.YtickhmlhciafgaaGreat
