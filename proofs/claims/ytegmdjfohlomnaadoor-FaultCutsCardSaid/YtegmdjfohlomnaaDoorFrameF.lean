/- From the listed variables to what the walks ask of them; a world that meets the condition; the reading of a list of texts. No condition. -/
import Derived.Test.YtegmdjfohlomnaaDoorFrame
import Derived.Test.YtegmdjfohlomnaaDoorFl6
import Derived.ChangeSame
import Derived.ChangeVars
import Derived.JoinedOf
import Derived.LaidLaws
import Derived.LaidHandle
import Derived.LaidSub
import Derived.Lib.LaidTab
import Derived.SliceStrings
namespace Go.Proofs.YtegmdjfohlomnaaDoor
open Go.ChangeShapes Go.WideShapes Go.ChangeAt Go.RowKit

def laidL : List (String × DataW Unit) := [("math/bits.deBruijn32tab", Rows.laid_math_bits_deBruijn32tab), ("math/bits.deBruijn64tab", Rows.laid_math_bits_deBruijn64tab), ("internal/strconv.uint64pow10", Rows.laid_internal_strconv_uint64pow10), ("errors.errorType", Rows.laid_errors_errorType)]
theorem laid_tab : (laidL.filter fun x => x.1 == "internal/strconv.uint64pow10") = [("internal/strconv.uint64pow10", Lib.tabData .u64 Lib.pow10Tab)] := by kernel_rfl
theorem laid_type : (laidL.filter fun x => x.1 == "errors.errorType") = [("errors.errorType", .iface "internal/reflectlite.rtype" (.agg [.ptr (.lit (.string [101, 114, 114, 111, 114]))]))] := by kernel_rfl
theorem et_at : Tryd.prog.globalNamed "errors.errorType" = some 0 := by kernel_rfl
theorem rt_at : (Tryd.prog.cutTypes.find? (·.1 == "internal/reflectlite.rtype")).map (·.2) = some 81 := by kernel_rfl
theorem types_size : Tryd.prog.types.size = 143 := by kernel_rfl
theorem one_row : ((List.range 143).filter fun t => Tryd.prog.rowNamed t [101, 114, 114, 111, 114]) = [24] := by kernel_rfl

/-- What the condition gives a walk. -/
theorem gl_of_laid {W : World} (h : laidMetH Tryd.prog laidL W) : Gl W := by
  have h1 := laidMetH.filter (fun x => x.1 == "internal/strconv.uint64pow10") h
  have h2 := laidMetH.filter (fun x => x.1 == "errors.errorType") h
  rw [laid_tab] at h1
  rw [laid_type] at h2
  refine ⟨?_, ?_⟩
  · have h' : laidMet Tryd.prog [] W ∧ handlesMet Tryd.prog [("errors.errorType", .iface "internal/reflectlite.rtype" (.agg [.ptr (.lit (.string [101, 114, 114, 111, 114]))]))] W := h2
    obtain ⟨name, u, ty, e1, e2, e3, e4, e5⟩ := h'.2 _ (List.mem_singleton.2 rfl)
    have en : name = [101, 114, 114, 111, 114] := (Option.some.inj e1).symm
    subst en
    obtain rfl := Option.some.inj (rt_at.symm.trans e2)
    have hm : ty ∈ (List.range 143).filter fun t => Tryd.prog.rowNamed t [101, 114, 114, 111, 114] := List.mem_filter.2 ⟨List.mem_range.2 (by rw [← types_size]; exact e3), e4⟩
    rw [one_row] at hm
    obtain rfl := List.mem_singleton.1 hm
    have hh : typeHandle Tryd.prog 24 = .pointer (some ⟨5, 24, none⟩) := by kernel_rfl
    rw [hh] at e5
    simpa using World.var?_cell et_at e5 0
  · have h' : laidMet Tryd.prog [("internal/strconv.uint64pow10", Lib.tabData .u64 Lib.pow10Tab)] W := h1
    exact Lib.tabIs_of_head (rest := []) (g := 2) (t := 107) (e := 100) (n := 20) (by kernel_rfl) (by kernel_rfl) Tryd.underlying107 Tryd.underlying100 (by kernel_rfl) (by kernel_rfl) h'

def cellsOfTab (d : DataW Unit) : Array Value := match d with
  | .agg ps => (ps.map fun | .lit (.int k z) => Value.int k z | _ => undef).toArray
  | _ => #[]
def layAt (h : Array Obj) (g : Nat) (cs : Array Value) : Array Obj := h.modify g fun
  | .cells _ t frozen => .cells cs t frozen
  | o => o
/-- A world that meets the condition: the settled one, the four variables laid. -/
noncomputable def laidWorld (os : Os) : World :=
  let w0 := World.holding Tryd.prog os ⟨#[], #[], []⟩
  { w0 with heap := layAt (layAt (layAt (layAt w0.heap 0 #[.iface 81 (.agg #[.pointer (some ⟨5, 24, none⟩)])]) 2 (cellsOfTab Rows.laid_internal_strconv_uint64pow10))
      3 (cellsOfTab Rows.laid_math_bits_deBruijn32tab)) 4 (cellsOfTab Rows.laid_math_bits_deBruijn64tab) }
theorem laidWorld_met (os : Os) (args : Array Value) : laidMetH Tryd.prog laidL ((laidWorld os).forCall (fun _ _ => 0) ⟨#[], args, []⟩).memory :=
  laidMetH_of_parts (laidMet_of_run' 8 (by kernel_rfl) (by kernel_rfl)) (by kernel_rfl)

section
variable {H : Type} {enc : TypeId × Value → H} {W : World}
theorem arg_texts {fuel : Nat} {v : Value} {x : DataW H × List MemPlace} (h : DataW.trod enc Tryd.prog W 0 (fun _ => true) true fuel 22 [v] = some x) :
    ∃ A n c l, v = .slice A n c ∧ SL W A n c l := by
  rcases open_strings Tryd.underlying22 Tryd.underlying9 (by kernel_rfl) h with ⟨hcs, _⟩ | ⟨a, len, cap, ss, hcs, _, hl, hm, hz, _, hcell, _⟩
  · simp at hcs
    exact ⟨none, 0, 0, [], hcs, VL.nil _⟩
  · simp at hcs
    have hz' : ss.length = cap := by simpa using hz
    refine ⟨some a, len, cap, ss.take len, hcs, ⟨by simp; omega, hl, by simpa [maxLen] using hm, fun hn => ?_⟩⟩
    have hc0 := hcell 0 (by omega)
    obtain ⟨b, off, spot⟩ := a
    have hspot : spot = none := by simpa [Addr.add] using World.cell?_spot hc0
    subst hspot
    refine ⟨b, off, rfl, World.block_lt_of_cell? W _ hc0, fun j v hj => ?_⟩
    rw [List.getElem?_map, List.getElem?_take] at hj
    split at hj
    · rename_i hjl
      have hjz : j < ss.length := by omega
      rw [List.getElem?_eq_getElem hjz] at hj
      simp at hj
      have := hcell j hjz
      rw [Addr.add_lit] at this
      rw [this, ← hj]
      simp [List.getD, List.getElem?_eq_getElem hjz]
    · cases hj
end
end Go.Proofs.YtegmdjfohlomnaaDoor
