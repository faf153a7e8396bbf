/- From the reading of an argument to what the walks ask of it. No condition. -/
import Derived.Test.YtegmdjfohlomnaaDoorRows
import Derived.Test.YtegmdjfohlomnaaDoorDa
import Derived.ProofKit
import Derived.OpenShut
import Derived.ShutString
import Derived.ChangeOld
import Derived.Lib.SmallJoins
namespace Go.Proofs.YtegmdjfohlomnaaDoor
open Go.ChangeShapes Go.WideShapes Go.ChangeAt Go.RowKit
open Go.ChangeMaps (open_string shut_string)

theorem own : ownKnob Tryd.prog.godebug = none := by kernel_rfl
theorem laidOut : laidOutB Tryd.prog = true := by kernel_rfl

section
variable {H : Type} {enc : TypeId × Value → H} {W : World}
theorem wf_bd {n : Int} (h : (Lit.int .i64 n).wf = true) : -9223372036854775808 ≤ n ∧ n ≤ 9223372036854775807 := by
  exact bounds_i64 h

theorem arg_ints {fuel : Nat} {v : Value} {x : DataW H × List MemPlace} (h : DataW.trod enc Tryd.prog W 0 (fun _ => true) true fuel 50 [v] = some x) :
    ∃ A n c l, v = .slice A n c ∧ IL W A n c l ∧ I64 l := by
  rcases open_ints Tryd.underlying50 Tryd.underlying3 (by kernel_rfl) h with ⟨hcs, _⟩ | ⟨a, len, cap, zs, hcs, _, hl, hm, hz, _, hcell, hwz⟩
  · simp at hcs
    exact ⟨none, 0, 0, [], hcs, IL.nil _, fun x hx => by cases hx⟩
  · simp at hcs
    have hz' : zs.length = cap := by simpa using hz
    refine ⟨some a, len, cap, zs.take len, hcs, ⟨by simp; omega, hl, by simpa [maxLen] using hm, fun hn => ?_⟩, fun x hx => wf_bd (hwz x (List.mem_of_mem_take hx))⟩
    have hc0 := hcell 0 (by omega)
    obtain ⟨b, off, spot⟩ := a
    have hspot : spot = none := by simpa [Addr.add] using World.cell?_spot hc0
    subst hspot
    refine ⟨b, off, rfl, World.block_lt_of_cell? W _ hc0, fun j v hj => ?_⟩
    rw [List.getElem?_map, List.getElem?_take] at hj
    split at hj
    · rename_i hjl
      have hjz : j < zs.length := by omega
      rw [List.getElem?_eq_getElem hjz] at hj
      simp at hj
      have := hcell j hjz
      rw [Addr.add_lit] at this
      rw [this, ← hj]
      simp [List.getD, List.getElem?_eq_getElem hjz]
    · cases hj
theorem arg_int {fuel : Nat} {v : Value} {x : DataW H × List MemPlace} (h : DataW.trod enc Tryd.prog W 0 (fun _ => true) true fuel 3 [v] = some x) :
    ∃ n : Int, v = .int .i64 n ∧ -9223372036854775808 ≤ n ∧ n ≤ 9223372036854775807 := by
  obtain ⟨n, e0, _, hw⟩ := DataW.trod_int Tryd.underlying3 h
  simp at e0
  exact ⟨n, e0, wf_bd hw⟩
theorem arg_bool {fuel : Nat} {v : Value} {x : DataW H × List MemPlace} (h : DataW.trod enc Tryd.prog W 0 (fun _ => true) true fuel 4 [v] = some x) : ∃ b : Bool, v = .bool b := by
  obtain ⟨b, e0, _⟩ := DataW.trod_bool Tryd.underlying4 h
  simp at e0
  exact ⟨b, e0⟩
end
end Go.Proofs.YtegmdjfohlomnaaDoor
