/- From the reading of an argument that is a list of lists to what the walk asks of it. No condition. -/
import Derived.Test.YtppkifdngjcbeaaFrame
import Derived.Test.YtppkifdngjcbeaaSum
import Derived.Deep.Matrix
namespace Go.Proofs.Ytppkifdngjcbeaa
open Go.ChangeShapes Go.WideShapes Go.ChangeAt Go.RowKit
section
variable {H : Type} {enc : TypeId × Value → H} {W : World}
theorem il_cells {A : Option Addr} {n c : Nat} {zs : List Int} (hl : n ≤ c) (hm : c ≤ 9223372036854775807) (hz : zs.length = c) (hA : A = none → c = 0)
    (hc : ∀ a, A = some a → ∀ k, k < c → W.cell? (a.add k) = some (.int .i64 (zs.getD k 0))) : IL W A n c (zs.take n) := by
  refine ⟨by simp; omega, hl, hm, fun hn => ?_⟩
  cases A with
  | none => have := hA rfl; omega
  | some a =>
    have hc0 := hc a rfl 0 (by omega)
    obtain ⟨b, off, spot⟩ := a
    have hspot : spot = none := by simpa [Addr.add] using World.cell?_spot hc0
    subst hspot
    refine ⟨b, off, rfl, World.block_lt_of_cell? W _ hc0, fun j v hj => ?_⟩
    rw [List.getElem?_map, List.getElem?_take] at hj
    split at hj
    · rename_i hjl
      have hjz : j < zs.length := by omega
      rw [List.getElem?_eq_getElem hjz] at hj
      simp at hj
      have := hc _ rfl j (by omega)
      rw [Addr.add_lit] at this
      rw [this, ← hj]
      simp [List.getD, List.getElem?_eq_getElem hjz]
    · cases hj
theorem arg_rows {fuel : Nat} {v : Value} {x : DataW H × List MemPlace} (h : DataW.trod enc Try.prog W 0 (fun _ => true) true fuel 22 [v] = some x) :
    ∃ A n c ls, v = .slice A n c ∧ LL W A n c ls ∧ ∀ l, l ∈ ls → I64 l := by
  rcases Go.Deep.open_int_rows Try.underlying22 Try.underlying23 Try.underlying3 (by kernel_rfl) (by kernel_rfl) h with ⟨hcs, _⟩ | ⟨a, len, cap, A, L, C, Z, hcs, _, hl, hm, _, hr⟩
  · simp at hcs
    exact ⟨none, 0, 0, [], hcs, ⟨[], VL.nil _, rfl, fun k hk => by simp at hk⟩, fun l hl => by cases hl⟩
  · simp at hcs
    refine ⟨some a, len, cap, (List.range len).map fun r => (Z r).take (L r), hcs, ⟨(List.range len).map fun r => .slice (A r) (L r) (C r), ⟨by simp, hl, by simpa [maxLen] using hm, fun hn => ?_⟩, by simp, fun k hk => ?_⟩, fun l hl2 => ?_⟩
    · have hc0 := (hr 0 (by omega)).1
      obtain ⟨b, off, spot⟩ := a
      have hspot : spot = none := by simpa [Addr.add] using World.cell?_spot hc0
      subst hspot
      refine ⟨b, off, rfl, World.block_lt_of_cell? W _ hc0, fun j v hj => ?_⟩
      rw [List.getElem?_map] at hj
      by_cases hjl : j < len
      · rw [List.getElem?_range hjl] at hj
        simp at hj
        have := (hr j (by omega)).1
        rw [Addr.add_lit] at this
        rw [this, ← hj]
      · rw [List.getElem?_eq_none (by simp; omega)] at hj
        cases hj
    · have hkl : k < len := by simpa using hk
      obtain ⟨_, g2, g3, g4, g5, g6, g7⟩ := hr k (by omega)
      refine ⟨A k, L k, C k, by rw [List.getElem?_map, List.getElem?_range hkl]; rfl, ?_⟩
      rw [show ((List.range len).map fun r => (Z r).take (L r)).getD k [] = (Z k).take (L k) by simp [List.getD, List.getElem?_map, List.getElem?_range hkl]]
      exact il_cells g2 (by simpa [maxLen] using g3) g4 g6 (fun a' ha' j hj => (g7 a' ha').2 j hj)
    · obtain ⟨r, hr1, rfl⟩ := List.mem_map.1 hl2
      have hrl : r < len := by simpa using hr1
      exact fun y hy => wf_bd ((hr r (by omega)).2.2.2.2.1 y (List.mem_of_mem_take hy))
end

end Go.Proofs.Ytppkifdngjcbeaa
