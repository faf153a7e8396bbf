/- The walks of drafts: atoms, how many there are, cut and made ones. No condition. -/
import Derived.Test.YtaolimhbeoocjaaDr1
import Derived.Deep.DeepCutAuto
namespace Go.Proofs.Ytaolimhbeoocjaa
open Go.RowKit

theorem box4 {w W : World} {t : TypeId} {a b c d : Value} (h : Below (w.alloc (.cells #[a, b, c, d] t)).heap.size (w.alloc (.cells #[a, b, c, d] t)) W) :
    W.cell? ⟨w.heap.size, 0, none⟩ = some a ∧ W.cell? ⟨w.heap.size, 1, none⟩ = some b ∧ W.cell? ⟨w.heap.size, 2, none⟩ = some c ∧ W.cell? ⟨w.heap.size, 3, none⟩ = some d := by
  refine ⟨?_, ?_, ?_, ?_⟩ <;>
  · rw [h.cell (by simp), World.cell?_alloc_at _ _ _ _ rfl]; rfl

/-- What a new block holds, beside which a call has gone by. -/
theorem fresh4 {w W : World} {t : TypeId} {a b c d : Value} (h : Below (w.heap.size + 1) (w.alloc (.cells #[a, b, c, d] t)).drew W) :
    (W.cell? ⟨w.heap.size, 0, none⟩ = some a ∧ W.cell? ⟨w.heap.size, 1, none⟩ = some b ∧ W.cell? ⟨w.heap.size, 2, none⟩ = some c ∧ W.cell? ⟨w.heap.size, 3, none⟩ = some d) ∧
    (W.frozen? ⟨w.heap.size, 0, none⟩ = false ∧ W.frozen? ⟨w.heap.size, 1, none⟩ = false ∧ W.frozen? ⟨w.heap.size, 2, none⟩ = false ∧ W.frozen? ⟨w.heap.size, 3, none⟩ = false) := by
  have h' : Below (w.alloc (.cells #[a, b, c, d] t)).heap.size (w.alloc (.cells #[a, b, c, d] t)) W := by
    refine ⟨h.os, h.tape, h.output, h.size, fun k hk => h.block k (by simpa using hk)⟩
  refine ⟨box4 h', ?_, ?_, ?_, ?_⟩ <;>
  · rw [h'.frozen (by simp)]
    exact World.frozen?_alloc_at _ _ _ _ rfl

/-! ### Cut and made ones -/
def goodL11 (l : List Int) (most : Nat) : List Int := (l.take most).map fun x => around x 11
theorem goodL11_succ (l : List Int) (k : Nat) (hk : k < l.length) : goodL11 l (k + 1) = goodL11 l k ++ [around (l.getD k 0) 11] := by
  unfold goodL11
  have e : l.getD k 0 = l[k] := by simp [List.getD, List.getElem?_eq_getElem hk]
  rw [List.take_succ_eq_append_getElem hk, List.map_append, e]
  rfl
theorem goodL11_all (l : List Int) (k m : Nat) (h : l.length ≤ k) (h2 : l.length ≤ m) : goodL11 l k = goodL11 l m := by
  unfold goodL11
  rw [List.take_of_length_le h, List.take_of_length_le h2]
theorem goodL11_bd (l : List Int) (m : Nat) : ∀ x, x ∈ goodL11 l m → 0 ≤ x ∧ x ≤ 10 := by
  intro x hx
  obtain ⟨y, _, rfl⟩ := List.mem_map.1 hx
  have := around_bd y 11 (by omega)
  omega
theorem goodL11_len (l : List Int) (m : Nat) : (goodL11 l m).length = min m l.length := by simp [goodL11]

end Go.Proofs.Ytaolimhbeoocjaa
