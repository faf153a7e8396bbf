/- The walks of small functions of the program: what looks for a number, cuts and copies. No condition. -/
import Derived.Test.YtegmdjfohlomnaaDoorDa
namespace Go.Proofs.YtegmdjfohlomnaaDoor
open Go.RowKit

theorem below_from {w w1 w' : World} (h1 : Below w.heap.size w w1) (h2 : Below w1.heap.size w1 w') : Below w.heap.size w w' := h1.trans (h2.mono h1.size)
theorem RO.from_ {w w1 : World} {l : List Int} {e : Ending} {w' : World} (h : RO w1 l e w') (hb : Below w.heap.size w w1) : RO w l e w' := by
  obtain ⟨A, n, c, he, ho, hb'⟩ := h
  exact ⟨A, n, c, he, ho.mono hb.size, below_from hb hb'⟩

/-! ### slices.IndexFunc -/
def idxP (p : Int → Bool) : List Int → Nat → Int
  | [], _ => -1
  | x :: l, k => if p x then (k : Int) else idxP p l (k + 1)
theorem idxP_drop (p : Int → Bool) (l : List Int) (k : Nat) (hk : k < l.length) : idxP p (l.drop k) k = if p (l.getD k 0) then (k : Int) else idxP p (l.drop (k + 1)) (k + 1) := by
  rw [List.drop_eq_getElem_cons hk]
  simp [idxP, List.getD, List.getElem?_eq_getElem hk]
theorem idxP_ge (p : Int → Bool) (l : List Int) (k : Nat) : idxP p l k = -1 ∨ (k ≤ idxP p l k ∧ idxP p l k < k + l.length) := by
  induction l generalizing k with
  | nil => exact .inl rfl
  | cons x l ih =>
    simp only [idxP]
    split
    · exact .inr ⟨by omega, by simp; omega⟩
    · rcases ih (k + 1) with h | h
      · exact .inl h
      · exact .inr ⟨by omega, by simp; omega⟩
theorem idxP_any (p : Int → Bool) (l : List Int) (k : Nat) : (0 ≤ idxP p l k) ↔ l.any p = true := by
  induction l generalizing k with
  | nil => simp [idxP]
  | cons x l ih =>
    simp only [idxP, List.any_cons, Bool.or_eq_true]
    split
    · simp [*]
    · rw [ih]; simp [*]

theorem idx_zeros (l : List Int) (k : Nat) : idxP (· != 0) l k = if zerosL l = l.length then -1 else ((k + zerosL l : Nat) : Int) := by
  induction l generalizing k with
  | nil => rfl
  | cons x l ih =>
    have hz := zerosL_le l
    by_cases h : x = 0
    · subst h
      have e1 : zerosL (0 :: l) = zerosL l + 1 := by simp [zerosL]
      simp only [idxP, bne_self_eq_false, Bool.false_eq_true, if_false]
      rw [ih, e1, List.length_cons]
      by_cases h2 : zerosL l = l.length
      · rw [if_pos h2, if_pos (by omega)]
      · rw [if_neg h2, if_neg (by omega)]; omega
    · have e1 : zerosL (x :: l) = 0 := by simp [zerosL, h]
      simp only [idxP]
      rw [if_pos (by simpa using h), e1, if_neg (by simp)]
      simp

theorem mayL_any (l : List Int) : mayL l = !(l.any fun x => !isDig x) := by
  induction l with
  | nil => rfl
  | cons x l ih => simp [ih]

end Go.Proofs.YtegmdjfohlomnaaDoor
