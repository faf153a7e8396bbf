/- The walks of what the drafts look for in lists. No condition. -/
import Derived.Test.YtaolimhbeoocjaaRb
import Derived.Test.YtaolimhbeoocjaaExt
namespace Go.Proofs.Ytaolimhbeoocjaa
open Go.RowKit

/-! ### What is no atom -/
def isAtom (x : Int) : Bool := decide (0 ≤ x) && decide (x ≤ 10)
def oddL (l : List Int) : Bool := l.any fun x => !isAtom x

/-! ### Where a number is -/
/-! ### The draft of atoms, by definition -/
def preL (l : List Int) : List Int := l.takeWhile fun x => !(x == 10)
def postL (l : List Int) : List Int := (l.dropWhile fun x => !(x == 10)).tail
theorem idx_pre (l : List Int) (k : Nat) : idxP (· == 10) l k = if l.any (· == 10) then ((k + (preL l).length : Nat) : Int) else -1 := by
  induction l generalizing k with
  | nil => rfl
  | cons x l ih =>
    by_cases h : x = 10
    · subst h; simp [idxP, preL]
    · have hx : (x == 10) = false := by simpa using h
      simp only [idxP, preL, List.any_cons, hx, Bool.false_or, Bool.false_eq_true, if_false, List.takeWhile_cons, Bool.not_false, if_true, List.length_cons]
      rw [ih]
      simp only [preL]
      split
      · omega
      · rfl
theorem pre_take (l : List Int) : l.take (preL l).length = preL l := by
  unfold preL
  induction l with
  | nil => rfl
  | cons x l ih =>
    rw [List.takeWhile_cons]
    split
    · simp [ih]
    · rfl
theorem post_drop (l : List Int) (h : l.any (· == 10) = true) : l.drop ((preL l).length + 1) = postL l ∧ (preL l).length < l.length := by
  unfold preL postL
  induction l with
  | nil => simp at h
  | cons x l ih =>
    by_cases hx : x = 10
    · subst hx; simp
    · have hx2 : (x == 10) = false := by simpa using hx
      rw [List.any_cons, hx2, Bool.false_or] at h
      have := ih h
      simp only [List.takeWhile_cons, List.dropWhile_cons, hx2, Bool.not_false, if_true, List.length_cons, List.drop_succ_cons]
      exact ⟨this.1, by omega⟩

end Go.Proofs.Ytaolimhbeoocjaa
