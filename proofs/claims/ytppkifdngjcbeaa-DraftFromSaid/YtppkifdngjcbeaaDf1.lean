/- The walks of drafts: whether one fits, and its number. No condition. -/
import Derived.Test.YtppkifdngjcbeaaDr5
import Derived.Test.YtppkifdngjcbeaaCat
import Derived.Test.YtppkifdngjcbeaaDe1
namespace Go.Proofs.Ytppkifdngjcbeaa
open Go.RowKit

def fitsD (x : Dr) (a b : Int) : Bool := decide ((x.int.length : Int) ≤ a) && decide ((x.frac.length : Int) ≤ b)

set_option maxHeartbeats 1000000 in
theorem dfits_any {A : Option Addr} {n c : Nat} {l : List Int} {E : Option Addr} {m k : Nat} {f : List Int} (b p : Bool) (x y : Int) (w : World) (h : IL w A n c l) (g : IL w E m k f)
    (_hx : -9223372036854775808 ≤ x ∧ x ≤ 9223372036854775807) (_hy : -9223372036854775808 ≤ y ∧ y ≤ 9223372036854775807) :
    Calls Try.prog 52 #[.agg #[.bool b, .slice A n c, .bool p, .slice E m k], .int .i64 x, .int .i64 y] w (RV w (.bool (fitsD ⟨b, l, p, f⟩ x y))) := by
  have bx : Below w.heap.size w (w.alloc (.cells #[.bool b, .slice A n c, .bool p, .slice E m k] 38)) := (Below.refl _ _).alloc (Nat.le_refl _) _
  have hr : Hid (fitsD ⟨b, l, p, f⟩ x y = (decide ((n : Int) ≤ x) && decide ((m : Int) ≤ y))) := by unfold Hid fitsD; rw [h.len, g.len]
  have c1 := h.cap
  have c2 := g.cap
  have c3 := h.le
  have c4 := g.le
  by_cases h1 : (n : Int) ≤ x
  · by_cases h2 : (m : Int) ≤ y
    all_goals
      go_enter Try.func52, Try.ntmps52
      go_wp2_with fail
      go_ret
      exact ⟨ret_bool (by rw [hr.out]; first | rfl | (rw [Bool.eq_iff_iff]; simp; done) | (rw [Bool.eq_iff_iff]; simp; omega) | (simp; omega)), bx⟩
  · go_enter Try.func52, Try.ntmps52
    go_wp2_with fail
    go_ret
    exact ⟨ret_bool (by rw [hr.out]; first | rfl | (rw [Bool.eq_iff_iff]; simp; done) | (rw [Bool.eq_iff_iff]; simp; omega) | (simp; omega)), bx⟩

/-! ### A draft's number -/
def decD (x : Dr) : Dc := trimDc ⟨x.neg, x.int ++ x.frac, (x.frac.length : Int)⟩

theorem LL.pair1 {w : World} {A A2 : Option Addr} {n c n2 c2 : Nat} {l l2 : List Int} (h : IL w A n c l) (h2 : IL w A2 n2 c2 l2) (e : TypeId) (b : Nat) (hb : b = w.heap.size) :
    LL (w.alloc (.cells #[.slice A n c, .slice A2 n2 c2] e)) (some ⟨b, 0, none⟩) 2 2 [l, l2] := by
  subst hb
  refine ⟨[.slice A n c, .slice A2 n2 c2], VL.lit w e 2 _ rfl (by omega), rfl, fun k hk => ?_⟩
  have hk2 : k = 0 ∨ k = 1 := by simp at hk; omega
  rcases hk2 with rfl | rfl
  · exact ⟨A, n, c, rfl, h.alloc _⟩
  · exact ⟨A2, n2, c2, rfl, h2.alloc _⟩

end Go.Proofs.Ytppkifdngjcbeaa
