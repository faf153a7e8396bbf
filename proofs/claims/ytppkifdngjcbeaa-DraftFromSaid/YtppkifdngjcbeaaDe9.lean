/- The walk of the program's adding of decimals. No condition. -/
import Derived.Test.YtppkifdngjcbeaaDe7
import Derived.Test.YtppkifdngjcbeaaCanon3
import Derived.Test.YtppkifdngjcbeaaSum
import Derived.Test.YtppkifdngjcbeaaOps
namespace Go.Proofs.Ytppkifdngjcbeaa
open Go.RowKit

theorem LL.pair {w : World} {A A2 : Option Addr} {n c n2 c2 : Nat} {l l2 : List Int} (h : IL w A n c l) (h2 : IL w A2 n2 c2 l2) (e : TypeId) (b : Nat) (hb : b = w.heap.size) :
    LL (w.alloc (.cells #[.slice A n c, .slice A2 n2 c2] e)) (some ⟨b, 0, none⟩) 2 2 [l, l2] := by
  subst hb
  refine ⟨[.slice A n c, .slice A2 n2 c2], VL.lit w e 2 _ rfl (by omega), rfl, fun k hk => ?_⟩
  have hk2 : k = 0 ∨ k = 1 := by simp at hk; omega
  rcases hk2 with rfl | rfl
  · exact ⟨A, n, c, rfl, h.alloc _⟩
  · exact ⟨A2, n2, c2, rfl, h2.alloc _⟩
theorem sumR_two {a b : List Int} (ha : mayL a = true) (hb : mayL b = true) : sumR [a, b] = (ofN (val a + val b).toNat, 0) := by
  unfold sumR mayLL sumV
  simp [ha, hb]
theorem subR_two {a b : List Int} (ha : mayL a = true) (hb : mayL b = true) (h : ¬ val a < val b) : subR a b = (ofN (val a - val b).toNat, 0) := by
  unfold subR
  rw [ha, hb, if_neg h]; rfl
theorem ofN_sum_len {a b : List Int} {M : Nat} (ha : mayL a = true) (hb : mayL b = true) (h1 : a.length ≤ M) (h2 : b.length ≤ M) : (ofN (val a + val b).toNat).length ≤ M + 1 := by
  refine ofN_len ?_
  have v1 := (val_bd ha).2
  have v2 := (val_bd hb).2
  have p1 := pow_le h1
  have p2 := pow_le h2
  have v3 := (val_bd ha).1
  have v4 := (val_bd hb).1
  have : (val a + val b) < 10 ^ (M + 1) := by rw [Int.pow_succ]; omega
  have e : ((val a + val b).toNat : Int) < ((10 ^ (M + 1) : Nat) : Int) := by push_cast; omega
  exact_mod_cast e
theorem ofN_diff_len {a b : List Int} {M : Nat} (ha : mayL a = true) (hb : mayL b = true) (h1 : a.length ≤ M) : (ofN (val a - val b).toNat).length ≤ M := by
  refine ofN_len ?_
  have v1 := (val_bd ha).2
  have p1 := pow_le h1
  have v3 := (val_bd ha).1
  have v4 := (val_bd hb).1
  have := ten_pos M
  have e : ((val a - val b).toNat : Int) < ((10 ^ M : Nat) : Int) := by push_cast; omega
  exact_mod_cast e

end Go.Proofs.Ytppkifdngjcbeaa
