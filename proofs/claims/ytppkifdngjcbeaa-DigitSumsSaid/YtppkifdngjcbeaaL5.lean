/- The walks of the laws of layer 5: what lives, and which number is greater. No condition. -/
import Derived.Test.YtppkifdngjcbeaaRb
namespace Go.Proofs.Ytppkifdngjcbeaa
open Go.RowKit

theorem LL.two {w : World} {A A2 : Option Addr} {n c n2 c2 : Nat} {l l2 : List Int} (h : IL w A n c l) (h2 : IL w A2 n2 c2 l2) (e : TypeId) (b : Nat) (hb : b = w.heap.size) :
    LL (w.alloc (.cells #[.slice A n c, .slice A2 n2 c2] e)) (some ⟨b, 0, none⟩) 2 2 [l, l2] := by
  subst hb
  refine ⟨[.slice A n c, .slice A2 n2 c2], VL.lit w e 2 _ rfl (by omega), rfl, fun k hk => ?_⟩
  rcases (show k = 0 ∨ k = 1 by simp at hk; omega) with rfl | rfl
  · exact ⟨A, n, c, rfl, h.alloc _⟩
  · exact ⟨A2, n2, c2, rfl, h2.alloc _⟩
theorem IL.lit1 (w : World) (e : TypeId) (x : Int) (b : Nat) (hb : b = w.heap.size) : IL (w.alloc (.cells #[.int .i64 x] e)) (some ⟨b, 0, none⟩) 1 1 [x] := by
  subst hb
  exact VL.lit w e 1 [.int .i64 x] rfl (by omega)
theorem IL.lit2 (w : World) (e : TypeId) (x y : Int) (b : Nat) (hb : b = w.heap.size) : IL (w.alloc (.cells #[.int .i64 x, .int .i64 y] e)) (some ⟨b, 0, none⟩) 2 2 [x, y] := by
  subst hb
  exact VL.lit w e 2 [.int .i64 x, .int .i64 y] rfl (by omega)
theorem IL.lit3 (w : World) (e : TypeId) (x y z : Int) (b : Nat) (hb : b = w.heap.size) : IL (w.alloc (.cells #[.int .i64 x, .int .i64 y, .int .i64 z] e)) (some ⟨b, 0, none⟩) 3 3 [x, y, z] := by
  subst hb
  exact VL.lit w e 3 [.int .i64 x, .int .i64 y, .int .i64 z] rfl (by omega)
theorem IL.lit4 (w : World) (e : TypeId) (x y z u : Int) (b : Nat) (hb : b = w.heap.size) : IL (w.alloc (.cells #[.int .i64 x, .int .i64 y, .int .i64 z, .int .i64 u] e)) (some ⟨b, 0, none⟩) 4 4 [x, y, z, u] := by
  subst hb
  exact VL.lit w e 4 [.int .i64 x, .int .i64 y, .int .i64 z, .int .i64 u] rfl (by omega)

theorem I64_small {l : List Int} (h : l.all (fun x => decide (-100 ≤ x) && decide (x ≤ 100)) = true) : I64 l := fun x hx => by
  have := List.all_eq_true.1 h x hx
  simp at this
  omega

set_option maxHeartbeats 1000000 in
theorem lives5_any (w : World) : Calls Try.prog 16 #[] w (RV w (.bool true)) := by
  have s1 : Hid (sumR [[9, 9], [1]] = ([1, 0, 0], 0)) := by unfold Hid; decide
  have s2 : Hid (subR [1, 0, 0] [9, 9] = ([1], 0)) := by unfold Hid; decide
  go_enter Try.func16, Try.ntmps16
  go_wp2_with fail
  refine (sum_any _ _ _ [[9, 9], [1]] _ (LL.two ((IL.lit2 w 3 9 9 _ rfl).alloc _) (IL.lit1 _ 3 1 _ (by simp)) _ _ (by simp)) (by simp) ?_).mono ?_
  · intro l hl
    simp at hl
    rcases hl with rfl | rfl
    · exact ⟨by simp, I64_small rfl⟩
    · exact ⟨by simp, I64_small rfl⟩
  rw [s1.out]
  rintro e w1 ⟨A1, n1, c1, rfl, hO1, hB1⟩
  have hb1 : Below w.heap.size w w1 := below_from ((((Below.refl _ _).alloc (Nat.le_refl _) _).alloc (by simp) _).alloc (by simp; omega) _) hB1
  clear hB1
  go_wp2_with fail
  refine (sub_any _ _ _ [1, 0, 0] _ _ _ [9, 9] _ ((IL.lit3 w1 3 1 0 0 _ rfl).alloc _) (IL.lit2 _ 3 9 9 _ (by simp)) (I64_small rfl) (I64_small rfl) (by omega) (by omega)).mono ?_
  rw [s2.out]
  rintro e w2 ⟨A2, n2, c2, rfl, hO2, hB2⟩
  have hb2 : Below w1.heap.size w1 w2 := below_from (((Below.refl _ _).alloc (Nat.le_refl _) _).alloc (by simp) _) hB2
  clear hB2
  go_wp2_with fail
  refine (same_any _ _ _ [1, 0, 0] _ _ _ [1, 0, 0] _ ((hO1.il.below hb2).alloc _) (IL.lit3 w2 3 1 0 0 _ rfl)).mono ?_
  rintro e w3 ⟨rfl, k, rfl⟩
  go_wp2_with fail
  refine (same_any _ _ _ [1] _ _ _ [1] _ (((hO2.il.alloc _).drewN _).alloc _) (IL.lit1 _ 3 1 _ (by simp))).mono ?_
  rintro e w3 ⟨rfl, k2, rfl⟩
  go_wp2_with fail
  go_ret
  exact ⟨rfl, (below_from hb1 hb2).trans (((((Below.refl _ _).alloc (below_from hb1 hb2).size _).trans (below_drewN _ _ _)).alloc (by have := (below_from hb1 hb2).size; simp; omega) _).trans (below_drewN _ _ _))⟩

theorem cmpL_neg {a b : List Int} (ha : mayL a = true) (hb : mayL b = true) : cmpL b a = -cmpL a b := by
  rw [cmpL_val ha hb, cmpL_val hb ha]
  unfold cmpI
  split <;> split <;> (try split) <;> (try split) <;> omega
theorem cmpL_le {a b : List Int} (ha : mayL a = true) (hb : mayL b = true) : cmpL a b ≤ 0 ↔ val a ≤ val b := by
  rw [cmpL_val ha hb]
  unfold cmpI
  split
  · omega
  · split <;> omega

end Go.Proofs.Ytppkifdngjcbeaa
