/- The walks of the laws of layer 5: what lives, and which number is greater. No condition. -/
import Derived.Test.YtgjmcanjlcblgaaRb
namespace Go.Proofs.Ytgjmcanjlcblgaa
open Go.RowKit

theorem LL.two {w : World} {A A2 : Option Addr} {n c n2 c2 : Nat} {l l2 : List Int} (h : IL w A n c l) (h2 : IL w A2 n2 c2 l2) (e : TypeId) (b : Nat) (hb : b = w.heap.size) :
    LL (w.alloc (.cells #[.slice A n c, .slice A2 n2 c2] e)) (some ⟨b, 0, none⟩) 2 2 [l, l2] := by
  subst hb
  refine ⟨[.slice A n c, .slice A2 n2 c2], VL.lit w e 2 _ rfl (by omega), rfl, fun k hk => ?_⟩
  rcases (show k = 0 ∨ k = 1 by simp at hk; omega) with rfl | rfl
  · exact ⟨A, n, c, rfl, h.alloc _⟩
  · exact ⟨A2, n2, c2, rfl, h2.alloc _⟩
theorem IL.lit1 (w : World) (e : TypeId) (x : Int) (b : Nat) (hb : b = w.heap.size) : IL (w.alloc (.cells #[.int .i64 x] e)) (some ⟨b, 0, none⟩) 1 1 [x] := by
  subst hb
  exact VL.lit w e 1 [.int .i64 x] rfl (by omega)
theorem IL.lit2 (w : World) (e : TypeId) (x y : Int) (b : Nat) (hb : b = w.heap.size) : IL (w.alloc (.cells #[.int .i64 x, .int .i64 y] e)) (some ⟨b, 0, none⟩) 2 2 [x, y] := by
  subst hb
  exact VL.lit w e 2 [.int .i64 x, .int .i64 y] rfl (by omega)
theorem IL.lit3 (w : World) (e : TypeId) (x y z : Int) (b : Nat) (hb : b = w.heap.size) : IL (w.alloc (.cells #[.int .i64 x, .int .i64 y, .int .i64 z] e)) (some ⟨b, 0, none⟩) 3 3 [x, y, z] := by
  subst hb
  exact VL.lit w e 3 [.int .i64 x, .int .i64 y, .int .i64 z] rfl (by omega)
theorem IL.lit4 (w : World) (e : TypeId) (x y z u : Int) (b : Nat) (hb : b = w.heap.size) : IL (w.alloc (.cells #[.int .i64 x, .int .i64 y, .int .i64 z, .int .i64 u] e)) (some ⟨b, 0, none⟩) 4 4 [x, y, z, u] := by
  subst hb
  exact VL.lit w e 4 [.int .i64 x, .int .i64 y, .int .i64 z, .int .i64 u] rfl (by omega)

theorem I64_small {l : List Int} (h : l.all (fun x => decide (-100 ≤ x) && decide (x ≤ 100)) = true) : I64 l := fun x hx => by
  have := List.all_eq_true.1 h x hx
  simp at this
  omega

set_option maxHeartbeats 1000000 in
theorem lives5_any (w : World) : Calls Try.prog 30 #[] w (RV w (.bool true)) := by
  have s1 : Hid (sumR [[9, 9], [1]] = ([1, 0, 0], 0)) := by unfold Hid; decide
  have s2 : Hid (subR [1, 0, 0] [9, 9] = ([1], 0)) := by unfold Hid; decide
  go_enter Try.func30, Try.ntmps30
  go_wp2_with fail
  refine (sum_any _ _ _ [[9, 9], [1]] _ (LL.two ((IL.lit2 w 3 9 9 _ rfl).alloc _) (IL.lit1 _ 3 1 _ (by simp)) _ _ (by simp)) (by simp) ?_).mono ?_
  · intro l hl
    simp at hl
    rcases hl with rfl | rfl
    · exact ⟨by simp, I64_small rfl⟩
    · exact ⟨by simp, I64_small rfl⟩
  rw [s1.out]
  rintro e w1 ⟨A1, n1, c1, rfl, hO1, hB1⟩
  have hb1 : Below w.heap.size w w1 := below_from ((((Below.refl _ _).alloc (Nat.le_refl _) _).alloc (by simp) _).alloc (by simp; omega) _) hB1
  clear hB1
  go_wp2_with fail
  refine (sub_any _ _ _ [1, 0, 0] _ _ _ [9, 9] _ ((IL.lit3 w1 3 1 0 0 _ rfl).alloc _) (IL.lit2 _ 3 9 9 _ (by simp)) (I64_small rfl) (I64_small rfl) (by omega) (by omega)).mono ?_
  rw [s2.out]
  rintro e w2 ⟨A2, n2, c2, rfl, hO2, hB2⟩
  have hb2 : Below w1.heap.size w1 w2 := below_from (((Below.refl _ _).alloc (Nat.le_refl _) _).alloc (by simp) _) hB2
  clear hB2
  go_wp2_with fail
  refine (same_any _ _ _ [1, 0, 0] _ _ _ [1, 0, 0] _ ((hO1.il.below hb2).alloc _) (IL.lit3 w2 3 1 0 0 _ rfl)).mono ?_
  rintro e w3 ⟨rfl, k, rfl⟩
  go_wp2_with fail
  refine (same_any _ _ _ [1] _ _ _ [1] _ (((hO2.il.alloc _).drewN _).alloc _) (IL.lit1 _ 3 1 _ (by simp))).mono ?_
  rintro e w3 ⟨rfl, k2, rfl⟩
  go_wp2_with fail
  go_ret
  exact ⟨rfl, (below_from hb1 hb2).trans (((((Below.refl _ _).alloc (below_from hb1 hb2).size _).trans (below_drewN _ _ _)).alloc (by have := (below_from hb1 hb2).size; simp; omega) _).trans (below_drewN _ _ _))⟩

theorem cmpL_neg {a b : List Int} (ha : mayL a = true) (hb : mayL b = true) : cmpL b a = -cmpL a b := by
  rw [cmpL_val ha hb, cmpL_val hb ha]
  unfold cmpI
  split <;> split <;> (try split) <;> (try split) <;> omega
theorem cmpL_le {a b : List Int} (ha : mayL a = true) (hb : mayL b = true) : cmpL a b ≤ 0 ↔ val a ≤ val b := by
  rw [cmpL_val ha hb]
  unfold cmpI
  split
  · omega
  · split <;> omega

set_option maxHeartbeats 1000000 in
theorem digitRow_walk (w : World) {A0 : Option Addr} {n0 c0 : Nat} {l0 : List Int} (w0 : IL w A0 n0 c0 l0) (i0 : I64 l0) {A1 : Option Addr} {n1 c1 : Nat} {l1 : List Int} (w1 : IL w A1 n1 c1 l1) (i1 : I64 l1)
    {A2 : Option Addr} {n2 c2 : Nat} {l2 : List Int} (w2 : IL w A2 n2 c2 l2) (i2 : I64 l2) :
    Calls Try.prog 6 #[.slice A0 n0 c0, .slice A1 n1 c1, .slice A2 n2 c2] w fun e w' => e = .returned (.bool true) ∧ Below w.heap.size w w' := by
  have g0 := Lib.hid (good_any A0 n0 c0 20 l0 w w0 i0 (by omega))
  have g1 := Lib.hid (fun W hW => good_any A1 n1 c1 20 l1 W hW i1 (by omega))
  have g2 := Lib.hid (fun W hW => good_any A2 n2 c2 20 l2 W hW i2 (by omega))
  have m0 := mayL_good l0 20
  have m1 := mayL_good l1 20
  have m2 := mayL_good l2 20
  have q0 := goodL_len l0 20
  have q1 := goodL_len l1 20
  have q2 := goodL_len l2 20
  generalize goodL l0 20 = x at *
  generalize goodL l1 20 = y at *
  generalize goodL l2 20 = z at *
  have e1 : Hid (cmpL y x = -cmpL x y) := cmpL_neg m0 m1
  have hcN := cmpL_cases x y
  have hcM := cmpL_cases y z
  have hcP : 0 < cmpL x y ∨ 0 < cmpL y z ∨ cmpL x z ≤ 0 := by
    have h1 := cmpL_le m0 m1
    have h2 := cmpL_le m1 m2
    have h3 := cmpL_le m0 m2
    omega
  have I0 := I64_of_may m0
  have I1 := I64_of_may m1
  have I2 := I64_of_may m2
  have B0 : x.length ≤ 20 := by omega
  have B1 : y.length ≤ 20 := by omega
  have B2 : z.length ≤ 20 := by omega
  clear m0 m1 m2 q0 q1 q2
  go_enter Try.func6, Try.ntmps6
  go_wp2_with fail
  refine g0.out.mono ?_
  rintro e v0 ⟨X0, xn, xc, rfl, hX, hb0⟩
  go_wp2_with fail
  refine (g1.out _ (w1.below hb0)).mono ?_
  rintro e v1 ⟨Y0, yn, yc, rfl, hY, hb1⟩
  replace hX := hX.below hb1
  replace hb1 := below_from hb0 hb1
  clear hb0
  go_wp2_with fail
  refine (g2.out _ (w2.below hb1)).mono ?_
  rintro e v2 ⟨Z0, zn, zc, rfl, hZ, hb2⟩
  replace hX := hX.below hb2
  replace hY := hY.below hb2
  replace hb2 := below_from hb1 hb2
  clear hb1
  have bx : xn ≤ 20 := by rw [← hX.len]; exact B0
  have by' : yn ≤ 20 := by rw [← hY.len]; exact B1
  have bz : zn ≤ 20 := by rw [← hZ.len]; exact B2
  clear B0 B1 B2
  go_wp2_with fail
  refine (compare_any _ _ _ x _ _ _ y _ hX hY I0 I1 (by omega) (by omega)).mono ?_
  rintro e v3 ⟨rfl, hb3⟩
  replace hX := hX.below hb3
  replace hY := hY.below hb3
  replace hZ := hZ.below hb3
  replace hb3 := below_from hb2 hb3
  clear hb2
  go_wp2_with fail
  refine (compare_any _ _ _ y _ _ _ z _ hY hZ I1 I2 (by omega) (by omega)).mono ?_
  rintro e v4 ⟨rfl, hb4⟩
  replace hX := hX.below hb4
  replace hY := hY.below hb4
  replace hZ := hZ.below hb4
  replace hb4 := below_from hb3 hb4
  clear hb3
  go_wp2_with fail
  refine (rcompare_any _ _ _ x _ _ _ y _ hX hY (by omega) (by omega)).mono ?_
  rintro e v5 ⟨rfl, hb5⟩
  replace hX := hX.below hb5
  replace hY := hY.below hb5
  replace hZ := hZ.below hb5
  replace hb5 := below_from hb4 hb5
  clear hb4
  go_wp2_with fail
  refine (compare_any _ _ _ y _ _ _ x _ hY hX I1 I0 (by omega) (by omega)).mono ?_
  rw [e1.out]
  rintro e v6 ⟨rfl, hb6⟩
  replace hX := hX.below hb6
  replace hY := hY.below hb6
  replace hZ := hZ.below hb6
  replace hb6 := below_from hb5 hb6
  clear hb5
  have hcmp := Lib.hid (compare_any _ _ _ x _ _ _ z _ hX hZ I0 I2 (by omega) (by omega))
  generalize cmpL x y = N at *
  generalize cmpL y z = M at *
  generalize cmpL x z = P at *
  by_cases hN : 0 < N
  · clear hcmp
    go_wp2_with fail
    refine (lives5_any _).mono ?_
    rintro e v7 ⟨rfl, hb7⟩
    go_wp2_with fail
    go_ret
    exact ⟨rfl, below_from hb6 hb7⟩
  · by_cases hM : 0 < M
    · clear hcmp
      go_wp2_with fail
      refine (lives5_any _).mono ?_
      rintro e v7 ⟨rfl, hb7⟩
      go_wp2_with fail
      go_ret
      exact ⟨rfl, below_from hb6 hb7⟩
    · have hP : P ≤ 0 := by omega
      go_wp2_with fail
      refine hcmp.out.mono ?_
      rintro e v7 ⟨rfl, hb7⟩
      go_wp2_with fail
      refine (lives5_any _).mono ?_
      rintro e v8 ⟨rfl, hb8⟩
      go_wp2_with fail
      go_ret
      exact ⟨rfl, below_from hb6 (below_from hb7 hb8)⟩

end Go.Proofs.Ytgjmcanjlcblgaa
