/- The walks of the laws of layer 5. No condition. -/
import Derived.Test.YtgjmcanjlcblgaaL5
namespace Go.Proofs.Ytgjmcanjlcblgaa
open Go.RowKit

theorem good_w (A : Option Addr) (n c most : Nat) (l : List Int) (w : World) (h : IL w A n c l) (hl : I64 l) (hm : most ≤ 100000) :
    Calls Try.prog 27 #[.slice A n c, .int .i64 (most : Int)] w (RL w (goodL l most)) := good_any A n c most l w h hl hm
theorem same_w (A : Option Addr) (n c : Nat) (l : List Int) (A2 : Option Addr) (n2 c2 : Nat) (l2 : List Int) (w : World) (h : IL w A n c l) (h2 : IL w A2 n2 c2 l2) (b : Bool) (hb : (l == l2) = b) :
    Calls Try.prog 34 #[.slice A n c, .slice A2 n2 c2] w (RV w (.bool b)) := by
  subst hb
  exact (same_any A n c l A2 n2 c2 l2 w h h2).mono fun _ _ h => RQ.rv h
theorem ol_il {w w' : World} {l : List Int} {e : Ending} (h : RO w l e w') : RL w l e w' := RO.rl h
/-- What is cut to the first so many. -/
theorem IL.few {w : World} {A : Option Addr} {n c : Nat} {l : List Int} (h : IL w A n c l) (k : Nat) (A' : Option Addr) (hA : A' = A) (m : Nat) (hm : m = min n k) : IL w A' m c (l.take k) := by
  subst hA
  have hl := h.len
  have hle := h.le
  have h2 := h.take (k := m) (c' := c) (by omega) (by omega) (Nat.le_refl _) A' (fun _ => rfl)
  have : l.take k = l.take m := by
    rcases Nat.lt_or_ge k n with q | q
    · rw [hm, Nat.min_eq_right (by omega)]
    · rw [hm, Nat.min_eq_left (by omega), List.take_of_length_le (by omega), List.take_of_length_le (by omega)]
  rw [this]
  exact h2
theorem min_cut (n : Nat) (m : Nat) : ∃ k : Nat, k = min n m ∧ (∀ x : Int, x = (m : Int) → (if x < (n : Int) then x else (n : Int)) = (k : Int)) ∧ ∀ x : Int, x = (m : Int) → (if m < n then x else (n : Int)) = (k : Int) :=
  ⟨min n m, rfl, by intro x hx; subst hx; split <;> omega, by intro x hx; subst hx; split <;> omega⟩
theorem sumR_two {a b : List Int} (ha : mayL a = true) (hb : mayL b = true) : sumR [a, b] = (ofN (val a + val b).toNat, 0) := by
  unfold sumR mayLL
  rw [if_pos (by simp [ha, hb])]
  simp [sumV]
theorem subR_ok {a b : List Int} (ha : mayL a = true) (hb : mayL b = true) (h : val b ≤ val a) : subR a b = (ofN (val a - val b).toNat, 0) := by
  unfold subR
  rw [if_pos (by simp [ha, hb]), if_neg (by omega)]
theorem subR_lt {a b : List Int} (ha : mayL a = true) (hb : mayL b = true) (h : val a < val b) : subR a b = ([], 3) := by
  unfold subR
  rw [if_pos (by simp [ha, hb]), if_pos h]
theorem subR_code (a b : List Int) : ((subR a b).2 == 1) = !(mayL a && mayL b) := by
  unfold subR
  split
  · rename_i h
    rw [h]
    split <;> rfl
  · rename_i h
    simp only [Bool.not_eq_true] at h
    rw [h]
    rfl
theorem ofN_len_le {z : Int} {k : Nat} (h0 : 0 ≤ z) (h : z < 10 ^ k) : (ofN z.toNat).length ≤ k := ofN_len (toNat_pow h0 h)

set_option maxHeartbeats 2000000 in
theorem digitSubs_walk (w : World) {A0 : Option Addr} {n0 c0 : Nat} {l0 : List Int} (w0 : IL w A0 n0 c0 l0) (i0 : I64 l0) {A1 : Option Addr} {n1 c1 : Nat} {l1 : List Int} (w1 : IL w A1 n1 c1 l1) (i1 : I64 l1) :
    Calls Try.prog 8 #[.slice A0 n0 c0, .slice A1 n1 c1] w fun e w' => e = .returned (.bool true) ∧ Below w.heap.size w w' := by
  have J0 := I64_take i0 20
  have J1 := I64_take i1 20
  have m0 := mayL_good l0 20
  have m1 := mayL_good l1 20
  have q0 := goodL_len l0 20
  have q1 := goodL_len l1 20
  have u0 : (l0.take 20).length ≤ 20 := List.length_take_le _ _
  have u1 : (l1.take 20).length ≤ 20 := List.length_take_le _ _
  have hc0 := w0.cap
  have hc1 := w1.cap
  have he0 := w0.le
  have he1 := w1.le
  have g0 := Lib.hid (fun W hW => good_w A0 n0 c0 20 l0 W hW i0 (by omega))
  have g1 := Lib.hid (fun W hW => good_w A1 n1 c1 20 l1 W hW i1 (by omega))
  obtain ⟨k0, hk0, hmin0, hmin0'⟩ := min_cut n0 20
  obtain ⟨k1, hk1, hmin1, hmin1'⟩ := min_cut n1 20
  replace hmin0 := hmin0 20 rfl
  replace hmin0' := hmin0' 20 rfl
  replace hmin1 := hmin1 20 rfl
  replace hmin1' := hmin1' 20 rfl
  have r0 := w0.few 20 A0 rfl k0 hk0
  have r1 := w1.few 20 A1 rfl k1 hk1
  have b0 : k0 ≤ n0 ∧ k0 ≤ 20 := by omega
  have b1 : k1 ≤ n1 ∧ k1 ≤ 20 := by omega
  clear hk0 hk1
  generalize goodL l0 20 = x at *
  generalize goodL l1 20 = y at *
  generalize l0.take 20 = rx at *
  generalize l1.take 20 = ry at *
  have vx := val_bd m0
  have vy := val_bd m1
  have px := pow_le (show x.length ≤ 20 by omega)
  have py := pow_le (show y.length ≤ 20 by omega)
  have p20 : (10 : Int) ^ 20 = 100000000000000000000 := by decide
  have hs : Hid (sumR [x, y] = (ofN (val x + val y).toNat, 0)) := sumR_two m0 m1
  have hsm := mayL_ofN (val x + val y).toNat
  have hsv : Hid (val (ofN (val x + val y).toNat) = val x + val y) := by rw [Hid, val_ofN, Int.toNat_of_nonneg (by omega)]
  have hsl : (ofN (val x + val y).toNat).length ≤ 21 := ofN_len_le (by omega) (by omega)
  have hbk : Hid (subR (ofN (val x + val y).toNat) y = (trimL x, 0)) := by
    rw [Hid, subR_ok hsm m1 (by rw [hsv.out]; omega), hsv.out, trimL_ofN m0]
    congr 3
    omega
  have hcode : Hid (((subR rx ry).2 == 1) = !(mayL rx && mayL ry)) := subR_code rx ry
  have hcm : Hid (cmpL x y = cmpI (val x) (val y)) := cmpL_val m0 m1
  have I0 := I64_of_may m0
  have I1 := I64_of_may m1
  have IS := I64_of_may hsm
  have M0 := Lib.hid m0
  have M1 := Lib.hid m1
  have B0 : x.length ≤ 20 := by omega
  have B1 : y.length ≤ 20 := by omega
  have hlx : Hid (trimL x == trimL x) := by simp [Hid]
  generalize ofN (val x + val y).toNat = s at *
  obtain ⟨rl, rc, hrl⟩ : ∃ rl rc, subR rx ry = (rl, rc) := ⟨_, _, rfl⟩
  rw [Hid, hrl] at hcode
  have HRL := Lib.hid hrl
  have HCODE := Lib.hid hcode
  have hsub : (val x < val y ∧ subR x y = ([], 3)) ∨ (val y ≤ val x ∧ subR x y = (ofN (val x - val y).toNat, 0)) := by
    rcases Int.lt_or_le (val x) (val y) with h | h
    · exact .inl ⟨h, subR_lt m0 m1 h⟩
    · exact .inr ⟨h, subR_ok m0 m1 h⟩
  clear hrl hcode vx vy px py p20 q0 q1 m0 m1 hsv hsm
  
  rcases hsub with ⟨hxy, hsub⟩ | ⟨hxy, hsub⟩
  · have hcz : cmpI (val x) (val y) = -1 := by unfold cmpI; rw [if_pos hxy]
    rw [Hid, hcz] at hcm
    have HCM := Lib.hid hcm
    have HSUB := Lib.hid hsub
    clear hcz hxy hcm hsub
    have hcm := HCM
    have hsub := HSUB
    clear HCM HSUB
    go_enter Try.func8, Try.ntmps8
    go_wp2_with fail
    refine ((g0.out _ (w0.below (by first | exact Below.refl _ _ | (repeat (first | exact Below.refl _ _ | refine Below.alloc ?_ (by simp <;> omega) _ | refine Below.setCell ?_ (by simp <;> omega) _ | refine Below.drew ?_ | exact below_drewN _ _ _)))))).mono ?_
    rintro e v1 ⟨AhX, nhX, chX, rfl, hX, hb1⟩
    have q1 : Below w.heap.size w v1 := below_from (by first | exact Below.refl _ _ | (repeat (first | exact Below.refl _ _ | refine Below.alloc ?_ (by simp <;> omega) _ | refine Below.setCell ?_ (by simp <;> omega) _ | refine Below.drew ?_ | exact below_drewN _ _ _))) hb1
    clear hb1
    replace w0 := w0.below q1
    replace w1 := w1.below q1
    replace r0 := r0.below q1
    replace r1 := r1.below q1
    go_wp2_with fail
    refine ((g1.out _ (w1.below (by first | exact Below.refl _ _ | (repeat (first | exact Below.refl _ _ | refine Below.alloc ?_ (by simp <;> omega) _ | refine Below.setCell ?_ (by simp <;> omega) _ | refine Below.drew ?_ | exact below_drewN _ _ _)))))).mono ?_
    rintro e v2 ⟨AhY, nhY, chY, rfl, hY, hb2⟩
    have q2 : Below v1.heap.size v1 v2 := below_from (by first | exact Below.refl _ _ | (repeat (first | exact Below.refl _ _ | refine Below.alloc ?_ (by simp <;> omega) _ | refine Below.setCell ?_ (by simp <;> omega) _ | refine Below.drew ?_ | exact below_drewN _ _ _))) hb2
    clear hb2
    replace w0 := w0.below q2
    replace w1 := w1.below q2
    replace r0 := r0.below q2
    replace r1 := r1.below q2
    replace hX := hX.below q2
    have hq2 := below_from q1 q2
    clear q1 q2
    have bx : nhX ≤ 20 := by rw [← hX.len]; exact B0
    have by' : nhY ≤ 20 := by rw [← hY.len]; exact B1
    go_wp2_with fail
    refine (sub_any _ _ _ x _ _ _ y _ hX hY I0 I1 (by omega) (by omega)).mono ?_
    rw [hsub.out]
    rintro e v3 ⟨AhD, nhD, chD, rfl, hD, hb3⟩
    replace hD := hD.il
    have q3 : Below v2.heap.size v2 v3 := below_from (by first | exact Below.refl _ _ | (repeat (first | exact Below.refl _ _ | refine Below.alloc ?_ (by simp <;> omega) _ | refine Below.setCell ?_ (by simp <;> omega) _ | refine Below.drew ?_ | exact below_drewN _ _ _))) hb3
    clear hb3
    replace w0 := w0.below q3
    replace w1 := w1.below q3
    replace r0 := r0.below q3
    replace r1 := r1.below q3
    replace hX := hX.below q3
    replace hY := hY.below q3
    have hq3 := below_from hq2 q3
    clear hq2 q3
    obtain rfl : nhD = 0 := by have := hD.len; simpa using this.symm
    go_wp2_with fail
    refine (rcompare_any _ _ _ x _ _ _ y _ hX hY (by omega) (by omega)).mono ?_
    rw [hcm.out]
    rintro e v4 ⟨rfl, hb4⟩
    have q4 : Below v3.heap.size v3 v4 := below_from (by first | exact Below.refl _ _ | (repeat (first | exact Below.refl _ _ | refine Below.alloc ?_ (by simp <;> omega) _ | refine Below.setCell ?_ (by simp <;> omega) _ | refine Below.drew ?_ | exact below_drewN _ _ _))) hb4
    clear hb4
    replace w0 := w0.below q4
    replace w1 := w1.below q4
    replace r0 := r0.below q4
    replace r1 := r1.below q4
    replace hX := hX.below q4
    replace hY := hY.below q4
    replace hD := hD.below q4
    have hq4 := below_from hq3 q4
    clear hq3 q4
    go_wp2_with fail
    refine (sum_any _ _ _ [x, y] _ (LL.two hX hY _ _ rfl) (by simp) (by intro l hl; simp at hl; rcases hl with rfl | rfl; exact ⟨by omega, I0⟩; exact ⟨by omega, I1⟩)).mono ?_
    rw [hs.out]
    rintro e v5 ⟨AhS, nhS, chS, rfl, hS, hb5⟩
    replace hS := hS.il
    have q5 : Below v4.heap.size v4 v5 := below_from (by first | exact Below.refl _ _ | (repeat (first | exact Below.refl _ _ | refine Below.alloc ?_ (by simp <;> omega) _ | refine Below.setCell ?_ (by simp <;> omega) _ | refine Below.drew ?_ | exact below_drewN _ _ _))) hb5
    clear hb5
    replace w0 := w0.below q5
    replace w1 := w1.below q5
    replace r0 := r0.below q5
    replace r1 := r1.below q5
    replace hX := hX.below q5
    replace hY := hY.below q5
    replace hD := hD.below q5
    have hq5 := below_from hq4 q5
    clear hq4 q5
    have bs : nhS ≤ 21 := by rw [← hS.len]; exact hsl
    go_wp2_with fail
    refine (sub_any _ _ _ s _ _ _ y _ hS hY IS I1 (by omega) (by omega)).mono ?_
    rw [hbk.out]
    rintro e v6 ⟨AhK, nhK, chK, rfl, hK, hb6⟩
    replace hK := hK.il
    have q6 : Below v5.heap.size v5 v6 := below_from (by first | exact Below.refl _ _ | (repeat (first | exact Below.refl _ _ | refine Below.alloc ?_ (by simp <;> omega) _ | refine Below.setCell ?_ (by simp <;> omega) _ | refine Below.drew ?_ | exact below_drewN _ _ _))) hb6
    clear hb6
    replace w0 := w0.below q6
    replace w1 := w1.below q6
    replace r0 := r0.below q6
    replace r1 := r1.below q6
    replace hX := hX.below q6
    replace hY := hY.below q6
    replace hD := hD.below q6
    replace hS := hS.below q6
    have hq6 := below_from hq5 q6
    clear hq5 q6
    go_wp2_with fail
    refine (sub_any _ _ _ rx _ _ _ ry _ r0 r1 J0 J1 (by omega) (by omega)).mono ?_
    rw [HRL.out]
    rintro e v7 ⟨AhR, nhR, chR, rfl, hR, hb7⟩
    replace hR := hR.il
    have q7 : Below v6.heap.size v6 v7 := below_from (by first | exact Below.refl _ _ | (repeat (first | exact Below.refl _ _ | refine Below.alloc ?_ (by simp <;> omega) _ | refine Below.setCell ?_ (by simp <;> omega) _ | refine Below.drew ?_ | exact below_drewN _ _ _))) hb7
    clear hb7
    replace w0 := w0.below q7
    replace w1 := w1.below q7
    replace r0 := r0.below q7
    replace r1 := r1.below q7
    replace hX := hX.below q7
    replace hY := hY.below q7
    replace hD := hD.below q7
    replace hS := hS.below q7
    replace hK := hK.below q7
    have hq7 := below_from hq6 q7
    clear hq6 q7
    cases hm0 : mayL rx
    · have hcd : (rc == 1) = true := by rw [HCODE.out, hm0]; rfl
      have HM0 := Lib.hid hm0
      clear hm0
      go_wp2_with fail
      refine (rmay_any _ _ _ rx _ r0).mono ?_
      rw [HM0.out]
      rintro e v8 ⟨rfl, rfl⟩
      go_wp2_with fail
      refine ((rtrim_any _ _ _ x _ (hX.below (by first | exact Below.refl _ _ | (repeat (first | exact Below.refl _ _ | refine Below.alloc ?_ (by simp <;> omega) _ | refine Below.setCell ?_ (by simp <;> omega) _ | refine Below.drew ?_ | exact below_drewN _ _ _)))) (by omega)).mono fun _ _ h => RO.rl h).mono ?_
      rintro e v9 ⟨AhT, nhT, chT, rfl, hT, hb9⟩
      have q9 : Below v7.heap.size v7 v9 := below_from (by first | exact Below.refl _ _ | (repeat (first | exact Below.refl _ _ | refine Below.alloc ?_ (by simp <;> omega) _ | refine Below.setCell ?_ (by simp <;> omega) _ | refine Below.drew ?_ | exact below_drewN _ _ _))) hb9
      clear hb9
      replace w0 := w0.below q9
      replace w1 := w1.below q9
      replace r0 := r0.below q9
      replace r1 := r1.below q9
      replace hX := hX.below q9
      replace hY := hY.below q9
      replace hD := hD.below q9
      replace hS := hS.below q9
      replace hK := hK.below q9
      replace hR := hR.below q9
      have hq9 := below_from hq7 q9
      clear hq7 q9
      go_wp2_with fail
      refine (same_w _ _ _ (trimL x) _ _ _ (trimL x) _ hK hT true hlx.out).mono ?_
      rintro e v10 ⟨rfl, hb10⟩
      have q10 : Below v9.heap.size v9 v10 := below_from (by first | exact Below.refl _ _ | (repeat (first | exact Below.refl _ _ | refine Below.alloc ?_ (by simp <;> omega) _ | refine Below.setCell ?_ (by simp <;> omega) _ | refine Below.drew ?_ | exact below_drewN _ _ _))) hb10
      clear hb10
      replace w0 := w0.below q10
      replace w1 := w1.below q10
      replace r0 := r0.below q10
      replace r1 := r1.below q10
      replace hX := hX.below q10
      replace hY := hY.below q10
      replace hD := hD.below q10
      replace hS := hS.below q10
      replace hK := hK.below q10
      replace hR := hR.below q10
      replace hT := hT.below q10
      have hq10 := below_from hq9 q10
      clear hq9 q10
      go_wp2_with fail
      refine (lives5_any _).mono ?_
      rintro e v11 ⟨rfl, hb11⟩
      have q11 : Below v10.heap.size v10 v11 := below_from (by first | exact Below.refl _ _ | (repeat (first | exact Below.refl _ _ | refine Below.alloc ?_ (by simp <;> omega) _ | refine Below.setCell ?_ (by simp <;> omega) _ | refine Below.drew ?_ | exact below_drewN _ _ _))) hb11
      clear hb11
      replace w0 := w0.below q11
      replace w1 := w1.below q11
      replace r0 := r0.below q11
      replace r1 := r1.below q11
      replace hX := hX.below q11
      replace hY := hY.below q11
      replace hD := hD.below q11
      replace hS := hS.below q11
      replace hK := hK.below q11
      replace hR := hR.below q11
      replace hT := hT.below q11
      have hq11 := below_from hq10 q11
      clear hq10 q11
      go_wp2_with fail
      go_ret
      exact ⟨rfl, below_from hq11 (by first | exact Below.refl _ _ | (repeat (first | exact Below.refl _ _ | refine Below.alloc ?_ (by simp <;> omega) _ | refine Below.setCell ?_ (by simp <;> omega) _ | refine Below.drew ?_ | exact below_drewN _ _ _)))⟩
    · have HM0 := Lib.hid hm0
      cases hm1 : mayL ry
      · have hcd : (rc == 1) = true := by rw [HCODE.out, HM0.out, hm1]; rfl
        have HM1 := Lib.hid hm1
        clear hm1 hm0
        go_wp2_with fail
        refine (rmay_any _ _ _ rx _ r0).mono ?_
        rw [HM0.out]
        rintro e v8 ⟨rfl, rfl⟩
        go_wp2_with fail
        refine (rmay_any _ _ _ ry _ r1).mono ?_
        rw [HM1.out]
        rintro e v9 ⟨rfl, rfl⟩
        go_wp2_with fail
        refine ((rtrim_any _ _ _ x _ (hX.below (by first | exact Below.refl _ _ | (repeat (first | exact Below.refl _ _ | refine Below.alloc ?_ (by simp <;> omega) _ | refine Below.setCell ?_ (by simp <;> omega) _ | refine Below.drew ?_ | exact below_drewN _ _ _)))) (by omega)).mono fun _ _ h => RO.rl h).mono ?_
        rintro e v10 ⟨AhT, nhT, chT, rfl, hT, hb10⟩
        have q10 : Below v7.heap.size v7 v10 := below_from (by first | exact Below.refl _ _ | (repeat (first | exact Below.refl _ _ | refine Below.alloc ?_ (by simp <;> omega) _ | refine Below.setCell ?_ (by simp <;> omega) _ | refine Below.drew ?_ | exact below_drewN _ _ _))) hb10
        clear hb10
        replace w0 := w0.below q10
        replace w1 := w1.below q10
        replace r0 := r0.below q10
        replace r1 := r1.below q10
        replace hX := hX.below q10
        replace hY := hY.below q10
        replace hD := hD.below q10
        replace hS := hS.below q10
        replace hK := hK.below q10
        replace hR := hR.below q10
        have hq10 := below_from hq7 q10
        clear hq7 q10
        go_wp2_with fail
        refine (same_w _ _ _ (trimL x) _ _ _ (trimL x) _ hK hT true hlx.out).mono ?_
        rintro e v11 ⟨rfl, hb11⟩
        have q11 : Below v10.heap.size v10 v11 := below_from (by first | exact Below.refl _ _ | (repeat (first | exact Below.refl _ _ | refine Below.alloc ?_ (by simp <;> omega) _ | refine Below.setCell ?_ (by simp <;> omega) _ | refine Below.drew ?_ | exact below_drewN _ _ _))) hb11
        clear hb11
        replace w0 := w0.below q11
        replace w1 := w1.below q11
        replace r0 := r0.below q11
        replace r1 := r1.below q11
        replace hX := hX.below q11
        replace hY := hY.below q11
        replace hD := hD.below q11
        replace hS := hS.below q11
        replace hK := hK.below q11
        replace hR := hR.below q11
        replace hT := hT.below q11
        have hq11 := below_from hq10 q11
        clear hq10 q11
        go_wp2_with fail
        refine (lives5_any _).mono ?_
        rintro e v12 ⟨rfl, hb12⟩
        have q12 : Below v11.heap.size v11 v12 := below_from (by first | exact Below.refl _ _ | (repeat (first | exact Below.refl _ _ | refine Below.alloc ?_ (by simp <;> omega) _ | refine Below.setCell ?_ (by simp <;> omega) _ | refine Below.drew ?_ | exact below_drewN _ _ _))) hb12
        clear hb12
        replace w0 := w0.below q12
        replace w1 := w1.below q12
        replace r0 := r0.below q12
        replace r1 := r1.below q12
        replace hX := hX.below q12
        replace hY := hY.below q12
        replace hD := hD.below q12
        replace hS := hS.below q12
        replace hK := hK.below q12
        replace hR := hR.below q12
        replace hT := hT.below q12
        have hq12 := below_from hq11 q12
        clear hq11 q12
        go_wp2_with fail
        go_ret
        exact ⟨rfl, below_from hq12 (by first | exact Below.refl _ _ | (repeat (first | exact Below.refl _ _ | refine Below.alloc ?_ (by simp <;> omega) _ | refine Below.setCell ?_ (by simp <;> omega) _ | refine Below.drew ?_ | exact below_drewN _ _ _)))⟩
      · have hcd : (rc == 1) = false := by rw [HCODE.out, HM0.out, hm1]; rfl
        have HM1 := Lib.hid hm1
        clear hm1 hm0
        go_wp2_with fail
        refine (rmay_any _ _ _ rx _ r0).mono ?_
        rw [HM0.out]
        rintro e v8 ⟨rfl, rfl⟩
        go_wp2_with fail
        refine (rmay_any _ _ _ ry _ r1).mono ?_
        rw [HM1.out]
        rintro e v9 ⟨rfl, rfl⟩
        go_wp2_with fail
        refine ((rtrim_any _ _ _ x _ (hX.below (by first | exact Below.refl _ _ | (repeat (first | exact Below.refl _ _ | refine Below.alloc ?_ (by simp <;> omega) _ | refine Below.setCell ?_ (by simp <;> omega) _ | refine Below.drew ?_ | exact below_drewN _ _ _)))) (by omega)).mono fun _ _ h => RO.rl h).mono ?_
        rintro e v10 ⟨AhT, nhT, chT, rfl, hT, hb10⟩
        have q10 : Below v7.heap.size v7 v10 := below_from (by first | exact Below.refl _ _ | (repeat (first | exact Below.refl _ _ | refine Below.alloc ?_ (by simp <;> omega) _ | refine Below.setCell ?_ (by simp <;> omega) _ | refine Below.drew ?_ | exact below_drewN _ _ _))) hb10
        clear hb10
        replace w0 := w0.below q10
        replace w1 := w1.below q10
        replace r0 := r0.below q10
        replace r1 := r1.below q10
        replace hX := hX.below q10
        replace hY := hY.below q10
        replace hD := hD.below q10
        replace hS := hS.below q10
        replace hK := hK.below q10
        replace hR := hR.below q10
        have hq10 := below_from hq7 q10
        clear hq7 q10
        go_wp2_with fail
        refine (same_w _ _ _ (trimL x) _ _ _ (trimL x) _ hK hT true hlx.out).mono ?_
        rintro e v11 ⟨rfl, hb11⟩
        have q11 : Below v10.heap.size v10 v11 := below_from (by first | exact Below.refl _ _ | (repeat (first | exact Below.refl _ _ | refine Below.alloc ?_ (by simp <;> omega) _ | refine Below.setCell ?_ (by simp <;> omega) _ | refine Below.drew ?_ | exact below_drewN _ _ _))) hb11
        clear hb11
        replace w0 := w0.below q11
        replace w1 := w1.below q11
        replace r0 := r0.below q11
        replace r1 := r1.below q11
        replace hX := hX.below q11
        replace hY := hY.below q11
        replace hD := hD.below q11
        replace hS := hS.below q11
        replace hK := hK.below q11
        replace hR := hR.below q11
        replace hT := hT.below q11
        have hq11 := below_from hq10 q11
        clear hq10 q11
        go_wp2_with fail
        refine (lives5_any _).mono ?_
        rintro e v12 ⟨rfl, hb12⟩
        have q12 : Below v11.heap.size v11 v12 := below_from (by first | exact Below.refl _ _ | (repeat (first | exact Below.refl _ _ | refine Below.alloc ?_ (by simp <;> omega) _ | refine Below.setCell ?_ (by simp <;> omega) _ | refine Below.drew ?_ | exact below_drewN _ _ _))) hb12
        clear hb12
        replace w0 := w0.below q12
        replace w1 := w1.below q12
        replace r0 := r0.below q12
        replace r1 := r1.below q12
        replace hX := hX.below q12
        replace hY := hY.below q12
        replace hD := hD.below q12
        replace hS := hS.below q12
        replace hK := hK.below q12
        replace hR := hR.below q12
        replace hT := hT.below q12
        have hq12 := below_from hq11 q12
        clear hq11 q12
        go_wp2_with fail
        go_ret
        exact ⟨rfl, below_from hq12 (by first | exact Below.refl _ _ | (repeat (first | exact Below.refl _ _ | refine Below.alloc ?_ (by simp <;> omega) _ | refine Below.setCell ?_ (by simp <;> omega) _ | refine Below.drew ?_ | exact below_drewN _ _ _)))⟩
  · have HGE := Lib.hid hxy
    have hcz : 0 ≤ cmpI (val x) (val y) := by unfold cmpI; rw [if_neg (by omega)]; split <;> omega
    have HSUB := Lib.hid hsub
    clear hxy hsub
    have hsub := HSUB
    clear HSUB
    generalize cmpI (val x) (val y) = z at *
    go_enter Try.func8, Try.ntmps8
    go_wp2_with fail
    refine ((g0.out _ (w0.below (by first | exact Below.refl _ _ | (repeat (first | exact Below.refl _ _ | refine Below.alloc ?_ (by simp <;> omega) _ | refine Below.setCell ?_ (by simp <;> omega) _ | refine Below.drew ?_ | exact below_drewN _ _ _)))))).mono ?_
    rintro e v1 ⟨AhX, nhX, chX, rfl, hX, hb1⟩
    have q1 : Below w.heap.size w v1 := below_from (by first | exact Below.refl _ _ | (repeat (first | exact Below.refl _ _ | refine Below.alloc ?_ (by simp <;> omega) _ | refine Below.setCell ?_ (by simp <;> omega) _ | refine Below.drew ?_ | exact below_drewN _ _ _))) hb1
    clear hb1
    replace w0 := w0.below q1
    replace w1 := w1.below q1
    replace r0 := r0.below q1
    replace r1 := r1.below q1
    go_wp2_with fail
    refine ((g1.out _ (w1.below (by first | exact Below.refl _ _ | (repeat (first | exact Below.refl _ _ | refine Below.alloc ?_ (by simp <;> omega) _ | refine Below.setCell ?_ (by simp <;> omega) _ | refine Below.drew ?_ | exact below_drewN _ _ _)))))).mono ?_
    rintro e v2 ⟨AhY, nhY, chY, rfl, hY, hb2⟩
    have q2 : Below v1.heap.size v1 v2 := below_from (by first | exact Below.refl _ _ | (repeat (first | exact Below.refl _ _ | refine Below.alloc ?_ (by simp <;> omega) _ | refine Below.setCell ?_ (by simp <;> omega) _ | refine Below.drew ?_ | exact below_drewN _ _ _))) hb2
    clear hb2
    replace w0 := w0.below q2
    replace w1 := w1.below q2
    replace r0 := r0.below q2
    replace r1 := r1.below q2
    replace hX := hX.below q2
    have hq2 := below_from q1 q2
    clear q1 q2
    have bx : nhX ≤ 20 := by rw [← hX.len]; exact B0
    have by' : nhY ≤ 20 := by rw [← hY.len]; exact B1
    go_wp2_with fail
    refine (sub_any _ _ _ x _ _ _ y _ hX hY I0 I1 (by omega) (by omega)).mono ?_
    rw [hsub.out]
    rintro e v3 ⟨AhD, nhD, chD, rfl, hD, hb3⟩
    replace hD := hD.il
    have q3 : Below v2.heap.size v2 v3 := below_from (by first | exact Below.refl _ _ | (repeat (first | exact Below.refl _ _ | refine Below.alloc ?_ (by simp <;> omega) _ | refine Below.setCell ?_ (by simp <;> omega) _ | refine Below.drew ?_ | exact below_drewN _ _ _))) hb3
    clear hb3
    replace w0 := w0.below q3
    replace w1 := w1.below q3
    replace r0 := r0.below q3
    replace r1 := r1.below q3
    replace hX := hX.below q3
    replace hY := hY.below q3
    have hq3 := below_from hq2 q3
    clear hq2 q3
    go_wp2_with fail
    refine (rcompare_any _ _ _ x _ _ _ y _ hX hY (by omega) (by omega)).mono ?_
    rw [hcm.out]
    rintro e v4 ⟨rfl, hb4⟩
    have q4 : Below v3.heap.size v3 v4 := below_from (by first | exact Below.refl _ _ | (repeat (first | exact Below.refl _ _ | refine Below.alloc ?_ (by simp <;> omega) _ | refine Below.setCell ?_ (by simp <;> omega) _ | refine Below.drew ?_ | exact below_drewN _ _ _))) hb4
    clear hb4
    replace w0 := w0.below q4
    replace w1 := w1.below q4
    replace r0 := r0.below q4
    replace r1 := r1.below q4
    replace hX := hX.below q4
    replace hY := hY.below q4
    replace hD := hD.below q4
    have hq4 := below_from hq3 q4
    clear hq3 q4
    go_wp2_with fail
    refine (sum_any _ _ _ [x, y] _ (LL.two hX hY _ _ rfl) (by simp) (by intro l hl; simp at hl; rcases hl with rfl | rfl; exact ⟨by omega, I0⟩; exact ⟨by omega, I1⟩)).mono ?_
    rw [hs.out]
    rintro e v5 ⟨AhS, nhS, chS, rfl, hS, hb5⟩
    replace hS := hS.il
    have q5 : Below v4.heap.size v4 v5 := below_from (by first | exact Below.refl _ _ | (repeat (first | exact Below.refl _ _ | refine Below.alloc ?_ (by simp <;> omega) _ | refine Below.setCell ?_ (by simp <;> omega) _ | refine Below.drew ?_ | exact below_drewN _ _ _))) hb5
    clear hb5
    replace w0 := w0.below q5
    replace w1 := w1.below q5
    replace r0 := r0.below q5
    replace r1 := r1.below q5
    replace hX := hX.below q5
    replace hY := hY.below q5
    replace hD := hD.below q5
    have hq5 := below_from hq4 q5
    clear hq4 q5
    have bs : nhS ≤ 21 := by rw [← hS.len]; exact hsl
    go_wp2_with fail
    refine (sub_any _ _ _ s _ _ _ y _ hS hY IS I1 (by omega) (by omega)).mono ?_
    rw [hbk.out]
    rintro e v6 ⟨AhK, nhK, chK, rfl, hK, hb6⟩
    replace hK := hK.il
    have q6 : Below v5.heap.size v5 v6 := below_from (by first | exact Below.refl _ _ | (repeat (first | exact Below.refl _ _ | refine Below.alloc ?_ (by simp <;> omega) _ | refine Below.setCell ?_ (by simp <;> omega) _ | refine Below.drew ?_ | exact below_drewN _ _ _))) hb6
    clear hb6
    replace w0 := w0.below q6
    replace w1 := w1.below q6
    replace r0 := r0.below q6
    replace r1 := r1.below q6
    replace hX := hX.below q6
    replace hY := hY.below q6
    replace hD := hD.below q6
    replace hS := hS.below q6
    have hq6 := below_from hq5 q6
    clear hq5 q6
    go_wp2_with fail
    refine (sub_any _ _ _ rx _ _ _ ry _ r0 r1 J0 J1 (by omega) (by omega)).mono ?_
    rw [HRL.out]
    rintro e v7 ⟨AhR, nhR, chR, rfl, hR, hb7⟩
    replace hR := hR.il
    have q7 : Below v6.heap.size v6 v7 := below_from (by first | exact Below.refl _ _ | (repeat (first | exact Below.refl _ _ | refine Below.alloc ?_ (by simp <;> omega) _ | refine Below.setCell ?_ (by simp <;> omega) _ | refine Below.drew ?_ | exact below_drewN _ _ _))) hb7
    clear hb7
    replace w0 := w0.below q7
    replace w1 := w1.below q7
    replace r0 := r0.below q7
    replace r1 := r1.below q7
    replace hX := hX.below q7
    replace hY := hY.below q7
    replace hD := hD.below q7
    replace hS := hS.below q7
    replace hK := hK.below q7
    have hq7 := below_from hq6 q7
    clear hq6 q7
    cases hm0 : mayL rx
    · have hcd : (rc == 1) = true := by rw [HCODE.out, hm0]; rfl
      have HM0 := Lib.hid hm0
      clear hm0
      go_wp2_with fail
      refine (rmay_any _ _ _ rx _ r0).mono ?_
      rw [HM0.out]
      rintro e v8 ⟨rfl, rfl⟩
      go_wp2_with fail
      refine ((rtrim_any _ _ _ x _ (hX.below (by first | exact Below.refl _ _ | (repeat (first | exact Below.refl _ _ | refine Below.alloc ?_ (by simp <;> omega) _ | refine Below.setCell ?_ (by simp <;> omega) _ | refine Below.drew ?_ | exact below_drewN _ _ _)))) (by omega)).mono fun _ _ h => RO.rl h).mono ?_
      rintro e v9 ⟨AhT, nhT, chT, rfl, hT, hb9⟩
      have q9 : Below v7.heap.size v7 v9 := below_from (by first | exact Below.refl _ _ | (repeat (first | exact Below.refl _ _ | refine Below.alloc ?_ (by simp <;> omega) _ | refine Below.setCell ?_ (by simp <;> omega) _ | refine Below.drew ?_ | exact below_drewN _ _ _))) hb9
      clear hb9
      replace w0 := w0.below q9
      replace w1 := w1.below q9
      replace r0 := r0.below q9
      replace r1 := r1.below q9
      replace hX := hX.below q9
      replace hY := hY.below q9
      replace hD := hD.below q9
      replace hS := hS.below q9
      replace hK := hK.below q9
      replace hR := hR.below q9
      have hq9 := below_from hq7 q9
      clear hq7 q9
      go_wp2_with fail
      refine (same_w _ _ _ (trimL x) _ _ _ (trimL x) _ hK hT true hlx.out).mono ?_
      rintro e v10 ⟨rfl, hb10⟩
      have q10 : Below v9.heap.size v9 v10 := below_from (by first | exact Below.refl _ _ | (repeat (first | exact Below.refl _ _ | refine Below.alloc ?_ (by simp <;> omega) _ | refine Below.setCell ?_ (by simp <;> omega) _ | refine Below.drew ?_ | exact below_drewN _ _ _))) hb10
      clear hb10
      replace w0 := w0.below q10
      replace w1 := w1.below q10
      replace r0 := r0.below q10
      replace r1 := r1.below q10
      replace hX := hX.below q10
      replace hY := hY.below q10
      replace hD := hD.below q10
      replace hS := hS.below q10
      replace hK := hK.below q10
      replace hR := hR.below q10
      replace hT := hT.below q10
      have hq10 := below_from hq9 q10
      clear hq9 q10
      go_wp2_with fail
      refine ((less_any _ _ _ x _ _ _ y _ hX hY M0.out M1.out (by omega) (by omega) HGE.out).mono fun _ _ h => RO.rl h).mono ?_
      rintro e v11 ⟨AhL, nhL, chL, rfl, hL, hb11⟩
      have q11 : Below v10.heap.size v10 v11 := below_from (by first | exact Below.refl _ _ | (repeat (first | exact Below.refl _ _ | refine Below.alloc ?_ (by simp <;> omega) _ | refine Below.setCell ?_ (by simp <;> omega) _ | refine Below.drew ?_ | exact below_drewN _ _ _))) hb11
      clear hb11
      replace w0 := w0.below q11
      replace w1 := w1.below q11
      replace r0 := r0.below q11
      replace r1 := r1.below q11
      replace hX := hX.below q11
      replace hY := hY.below q11
      replace hD := hD.below q11
      replace hS := hS.below q11
      replace hK := hK.below q11
      replace hR := hR.below q11
      replace hT := hT.below q11
      have hq11 := below_from hq10 q11
      clear hq10 q11
      go_wp2_with fail
      refine (same_w _ _ _ _ _ _ _ _ _ hD hL true (by simp)).mono ?_
      rintro e v12 ⟨rfl, hb12⟩
      have q12 : Below v11.heap.size v11 v12 := below_from (by first | exact Below.refl _ _ | (repeat (first | exact Below.refl _ _ | refine Below.alloc ?_ (by simp <;> omega) _ | refine Below.setCell ?_ (by simp <;> omega) _ | refine Below.drew ?_ | exact below_drewN _ _ _))) hb12
      clear hb12
      replace w0 := w0.below q12
      replace w1 := w1.below q12
      replace r0 := r0.below q12
      replace r1 := r1.below q12
      replace hX := hX.below q12
      replace hY := hY.below q12
      replace hD := hD.below q12
      replace hS := hS.below q12
      replace hK := hK.below q12
      replace hR := hR.below q12
      replace hT := hT.below q12
      replace hL := hL.below q12
      have hq12 := below_from hq11 q12
      clear hq11 q12
      go_wp2_with fail
      refine (lives5_any _).mono ?_
      rintro e v13 ⟨rfl, hb13⟩
      have q13 : Below v12.heap.size v12 v13 := below_from (by first | exact Below.refl _ _ | (repeat (first | exact Below.refl _ _ | refine Below.alloc ?_ (by simp <;> omega) _ | refine Below.setCell ?_ (by simp <;> omega) _ | refine Below.drew ?_ | exact below_drewN _ _ _))) hb13
      clear hb13
      replace w0 := w0.below q13
      replace w1 := w1.below q13
      replace r0 := r0.below q13
      replace r1 := r1.below q13
      replace hX := hX.below q13
      replace hY := hY.below q13
      replace hD := hD.below q13
      replace hS := hS.below q13
      replace hK := hK.below q13
      replace hR := hR.below q13
      replace hT := hT.below q13
      replace hL := hL.below q13
      have hq13 := below_from hq12 q13
      clear hq12 q13
      go_wp2_with fail
      go_ret
      exact ⟨rfl, below_from hq13 (by first | exact Below.refl _ _ | (repeat (first | exact Below.refl _ _ | refine Below.alloc ?_ (by simp <;> omega) _ | refine Below.setCell ?_ (by simp <;> omega) _ | refine Below.drew ?_ | exact below_drewN _ _ _)))⟩
    · have HM0 := Lib.hid hm0
      cases hm1 : mayL ry
      · have hcd : (rc == 1) = true := by rw [HCODE.out, HM0.out, hm1]; rfl
        have HM1 := Lib.hid hm1
        clear hm1 hm0
        go_wp2_with fail
        refine (rmay_any _ _ _ rx _ r0).mono ?_
        rw [HM0.out]
        rintro e v8 ⟨rfl, rfl⟩
        go_wp2_with fail
        refine (rmay_any _ _ _ ry _ r1).mono ?_
        rw [HM1.out]
        rintro e v9 ⟨rfl, rfl⟩
        go_wp2_with fail
        refine ((rtrim_any _ _ _ x _ (hX.below (by first | exact Below.refl _ _ | (repeat (first | exact Below.refl _ _ | refine Below.alloc ?_ (by simp <;> omega) _ | refine Below.setCell ?_ (by simp <;> omega) _ | refine Below.drew ?_ | exact below_drewN _ _ _)))) (by omega)).mono fun _ _ h => RO.rl h).mono ?_
        rintro e v10 ⟨AhT, nhT, chT, rfl, hT, hb10⟩
        have q10 : Below v7.heap.size v7 v10 := below_from (by first | exact Below.refl _ _ | (repeat (first | exact Below.refl _ _ | refine Below.alloc ?_ (by simp <;> omega) _ | refine Below.setCell ?_ (by simp <;> omega) _ | refine Below.drew ?_ | exact below_drewN _ _ _))) hb10
        clear hb10
        replace w0 := w0.below q10
        replace w1 := w1.below q10
        replace r0 := r0.below q10
        replace r1 := r1.below q10
        replace hX := hX.below q10
        replace hY := hY.below q10
        replace hD := hD.below q10
        replace hS := hS.below q10
        replace hK := hK.below q10
        replace hR := hR.below q10
        have hq10 := below_from hq7 q10
        clear hq7 q10
        go_wp2_with fail
        refine (same_w _ _ _ (trimL x) _ _ _ (trimL x) _ hK hT true hlx.out).mono ?_
        rintro e v11 ⟨rfl, hb11⟩
        have q11 : Below v10.heap.size v10 v11 := below_from (by first | exact Below.refl _ _ | (repeat (first | exact Below.refl _ _ | refine Below.alloc ?_ (by simp <;> omega) _ | refine Below.setCell ?_ (by simp <;> omega) _ | refine Below.drew ?_ | exact below_drewN _ _ _))) hb11
        clear hb11
        replace w0 := w0.below q11
        replace w1 := w1.below q11
        replace r0 := r0.below q11
        replace r1 := r1.below q11
        replace hX := hX.below q11
        replace hY := hY.below q11
        replace hD := hD.below q11
        replace hS := hS.below q11
        replace hK := hK.below q11
        replace hR := hR.below q11
        replace hT := hT.below q11
        have hq11 := below_from hq10 q11
        clear hq10 q11
        go_wp2_with fail
        refine ((less_any _ _ _ x _ _ _ y _ hX hY M0.out M1.out (by omega) (by omega) HGE.out).mono fun _ _ h => RO.rl h).mono ?_
        rintro e v12 ⟨AhL, nhL, chL, rfl, hL, hb12⟩
        have q12 : Below v11.heap.size v11 v12 := below_from (by first | exact Below.refl _ _ | (repeat (first | exact Below.refl _ _ | refine Below.alloc ?_ (by simp <;> omega) _ | refine Below.setCell ?_ (by simp <;> omega) _ | refine Below.drew ?_ | exact below_drewN _ _ _))) hb12
        clear hb12
        replace w0 := w0.below q12
        replace w1 := w1.below q12
        replace r0 := r0.below q12
        replace r1 := r1.below q12
        replace hX := hX.below q12
        replace hY := hY.below q12
        replace hD := hD.below q12
        replace hS := hS.below q12
        replace hK := hK.below q12
        replace hR := hR.below q12
        replace hT := hT.below q12
        have hq12 := below_from hq11 q12
        clear hq11 q12
        go_wp2_with fail
        refine (same_w _ _ _ _ _ _ _ _ _ hD hL true (by simp)).mono ?_
        rintro e v13 ⟨rfl, hb13⟩
        have q13 : Below v12.heap.size v12 v13 := below_from (by first | exact Below.refl _ _ | (repeat (first | exact Below.refl _ _ | refine Below.alloc ?_ (by simp <;> omega) _ | refine Below.setCell ?_ (by simp <;> omega) _ | refine Below.drew ?_ | exact below_drewN _ _ _))) hb13
        clear hb13
        replace w0 := w0.below q13
        replace w1 := w1.below q13
        replace r0 := r0.below q13
        replace r1 := r1.below q13
        replace hX := hX.below q13
        replace hY := hY.below q13
        replace hD := hD.below q13
        replace hS := hS.below q13
        replace hK := hK.below q13
        replace hR := hR.below q13
        replace hT := hT.below q13
        replace hL := hL.below q13
        have hq13 := below_from hq12 q13
        clear hq12 q13
        go_wp2_with fail
        refine (lives5_any _).mono ?_
        rintro e v14 ⟨rfl, hb14⟩
        have q14 : Below v13.heap.size v13 v14 := below_from (by first | exact Below.refl _ _ | (repeat (first | exact Below.refl _ _ | refine Below.alloc ?_ (by simp <;> omega) _ | refine Below.setCell ?_ (by simp <;> omega) _ | refine Below.drew ?_ | exact below_drewN _ _ _))) hb14
        clear hb14
        replace w0 := w0.below q14
        replace w1 := w1.below q14
        replace r0 := r0.below q14
        replace r1 := r1.below q14
        replace hX := hX.below q14
        replace hY := hY.below q14
        replace hD := hD.below q14
        replace hS := hS.below q14
        replace hK := hK.below q14
        replace hR := hR.below q14
        replace hT := hT.below q14
        replace hL := hL.below q14
        have hq14 := below_from hq13 q14
        clear hq13 q14
        go_wp2_with fail
        go_ret
        exact ⟨rfl, below_from hq14 (by first | exact Below.refl _ _ | (repeat (first | exact Below.refl _ _ | refine Below.alloc ?_ (by simp <;> omega) _ | refine Below.setCell ?_ (by simp <;> omega) _ | refine Below.drew ?_ | exact below_drewN _ _ _)))⟩
      · have hcd : (rc == 1) = false := by rw [HCODE.out, HM0.out, hm1]; rfl
        have HM1 := Lib.hid hm1
        clear hm1 hm0
        go_wp2_with fail
        refine (rmay_any _ _ _ rx _ r0).mono ?_
        rw [HM0.out]
        rintro e v8 ⟨rfl, rfl⟩
        go_wp2_with fail
        refine (rmay_any _ _ _ ry _ r1).mono ?_
        rw [HM1.out]
        rintro e v9 ⟨rfl, rfl⟩
        go_wp2_with fail
        refine ((rtrim_any _ _ _ x _ (hX.below (by first | exact Below.refl _ _ | (repeat (first | exact Below.refl _ _ | refine Below.alloc ?_ (by simp <;> omega) _ | refine Below.setCell ?_ (by simp <;> omega) _ | refine Below.drew ?_ | exact below_drewN _ _ _)))) (by omega)).mono fun _ _ h => RO.rl h).mono ?_
        rintro e v10 ⟨AhT, nhT, chT, rfl, hT, hb10⟩
        have q10 : Below v7.heap.size v7 v10 := below_from (by first | exact Below.refl _ _ | (repeat (first | exact Below.refl _ _ | refine Below.alloc ?_ (by simp <;> omega) _ | refine Below.setCell ?_ (by simp <;> omega) _ | refine Below.drew ?_ | exact below_drewN _ _ _))) hb10
        clear hb10
        replace w0 := w0.below q10
        replace w1 := w1.below q10
        replace r0 := r0.below q10
        replace r1 := r1.below q10
        replace hX := hX.below q10
        replace hY := hY.below q10
        replace hD := hD.below q10
        replace hS := hS.below q10
        replace hK := hK.below q10
        replace hR := hR.below q10
        have hq10 := below_from hq7 q10
        clear hq7 q10
        go_wp2_with fail
        refine (same_w _ _ _ (trimL x) _ _ _ (trimL x) _ hK hT true hlx.out).mono ?_
        rintro e v11 ⟨rfl, hb11⟩
        have q11 : Below v10.heap.size v10 v11 := below_from (by first | exact Below.refl _ _ | (repeat (first | exact Below.refl _ _ | refine Below.alloc ?_ (by simp <;> omega) _ | refine Below.setCell ?_ (by simp <;> omega) _ | refine Below.drew ?_ | exact below_drewN _ _ _))) hb11
        clear hb11
        replace w0 := w0.below q11
        replace w1 := w1.below q11
        replace r0 := r0.below q11
        replace r1 := r1.below q11
        replace hX := hX.below q11
        replace hY := hY.below q11
        replace hD := hD.below q11
        replace hS := hS.below q11
        replace hK := hK.below q11
        replace hR := hR.below q11
        replace hT := hT.below q11
        have hq11 := below_from hq10 q11
        clear hq10 q11
        go_wp2_with fail
        refine ((less_any _ _ _ x _ _ _ y _ hX hY M0.out M1.out (by omega) (by omega) HGE.out).mono fun _ _ h => RO.rl h).mono ?_
        rintro e v12 ⟨AhL, nhL, chL, rfl, hL, hb12⟩
        have q12 : Below v11.heap.size v11 v12 := below_from (by first | exact Below.refl _ _ | (repeat (first | exact Below.refl _ _ | refine Below.alloc ?_ (by simp <;> omega) _ | refine Below.setCell ?_ (by simp <;> omega) _ | refine Below.drew ?_ | exact below_drewN _ _ _))) hb12
        clear hb12
        replace w0 := w0.below q12
        replace w1 := w1.below q12
        replace r0 := r0.below q12
        replace r1 := r1.below q12
        replace hX := hX.below q12
        replace hY := hY.below q12
        replace hD := hD.below q12
        replace hS := hS.below q12
        replace hK := hK.below q12
        replace hR := hR.below q12
        replace hT := hT.below q12
        have hq12 := below_from hq11 q12
        clear hq11 q12
        go_wp2_with fail
        refine (same_w _ _ _ _ _ _ _ _ _ hD hL true (by simp)).mono ?_
        rintro e v13 ⟨rfl, hb13⟩
        have q13 : Below v12.heap.size v12 v13 := below_from (by first | exact Below.refl _ _ | (repeat (first | exact Below.refl _ _ | refine Below.alloc ?_ (by simp <;> omega) _ | refine Below.setCell ?_ (by simp <;> omega) _ | refine Below.drew ?_ | exact below_drewN _ _ _))) hb13
        clear hb13
        replace w0 := w0.below q13
        replace w1 := w1.below q13
        replace r0 := r0.below q13
        replace r1 := r1.below q13
        replace hX := hX.below q13
        replace hY := hY.below q13
        replace hD := hD.below q13
        replace hS := hS.below q13
        replace hK := hK.below q13
        replace hR := hR.below q13
        replace hT := hT.below q13
        replace hL := hL.below q13
        have hq13 := below_from hq12 q13
        clear hq12 q13
        go_wp2_with fail
        refine (lives5_any _).mono ?_
        rintro e v14 ⟨rfl, hb14⟩
        have q14 : Below v13.heap.size v13 v14 := below_from (by first | exact Below.refl _ _ | (repeat (first | exact Below.refl _ _ | refine Below.alloc ?_ (by simp <;> omega) _ | refine Below.setCell ?_ (by simp <;> omega) _ | refine Below.drew ?_ | exact below_drewN _ _ _))) hb14
        clear hb14
        replace w0 := w0.below q14
        replace w1 := w1.below q14
        replace r0 := r0.below q14
        replace r1 := r1.below q14
        replace hX := hX.below q14
        replace hY := hY.below q14
        replace hD := hD.below q14
        replace hS := hS.below q14
        replace hK := hK.below q14
        replace hR := hR.below q14
        replace hT := hT.below q14
        replace hL := hL.below q14
        have hq14 := below_from hq13 q14
        clear hq13 q14
        go_wp2_with fail
        go_ret
        exact ⟨rfl, below_from hq14 (by first | exact Below.refl _ _ | (repeat (first | exact Below.refl _ _ | refine Below.alloc ?_ (by simp <;> omega) _ | refine Below.setCell ?_ (by simp <;> omega) _ | refine Below.drew ?_ | exact below_drewN _ _ _)))⟩

end Go.Proofs.Ytgjmcanjlcblgaa
