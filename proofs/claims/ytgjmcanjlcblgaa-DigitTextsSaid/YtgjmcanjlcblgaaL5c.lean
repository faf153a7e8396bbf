/- The walks of the laws DigitTrims, DigitTimes, DigitShifts. No condition. -/
import Derived.Test.YtgjmcanjlcblgaaL5b
import Derived.Test.YtgjmcanjlcblgaaShift
namespace Go.Proofs.Ytgjmcanjlcblgaa
open Go.RowKit

theorem around_w (n m : Int) (w : World) (hn : -9223372036854775808 ≤ n ∧ n ≤ 9223372036854775807) (hm : 1 ≤ m) (hm2 : m ≤ 100000) (z : Int) (hz : around n m = z) :
    Calls Try.prog 18 #[.int .i64 n, .int .i64 m] w fun e w' => e = .returned (.int .i64 z) ∧ w = w' := by
  subst hz
  exact around_any n m w hn.1 hn.2 hm hm2

theorem getD_zeros (k i : Nat) : (List.replicate k (0 : Int)).getD i 0 = 0 := by
  simp only [List.getD, List.getElem?_replicate]
  split <;> rfl
theorem digL_zeros (k : Nat) : digL (List.replicate k 0) 0 = 0 := by
  unfold digL
  split
  · exact getD_zeros _ _
  · rfl
theorem digL_ahead (z : List Int) {x : List Int} (hx : 0 < x.length) : digL (z ++ x) 0 = x.getD (x.length - 1) 0 := by
  unfold digL
  rw [if_pos (by simp; omega)]
  simp only [List.getD, List.length_append]
  rw [List.getElem?_append_right (by omega)]
  congr 2
  omega
theorem trim_wide (k : Nat) (x : List Int) : trimL (List.replicate k 0 ++ x) = trimL x := by
  induction k with
  | zero => simp
  | succ k ih => rw [List.replicate_succ, List.cons_append, trimL_cons_zero, ih]

set_option maxHeartbeats 2000000 in
theorem digitTimes_walk (w : World) {A0 : Option Addr} {n0 c0 : Nat} {l0 : List Int} (w0 : IL w A0 n0 c0 l0) (i0 : I64 l0) {a1 : Int} (w1 : -9223372036854775808 ≤ a1 ∧ a1 ≤ 9223372036854775807) :
    Calls Try.prog 10 #[.slice A0 n0 c0, .int .i64 a1] w fun e w' => e = .returned (.bool true) ∧ Below w.heap.size w w' := by
  have J0 := I64_take i0 20
  have m0 := mayL_good l0 20
  have q0 := goodL_len l0 20
  have hc0 := w0.cap
  have he0 := w0.le
  have g0 := Lib.hid (fun W hW => good_w A0 n0 c0 20 l0 W hW i0 (by omega))
  obtain ⟨k0, hk0, hmin0, hmin0'⟩ := min_cut n0 20
  replace hmin0 := hmin0 20 rfl
  replace hmin0' := hmin0' 20 rfl
  have r0 := w0.few 20 A0 rfl k0 hk0
  have b0 : k0 ≤ n0 ∧ k0 ≤ 20 := by omega
  obtain ⟨k, hk⟩ : ∃ k, around a1 1001 = k := ⟨_, rfl⟩
  have bk := around_bd a1 1001 (by omega)
  rw [hk] at bk
  have HK := Lib.hid hk
  clear hk0 hk
  generalize goodL l0 20 = x at *
  generalize l0.take 20 = rx at *
  have vx := val_bd m0
  have px := pow_le (show x.length ≤ 20 by omega)
  have p20 : (10 : Int) ^ 20 = 100000000000000000000 := by decide
  have hkv : 0 ≤ k * val x := Int.mul_nonneg (by omega) vx.1
  have hkv2 : 0 ≤ (1000 - k) * val x := Int.mul_nonneg (by omega) vx.1
  have hkv3 : k * val x + (1000 - k) * val x = 1000 * val x := by rw [← Int.add_mul]; congr 1; omega
  have t1 : Hid (timesR x k = (ofN (k * val x).toNat, 0)) := by unfold Hid timesR; rw [m0, if_pos rfl, if_neg (by omega)]
  have t2 : Hid (timesR x (1000 - k) = (ofN ((1000 - k) * val x).toNat, 0)) := by unfold Hid timesR; rw [m0, if_pos rfl, if_neg (by omega)]
  have t3 : Hid (timesR x 1000 = (ofN (1000 * val x).toNat, 0)) := by unfold Hid timesR; rw [m0, if_pos rfl, if_neg (by omega)]
  have ma := mayL_ofN (k * val x).toNat
  have mb := mayL_ofN ((1000 - k) * val x).toNat
  have hsum : Hid (sumR [ofN (k * val x).toNat, ofN ((1000 - k) * val x).toNat] = (ofN (1000 * val x).toNat, 0)) := by
    rw [Hid, sumR_two ma mb, val_ofN, val_ofN, Int.toNat_of_nonneg hkv, Int.toNat_of_nonneg hkv2, hkv3]
  have lena : (ofN (k * val x).toNat).length ≤ 23 := ofN_len_le hkv (by have : (10 : Int) ^ 23 = 100000000000000000000000 := by decide
                                                                        omega)
  have lenb : (ofN ((1000 - k) * val x).toNat).length ≤ 23 := ofN_len_le hkv2 (by have : (10 : Int) ^ 23 = 100000000000000000000000 := by decide
                                                                                  omega)
  have I0 := I64_of_may m0
  have Ia := I64_of_may ma
  have Ib := I64_of_may mb
  have M0 := Lib.hid m0
  have B0 : x.length ≤ 20 := by omega
  have hself : ∀ z : List Int, (z == z) = true := by intro z; simp
  have HSELF := Lib.hid hself
  obtain ⟨rl, rc, hrl⟩ : ∃ rl rc, timesR rx a1 = (rl, rc) := ⟨_, _, rfl⟩
  have hcode : rc = if mayL rx then (if a1 < 0 ∨ 1000 < a1 then 3 else 0) else 1 := by
    have : (timesR rx a1).2 = rc := by rw [hrl]
    rw [← this]
    unfold timesR
    split
    · split <;> rfl
    · rfl
  have HRL := Lib.hid hrl
  have hcases : (mayL rx = false ∧ rc = 1) ∨ (mayL rx = true ∧ (a1 < 0 ∨ 1000 < a1) ∧ rc = 3) ∨ (mayL rx = true ∧ (0 ≤ a1 ∧ a1 ≤ 1000) ∧ rc = 0) := by
    cases hm : mayL rx
    · rw [hm] at hcode; exact .inl ⟨rfl, hcode⟩
    · rw [hm] at hcode
      by_cases h : a1 < 0 ∨ 1000 < a1
      · rw [if_pos rfl, if_pos h] at hcode; exact .inr (.inl ⟨rfl, h, hcode⟩)
      · rw [if_pos rfl, if_neg h] at hcode; exact .inr (.inr ⟨rfl, by omega, hcode⟩)
  generalize hva : ofN (k * val x).toNat = va at *
  have HVA := Lib.hid hva
  clear hva
  generalize ofN ((1000 - k) * val x).toNat = vb at *
  generalize ofN (1000 * val x).toNat = vc at *
  clear hrl hcode vx px p20 q0 m0 ma mb hkv hkv2 hkv3 hself
  have hc2 : (∃ m, mayL rx = m ∧ m = false ∧ rc = 1 ∧ a1 < 0) ∨ (mayL rx = false ∧ rc = 1 ∧ 1000 < a1) ∨ (mayL rx = false ∧ rc = 1 ∧ 0 ≤ a1 ∧ a1 ≤ 1000) ∨ (mayL rx = true ∧ rc = 3 ∧ a1 < 0) ∨ (mayL rx = true ∧ rc = 3 ∧ 1000 < a1) ∨ (mayL rx = true ∧ rc = 0 ∧ 0 ≤ a1 ∧ a1 ≤ 1000) := by
    rcases hcases with ⟨h1, h2⟩ | ⟨h1, h2, h3⟩ | ⟨h1, h2, h3⟩
    · rcases Int.lt_or_le a1 0 with q | q
      · exact .inl ⟨_, rfl, h1, h2, q⟩
      · rcases Int.lt_or_le 1000 a1 with q2 | q2
        · exact .inr (.inl ⟨h1, h2, q2⟩)
        · exact .inr (.inr (.inl ⟨h1, h2, q, q2⟩))
    · rcases h2 with q | q
      · exact .inr (.inr (.inr (.inl ⟨h1, h3, q⟩)))
      · exact .inr (.inr (.inr (.inr (.inl ⟨h1, h3, q⟩))))
    · exact .inr (.inr (.inr (.inr (.inr ⟨h1, h3, h2⟩))))
  clear hcases
  rcases hc2 with ⟨m, hm, rfl, hrc, ha⟩ | ⟨hm, hrc, ha⟩ | ⟨hm, hrc, ha, ha2⟩ | ⟨hm, hrc, ha⟩ | ⟨hm, hrc, ha⟩ | ⟨hm, hrc, ha, ha2⟩
  all_goals
    have HM := Lib.hid hm
    clear hm
    subst hrc
    go_enter Try.func10, Try.ntmps10
    go_wp2_with fail
    refine ((g0.out _ (w0.below (by first | exact Below.refl _ _ | (repeat (first | exact Below.refl _ _ | refine Below.alloc ?_ (by simp <;> omega) _ | refine Below.setCell ?_ (by simp <;> omega) _ | refine Below.drew ?_ | exact below_drewN _ _ _)))))).mono ?_
    rintro e v1 ⟨AhX, nhX, chX, rfl, hX, hb1⟩
    have q1 : Below w.heap.size w v1 := below_from (by first | exact Below.refl _ _ | (repeat (first | exact Below.refl _ _ | refine Below.alloc ?_ (by simp <;> omega) _ | refine Below.setCell ?_ (by simp <;> omega) _ | refine Below.drew ?_ | exact below_drewN _ _ _))) hb1
    clear hb1
    replace w0 := w0.below q1
    replace r0 := r0.below q1
    have bx : nhX ≤ 20 := by rw [← hX.len]; exact B0
    go_wp2_with fail
    refine (around_w _ _ _ w1 (by omega) (by omega) _ HK.out).mono ?_
    rintro e v2 ⟨rfl, rfl⟩
    go_wp2_with fail
    refine (times_any _ _ _ x _ _ hX I0 (by omega) (by omega)).mono ?_
    rw [t1.out]
    rintro e v3 ⟨AhA, nhA, chA, rfl, hA, hb3⟩
    replace hA := hA.il
    have q3 : Below v1.heap.size v1 v3 := below_from (by first | exact Below.refl _ _ | (repeat (first | exact Below.refl _ _ | refine Below.alloc ?_ (by simp <;> omega) _ | refine Below.setCell ?_ (by simp <;> omega) _ | refine Below.drew ?_ | exact below_drewN _ _ _))) hb3
    clear hb3
    replace w0 := w0.below q3
    replace r0 := r0.below q3
    replace hX := hX.below q3
    have hq3 := below_from q1 q3
    clear q1 q3
    go_wp2_with fail
    refine (times_any _ _ _ x _ _ hX I0 (by omega) (by omega)).mono ?_
    rw [t2.out]
    rintro e v4 ⟨AhB, nhB, chB, rfl, hB, hb4⟩
    replace hB := hB.il
    have q4 : Below v3.heap.size v3 v4 := below_from (by first | exact Below.refl _ _ | (repeat (first | exact Below.refl _ _ | refine Below.alloc ?_ (by simp <;> omega) _ | refine Below.setCell ?_ (by simp <;> omega) _ | refine Below.drew ?_ | exact below_drewN _ _ _))) hb4
    clear hb4
    replace w0 := w0.below q4
    replace r0 := r0.below q4
    replace hX := hX.below q4
    replace hA := hA.below q4
    have hq4 := below_from hq3 q4
    clear hq3 q4
    go_wp2_with fail
    refine (sum_any _ _ _ [va, vb] _ (LL.two hA hB _ _ rfl) (by simp) (by intro l hl; simp at hl; rcases hl with rfl | rfl; exact ⟨by omega, Ia⟩; exact ⟨by omega, Ib⟩)).mono ?_
    rw [hsum.out]
    rintro e v5 ⟨AhS, nhS, chS, rfl, hS, hb5⟩
    replace hS := hS.il
    have q5 : Below v4.heap.size v4 v5 := below_from (by first | exact Below.refl _ _ | (repeat (first | exact Below.refl _ _ | refine Below.alloc ?_ (by simp <;> omega) _ | refine Below.setCell ?_ (by simp <;> omega) _ | refine Below.drew ?_ | exact below_drewN _ _ _))) hb5
    clear hb5
    replace w0 := w0.below q5
    replace r0 := r0.below q5
    replace hX := hX.below q5
    replace hA := hA.below q5
    replace hB := hB.below q5
    have hq5 := below_from hq4 q5
    clear hq4 q5
    go_wp2_with fail
    refine (times_any _ _ _ x _ _ hX I0 (by omega) (by omega)).mono ?_
    rw [t3.out]
    rintro e v6 ⟨AhC, nhC, chC, rfl, hC, hb6⟩
    replace hC := hC.il
    have q6 : Below v5.heap.size v5 v6 := below_from (by first | exact Below.refl _ _ | (repeat (first | exact Below.refl _ _ | refine Below.alloc ?_ (by simp <;> omega) _ | refine Below.setCell ?_ (by simp <;> omega) _ | refine Below.drew ?_ | exact below_drewN _ _ _))) hb6
    clear hb6
    replace w0 := w0.below q6
    replace r0 := r0.below q6
    replace hX := hX.below q6
    replace hA := hA.below q6
    replace hB := hB.below q6
    replace hS := hS.below q6
    have hq6 := below_from hq5 q6
    clear hq5 q6
    go_wp2_with fail
    refine (times_any _ _ _ rx _ _ r0 J0 (by omega) w1).mono ?_
    rw [HRL.out]
    rintro e v7 ⟨AhR, nhR, chR, rfl, hR, hb7⟩
    replace hR := hR.il
    have q7 : Below v6.heap.size v6 v7 := below_from (by first | exact Below.refl _ _ | (repeat (first | exact Below.refl _ _ | refine Below.alloc ?_ (by simp <;> omega) _ | refine Below.setCell ?_ (by simp <;> omega) _ | refine Below.drew ?_ | exact below_drewN _ _ _))) hb7
    clear hb7
    replace w0 := w0.below q7
    replace r0 := r0.below q7
    replace hX := hX.below q7
    replace hA := hA.below q7
    replace hB := hB.below q7
    replace hS := hS.below q7
    replace hC := hC.below q7
    have hq7 := below_from hq6 q7
    clear hq6 q7
    go_wp2_with fail
    refine (rmay_any _ _ _ rx _ r0).mono ?_
    rw [HM.out]
    rintro e v8 ⟨rfl, rfl⟩
    go_wp2_with fail
    refine ((rtimes_any _ _ _ x _ _ hX M0.out (by omega) (by omega) (by omega)).mono fun _ _ h => RO.rl h).mono ?_
    rw [HVA.out]
    rintro e v9 ⟨AhT, nhT, chT, rfl, hT, hb9⟩
    have q9 : Below v7.heap.size v7 v9 := below_from (by first | exact Below.refl _ _ | (repeat (first | exact Below.refl _ _ | refine Below.alloc ?_ (by simp <;> omega) _ | refine Below.setCell ?_ (by simp <;> omega) _ | refine Below.drew ?_ | exact below_drewN _ _ _))) hb9
    clear hb9
    replace w0 := w0.below q9
    replace r0 := r0.below q9
    replace hX := hX.below q9
    replace hA := hA.below q9
    replace hB := hB.below q9
    replace hS := hS.below q9
    replace hC := hC.below q9
    replace hR := hR.below q9
    have hq9 := below_from hq7 q9
    clear hq7 q9
    go_wp2_with fail
    refine (same_w _ _ _ va _ _ _ va _ hA hT true (HSELF.out _)).mono ?_
    rintro e v10 ⟨rfl, hb10⟩
    have q10 : Below v9.heap.size v9 v10 := below_from (by first | exact Below.refl _ _ | (repeat (first | exact Below.refl _ _ | refine Below.alloc ?_ (by simp <;> omega) _ | refine Below.setCell ?_ (by simp <;> omega) _ | refine Below.drew ?_ | exact below_drewN _ _ _))) hb10
    clear hb10
    replace w0 := w0.below q10
    replace r0 := r0.below q10
    replace hX := hX.below q10
    replace hA := hA.below q10
    replace hB := hB.below q10
    replace hS := hS.below q10
    replace hC := hC.below q10
    replace hR := hR.below q10
    replace hT := hT.below q10
    have hq10 := below_from hq9 q10
    clear hq9 q10
    go_wp2_with fail
    refine (same_w _ _ _ vc _ _ _ vc _ hS hC true (HSELF.out _)).mono ?_
    rintro e v11 ⟨rfl, hb11⟩
    have q11 : Below v10.heap.size v10 v11 := below_from (by first | exact Below.refl _ _ | (repeat (first | exact Below.refl _ _ | refine Below.alloc ?_ (by simp <;> omega) _ | refine Below.setCell ?_ (by simp <;> omega) _ | refine Below.drew ?_ | exact below_drewN _ _ _))) hb11
    clear hb11
    replace w0 := w0.below q11
    replace r0 := r0.below q11
    replace hX := hX.below q11
    replace hA := hA.below q11
    replace hB := hB.below q11
    replace hS := hS.below q11
    replace hC := hC.below q11
    replace hR := hR.below q11
    replace hT := hT.below q11
    have hq11 := below_from hq10 q11
    clear hq10 q11
    go_wp2_with fail
    refine (lives5_any _).mono ?_
    rintro e v12 ⟨rfl, hb12⟩
    have q12 : Below v11.heap.size v11 v12 := below_from (by first | exact Below.refl _ _ | (repeat (first | exact Below.refl _ _ | refine Below.alloc ?_ (by simp <;> omega) _ | refine Below.setCell ?_ (by simp <;> omega) _ | refine Below.drew ?_ | exact below_drewN _ _ _))) hb12
    clear hb12
    replace w0 := w0.below q12
    replace r0 := r0.below q12
    replace hX := hX.below q12
    replace hA := hA.below q12
    replace hB := hB.below q12
    replace hS := hS.below q12
    replace hC := hC.below q12
    replace hR := hR.below q12
    replace hT := hT.below q12
    have hq12 := below_from hq11 q12
    clear hq11 q12
    go_wp2_with fail
    go_ret
    exact ⟨rfl, below_from hq12 (by first | exact Below.refl _ _ | (repeat (first | exact Below.refl _ _ | refine Below.alloc ?_ (by simp <;> omega) _ | refine Below.setCell ?_ (by simp <;> omega) _ | refine Below.drew ?_ | exact below_drewN _ _ _)))⟩

set_option maxHeartbeats 2000000 in
theorem digitShifts_walk (w : World) {A0 : Option Addr} {n0 c0 : Nat} {l0 : List Int} (w0 : IL w A0 n0 c0 l0) (i0 : I64 l0) {a1 : Int} (w1 : -9223372036854775808 ≤ a1 ∧ a1 ≤ 9223372036854775807) :
    Calls Try.prog 11 #[.slice A0 n0 c0, .int .i64 a1] w fun e w' => e = .returned (.bool true) ∧ Below w.heap.size w w' := by
  have J0 := I64_take i0 20
  have m0 := mayL_good l0 20
  have q0 := goodL_len l0 20
  have hc0 := w0.cap
  have he0 := w0.le
  have g0 := Lib.hid (fun W hW => good_w A0 n0 c0 20 l0 W hW i0 (by omega))
  obtain ⟨k0, hk0, hmin0, hmin0'⟩ := min_cut n0 20
  replace hmin0 := hmin0 20 rfl
  replace hmin0' := hmin0' 20 rfl
  have r0 := w0.few 20 A0 rfl k0 hk0
  have b0 : k0 ≤ n0 ∧ k0 ≤ 20 := by omega
  obtain ⟨k, hk⟩ : ∃ k, around a1 51 = k := ⟨_, rfl⟩
  have bk := around_bd a1 51 (by omega)
  rw [hk] at bk
  have HK := Lib.hid hk
  clear hk0 hk
  generalize goodL l0 20 = x at *
  generalize l0.take 20 = rx at *
  have t1 : Hid (shiftR x (k - 25) = (shiftL x (k - 25), 0)) := by unfold Hid shiftR; rw [m0, if_pos rfl, if_neg (by omega)]
  have I0 := I64_of_may m0
  have B0 : x.length ≤ 20 := by omega
  have hself : ∀ z : List Int, (z == z) = true := by intro z; simp
  have HSELF := Lib.hid hself
  obtain ⟨rl, rc, hrl⟩ : ∃ rl rc, shiftR rx a1 = (rl, rc) := ⟨_, _, rfl⟩
  have hcases : (mayL rx = false ∧ rl = [] ∧ rc = 1) ∨ (mayL rx = true ∧ a1 < -1000 ∧ rl = [] ∧ rc = 3) ∨ (mayL rx = true ∧ 1000 < a1 ∧ rl = [] ∧ rc = 3) ∨ (mayL rx = true ∧ (-1000 ≤ a1 ∧ a1 ≤ 1000) ∧ rl = shiftL rx a1 ∧ rc = 0) := by
    have hl : (shiftR rx a1).1 = rl := by rw [hrl]
    have hc : (shiftR rx a1).2 = rc := by rw [hrl]
    rw [← hl, ← hc]
    unfold shiftR
    cases hm : mayL rx
    · exact .inl ⟨rfl, rfl, rfl⟩
    · rw [if_pos rfl]
      by_cases h : a1 < -1000 ∨ 1000 < a1
      · rw [if_pos h]
        rcases h with h | h
        · exact .inr (.inl ⟨rfl, h, rfl, rfl⟩)
        · exact .inr (.inr (.inl ⟨rfl, h, rfl, rfl⟩))
      · rw [if_neg h]
        exact .inr (.inr (.inr ⟨rfl, by omega, rfl, rfl⟩))
  have HRL := Lib.hid hrl
  clear hrl q0 m0 hself
  rcases hcases with ⟨hm, hrl, hrc⟩ | ⟨hm, ha, hrl, hrc⟩ | ⟨hm, ha, hrl, hrc⟩ | ⟨hm, ha, hrl, hrc⟩
  · have _t := trivial
    have HM := Lib.hid hm
    clear hm
    subst hrl
    subst hrc
    go_enter Try.func11, Try.ntmps11
    go_wp2_with fail
    refine ((g0.out _ (w0.below (by first | exact Below.refl _ _ | (repeat (first | exact Below.refl _ _ | refine Below.alloc ?_ (by simp <;> omega) _ | refine Below.setCell ?_ (by simp <;> omega) _ | refine Below.drew ?_ | exact below_drewN _ _ _)))))).mono ?_
    rintro e v1 ⟨AhX, nhX, chX, rfl, hX, hb1⟩
    have q1 : Below w.heap.size w v1 := below_from (by first | exact Below.refl _ _ | (repeat (first | exact Below.refl _ _ | refine Below.alloc ?_ (by simp <;> omega) _ | refine Below.setCell ?_ (by simp <;> omega) _ | refine Below.drew ?_ | exact below_drewN _ _ _))) hb1
    clear hb1
    replace w0 := w0.below q1
    replace r0 := r0.below q1
    have bx : nhX ≤ 20 := by rw [← hX.len]; exact B0
    go_wp2_with fail
    refine (around_w _ _ _ w1 (by omega) (by omega) _ HK.out).mono ?_
    rintro e v2 ⟨rfl, rfl⟩
    go_wp2_with fail
    refine (shift_any _ _ _ x _ _ hX I0 (by omega) (by omega)).mono ?_
    rw [t1.out]
    rintro e v3 ⟨AhA, nhA, chA, rfl, hA, hb3⟩
    replace hA := hA.il
    have q3 : Below v1.heap.size v1 v3 := below_from (by first | exact Below.refl _ _ | (repeat (first | exact Below.refl _ _ | refine Below.alloc ?_ (by simp <;> omega) _ | refine Below.setCell ?_ (by simp <;> omega) _ | refine Below.drew ?_ | exact below_drewN _ _ _))) hb3
    clear hb3
    replace w0 := w0.below q3
    replace r0 := r0.below q3
    replace hX := hX.below q3
    have hq3 := below_from q1 q3
    clear q1 q3
    go_wp2_with fail
    refine (shift_any _ _ _ rx _ _ r0 J0 (by omega) w1).mono ?_
    rw [HRL.out]
    rintro e v4 ⟨AhR, nhR, chR, rfl, hR, hb4⟩
    replace hR := hR.il
    have q4 : Below v3.heap.size v3 v4 := below_from (by first | exact Below.refl _ _ | (repeat (first | exact Below.refl _ _ | refine Below.alloc ?_ (by simp <;> omega) _ | refine Below.setCell ?_ (by simp <;> omega) _ | refine Below.drew ?_ | exact below_drewN _ _ _))) hb4
    clear hb4
    replace w0 := w0.below q4
    replace r0 := r0.below q4
    replace hX := hX.below q4
    replace hA := hA.below q4
    have hq4 := below_from hq3 q4
    clear hq3 q4
    obtain rfl : nhR = 0 := by have := hR.len; simpa using this.symm
    go_wp2_with fail
    refine ((rshift_any _ _ _ x _ _ hX (by omega) (by omega) (by omega)).mono fun _ _ h => RO.rl h).mono ?_
    rintro e v5 ⟨AhT, nhT, chT, rfl, hT, hb5⟩
    have q5 : Below v4.heap.size v4 v5 := below_from (by first | exact Below.refl _ _ | (repeat (first | exact Below.refl _ _ | refine Below.alloc ?_ (by simp <;> omega) _ | refine Below.setCell ?_ (by simp <;> omega) _ | refine Below.drew ?_ | exact below_drewN _ _ _))) hb5
    clear hb5
    replace w0 := w0.below q5
    replace r0 := r0.below q5
    replace hX := hX.below q5
    replace hA := hA.below q5
    replace hR := hR.below q5
    have hq5 := below_from hq4 q5
    clear hq4 q5
    go_wp2_with fail
    refine (same_w _ _ _ _ _ _ _ _ _ hA hT true (HSELF.out _)).mono ?_
    rintro e v6 ⟨rfl, hb6⟩
    have q6 : Below v5.heap.size v5 v6 := below_from (by first | exact Below.refl _ _ | (repeat (first | exact Below.refl _ _ | refine Below.alloc ?_ (by simp <;> omega) _ | refine Below.setCell ?_ (by simp <;> omega) _ | refine Below.drew ?_ | exact below_drewN _ _ _))) hb6
    clear hb6
    replace w0 := w0.below q6
    replace r0 := r0.below q6
    replace hX := hX.below q6
    replace hA := hA.below q6
    replace hR := hR.below q6
    replace hT := hT.below q6
    have hq6 := below_from hq5 q6
    clear hq5 q6
    go_wp2_with fail
    refine (rmay_any _ _ _ rx _ r0).mono ?_
    rw [HM.out]
    rintro e v7 ⟨rfl, rfl⟩
    go_wp2_with fail
    refine (lives5_any _).mono ?_
    rintro e v8 ⟨rfl, hb8⟩
    have q8 : Below v6.heap.size v6 v8 := below_from (by first | exact Below.refl _ _ | (repeat (first | exact Below.refl _ _ | refine Below.alloc ?_ (by simp <;> omega) _ | refine Below.setCell ?_ (by simp <;> omega) _ | refine Below.drew ?_ | exact below_drewN _ _ _))) hb8
    clear hb8
    replace w0 := w0.below q8
    replace r0 := r0.below q8
    replace hX := hX.below q8
    replace hA := hA.below q8
    replace hR := hR.below q8
    replace hT := hT.below q8
    have hq8 := below_from hq6 q8
    clear hq6 q8
    go_wp2_with fail
    go_ret
    exact ⟨rfl, below_from hq8 (by first | exact Below.refl _ _ | (repeat (first | exact Below.refl _ _ | refine Below.alloc ?_ (by simp <;> omega) _ | refine Below.setCell ?_ (by simp <;> omega) _ | refine Below.drew ?_ | exact below_drewN _ _ _)))⟩
  · have _t := trivial
    have HM := Lib.hid hm
    clear hm
    subst hrl
    subst hrc
    go_enter Try.func11, Try.ntmps11
    go_wp2_with fail
    refine ((g0.out _ (w0.below (by first | exact Below.refl _ _ | (repeat (first | exact Below.refl _ _ | refine Below.alloc ?_ (by simp <;> omega) _ | refine Below.setCell ?_ (by simp <;> omega) _ | refine Below.drew ?_ | exact below_drewN _ _ _)))))).mono ?_
    rintro e v1 ⟨AhX, nhX, chX, rfl, hX, hb1⟩
    have q1 : Below w.heap.size w v1 := below_from (by first | exact Below.refl _ _ | (repeat (first | exact Below.refl _ _ | refine Below.alloc ?_ (by simp <;> omega) _ | refine Below.setCell ?_ (by simp <;> omega) _ | refine Below.drew ?_ | exact below_drewN _ _ _))) hb1
    clear hb1
    replace w0 := w0.below q1
    replace r0 := r0.below q1
    have bx : nhX ≤ 20 := by rw [← hX.len]; exact B0
    go_wp2_with fail
    refine (around_w _ _ _ w1 (by omega) (by omega) _ HK.out).mono ?_
    rintro e v2 ⟨rfl, rfl⟩
    go_wp2_with fail
    refine (shift_any _ _ _ x _ _ hX I0 (by omega) (by omega)).mono ?_
    rw [t1.out]
    rintro e v3 ⟨AhA, nhA, chA, rfl, hA, hb3⟩
    replace hA := hA.il
    have q3 : Below v1.heap.size v1 v3 := below_from (by first | exact Below.refl _ _ | (repeat (first | exact Below.refl _ _ | refine Below.alloc ?_ (by simp <;> omega) _ | refine Below.setCell ?_ (by simp <;> omega) _ | refine Below.drew ?_ | exact below_drewN _ _ _))) hb3
    clear hb3
    replace w0 := w0.below q3
    replace r0 := r0.below q3
    replace hX := hX.below q3
    have hq3 := below_from q1 q3
    clear q1 q3
    go_wp2_with fail
    refine (shift_any _ _ _ rx _ _ r0 J0 (by omega) w1).mono ?_
    rw [HRL.out]
    rintro e v4 ⟨AhR, nhR, chR, rfl, hR, hb4⟩
    replace hR := hR.il
    have q4 : Below v3.heap.size v3 v4 := below_from (by first | exact Below.refl _ _ | (repeat (first | exact Below.refl _ _ | refine Below.alloc ?_ (by simp <;> omega) _ | refine Below.setCell ?_ (by simp <;> omega) _ | refine Below.drew ?_ | exact below_drewN _ _ _))) hb4
    clear hb4
    replace w0 := w0.below q4
    replace r0 := r0.below q4
    replace hX := hX.below q4
    replace hA := hA.below q4
    have hq4 := below_from hq3 q4
    clear hq3 q4
    obtain rfl : nhR = 0 := by have := hR.len; simpa using this.symm
    go_wp2_with fail
    refine ((rshift_any _ _ _ x _ _ hX (by omega) (by omega) (by omega)).mono fun _ _ h => RO.rl h).mono ?_
    rintro e v5 ⟨AhT, nhT, chT, rfl, hT, hb5⟩
    have q5 : Below v4.heap.size v4 v5 := below_from (by first | exact Below.refl _ _ | (repeat (first | exact Below.refl _ _ | refine Below.alloc ?_ (by simp <;> omega) _ | refine Below.setCell ?_ (by simp <;> omega) _ | refine Below.drew ?_ | exact below_drewN _ _ _))) hb5
    clear hb5
    replace w0 := w0.below q5
    replace r0 := r0.below q5
    replace hX := hX.below q5
    replace hA := hA.below q5
    replace hR := hR.below q5
    have hq5 := below_from hq4 q5
    clear hq4 q5
    go_wp2_with fail
    refine (same_w _ _ _ _ _ _ _ _ _ hA hT true (HSELF.out _)).mono ?_
    rintro e v6 ⟨rfl, hb6⟩
    have q6 : Below v5.heap.size v5 v6 := below_from (by first | exact Below.refl _ _ | (repeat (first | exact Below.refl _ _ | refine Below.alloc ?_ (by simp <;> omega) _ | refine Below.setCell ?_ (by simp <;> omega) _ | refine Below.drew ?_ | exact below_drewN _ _ _))) hb6
    clear hb6
    replace w0 := w0.below q6
    replace r0 := r0.below q6
    replace hX := hX.below q6
    replace hA := hA.below q6
    replace hR := hR.below q6
    replace hT := hT.below q6
    have hq6 := below_from hq5 q6
    clear hq5 q6
    go_wp2_with fail
    refine (rmay_any _ _ _ rx _ r0).mono ?_
    rw [HM.out]
    rintro e v7 ⟨rfl, rfl⟩
    go_wp2_with fail
    refine (lives5_any _).mono ?_
    rintro e v8 ⟨rfl, hb8⟩
    have q8 : Below v6.heap.size v6 v8 := below_from (by first | exact Below.refl _ _ | (repeat (first | exact Below.refl _ _ | refine Below.alloc ?_ (by simp <;> omega) _ | refine Below.setCell ?_ (by simp <;> omega) _ | refine Below.drew ?_ | exact below_drewN _ _ _))) hb8
    clear hb8
    replace w0 := w0.below q8
    replace r0 := r0.below q8
    replace hX := hX.below q8
    replace hA := hA.below q8
    replace hR := hR.below q8
    replace hT := hT.below q8
    have hq8 := below_from hq6 q8
    clear hq6 q8
    go_wp2_with fail
    go_ret
    exact ⟨rfl, below_from hq8 (by first | exact Below.refl _ _ | (repeat (first | exact Below.refl _ _ | refine Below.alloc ?_ (by simp <;> omega) _ | refine Below.setCell ?_ (by simp <;> omega) _ | refine Below.drew ?_ | exact below_drewN _ _ _)))⟩
  · have _t := trivial
    have HM := Lib.hid hm
    clear hm
    subst hrl
    subst hrc
    go_enter Try.func11, Try.ntmps11
    go_wp2_with fail
    refine ((g0.out _ (w0.below (by first | exact Below.refl _ _ | (repeat (first | exact Below.refl _ _ | refine Below.alloc ?_ (by simp <;> omega) _ | refine Below.setCell ?_ (by simp <;> omega) _ | refine Below.drew ?_ | exact below_drewN _ _ _)))))).mono ?_
    rintro e v1 ⟨AhX, nhX, chX, rfl, hX, hb1⟩
    have q1 : Below w.heap.size w v1 := below_from (by first | exact Below.refl _ _ | (repeat (first | exact Below.refl _ _ | refine Below.alloc ?_ (by simp <;> omega) _ | refine Below.setCell ?_ (by simp <;> omega) _ | refine Below.drew ?_ | exact below_drewN _ _ _))) hb1
    clear hb1
    replace w0 := w0.below q1
    replace r0 := r0.below q1
    have bx : nhX ≤ 20 := by rw [← hX.len]; exact B0
    go_wp2_with fail
    refine (around_w _ _ _ w1 (by omega) (by omega) _ HK.out).mono ?_
    rintro e v2 ⟨rfl, rfl⟩
    go_wp2_with fail
    refine (shift_any _ _ _ x _ _ hX I0 (by omega) (by omega)).mono ?_
    rw [t1.out]
    rintro e v3 ⟨AhA, nhA, chA, rfl, hA, hb3⟩
    replace hA := hA.il
    have q3 : Below v1.heap.size v1 v3 := below_from (by first | exact Below.refl _ _ | (repeat (first | exact Below.refl _ _ | refine Below.alloc ?_ (by simp <;> omega) _ | refine Below.setCell ?_ (by simp <;> omega) _ | refine Below.drew ?_ | exact below_drewN _ _ _))) hb3
    clear hb3
    replace w0 := w0.below q3
    replace r0 := r0.below q3
    replace hX := hX.below q3
    have hq3 := below_from q1 q3
    clear q1 q3
    go_wp2_with fail
    refine (shift_any _ _ _ rx _ _ r0 J0 (by omega) w1).mono ?_
    rw [HRL.out]
    rintro e v4 ⟨AhR, nhR, chR, rfl, hR, hb4⟩
    replace hR := hR.il
    have q4 : Below v3.heap.size v3 v4 := below_from (by first | exact Below.refl _ _ | (repeat (first | exact Below.refl _ _ | refine Below.alloc ?_ (by simp <;> omega) _ | refine Below.setCell ?_ (by simp <;> omega) _ | refine Below.drew ?_ | exact below_drewN _ _ _))) hb4
    clear hb4
    replace w0 := w0.below q4
    replace r0 := r0.below q4
    replace hX := hX.below q4
    replace hA := hA.below q4
    have hq4 := below_from hq3 q4
    clear hq3 q4
    obtain rfl : nhR = 0 := by have := hR.len; simpa using this.symm
    go_wp2_with fail
    refine ((rshift_any _ _ _ x _ _ hX (by omega) (by omega) (by omega)).mono fun _ _ h => RO.rl h).mono ?_
    rintro e v5 ⟨AhT, nhT, chT, rfl, hT, hb5⟩
    have q5 : Below v4.heap.size v4 v5 := below_from (by first | exact Below.refl _ _ | (repeat (first | exact Below.refl _ _ | refine Below.alloc ?_ (by simp <;> omega) _ | refine Below.setCell ?_ (by simp <;> omega) _ | refine Below.drew ?_ | exact below_drewN _ _ _))) hb5
    clear hb5
    replace w0 := w0.below q5
    replace r0 := r0.below q5
    replace hX := hX.below q5
    replace hA := hA.below q5
    replace hR := hR.below q5
    have hq5 := below_from hq4 q5
    clear hq4 q5
    go_wp2_with fail
    refine (same_w _ _ _ _ _ _ _ _ _ hA hT true (HSELF.out _)).mono ?_
    rintro e v6 ⟨rfl, hb6⟩
    have q6 : Below v5.heap.size v5 v6 := below_from (by first | exact Below.refl _ _ | (repeat (first | exact Below.refl _ _ | refine Below.alloc ?_ (by simp <;> omega) _ | refine Below.setCell ?_ (by simp <;> omega) _ | refine Below.drew ?_ | exact below_drewN _ _ _))) hb6
    clear hb6
    replace w0 := w0.below q6
    replace r0 := r0.below q6
    replace hX := hX.below q6
    replace hA := hA.below q6
    replace hR := hR.below q6
    replace hT := hT.below q6
    have hq6 := below_from hq5 q6
    clear hq5 q6
    go_wp2_with fail
    refine (rmay_any _ _ _ rx _ r0).mono ?_
    rw [HM.out]
    rintro e v7 ⟨rfl, rfl⟩
    go_wp2_with fail
    refine (lives5_any _).mono ?_
    rintro e v8 ⟨rfl, hb8⟩
    have q8 : Below v6.heap.size v6 v8 := below_from (by first | exact Below.refl _ _ | (repeat (first | exact Below.refl _ _ | refine Below.alloc ?_ (by simp <;> omega) _ | refine Below.setCell ?_ (by simp <;> omega) _ | refine Below.drew ?_ | exact below_drewN _ _ _))) hb8
    clear hb8
    replace w0 := w0.below q8
    replace r0 := r0.below q8
    replace hX := hX.below q8
    replace hA := hA.below q8
    replace hR := hR.below q8
    replace hT := hT.below q8
    have hq8 := below_from hq6 q8
    clear hq6 q8
    go_wp2_with fail
    go_ret
    exact ⟨rfl, below_from hq8 (by first | exact Below.refl _ _ | (repeat (first | exact Below.refl _ _ | refine Below.alloc ?_ (by simp <;> omega) _ | refine Below.setCell ?_ (by simp <;> omega) _ | refine Below.drew ?_ | exact below_drewN _ _ _)))⟩
  · have _t := trivial
    have HM := Lib.hid hm
    clear hm
    have HSH := Lib.hid hrl
    clear hrl
    subst hrc
    go_enter Try.func11, Try.ntmps11
    go_wp2_with fail
    refine ((g0.out _ (w0.below (by first | exact Below.refl _ _ | (repeat (first | exact Below.refl _ _ | refine Below.alloc ?_ (by simp <;> omega) _ | refine Below.setCell ?_ (by simp <;> omega) _ | refine Below.drew ?_ | exact below_drewN _ _ _)))))).mono ?_
    rintro e v1 ⟨AhX, nhX, chX, rfl, hX, hb1⟩
    have q1 : Below w.heap.size w v1 := below_from (by first | exact Below.refl _ _ | (repeat (first | exact Below.refl _ _ | refine Below.alloc ?_ (by simp <;> omega) _ | refine Below.setCell ?_ (by simp <;> omega) _ | refine Below.drew ?_ | exact below_drewN _ _ _))) hb1
    clear hb1
    replace w0 := w0.below q1
    replace r0 := r0.below q1
    have bx : nhX ≤ 20 := by rw [← hX.len]; exact B0
    go_wp2_with fail
    refine (around_w _ _ _ w1 (by omega) (by omega) _ HK.out).mono ?_
    rintro e v2 ⟨rfl, rfl⟩
    go_wp2_with fail
    refine (shift_any _ _ _ x _ _ hX I0 (by omega) (by omega)).mono ?_
    rw [t1.out]
    rintro e v3 ⟨AhA, nhA, chA, rfl, hA, hb3⟩
    replace hA := hA.il
    have q3 : Below v1.heap.size v1 v3 := below_from (by first | exact Below.refl _ _ | (repeat (first | exact Below.refl _ _ | refine Below.alloc ?_ (by simp <;> omega) _ | refine Below.setCell ?_ (by simp <;> omega) _ | refine Below.drew ?_ | exact below_drewN _ _ _))) hb3
    clear hb3
    replace w0 := w0.below q3
    replace r0 := r0.below q3
    replace hX := hX.below q3
    have hq3 := below_from q1 q3
    clear q1 q3
    go_wp2_with fail
    refine (shift_any _ _ _ rx _ _ r0 J0 (by omega) w1).mono ?_
    rw [HRL.out]
    rintro e v4 ⟨AhR, nhR, chR, rfl, hR, hb4⟩
    replace hR := hR.il
    have q4 : Below v3.heap.size v3 v4 := below_from (by first | exact Below.refl _ _ | (repeat (first | exact Below.refl _ _ | refine Below.alloc ?_ (by simp <;> omega) _ | refine Below.setCell ?_ (by simp <;> omega) _ | refine Below.drew ?_ | exact below_drewN _ _ _))) hb4
    clear hb4
    replace w0 := w0.below q4
    replace r0 := r0.below q4
    replace hX := hX.below q4
    replace hA := hA.below q4
    have hq4 := below_from hq3 q4
    clear hq3 q4
    go_wp2_with fail
    refine ((rshift_any _ _ _ x _ _ hX (by omega) (by omega) (by omega)).mono fun _ _ h => RO.rl h).mono ?_
    rintro e v5 ⟨AhT, nhT, chT, rfl, hT, hb5⟩
    have q5 : Below v4.heap.size v4 v5 := below_from (by first | exact Below.refl _ _ | (repeat (first | exact Below.refl _ _ | refine Below.alloc ?_ (by simp <;> omega) _ | refine Below.setCell ?_ (by simp <;> omega) _ | refine Below.drew ?_ | exact below_drewN _ _ _))) hb5
    clear hb5
    replace w0 := w0.below q5
    replace r0 := r0.below q5
    replace hX := hX.below q5
    replace hA := hA.below q5
    replace hR := hR.below q5
    have hq5 := below_from hq4 q5
    clear hq4 q5
    go_wp2_with fail
    refine (same_w _ _ _ _ _ _ _ _ _ hA hT true (HSELF.out _)).mono ?_
    rintro e v6 ⟨rfl, hb6⟩
    have q6 : Below v5.heap.size v5 v6 := below_from (by first | exact Below.refl _ _ | (repeat (first | exact Below.refl _ _ | refine Below.alloc ?_ (by simp <;> omega) _ | refine Below.setCell ?_ (by simp <;> omega) _ | refine Below.drew ?_ | exact below_drewN _ _ _))) hb6
    clear hb6
    replace w0 := w0.below q6
    replace r0 := r0.below q6
    replace hX := hX.below q6
    replace hA := hA.below q6
    replace hR := hR.below q6
    replace hT := hT.below q6
    have hq6 := below_from hq5 q6
    clear hq5 q6
    go_wp2_with fail
    refine (rmay_any _ _ _ rx _ r0).mono ?_
    rw [HM.out]
    rintro e v7 ⟨rfl, rfl⟩
    go_wp2_with fail
    refine ((rshift_any _ _ _ rx _ _ r0 (by omega) (by omega) (by omega)).mono fun _ _ h => RO.rl h).mono ?_
    rw [← HSH.out]
    rintro e v8 ⟨AhU, nhU, chU, rfl, hU, hb8⟩
    have q8 : Below v6.heap.size v6 v8 := below_from (by first | exact Below.refl _ _ | (repeat (first | exact Below.refl _ _ | refine Below.alloc ?_ (by simp <;> omega) _ | refine Below.setCell ?_ (by simp <;> omega) _ | refine Below.drew ?_ | exact below_drewN _ _ _))) hb8
    clear hb8
    replace w0 := w0.below q8
    replace r0 := r0.below q8
    replace hX := hX.below q8
    replace hA := hA.below q8
    replace hR := hR.below q8
    replace hT := hT.below q8
    have hq8 := below_from hq6 q8
    clear hq6 q8
    go_wp2_with fail
    refine (same_w _ _ _ rl _ _ _ rl _ hR hU true (HSELF.out _)).mono ?_
    rintro e v9 ⟨rfl, hb9⟩
    have q9 : Below v8.heap.size v8 v9 := below_from (by first | exact Below.refl _ _ | (repeat (first | exact Below.refl _ _ | refine Below.alloc ?_ (by simp <;> omega) _ | refine Below.setCell ?_ (by simp <;> omega) _ | refine Below.drew ?_ | exact below_drewN _ _ _))) hb9
    clear hb9
    replace w0 := w0.below q9
    replace r0 := r0.below q9
    replace hX := hX.below q9
    replace hA := hA.below q9
    replace hR := hR.below q9
    replace hT := hT.below q9
    replace hU := hU.below q9
    have hq9 := below_from hq8 q9
    clear hq8 q9
    go_wp2_with fail
    refine (lives5_any _).mono ?_
    rintro e v10 ⟨rfl, hb10⟩
    have q10 : Below v9.heap.size v9 v10 := below_from (by first | exact Below.refl _ _ | (repeat (first | exact Below.refl _ _ | refine Below.alloc ?_ (by simp <;> omega) _ | refine Below.setCell ?_ (by simp <;> omega) _ | refine Below.drew ?_ | exact below_drewN _ _ _))) hb10
    clear hb10
    replace w0 := w0.below q10
    replace r0 := r0.below q10
    replace hX := hX.below q10
    replace hA := hA.below q10
    replace hR := hR.below q10
    replace hT := hT.below q10
    replace hU := hU.below q10
    have hq10 := below_from hq9 q10
    clear hq9 q10
    go_wp2_with fail
    go_ret
    exact ⟨rfl, below_from hq10 (by first | exact Below.refl _ _ | (repeat (first | exact Below.refl _ _ | refine Below.alloc ?_ (by simp <;> omega) _ | refine Below.setCell ?_ (by simp <;> omega) _ | refine Below.drew ?_ | exact below_drewN _ _ _)))⟩

set_option maxHeartbeats 2000000 in
theorem digitTrims_walk (w : World) {A0 : Option Addr} {n0 c0 : Nat} {l0 : List Int} (w0 : IL w A0 n0 c0 l0) (i0 : I64 l0) {a1 : Int} (w1 : -9223372036854775808 ≤ a1 ∧ a1 ≤ 9223372036854775807) :
    Calls Try.prog 9 #[.slice A0 n0 c0, .int .i64 a1] w fun e w' => e = .returned (.bool true) ∧ Below w.heap.size w w' := by
  have m0 := mayL_good l0 30
  have q0 := goodL_len l0 30
  have hc0 := w0.cap
  have he0 := w0.le
  have g0 := Lib.hid (fun W hW => good_w A0 n0 c0 30 l0 W hW i0 (by omega))
  obtain ⟨k', hk⟩ : ∃ k', around a1 10 = k' := ⟨_, rfl⟩
  have bk := around_bd a1 10 (by omega)
  rw [hk] at bk
  obtain ⟨k, rfl⟩ := Int.eq_ofNat_of_zero_le bk.1
  have HK := Lib.hid hk
  clear hk
  generalize goodL l0 30 = x at *
  have I0 := I64_of_may m0
  have B0 : x.length ≤ 30 := by omega
  have hself : ∀ z : List Int, (z == z) = true := by intro z; simp
  have HSELF := Lib.hid hself
  have hwm : mayL (List.replicate k 0 ++ x) = true := by rw [mayL_append, mayL_replicate, m0]; rfl
  have HWM := Lib.hid hwm
  have IW := I64_of_may hwm
  have hzz : Hid ((zerosL (List.replicate k 0 ++ x) : Int) = ((k + x.length : Nat) : Int) - ((trimL (List.replicate k 0 ++ x)).length : Int)) := by
    have h1 := zerosL_le (List.replicate k 0 ++ x)
    have h2 := trimL_len (List.replicate k 0 ++ x)
    simp at h1 h2
    rw [Hid, h2]
    omega
  have hcm : Hid (cmpL (List.replicate k 0 ++ x) x = 0) := by
    rw [Hid, cmpL_val hwm m0, val_zeros_append]
    unfold cmpI
    rw [if_neg (by omega), if_neg (by omega)]
  have htt : Hid (trimL (trimL (List.replicate k 0 ++ x)) = trimL (List.replicate k 0 ++ x)) := trimL_idem _
  have hlw : (List.replicate k 0 ++ x).length = k + x.length := by simp
  have htl : (trimL (List.replicate k 0 ++ x)).length ≤ 40 := by rw [trimL_len]; omega
  have IT := I64_trim IW
  have hod : (x = [] ∧ Hid (digL (List.replicate k 0 ++ x) 0 = 0)) ∨ (0 < x.length ∧ Hid (digL (List.replicate k 0 ++ x) 0 = x.getD (x.length - 1) 0)) := by
    cases x with
    | nil => exact .inl ⟨rfl, by rw [Hid, List.append_nil]; exact digL_zeros k⟩
    | cons d x => exact .inr ⟨by simp, digL_ahead _ (by simp)⟩
  have hgd := mayL_getD m0 (x.length - 1)
  generalize hlv : x.getD (x.length - 1) 0 = lv at *
  have HLV := Lib.hid hlv
  clear hlv q0 m0 hself hwm hlw
  rcases hod with ⟨hx, hod⟩ | ⟨hx, hod⟩
  · have _t := trivial
    go_enter Try.func9, Try.ntmps9
    go_wp2_with fail
    refine ((g0.out _ (w0.below (by first | exact Below.refl _ _ | (repeat (first | exact Below.refl _ _ | refine Below.alloc ?_ (by simp <;> omega) _ | refine Below.setCell ?_ (by simp <;> omega) _ | refine Below.drew ?_ | exact below_drewN _ _ _)))))).mono ?_
    rintro e v1 ⟨AhX, nhX, chX, rfl, hX, hb1⟩
    have q1 : Below w.heap.size w v1 := below_from (by first | exact Below.refl _ _ | (repeat (first | exact Below.refl _ _ | refine Below.alloc ?_ (by simp <;> omega) _ | refine Below.setCell ?_ (by simp <;> omega) _ | refine Below.drew ?_ | exact below_drewN _ _ _))) hb1
    clear hb1
    replace w0 := w0.below q1
    have bx : nhX ≤ 30 := by rw [← hX.len]; exact B0
    have HNX := Lib.hid hX.len
    obtain rfl : nhX = 0 := by rw [← HNX.out, hx]; rfl
    have HX := Lib.hid hx
    clear hx
    go_wp2_with fail
    refine (around_w _ _ _ w1 (by omega) (by omega) _ HK.out).mono ?_
    rintro e v2 ⟨rfl, rfl⟩
    go_wp2_with fail
    go_loopw [6, 7] (fun v i wr => ∃ (j : Nat) (A' : Option Addr) (c' : Nat), j ≤ k ∧ i = .int .i64 ((k : Int) - j) ∧ v = .slice A' j c' ∧ OL wr v1.heap.size A' j c' (List.replicate j 0) ∧ Below v1.heap.size v1 wr)
      (fun _ i _ => (intOf i).toNat)
    case atStart => exact ⟨0, none, 0, Nat.zero_le _, by go_num, rfl, OL.nil _ _, Below.refl _ _⟩
    case round =>
      obtain ⟨j, A', c', hj, rfl, rfl, hO, hBr⟩ := hrel
      have hsz := hBr.size
      by_cases hlt : j < k
      · go_wp2_with (first
          | (at_builtin; refine wpList_append_OL v1.heap.size rfl _ _ rfl rfl rfl (hO.alloc _) (IL.one _ _ _) (by simp; omega) (by omega) ?_; intro A3 c3 w3 hO3 hB3 _))
        go_roundw
        case rel => exact ⟨j + 1, A3, c3, by omega, by go_num, rfl, by rw [List.replicate_succ']; exact hO3, (hBr.alloc hsz _).trans hB3⟩
        case measure => simp [intOf]; omega
      · obtain rfl : j = k := by omega
        have hXr := hX.below hBr
        go_wp2_with (first | (at_builtin; refine wpList_append_OL v1.heap.size rfl _ _ rfl rfl rfl hO hXr hsz (by omega) ?_; intro A4 c4 w4 hO4 hB4 _))
        have hbb := hBr.trans hB4
        have hqs := below_from q1 hbb
        replace hX := hX.below hbb
        have hW := hO4.il
        have bw : j + 0 ≤ 40 := by omega
        clear hO4 hB4 hBr hXr hO hbb w0 hsz
        refine ((rtrim_any _ _ _ (List.replicate j 0 ++ x) _ hW (by omega)).mono fun _ _ h => RO.rl h).mono ?_
        rintro e v3 ⟨AhT, nhT, chT, rfl, hT, hb3⟩
        have q3 : Below w4.heap.size w4 v3 := below_from (by first | exact Below.refl _ _ | (repeat (first | exact Below.refl _ _ | refine Below.alloc ?_ (by simp <;> omega) _ | refine Below.setCell ?_ (by simp <;> omega) _ | refine Below.drew ?_ | exact below_drewN _ _ _))) hb3
        clear hb3
        replace hX := hX.below q3
        replace hW := hW.below q3
        have hq3 := below_from hqs q3
        clear hqs q3
        have bt : nhT ≤ 40 := by rw [← hT.len]; exact htl
        have HLT := Lib.hid hT.len
        go_wp2_with fail
        refine ((trim_any _ _ _ (List.replicate j 0 ++ x) _ hW IW (by omega)).mono fun _ _ h => RO.rl h).mono ?_
        rintro e v4 ⟨AhP, nhP, chP, rfl, hP, hb4⟩
        have q4 : Below v3.heap.size v3 v4 := below_from (by first | exact Below.refl _ _ | (repeat (first | exact Below.refl _ _ | refine Below.alloc ?_ (by simp <;> omega) _ | refine Below.setCell ?_ (by simp <;> omega) _ | refine Below.drew ?_ | exact below_drewN _ _ _))) hb4
        clear hb4
        replace hX := hX.below q4
        replace hW := hW.below q4
        replace hT := hT.below q4
        have hq4 := below_from hq3 q4
        clear hq3 q4
        go_wp2_with fail
        refine (same_w _ _ _ _ _ _ _ _ _ hP hT true (HSELF.out _)).mono ?_
        rintro e v5 ⟨rfl, hb5⟩
        have q5 : Below v4.heap.size v4 v5 := below_from (by first | exact Below.refl _ _ | (repeat (first | exact Below.refl _ _ | refine Below.alloc ?_ (by simp <;> omega) _ | refine Below.setCell ?_ (by simp <;> omega) _ | refine Below.drew ?_ | exact below_drewN _ _ _))) hb5
        clear hb5
        replace hX := hX.below q5
        replace hW := hW.below q5
        replace hT := hT.below q5
        replace hP := hP.below q5
        have hq5 := below_from hq4 q5
        clear hq4 q5
        go_wp2_with fail
        refine (zeros_any _ _ _ _ _ hW IW).mono ?_
        rw [hzz.out, HNX.out, HLT.out]
        rintro e v6 ⟨rfl, rfl⟩
        go_wp2_with fail
        refine (odd_any _ _ _ _ _ hW HWM.out).mono ?_
        rw [hod.out]
        rintro e v7 ⟨rfl, rfl⟩
        go_wp2_with fail
        refine (compare_any _ _ _ (List.replicate j 0 ++ x) _ _ _ x _ hW hX IW I0 (by omega) (by omega)).mono ?_
        rw [hcm.out]
        rintro e v8 ⟨rfl, hb8⟩
        have q8 : Below v5.heap.size v5 v8 := below_from (by first | exact Below.refl _ _ | (repeat (first | exact Below.refl _ _ | refine Below.alloc ?_ (by simp <;> omega) _ | refine Below.setCell ?_ (by simp <;> omega) _ | refine Below.drew ?_ | exact below_drewN _ _ _))) hb8
        clear hb8
        replace hX := hX.below q8
        replace hW := hW.below q8
        replace hT := hT.below q8
        replace hP := hP.below q8
        have hq8 := below_from hq5 q8
        clear hq5 q8
        go_wp2_with fail
        refine ((trim_any _ _ _ (trimL (List.replicate j 0 ++ x)) _ hT IT (by omega)).mono fun _ _ h => RO.rl h).mono ?_
        rw [htt.out]
        rintro e v9 ⟨AhU, nhU, chU, rfl, hU, hb9⟩
        have q9 : Below v8.heap.size v8 v9 := below_from (by first | exact Below.refl _ _ | (repeat (first | exact Below.refl _ _ | refine Below.alloc ?_ (by simp <;> omega) _ | refine Below.setCell ?_ (by simp <;> omega) _ | refine Below.drew ?_ | exact below_drewN _ _ _))) hb9
        clear hb9
        replace hX := hX.below q9
        replace hW := hW.below q9
        replace hT := hT.below q9
        replace hP := hP.below q9
        have hq9 := below_from hq8 q9
        clear hq8 q9
        go_wp2_with fail
        refine (same_w _ _ _ _ _ _ _ _ _ hU hT true (HSELF.out _)).mono ?_
        rintro e v10 ⟨rfl, hb10⟩
        have q10 : Below v9.heap.size v9 v10 := below_from (by first | exact Below.refl _ _ | (repeat (first | exact Below.refl _ _ | refine Below.alloc ?_ (by simp <;> omega) _ | refine Below.setCell ?_ (by simp <;> omega) _ | refine Below.drew ?_ | exact below_drewN _ _ _))) hb10
        clear hb10
        replace hX := hX.below q10
        replace hW := hW.below q10
        replace hT := hT.below q10
        replace hP := hP.below q10
        replace hU := hU.below q10
        have hq10 := below_from hq9 q10
        clear hq9 q10
        go_wp2_with fail
        refine (lives5_any _).mono ?_
        rintro e v11 ⟨rfl, hb11⟩
        have q11 : Below v10.heap.size v10 v11 := below_from (by first | exact Below.refl _ _ | (repeat (first | exact Below.refl _ _ | refine Below.alloc ?_ (by simp <;> omega) _ | refine Below.setCell ?_ (by simp <;> omega) _ | refine Below.drew ?_ | exact below_drewN _ _ _))) hb11
        clear hb11
        replace hX := hX.below q11
        replace hW := hW.below q11
        replace hT := hT.below q11
        replace hP := hP.below q11
        replace hU := hU.below q11
        have hq11 := below_from hq10 q11
        clear hq10 q11
        go_wp2_with fail
        go_ret
        exact ⟨rfl, below_from hq11 (by first | exact Below.refl _ _ | (repeat (first | exact Below.refl _ _ | refine Below.alloc ?_ (by simp <;> omega) _ | refine Below.setCell ?_ (by simp <;> omega) _ | refine Below.drew ?_ | exact below_drewN _ _ _)))⟩
  · have _t := trivial
    go_enter Try.func9, Try.ntmps9
    go_wp2_with fail
    refine ((g0.out _ (w0.below (by first | exact Below.refl _ _ | (repeat (first | exact Below.refl _ _ | refine Below.alloc ?_ (by simp <;> omega) _ | refine Below.setCell ?_ (by simp <;> omega) _ | refine Below.drew ?_ | exact below_drewN _ _ _)))))).mono ?_
    rintro e v1 ⟨AhX, nhX, chX, rfl, hX, hb1⟩
    have q1 : Below w.heap.size w v1 := below_from (by first | exact Below.refl _ _ | (repeat (first | exact Below.refl _ _ | refine Below.alloc ?_ (by simp <;> omega) _ | refine Below.setCell ?_ (by simp <;> omega) _ | refine Below.drew ?_ | exact below_drewN _ _ _))) hb1
    clear hb1
    replace w0 := w0.below q1
    have bx : nhX ≤ 30 := by rw [← hX.len]; exact B0
    have HNX := Lib.hid hX.len
    have hpos : 0 < nhX := by rw [← HNX.out]; exact hx
    have hpn : (0 : Int) < (nhX : Int) := by omega
    have HX := Lib.hid hx
    clear hx
    go_wp2_with fail
    refine (around_w _ _ _ w1 (by omega) (by omega) _ HK.out).mono ?_
    rintro e v2 ⟨rfl, rfl⟩
    go_wp2_with fail
    go_loopw [6, 7] (fun v i wr => ∃ (j : Nat) (A' : Option Addr) (c' : Nat), j ≤ k ∧ i = .int .i64 ((k : Int) - j) ∧ v = .slice A' j c' ∧ OL wr v1.heap.size A' j c' (List.replicate j 0) ∧ Below v1.heap.size v1 wr)
      (fun _ i _ => (intOf i).toNat)
    case atStart => exact ⟨0, none, 0, Nat.zero_le _, by go_num, rfl, OL.nil _ _, Below.refl _ _⟩
    case round =>
      obtain ⟨j, A', c', hj, rfl, rfl, hO, hBr⟩ := hrel
      have hsz := hBr.size
      by_cases hlt : j < k
      · go_wp2_with (first
          | (at_builtin; refine wpList_append_OL v1.heap.size rfl _ _ rfl rfl rfl (hO.alloc _) (IL.one _ _ _) (by simp; omega) (by omega) ?_; intro A3 c3 w3 hO3 hB3 _))
        go_roundw
        case rel => exact ⟨j + 1, A3, c3, by omega, by go_num, rfl, by rw [List.replicate_succ']; exact hO3, (hBr.alloc hsz _).trans hB3⟩
        case measure => simp [intOf]; omega
      · obtain rfl : j = k := by omega
        have hXr := hX.below hBr
        go_wp2_with (first | (at_builtin; refine wpList_append_OL v1.heap.size rfl _ _ rfl rfl rfl hO hXr hsz (by omega) ?_; intro A4 c4 w4 hO4 hB4 _))
        have hbb := hBr.trans hB4
        have hqs := below_from q1 hbb
        replace hX := hX.below hbb
        have hW := hO4.il
        have bw : j + nhX ≤ 40 := by omega
        clear hO4 hB4 hBr hXr hO hbb w0 hsz
        refine ((rtrim_any _ _ _ (List.replicate j 0 ++ x) _ hW (by omega)).mono fun _ _ h => RO.rl h).mono ?_
        rintro e v3 ⟨AhT, nhT, chT, rfl, hT, hb3⟩
        have q3 : Below w4.heap.size w4 v3 := below_from (by first | exact Below.refl _ _ | (repeat (first | exact Below.refl _ _ | refine Below.alloc ?_ (by simp <;> omega) _ | refine Below.setCell ?_ (by simp <;> omega) _ | refine Below.drew ?_ | exact below_drewN _ _ _))) hb3
        clear hb3
        replace hX := hX.below q3
        replace hW := hW.below q3
        have hq3 := below_from hqs q3
        clear hqs q3
        have bt : nhT ≤ 40 := by rw [← hT.len]; exact htl
        have HLT := Lib.hid hT.len
        obtain ⟨b, off, rfl, hcl⟩ := hX.at_ (k := nhX - 1) (by omega)
        rw [← HNX.out, HLV.out, HNX.out] at hcl
        go_wp2_with fail
        refine ((trim_any _ _ _ (List.replicate j 0 ++ x) _ hW IW (by omega)).mono fun _ _ h => RO.rl h).mono ?_
        rintro e v4 ⟨AhP, nhP, chP, rfl, hP, hb4⟩
        have q4 : Below v3.heap.size v3 v4 := below_from (by first | exact Below.refl _ _ | (repeat (first | exact Below.refl _ _ | refine Below.alloc ?_ (by simp <;> omega) _ | refine Below.setCell ?_ (by simp <;> omega) _ | refine Below.drew ?_ | exact below_drewN _ _ _))) hb4
        clear hb4
        replace hX := hX.below q4
        replace hW := hW.below q4
        replace hT := hT.below q4
        have hq4 := below_from hq3 q4
        clear hq3 q4
        go_wp2_with fail
        refine (same_w _ _ _ _ _ _ _ _ _ hP hT true (HSELF.out _)).mono ?_
        rintro e v5 ⟨rfl, hb5⟩
        have q5 : Below v4.heap.size v4 v5 := below_from (by first | exact Below.refl _ _ | (repeat (first | exact Below.refl _ _ | refine Below.alloc ?_ (by simp <;> omega) _ | refine Below.setCell ?_ (by simp <;> omega) _ | refine Below.drew ?_ | exact below_drewN _ _ _))) hb5
        clear hb5
        replace hX := hX.below q5
        replace hW := hW.below q5
        replace hT := hT.below q5
        replace hP := hP.below q5
        have hq5 := below_from hq4 q5
        clear hq4 q5
        go_wp2_with fail
        refine (zeros_any _ _ _ _ _ hW IW).mono ?_
        rw [hzz.out, HNX.out, HLT.out]
        rintro e v6 ⟨rfl, rfl⟩
        go_wp2_with fail
        refine (odd_any _ _ _ _ _ hW HWM.out).mono ?_
        rw [hod.out]
        rintro e v7 ⟨rfl, rfl⟩
        go_wp2_with fail
        refine (compare_any _ _ _ (List.replicate j 0 ++ x) _ _ _ x _ hW hX IW I0 (by omega) (by omega)).mono ?_
        rw [hcm.out]
        rintro e v8 ⟨rfl, hb8⟩
        have q8 : Below v5.heap.size v5 v8 := below_from (by first | exact Below.refl _ _ | (repeat (first | exact Below.refl _ _ | refine Below.alloc ?_ (by simp <;> omega) _ | refine Below.setCell ?_ (by simp <;> omega) _ | refine Below.drew ?_ | exact below_drewN _ _ _))) hb8
        clear hb8
        replace hX := hX.below q8
        replace hW := hW.below q8
        replace hT := hT.below q8
        replace hP := hP.below q8
        have hq8 := below_from hq5 q8
        clear hq5 q8
        go_wp2_with fail
        refine ((trim_any _ _ _ (trimL (List.replicate j 0 ++ x)) _ hT IT (by omega)).mono fun _ _ h => RO.rl h).mono ?_
        rw [htt.out]
        rintro e v9 ⟨AhU, nhU, chU, rfl, hU, hb9⟩
        have q9 : Below v8.heap.size v8 v9 := below_from (by first | exact Below.refl _ _ | (repeat (first | exact Below.refl _ _ | refine Below.alloc ?_ (by simp <;> omega) _ | refine Below.setCell ?_ (by simp <;> omega) _ | refine Below.drew ?_ | exact below_drewN _ _ _))) hb9
        clear hb9
        replace hX := hX.below q9
        replace hW := hW.below q9
        replace hT := hT.below q9
        replace hP := hP.below q9
        have hq9 := below_from hq8 q9
        clear hq8 q9
        go_wp2_with fail
        refine (same_w _ _ _ _ _ _ _ _ _ hU hT true (HSELF.out _)).mono ?_
        rintro e v10 ⟨rfl, hb10⟩
        have q10 : Below v9.heap.size v9 v10 := below_from (by first | exact Below.refl _ _ | (repeat (first | exact Below.refl _ _ | refine Below.alloc ?_ (by simp <;> omega) _ | refine Below.setCell ?_ (by simp <;> omega) _ | refine Below.drew ?_ | exact below_drewN _ _ _))) hb10
        clear hb10
        replace hX := hX.below q10
        replace hW := hW.below q10
        replace hT := hT.below q10
        replace hP := hP.below q10
        replace hU := hU.below q10
        have hq10 := below_from hq9 q10
        clear hq9 q10
        go_wp2_with fail
        refine (lives5_any _).mono ?_
        rintro e v11 ⟨rfl, hb11⟩
        have q11 : Below v10.heap.size v10 v11 := below_from (by first | exact Below.refl _ _ | (repeat (first | exact Below.refl _ _ | refine Below.alloc ?_ (by simp <;> omega) _ | refine Below.setCell ?_ (by simp <;> omega) _ | refine Below.drew ?_ | exact below_drewN _ _ _))) hb11
        clear hb11
        replace hX := hX.below q11
        replace hW := hW.below q11
        replace hT := hT.below q11
        replace hP := hP.below q11
        replace hU := hU.below q11
        have hq11 := below_from hq10 q11
        clear hq10 q11
        go_wp2_with fail
        go_ret
        exact ⟨rfl, below_from hq11 (by first | exact Below.refl _ _ | (repeat (first | exact Below.refl _ _ | refine Below.alloc ?_ (by simp <;> omega) _ | refine Below.setCell ?_ (by simp <;> omega) _ | refine Below.drew ?_ | exact below_drewN _ _ _)))⟩

end Go.Proofs.Ytgjmcanjlcblgaa
