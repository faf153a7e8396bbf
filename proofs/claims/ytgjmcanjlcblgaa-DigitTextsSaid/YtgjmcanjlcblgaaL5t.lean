/- The walk of the law DigitTexts. No condition. -/
import Derived.Test.YtgjmcanjlcblgaaL5c
import Derived.Test.YtgjmcanjlcblgaaTexts
namespace Go.Proofs.Ytgjmcanjlcblgaa
open Go.RowKit

def fewB (s : ByteArray) (m : Nat) : ByteArray := if m < s.size then s.extract 0 m else s
theorem fewB_size (s : ByteArray) (m : Nat) : (fewB s m).size ≤ m := by
  unfold fewB
  split
  · rw [ByteArray.size_extract]; omega
  · omega

theorem few_any (s : ByteArray) (m : Nat) (w : World) (_hs : s.size ≤ 9223372036854775807) (hm : m ≤ 1000000) :
    Calls Try.prog 56 #[.string s, .int .i64 (m : Int)] w fun e w' => e = .returned (.string (fewB s m)) ∧ w = w' := by
  by_cases h : m < s.size
  · have hr : Hid (fewB s m = s.extract 0 m) := by unfold Hid fewB; rw [if_pos h]
    go_enter Try.func56, Try.ntmps56
    go_wp2
    go_ret
    exact ⟨by rw [hr.out]; rfl, rfl⟩
  · have hr : Hid (fewB s m = s) := by unfold Hid fewB; rw [if_neg h]
    go_enter Try.func56, Try.ntmps56
    go_wp2
    go_ret
    exact ⟨by rw [hr.out]; rfl, rfl⟩

set_option maxHeartbeats 2000000 in
theorem digitTexts_walk (w : World) {s0 : ByteArray} (w0 : s0.size ≤ 9223372036854775807) {A1 : Option Addr} {n1 c1 : Nat} {l1 : List Int} (w1 : IL w A1 n1 c1 l1) (i1 : I64 l1) :
    Calls Try.prog 13 #[.string s0, .slice A1 n1 c1] w fun e w' => e = .returned (.bool true) ∧ Below w.heap.size w w' := by
  have J1 := I64_take i1 30
  have m1 := mayL_good l1 30
  have q1 := goodL_len l1 30
  have u1 : (l1.take 30).length ≤ 30 := List.length_take_le _ _
  have hc1 := w1.cap
  have he1 := w1.le
  have g1 := Lib.hid (fun W hW => good_w A1 n1 c1 30 l1 W hW i1 (by omega))
  have gf := Lib.hid (fun W => few_any s0 40 W w0 (by omega))
  obtain ⟨k1, hk1, hmin1, hmin1'⟩ := min_cut n1 30
  replace hmin1 := hmin1 30 rfl
  replace hmin1' := hmin1' 30 rfl
  have r1 := w1.few 30 A1 rfl k1 hk1
  have b1 : k1 ≤ n1 ∧ k1 ≤ 30 := by omega
  have hs40 := fewB_size s0 40
  clear hk1
  generalize goodL l1 30 = y at *
  generalize l1.take 30 = ry at *
  generalize fewB s0 40 = s at *
  have I1 := I64_of_may m1
  have B1 : y.length ≤ 30 := by omega
  have M1 := Lib.hid m1
  have hself : ∀ z : List Int, (z == z) = true := by intro z; simp
  have HSELF := Lib.hid hself
  have hbk0 : parseR (bs (textL y)).data.toList = (y, 0) := by rw [bs_list, parse_text m1]
  have hty0 : (bs (textL y)).size ≤ 30 := by rw [bs_size]; have := textL_len y; omega
  obtain ⟨Y, hY⟩ : ∃ Y, bs (textL y) = Y := ⟨_, rfl⟩
  rw [hY] at hbk0 hty0
  have hbk := Lib.hid hbk0
  have HY := Lib.hid hY
  obtain ⟨RY, hRY⟩ : ∃ RY, bs (textL ry) = RY := ⟨_, rfl⟩
  have HRY := Lib.hid hRY
  obtain ⟨mr, hmr⟩ : ∃ mr, mayL ry = mr := ⟨_, rfl⟩
  have HMR := Lib.hid hmr
  obtain ⟨pl, pc, hpl⟩ : ∃ pl pc, parseR s.data.toList = (pl, pc) := ⟨_, _, rfl⟩
  have hcases : (pc = 2) ∨ (pc = 0 ∧ mayL pl = true ∧ bs (textL pl) = s ∧ pl.length ≤ 40) := by
    have e1 : (parseR s.data.toList).1 = pl := by rw [hpl]
    have e2 : (parseR s.data.toList).2 = pc := by rw [hpl]
    cases hall : s.data.toList.all isB
    · rw [parse_bad hall] at e2
      exact .inl e2.symm
    · have ht := text_parse hall
      have hgd := parse_good hall
      rw [e1] at ht
      rw [hgd] at e1 e2
      refine .inr ⟨e2.symm, ht.2, by rw [ht.1, bs_back], ?_⟩
      rw [← e1]
      have : s.data.toList.length = s.size := Array.length_toList
      simp only [List.length_map, this]
      exact hs40
  have HPL := Lib.hid hpl
  clear hpl hRY hY hmr m1 q1 u1 hself hbk0
  rcases hcases with rfl | ⟨rfl, hp2, hp3, hp4⟩
  · have _t := trivial
    go_enter Try.func13, Try.ntmps13
    go_wp2_with fail
    refine (gf.out _).mono ?_
    rintro e v1 ⟨rfl, rfl⟩
    go_wp2_with fail
    refine ((g1.out _ (w1.below (by first | exact Below.refl _ _ | (repeat (first | exact Below.refl _ _ | refine Below.alloc ?_ (by simp <;> omega) _ | refine Below.setCell ?_ (by simp <;> omega) _ | refine Below.drew ?_ | exact below_drewN _ _ _)))))).mono ?_
    rintro e v2 ⟨AhY, nhY, chY, rfl, hY, hb2⟩
    have q2 : Below w.heap.size w v2 := below_from (by first | exact Below.refl _ _ | (repeat (first | exact Below.refl _ _ | refine Below.alloc ?_ (by simp <;> omega) _ | refine Below.setCell ?_ (by simp <;> omega) _ | refine Below.drew ?_ | exact below_drewN _ _ _))) hb2
    clear hb2
    replace w1 := w1.below q2
    replace r1 := r1.below q2
    have by' : nhY ≤ 30 := by rw [← hY.len]; exact B1
    go_wp2_with fail
    refine (parse_any s _ (by omega)).mono ?_
    rw [HPL.out]
    rintro e v3 ⟨AhA, nhA, chA, rfl, hA, hb3⟩
    replace hA := hA.il
    have q3 : Below v2.heap.size v2 v3 := below_from (by first | exact Below.refl _ _ | (repeat (first | exact Below.refl _ _ | refine Below.alloc ?_ (by simp <;> omega) _ | refine Below.setCell ?_ (by simp <;> omega) _ | refine Below.drew ?_ | exact below_drewN _ _ _))) hb3
    clear hb3
    replace w1 := w1.below q3
    replace r1 := r1.below q3
    replace hY := hY.below q3
    have hq3 := below_from q2 q3
    clear q2 q3
    go_wp2_with fail
    refine (rparse_any s _ (by omega)).mono ?_
    rw [HPL.out]
    rintro e v4 ⟨AhB, nhB, chB, rfl, hB, hb4⟩
    replace hB := hB.il
    have q4 : Below v3.heap.size v3 v4 := below_from (by first | exact Below.refl _ _ | (repeat (first | exact Below.refl _ _ | refine Below.alloc ?_ (by simp <;> omega) _ | refine Below.setCell ?_ (by simp <;> omega) _ | refine Below.drew ?_ | exact below_drewN _ _ _))) hb4
    clear hb4
    replace w1 := w1.below q4
    replace r1 := r1.below q4
    replace hY := hY.below q4
    replace hA := hA.below q4
    have hq4 := below_from hq3 q4
    clear hq3 q4
    go_wp2_with fail
    refine (text_any _ _ _ y _ hY I1 (by omega)).mono ?_
    rw [HY.out]
    rintro e v5 ⟨rfl, hb5⟩
    have q5 : Below v4.heap.size v4 v5 := below_from (by first | exact Below.refl _ _ | (repeat (first | exact Below.refl _ _ | refine Below.alloc ?_ (by simp <;> omega) _ | refine Below.setCell ?_ (by simp <;> omega) _ | refine Below.drew ?_ | exact below_drewN _ _ _))) hb5
    clear hb5
    replace w1 := w1.below q5
    replace r1 := r1.below q5
    replace hY := hY.below q5
    replace hA := hA.below q5
    replace hB := hB.below q5
    have hq5 := below_from hq4 q5
    clear hq4 q5
    go_wp2_with fail
    refine (parse_any Y _ (by omega)).mono ?_
    rw [hbk.out]
    rintro e v6 ⟨AhK, nhK, chK, rfl, hK, hb6⟩
    replace hK := hK.il
    have q6 : Below v5.heap.size v5 v6 := below_from (by first | exact Below.refl _ _ | (repeat (first | exact Below.refl _ _ | refine Below.alloc ?_ (by simp <;> omega) _ | refine Below.setCell ?_ (by simp <;> omega) _ | refine Below.drew ?_ | exact below_drewN _ _ _))) hb6
    clear hb6
    replace w1 := w1.below q6
    replace r1 := r1.below q6
    replace hY := hY.below q6
    replace hA := hA.below q6
    replace hB := hB.below q6
    have hq6 := below_from hq5 q6
    clear hq5 q6
    go_wp2_with fail
    refine (same_w _ _ _ pl _ _ _ pl _ hA hB true (HSELF.out _)).mono ?_
    rintro e v7 ⟨rfl, hb7⟩
    have q7 : Below v6.heap.size v6 v7 := below_from (by first | exact Below.refl _ _ | (repeat (first | exact Below.refl _ _ | refine Below.alloc ?_ (by simp <;> omega) _ | refine Below.setCell ?_ (by simp <;> omega) _ | refine Below.drew ?_ | exact below_drewN _ _ _))) hb7
    clear hb7
    replace w1 := w1.below q7
    replace r1 := r1.below q7
    replace hY := hY.below q7
    replace hA := hA.below q7
    replace hB := hB.below q7
    replace hK := hK.below q7
    have hq7 := below_from hq6 q7
    clear hq6 q7
    go_wp2_with fail
    refine (may_any _ _ _ ry _ r1 J1).mono ?_
    rw [HMR.out]
    rintro e v8 ⟨rfl, rfl⟩
    go_wp2_with fail
    refine (rmay_any _ _ _ ry _ r1).mono ?_
    rw [HMR.out]
    rintro e v9 ⟨rfl, rfl⟩
    go_wp2_with fail
    refine (text_any _ _ _ ry _ r1 J1 (by omega)).mono ?_
    rw [HRY.out]
    rintro e v10 ⟨rfl, hb10⟩
    have q10 : Below v7.heap.size v7 v10 := below_from (by first | exact Below.refl _ _ | (repeat (first | exact Below.refl _ _ | refine Below.alloc ?_ (by simp <;> omega) _ | refine Below.setCell ?_ (by simp <;> omega) _ | refine Below.drew ?_ | exact below_drewN _ _ _))) hb10
    clear hb10
    replace w1 := w1.below q10
    replace r1 := r1.below q10
    replace hY := hY.below q10
    replace hA := hA.below q10
    replace hB := hB.below q10
    replace hK := hK.below q10
    have hq10 := below_from hq7 q10
    clear hq7 q10
    go_wp2_with fail
    refine (rtext_any _ _ _ ry _ r1 (by omega)).mono ?_
    rw [HRY.out]
    rintro e v11 ⟨rfl, hb11⟩
    have q11 : Below v10.heap.size v10 v11 := below_from (by first | exact Below.refl _ _ | (repeat (first | exact Below.refl _ _ | refine Below.alloc ?_ (by simp <;> omega) _ | refine Below.setCell ?_ (by simp <;> omega) _ | refine Below.drew ?_ | exact below_drewN _ _ _))) hb11
    clear hb11
    replace w1 := w1.below q11
    replace r1 := r1.below q11
    replace hY := hY.below q11
    replace hA := hA.below q11
    replace hB := hB.below q11
    replace hK := hK.below q11
    have hq11 := below_from hq10 q11
    clear hq10 q11
    go_wp2_with fail
    refine (text_any _ _ _ y _ hY I1 (by omega)).mono ?_
    rw [HY.out]
    rintro e v12 ⟨rfl, hb12⟩
    have q12 : Below v11.heap.size v11 v12 := below_from (by first | exact Below.refl _ _ | (repeat (first | exact Below.refl _ _ | refine Below.alloc ?_ (by simp <;> omega) _ | refine Below.setCell ?_ (by simp <;> omega) _ | refine Below.drew ?_ | exact below_drewN _ _ _))) hb12
    clear hb12
    replace w1 := w1.below q12
    replace r1 := r1.below q12
    replace hY := hY.below q12
    replace hA := hA.below q12
    replace hB := hB.below q12
    replace hK := hK.below q12
    have hq12 := below_from hq11 q12
    clear hq11 q12
    go_wp2_with fail
    refine (rtext_any _ _ _ y _ hY (by omega)).mono ?_
    rw [HY.out]
    rintro e v13 ⟨rfl, hb13⟩
    have q13 : Below v12.heap.size v12 v13 := below_from (by first | exact Below.refl _ _ | (repeat (first | exact Below.refl _ _ | refine Below.alloc ?_ (by simp <;> omega) _ | refine Below.setCell ?_ (by simp <;> omega) _ | refine Below.drew ?_ | exact below_drewN _ _ _))) hb13
    clear hb13
    replace w1 := w1.below q13
    replace r1 := r1.below q13
    replace hY := hY.below q13
    replace hA := hA.below q13
    replace hB := hB.below q13
    replace hK := hK.below q13
    have hq13 := below_from hq12 q13
    clear hq12 q13
    go_wp2_with fail
    refine (may_any _ _ _ y _ hY I1).mono ?_
    rw [M1.out]
    rintro e v14 ⟨rfl, rfl⟩
    go_wp2_with fail
    refine (same_w _ _ _ y _ _ _ y _ hK hY true (HSELF.out _)).mono ?_
    rintro e v15 ⟨rfl, hb15⟩
    have q15 : Below v13.heap.size v13 v15 := below_from (by first | exact Below.refl _ _ | (repeat (first | exact Below.refl _ _ | refine Below.alloc ?_ (by simp <;> omega) _ | refine Below.setCell ?_ (by simp <;> omega) _ | refine Below.drew ?_ | exact below_drewN _ _ _))) hb15
    clear hb15
    replace w1 := w1.below q15
    replace r1 := r1.below q15
    replace hY := hY.below q15
    replace hA := hA.below q15
    replace hB := hB.below q15
    replace hK := hK.below q15
    have hq15 := below_from hq13 q15
    clear hq13 q15
    go_wp2_with fail
    refine (lives5_any _).mono ?_
    rintro e v16 ⟨rfl, hb16⟩
    have q16 : Below v15.heap.size v15 v16 := below_from (by first | exact Below.refl _ _ | (repeat (first | exact Below.refl _ _ | refine Below.alloc ?_ (by simp <;> omega) _ | refine Below.setCell ?_ (by simp <;> omega) _ | refine Below.drew ?_ | exact below_drewN _ _ _))) hb16
    clear hb16
    replace w1 := w1.below q16
    replace r1 := r1.below q16
    replace hY := hY.below q16
    replace hA := hA.below q16
    replace hB := hB.below q16
    replace hK := hK.below q16
    have hq16 := below_from hq15 q16
    clear hq15 q16
    go_wp2_with fail
    go_ret
    exact ⟨rfl, below_from hq16 (by first | exact Below.refl _ _ | (repeat (first | exact Below.refl _ _ | refine Below.alloc ?_ (by simp <;> omega) _ | refine Below.setCell ?_ (by simp <;> omega) _ | refine Below.drew ?_ | exact below_drewN _ _ _)))⟩
  · have HP2 := Lib.hid hp2
    have HP3 := Lib.hid hp3
    clear hp2 hp3
    go_enter Try.func13, Try.ntmps13
    go_wp2_with fail
    refine (gf.out _).mono ?_
    rintro e v1 ⟨rfl, rfl⟩
    go_wp2_with fail
    refine ((g1.out _ (w1.below (by first | exact Below.refl _ _ | (repeat (first | exact Below.refl _ _ | refine Below.alloc ?_ (by simp <;> omega) _ | refine Below.setCell ?_ (by simp <;> omega) _ | refine Below.drew ?_ | exact below_drewN _ _ _)))))).mono ?_
    rintro e v2 ⟨AhY, nhY, chY, rfl, hY, hb2⟩
    have q2 : Below w.heap.size w v2 := below_from (by first | exact Below.refl _ _ | (repeat (first | exact Below.refl _ _ | refine Below.alloc ?_ (by simp <;> omega) _ | refine Below.setCell ?_ (by simp <;> omega) _ | refine Below.drew ?_ | exact below_drewN _ _ _))) hb2
    clear hb2
    replace w1 := w1.below q2
    replace r1 := r1.below q2
    have by' : nhY ≤ 30 := by rw [← hY.len]; exact B1
    go_wp2_with fail
    refine (parse_any s _ (by omega)).mono ?_
    rw [HPL.out]
    rintro e v3 ⟨AhA, nhA, chA, rfl, hA, hb3⟩
    replace hA := hA.il
    have q3 : Below v2.heap.size v2 v3 := below_from (by first | exact Below.refl _ _ | (repeat (first | exact Below.refl _ _ | refine Below.alloc ?_ (by simp <;> omega) _ | refine Below.setCell ?_ (by simp <;> omega) _ | refine Below.drew ?_ | exact below_drewN _ _ _))) hb3
    clear hb3
    replace w1 := w1.below q3
    replace r1 := r1.below q3
    replace hY := hY.below q3
    have hq3 := below_from q2 q3
    clear q2 q3
    go_wp2_with fail
    refine (rparse_any s _ (by omega)).mono ?_
    rw [HPL.out]
    rintro e v4 ⟨AhB, nhB, chB, rfl, hB, hb4⟩
    replace hB := hB.il
    have q4 : Below v3.heap.size v3 v4 := below_from (by first | exact Below.refl _ _ | (repeat (first | exact Below.refl _ _ | refine Below.alloc ?_ (by simp <;> omega) _ | refine Below.setCell ?_ (by simp <;> omega) _ | refine Below.drew ?_ | exact below_drewN _ _ _))) hb4
    clear hb4
    replace w1 := w1.below q4
    replace r1 := r1.below q4
    replace hY := hY.below q4
    replace hA := hA.below q4
    have hq4 := below_from hq3 q4
    clear hq3 q4
    go_wp2_with fail
    refine (text_any _ _ _ y _ hY I1 (by omega)).mono ?_
    rw [HY.out]
    rintro e v5 ⟨rfl, hb5⟩
    have q5 : Below v4.heap.size v4 v5 := below_from (by first | exact Below.refl _ _ | (repeat (first | exact Below.refl _ _ | refine Below.alloc ?_ (by simp <;> omega) _ | refine Below.setCell ?_ (by simp <;> omega) _ | refine Below.drew ?_ | exact below_drewN _ _ _))) hb5
    clear hb5
    replace w1 := w1.below q5
    replace r1 := r1.below q5
    replace hY := hY.below q5
    replace hA := hA.below q5
    replace hB := hB.below q5
    have hq5 := below_from hq4 q5
    clear hq4 q5
    go_wp2_with fail
    refine (parse_any Y _ (by omega)).mono ?_
    rw [hbk.out]
    rintro e v6 ⟨AhK, nhK, chK, rfl, hK, hb6⟩
    replace hK := hK.il
    have q6 : Below v5.heap.size v5 v6 := below_from (by first | exact Below.refl _ _ | (repeat (first | exact Below.refl _ _ | refine Below.alloc ?_ (by simp <;> omega) _ | refine Below.setCell ?_ (by simp <;> omega) _ | refine Below.drew ?_ | exact below_drewN _ _ _))) hb6
    clear hb6
    replace w1 := w1.below q6
    replace r1 := r1.below q6
    replace hY := hY.below q6
    replace hA := hA.below q6
    replace hB := hB.below q6
    have hq6 := below_from hq5 q6
    clear hq5 q6
    go_wp2_with fail
    refine (same_w _ _ _ pl _ _ _ pl _ hA hB true (HSELF.out _)).mono ?_
    rintro e v7 ⟨rfl, hb7⟩
    have q7 : Below v6.heap.size v6 v7 := below_from (by first | exact Below.refl _ _ | (repeat (first | exact Below.refl _ _ | refine Below.alloc ?_ (by simp <;> omega) _ | refine Below.setCell ?_ (by simp <;> omega) _ | refine Below.drew ?_ | exact below_drewN _ _ _))) hb7
    clear hb7
    replace w1 := w1.below q7
    replace r1 := r1.below q7
    replace hY := hY.below q7
    replace hA := hA.below q7
    replace hB := hB.below q7
    replace hK := hK.below q7
    have hq7 := below_from hq6 q7
    clear hq6 q7
    go_wp2_with fail
    refine (may_any _ _ _ ry _ r1 J1).mono ?_
    rw [HMR.out]
    rintro e v8 ⟨rfl, rfl⟩
    go_wp2_with fail
    refine (rmay_any _ _ _ ry _ r1).mono ?_
    rw [HMR.out]
    rintro e v9 ⟨rfl, rfl⟩
    go_wp2_with fail
    refine (text_any _ _ _ ry _ r1 J1 (by omega)).mono ?_
    rw [HRY.out]
    rintro e v10 ⟨rfl, hb10⟩
    have q10 : Below v7.heap.size v7 v10 := below_from (by first | exact Below.refl _ _ | (repeat (first | exact Below.refl _ _ | refine Below.alloc ?_ (by simp <;> omega) _ | refine Below.setCell ?_ (by simp <;> omega) _ | refine Below.drew ?_ | exact below_drewN _ _ _))) hb10
    clear hb10
    replace w1 := w1.below q10
    replace r1 := r1.below q10
    replace hY := hY.below q10
    replace hA := hA.below q10
    replace hB := hB.below q10
    replace hK := hK.below q10
    have hq10 := below_from hq7 q10
    clear hq7 q10
    go_wp2_with fail
    refine (rtext_any _ _ _ ry _ r1 (by omega)).mono ?_
    rw [HRY.out]
    rintro e v11 ⟨rfl, hb11⟩
    have q11 : Below v10.heap.size v10 v11 := below_from (by first | exact Below.refl _ _ | (repeat (first | exact Below.refl _ _ | refine Below.alloc ?_ (by simp <;> omega) _ | refine Below.setCell ?_ (by simp <;> omega) _ | refine Below.drew ?_ | exact below_drewN _ _ _))) hb11
    clear hb11
    replace w1 := w1.below q11
    replace r1 := r1.below q11
    replace hY := hY.below q11
    replace hA := hA.below q11
    replace hB := hB.below q11
    replace hK := hK.below q11
    have hq11 := below_from hq10 q11
    clear hq10 q11
    go_wp2_with fail
    refine (text_any _ _ _ y _ hY I1 (by omega)).mono ?_
    rw [HY.out]
    rintro e v12 ⟨rfl, hb12⟩
    have q12 : Below v11.heap.size v11 v12 := below_from (by first | exact Below.refl _ _ | (repeat (first | exact Below.refl _ _ | refine Below.alloc ?_ (by simp <;> omega) _ | refine Below.setCell ?_ (by simp <;> omega) _ | refine Below.drew ?_ | exact below_drewN _ _ _))) hb12
    clear hb12
    replace w1 := w1.below q12
    replace r1 := r1.below q12
    replace hY := hY.below q12
    replace hA := hA.below q12
    replace hB := hB.below q12
    replace hK := hK.below q12
    have hq12 := below_from hq11 q12
    clear hq11 q12
    go_wp2_with fail
    refine (rtext_any _ _ _ y _ hY (by omega)).mono ?_
    rw [HY.out]
    rintro e v13 ⟨rfl, hb13⟩
    have q13 : Below v12.heap.size v12 v13 := below_from (by first | exact Below.refl _ _ | (repeat (first | exact Below.refl _ _ | refine Below.alloc ?_ (by simp <;> omega) _ | refine Below.setCell ?_ (by simp <;> omega) _ | refine Below.drew ?_ | exact below_drewN _ _ _))) hb13
    clear hb13
    replace w1 := w1.below q13
    replace r1 := r1.below q13
    replace hY := hY.below q13
    replace hA := hA.below q13
    replace hB := hB.below q13
    replace hK := hK.below q13
    have hq13 := below_from hq12 q13
    clear hq12 q13
    go_wp2_with fail
    refine (may_any _ _ _ y _ hY I1).mono ?_
    rw [M1.out]
    rintro e v14 ⟨rfl, rfl⟩
    go_wp2_with fail
    refine (same_w _ _ _ y _ _ _ y _ hK hY true (HSELF.out _)).mono ?_
    rintro e v15 ⟨rfl, hb15⟩
    have q15 : Below v13.heap.size v13 v15 := below_from (by first | exact Below.refl _ _ | (repeat (first | exact Below.refl _ _ | refine Below.alloc ?_ (by simp <;> omega) _ | refine Below.setCell ?_ (by simp <;> omega) _ | refine Below.drew ?_ | exact below_drewN _ _ _))) hb15
    clear hb15
    replace w1 := w1.below q15
    replace r1 := r1.below q15
    replace hY := hY.below q15
    replace hA := hA.below q15
    replace hB := hB.below q15
    replace hK := hK.below q15
    have hq15 := below_from hq13 q15
    clear hq13 q15
    have bp : nhA ≤ 40 := by rw [← hA.len]; exact hp4
    go_wp2_with fail
    refine (text_any _ _ _ pl _ hA (I64_of_may HP2.out) (by omega)).mono ?_
    rw [HP3.out]
    rintro e v16 ⟨rfl, hb16⟩
    have q16 : Below v15.heap.size v15 v16 := below_from (by first | exact Below.refl _ _ | (repeat (first | exact Below.refl _ _ | refine Below.alloc ?_ (by simp <;> omega) _ | refine Below.setCell ?_ (by simp <;> omega) _ | refine Below.drew ?_ | exact below_drewN _ _ _))) hb16
    clear hb16
    replace w1 := w1.below q16
    replace r1 := r1.below q16
    replace hY := hY.below q16
    replace hA := hA.below q16
    replace hB := hB.below q16
    replace hK := hK.below q16
    have hq16 := below_from hq15 q16
    clear hq15 q16
    go_wp2_with fail
    refine (lives5_any _).mono ?_
    rintro e v17 ⟨rfl, hb17⟩
    have q17 : Below v16.heap.size v16 v17 := below_from (by first | exact Below.refl _ _ | (repeat (first | exact Below.refl _ _ | refine Below.alloc ?_ (by simp <;> omega) _ | refine Below.setCell ?_ (by simp <;> omega) _ | refine Below.drew ?_ | exact below_drewN _ _ _))) hb17
    clear hb17
    replace w1 := w1.below q17
    replace r1 := r1.below q17
    replace hY := hY.below q17
    replace hA := hA.below q17
    replace hB := hB.below q17
    replace hK := hK.below q17
    have hq17 := below_from hq16 q17
    clear hq16 q17
    go_wp2_with fail
    go_ret
    exact ⟨rfl, below_from hq17 (by first | exact Below.refl _ _ | (repeat (first | exact Below.refl _ _ | refine Below.alloc ?_ (by simp <;> omega) _ | refine Below.setCell ?_ (by simp <;> omega) _ | refine Below.drew ?_ | exact below_drewN _ _ _)))⟩

end Go.Proofs.Ytgjmcanjlcblgaa
