/- The walks of drafts: what may be, atoms, whether two are the same. No condition. -/
import Derived.Test.YtjinbhnpcdlkiaaGreatDoorMa13
import Derived.Test.YtjinbhnpcdlkiaaGreatDoorMa11
import Derived.Test.YtjinbhnpcdlkiaaGreatDoorMa07
import Derived.Test.YtjinbhnpcdlkiaaGreatDoorMa08
import Derived.Test.YtjinbhnpcdlkiaaGreatDoorMa09
import Derived.Test.YtjinbhnpcdlkiaaGreatDoorMa04
namespace Go.Proofs.YtjinbhnpcdlkiaaGreatDoor
open Go.RowKit

set_option maxRecDepth 100000 in
set_option maxHeartbeats 4000000 in
theorem cclamp_any {A : Option Addr} {n c : Nat} {A2 : Option Addr} {n2 c2 : Nat} {A3 : Option Addr} {n3 c3 : Nat} (X Y Z : Dc) (w : World) (h1 : IL w A n c X.l) (h2 : IL w A2 n2 c2 Y.l) (h3 : IL w A3 n3 c3 Z.l)
    (iX : I64 X.l) (iY : I64 Y.l) (iZ : I64 Z.l) (sX : -9223372036854775808 ≤ X.s ∧ X.s ≤ 9223372036854775807) (sY : -9223372036854775808 ≤ Y.s ∧ Y.s ≤ 9223372036854775807) (sZ : -9223372036854775808 ≤ Z.s ∧ Z.s ≤ 9223372036854775807) (bX : n ≤ 10000) (bY : n2 ≤ 10000) (bZ : n3 ≤ 10000) :
    Calls Tryz.prog 53 #[.agg #[.bool X.neg, .slice A n c, .int .i64 X.s], .agg #[.bool Y.neg, .slice A2 n2 c2, .int .i64 Y.s], .agg #[.bool Z.neg, .slice A3 n3 c3, .int .i64 Z.s]] w (RCE w (clampDc X Y Z).1 (clampDc X Y Z).2) := by
  have m1 := Lib.hid (fun W (hW : IL W A n c X.l) => show Calls Tryz.prog 54 #[.agg #[.bool X.neg, .slice A n c, .int .i64 X.s]] W (RV W (.bool (mayDc X))) from cmay_any X.neg X.s W hW iX sX)
  have m2 := Lib.hid (fun W (hW : IL W A2 n2 c2 Y.l) => show Calls Tryz.prog 54 #[.agg #[.bool Y.neg, .slice A2 n2 c2, .int .i64 Y.s]] W (RV W (.bool (mayDc Y))) from cmay_any Y.neg Y.s W hW iY sY)
  have m3 := Lib.hid (fun W (hW : IL W A3 n3 c3 Z.l) => show Calls Tryz.prog 54 #[.agg #[.bool Z.neg, .slice A3 n3 c3, .int .i64 Z.s]] W (RV W (.bool (mayDc Z))) from cmay_any Z.neg Z.s W hW iZ sZ)
  have hAD : Hid (clampDc X Y Z = if mayDc X && mayDc Y && mayDc Z then (if 0 < cmpDc Y Z then (Dc.zero, 3) else if cmpDc X Y < 0 then (trimDc Y, 0) else if 0 < cmpDc X Z then (trimDc Z, 0) else (trimDc X, 0)) else (Dc.zero, 1)) := rfl
  have hx0 := (((DB.made w w 36 (X := X) (Later.refl w) h1 _ rfl).alloc (.cells #[.bool Y.neg, .slice A2 n2 c2, .int .i64 Y.s] 36)).alloc (.cells #[.bool Z.neg, .slice A3 n3 c3, .int .i64 Z.s] 36)).alloc (.cells #[.bool false, .slice none 0 0, .int .i64 0] 36)
  have hy0 := ((DB.made w (w.alloc (.cells #[.bool X.neg, .slice A n c, .int .i64 X.s] 36)) 36 (X := Y) ((Later.refl w).alloc _) (h2.alloc _) (w.heap.size + 1) (by simp)).alloc (.cells #[.bool Z.neg, .slice A3 n3 c3, .int .i64 Z.s] 36)).alloc (.cells #[.bool false, .slice none 0 0, .int .i64 0] 36)
  have hz0 := (DB.made w ((w.alloc (.cells #[.bool X.neg, .slice A n c, .int .i64 X.s] 36)).alloc (.cells #[.bool Y.neg, .slice A2 n2 c2, .int .i64 Y.s] 36)) 36 (X := Z) (((Later.refl w).alloc _).alloc _) ((h3.alloc _).alloc _) (w.heap.size + 2) (by simp)).alloc (.cells #[.bool false, .slice none 0 0, .int .i64 0] 36)
  have hR0 := Blk.made w (((w.alloc (.cells #[.bool X.neg, .slice A n c, .int .i64 X.s] 36)).alloc (.cells #[.bool Y.neg, .slice A2 n2 c2, .int .i64 Y.s] 36)).alloc (.cells #[.bool Z.neg, .slice A3 n3 c3, .int .i64 Z.s] 36)) 36 #[.bool false, .slice none 0 0, .int .i64 0] ((((Later.refl w).alloc _).alloc _).alloc _) (w.heap.size + 3) (by simp)
  generalize clampDc X Y Z = D at *
  cases hm1 : mayDc X
  · rw [hm1] at m1
    have HD : Hid (D = (Dc.zero, 1)) := by rw [Hid, hAD.out]; simp [hm1]
    clear hAD hm1
    go_enter Tryz.func53, Tryz.ntmps53
    go_upto_region 1 with fail
    generalize World.alloc (World.alloc (World.alloc (World.alloc w _) _) _) _ = w1 at *
    have hR1 := hR0
    have qx0 := hx0.c0
    have qx1 := hx0.c1
    have qx2 := hx0.c2
    go_wp2_with fail
    refine (m1.out _ hx0.il).mono ?_
    rintro e w2 ⟨rfl, hB2⟩
    clear qx0 qx1 qx2
    have hx2 := hx0.call hB2
    have hy2 := hy0.call hB2
    have hz2 := hz0.call hB2
    clear hx0 hy0 hz0
    have hR2 := hR1.call hB2
    clear hR1
    obtain ⟨⟨r0, r1, r2⟩, ⟨r3, r4, r5⟩⟩ := hR2.cells3
    go_wp2_with fail
    rw [HD.out]
    obtain ⟨⟨v0, v1, v2⟩, _⟩ := (hR2.store3 (.bool false) (.slice none 0 0) (.int .i64 0)).cells3
    exact bodyPost_ret (v := .tuple #[.agg #[.bool false, .slice none 0 0, .int .i64 0], .int .i64 1]) (by generalize World.setCell (World.setCell (World.setCell _ _ _) _ _) _ _ = W3 at v0 v1 v2 ⊢; simp [results, Tryz.results53, go_sem, v0, v1, v2]) rfl
      ⟨none, 0, 0, rfl, IL.nil _, below_set3 hR2.later (by omega) _ _ _, none_new _⟩
  · rw [hm1] at m1
    cases hm2 : mayDc Y
    · rw [hm2] at m2
      have HD : Hid (D = (Dc.zero, 1)) := by rw [Hid, hAD.out]; simp [hm2]
      clear hAD hm1 hm2
      go_enter Tryz.func53, Tryz.ntmps53
      go_upto_region 1 with fail
      generalize World.alloc (World.alloc (World.alloc (World.alloc w _) _) _) _ = w1 at *
      have hR1 := hR0
      have qx0 := hx0.c0
      have qx1 := hx0.c1
      have qx2 := hx0.c2
      go_wp2_with fail
      refine (m1.out _ hx0.il).mono ?_
      rintro e w2 ⟨rfl, hB2⟩
      clear qx0 qx1 qx2
      have hx2 := hx0.call hB2
      have hy2 := hy0.call hB2
      have hz2 := hz0.call hB2
      clear hx0 hy0 hz0
      have hR2 := hR1.call hB2
      clear hR1
      have qy0 := hy2.c0
      have qy1 := hy2.c1
      have qy2 := hy2.c2
      go_wp2_with fail
      refine (m2.out _ hy2.il).mono ?_
      rintro e w3 ⟨rfl, hB3⟩
      clear qy0 qy1 qy2
      have hx3 := hx2.call hB3
      have hy3 := hy2.call hB3
      have hz3 := hz2.call hB3
      clear hx2 hy2 hz2
      have hR3 := hR2.call hB3
      clear hR2
      obtain ⟨⟨r0, r1, r2⟩, ⟨r3, r4, r5⟩⟩ := hR3.cells3
      go_wp2_with fail
      rw [HD.out]
      obtain ⟨⟨v0, v1, v2⟩, _⟩ := (hR3.store3 (.bool false) (.slice none 0 0) (.int .i64 0)).cells3
      exact bodyPost_ret (v := .tuple #[.agg #[.bool false, .slice none 0 0, .int .i64 0], .int .i64 1]) (by generalize World.setCell (World.setCell (World.setCell _ _ _) _ _) _ _ = W3 at v0 v1 v2 ⊢; simp [results, Tryz.results53, go_sem, v0, v1, v2]) rfl
        ⟨none, 0, 0, rfl, IL.nil _, below_set3 hR3.later (by omega) _ _ _, none_new _⟩
    · rw [hm2] at m2
      cases hm3 : mayDc Z
      · rw [hm3] at m3
        have HD : Hid (D = (Dc.zero, 1)) := by rw [Hid, hAD.out]; simp [hm3]
        clear hAD hm1 hm2 hm3
        go_enter Tryz.func53, Tryz.ntmps53
        go_upto_region 1 with fail
        generalize World.alloc (World.alloc (World.alloc (World.alloc w _) _) _) _ = w1 at *
        have hR1 := hR0
        have qx0 := hx0.c0
        have qx1 := hx0.c1
        have qx2 := hx0.c2
        go_wp2_with fail
        refine (m1.out _ hx0.il).mono ?_
        rintro e w2 ⟨rfl, hB2⟩
        clear qx0 qx1 qx2
        have hx2 := hx0.call hB2
        have hy2 := hy0.call hB2
        have hz2 := hz0.call hB2
        clear hx0 hy0 hz0
        have hR2 := hR1.call hB2
        clear hR1
        have qy0 := hy2.c0
        have qy1 := hy2.c1
        have qy2 := hy2.c2
        go_wp2_with fail
        refine (m2.out _ hy2.il).mono ?_
        rintro e w3 ⟨rfl, hB3⟩
        clear qy0 qy1 qy2
        have hx3 := hx2.call hB3
        have hy3 := hy2.call hB3
        have hz3 := hz2.call hB3
        clear hx2 hy2 hz2
        have hR3 := hR2.call hB3
        clear hR2
        have qz0 := hz3.c0
        have qz1 := hz3.c1
        have qz2 := hz3.c2
        go_wp2_with fail
        refine (m3.out _ hz3.il).mono ?_
        rintro e w4 ⟨rfl, hB4⟩
        clear qz0 qz1 qz2
        have hx4 := hx3.call hB4
        have hy4 := hy3.call hB4
        have hz4 := hz3.call hB4
        clear hx3 hy3 hz3
        have hR4 := hR3.call hB4
        clear hR3
        obtain ⟨⟨r0, r1, r2⟩, ⟨r3, r4, r5⟩⟩ := hR4.cells3
        go_wp2_with fail
        rw [HD.out]
        obtain ⟨⟨v0, v1, v2⟩, _⟩ := (hR4.store3 (.bool false) (.slice none 0 0) (.int .i64 0)).cells3
        exact bodyPost_ret (v := .tuple #[.agg #[.bool false, .slice none 0 0, .int .i64 0], .int .i64 1]) (by generalize World.setCell (World.setCell (World.setCell _ _ _) _ _) _ _ = W3 at v0 v1 v2 ⊢; simp [results, Tryz.results53, go_sem, v0, v1, v2]) rfl
          ⟨none, 0, 0, rfl, IL.nil _, below_set3 hR4.later (by omega) _ _ _, none_new _⟩
      · rw [hm3] at m3
        obtain ⟨eX1, eX2, eX3⟩ := mayDc_iff.1 hm1
        obtain ⟨eY1, eY2, eY3⟩ := mayDc_iff.1 hm2
        obtain ⟨eZ1, eZ2, eZ3⟩ := mayDc_iff.1 hm3
        have hk1 := Lib.hid (fun W (hp : IL W A2 n2 c2 Y.l) (hq : IL W A3 n3 c3 Z.l) => show Calls Tryz.prog 21 #[.agg #[.bool Y.neg, .slice A2 n2 c2, .int .i64 Y.s], .agg #[.bool Z.neg, .slice A3 n3 c3, .int .i64 Z.s]] W (RV W (.int .i64 (cmpDc Y Z))) from ccompare_any Y.neg Z.neg Y.s Z.s W hp hq eY1 eZ1 bY bZ eY2 (by omega) eZ2 (by omega))
        have hk2 := Lib.hid (fun W (hp : IL W A n c X.l) (hq : IL W A2 n2 c2 Y.l) => show Calls Tryz.prog 21 #[.agg #[.bool X.neg, .slice A n c, .int .i64 X.s], .agg #[.bool Y.neg, .slice A2 n2 c2, .int .i64 Y.s]] W (RV W (.int .i64 (cmpDc X Y))) from ccompare_any X.neg Y.neg X.s Y.s W hp hq eX1 eY1 bX bY eX2 (by omega) eY2 (by omega))
        have hk3 := Lib.hid (fun W (hp : IL W A n c X.l) (hq : IL W A3 n3 c3 Z.l) => show Calls Tryz.prog 21 #[.agg #[.bool X.neg, .slice A n c, .int .i64 X.s], .agg #[.bool Z.neg, .slice A3 n3 c3, .int .i64 Z.s]] W (RV W (.int .i64 (cmpDc X Z))) from ccompare_any X.neg Z.neg X.s Z.s W hp hq eX1 eZ1 bX bZ eX2 (by omega) eZ2 (by omega))
        have htX := Lib.hid (fun W (hp : IL W A n c X.l) => show Calls Tryz.prog 42 #[.agg #[.bool X.neg, .slice A n c, .int .i64 X.s]] W (RC W (trimDc X)) from dtrim_any X.neg X.s W hp iX (by omega) eX2 (by omega))
        have htY := Lib.hid (fun W (hp : IL W A2 n2 c2 Y.l) => show Calls Tryz.prog 42 #[.agg #[.bool Y.neg, .slice A2 n2 c2, .int .i64 Y.s]] W (RC W (trimDc Y)) from dtrim_any Y.neg Y.s W hp iY (by omega) eY2 (by omega))
        have htZ := Lib.hid (fun W (hp : IL W A3 n3 c3 Z.l) => show Calls Tryz.prog 42 #[.agg #[.bool Z.neg, .slice A3 n3 c3, .int .i64 Z.s]] W (RC W (trimDc Z)) from dtrim_any Z.neg Z.s W hp iZ (by omega) eZ2 (by omega))
        have hAE : Hid (D = if 0 < cmpDc Y Z then (Dc.zero, 3) else if cmpDc X Y < 0 then (trimDc Y, 0) else if 0 < cmpDc X Z then (trimDc Z, 0) else (trimDc X, 0)) := by rw [Hid, hAD.out, hm1, hm2, hm3]; rfl
        clear hAD hm1 hm2 hm3 eX1 eX2 eX3 eY1 eY2 eY3 eZ1 eZ2 eZ3
        generalize cmpDc Y Z = k1 at *
        generalize cmpDc X Y = k2 at *
        generalize cmpDc X Z = k3 at *
        by_cases q1 : 0 < k1
        · have HD : Hid (D = (Dc.zero, 3)) := by rw [Hid, hAE.out, if_pos q1]
          clear hAE
          go_enter Tryz.func53, Tryz.ntmps53
          go_upto_region 1 with fail
          generalize World.alloc (World.alloc (World.alloc (World.alloc w _) _) _) _ = w1 at *
          have hR1 := hR0
          have qx0 := hx0.c0
          have qx1 := hx0.c1
          have qx2 := hx0.c2
          go_wp2_with fail
          refine (m1.out _ hx0.il).mono ?_
          rintro e w2 ⟨rfl, hB2⟩
          clear qx0 qx1 qx2
          have hx2 := hx0.call hB2
          have hy2 := hy0.call hB2
          have hz2 := hz0.call hB2
          clear hx0 hy0 hz0
          have hR2 := hR1.call hB2
          clear hR1
          have qy0 := hy2.c0
          have qy1 := hy2.c1
          have qy2 := hy2.c2
          go_wp2_with fail
          refine (m2.out _ hy2.il).mono ?_
          rintro e w3 ⟨rfl, hB3⟩
          clear qy0 qy1 qy2
          have hx3 := hx2.call hB3
          have hy3 := hy2.call hB3
          have hz3 := hz2.call hB3
          clear hx2 hy2 hz2
          have hR3 := hR2.call hB3
          clear hR2
          have qz0 := hz3.c0
          have qz1 := hz3.c1
          have qz2 := hz3.c2
          go_wp2_with fail
          refine (m3.out _ hz3.il).mono ?_
          rintro e w4 ⟨rfl, hB4⟩
          clear qz0 qz1 qz2
          have hx4 := hx3.call hB4
          have hy4 := hy3.call hB4
          have hz4 := hz3.call hB4
          clear hx3 hy3 hz3
          have hR4 := hR3.call hB4
          clear hR3
          have qy0 := hy4.c0
          have qy1 := hy4.c1
          have qy2 := hy4.c2
          have qz0 := hz4.c0
          have qz1 := hz4.c1
          have qz2 := hz4.c2
          go_wp2_with fail
          refine (hk1.out _ hy4.il hz4.il).mono ?_
          rintro e w5 ⟨rfl, hB5⟩
          clear qy0 qy1 qy2 qz0 qz1 qz2
          have hx5 := hx4.call hB5
          have hy5 := hy4.call hB5
          have hz5 := hz4.call hB5
          clear hx4 hy4 hz4
          have hR5 := hR4.call hB5
          clear hR4
          obtain ⟨⟨r0, r1, r2⟩, ⟨r3, r4, r5⟩⟩ := hR5.cells3
          go_wp2_with fail
          rw [HD.out]
          obtain ⟨⟨v0, v1, v2⟩, _⟩ := (hR5.store3 (.bool false) (.slice none 0 0) (.int .i64 0)).cells3
          exact bodyPost_ret (v := .tuple #[.agg #[.bool false, .slice none 0 0, .int .i64 0], .int .i64 3]) (by generalize World.setCell (World.setCell (World.setCell _ _ _) _ _) _ _ = W3 at v0 v1 v2 ⊢; simp [results, Tryz.results53, go_sem, v0, v1, v2]) rfl
            ⟨none, 0, 0, rfl, IL.nil _, below_set3 hR5.later (by omega) _ _ _, none_new _⟩
        · by_cases q2 : k2 < 0
          · have HD : Hid (D = (trimDc Y, 0)) := by rw [Hid, hAE.out, if_neg q1, if_pos q2]
            clear hAE
            go_enter Tryz.func53, Tryz.ntmps53
            go_upto_region 1 with fail
            generalize World.alloc (World.alloc (World.alloc (World.alloc w _) _) _) _ = w1 at *
            have hR1 := hR0
            have qx0 := hx0.c0
            have qx1 := hx0.c1
            have qx2 := hx0.c2
            go_wp2_with fail
            refine (m1.out _ hx0.il).mono ?_
            rintro e w2 ⟨rfl, hB2⟩
            clear qx0 qx1 qx2
            have hx2 := hx0.call hB2
            have hy2 := hy0.call hB2
            have hz2 := hz0.call hB2
            clear hx0 hy0 hz0
            have hR2 := hR1.call hB2
            clear hR1
            have qy0 := hy2.c0
            have qy1 := hy2.c1
            have qy2 := hy2.c2
            go_wp2_with fail
            refine (m2.out _ hy2.il).mono ?_
            rintro e w3 ⟨rfl, hB3⟩
            clear qy0 qy1 qy2
            have hx3 := hx2.call hB3
            have hy3 := hy2.call hB3
            have hz3 := hz2.call hB3
            clear hx2 hy2 hz2
            have hR3 := hR2.call hB3
            clear hR2
            have qz0 := hz3.c0
            have qz1 := hz3.c1
            have qz2 := hz3.c2
            go_wp2_with fail
            refine (m3.out _ hz3.il).mono ?_
            rintro e w4 ⟨rfl, hB4⟩
            clear qz0 qz1 qz2
            have hx4 := hx3.call hB4
            have hy4 := hy3.call hB4
            have hz4 := hz3.call hB4
            clear hx3 hy3 hz3
            have hR4 := hR3.call hB4
            clear hR3
            have qy0 := hy4.c0
            have qy1 := hy4.c1
            have qy2 := hy4.c2
            have qz0 := hz4.c0
            have qz1 := hz4.c1
            have qz2 := hz4.c2
            go_wp2_with fail
            refine (hk1.out _ hy4.il hz4.il).mono ?_
            rintro e w5 ⟨rfl, hB5⟩
            clear qy0 qy1 qy2 qz0 qz1 qz2
            have hx5 := hx4.call hB5
            have hy5 := hy4.call hB5
            have hz5 := hz4.call hB5
            clear hx4 hy4 hz4
            have hR5 := hR4.call hB5
            clear hR4
            have qx0 := hx5.c0
            have qx1 := hx5.c1
            have qx2 := hx5.c2
            have qy0 := hy5.c0
            have qy1 := hy5.c1
            have qy2 := hy5.c2
            go_wp2_with fail
            refine (hk2.out _ hx5.il hy5.il).mono ?_
            rintro e w6 ⟨rfl, hB6⟩
            clear qx0 qx1 qx2 qy0 qy1 qy2
            have hx6 := hx5.call hB6
            have hy6 := hy5.call hB6
            have hz6 := hz5.call hB6
            clear hx5 hy5 hz5
            have hR6 := hR5.call hB6
            clear hR5
            have qy0 := hy6.c0
            have qy1 := hy6.c1
            have qy2 := hy6.c2
            go_wp2_with fail
            refine (htY.out _ hy6.il).mono ?_
            rintro e w7 ⟨A9, n9, c9, rfl, hI9, hB7, hN9⟩
            clear qy0 qy1 qy2
            have hx7 := hx6.call hB7
            have hy7 := hy6.call hB7
            have hz7 := hz6.call hB7
            clear hx6 hy6 hz6
            have gR := hR6.lt
            have hR7 := hR6.call hB7
            clear hR6
            obtain ⟨⟨r0, r1, r2⟩, ⟨r3, r4, r5⟩⟩ := hR7.cells3
            go_wp2_with fail
            rw [HD.out]
            obtain ⟨⟨v0, v1, v2⟩, _⟩ := (hR7.store3 (.bool (trimDc Y).neg) (.slice A9 n9 c9) (.int .i64 (trimDc Y).s)).cells3
            exact bodyPost_ret (v := .tuple #[.agg #[.bool (trimDc Y).neg, .slice A9 n9 c9, .int .i64 (trimDc Y).s], .int .i64 0]) (by generalize World.setCell (World.setCell (World.setCell _ _ _) _ _) _ _ = W3 at v0 v1 v2 ⊢; simp [results, Tryz.results53, go_sem, v0, v1, v2]) rfl
              ⟨A9, n9, c9, rfl, hI9.set3 (g := w.heap.size + 3) (fun hz a ha => by have := hN9 hz a ha; omega) _ _ _, below_set3 hR7.later (by omega) _ _ _, fun hz a ha => by have := hN9 hz a ha; omega⟩
          · by_cases q3 : 0 < k3
            · have HD : Hid (D = (trimDc Z, 0)) := by rw [Hid, hAE.out, if_neg q1, if_neg q2, if_pos q3]
              clear hAE
              go_enter Tryz.func53, Tryz.ntmps53
              go_upto_region 1 with fail
              generalize World.alloc (World.alloc (World.alloc (World.alloc w _) _) _) _ = w1 at *
              have hR1 := hR0
              have qx0 := hx0.c0
              have qx1 := hx0.c1
              have qx2 := hx0.c2
              go_wp2_with fail
              refine (m1.out _ hx0.il).mono ?_
              rintro e w2 ⟨rfl, hB2⟩
              clear qx0 qx1 qx2
              have hx2 := hx0.call hB2
              have hy2 := hy0.call hB2
              have hz2 := hz0.call hB2
              clear hx0 hy0 hz0
              have hR2 := hR1.call hB2
              clear hR1
              have qy0 := hy2.c0
              have qy1 := hy2.c1
              have qy2 := hy2.c2
              go_wp2_with fail
              refine (m2.out _ hy2.il).mono ?_
              rintro e w3 ⟨rfl, hB3⟩
              clear qy0 qy1 qy2
              have hx3 := hx2.call hB3
              have hy3 := hy2.call hB3
              have hz3 := hz2.call hB3
              clear hx2 hy2 hz2
              have hR3 := hR2.call hB3
              clear hR2
              have qz0 := hz3.c0
              have qz1 := hz3.c1
              have qz2 := hz3.c2
              go_wp2_with fail
              refine (m3.out _ hz3.il).mono ?_
              rintro e w4 ⟨rfl, hB4⟩
              clear qz0 qz1 qz2
              have hx4 := hx3.call hB4
              have hy4 := hy3.call hB4
              have hz4 := hz3.call hB4
              clear hx3 hy3 hz3
              have hR4 := hR3.call hB4
              clear hR3
              have qy0 := hy4.c0
              have qy1 := hy4.c1
              have qy2 := hy4.c2
              have qz0 := hz4.c0
              have qz1 := hz4.c1
              have qz2 := hz4.c2
              go_wp2_with fail
              refine (hk1.out _ hy4.il hz4.il).mono ?_
              rintro e w5 ⟨rfl, hB5⟩
              clear qy0 qy1 qy2 qz0 qz1 qz2
              have hx5 := hx4.call hB5
              have hy5 := hy4.call hB5
              have hz5 := hz4.call hB5
              clear hx4 hy4 hz4
              have hR5 := hR4.call hB5
              clear hR4
              have qx0 := hx5.c0
              have qx1 := hx5.c1
              have qx2 := hx5.c2
              have qy0 := hy5.c0
              have qy1 := hy5.c1
              have qy2 := hy5.c2
              go_wp2_with fail
              refine (hk2.out _ hx5.il hy5.il).mono ?_
              rintro e w6 ⟨rfl, hB6⟩
              clear qx0 qx1 qx2 qy0 qy1 qy2
              have hx6 := hx5.call hB6
              have hy6 := hy5.call hB6
              have hz6 := hz5.call hB6
              clear hx5 hy5 hz5
              have hR6 := hR5.call hB6
              clear hR5
              have qx0 := hx6.c0
              have qx1 := hx6.c1
              have qx2 := hx6.c2
              have qz0 := hz6.c0
              have qz1 := hz6.c1
              have qz2 := hz6.c2
              go_wp2_with fail
              refine (hk3.out _ hx6.il hz6.il).mono ?_
              rintro e w7 ⟨rfl, hB7⟩
              clear qx0 qx1 qx2 qz0 qz1 qz2
              have hx7 := hx6.call hB7
              have hy7 := hy6.call hB7
              have hz7 := hz6.call hB7
              clear hx6 hy6 hz6
              have hR7 := hR6.call hB7
              clear hR6
              have qz0 := hz7.c0
              have qz1 := hz7.c1
              have qz2 := hz7.c2
              go_wp2_with fail
              refine (htZ.out _ hz7.il).mono ?_
              rintro e w8 ⟨A9, n9, c9, rfl, hI9, hB8, hN9⟩
              clear qz0 qz1 qz2
              have hx8 := hx7.call hB8
              have hy8 := hy7.call hB8
              have hz8 := hz7.call hB8
              clear hx7 hy7 hz7
              have gR := hR7.lt
              have hR8 := hR7.call hB8
              clear hR7
              obtain ⟨⟨r0, r1, r2⟩, ⟨r3, r4, r5⟩⟩ := hR8.cells3
              go_wp2_with fail
              rw [HD.out]
              obtain ⟨⟨v0, v1, v2⟩, _⟩ := (hR8.store3 (.bool (trimDc Z).neg) (.slice A9 n9 c9) (.int .i64 (trimDc Z).s)).cells3
              exact bodyPost_ret (v := .tuple #[.agg #[.bool (trimDc Z).neg, .slice A9 n9 c9, .int .i64 (trimDc Z).s], .int .i64 0]) (by generalize World.setCell (World.setCell (World.setCell _ _ _) _ _) _ _ = W3 at v0 v1 v2 ⊢; simp [results, Tryz.results53, go_sem, v0, v1, v2]) rfl
                ⟨A9, n9, c9, rfl, hI9.set3 (g := w.heap.size + 3) (fun hz a ha => by have := hN9 hz a ha; omega) _ _ _, below_set3 hR8.later (by omega) _ _ _, fun hz a ha => by have := hN9 hz a ha; omega⟩
            · have HD : Hid (D = (trimDc X, 0)) := by rw [Hid, hAE.out, if_neg q1, if_neg q2, if_neg q3]
              clear hAE
              go_enter Tryz.func53, Tryz.ntmps53
              go_upto_region 1 with fail
              generalize World.alloc (World.alloc (World.alloc (World.alloc w _) _) _) _ = w1 at *
              have hR1 := hR0
              have qx0 := hx0.c0
              have qx1 := hx0.c1
              have qx2 := hx0.c2
              go_wp2_with fail
              refine (m1.out _ hx0.il).mono ?_
              rintro e w2 ⟨rfl, hB2⟩
              clear qx0 qx1 qx2
              have hx2 := hx0.call hB2
              have hy2 := hy0.call hB2
              have hz2 := hz0.call hB2
              clear hx0 hy0 hz0
              have hR2 := hR1.call hB2
              clear hR1
              have qy0 := hy2.c0
              have qy1 := hy2.c1
              have qy2 := hy2.c2
              go_wp2_with fail
              refine (m2.out _ hy2.il).mono ?_
              rintro e w3 ⟨rfl, hB3⟩
              clear qy0 qy1 qy2
              have hx3 := hx2.call hB3
              have hy3 := hy2.call hB3
              have hz3 := hz2.call hB3
              clear hx2 hy2 hz2
              have hR3 := hR2.call hB3
              clear hR2
              have qz0 := hz3.c0
              have qz1 := hz3.c1
              have qz2 := hz3.c2
              go_wp2_with fail
              refine (m3.out _ hz3.il).mono ?_
              rintro e w4 ⟨rfl, hB4⟩
              clear qz0 qz1 qz2
              have hx4 := hx3.call hB4
              have hy4 := hy3.call hB4
              have hz4 := hz3.call hB4
              clear hx3 hy3 hz3
              have hR4 := hR3.call hB4
              clear hR3
              have qy0 := hy4.c0
              have qy1 := hy4.c1
              have qy2 := hy4.c2
              have qz0 := hz4.c0
              have qz1 := hz4.c1
              have qz2 := hz4.c2
              go_wp2_with fail
              refine (hk1.out _ hy4.il hz4.il).mono ?_
              rintro e w5 ⟨rfl, hB5⟩
              clear qy0 qy1 qy2 qz0 qz1 qz2
              have hx5 := hx4.call hB5
              have hy5 := hy4.call hB5
              have hz5 := hz4.call hB5
              clear hx4 hy4 hz4
              have hR5 := hR4.call hB5
              clear hR4
              have qx0 := hx5.c0
              have qx1 := hx5.c1
              have qx2 := hx5.c2
              have qy0 := hy5.c0
              have qy1 := hy5.c1
              have qy2 := hy5.c2
              go_wp2_with fail
              refine (hk2.out _ hx5.il hy5.il).mono ?_
              rintro e w6 ⟨rfl, hB6⟩
              clear qx0 qx1 qx2 qy0 qy1 qy2
              have hx6 := hx5.call hB6
              have hy6 := hy5.call hB6
              have hz6 := hz5.call hB6
              clear hx5 hy5 hz5
              have hR6 := hR5.call hB6
              clear hR5
              have qx0 := hx6.c0
              have qx1 := hx6.c1
              have qx2 := hx6.c2
              have qz0 := hz6.c0
              have qz1 := hz6.c1
              have qz2 := hz6.c2
              go_wp2_with fail
              refine (hk3.out _ hx6.il hz6.il).mono ?_
              rintro e w7 ⟨rfl, hB7⟩
              clear qx0 qx1 qx2 qz0 qz1 qz2
              have hx7 := hx6.call hB7
              have hy7 := hy6.call hB7
              have hz7 := hz6.call hB7
              clear hx6 hy6 hz6
              have hR7 := hR6.call hB7
              clear hR6
              have qx0 := hx7.c0
              have qx1 := hx7.c1
              have qx2 := hx7.c2
              go_wp2_with fail
              refine (htX.out _ hx7.il).mono ?_
              rintro e w8 ⟨A9, n9, c9, rfl, hI9, hB8, hN9⟩
              clear qx0 qx1 qx2
              have hx8 := hx7.call hB8
              have hy8 := hy7.call hB8
              have hz8 := hz7.call hB8
              clear hx7 hy7 hz7
              have gR := hR7.lt
              have hR8 := hR7.call hB8
              clear hR7
              obtain ⟨⟨r0, r1, r2⟩, ⟨r3, r4, r5⟩⟩ := hR8.cells3
              go_wp2_with fail
              rw [HD.out]
              obtain ⟨⟨v0, v1, v2⟩, _⟩ := (hR8.store3 (.bool (trimDc X).neg) (.slice A9 n9 c9) (.int .i64 (trimDc X).s)).cells3
              exact bodyPost_ret (v := .tuple #[.agg #[.bool (trimDc X).neg, .slice A9 n9 c9, .int .i64 (trimDc X).s], .int .i64 0]) (by generalize World.setCell (World.setCell (World.setCell _ _ _) _ _) _ _ = W3 at v0 v1 v2 ⊢; simp [results, Tryz.results53, go_sem, v0, v1, v2]) rfl
                ⟨A9, n9, c9, rfl, hI9.set3 (g := w.heap.size + 3) (fun hz a ha => by have := hN9 hz a ha; omega) _ _ _, below_set3 hR8.later (by omega) _ _ _, fun hz a ha => by have := hN9 hz a ha; omega⟩

end Go.Proofs.YtjinbhnpcdlkiaaGreatDoor


namespace Go.Proofs.YtjinbhnpcdlkiaaGreatDoor
open Go.RowKit

/-- Rules, as a value: their numbers' lists in memory. -/
structure RuV where
  r : Ru
  A1 : Option Addr
  n1 : Nat
  c1 : Nat
  A2 : Option Addr
  n2 : Nat
  c2 : Nat
  A3 : Option Addr
  n3 : Nat
  c3 : Nat
def RuV.ok (x : RuV) (W : World) : Prop := IL W x.A1 x.n1 x.c1 x.r.lo.l ∧ IL W x.A2 x.n2 x.c2 x.r.hi.l ∧ IL W x.A3 x.n3 x.c3 x.r.st.l
theorem RuV.ok.later {x : RuV} {W W' : World} (h : x.ok W) (hb : Later W W') : x.ok W' := ⟨h.1.later hb, h.2.1.later hb, h.2.2.later hb⟩
/-- Bounds of rules. -/
structure Ru.Bd (r : Ru) : Prop where
  ic : -9223372036854775808 ≤ r.n.ic ∧ r.n.ic ≤ 9223372036854775807
  sc : 0 ≤ r.n.sc ∧ r.n.sc ≤ 64
  md : 0 ≤ r.n.md ∧ r.n.md ≤ 6
  lo : mayDc r.lo = true ∧ r.lo.l.length ≤ 2000
  hi : mayDc r.hi = true ∧ r.hi.l.length ≤ 2000
  st : mayDc r.st = true ∧ r.st.l.length ≤ 2000
theorem round_ok {D : Dc} {k m : Int} (hk : 0 ≤ k ∧ k ≤ 64) (h : (roundDc D k m).2 = 0) : mayDc (roundDc D k m).1 = true ∧ (roundDc D k m).1.l.length ≤ D.l.length + 65 := by
  unfold roundDc at h ⊢
  split
  · rename_i hc
    rw [if_pos hc] at h
    simp only [Bool.and_eq_true] at hc
    split
    · rename_i hc2; rw [if_pos hc2] at h; simp at h
    · refine ⟨scaled_may _ (by omega) _, ?_⟩
      have := round_len (d := D) (mayDc_iff.1 hc.1.1).1 (Nat.le_refl _) m k.toNat
      show (scaled k.toNat (roundZ m D k.toNat)).l.length ≤ _
      omega
  · rename_i hc; rw [if_neg hc] at h; simp at h
theorem may_bd {d : Dc} (h : mayDc d = true) : I64 d.l ∧ (-9223372036854775808 ≤ d.s ∧ d.s ≤ 9223372036854775807) := by
  obtain ⟨h1, h2, h3⟩ := mayDc_iff.1 h
  exact ⟨I64_of_may h1, by omega⟩
theorem blk_cells17 {w0 W : World} {g : Nat} {t : TypeId} (x : RuV) (h : Blk w0 g t #[.bool x.r.lo.neg, .slice x.A1 x.n1 x.c1, .int .i64 x.r.lo.s, .bool x.r.hi.neg, .slice x.A2 x.n2 x.c2, .int .i64 x.r.hi.s, .bool x.r.st.neg, .slice x.A3 x.n3 x.c3, .int .i64 x.r.st.s, .bool x.r.sg, .int .i64 x.r.n.ic, .int .i64 x.r.n.fc, .int .i64 x.r.n.sc, .int .i64 x.r.n.mi, .int .i64 x.r.n.mf, .int .i64 x.r.n.md, .int .i64 x.r.n.hs] W) :
    W.cell? ⟨g, 0, none⟩ = some (.bool x.r.lo.neg) ∧ W.cell? ⟨g, 1, none⟩ = some (.slice x.A1 x.n1 x.c1) ∧ W.cell? ⟨g, 2, none⟩ = some (.int .i64 x.r.lo.s) ∧ W.cell? ⟨g, 3, none⟩ = some (.bool x.r.hi.neg) ∧ W.cell? ⟨g, 4, none⟩ = some (.slice x.A2 x.n2 x.c2) ∧ W.cell? ⟨g, 5, none⟩ = some (.int .i64 x.r.hi.s) ∧ W.cell? ⟨g, 6, none⟩ = some (.bool x.r.st.neg) ∧ W.cell? ⟨g, 7, none⟩ = some (.slice x.A3 x.n3 x.c3) ∧ W.cell? ⟨g, 8, none⟩ = some (.int .i64 x.r.st.s) ∧ W.cell? ⟨g, 9, none⟩ = some (.bool x.r.sg) ∧ W.cell? ⟨g, 10, none⟩ = some (.int .i64 x.r.n.ic) ∧ W.cell? ⟨g, 11, none⟩ = some (.int .i64 x.r.n.fc) ∧ W.cell? ⟨g, 12, none⟩ = some (.int .i64 x.r.n.sc) ∧ W.cell? ⟨g, 13, none⟩ = some (.int .i64 x.r.n.mi) ∧ W.cell? ⟨g, 14, none⟩ = some (.int .i64 x.r.n.mf) ∧ W.cell? ⟨g, 15, none⟩ = some (.int .i64 x.r.n.md) ∧ W.cell? ⟨g, 16, none⟩ = some (.int .i64 x.r.n.hs) := ⟨h.cell 0, h.cell 1, h.cell 2, h.cell 3, h.cell 4, h.cell 5, h.cell 6, h.cell 7, h.cell 8, h.cell 9, h.cell 10, h.cell 11, h.cell 12, h.cell 13, h.cell 14, h.cell 15, h.cell 16⟩
set_option maxRecDepth 100000 in
set_option maxHeartbeats 4000000 in
theorem cvalue_any (x : RuV) {A : Option Addr} {n c : Nat} (D : Dc) (w : World) (hx : x.ok w) (hd : IL w A n c D.l) (hr : x.r.Bd) (iD : I64 D.l) (sD : -9223372036854775808 ≤ D.s ∧ D.s ≤ 9223372036854775807) (nD : n ≤ 5000) :
    Calls Tryz.prog 31 #[.agg #[.bool x.r.lo.neg, .slice x.A1 x.n1 x.c1, .int .i64 x.r.lo.s, .bool x.r.hi.neg, .slice x.A2 x.n2 x.c2, .int .i64 x.r.hi.s, .bool x.r.st.neg, .slice x.A3 x.n3 x.c3, .int .i64 x.r.st.s, .bool x.r.sg, .int .i64 x.r.n.ic, .int .i64 x.r.n.fc, .int .i64 x.r.n.sc, .int .i64 x.r.n.mi, .int .i64 x.r.n.mf, .int .i64 x.r.n.md, .int .i64 x.r.n.hs], .agg #[.bool D.neg, .slice A n c, .int .i64 D.s]] w (RCE w (valueC x.r D).1 (valueC x.r D).2) := by
  have hV : Hid (valueC x.r D = if (roundDc D x.r.n.sc x.r.n.md).2 = 0 then clampDc (roundDc D x.r.n.sc x.r.n.md).1 x.r.lo x.r.hi else (Dc.zero, (roundDc D x.r.n.sc x.r.n.md).2)) := rfl
  have hto := Lib.hid (fun W (hW : IL W A n c D.l) => show Calls Tryz.prog 52 #[.agg #[.bool D.neg, .slice A n c, .int .i64 D.s], .int .i64 x.r.n.sc, .int .i64 x.r.n.md] W (RCE W (roundDc D x.r.n.sc x.r.n.md).1 (roundDc D x.r.n.sc x.r.n.md).2) from
    rto_any D.neg D.s x.r.n.sc x.r.n.md W hW iD sD (by have := hr.sc; omega) (by have := hr.md; omega) (by omega))
  have hro := round_ok (D := D) (m := x.r.n.md) hr.sc
  have hlD := hd.len
  obtain ⟨iL, sL⟩ := may_bd hr.lo.1
  obtain ⟨iH, sH⟩ := may_bd hr.hi.1
  have hX := ((Blk.made w w 39 #[.bool x.r.lo.neg, .slice x.A1 x.n1 x.c1, .int .i64 x.r.lo.s, .bool x.r.hi.neg, .slice x.A2 x.n2 x.c2, .int .i64 x.r.hi.s, .bool x.r.st.neg, .slice x.A3 x.n3 x.c3, .int .i64 x.r.st.s, .bool x.r.sg, .int .i64 x.r.n.ic, .int .i64 x.r.n.fc, .int .i64 x.r.n.sc, .int .i64 x.r.n.mi, .int .i64 x.r.n.mf, .int .i64 x.r.n.md, .int .i64 x.r.n.hs] (Later.refl w) _ rfl).alloc (.cells #[.bool D.neg, .slice A n c, .int .i64 D.s] 36)).alloc (.cells #[.bool false, .slice none 0 0, .int .i64 0] 36)
  have hE := (Blk.made w (w.alloc (.cells #[.bool x.r.lo.neg, .slice x.A1 x.n1 x.c1, .int .i64 x.r.lo.s, .bool x.r.hi.neg, .slice x.A2 x.n2 x.c2, .int .i64 x.r.hi.s, .bool x.r.st.neg, .slice x.A3 x.n3 x.c3, .int .i64 x.r.st.s, .bool x.r.sg, .int .i64 x.r.n.ic, .int .i64 x.r.n.fc, .int .i64 x.r.n.sc, .int .i64 x.r.n.mi, .int .i64 x.r.n.mf, .int .i64 x.r.n.md, .int .i64 x.r.n.hs] 39)) 36 #[.bool D.neg, .slice A n c, .int .i64 D.s] ((Later.refl w).alloc _) (w.heap.size + 1) (by simp)).alloc (.cells #[.bool false, .slice none 0 0, .int .i64 0] 36)
  have hR := Blk.made w ((w.alloc (.cells #[.bool x.r.lo.neg, .slice x.A1 x.n1 x.c1, .int .i64 x.r.lo.s, .bool x.r.hi.neg, .slice x.A2 x.n2 x.c2, .int .i64 x.r.hi.s, .bool x.r.st.neg, .slice x.A3 x.n3 x.c3, .int .i64 x.r.st.s, .bool x.r.sg, .int .i64 x.r.n.ic, .int .i64 x.r.n.fc, .int .i64 x.r.n.sc, .int .i64 x.r.n.mi, .int .i64 x.r.n.mf, .int .i64 x.r.n.md, .int .i64 x.r.n.hs] 39)).alloc (.cells #[.bool D.neg, .slice A n c, .int .i64 D.s] 36)) 36 #[.bool false, .slice none 0 0, .int .i64 0] (((Later.refl w).alloc _).alloc _) (w.heap.size + 2) (by simp)
  generalize hVV : valueC x.r D = V at *
  clear hVV
  obtain ⟨Q, hQ⟩ : ∃ Q, roundDc D x.r.n.sc x.r.n.md = Q := ⟨_, rfl⟩
  rw [hQ] at hV hto hro
  clear hQ
  obtain ⟨Q, ec⟩ := Q
  simp only at hV hto hro
  go_enter Tryz.func31, Tryz.ntmps31
  go_upto_region 1 with fail
  generalize World.alloc (World.alloc (World.alloc w _) _) _ = w1 at *
  obtain ⟨k0, k1, k2, k3, k4, k5, k6, k7, k8, k9, k10, k11, k12, k13, k14, k15, k16⟩ := blk_cells17 x hX
  obtain ⟨⟨d0, d1, d2⟩, _⟩ := hE.cells3
  have hL1 := hR.later
  go_wp2_with fail
  refine (hto.out _ (hd.later hL1)).mono ?_
  rintro e w2 ⟨A2, n2, c2, rfl, hI2, hB2, _⟩
  have hX2 := hX.call hB2
  have hR2 := hR.call hB2
  clear k0 k1 k2 k3 k4 k5 k6 k7 k8 k9 k10 k11 k12 k13 k14 k15 k16 d0 d1 d2 hX hE hR
  by_cases hec : ec = 0
  · subst hec
    have HV : Hid (V = clampDc Q x.r.lo x.r.hi) := by rw [Hid, hV.out, if_pos rfl]
    obtain ⟨hq1, hq2⟩ := hro rfl
    obtain ⟨iQ, sQ⟩ := may_bd hq1
    have hlQ := hI2.len
    have hcl := Lib.hid (fun W (h1 : IL W A2 n2 c2 Q.l) (h2 : x.ok W) => cclamp_any Q x.r.lo x.r.hi W h1 h2.1 h2.2.1 iQ iL iH sQ sL sH (by omega) (by have := h2.1.len; have := hr.lo.2; omega) (by have := h2.2.1.len; have := hr.hi.2; omega))
    have hK2 := Blk.made w w2 36 #[.bool Q.neg, .slice A2 n2 c2, .int .i64 Q.s] hR2.later _ rfl
    have hX3 := hX2.alloc (.cells #[.bool Q.neg, .slice A2 n2 c2, .int .i64 Q.s] 36)
    have hR3 := hR2.alloc (.cells #[.bool Q.neg, .slice A2 n2 c2, .int .i64 Q.s] 36)
    have hI3 := hI2.alloc (.cells #[.bool Q.neg, .slice A2 n2 c2, .int .i64 Q.s] 36)
    clear hV hro hto
    go_upto_region 4 with fail
    generalize World.alloc w2 _ = w3 at *
    obtain ⟨k0, k1, k2, k3, k4, k5, k6, k7, k8, k9, k10, k11, k12, k13, k14, k15, k16⟩ := blk_cells17 x hX3
    obtain ⟨⟨d0, d1, d2⟩, _⟩ := hK2.cells3
    go_wp2_with fail
    refine (hcl.out _ hI3 (hx.later hR3.later)).mono ?_
    rintro e w4 ⟨A4, n4, c4, rfl, hI4, hB4, hN4⟩
    have hR4 := hR3.call hB4
    obtain ⟨⟨r0, r1, r2⟩, ⟨r3, r4, r5⟩⟩ := hR4.cells3
    have hlt := hR3.lt
    clear k0 k1 k2 k3 k4 k5 k6 k7 k8 k9 k10 k11 k12 k13 k14 k15 k16 d0 d1 d2
    go_wp2_with fail
    rw [HV.out]
    obtain ⟨⟨z0, z1, z2⟩, _⟩ := (hR4.store3 (.bool (clampDc Q x.r.lo x.r.hi).1.neg) (.slice A4 n4 c4) (.int .i64 (clampDc Q x.r.lo x.r.hi).1.s)).cells3
    exact bodyPost_ret (v := .tuple #[.agg #[.bool (clampDc Q x.r.lo x.r.hi).1.neg, .slice A4 n4 c4, .int .i64 (clampDc Q x.r.lo x.r.hi).1.s], .int .i64 (clampDc Q x.r.lo x.r.hi).2]) (by generalize World.setCell (World.setCell (World.setCell _ _ _) _ _) _ _ = W3 at z0 z1 z2 ⊢; simp [results, Tryz.results31, go_sem, z0, z1, z2]) rfl
      ⟨A4, n4, c4, rfl, hI4.set3 (fun hz a ha => by have := hN4 hz a ha; omega) _ _ _, below_set3 hR4.later (by omega) _ _ _, fun hz a ha => by have := hN4 hz a ha; omega⟩
  · have HV : Hid (V = (Dc.zero, ec)) := by rw [Hid, hV.out, if_neg hec]
    have hb : (ec != (0 : Int)) = true := by simpa using hec
    obtain ⟨⟨r0, r1, r2⟩, ⟨r3, r4, r5⟩⟩ := (hR2.alloc (.cells #[.bool Q.neg, .slice A2 n2 c2, .int .i64 Q.s] 36)).cells3
    have hR3 := hR2.alloc (.cells #[.bool Q.neg, .slice A2 n2 c2, .int .i64 Q.s] 36)
    clear hV hro hto
    go_upto_region 2 with fail
    generalize World.alloc w2 _ = w3 at *
    go_wp2_with fail
    rw [HV.out]
    obtain ⟨⟨z0, z1, z2⟩, _⟩ := (hR3.store3 (.bool false) (.slice none 0 0) (.int .i64 0)).cells3
    exact bodyPost_ret (v := .tuple #[.agg #[.bool false, .slice none 0 0, .int .i64 0], .int .i64 ec]) (by generalize World.setCell (World.setCell (World.setCell _ _ _) _ _) _ _ = W3 at z0 z1 z2 ⊢; simp [results, Tryz.results31, go_sem, z0, z1, z2]) rfl
      ⟨none, 0, 0, rfl, IL.nil _, below_set3 hR3.later (by omega) _ _ _, none_new _⟩

end Go.Proofs.YtjinbhnpcdlkiaaGreatDoor


namespace Go.Proofs.YtjinbhnpcdlkiaaGreatDoor
open Go.RowKit

/-- A draft. -/
structure Dr where
  neg : Bool
  int : List Int
  sep : Bool
  frac : List Int

/-- What a call hands back that makes a draft. -/
def RD (w : World) (d : Dr) (e : Ending) (w' : World) : Prop := ∃ A n c E m k, e = .returned (.agg #[.bool d.neg, .slice A n c, .bool d.sep, .slice E m k]) ∧ IL w' A n c d.int ∧ IL w' E m k d.frac ∧ Below w.heap.size w w'
/-- A draft and a code. -/
def RDE (w : World) (d : Dr) (code : Int) (e : Ending) (w' : World) : Prop :=
  ∃ A n c E m k, e = .returned (.tuple #[.agg #[.bool d.neg, .slice A n c, .bool d.sep, .slice E m k], .int .i64 code]) ∧ IL w' A n c d.int ∧ IL w' E m k d.frac ∧ Below w.heap.size w w' ∧ (0 < n → ∀ a, A = some a → w.heap.size ≤ a.block) ∧ (0 < m → ∀ a, E = some a → w.heap.size ≤ a.block)
theorem none_newer (B : Nat) : 0 < 0 → ∀ a : Addr, none = some a → B ≤ a.block := fun h => absurd h (by omega)
theorem OL.newer {W : World} {B B' n c : Nat} {A : Option Addr} {l : List Int} (h : OL W B A n c l) (hB : B' ≤ B) : 0 < n → ∀ a, A = some a → B' ≤ a.block := by
  intro hn a ha
  obtain ⟨a', ha', hb'⟩ := h.new hn
  subst ha
  obtain rfl := Option.some.inj ha'
  omega

section
variable (b : Bool) (A : Option Addr) (n c : Nat) (p : Bool) (E : Option Addr) (m k : Nat)

end

def mayD (_b : Bool) (l : List Int) (p : Bool) (f : List Int) : Bool := mayL l && mayL f && (p || f.length == 0)

def atomsD (l : List Int) (p : Bool) (f : List Int) : List Int := l ++ ((if p then [10] else []) ++ f)

end Go.Proofs.YtjinbhnpcdlkiaaGreatDoor

