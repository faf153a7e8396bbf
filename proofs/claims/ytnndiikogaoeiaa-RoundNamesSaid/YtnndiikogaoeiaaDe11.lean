/- The walk of the document's adding of decimals. No condition. -/
import Derived.Test.YtnndiikogaoeiaaDe8
import Derived.Test.YtnndiikogaoeiaaDe9
import Derived.Test.YtnndiikogaoeiaaDe6
namespace Go.Proofs.Ytnndiikogaoeiaa
open Go.RowKit

set_option maxHeartbeats 8000000 in
theorem rcadd_any {A : Option Addr} {n c : Nat} {l : List Int} {A2 : Option Addr} {n2 c2 : Nat} {l2 : List Int} (b b2 : Bool) (s s2 : Int) (w : World) (h : IL w A n c l) (h2 : IL w A2 n2 c2 l2)
    (hn : n ≤ 10000) (hn2 : n2 ≤ 10000) (hs : -9223372036854775808 ≤ s ∧ s ≤ 9223372036854775807) (hs2 : -9223372036854775808 ≤ s2 ∧ s2 ≤ 9223372036854775807) :
    Calls Try.prog 28 #[.agg #[.bool b, .slice A n c, .int .i64 s], .agg #[.bool b2, .slice A2 n2 c2, .int .i64 s2]] w (RCE w (addDc ⟨b, l, s⟩ ⟨b2, l2, s2⟩).1 (addDc ⟨b, l, s⟩ ⟨b2, l2, s2⟩).2) := by
  have m1 := Lib.hid (fun W hW => rcmay_any (A := A) (n := n) (c := c) (l := l) b s W hW hs)
  have m2 := Lib.hid (fun W hW => rcmay_any (A := A2) (n := n2) (c := c2) (l := l2) b2 s2 W hW hs2)
  have hAD : Hid (addDc ⟨b, l, s⟩ ⟨b2, l2, s2⟩ = if mayDc ⟨b, l, s⟩ && mayDc ⟨b2, l2, s2⟩ then (canon (max s.toNat s2.toNat) (Dc.at_ ⟨b, l, s⟩ (max s.toNat s2.toNat) + Dc.at_ ⟨b2, l2, s2⟩ (max s.toNat s2.toNat)), 0) else (Dc.zero, 1)) := rfl
  have el := h.len
  have el2 := h2.len
  have hX0 := ((Blk.made w w 24 #[.bool b, .slice A n c, .int .i64 s] (Later.refl w) _ rfl).alloc (.cells #[.bool b2, .slice A2 n2 c2, .int .i64 s2] 24)).alloc (.cells #[.bool false, .slice none 0 0, .int .i64 0] 24)
  have hY0 := (Blk.made w (w.alloc (.cells #[.bool b, .slice A n c, .int .i64 s] 24)) 24 #[.bool b2, .slice A2 n2 c2, .int .i64 s2] ((Later.refl w).alloc _) (w.heap.size + 1) (by simp)).alloc (.cells #[.bool false, .slice none 0 0, .int .i64 0] 24)
  have hR0 := Blk.made w ((w.alloc (.cells #[.bool b, .slice A n c, .int .i64 s] 24)).alloc (.cells #[.bool b2, .slice A2 n2 c2, .int .i64 s2] 24)) 24 #[.bool false, .slice none 0 0, .int .i64 0] (((Later.refl w).alloc _).alloc _) (w.heap.size + 2) (by simp)
  generalize addDc ⟨b, l, s⟩ ⟨b2, l2, s2⟩ = D at *
  cases hm1 : mayDc ⟨b, l, s⟩
  · rw [hm1] at m1
    have HD : Hid (D = (Dc.zero, 1)) := by rw [Hid, hAD.out, hm1]; rfl
    clear hm1 hAD
    generalize mayDc ⟨b2, l2, s2⟩ = m at *
    go_enter Try.func28, Try.ntmps28
    go_wp2_with fail
    refine (m1.out _ (((h.alloc _).alloc _).alloc _)).mono ?_
    rintro e w1 ⟨rfl, hB1⟩
    have hX1 := hX0.call hB1
    have hY1 := hY0.call hB1
    have hR1 := hR0.call hB1
    obtain ⟨⟨q0, q1, q2⟩, _⟩ := hY1.cells3
    go_wp2_with fail
    refine (m2.out _ (h2.later hY1.later)).mono ?_
    rintro e w2 ⟨rfl, hB2⟩
    have hX2 := hX1.call hB2
    have hY2 := hY1.call hB2
    have hR2 := hR1.call hB2
    obtain ⟨⟨r0, r1, r2⟩, ⟨r3, r4, r5⟩⟩ := hR2.cells3
    go_wp2_with fail
    rw [HD.out]
    obtain ⟨⟨z0, z1, z2⟩, _⟩ := (hR2.store3 (.bool false) (.slice none 0 0) (.int .i64 0)).cells3
    exact bodyPost_ret (v := .tuple #[.agg #[.bool false, .slice none 0 0, .int .i64 0], .int .i64 1]) (by generalize World.setCell (World.setCell (World.setCell _ _ _) _ _) _ _ = W3 at z0 z1 z2 ⊢; simp [results, Try.results28, go_sem, z0, z1, z2]) rfl
      ⟨none, 0, 0, rfl, IL.nil _, below_set3 hR2.later (by omega) _ _ _, none_new _⟩
  · rw [hm1] at m1
    cases hm2 : mayDc ⟨b2, l2, s2⟩
    · rw [hm2] at m2
      have HD : Hid (D = (Dc.zero, 1)) := by rw [Hid, hAD.out, hm1, hm2]; rfl
      clear hm1 hm2 hAD
      go_enter Try.func28, Try.ntmps28
      go_wp2_with fail
      refine (m1.out _ (((h.alloc _).alloc _).alloc _)).mono ?_
      rintro e w1 ⟨rfl, hB1⟩
      have hX1 := hX0.call hB1
      have hY1 := hY0.call hB1
      have hR1 := hR0.call hB1
      obtain ⟨⟨q0, q1, q2⟩, _⟩ := hY1.cells3
      go_wp2_with fail
      refine (m2.out _ (h2.later hY1.later)).mono ?_
      rintro e w2 ⟨rfl, hB2⟩
      have hX2 := hX1.call hB2
      have hY2 := hY1.call hB2
      have hR2 := hR1.call hB2
      obtain ⟨⟨r0, r1, r2⟩, ⟨r3, r4, r5⟩⟩ := hR2.cells3
      go_wp2_with fail
      rw [HD.out]
      obtain ⟨⟨z0, z1, z2⟩, _⟩ := (hR2.store3 (.bool false) (.slice none 0 0) (.int .i64 0)).cells3
      exact bodyPost_ret (v := .tuple #[.agg #[.bool false, .slice none 0 0, .int .i64 0], .int .i64 1]) (by generalize World.setCell (World.setCell (World.setCell _ _ _) _ _) _ _ = W3 at z0 z1 z2 ⊢; simp [results, Try.results28, go_sem, z0, z1, z2]) rfl
        ⟨none, 0, 0, rfl, IL.nil _, below_set3 hR2.later (by omega) _ _ _, none_new _⟩
    · rw [hm2] at m2
      obtain ⟨hml, hs0, hs1'⟩ := mayDc_iff.1 hm1
      obtain ⟨hml2, ht0, ht1⟩ := mayDc_iff.1 hm2
      simp only at hml hs0 hs1' hml2 ht0 ht1
      obtain ⟨sx, rfl⟩ := Int.eq_ofNat_of_zero_le hs0
      obtain ⟨sy, rfl⟩ := Int.eq_ofNat_of_zero_le ht0
      obtain ⟨N, hN⟩ : ∃ N, N = max sx sy := ⟨_, rfl⟩
      have HD : Hid (D = (canon N (Dc.at_ ⟨b, l, sx⟩ N + Dc.at_ ⟨b2, l2, sy⟩ N), 0)) := by rw [Hid, hAD.out, hm1, hm2, hN]; rfl
      have hmax : (if (sx : Int) < (sy : Int) then (sy : Int) else (sx : Int)) = (N : Int) := by split <;> omega
      have hmax2 : (if sx < sy then (sy : Int) else (sx : Int)) = (N : Int) := by split <;> omega
      have hsx : sx ≤ N := by omega
      have hsy : sy ≤ N := by omega
      have hNb : N ≤ 1000 := by omega
      have hs1 := Lib.hid (fun W (hW : IL W A n c l) => show Calls Try.prog 66 #[.slice A n c, .int .i64 ((N : Int) - (sx : Int))] W (RO W (zerosB l (N - sx))) by
        have := rshift_any A n c l ((N : Int) - (sx : Int)) W hW (by omega) (by omega) (by omega)
        rw [shiftL_zeros l N sx hsx] at this
        exact this)
      have hs2 := Lib.hid (fun W (hW : IL W A2 n2 c2 l2) => show Calls Try.prog 66 #[.slice A2 n2 c2, .int .i64 ((N : Int) - (sy : Int))] W (RO W (zerosB l2 (N - sy))) by
        have := rshift_any A2 n2 c2 l2 ((N : Int) - (sy : Int)) W hW (by omega) (by omega) (by omega)
        rw [shiftL_zeros l2 N sy hsy] at this
        exact this)
      have as_ := fun hbb => add_same (a := ⟨b, l, (sx : Int)⟩) (b := ⟨b2, l2, (sy : Int)⟩) hml hml2 hbb N
      have ad_ := fun hbb => add_diff (a := ⟨b, l, (sx : Int)⟩) (b := ⟨b2, l2, (sy : Int)⟩) hml hml2 hbb N
      simp only [Int.toNat_natCast] at as_ ad_
      have mx := mayL_zerosB hml (N - sx)
      have my := mayL_zerosB hml2 (N - sy)
      have lx : (zerosB l (N - sx)).length ≤ 11000 := by rw [zerosB_len]; omega
      have ly : (zerosB l2 (N - sy)).length ≤ 11000 := by rw [zerosB_len]; omega
      generalize canon N (Dc.at_ ⟨b, l, (sx : Int)⟩ N + Dc.at_ ⟨b2, l2, (sy : Int)⟩ N) = R at *
      generalize zerosB l (N - sx) = x at *
      generalize zerosB l2 (N - sy) = y at *
      clear hm1 hm2 hAD hN
      by_cases hbb : b = b2
      · have has := as_ hbb
        have hbq : (b == b2) = true := by simpa using hbb
        have hop := Lib.hid (fun A n c A2 n2 c2 W hW hW2 hn hn2 => add_any A n c x A2 n2 c2 y W hW hW2 mx my hn hn2)
        have hvl := ofN_sum_len mx my lx ly
        have htr := Lib.hid (fun A n c W hW hn => rdtrim_any (A := A) (n := n) (c := c) (l := ofN (val x + val y).toNat) b (N : Int) W hW (I64_of_may (mayL_ofN _)) hn (by omega) (by omega))
        rw [has] at htr
        generalize ofN (val x + val y).toNat = v at *
        clear as_ ad_ hbb has
        go_enter Try.func28, Try.ntmps28
        go_wp2_with fail
        refine (m1.out _ (((h.alloc _).alloc _).alloc _)).mono ?_
        rintro e w1 ⟨rfl, hB1⟩
        have hX1 := hX0.call hB1
        have hY1 := hY0.call hB1
        have hR1 := hR0.call hB1
        obtain ⟨⟨q0, q1, q2⟩, _⟩ := hY1.cells3
        go_wp2_with fail
        refine (m2.out _ (h2.later hY1.later)).mono ?_
        rintro e w2 ⟨rfl, hB2⟩
        have hX2 := hX1.call hB2
        have hY2 := hY1.call hB2
        have hR2 := hR1.call hB2
        obtain ⟨⟨q0, q1, q2⟩, _⟩ := hX2.cells3
        obtain ⟨⟨r0, r1, r2⟩, _⟩ := hY2.cells3
        go_wp2_with fail
        refine (hs1.out _ (h.later hX2.later)).mono ?_
        rintro e w3 ⟨A3, n3, c3, rfl, hO3, hB3⟩
        have hX3 := hX2.call hB3
        have hY3 := hY2.call hB3
        have hR3 := hR2.call hB3
        obtain ⟨⟨q0, q1, q2⟩, _⟩ := hX3.cells3
        obtain ⟨⟨r0, r1, r2⟩, _⟩ := hY3.cells3
        go_wp2_with fail
        refine (hs2.out _ (h2.later hX3.later)).mono ?_
        rintro e w4 ⟨A4, n4, c4, rfl, hO4, hB4⟩
        have hX4 := hX3.call hB4
        have hY4 := hY3.call hB4
        have hR4 := hR3.call hB4
        have hI3 := hO3.il.below hB4
        have hI4 := hO4.il
        have hn3 : n3 ≤ 11000 := by rw [← hO3.len]; exact lx
        have hn4 : n4 ≤ 11000 := by rw [← hO4.len]; exact ly
        obtain ⟨⟨q0, q1, q2⟩, _⟩ := hX4.cells3
        obtain ⟨⟨r0, r1, r2⟩, _⟩ := hY4.cells3
        go_upto_region 9 with fail
        have HB := Lib.hid hX4
        have HR := Lib.hid hR4
        go_region_held3 (fun W => W.cell? ⟨w.heap.size, 0, none⟩ = some (.bool b) ∧ Blk w (w.heap.size) 24 #[.bool b, .slice A n c, .int .i64 (sx : Int)] W)
          ((refine blk_s3 ?_; repeat (first | exact HB.out | exact And.right (by assumption) | refine Blk.drew ?_ | refine Blk.call ?_ hB9 | refine Blk.call ?_ hB8 | refine Blk.far ?_ (by simp <;> omega) (by simp <;> omega) _)))
          (first
            | (go_at_call 67; refine (hop.out _ _ _ _ _ _ _ (hI3.drew) (hI4.drew) (by omega) (by omega)).mono ?_; rintro e w8 ⟨A8, n8, c8, rfl, hO8, hB8⟩; have hR8 := HR.out.drew.call hB8)
            | (go_at_call 36; refine (htr.out _ _ _ _ hO8.il (by have := hO8.len; omega)).mono ?_; rintro e w9 ⟨A9, n9, c9, rfl, hI9, hB9, hN9⟩; have hR9 := hR8.call hB9; have hlt := hR8.lt; obtain ⟨⟨y0, y1, y2⟩, ⟨y3, y4, y5⟩⟩ := hR9.cells3))
        all_goals
          go_wp2_with fail
          rw [HD.out]
          obtain ⟨⟨z0, z1, z2⟩, _⟩ := (hR9.store3 (.bool R.neg) (.slice A9 n9 c9) (.int .i64 R.s)).cells3
          exact bodyPost_ret (v := .tuple #[.agg #[.bool R.neg, .slice A9 n9 c9, .int .i64 R.s], .int .i64 0]) (by generalize World.setCell (World.setCell (World.setCell _ _ _) _ _) _ _ = W3 at z0 z1 z2 ⊢; simp [results, Try.results28, go_sem, z0, z1, z2]) rfl
            ⟨A9, n9, c9, rfl, hI9.set3 (fun hz a ha => by have := hN9 hz a ha; omega) _ _ _, below_set3 hR9.later (by omega) _ _ _, fun hz a ha => by have := hN9 hz a ha; omega⟩
      · have had0 := ad_ hbb
        have hbq : (b == b2) = false := by simpa using hbb
        have hcm := Lib.hid (fun A n c A2 n2 c2 W hW hW2 hn hn2 => rcompare_any A n c x A2 n2 c2 y W hW hW2 hn hn2)
        clear as_ ad_ hbb
        by_cases hlt : val x < val y
        · have had := had0
          clear had0
          rw [if_pos hlt] at had
          have hop := Lib.hid (fun A n c A2 n2 c2 W hW hW2 hn hn2 => less_any A n c y A2 n2 c2 x W hW hW2 my mx hn hn2 (by omega))
          have hvl := ofN_diff_len my mx ly
          have htr := Lib.hid (fun A n c W hW hn => rdtrim_any (A := A) (n := n) (c := c) (l := ofN (val y - val x).toNat) b2 (N : Int) W hW (I64_of_may (mayL_ofN _)) hn (by omega) (by omega))
          rw [had] at htr
          have hcn : cmpL x y < 0 := (cmpL_neg mx my).2 hlt
          clear hlt had
          generalize ofN (val y - val x).toNat = v at *
          generalize cmpL x y = cc at *
          go_enter Try.func28, Try.ntmps28
          go_wp2_with fail
          refine (m1.out _ (((h.alloc _).alloc _).alloc _)).mono ?_
          rintro e w1 ⟨rfl, hB1⟩
          have hX1 := hX0.call hB1
          have hY1 := hY0.call hB1
          have hR1 := hR0.call hB1
          obtain ⟨⟨q0, q1, q2⟩, _⟩ := hY1.cells3
          go_wp2_with fail
          refine (m2.out _ (h2.later hY1.later)).mono ?_
          rintro e w2 ⟨rfl, hB2⟩
          have hX2 := hX1.call hB2
          have hY2 := hY1.call hB2
          have hR2 := hR1.call hB2
          obtain ⟨⟨q0, q1, q2⟩, _⟩ := hX2.cells3
          obtain ⟨⟨r0, r1, r2⟩, _⟩ := hY2.cells3
          go_wp2_with fail
          refine (hs1.out _ (h.later hX2.later)).mono ?_
          rintro e w3 ⟨A3, n3, c3, rfl, hO3, hB3⟩
          have hX3 := hX2.call hB3
          have hY3 := hY2.call hB3
          have hR3 := hR2.call hB3
          obtain ⟨⟨q0, q1, q2⟩, _⟩ := hX3.cells3
          obtain ⟨⟨r0, r1, r2⟩, _⟩ := hY3.cells3
          go_wp2_with fail
          refine (hs2.out _ (h2.later hX3.later)).mono ?_
          rintro e w4 ⟨A4, n4, c4, rfl, hO4, hB4⟩
          have hX4 := hX3.call hB4
          have hY4 := hY3.call hB4
          have hR4 := hR3.call hB4
          have hI3 := hO3.il.below hB4
          have hI4 := hO4.il
          have hn3 : n3 ≤ 11000 := by rw [← hO3.len]; exact lx
          have hn4 : n4 ≤ 11000 := by rw [← hO4.len]; exact ly
          obtain ⟨⟨q0, q1, q2⟩, _⟩ := hX4.cells3
          obtain ⟨⟨r0, r1, r2⟩, _⟩ := hY4.cells3
          go_wp2_with fail
          refine (hcm.out _ _ _ _ _ _ _ hI3 hI4 (by omega) (by omega)).mono ?_
          rintro e w5 ⟨rfl, hB5⟩
          have hX5 := hX4.call hB5
          have hY5 := hY4.call hB5
          have hR5 := hR4.call hB5
          have hI35 := hI3.below hB5
          have hI45 := hI4.below hB5
          obtain ⟨⟨q0, q1, q2⟩, _⟩ := hX5.cells3
          obtain ⟨⟨r0, r1, r2⟩, _⟩ := hY5.cells3
          go_upto_region 11 with fail
          have HB := Lib.hid hY5
          have HR := Lib.hid hR5
          go_region_held3 (fun W => W.cell? ⟨w.heap.size + 1, 0, none⟩ = some (.bool b2) ∧ Blk w (w.heap.size + 1) 24 #[.bool b2, .slice A2 n2 c2, .int .i64 (sy : Int)] W)
            ((refine blk_s3 ?_; repeat (first | exact HB.out | exact And.right (by assumption) | refine Blk.drew ?_ | refine Blk.call ?_ hB9 | refine Blk.call ?_ hB8 | refine Blk.far ?_ (by simp <;> omega) (by simp <;> omega) _)))
            (first
              | (go_at_call 68; refine (hop.out _ _ _ _ _ _ _ (hI45.drew) (hI35.drew) (by omega) (by omega)).mono ?_; rintro e w8 ⟨A8, n8, c8, rfl, hO8, hB8⟩; have hR8 := HR.out.drew.call hB8)
              | (go_at_call 36; refine (htr.out _ _ _ _ hO8.il (by have := hO8.len; omega)).mono ?_; rintro e w9 ⟨A9, n9, c9, rfl, hI9, hB9, hN9⟩; have hR9 := hR8.call hB9; have hlt := hR8.lt; obtain ⟨⟨y0, y1, y2⟩, ⟨y3, y4, y5⟩⟩ := hR9.cells3))
          all_goals
            go_wp2_with fail
            rw [HD.out]
            obtain ⟨⟨z0, z1, z2⟩, _⟩ := (hR9.store3 (.bool R.neg) (.slice A9 n9 c9) (.int .i64 R.s)).cells3
            exact bodyPost_ret (v := .tuple #[.agg #[.bool R.neg, .slice A9 n9 c9, .int .i64 R.s], .int .i64 0]) (by generalize World.setCell (World.setCell (World.setCell _ _ _) _ _) _ _ = W3 at z0 z1 z2 ⊢; simp [results, Try.results28, go_sem, z0, z1, z2]) rfl
              ⟨A9, n9, c9, rfl, hI9.set3 (fun hz a ha => by have := hN9 hz a ha; omega) _ _ _, below_set3 hR9.later (by omega) _ _ _, fun hz a ha => by have := hN9 hz a ha; omega⟩
        · have had := had0
          clear had0
          rw [if_neg hlt] at had
          have hop := Lib.hid (fun A n c A2 n2 c2 W hW hW2 hn hn2 => less_any A n c x A2 n2 c2 y W hW hW2 mx my hn hn2 (by omega))
          have hvl := ofN_diff_len mx my lx
          have htr := Lib.hid (fun A n c W hW hn => rdtrim_any (A := A) (n := n) (c := c) (l := ofN (val x - val y).toNat) b (N : Int) W hW (I64_of_may (mayL_ofN _)) hn (by omega) (by omega))
          rw [had] at htr
          have hcn : ¬ cmpL x y < 0 := fun q => hlt ((cmpL_neg mx my).1 q)
          clear hlt had
          generalize ofN (val x - val y).toNat = v at *
          generalize cmpL x y = cc at *
          go_enter Try.func28, Try.ntmps28
          go_wp2_with fail
          refine (m1.out _ (((h.alloc _).alloc _).alloc _)).mono ?_
          rintro e w1 ⟨rfl, hB1⟩
          have hX1 := hX0.call hB1
          have hY1 := hY0.call hB1
          have hR1 := hR0.call hB1
          obtain ⟨⟨q0, q1, q2⟩, _⟩ := hY1.cells3
          go_wp2_with fail
          refine (m2.out _ (h2.later hY1.later)).mono ?_
          rintro e w2 ⟨rfl, hB2⟩
          have hX2 := hX1.call hB2
          have hY2 := hY1.call hB2
          have hR2 := hR1.call hB2
          obtain ⟨⟨q0, q1, q2⟩, _⟩ := hX2.cells3
          obtain ⟨⟨r0, r1, r2⟩, _⟩ := hY2.cells3
          go_wp2_with fail
          refine (hs1.out _ (h.later hX2.later)).mono ?_
          rintro e w3 ⟨A3, n3, c3, rfl, hO3, hB3⟩
          have hX3 := hX2.call hB3
          have hY3 := hY2.call hB3
          have hR3 := hR2.call hB3
          obtain ⟨⟨q0, q1, q2⟩, _⟩ := hX3.cells3
          obtain ⟨⟨r0, r1, r2⟩, _⟩ := hY3.cells3
          go_wp2_with fail
          refine (hs2.out _ (h2.later hX3.later)).mono ?_
          rintro e w4 ⟨A4, n4, c4, rfl, hO4, hB4⟩
          have hX4 := hX3.call hB4
          have hY4 := hY3.call hB4
          have hR4 := hR3.call hB4
          have hI3 := hO3.il.below hB4
          have hI4 := hO4.il
          have hn3 : n3 ≤ 11000 := by rw [← hO3.len]; exact lx
          have hn4 : n4 ≤ 11000 := by rw [← hO4.len]; exact ly
          obtain ⟨⟨q0, q1, q2⟩, _⟩ := hX4.cells3
          obtain ⟨⟨r0, r1, r2⟩, _⟩ := hY4.cells3
          go_wp2_with fail
          refine (hcm.out _ _ _ _ _ _ _ hI3 hI4 (by omega) (by omega)).mono ?_
          rintro e w5 ⟨rfl, hB5⟩
          have hX5 := hX4.call hB5
          have hY5 := hY4.call hB5
          have hR5 := hR4.call hB5
          have hI35 := hI3.below hB5
          have hI45 := hI4.below hB5
          obtain ⟨⟨q0, q1, q2⟩, _⟩ := hX5.cells3
          obtain ⟨⟨r0, r1, r2⟩, _⟩ := hY5.cells3
          go_upto_region 12 with fail
          have HB := Lib.hid hX5
          have HR := Lib.hid hR5
          go_region_held3 (fun W => W.cell? ⟨w.heap.size, 0, none⟩ = some (.bool b) ∧ Blk w (w.heap.size) 24 #[.bool b, .slice A n c, .int .i64 (sx : Int)] W)
            ((refine blk_s3 ?_; repeat (first | exact HB.out | exact And.right (by assumption) | refine Blk.drew ?_ | refine Blk.call ?_ hB9 | refine Blk.call ?_ hB8 | refine Blk.far ?_ (by simp <;> omega) (by simp <;> omega) _)))
            (first
              | (go_at_call 68; refine (hop.out _ _ _ _ _ _ _ (hI35.drew) (hI45.drew) (by omega) (by omega)).mono ?_; rintro e w8 ⟨A8, n8, c8, rfl, hO8, hB8⟩; have hR8 := HR.out.drew.call hB8)
              | (go_at_call 36; refine (htr.out _ _ _ _ hO8.il (by have := hO8.len; omega)).mono ?_; rintro e w9 ⟨A9, n9, c9, rfl, hI9, hB9, hN9⟩; have hR9 := hR8.call hB9; have hlt := hR8.lt; obtain ⟨⟨y0, y1, y2⟩, ⟨y3, y4, y5⟩⟩ := hR9.cells3))
          all_goals
            go_wp2_with fail
            rw [HD.out]
            obtain ⟨⟨z0, z1, z2⟩, _⟩ := (hR9.store3 (.bool R.neg) (.slice A9 n9 c9) (.int .i64 R.s)).cells3
            exact bodyPost_ret (v := .tuple #[.agg #[.bool R.neg, .slice A9 n9 c9, .int .i64 R.s], .int .i64 0]) (by generalize World.setCell (World.setCell (World.setCell _ _ _) _ _) _ _ = W3 at z0 z1 z2 ⊢; simp [results, Try.results28, go_sem, z0, z1, z2]) rfl
              ⟨A9, n9, c9, rfl, hI9.set3 (fun hz a ha => by have := hN9 hz a ha; omega) _ _ _, below_set3 hR9.later (by omega) _ _ _, fun hz a ha => by have := hN9 hz a ha; omega⟩

end Go.Proofs.Ytnndiikogaoeiaa
