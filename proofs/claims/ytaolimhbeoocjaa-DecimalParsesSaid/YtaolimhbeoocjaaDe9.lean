/- The walk of the program's adding of decimals. No condition. -/
import Derived.Test.YtaolimhbeoocjaaDe7
import Derived.Test.YtaolimhbeoocjaaCanon3
import Derived.Test.YtaolimhbeoocjaaSum
import Derived.Test.YtaolimhbeoocjaaOps
namespace Go.Proofs.Ytaolimhbeoocjaa
open Go.RowKit

theorem LL.pair {w : World} {A A2 : Option Addr} {n c n2 c2 : Nat} {l l2 : List Int} (h : IL w A n c l) (h2 : IL w A2 n2 c2 l2) (e : TypeId) (b : Nat) (hb : b = w.heap.size) :
    LL (w.alloc (.cells #[.slice A n c, .slice A2 n2 c2] e)) (some ⟨b, 0, none⟩) 2 2 [l, l2] := by
  subst hb
  refine ⟨[.slice A n c, .slice A2 n2 c2], VL.lit w e 2 _ rfl (by omega), rfl, fun k hk => ?_⟩
  have hk2 : k = 0 ∨ k = 1 := by simp at hk; omega
  rcases hk2 with rfl | rfl
  · exact ⟨A, n, c, rfl, h.alloc _⟩
  · exact ⟨A2, n2, c2, rfl, h2.alloc _⟩
theorem sumR_two {a b : List Int} (ha : mayL a = true) (hb : mayL b = true) : sumR [a, b] = (ofN (val a + val b).toNat, 0) := by
  unfold sumR mayLL sumV
  simp [ha, hb]
theorem subR_two {a b : List Int} (ha : mayL a = true) (hb : mayL b = true) (h : ¬ val a < val b) : subR a b = (ofN (val a - val b).toNat, 0) := by
  unfold subR
  rw [ha, hb, if_neg h]; rfl
theorem ofN_sum_len {a b : List Int} {M : Nat} (ha : mayL a = true) (hb : mayL b = true) (h1 : a.length ≤ M) (h2 : b.length ≤ M) : (ofN (val a + val b).toNat).length ≤ M + 1 := by
  refine ofN_len ?_
  have v1 := (val_bd ha).2
  have v2 := (val_bd hb).2
  have p1 := pow_le h1
  have p2 := pow_le h2
  have v3 := (val_bd ha).1
  have v4 := (val_bd hb).1
  have : (val a + val b) < 10 ^ (M + 1) := by rw [Int.pow_succ]; omega
  have e : ((val a + val b).toNat : Int) < ((10 ^ (M + 1) : Nat) : Int) := by push_cast; omega
  exact_mod_cast e
theorem ofN_diff_len {a b : List Int} {M : Nat} (ha : mayL a = true) (hb : mayL b = true) (h1 : a.length ≤ M) : (ofN (val a - val b).toNat).length ≤ M := by
  refine ofN_len ?_
  have v1 := (val_bd ha).2
  have p1 := pow_le h1
  have v3 := (val_bd ha).1
  have v4 := (val_bd hb).1
  have := ten_pos M
  have e : ((val a - val b).toNat : Int) < ((10 ^ M : Nat) : Int) := by push_cast; omega
  exact_mod_cast e

set_option maxHeartbeats 4000000 in
theorem cadd_any {A : Option Addr} {n c : Nat} {l : List Int} {A2 : Option Addr} {n2 c2 : Nat} {l2 : List Int} (b b2 : Bool) (s s2 : Int) (w : World) (h : IL w A n c l) (h2 : IL w A2 n2 c2 l2) (hl : I64 l) (hl2 : I64 l2)
    (hn : n ≤ 10000) (hn2 : n2 ≤ 10000) (hs : -9223372036854775808 ≤ s ∧ s ≤ 9223372036854775807) (hs2 : -9223372036854775808 ≤ s2 ∧ s2 ≤ 9223372036854775807) :
    Calls Try.prog 22 #[.agg #[.bool b, .slice A n c, .int .i64 s], .agg #[.bool b2, .slice A2 n2 c2, .int .i64 s2]] w (RCE w (addDc ⟨b, l, s⟩ ⟨b2, l2, s2⟩).1 (addDc ⟨b, l, s⟩ ⟨b2, l2, s2⟩).2) := by
  have m1 := Lib.hid (fun W hW => cmay_any (A := A) (n := n) (c := c) (l := l) b s W hW hl hs)
  have m2 := Lib.hid (fun W hW => cmay_any (A := A2) (n := n2) (c := c2) (l := l2) b2 s2 W hW hl2 hs2)
  have hAD : Hid (addDc ⟨b, l, s⟩ ⟨b2, l2, s2⟩ = if mayDc ⟨b, l, s⟩ && mayDc ⟨b2, l2, s2⟩ then (canon (max s.toNat s2.toNat) (Dc.at_ ⟨b, l, s⟩ (max s.toNat s2.toNat) + Dc.at_ ⟨b2, l2, s2⟩ (max s.toNat s2.toNat)), 0) else (Dc.zero, 1)) := rfl
  have el := h.len
  have el2 := h2.len
  have hX0 := ((Blk.made w w 32 #[.bool b, .slice A n c, .int .i64 s] (Later.refl w) _ rfl).alloc (.cells #[.bool b2, .slice A2 n2 c2, .int .i64 s2] 32)).alloc (.cells #[.bool false, .slice none 0 0, .int .i64 0] 32)
  have hY0 := (Blk.made w (w.alloc (.cells #[.bool b, .slice A n c, .int .i64 s] 32)) 32 #[.bool b2, .slice A2 n2 c2, .int .i64 s2] ((Later.refl w).alloc _) (w.heap.size + 1) (by simp)).alloc (.cells #[.bool false, .slice none 0 0, .int .i64 0] 32)
  have hR0 := Blk.made w ((w.alloc (.cells #[.bool b, .slice A n c, .int .i64 s] 32)).alloc (.cells #[.bool b2, .slice A2 n2 c2, .int .i64 s2] 32)) 32 #[.bool false, .slice none 0 0, .int .i64 0] (((Later.refl w).alloc _).alloc _) (w.heap.size + 2) (by simp)
  generalize addDc ⟨b, l, s⟩ ⟨b2, l2, s2⟩ = D at *
  cases hm1 : mayDc ⟨b, l, s⟩
  · rw [hm1] at m1
    have HD : Hid (D = (Dc.zero, 1)) := by rw [Hid, hAD.out, hm1]; rfl
    clear hm1 hAD
    go_enter Try.func22, Try.ntmps22
    go_wp2_with fail
    refine (m1.out _ (((h.alloc _).alloc _).alloc _)).mono ?_
    rintro e w1 ⟨rfl, hB1⟩
    have hR := hR0.call hB1
    obtain ⟨⟨r0, r1, r2⟩, ⟨r3, r4, r5⟩⟩ := hR.cells3
    go_wp2_with fail
    rw [HD.out]
    obtain ⟨⟨z0, z1, z2⟩, _⟩ := (hR.store3 (.bool false) (.slice none 0 0) (.int .i64 0)).cells3
    exact bodyPost_ret (v := .tuple #[.agg #[.bool false, .slice none 0 0, .int .i64 0], .int .i64 1]) (by generalize World.setCell (World.setCell (World.setCell _ _ _) _ _) _ _ = W3 at z0 z1 z2 ⊢; simp [results, Try.results22, go_sem, z0, z1, z2]) rfl
      ⟨none, 0, 0, rfl, IL.nil _, below_set3 hR.later (by omega) _ _ _, none_new _⟩
  · rw [hm1] at m1
    cases hm2 : mayDc ⟨b2, l2, s2⟩
    · rw [hm2] at m2
      have HD : Hid (D = (Dc.zero, 1)) := by rw [Hid, hAD.out, hm1, hm2]; rfl
      clear hm1 hm2 hAD
      go_enter Try.func22, Try.ntmps22
      go_wp2_with fail
      refine (m1.out _ (((h.alloc _).alloc _).alloc _)).mono ?_
      rintro e w1 ⟨rfl, hB1⟩
      have hY1 := hY0.call hB1
      obtain ⟨⟨q0, q1, q2⟩, _⟩ := hY1.cells3
      go_wp2_with fail
      refine (m2.out _ (h2.later hY1.later)).mono ?_
      rintro e w2 ⟨rfl, hB2⟩
      have hR := (hR0.call hB1).call hB2
      obtain ⟨⟨r0, r1, r2⟩, ⟨r3, r4, r5⟩⟩ := hR.cells3
      go_wp2_with fail
      rw [HD.out]
      obtain ⟨⟨z0, z1, z2⟩, _⟩ := (hR.store3 (.bool false) (.slice none 0 0) (.int .i64 0)).cells3
      exact bodyPost_ret (v := .tuple #[.agg #[.bool false, .slice none 0 0, .int .i64 0], .int .i64 1]) (by generalize World.setCell (World.setCell (World.setCell _ _ _) _ _) _ _ = W3 at z0 z1 z2 ⊢; simp [results, Try.results22, go_sem, z0, z1, z2]) rfl
        ⟨none, 0, 0, rfl, IL.nil _, below_set3 hR.later (by omega) _ _ _, none_new _⟩
    · rw [hm2] at m2
      obtain ⟨hml, hs0, hs1⟩ := mayDc_iff.1 hm1
      obtain ⟨hml2, ht0, ht1⟩ := mayDc_iff.1 hm2
      simp only at hml hs0 hs1 hml2 ht0 ht1
      obtain ⟨sx, rfl⟩ := Int.eq_ofNat_of_zero_le hs0
      obtain ⟨sy, rfl⟩ := Int.eq_ofNat_of_zero_le ht0
      obtain ⟨N, hN⟩ : ∃ N, N = max sx sy := ⟨_, rfl⟩
      have HD : Hid (D = (canon N (Dc.at_ ⟨b, l, sx⟩ N + Dc.at_ ⟨b2, l2, sy⟩ N), 0)) := by rw [Hid, hAD.out, hm1, hm2, hN]; rfl
      have hlv := Lib.hid (fun W hW hW2 => level_any (A := A) (n := n) (c := c) (l := l) (A2 := A2) (n2 := n2) (c2 := c2) (l2 := l2) b b2 sx sy W hW hW2 hml hml2 (by omega) (by omega) (by omega) (by omega) N hN)
      have as_ := fun hbb => add_same (a := ⟨b, l, (sx : Int)⟩) (b := ⟨b2, l2, (sy : Int)⟩) hml hml2 hbb N
      have ad_ := fun hbb => add_diff (a := ⟨b, l, (sx : Int)⟩) (b := ⟨b2, l2, (sy : Int)⟩) hml hml2 hbb N
      simp only [Int.toNat_natCast] at as_ ad_
      have hNb : N ≤ 1000 := by omega
      have mx := mayL_zerosB hml (N - sx)
      have my := mayL_zerosB hml2 (N - sy)
      have lx : (zerosB l (N - sx)).length ≤ 11000 := by rw [zerosB_len]; omega
      have ly : (zerosB l2 (N - sy)).length ≤ 11000 := by rw [zerosB_len]; omega
      generalize canon N (Dc.at_ ⟨b, l, (sx : Int)⟩ N + Dc.at_ ⟨b2, l2, (sy : Int)⟩ N) = R at *
      generalize zerosB l (N - sx) = x at *
      generalize zerosB l2 (N - sy) = y at *
      clear hm1 hm2 hAD hN
      by_cases hbb : b = b2
      · have has := Lib.hid (as_ hbb)
        have hbq : (b == b2) = true := by simpa using hbb
        have hsum := Lib.hid (fun A n c W (hW : LL W A n c [x, y]) => show Calls Try.prog 36 #[.slice A n c] W (RLE W (ofN (val x + val y).toNat) 0) by
          have := sum_any A n c [x, y] W hW (by simp) (fun q hq => by
            rcases List.mem_cons.1 hq with rfl | hq
            · exact ⟨by omega, I64_of_may mx⟩
            · rcases List.mem_cons.1 hq with rfl | hq
              · exact ⟨by omega, I64_of_may my⟩
              · cases hq)
          rw [sumR_two mx my] at this
          exact this)
        have hvl := ofN_sum_len mx my lx ly
        have htr := Lib.hid (fun A n c W hW hn => dtrim_any (A := A) (n := n) (c := c) (l := ofN (val x + val y).toNat) b (N : Int) W hW (I64_of_may (mayL_ofN _)) hn (by omega) (by omega))
        rw [has.out] at htr
        generalize ofN (val x + val y).toNat = v at *
        clear as_ ad_ hbb has
        go_enter Try.func22, Try.ntmps22
        go_wp2_with fail
        refine (m1.out _ (((h.alloc _).alloc _).alloc _)).mono ?_
        rintro e w1 ⟨rfl, hB1⟩
        have hY1 := hY0.call hB1
        obtain ⟨⟨q0, q1, q2⟩, _⟩ := hY1.cells3
        go_wp2_with fail
        refine (m2.out _ (h2.later hY1.later)).mono ?_
        rintro e w2 ⟨rfl, hB2⟩
        have hX2 := (hX0.call hB1).call hB2
        have hY2 := hY1.call hB2
        obtain ⟨⟨q0, q1, q2⟩, _⟩ := hX2.cells3
        obtain ⟨⟨r0, r1, r2⟩, _⟩ := hY2.cells3
        go_wp2_with fail
        refine (hlv.out _ (h.later hX2.later) (h2.later hX2.later)).mono ?_
        rintro e w3 ⟨A3, n3, c3, A4, n4, c4, rfl, hI3, hI4, hB3, hN3, hN4⟩
        have hl2 := ((hR0.call hB1).call hB2).lt
        have hX3 := hX2.call hB3
        have hY3 := hY2.call hB3
        have hR3 := ((hR0.call hB1).call hB2).call hB3
        obtain ⟨⟨q0, q1, q2⟩, ⟨q3, q4, q5⟩⟩ := hX3.cells3
        obtain ⟨⟨r0, r1, r2⟩, _⟩ := hY3.cells3
        have hn3 : n3 ≤ 11000 := by rw [← hI3.len]; exact lx
        have hn4 : n4 ≤ 11000 := by rw [← hI4.len]; exact ly
        go_wp2_with fail
        refine (hsum.out _ _ _ _ (LL.pair hI3 hI4 _ _ rfl)).mono ?_
        rintro e w4 ⟨A5, n5, c5, rfl, hO5, hB4⟩
        have hn5 : n5 ≤ 100000 := by rw [← hO5.len]; omega
        have hX4 := (hX3.alloc _).call hB4
        have hR4 := (hR3.alloc _).call hB4
        obtain ⟨⟨q0, q1, q2⟩, _⟩ := hX4.cells3
        go_wp2_with fail
        refine (htr.out _ _ _ _ hO5.il (by omega)).mono ?_
        rintro e w5 ⟨A6, n6, c6, rfl, hI6, hB5, hN6⟩
        have hR5 := hR4.call hB5
        have hlt := hR4.lt
        obtain ⟨⟨r0, r1, r2⟩, ⟨r3, r4, r5⟩⟩ := hR5.cells3
        go_wp2_with fail
        rw [HD.out]
        obtain ⟨⟨z0, z1, z2⟩, _⟩ := (hR5.store3 (.bool R.neg) (.slice A6 n6 c6) (.int .i64 R.s)).cells3
        exact bodyPost_ret (v := .tuple #[.agg #[.bool R.neg, .slice A6 n6 c6, .int .i64 R.s], .int .i64 0]) (by generalize World.setCell (World.setCell (World.setCell _ _ _) _ _) _ _ = W3 at z0 z1 z2 ⊢; simp [results, Try.results22, go_sem, z0, z1, z2]) rfl
          ⟨A6, n6, c6, rfl, hI6.set3 (fun hz a ha => by have := hN6 hz a ha; omega) _ _ _, below_set3 hR5.later (by omega) _ _ _, fun hz a ha => by have := hN6 hz a ha; omega⟩
      · have had0 := ad_ hbb
        have hbq : (b == b2) = false := by simpa using hbb
        have hcm := Lib.hid (fun A n c A2 n2 c2 W hW hW2 hn hn2 => compare_any A n c x A2 n2 c2 y W hW hW2 (I64_of_may mx) (I64_of_may my) hn hn2)
        clear as_ ad_ hbb
        by_cases hlt : val x < val y
        · have had := had0
          clear had0
          have htr := Lib.hid (fun A n c W hW hn => dtrim_any (A := A) (n := n) (c := c) (l := ofN (val y - val x).toNat) b2 (N : Int) W hW (I64_of_may (mayL_ofN _)) hn (by omega) (by omega))
          have hvl := ofN_diff_len my mx ly
          have hsub := Lib.hid (fun A n c A2 n2 c2 W hW hW2 hn hn2 => show Calls Try.prog 39 #[.slice A n c, .slice A2 n2 c2] W (RLE W (ofN (val y - val x).toNat) 0) by
            have := sub_any A n c y A2 n2 c2 x W hW hW2 (I64_of_may my) (I64_of_may mx) hn hn2
            rw [subR_two my mx (by omega)] at this
            exact this)
          rw [if_pos hlt] at had
          rw [had] at htr
          have hcn := (cmpL_ltz mx my).2 hlt
          clear hlt had
          generalize ofN (val y - val x).toNat = v at *
          generalize cmpL x y = cc at *
          go_enter Try.func22, Try.ntmps22
          go_wp2_with fail
          refine (m1.out _ (((h.alloc _).alloc _).alloc _)).mono ?_
          rintro e w1 ⟨rfl, hB1⟩
          have hY1 := hY0.call hB1
          obtain ⟨⟨q0, q1, q2⟩, _⟩ := hY1.cells3
          go_wp2_with fail
          refine (m2.out _ (h2.later hY1.later)).mono ?_
          rintro e w2 ⟨rfl, hB2⟩
          have hX2 := (hX0.call hB1).call hB2
          have hY2 := hY1.call hB2
          obtain ⟨⟨q0, q1, q2⟩, _⟩ := hX2.cells3
          obtain ⟨⟨r0, r1, r2⟩, _⟩ := hY2.cells3
          go_wp2_with fail
          refine (hlv.out _ (h.later hX2.later) (h2.later hX2.later)).mono ?_
          rintro e w3 ⟨A3, n3, c3, A4, n4, c4, rfl, hI3, hI4, hB3, hN3, hN4⟩
          have hl2 := ((hR0.call hB1).call hB2).lt
          have hX3 := hX2.call hB3
          have hY3 := hY2.call hB3
          have hR3 := ((hR0.call hB1).call hB2).call hB3
          obtain ⟨⟨q0, q1, q2⟩, ⟨q3, q4, q5⟩⟩ := hX3.cells3
          obtain ⟨⟨r0, r1, r2⟩, _⟩ := hY3.cells3
          have hn3 : n3 ≤ 11000 := by rw [← hI3.len]; exact lx
          have hn4 : n4 ≤ 11000 := by rw [← hI4.len]; exact ly
          go_wp2_with fail
          refine (hcm.out _ _ _ _ _ _ _ hI3 hI4 (by omega) (by omega)).mono ?_
          rintro e w4 ⟨rfl, hB4⟩
          have hX4 := hX3.call hB4
          have hY4 := hY3.call hB4
          have hR4 := hR3.call hB4
          have hI34 := hI3.below hB4
          have hI44 := hI4.below hB4
          obtain ⟨⟨q0, q1, q2⟩, ⟨q3, q4, q5⟩⟩ := hX4.cells3
          obtain ⟨⟨r0, r1, r2⟩, ⟨r3, r4, r5⟩⟩ := hY4.cells3
          have a3 : 0 < n3 → ∀ a, A3 = some a → a.block ≠ w.heap.size := fun hz a ha => by have := (hN3 hz a ha); omega
          have a4 : 0 < n4 → ∀ a, A4 = some a → a.block ≠ w.heap.size := fun hz a ha => by have := (hN4 hz a ha); omega
          have hX4' := hX4.store3 (.bool b2) (.slice A2 n2 c2) (.int .i64 (sy : Int))
          have hR4' := hR4.far3 (g' := w.heap.size) (by omega) (Nat.le_refl _) (.bool b2) (.slice A2 n2 c2) (.int .i64 (sy : Int))
          go_wp2_with fail
          refine (hsub.out _ _ _ _ _ _ _ (hI44.set3 a4 _ _ _) (hI34.set3 a3 _ _ _) (by omega) (by omega)).mono ?_
          rintro e w5 ⟨A5, n5, c5, rfl, hO5, hB5⟩
          have hX5 := hX4'.call hB5
          have hR5 := hR4'.call hB5
          have hn5 : n5 ≤ 100000 := by rw [← hO5.len]; omega
          obtain ⟨⟨q0', q1', q2'⟩, _⟩ := hX5.cells3
          go_wp2_with fail
          refine (htr.out _ _ _ _ hO5.il (by omega)).mono ?_
          rintro e w6 ⟨A6, n6, c6, rfl, hI6, hB6, hN6⟩
          have hR6 := hR5.call hB6
          have hlt := hR5.lt
          obtain ⟨⟨r0', r1', r2'⟩, ⟨r3', r4', r5'⟩⟩ := hR6.cells3
          go_wp2_with fail
          rw [HD.out]
          obtain ⟨⟨z0, z1, z2⟩, _⟩ := (hR6.store3 (.bool R.neg) (.slice A6 n6 c6) (.int .i64 R.s)).cells3
          exact bodyPost_ret (v := .tuple #[.agg #[.bool R.neg, .slice A6 n6 c6, .int .i64 R.s], .int .i64 0]) (by generalize World.setCell (World.setCell (World.setCell _ _ _) _ _) _ _ = W3 at z0 z1 z2 ⊢; simp [results, Try.results22, go_sem, z0, z1, z2]) rfl
            ⟨A6, n6, c6, rfl, hI6.set3 (fun hz a ha => by have := hN6 hz a ha; omega) _ _ _, below_set3 hR6.later (by omega) _ _ _, fun hz a ha => by have := hN6 hz a ha; omega⟩
        · have had := had0
          clear had0
          have htr := Lib.hid (fun A n c W hW hn => dtrim_any (A := A) (n := n) (c := c) (l := ofN (val x - val y).toNat) b (N : Int) W hW (I64_of_may (mayL_ofN _)) hn (by omega) (by omega))
          have hvl := ofN_diff_len mx my lx
          have hsub := Lib.hid (fun A n c A2 n2 c2 W hW hW2 hn hn2 => show Calls Try.prog 39 #[.slice A n c, .slice A2 n2 c2] W (RLE W (ofN (val x - val y).toNat) 0) by
            have := sub_any A n c x A2 n2 c2 y W hW hW2 (I64_of_may mx) (I64_of_may my) hn hn2
            rw [subR_two mx my hlt] at this
            exact this)
          rw [if_neg hlt] at had
          rw [had] at htr
          have hcn : ¬ cmpL x y < 0 := fun q => hlt ((cmpL_ltz mx my).1 q)
          clear hlt had
          generalize ofN (val x - val y).toNat = v at *
          generalize cmpL x y = cc at *
          go_enter Try.func22, Try.ntmps22
          go_wp2_with fail
          refine (m1.out _ (((h.alloc _).alloc _).alloc _)).mono ?_
          rintro e w1 ⟨rfl, hB1⟩
          have hY1 := hY0.call hB1
          obtain ⟨⟨q0, q1, q2⟩, _⟩ := hY1.cells3
          go_wp2_with fail
          refine (m2.out _ (h2.later hY1.later)).mono ?_
          rintro e w2 ⟨rfl, hB2⟩
          have hX2 := (hX0.call hB1).call hB2
          have hY2 := hY1.call hB2
          obtain ⟨⟨q0, q1, q2⟩, _⟩ := hX2.cells3
          obtain ⟨⟨r0, r1, r2⟩, _⟩ := hY2.cells3
          go_wp2_with fail
          refine (hlv.out _ (h.later hX2.later) (h2.later hX2.later)).mono ?_
          rintro e w3 ⟨A3, n3, c3, A4, n4, c4, rfl, hI3, hI4, hB3, hN3, hN4⟩
          have hl2 := ((hR0.call hB1).call hB2).lt
          have hX3 := hX2.call hB3
          have hY3 := hY2.call hB3
          have hR3 := ((hR0.call hB1).call hB2).call hB3
          obtain ⟨⟨q0, q1, q2⟩, ⟨q3, q4, q5⟩⟩ := hX3.cells3
          obtain ⟨⟨r0, r1, r2⟩, _⟩ := hY3.cells3
          have hn3 : n3 ≤ 11000 := by rw [← hI3.len]; exact lx
          have hn4 : n4 ≤ 11000 := by rw [← hI4.len]; exact ly
          go_wp2_with fail
          refine (hcm.out _ _ _ _ _ _ _ hI3 hI4 (by omega) (by omega)).mono ?_
          rintro e w4 ⟨rfl, hB4⟩
          have hX4 := hX3.call hB4
          have hY4 := hY3.call hB4
          have hR4 := hR3.call hB4
          have hI34 := hI3.below hB4
          have hI44 := hI4.below hB4
          obtain ⟨⟨q0, q1, q2⟩, ⟨q3, q4, q5⟩⟩ := hX4.cells3
          obtain ⟨⟨r0, r1, r2⟩, ⟨r3, r4, r5⟩⟩ := hY4.cells3
          go_wp2_with fail
          refine (hsub.out _ _ _ _ _ _ _ hI34 hI44 (by omega) (by omega)).mono ?_
          rintro e w5 ⟨A5, n5, c5, rfl, hO5, hB5⟩
          have hX5 := hX4.call hB5
          have hR5 := hR4.call hB5
          have hn5 : n5 ≤ 100000 := by rw [← hO5.len]; omega
          obtain ⟨⟨q0', q1', q2'⟩, _⟩ := hX5.cells3
          go_wp2_with fail
          refine (htr.out _ _ _ _ hO5.il (by omega)).mono ?_
          rintro e w6 ⟨A6, n6, c6, rfl, hI6, hB6, hN6⟩
          have hR6 := hR5.call hB6
          have hlt := hR5.lt
          obtain ⟨⟨r0', r1', r2'⟩, ⟨r3', r4', r5'⟩⟩ := hR6.cells3
          go_wp2_with fail
          rw [HD.out]
          obtain ⟨⟨z0, z1, z2⟩, _⟩ := (hR6.store3 (.bool R.neg) (.slice A6 n6 c6) (.int .i64 R.s)).cells3
          exact bodyPost_ret (v := .tuple #[.agg #[.bool R.neg, .slice A6 n6 c6, .int .i64 R.s], .int .i64 0]) (by generalize World.setCell (World.setCell (World.setCell _ _ _) _ _) _ _ = W3 at z0 z1 z2 ⊢; simp [results, Try.results22, go_sem, z0, z1, z2]) rfl
            ⟨A6, n6, c6, rfl, hI6.set3 (fun hz a ha => by have := hN6 hz a ha; omega) _ _ _, below_set3 hR6.later (by omega) _ _ _, fun hz a ha => by have := hN6 hz a ha; omega⟩

end Go.Proofs.Ytaolimhbeoocjaa
