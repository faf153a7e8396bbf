/- The walks of aligning decimals. No condition. -/
import Derived.Test.YtnndiikogaoeiaaDe7
import Derived.Test.YtnndiikogaoeiaaCanon3
namespace Go.Proofs.Ytnndiikogaoeiaa
open Go.RowKit

theorem blk_s3 {w0 W : World} {g : Nat} {t : TypeId} {a b c : Value} (h : Blk w0 g t #[a, b, c] W) : W.cell? ⟨g, 0, none⟩ = some a ∧ Blk w0 g t #[a, b, c] W := ⟨h.cells3.1.1, h⟩

set_option maxHeartbeats 2000000 in
theorem calign_any {A : Option Addr} {n c : Nat} {l : List Int} (b : Bool) (s k : Int) (w : World) (h : IL w A n c l) (hl : I64 l) (hs : -9223372036854775808 ≤ s ∧ s ≤ 9223372036854775807) (hk : -9223372036854775808 ≤ k ∧ k ≤ 9223372036854775807) (hn : n ≤ 10000) :
    Calls Try.prog 48 #[.agg #[.bool b, .slice A n c, .int .i64 s], .int .i64 k] w (RCE w (alignDc ⟨b, l, s⟩ k).1 (alignDc ⟨b, l, s⟩ k).2) := by
  have hmay := Lib.hid (fun W hW => cmay_any (A := A) (n := n) (c := c) (l := l) b s W hW hl hs)
  have hAL : Hid (alignDc ⟨b, l, s⟩ k = if mayDc ⟨b, l, s⟩ then (if k < (trimDc ⟨b, l, s⟩).s ∨ 1000 < k then (Dc.zero, 3) else (⟨(trimDc ⟨b, l, s⟩).neg, trimL (zerosB (trimDc ⟨b, l, s⟩).l (k - (trimDc ⟨b, l, s⟩).s).toNat), k⟩, 0)) else (Dc.zero, 1)) := rfl
  have hR0 := Blk.made w (w.alloc (.cells #[.bool b, .slice A n c, .int .i64 s] 27)) 27 #[.bool false, .slice none 0 0, .int .i64 0] ((Later.refl w).alloc _) (w.heap.size + 1) (by simp)
  have hX0 := (Blk.made w w 27 #[.bool b, .slice A n c, .int .i64 s] (Later.refl w) _ rfl).alloc (.cells #[.bool false, .slice none 0 0, .int .i64 0] 27)
  have el := h.len
  generalize alignDc ⟨b, l, s⟩ k = D at *
  cases hmd : mayDc ⟨b, l, s⟩
  · rw [hmd] at hmay
    have HD : Hid (D = (Dc.zero, 1)) := by rw [Hid, hAL.out, hmd]; rfl
    clear hmd
    go_enter Try.func48, Try.ntmps48
    go_wp2_with fail
    refine (hmay.out _ ((h.alloc _).alloc _)).mono ?_
    rintro e w1 ⟨rfl, hB1⟩
    have hR := hR0.call hB1
    obtain ⟨⟨r0, r1, r2⟩, ⟨r3, r4, r5⟩⟩ := hR.cells3
    go_wp2_with fail
    rw [HD.out]
    obtain ⟨⟨z0, z1, z2⟩, _⟩ := (hR.store3 (.bool false) (.slice none 0 0) (.int .i64 0)).cells3
    exact bodyPost_ret (v := .tuple #[.agg #[.bool false, .slice none 0 0, .int .i64 0], .int .i64 1]) (by generalize World.setCell (World.setCell (World.setCell _ _ _) _ _) _ _ = W3 at z0 z1 z2 ⊢; simp [results, Try.results48, go_sem, z0, z1, z2]) rfl
      ⟨none, 0, 0, rfl, IL.nil _, below_set3 hR.later (Nat.le_succ _) _ _ _, none_new _⟩
  · rw [hmd] at hmay
    obtain ⟨hml, hs0, hs1⟩ := mayDc_iff.1 hmd
    simp only at hml hs0 hs1
    obtain ⟨X, sx, ex, esx, bx1, bx2, mx, lx, _⟩ := trimDc_parts (d := ⟨b, l, s⟩) hml hs0 hs1
    have htr := Lib.hid (fun W hW => dtrim_any (A := A) (n := n) (c := c) (l := l) b s W hW hl (by omega) hs0 (by omega))
    rw [ex] at htr
    have HD : Hid (D = if k < (sx : Int) ∨ 1000 < k then (Dc.zero, 3) else (⟨X.neg, trimL (zerosB X.l (k - (sx : Int)).toNat), k⟩, 0)) := by rw [Hid, hAL.out, hmd, if_pos rfl, ex, esx]
    clear hmd ex hAL
    obtain ⟨xb, xl, xs⟩ := X
    simp only at esx mx lx HD
    subst esx
    have hxl : xl.length ≤ 10000 := by omega
    by_cases hk0 : k < (sx : Int)
    · have HD2 : Hid (D = (Dc.zero, 3)) := by rw [Hid, HD.out, if_pos (.inl hk0)]
      go_enter Try.func48, Try.ntmps48
      go_wp2_with fail
      refine (hmay.out _ ((h.alloc _).alloc _)).mono ?_
      rintro e w1 ⟨rfl, hB1⟩
      have hR1 := hR0.call hB1
      have hX1 := hX0.call hB1
      obtain ⟨⟨q0, q1, q2⟩, _⟩ := hX1.cells3
      go_wp2_with fail
      refine (htr.out _ (h.later hX1.later)).mono ?_
      rintro e w2 ⟨A2, n2, c2, rfl, hI2, hB2, hN2⟩
      have hR := (hR1.call hB2).alloc (.cells #[.bool xb, .slice A2 n2 c2, .int .i64 (sx : Int)] 27)
      obtain ⟨⟨r0, r1, r2⟩, ⟨r3, r4, r5⟩⟩ := hR.cells3
      go_wp2_with fail
      rw [HD2.out]
      obtain ⟨⟨z0, z1, z2⟩, _⟩ := (hR.store3 (.bool false) (.slice none 0 0) (.int .i64 0)).cells3
      exact bodyPost_ret (v := .tuple #[.agg #[.bool false, .slice none 0 0, .int .i64 0], .int .i64 3]) (by generalize World.setCell (World.setCell (World.setCell _ _ _) _ _) _ _ = W3 at z0 z1 z2 ⊢; simp [results, Try.results48, go_sem, z0, z1, z2]) rfl
        ⟨none, 0, 0, rfl, IL.nil _, below_set3 hR.later (Nat.le_succ _) _ _ _, none_new _⟩
    by_cases hk1 : 1000 < k
    · have HD2 : Hid (D = (Dc.zero, 3)) := by rw [Hid, HD.out, if_pos (.inr hk1)]
      go_enter Try.func48, Try.ntmps48
      go_wp2_with fail
      refine (hmay.out _ ((h.alloc _).alloc _)).mono ?_
      rintro e w1 ⟨rfl, hB1⟩
      have hR1 := hR0.call hB1
      have hX1 := hX0.call hB1
      obtain ⟨⟨q0, q1, q2⟩, _⟩ := hX1.cells3
      go_wp2_with fail
      refine (htr.out _ (h.later hX1.later)).mono ?_
      rintro e w2 ⟨A2, n2, c2, rfl, hI2, hB2, hN2⟩
      have hR := (hR1.call hB2).alloc (.cells #[.bool xb, .slice A2 n2 c2, .int .i64 (sx : Int)] 27)
      obtain ⟨⟨r0, r1, r2⟩, ⟨r3, r4, r5⟩⟩ := hR.cells3
      go_wp2_with fail
      rw [HD2.out]
      obtain ⟨⟨z0, z1, z2⟩, _⟩ := (hR.store3 (.bool false) (.slice none 0 0) (.int .i64 0)).cells3
      exact bodyPost_ret (v := .tuple #[.agg #[.bool false, .slice none 0 0, .int .i64 0], .int .i64 3]) (by generalize World.setCell (World.setCell (World.setCell _ _ _) _ _) _ _ = W3 at z0 z1 z2 ⊢; simp [results, Try.results48, go_sem, z0, z1, z2]) rfl
        ⟨none, 0, 0, rfl, IL.nil _, below_set3 hR.later (Nat.le_succ _) _ _ _, none_new _⟩
    have HD2 : Hid (D = (⟨xb, trimL (zerosB xl (k - (sx : Int)).toNat), k⟩, 0)) := by rw [Hid, HD.out, if_neg (by omega)]
    obtain ⟨k', rfl⟩ := Int.eq_ofNat_of_zero_le (show 0 ≤ k by omega)
    have e1 : ((k' : Int) - (sx : Int)).toNat = k' - sx := by omega
    rw [e1] at HD2
    have hsk : sx ≤ k' := by omega
    have hk2 : k' ≤ 1000 := by omega
    have hsh := Lib.hid (fun A n c W (hW : IL W A n c xl) (hn : n ≤ 1000000) => show Calls Try.prog 59 #[.slice A n c, .int .i64 ((k' : Int) - (sx : Int))] W (RLE W (zerosB xl (k' - sx)) 0) by
      have := shift_any A n c xl ((k' : Int) - (sx : Int)) W hW (I64_of_may mx) hn (by omega)
      rw [shiftR_zeros mx k' sx hsk hk2] at this
      exact this)
    have iz : I64 (zerosB xl (k' - sx)) := I64_of_may (mayL_zerosB mx _)
    have hzl : (zerosB xl (k' - sx)).length ≤ 100000 := by rw [zerosB_len]; omega
    have hdt := Lib.hid (fun A n c W (hW : IL W A n c (zerosB xl (k' - sx))) (hn : n ≤ 100000000) => trim_any A n c (zerosB xl (k' - sx)) W hW iz hn)
    generalize zerosB xl (k' - sx) = y at *
    clear e1 HD
    go_enter Try.func48, Try.ntmps48
    go_wp2_with fail
    refine (hmay.out _ ((h.alloc _).alloc _)).mono ?_
    rintro e w1 ⟨rfl, hB1⟩
    have hR1 := hR0.call hB1
    have hX1 := hX0.call hB1
    obtain ⟨⟨q0, q1, q2⟩, _⟩ := hX1.cells3
    go_wp2_with fail
    refine (htr.out _ (h.later hX1.later)).mono ?_
    rintro e w2 ⟨A2, n2, c2, rfl, hI2, hB2, hN2⟩
    have hR := (hR1.call hB2).alloc (.cells #[.bool xb, .slice A2 n2 c2, .int .i64 (sx : Int)] 27)
    obtain ⟨⟨r0, r1, r2⟩, ⟨r3, r4, r5⟩⟩ := hR.cells3
    have hT := Blk.made w w2 27 #[.bool xb, .slice A2 n2 c2, .int .i64 (sx : Int)] (hR1.call hB2).later _ rfl
    have hn2 : n2 ≤ 10000 := by rw [← hI2.len]; exact hxl
    go_wp2_with fail
    refine (hsh.out _ _ _ _ (hI2.alloc _) (by omega)).mono ?_
    rintro e w3 ⟨A3, n3, c3, rfl, hO3, hB3⟩
    have hn3 : n3 ≤ 100000 := by rw [← hO3.len]; exact hzl
    have hR3 := hR.call hB3
    have hT3 := hT.call hB3
    obtain ⟨⟨t0, t1, t2⟩, _⟩ := hT3.cells3
    go_upto_region 7 with fail
    have hg2 : w.heap.size + 1 < w2.heap.size := (hR1.call hB2).lt
    have HR3 := Lib.hid hR3
    have HT3 := Lib.hid hT3
    clear hR3 hT3
    go_region_held3 (fun W => W.cell? ⟨w2.heap.size, 0, none⟩ = some (.bool xb) ∧ Blk w w2.heap.size 27 #[.bool xb, .slice A2 n2 c2, .int .i64 (sx : Int)] W)
      ((refine blk_s3 ?_; repeat (first | exact HT3.out | exact And.right (by assumption) | refine Blk.drew ?_ | refine Blk.call ?_ hB4 | refine Blk.far ?_ (Nat.ne_of_gt hg2) (Nat.le_succ _) _)))
      ((go_at_call 75; refine (hdt.out _ _ _ _ hO3.il.drew (by omega)).mono ?_; rintro e w4 ⟨A4, n4, c4, rfl, hO4, hB4⟩; obtain ⟨⟨y0, y1, y2⟩, ⟨y3, y4, y5⟩⟩ := (HR3.out.drew.call hB4).cells3))
    all_goals
      go_wp2_with fail
      have hnew : 0 < n4 → ∀ a, A4 = some a → w.heap.size + 1 < a.block := fun hz a ha => by
        obtain ⟨a', ha', hb'⟩ := hO4.new hz
        subst ha
        obtain rfl := Option.some.inj ha'
        have := HR3.out.lt
        simp at hb'
        omega
      rw [HD2.out]
      obtain ⟨⟨z0, z1, z2⟩, _⟩ := ((HR3.out.drew.call hB4).store3 (.bool xb) (.slice A4 n4 c4) (.int .i64 (k' : Int))).cells3
      exact bodyPost_ret (v := .tuple #[.agg #[.bool xb, .slice A4 n4 c4, .int .i64 (k' : Int)], .int .i64 0]) (by generalize World.setCell (World.setCell (World.setCell _ _ _) _ _) _ _ = W3 at z0 z1 z2 ⊢; simp [results, Try.results48, go_sem, z0, z1, z2]) rfl
        ⟨A4, n4, c4, rfl, hO4.il.set3 (fun hz a ha => by have := hnew hz a ha; omega) _ _ _, below_set3 (HR3.out.drew.call hB4).later (Nat.le_succ _) _ _ _, fun hz a ha => by have := hnew hz a ha; omega⟩

end Go.Proofs.Ytnndiikogaoeiaa
