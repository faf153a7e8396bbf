/- The walk of the document's multiples of decimals. No condition. -/
import Derived.Test.YtnndiikogaoeiaaDe10
import Derived.Test.YtnndiikogaoeiaaDe12
namespace Go.Proofs.Ytnndiikogaoeiaa
open Go.RowKit

theorem blk_c3 {w0 W : World} {g : Nat} {t : TypeId} {a b c : Value} (h : Blk w0 g t #[a, b, c] W) : (W.cell? ⟨g, 0, none⟩ = some a ∧ W.cell? ⟨g, 1, none⟩ = some b ∧ W.cell? ⟨g, 2, none⟩ = some c) ∧ Blk w0 g t #[a, b, c] W := ⟨h.cells3.1, h⟩

set_option maxHeartbeats 4000000 in
theorem rctimes_any {A : Option Addr} {n c : Nat} {l : List Int} (b : Bool) (s k : Int) (w : World) (h : IL w A n c l) (hn : n ≤ 10000) (hs : -9223372036854775808 ≤ s ∧ s ≤ 9223372036854775807) (hk : -9223372036854775808 ≤ k ∧ k ≤ 9223372036854775807) :
    Calls Try.prog 30 #[.agg #[.bool b, .slice A n c, .int .i64 s], .int .i64 k] w (RCE w (timesDc ⟨b, l, s⟩ k).1 (timesDc ⟨b, l, s⟩ k).2) := by
  have hmay := Lib.hid (fun W hW => rcmay_any (A := A) (n := n) (c := c) (l := l) b s W hW hs)
  have hTD : Hid (timesDc ⟨b, l, s⟩ k = if mayDc ⟨b, l, s⟩ then (if k < -1000 ∨ 1000 < k then (Dc.zero, 3) else (canon s.toNat (k * Dc.z ⟨b, l, s⟩), 0)) else (Dc.zero, 1)) := rfl
  have hX0 := (Blk.made w w 24 #[.bool b, .slice A n c, .int .i64 s] (Later.refl w) _ rfl).alloc (.cells #[.bool false, .slice none 0 0, .int .i64 0] 24)
  have hR0 := Blk.made w (w.alloc (.cells #[.bool b, .slice A n c, .int .i64 s] 24)) 24 #[.bool false, .slice none 0 0, .int .i64 0] ((Later.refl w).alloc _) (w.heap.size + 1) (by simp)
  have el := h.len
  generalize timesDc ⟨b, l, s⟩ k = D at *
  cases hmd : mayDc ⟨b, l, s⟩
  · rw [hmd] at hmay
    have HD : Hid (D = (Dc.zero, 1)) := by rw [Hid, hTD.out, hmd]; rfl
    clear hmd
    go_enter Try.func30, Try.ntmps30
    go_wp2_with fail
    refine (hmay.out _ ((h.alloc _).alloc _)).mono ?_
    rintro e w1 ⟨rfl, hB1⟩
    have hR := hR0.call hB1
    have hX := hX0.call hB1
    obtain ⟨⟨r0, r1, r2⟩, ⟨r3, r4, r5⟩⟩ := hR.cells3
    go_wp2_with fail
    rw [HD.out]
    obtain ⟨⟨z0, z1, z2⟩, _⟩ := (hR.store3 (.bool false) (.slice none 0 0) (.int .i64 0)).cells3
    exact bodyPost_ret (v := .tuple #[.agg #[.bool false, .slice none 0 0, .int .i64 0], .int .i64 1]) (by generalize World.setCell (World.setCell (World.setCell _ _ _) _ _) _ _ = W3 at z0 z1 z2 ⊢; simp [results, Try.results30, go_sem, z0, z1, z2]) rfl
      ⟨none, 0, 0, rfl, IL.nil _, below_set3 hR.later (Nat.le_succ _) _ _ _, none_new _⟩
  · rw [hmd] at hmay
    obtain ⟨hml, hs0, hs1⟩ := mayDc_iff.1 hmd
    simp only at hml hs0 hs1
    by_cases hk0 : k < -1000 ∨ 1000 < k
    · have HD : Hid (D = (Dc.zero, 3)) := by rw [Hid, hTD.out, hmd, if_pos rfl, if_pos hk0]
      clear hmd
      rcases hk0 with hk0 | hk0
      all_goals
        go_enter Try.func30, Try.ntmps30
        go_wp2_with fail
        refine (hmay.out _ ((h.alloc _).alloc _)).mono ?_
        rintro e w1 ⟨rfl, hB1⟩
        have hR := hR0.call hB1
        have hX := hX0.call hB1
        obtain ⟨⟨r0, r1, r2⟩, ⟨r3, r4, r5⟩⟩ := hR.cells3
        go_wp2_with fail
        rw [HD.out]
        obtain ⟨⟨z0, z1, z2⟩, _⟩ := (hR.store3 (.bool false) (.slice none 0 0) (.int .i64 0)).cells3
        exact bodyPost_ret (v := .tuple #[.agg #[.bool false, .slice none 0 0, .int .i64 0], .int .i64 3]) (by generalize World.setCell (World.setCell (World.setCell _ _ _) _ _) _ _ = W3 at z0 z1 z2 ⊢; simp [results, Try.results30, go_sem, z0, z1, z2]) rfl
          ⟨none, 0, 0, rfl, IL.nil _, below_set3 hR.later (Nat.le_succ _) _ _ _, none_new _⟩
    · obtain ⟨s', rfl⟩ := Int.eq_ofNat_of_zero_le hs0
      have HD0 : D = (canon s' (k * Dc.z ⟨b, l, s'⟩), 0) := by rw [hTD.out, hmd, if_pos rfl, if_neg hk0]; rfl
      have heq := times_eq (d := ⟨b, l, (s' : Int)⟩) hml k s' rfl
      simp only at heq
      have hk1 : ¬ k < -1000 := by omega
      have hk2 : ¬ 1000 < k := by omega
      clear hk0
      by_cases hneg : k < 0
      · rw [if_pos (show k < -k by omega), show decide (k < 0) = true from by simp; omega, Bool.bne_true] at heq
        have hti := Lib.hid (fun A n c W (hW : IL W A n c l) (hn : n ≤ 100000) => rtimes_any A n c l (-k) W hW hml hn (by omega) (by omega))
        have hvl := ofN_times_len (M := 10000) hml (by omega) (k := -k) (by omega) (by omega)
        have htr := Lib.hid (fun A n c W hW hn => rdtrim_any (A := A) (n := n) (c := c) (l := ofN ((-k) * val l).toNat) (!b) (s' : Int) W hW (I64_of_may (mayL_ofN _)) hn (by omega) (by omega))
        rw [heq] at htr
        generalize canon s' (k * Dc.z ⟨b, l, (s' : Int)⟩) = R at *
        generalize ofN ((-k) * val l).toNat = v at *
        have HD := Lib.hid HD0
        clear HD0 heq hmd hTD
        have hwr : IntKind.i64.wrap (-k) = -k := IntWalk.i64_in _ (by omega)
        go_enter Try.func30, Try.ntmps30
        go_wp2_with fail
        refine (hmay.out _ ((h.alloc _).alloc _)).mono ?_
        rintro e w1 ⟨rfl, hB1⟩
        have hR := hR0.call hB1
        have hX := hX0.call hB1
        obtain ⟨⟨q0, q1, q2⟩, _⟩ := hX.cells3
        go_upto_region 7 with fail
        have HX := Lib.hid hX
        have HR := Lib.hid hR
        go_region_held3 (fun W => (W.cell? ⟨w.heap.size, 0, none⟩ = some (.bool b) ∧ W.cell? ⟨w.heap.size, 1, none⟩ = some (.slice A n c) ∧ W.cell? ⟨w.heap.size, 2, none⟩ = some (.int .i64 (s' : Int))) ∧ Blk w w.heap.size 24 #[.bool b, .slice A n c, .int .i64 (s' : Int)] W)
          ((refine blk_c3 ?_; repeat (first | exact HX.out | exact And.right (by assumption) | refine Blk.drew ?_ | refine Blk.call ?_ hB9 | refine Blk.call ?_ hB8 | refine Blk.far ?_ (by simp <;> omega) (by simp <;> omega) _)))
          (first
            | (go_at_call 69; refine (hti.out _ _ _ _ (h.later HX.out.later.drew) (by omega)).mono ?_; rintro e w8 ⟨A8, n8, c8, rfl, hO8, hB8⟩; have hR8 := HR.out.drew.call hB8)
            | (go_at_call 36; refine (htr.out _ _ _ _ hO8.il (by have := hO8.len; omega)).mono ?_; rintro e w9 ⟨A9, n9, c9, rfl, hI9, hB9, hN9⟩; have hR9 := hR8.call hB9; have hlt := hR8.lt; obtain ⟨⟨y0, y1, y2⟩, ⟨y3, y4, y5⟩⟩ := hR9.cells3))
        all_goals
          go_wp2_with fail
          rw [HD.out]
          obtain ⟨⟨z0, z1, z2⟩, _⟩ := (hR9.store3 (.bool R.neg) (.slice A9 n9 c9) (.int .i64 R.s)).cells3
          exact bodyPost_ret (v := .tuple #[.agg #[.bool R.neg, .slice A9 n9 c9, .int .i64 R.s], .int .i64 0]) (by generalize World.setCell (World.setCell (World.setCell _ _ _) _ _) _ _ = W3 at z0 z1 z2 ⊢; simp [results, Try.results30, go_sem, z0, z1, z2]) rfl
            ⟨A9, n9, c9, rfl, hI9.set3 (fun hz a ha => by have := hN9 hz a ha; omega) _ _ _, below_set3 hR9.later (Nat.le_succ _) _ _ _, fun hz a ha => by have := hN9 hz a ha; omega⟩
      · rw [if_neg (show ¬ k < -k by omega), show decide (k < 0) = false from by simp; omega, Bool.bne_false] at heq
        have hti := Lib.hid (fun A n c W (hW : IL W A n c l) (hn : n ≤ 100000) => rtimes_any A n c l (k) W hW hml hn (by omega) (by omega))
        have hvl := ofN_times_len (M := 10000) hml (by omega) (k := k) (by omega) (by omega)
        have htr := Lib.hid (fun A n c W hW hn => rdtrim_any (A := A) (n := n) (c := c) (l := ofN ((k) * val l).toNat) (b) (s' : Int) W hW (I64_of_may (mayL_ofN _)) hn (by omega) (by omega))
        rw [heq] at htr
        generalize canon s' (k * Dc.z ⟨b, l, (s' : Int)⟩) = R at *
        generalize ofN ((k) * val l).toNat = v at *
        have HD := Lib.hid HD0
        clear HD0 heq hmd hTD
        go_enter Try.func30, Try.ntmps30
        go_wp2_with fail
        refine (hmay.out _ ((h.alloc _).alloc _)).mono ?_
        rintro e w1 ⟨rfl, hB1⟩
        have hR := hR0.call hB1
        have hX := hX0.call hB1
        obtain ⟨⟨q0, q1, q2⟩, _⟩ := hX.cells3
        go_upto_region 8 with fail
        have HX := Lib.hid hX
        have HR := Lib.hid hR
        go_region_held3 (fun W => (W.cell? ⟨w.heap.size, 0, none⟩ = some (.bool b) ∧ W.cell? ⟨w.heap.size, 1, none⟩ = some (.slice A n c) ∧ W.cell? ⟨w.heap.size, 2, none⟩ = some (.int .i64 (s' : Int))) ∧ Blk w w.heap.size 24 #[.bool b, .slice A n c, .int .i64 (s' : Int)] W)
          ((refine blk_c3 ?_; repeat (first | exact HX.out | exact And.right (by assumption) | refine Blk.drew ?_ | refine Blk.call ?_ hB9 | refine Blk.call ?_ hB8 | refine Blk.far ?_ (by simp <;> omega) (by simp <;> omega) _)))
          (first
            | (go_at_call 69; refine (hti.out _ _ _ _ (h.later HX.out.later.drew) (by omega)).mono ?_; rintro e w8 ⟨A8, n8, c8, rfl, hO8, hB8⟩; have hR8 := HR.out.drew.call hB8)
            | (go_at_call 36; refine (htr.out _ _ _ _ hO8.il (by have := hO8.len; omega)).mono ?_; rintro e w9 ⟨A9, n9, c9, rfl, hI9, hB9, hN9⟩; have hR9 := hR8.call hB9; have hlt := hR8.lt; obtain ⟨⟨y0, y1, y2⟩, ⟨y3, y4, y5⟩⟩ := hR9.cells3))
        all_goals
          go_wp2_with fail
          rw [HD.out]
          obtain ⟨⟨z0, z1, z2⟩, _⟩ := (hR9.store3 (.bool R.neg) (.slice A9 n9 c9) (.int .i64 R.s)).cells3
          exact bodyPost_ret (v := .tuple #[.agg #[.bool R.neg, .slice A9 n9 c9, .int .i64 R.s], .int .i64 0]) (by generalize World.setCell (World.setCell (World.setCell _ _ _) _ _) _ _ = W3 at z0 z1 z2 ⊢; simp [results, Try.results30, go_sem, z0, z1, z2]) rfl
            ⟨A9, n9, c9, rfl, hI9.set3 (fun hz a ha => by have := hN9 hz a ha; omega) _ _ _, below_set3 hR9.later (Nat.le_succ _) _ _ _, fun hz a ha => by have := hN9 hz a ha; omega⟩

end Go.Proofs.Ytnndiikogaoeiaa
