/- The walks of the program's taking away, and of multiples, of decimals; signs turned. No condition. -/
import Derived.Test.YtnndiikogaoeiaaDe9
namespace Go.Proofs.Ytnndiikogaoeiaa
open Go.RowKit

set_option maxHeartbeats 2000000 in
theorem csub_any {A : Option Addr} {n c : Nat} {l : List Int} {A2 : Option Addr} {n2 c2 : Nat} {l2 : List Int} (b b2 : Bool) (s s2 : Int) (w : World) (h : IL w A n c l) (h2 : IL w A2 n2 c2 l2) (hl : I64 l) (hl2 : I64 l2)
    (hn : n ≤ 10000) (hn2 : n2 ≤ 10000) (hs : -9223372036854775808 ≤ s ∧ s ≤ 9223372036854775807) (hs2 : -9223372036854775808 ≤ s2 ∧ s2 ≤ 9223372036854775807) :
    Calls Try.prog 34 #[.agg #[.bool b, .slice A n c, .int .i64 s], .agg #[.bool b2, .slice A2 n2 c2, .int .i64 s2]] w (RCE w (addDc ⟨b, l, s⟩ (minusDc ⟨b2, l2, s2⟩)).1 (addDc ⟨b, l, s⟩ (minusDc ⟨b2, l2, s2⟩)).2) := by
  have ha := Lib.hid (fun W hW hW2 => cadd_any (A := A) (n := n) (c := c) (l := l) (A2 := A2) (n2 := n2) (c2 := c2) (l2 := l2) b (!b2) s s2 W hW hW2 hl hl2 hn hn2 hs hs2)
  have e : minusDc ⟨b2, l2, s2⟩ = ⟨!b2, l2, s2⟩ := rfl
  rw [e]
  clear e
  obtain ⟨D, hD⟩ : ∃ D, addDc ⟨b, l, s⟩ ⟨!b2, l2, s2⟩ = D := ⟨_, rfl⟩
  rw [hD] at ha ⊢
  clear hD
  obtain ⟨⟨db, dl, ds⟩, ec⟩ := D
  have hR0 := Blk.made w ((w.alloc (.cells #[.bool b, .slice A n c, .int .i64 s] 27)).alloc (.cells #[.bool (!b2), .slice A2 n2 c2, .int .i64 s2] 27)) 27 #[.bool false, .slice none 0 0, .int .i64 0] (((Later.refl w).alloc _).alloc _) (w.heap.size + 2) (by simp)
  go_enter Try.func34, Try.ntmps34
  go_wp2_with fail
  refine (ha.out _ (((h.alloc _).alloc _).alloc _) (((h2.alloc _).alloc _).alloc _)).mono ?_
  rintro e w1 ⟨A3, n3, c3, rfl, hI, hB, hN⟩
  have hR := hR0.call hB
  have hlt := hR0.lt
  obtain ⟨⟨r0, r1, r2⟩, ⟨r3, r4, r5⟩⟩ := hR.cells3
  go_wp2_with fail
  obtain ⟨⟨z0, z1, z2⟩, _⟩ := (hR.store3 (.bool db) (.slice A3 n3 c3) (.int .i64 ds)).cells3
  exact bodyPost_ret (v := .tuple #[.agg #[.bool db, .slice A3 n3 c3, .int .i64 ds], .int .i64 ec]) (by generalize World.setCell (World.setCell (World.setCell _ _ _) _ _) _ _ = W3 at z0 z1 z2 ⊢; simp [results, Try.results34, go_sem, z0, z1, z2]) rfl
    ⟨A3, n3, c3, rfl, hI.set3 (fun hz a ha => by have := hN hz a ha; simp at this; omega) _ _ _, below_set3 hR.later (by omega) _ _ _, fun hz a ha => by have := hN hz a ha; simp at this; omega⟩

theorem timesR_ok {l : List Int} (h : mayL l = true) {k : Int} (h0 : 0 ≤ k) (h1 : k ≤ 1000) : timesR l k = (ofN (k * val l).toNat, 0) := by
  unfold timesR
  rw [h, if_pos rfl, if_neg (by omega)]
theorem ofN_times_len {l : List Int} {M : Nat} (h : mayL l = true) (h1 : l.length ≤ M) {k : Int} (h0 : 0 ≤ k) (h2 : k ≤ 1000) : (ofN (k * val l).toNat).length ≤ M + 4 := by
  refine ofN_len ?_
  have v1 := (val_bd h).2
  have p1 := pow_le h1
  have v3 := (val_bd h).1
  have hm : k * val l ≤ 1000 * val l := Int.mul_le_mul_of_nonneg_right h2 v3
  have hp : 0 ≤ k * val l := Int.mul_nonneg h0 v3
  have e2 : (10 : Int) ^ (M + 4) = 10 ^ M * 10000 := by rw [Int.pow_add]; rfl
  have e : ((k * val l).toNat : Int) < ((10 ^ (M + 4) : Nat) : Int) := by push_cast; omega
  exact_mod_cast e

set_option maxHeartbeats 4000000 in
theorem ctimes_any {A : Option Addr} {n c : Nat} {l : List Int} (b : Bool) (s k : Int) (w : World) (h : IL w A n c l) (hl : I64 l) (hn : n ≤ 10000) (hs : -9223372036854775808 ≤ s ∧ s ≤ 9223372036854775807) (hk : -9223372036854775808 ≤ k ∧ k ≤ 9223372036854775807) :
    Calls Try.prog 47 #[.agg #[.bool b, .slice A n c, .int .i64 s], .int .i64 k] w (RCE w (timesDc ⟨b, l, s⟩ k).1 (timesDc ⟨b, l, s⟩ k).2) := by
  have hmay := Lib.hid (fun W hW => cmay_any (A := A) (n := n) (c := c) (l := l) b s W hW hl hs)
  have hTD : Hid (timesDc ⟨b, l, s⟩ k = if mayDc ⟨b, l, s⟩ then (if k < -1000 ∨ 1000 < k then (Dc.zero, 3) else (canon s.toNat (k * Dc.z ⟨b, l, s⟩), 0)) else (Dc.zero, 1)) := rfl
  have hX0 := (Blk.made w w 27 #[.bool b, .slice A n c, .int .i64 s] (Later.refl w) _ rfl).alloc (.cells #[.bool false, .slice none 0 0, .int .i64 0] 27)
  have hR0 := Blk.made w (w.alloc (.cells #[.bool b, .slice A n c, .int .i64 s] 27)) 27 #[.bool false, .slice none 0 0, .int .i64 0] ((Later.refl w).alloc _) (w.heap.size + 1) (by simp)
  have el := h.len
  generalize timesDc ⟨b, l, s⟩ k = D at *
  cases hmd : mayDc ⟨b, l, s⟩
  · rw [hmd] at hmay
    have HD : Hid (D = (Dc.zero, 1)) := by rw [Hid, hTD.out, hmd]; rfl
    clear hmd
    go_enter Try.func47, Try.ntmps47
    go_wp2_with fail
    refine (hmay.out _ ((h.alloc _).alloc _)).mono ?_
    rintro e w1 ⟨rfl, hB1⟩
    have hR := hR0.call hB1
    obtain ⟨⟨r0, r1, r2⟩, ⟨r3, r4, r5⟩⟩ := hR.cells3
    go_wp2_with fail
    rw [HD.out]
    obtain ⟨⟨z0, z1, z2⟩, _⟩ := (hR.store3 (.bool false) (.slice none 0 0) (.int .i64 0)).cells3
    exact bodyPost_ret (v := .tuple #[.agg #[.bool false, .slice none 0 0, .int .i64 0], .int .i64 1]) (by generalize World.setCell (World.setCell (World.setCell _ _ _) _ _) _ _ = W3 at z0 z1 z2 ⊢; simp [results, Try.results47, go_sem, z0, z1, z2]) rfl
      ⟨none, 0, 0, rfl, IL.nil _, below_set3 hR.later (Nat.le_succ _) _ _ _, none_new _⟩
  · rw [hmd] at hmay
    obtain ⟨hml, hs0, hs1⟩ := mayDc_iff.1 hmd
    simp only at hml hs0 hs1
    have hbad : ¬ (k < -1000 ∨ 1000 < k) ∨ Hid (D = (Dc.zero, 3)) := by
      rcases Classical.em (k < -1000 ∨ 1000 < k) with q | q
      · right; rw [Hid, hTD.out, hmd, if_pos rfl, if_pos q]
      · exact .inl q
    by_cases hk0 : k < -1000 ∨ 1000 < k
    · have HD : Hid (D = (Dc.zero, 3)) := hbad.resolve_left (fun q => q hk0)
      clear hbad hmd
      rcases hk0 with hk0 | hk0
      all_goals
        go_enter Try.func47, Try.ntmps47
        go_wp2_with fail
        refine (hmay.out _ ((h.alloc _).alloc _)).mono ?_
        rintro e w1 ⟨rfl, hB1⟩
        have hR := hR0.call hB1
        obtain ⟨⟨r0, r1, r2⟩, ⟨r3, r4, r5⟩⟩ := hR.cells3
        go_wp2_with fail
        rw [HD.out]
        obtain ⟨⟨z0, z1, z2⟩, _⟩ := (hR.store3 (.bool false) (.slice none 0 0) (.int .i64 0)).cells3
        exact bodyPost_ret (v := .tuple #[.agg #[.bool false, .slice none 0 0, .int .i64 0], .int .i64 3]) (by generalize World.setCell (World.setCell (World.setCell _ _ _) _ _) _ _ = W3 at z0 z1 z2 ⊢; simp [results, Try.results47, go_sem, z0, z1, z2]) rfl
          ⟨none, 0, 0, rfl, IL.nil _, below_set3 hR.later (Nat.le_succ _) _ _ _, none_new _⟩
    · obtain ⟨s', rfl⟩ := Int.eq_ofNat_of_zero_le hs0
      have HD0 : D = (canon s' (k * Dc.z ⟨b, l, s'⟩), 0) := by rw [hTD.out, hmd, if_pos rfl, if_neg hk0]; rfl
      have heq := times_eq (d := ⟨b, l, (s' : Int)⟩) hml k s' rfl
      simp only at heq
      obtain ⟨a, ha0, ha1, ha2⟩ : ∃ a : Int, (if k < -k then -k else k) = a ∧ 0 ≤ a ∧ a ≤ 1000 := ⟨_, rfl, by split <;> omega, by split <;> omega⟩
      rw [ha0] at heq
      have hx2 : (if -k < k then k else -k) = a := by rw [← ha0]; split <;> split <;> omega
      have hx3 : (if k ≤ -k then -k else k) = a := by rw [← ha0]; split <;> split <;> omega
      have hti := Lib.hid (fun A n c W (hW : IL W A n c l) (hn : n ≤ 50000) => show Calls Try.prog 77 #[.slice A n c, .int .i64 a] W (RLE W (ofN (a * val l).toNat) 0) by
        have := times_any A n c l a W hW hl hn (by omega)
        rw [timesR_ok hml ha1 ha2] at this
        exact this)
      have hvl := ofN_times_len (M := 10000) hml (by omega) ha1 ha2
      have htr := Lib.hid (fun A n c W hW hn => dtrim_any (A := A) (n := n) (c := c) (l := ofN (a * val l).toNat) (b != decide (k < 0)) (s' : Int) W hW (I64_of_may (mayL_ofN _)) hn (by omega) (by omega))
      rw [heq] at htr
      generalize canon s' (k * Dc.z ⟨b, l, (s' : Int)⟩) = R at *
      generalize ofN (a * val l).toNat = v at *
      have HD := Lib.hid HD0
      clear HD0 heq hbad hmd hTD
      go_enter Try.func47, Try.ntmps47
      go_wp2_with fail
      refine (hmay.out _ ((h.alloc _).alloc _)).mono ?_
      rintro e w1 ⟨rfl, hB1⟩
      have hX1 := hX0.call hB1
      have hR1 := hR0.call hB1
      obtain ⟨⟨q0, q1, q2⟩, _⟩ := hX1.cells3
      go_wp2_with fail
      refine (hti.out _ _ _ _ (h.later hX1.later) (by omega)).mono ?_
      rintro e w2 ⟨A2, n2, c2, rfl, hO2, hB2⟩
      have hn2 : n2 ≤ 100000 := by rw [← hO2.len]; omega
      have hX2 := hX1.call hB2
      have hR2 := hR1.call hB2
      have hlt := hR2.lt
      obtain ⟨⟨q0', q1', q2'⟩, _⟩ := hX2.cells3
      clear ha0 hx2 hx3
      go_wp2_with fail
      refine (htr.out _ _ _ _ hO2.il (by omega)).mono ?_
      rintro e w3 ⟨A3, n3, c3, rfl, hI3, hB3, hN3⟩
      have hR3 := hR2.call hB3
      obtain ⟨⟨r0, r1, r2⟩, ⟨r3, r4, r5⟩⟩ := hR3.cells3
      go_wp2_with fail
      rw [HD.out]
      obtain ⟨⟨z0, z1, z2⟩, _⟩ := (hR3.store3 (.bool R.neg) (.slice A3 n3 c3) (.int .i64 R.s)).cells3
      exact bodyPost_ret (v := .tuple #[.agg #[.bool R.neg, .slice A3 n3 c3, .int .i64 R.s], .int .i64 0]) (by generalize World.setCell (World.setCell (World.setCell _ _ _) _ _) _ _ = W3 at z0 z1 z2 ⊢; simp [results, Try.results47, go_sem, z0, z1, z2]) rfl
        ⟨A3, n3, c3, rfl, hI3.set3 (fun hz a ha => by have := hN3 hz a ha; omega) _ _ _, below_set3 hR3.later (Nat.le_succ _) _ _ _, fun hz a ha => by have := hN3 hz a ha; omega⟩

end Go.Proofs.Ytnndiikogaoeiaa
