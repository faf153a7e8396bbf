/- The walk of RoundMirror. No condition. -/
import Derived.Test.YtnndiikogaoeiaaRo5
namespace Go.Proofs.Ytnndiikogaoeiaa
open Go.RowKit

set_option maxRecDepth 100000 in
set_option maxHeartbeats 8000000 in
theorem roundMirror_walk (w : World) {A0 : Option Addr} {n0 c0 : Nat} {l0 : List Int} {a0 : Int} {a1 : Int} {a2 : Int}
    (b0 : Bool) (w0 : IL w A0 n0 c0 l0) (i0 : I64 l0) (x0 : -9223372036854775808 ≤ a0 ∧ a0 ≤ 9223372036854775807) (w1 : -9223372036854775808 ≤ a1 ∧ a1 ≤ 9223372036854775807) (w2 : -9223372036854775808 ≤ a2 ∧ a2 ≤ 9223372036854775807) :
    Calls Try.prog 6 #[.agg #[.bool b0, .slice A0 n0 c0, .int .i64 a0], .int .i64 a1, .int .i64 a2] w fun e w' => e = .returned (.bool true) ∧ Below w.heap.size w w' := by
  obtain ⟨X, hX, _, hg0⟩ := cgood_ex (A := A0) (n := n0) (c := c0) b0 a0 12 i0 x0 (by omega)
  obtain ⟨k, hk, hka⟩ : ∃ k : Int, (0 ≤ k ∧ k < 10) ∧ Hid (∀ W, Calls Try.prog 20 #[.int .i64 a1, .int .i64 10] W fun e w' => e = .returned (.int .i64 k) ∧ W = w') :=
    ⟨_, around_bd a1 10 (by omega), fun W => around_any a1 10 W w1.1 w1.2 (by omega) (by omega)⟩
  obtain ⟨q, hq, hqa⟩ : ∃ k : Int, (0 ≤ k ∧ k < 7) ∧ Hid (∀ W, Calls Try.prog 20 #[.int .i64 a2, .int .i64 7] W fun e w' => e = .returned (.int .i64 k) ∧ W = w') :=
    ⟨_, around_bd a2 7 (by omega), fun W => around_any a2 7 W w2.1 w2.2 (by omega) (by omega)⟩
  obtain ⟨k, rfl⟩ : ∃ j : Nat, k = (j : Int) := ⟨k.toNat, by omega⟩
  have hk9 : k ≤ 9 := by omega
  have hq6 : 0 ≤ q ∧ q ≤ 6 := by omega
  have gM : GoodDc (minusDc X) 12 := hX
  have hgM := gM
  obtain ⟨M, hM⟩ : ∃ M, Hid (M = minusDc X) := ⟨_, rfl⟩
  obtain ⟨p, hp⟩ : ∃ p, Hid (p = otherM q) := ⟨_, rfl⟩
  have hp6 : 0 ≤ p ∧ p ≤ 6 := by rw [hp.out]; exact otherM_bd hq6
  rw [← hM.out] at gM
  have hM0 := gM
  obtain ⟨P, hP, hToP⟩ : ∃ D : Dc, Hid (D = scaled k (roundZ q X k)) ∧ Hid (∀ A n c W, IL W A n c X.l → Calls Try.prog 21 #[.agg #[.bool X.neg, .slice A n c, .int .i64 X.s], .int .i64 (k : Int), .int .i64 q] W (RCE W D 0)) :=
    ⟨scaled k (roundZ q X k), rfl, fun A n c W hW => to_good hX (by omega) hk9 hq6 W hW⟩
  obtain ⟨Q, hQ, hToQ⟩ : ∃ D : Dc, Hid (D = scaled k (roundZ p M k)) ∧ Hid (∀ A n c W, IL W A n c M.l → Calls Try.prog 21 #[.agg #[.bool M.neg, .slice A n c, .int .i64 M.s], .int .i64 (k : Int), .int .i64 p] W (RCE W D 0)) :=
    ⟨scaled k (roundZ p M k), rfl, fun A n c W hW => to_good gM (by omega) hk9 hp6 W hW⟩
  have hPQ : Hid (Q.l = P.l ∧ (P.l.length = 0 ∨ P.neg ≠ Q.neg) ∧ P.s = k ∧ Q.s = k) := by
    rw [Hid, hP.out, hQ.out, hp.out, hM.out, roundZ_mirror]
    exact ⟨(scaled_neg _ _).1, (scaled_neg _ _).2, rfl, rfl⟩
  have hminus := Lib.hid (fun (A : Option Addr) (n c : Nat) W => show Calls Try.prog 29 #[.agg #[.bool X.neg, .slice A n c, .int .i64 X.s]] W (RV W (.agg #[.bool M.neg, .slice A n c, .int .i64 M.s])) by rw [hM.out]; exact rminus_any X.neg X.s W)
  have hMl : Hid (M.l = X.l) := by rw [hM.out]; rfl
  clear hP hQ hM hgM gM hM0
  go_enter Try.func6, Try.ntmps6
  go_wp2_with fail
  refine (hg0.out _ (w0.alloc _)).mono ?_
  rintro e w2 ⟨A2, n2, c2, rfl, hI2, hB2, _⟩
  have hL2 := ((Later.refl w).alloc _).call hB2
  have hx2 := DB.made w w2 24 hL2 hI2 _ rfl
  go_wp2_with fail
  refine (hka.out _).mono ?_
  rintro e w2x ⟨rfl, rfl⟩
  go_wp2_with fail
  refine (hqa.out _).mono ?_
  rintro e w2x ⟨rfl, rfl⟩
  go_upto_region 5 with fail
  generalize World.alloc w2 _ = wb at *
  obtain ⟨p1, hp1⟩ : ∃ p1, Hid (p1 = if q = 2 then 3 else q) := ⟨_, rfl⟩
  go_upto_if 23 with fail
  go_cut [10] (fun s W => s = .int .i64 p1 ∧ W = wb)
  case first =>
    by_cases h2 : q = 2
    · have e : Hid (p1 = 3) := by rw [Hid, hp1.out, if_pos h2]
      subst h2
      go_wp2_with fail
      go_meet
      exact ⟨by rw [e.out], rfl⟩
    · have e : Hid (p1 = q) := by rw [Hid, hp1.out, if_neg h2]
      have hb : (q == 2) = false := by simpa using h2
      go_wp2_with fail
      go_meet
      exact ⟨by rw [e.out], rfl⟩
  case rest =>
   obtain ⟨rfl, hwc1⟩ := hcut
   obtain ⟨wf, hwf⟩ : ∃ wm, wm = wc := ⟨_, rfl⟩
   have hx2f : DB w w2.heap.size 24 A2 n2 c2 X wf := by rw [hwf, hwc1]; exact hx2
   rw [← hwf]
   clear hwf hwc1 hx2
   go_upto_if 25 with fail
   go_cut [10] (fun s W => s = .int .i64 p ∧ W = wf)
   case first =>
    have hpe : Hid (p = if q = 3 then 2 else p1) := by
      rw [Hid, hp.out, hp1.out]
      unfold otherM
      by_cases h2 : q = 2
      · subst h2; simp
      · simp [h2]
    by_cases h3 : q = 3
    · have e : Hid (p = 2) := by rw [Hid, hpe.out, if_pos h3]
      subst h3
      go_wp2_with fail
      go_meet
      exact ⟨by rw [e.out], rfl⟩
    · have e : Hid (p = p1) := by rw [Hid, hpe.out, if_neg h3]
      have hb : (q == 3) = false := by simpa using h3
      go_wp2_with fail
      go_meet
      exact ⟨by rw [e.out], rfl⟩
   case rest =>
    obtain ⟨rfl, hwc⟩ := hcut
    obtain ⟨w3, hw3⟩ : ∃ wm, wm = wc := ⟨_, rfl⟩
    have hx3 : DB w w2.heap.size 24 A2 n2 c2 X w3 := by rw [hw3, hwc]; exact hx2f
    rw [← hw3]
    clear hw3 hwc hx2f hp hp1
    have qx0 := hx3.c0
    have qx1 := hx3.c1
    have qx2 := hx3.c2
    go_wp2_with fail
    refine (of7_any _ _ _).mono ?_
    rintro e w4 ⟨rfl, hB4⟩
    clear qx0 qx1 qx2
    have hx4 := hx3.call hB4
    clear hx3
    go_wp2_with fail
    refine (hToP.out _ _ _ _ hx4.il).mono ?_
    rintro e w5 ⟨A5, n5, c5, rfl, hI5, hB5, _⟩
    have hx5 := hx4.call hB5
    clear hx4
    have hp5 := DB.made w w5 27 hx5.later hI5 _ rfl
    have qx0 := fun o => (hx5.alloc o).c0
    have qx1 := fun o => (hx5.alloc o).c1
    have qx2 := fun o => (hx5.alloc o).c2
    go_wp2_with fail
    refine (hminus.out _ _ _ _).mono ?_
    rintro e w6 ⟨rfl, hB6⟩
    clear qx0 qx1 qx2
    have hx6 := (hx5.alloc _).call hB6
    have hp6 := hp5.call hB6
    clear hx5 hp5
    go_wp2_with fail
    refine (of7_any _ _ _).mono ?_
    rintro e w7 ⟨rfl, hB7⟩
    have hx7 := hx6.call hB7
    have hp7 := hp6.call hB7
    clear hx6 hp6
    go_wp2_with fail
    refine (hToQ.out _ _ _ _ (by rw [hMl.out]; exact hx7.il)).mono ?_
    rintro e w8 ⟨A8, n8, c8, rfl, hI8, hB8, _⟩
    have hx8 := hx7.call hB8
    have hp8 := hp7.call hB8
    clear hx7 hp7
    have hr8 := DB.made w w8 27 hx8.later hI8 _ rfl
    go_upto_region 11 with fail
    have hx_w9 := hx8.alloc (.cells #[.bool Q.neg, .slice A8 n8 c8, .int .i64 Q.s] 27)
    clear hx8
    have hp_w9 := hp8.alloc (.cells #[.bool Q.neg, .slice A8 n8 c8, .int .i64 Q.s] 27)
    clear hp8
    generalize hgw : World.alloc w8 _ = w9 at *
    clear hgw
    have hLz := hp_w9.later
    have iP := Lib.hid hp_w9.il
    have iQ := Lib.hid hr8.il
    obtain ⟨e1, e2, e3, e4⟩ := hPQ.out
    have hln := hp_w9.len
    rw [hln] at e2
    have hsm := Lib.hid (fun W (hW : Later w9 W) => show Calls Try.prog 31 #[.slice A5 n5 c5, .slice A8 n8 c8] W (RV W (.bool true)) by
      have i1 := iP.out.later hW
      have i2 := iQ.out.later hW
      rw [e1] at i2
      have := (same_any A5 n5 c5 _ A8 n8 c8 _ W i1 i2).mono (fun _ _ h => h.rv)
      simp at this
      exact this)
    have p0 := fun W (hW : Later w9 W) => (hp_w9.call hW).c0
    have p1 := fun W (hW : Later w9 W) => (hp_w9.call hW).c1
    have p2 := fun W (hW : Later w9 W) => (hp_w9.call hW).c2
    have r0 := fun W (hW : Later w9 W) => (hr8.call hW).c0
    have r1 := fun W (hW : Later w9 W) => (hr8.call hW).c1
    have r2 := fun W (hW : Later w9 W) => (hr8.call hW).c2
    rw [e3] at p2
    rw [e4] at r2
    clear hp_w9 hr8 hx_w9 hI8 hI5 hln e1 e3 e4 iP iQ hToP hToQ hminus hMl
    generalize P.neg = pb at *
    generalize Q.neg = qb at *
    have P1 := p1 w9 (Later.refl _)
    have R1 := r1 w9 (Later.refl _)
    go_wp2_with fail
    refine (hsm.out _ (Later.refl _)).mono ?_
    rintro e wy ⟨rfl, hBy⟩
    have hLy : Later w9 wy := hBy
    clear P1 R1
    have P0 := p0 wy hLy
    have P1 := p1 wy hLy
    have P2 := p2 wy hLy
    have R0 := r0 wy hLy
    have R1 := r1 wy hLy
    have R2 := r2 wy hLy
    clear p0 p1 p2 r0 r1 r2 hsm
    rcases Nat.eq_zero_or_pos n5 with h0 | h0
    · subst h0
      go_wp2_with fail
      refine (lives7_any _).mono ?_
      rintro e wx ⟨rfl, hBx⟩
      go_wp2_with fail
      go_ret
      exact ⟨rfl, below_from (below_from hLz hBy) hBx⟩
    · have hne : ¬ (n5 : Int) = 0 := by omega
      have hne2 : ((n5 : Int) == 0) = false := by simpa using hne
      have hpq : pb ≠ qb := by rcases e2 with h | h; omega; exact h
      clear e2
      cases pb <;> cases qb
      · exact absurd rfl hpq
      · clear hpq
        go_wp2_with fail
        refine (lives7_any _).mono ?_
        rintro e wx ⟨rfl, hBx⟩
        go_wp2_with fail
        go_ret
        exact ⟨rfl, below_from (below_from hLz hBy) hBx⟩
      · clear hpq
        go_wp2_with fail
        refine (lives7_any _).mono ?_
        rintro e wx ⟨rfl, hBx⟩
        go_wp2_with fail
        go_ret
        exact ⟨rfl, below_from (below_from hLz hBy) hBx⟩
      · exact absurd rfl hpq

end Go.Proofs.Ytnndiikogaoeiaa
