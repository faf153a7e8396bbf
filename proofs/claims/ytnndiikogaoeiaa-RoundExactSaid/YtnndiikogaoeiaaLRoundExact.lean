/- The walk of RoundExact. No condition. -/
import Derived.Test.YtnndiikogaoeiaaRo5
namespace Go.Proofs.Ytnndiikogaoeiaa
open Go.RowKit

set_option maxRecDepth 100000 in
set_option maxHeartbeats 8000000 in
theorem roundExact_walk (w : World) {A0 : Option Addr} {n0 c0 : Nat} {l0 : List Int} {a0 : Int} {a1 : Int} {a2 : Int} {a3 : Int}
    (b0 : Bool) (w0 : IL w A0 n0 c0 l0) (i0 : I64 l0) (x0 : -9223372036854775808 ≤ a0 ∧ a0 ≤ 9223372036854775807) (w1 : -9223372036854775808 ≤ a1 ∧ a1 ≤ 9223372036854775807) (w2 : -9223372036854775808 ≤ a2 ∧ a2 ≤ 9223372036854775807) (w3 : -9223372036854775808 ≤ a3 ∧ a3 ≤ 9223372036854775807) :
    Calls Try.prog 8 #[.agg #[.bool b0, .slice A0 n0 c0, .int .i64 a0], .int .i64 a1, .int .i64 a2, .int .i64 a3] w fun e w' => e = .returned (.bool true) ∧ Below w.heap.size w w' := by
  obtain ⟨X, hX, _, hg0⟩ := cgood_ex (A := A0) (n := n0) (c := c0) b0 a0 12 i0 x0 (by omega)
  obtain ⟨k, hk, hka⟩ : ∃ k : Int, (0 ≤ k ∧ k < 10) ∧ Hid (∀ W, Calls Try.prog 20 #[.int .i64 a1, .int .i64 10] W fun e w' => e = .returned (.int .i64 k) ∧ W = w') :=
    ⟨_, around_bd a1 10 (by omega), fun W => around_any a1 10 W w1.1 w1.2 (by omega) (by omega)⟩
  obtain ⟨q, hq, hqa⟩ : ∃ k : Int, (0 ≤ k ∧ k < 7) ∧ Hid (∀ W, Calls Try.prog 20 #[.int .i64 a2, .int .i64 7] W fun e w' => e = .returned (.int .i64 k) ∧ W = w') :=
    ⟨_, around_bd a2 7 (by omega), fun W => around_any a2 7 W w2.1 w2.2 (by omega) (by omega)⟩
  obtain ⟨r, hr, hra⟩ : ∃ k : Int, (0 ≤ k ∧ k < 7) ∧ Hid (∀ W, Calls Try.prog 20 #[.int .i64 a3, .int .i64 7] W fun e w' => e = .returned (.int .i64 k) ∧ W = w') :=
    ⟨_, around_bd a3 7 (by omega), fun W => around_any a3 7 W w3.1 w3.2 (by omega) (by omega)⟩
  obtain ⟨k, rfl⟩ : ∃ j : Nat, k = (j : Int) := ⟨k.toNat, by omega⟩
  have hk9 : k ≤ 9 := by omega
  have hq6 : 0 ≤ q ∧ q ≤ 6 := by omega
  have hr6 : 0 ≤ r ∧ r ≤ 6 := by omega
  obtain ⟨P, hP, hToP⟩ : ∃ D : Dc, Hid (D = scaled k (roundZ q X k)) ∧ Hid (∀ A n c W, IL W A n c X.l → Calls Try.prog 21 #[.agg #[.bool X.neg, .slice A n c, .int .i64 X.s], .int .i64 (k : Int), .int .i64 q] W (RCE W D 0)) :=
    ⟨scaled k (roundZ q X k), rfl, fun A n c W hW => to_good hX (by omega) hk9 hq6 W hW⟩
  have gP : GoodDc P 22 := by rw [hP.out]; have := good_round hX q hk9; exact ⟨this.1, this.2.1, this.2.2.1, by have := this.2.2.2; omega⟩
  have hToR := Lib.hid (fun A n c W (hW : IL W A n c P.l) => show Calls Try.prog 21 #[.agg #[.bool P.neg, .slice A n c, .int .i64 P.s], .int .i64 (k : Int), .int .i64 r] W (RCE W P 0) by
    have := to_good gP (by omega) hk9 hr6 W hW
    rw [show scaled k (roundZ r P k) = P by rw [hP.out, roundZ_again r _ k (by omega)]] at this
    exact this)
  have hqv := Lib.hid (fun W => (hra.out W).mono (fun e w' (h : e = .returned (.int .i64 r) ∧ W = w') => (⟨h.1, by rw [← h.2]; exact Below.refl _ _⟩ : RV W (.int .i64 r) e w')))
  have hXt : 0 ≤ (trimDc X).s ∧ (trimDc X).s ≤ 9 := by have h1 := (trimDc_canonic hX.1 hX.2.1).lo; have h2 := trim_le hX.1 hX.2.1; have h3 := hX.2.2.1; omega
  have hPt : 0 ≤ (trimDc P).s ∧ (trimDc P).s ≤ k := by rw [hP.out]; exact scaled_trim k (by omega) _
  have hcs : (trimDc X).s ≤ k → cmpDc P X = 0 := fun h => by rw [hP.out]; exact round_cmp_same hX.dc q k h
  have hPs : Hid (P.s = (k : Int)) := by rw [hP.out]; rfl
  obtain ⟨Tx, hT⟩ : ∃ Tx, Hid (Tx = trimDc X) := ⟨_, rfl⟩
  simp only [← hT.out] at hXt hcs
  clear hP
  go_enter Try.func8, Try.ntmps8
  go_wp2_with fail
  refine (hg0.out _ (w0.alloc _)).mono ?_
  rintro e w2 ⟨A2, n2, c2, rfl, hI2, hB2, _⟩
  have hL2 := ((Later.refl w).alloc _).call hB2
  have hx2 := DB.made w w2 24 hL2 hI2 _ rfl
  go_wp2_with fail
  refine (hka.out _).mono ?_
  rintro e w2x ⟨rfl, rfl⟩
  have qx0 := hx2.c0
  have qx1 := hx2.c1
  have qx2 := hx2.c2
  go_wp2_with fail
  refine (of7_any _ _ _).mono ?_
  rintro e w3 ⟨rfl, hB3⟩
  clear qx0 qx1 qx2
  have hx3 := hx2.call hB3
  clear hx2
  go_wp2_with fail
  refine (hqa.out _).mono ?_
  rintro e w3x ⟨rfl, rfl⟩
  go_wp2_with fail
  refine (hToP.out _ _ _ _ hx3.il).mono ?_
  rintro e w4 ⟨A4, n4, c4, rfl, hI4, hB4, _⟩
  have hx4 := hx3.call hB4
  clear hx3
  have hp4 := DB.made w w4 27 hx4.later hI4 _ rfl
  go_upto_region 4 with fail
  have hx_wb := hx4.alloc (.cells #[.bool P.neg, .slice A4 n4 c4, .int .i64 P.s] 27)
  clear hx4
  generalize hgw : World.alloc w4 _ = wb at *
  clear hgw
  have hLb := hx_wb.later
  have HS : Hid (∀ W, Later wb W → ((W.cell? ⟨w4.heap.size, 0, none⟩ = some (.bool P.neg) ∧ W.cell? ⟨w4.heap.size, 1, none⟩ = some (.slice A4 n4 c4) ∧ W.cell? ⟨w4.heap.size, 2, none⟩ = some (.int .i64 P.s))) ∧ Later wb W) := fun W hW => ⟨(hp4.call hW).at_.1, hW⟩
  have hpi := Lib.hid (fun W (hW : Later wb W) => (hp4.call hW).il)
  clear hI2 hI4
  go_upto_region 4 with fail
  go_cut [13, 14] (fun sP sC W => ∃ (g : Nat) (A1 : Option Addr) (n1 c1 : Nat), sP = .pointer (some ⟨g, 0, none⟩) ∧ sC = .int .i64 (0 : Int) ∧ DB wb g 27 A1 n1 c1 P W)
  case first =>
    go_region_held3 (fun W => ((W.cell? ⟨w4.heap.size, 0, none⟩ = some (.bool P.neg) ∧ W.cell? ⟨w4.heap.size, 1, none⟩ = some (.slice A4 n4 c4) ∧ W.cell? ⟨w4.heap.size, 2, none⟩ = some (.int .i64 P.s))) ∧ Later wb W)
      ((refine HS.out _ ?_; repeat (first | exact And.right (by assumption) | exact Later.refl _ | refine Later.drew ?_ | refine Later.alloc ?_ _ | refine Later.setCell ?_ (by first | exact Nat.le_refl _ | exact hL1.size | exact hL2.size) _ | refine Later.call ?_ hB1 | refine Later.call ?_ hB2)))
      (first
        | (go_at_call 21; have _t := hB1; refine (hToR.out _ _ _ _ (hpi.out _ (And.right (by assumption)))).mono ?_; rintro e wc2 ⟨A1, n1, c1, rfl, hI1, hB2, hN1⟩; have hL2 : Later wb wc2 := Later.call (And.right (by assumption)) hB2; first | (have kb := kb.call hB2; have kl := kb.lt; obtain ⟨⟨z0, z1, z2⟩, ⟨z3, z4, z5⟩⟩ := kb.cells3) | (have hC : Below (wc1.alloc (.cells #[.bool false, .slice none 0 0, .int .i64 0] 27)).heap.size (wc1.alloc (.cells #[.bool false, .slice none 0 0, .int .i64 0] 27)) wc2 := (by with_reducible exact hB2); have kb := (Blk.made wb wc1 27 _ hL1 _ rfl).call hC; have kl := kb.lt; obtain ⟨⟨z0, z1, z2⟩, ⟨z3, z4, z5⟩⟩ := kb.cells3) | skip)
        | (go_at_call 20; refine (hqv.out _).mono ?_; rintro e wc1 ⟨rfl, hB1⟩; have hL1 : Later wb wc1 := Later.call (And.right (by assumption)) hB1; first | (have hC : Below ((wb.alloc (.cells #[.bool false, .slice none 0 0, .int .i64 0] 27)).drew).heap.size ((wb.alloc (.cells #[.bool false, .slice none 0 0, .int .i64 0] 27)).drew) wc1 := (by with_reducible exact hB1); have kb := (Blk.made wb wb 27 _ (Later.refl wb) _ rfl).drew.call hC; have kl := kb.lt; obtain ⟨⟨z0, z1, z2⟩, ⟨z3, z4, z5⟩⟩ := kb.cells3) | skip))
    all_goals
      go_wp2_with fail
      go_meet
      first
      | (have _k := kb; exact ⟨_, A1, n1, c1, rfl, rfl, DB.store kb hI1 (fun hz a ha => by have := hN1 hz a ha; (try simp at this); omega)⟩)
      | exact ⟨_, A1, n1, c1, rfl, rfl, DB.made wb wc2 _ hL2 hI1 _ rfl⟩
  case rest =>
    obtain ⟨g, A11, n11, c11, rfl, rfl, hv⟩ := hcut
    obtain ⟨w5, hw5⟩ : ∃ wm, wm = wc := ⟨_, rfl⟩
    rw [← hw5] at hv
    rw [← hw5]
    clear hw5
    have hL5 : Later wb w5 := hv.later
    have hx5 := hx_wb.call hL5
    have hp5 := hp4.call hL5
    clear hx_wb hp4 HS hpi
    have htr := Lib.hid (fun W (hW : Later w5 W) => show Calls Try.prog 36 #[.agg #[.bool X.neg, .slice A2 n2 c2, .int .i64 X.s]] W (RC W Tx) by rw [hT.out]; exact rdtrim_any X.neg X.s W (hx5.call hW).il (I64_of_may hX.1) (by have := hx5.len; have := hX.2.2.2; omega) hX.2.1 (by have := hX.2.2.1; omega))
    have q0 := hx5.c0
    have q1 := hx5.c1
    have q2 := hx5.c2
    have hfd : ∀ A n c W, (Instr.field 24 (.agg #[.bool Tx.neg, .slice A n c, .int .i64 Tx.s]) 2).run Try.prog W = .ok (.int .i64 Tx.s) W := fun _ _ _ _ => by kernel_rfl
    go_wp2_with fail
    refine (htr.out _ (Later.refl _)).mono ?_
    rintro e w6 ⟨A6, n6, c6, rfl, hI6, hB6, _⟩
    clear q0 q1 q2
    have dX := Lib.hid (hx5.call hB6).at_
    have dP := Lib.hid (hp5.call hB6).at_
    have dQ := Lib.hid (hv.call hB6).at_
    have hLz := below_from (below_from hLb hL5) hB6
    clear hx5 hp5 hv htr hI6
    have hsm := Lib.hid (fun s : Ext w6 => csame_at dP.out dQ.out s)
    have hex1 := Lib.hid (fun s : Ext w6 => show Calls Try.prog 38 #[.agg #[.bool P.neg, .slice A4 n4 c4, .int .i64 P.s], .int .i64 (k : Int)] s.world (RV s.world (.bool true)) by
      have := exact_at dP.out gP (by omega) (k : Int) (by omega) s
      rw [show (decide ((trimDc P).s ≤ (k : Int)) && decide ((k : Int) ≤ 1000)) = true by simp; omega] at this
      exact this)
    have hex2 := Lib.hid (fun s : Ext w6 => show Calls Try.prog 38 #[.agg #[.bool P.neg, .slice A4 n4 c4, .int .i64 P.s], .int .i64 (-1)] s.world (RV s.world (.bool false)) by
      have := exact_at dP.out gP (by omega) (-1) (by omega) s
      rw [show (decide ((trimDc P).s ≤ (-1 : Int)) && decide ((-1 : Int) ≤ 1000)) = false by simp; omega] at this
      exact this)
    have hex3 := Lib.hid (fun s : Ext w6 => show Calls Try.prog 38 #[.agg #[.bool P.neg, .slice A4 n4 c4, .int .i64 P.s], .int .i64 1001] s.world (RV s.world (.bool false)) by
      have := exact_at dP.out gP (by omega) 1001 (by omega) s
      rw [show (decide ((trimDc P).s ≤ (1001 : Int)) && decide ((1001 : Int) ≤ 1000)) = false by simp] at this
      exact this)
    have hex4 := Lib.hid (fun (b : Bool) (hb : Hid (b = decide (Tx.s ≤ (k : Int)))) (s : Ext w6) => show Calls Try.prog 38 #[.agg #[.bool X.neg, .slice A2 n2 c2, .int .i64 X.s], .int .i64 (k : Int)] s.world (RV s.world (.bool b)) by
      have := exact_at dX.out hX (by omega) (k : Int) (by omega) s
      have e : decide ((k : Int) ≤ 1000) = true := by simp; omega
      rw [← hT.out, e, Bool.and_true, ← hb.out] at this
      exact this)
    have hcm := Lib.hid (fun (h : Tx.s ≤ (k : Int)) (s : Ext w6) => show Calls Try.prog 27 #[.agg #[.bool P.neg, .slice A4 n4 c4, .int .i64 P.s], .agg #[.bool X.neg, .slice A2 n2 c2, .int .i64 X.s]] s.world (RV s.world (.int .i64 0)) by
      have := rccompare_at dP.out dX.out gP hX (by omega) (by omega) s
      rw [hcs h] at this
      exact this)
    by_cases hc : Tx.s ≤ (k : Int)
    · have hy := Lib.hid (hex4.out true (by rw [Hid]; simp [hc]))
      have hz := Lib.hid (hcm.out hc)
      clear hcs hcm hex4
      go_upto_region 6 with fail
      have KX0 := dX.out.k0
      have KX1 := dX.out.k1
      have KX2 := dX.out.k2
      have KP0 := dP.out.k0
      have KP1 := dP.out.k1
      have KP2 := dP.out.k2
      have KQ0 := dQ.out.k0
      have KQ1 := dQ.out.k1
      have KQ2 := dQ.out.k2
      have hKs : (P.s == (k : Int)) = true := by rw [hPs.out]; simp
      refine wp_region_ext (by kernel_rfl) (by kernel_rfl) ?_
      repeat (go_big_quiet_step (first
        | (go_at_call 25; exact quiet_ext _ (as7_any _ _ _))
        | (go_at_call 22; exact quiet_ext _ (of7_any _ _ _))
        | (go_at_call 24; exact quiet_ext _ (hsm.out _))
        | (go_at_call 38; with_reducible exact quiet_ext _ (hex1.out _))
        | (go_at_call 38; with_reducible exact quiet_ext _ (hex2.out _))
        | (go_at_call 38; with_reducible exact quiet_ext _ (hex3.out _))
        | (go_at_call 38; exact quiet_ext _ (hy.out _))
        | (go_at_call 27; exact quiet_ext _ (hz.out _))
        | (go_at_call 26; exact quiet_ext _ (lives7_any _))))
      refine wpQuiet_nil ?_
      rintro _ ⟨s9, rfl⟩
      go_wp2_with fail
      go_ret
      exact ⟨rfl, below_from hLz s9.h⟩
    · have hc2 : (k : Int) < Tx.s := by omega
      have hb2 : decide (Tx.s ≤ (k : Int)) = false := by simpa using hc2
      have hy := Lib.hid (hex4.out false (by rw [Hid]; simp; omega))
      clear hcs hcm hex4
      go_upto_region 6 with fail
      have KX0 := dX.out.k0
      have KX1 := dX.out.k1
      have KX2 := dX.out.k2
      have KP0 := dP.out.k0
      have KP1 := dP.out.k1
      have KP2 := dP.out.k2
      have KQ0 := dQ.out.k0
      have KQ1 := dQ.out.k1
      have KQ2 := dQ.out.k2
      have hKs : (P.s == (k : Int)) = true := by rw [hPs.out]; simp
      refine wp_region_ext (by kernel_rfl) (by kernel_rfl) ?_
      repeat (go_big_quiet_step (first
        | (go_at_call 25; exact quiet_ext _ (as7_any _ _ _))
        | (go_at_call 22; exact quiet_ext _ (of7_any _ _ _))
        | (go_at_call 24; exact quiet_ext _ (hsm.out _))
        | (go_at_call 38; with_reducible exact quiet_ext _ (hex1.out _))
        | (go_at_call 38; with_reducible exact quiet_ext _ (hex2.out _))
        | (go_at_call 38; with_reducible exact quiet_ext _ (hex3.out _))
        | (go_at_call 38; exact quiet_ext _ (hy.out _))
        | (go_at_call 26; exact quiet_ext _ (lives7_any _))))
      refine wpQuiet_nil ?_
      rintro _ ⟨s9, rfl⟩
      go_wp2_with fail
      go_ret
      exact ⟨rfl, below_from hLz s9.h⟩

end Go.Proofs.Ytnndiikogaoeiaa
