/- The walk of RoundFar. No condition. -/
import Derived.Test.YtnndiikogaoeiaaRo5
namespace Go.Proofs.Ytnndiikogaoeiaa
open Go.RowKit

set_option maxRecDepth 100000 in
set_option maxHeartbeats 8000000 in
theorem roundFar_walk (w : World) {A0 : Option Addr} {n0 c0 : Nat} {l0 : List Int} {a0 : Int} {a1 : Int} {a2 : Int}
    (b0 : Bool) (w0 : IL w A0 n0 c0 l0) (i0 : I64 l0) (x0 : -9223372036854775808 ≤ a0 ∧ a0 ≤ 9223372036854775807) (w1 : -9223372036854775808 ≤ a1 ∧ a1 ≤ 9223372036854775807) (w2 : -9223372036854775808 ≤ a2 ∧ a2 ≤ 9223372036854775807) :
    Calls Try.prog 5 #[.agg #[.bool b0, .slice A0 n0 c0, .int .i64 a0], .int .i64 a1, .int .i64 a2] w fun e w' => e = .returned (.bool true) ∧ Below w.heap.size w w' := by
  obtain ⟨X, hX, _, hg0⟩ := cgood_ex (A := A0) (n := n0) (c := c0) b0 a0 12 i0 x0 (by omega)
  obtain ⟨k, hk, hka⟩ : ∃ k : Int, (0 ≤ k ∧ k < 10) ∧ Hid (∀ W, Calls Try.prog 20 #[.int .i64 a1, .int .i64 10] W fun e w' => e = .returned (.int .i64 k) ∧ W = w') :=
    ⟨_, around_bd a1 10 (by omega), fun W => around_any a1 10 W w1.1 w1.2 (by omega) (by omega)⟩
  obtain ⟨q, hq, hqa⟩ : ∃ k : Int, (0 ≤ k ∧ k < 7) ∧ Hid (∀ W, Calls Try.prog 20 #[.int .i64 a2, .int .i64 7] W fun e w' => e = .returned (.int .i64 k) ∧ W = w') :=
    ⟨_, around_bd a2 7 (by omega), fun W => around_any a2 7 W w2.1 w2.2 (by omega) (by omega)⟩
  obtain ⟨k, rfl⟩ : ∃ j : Nat, k = (j : Int) := ⟨k.toNat, by omega⟩
  have hk9 : k ≤ 9 := by omega
  have hq6 : 0 ≤ q ∧ q ≤ 6 := by omega
  obtain ⟨P, hP, hToP⟩ : ∃ D : Dc, Hid (D = scaled k (roundZ q X k)) ∧ Hid (∀ A n c W, IL W A n c X.l → Calls Try.prog 21 #[.agg #[.bool X.neg, .slice A n c, .int .i64 X.s], .int .i64 (k : Int), .int .i64 q] W (RCE W D 0)) :=
    ⟨scaled k (roundZ q X k), rfl, fun A n c W hW => to_good hX (by omega) hk9 hq6 W hW⟩
  have gP : GoodDc P 22 := by rw [hP.out]; have := good_round hX q hk9; exact ⟨this.1, this.2.1, this.2.2.1, by have := this.2.2.2; omega⟩
  have hfar := round_far_cmp hX.dc q hq6 k (by omega)
  rw [← hP.out] at hfar
  have gM : GoodDc (minusDc X) 22 := ⟨hX.1, hX.2.1, hX.2.2.1, by have := hX.2.2.2; show X.l.length ≤ 22; omega⟩
  have gF := good_abs (good_add gP gM)
  have gT := good_times gF 2 (by omega) (by omega)
  have gO := good_one false hk9
  obtain ⟨F, ec, hFe⟩ : ∃ F ec, addDc P (minusDc X) = (F, ec) := ⟨_, _, rfl⟩
  have hadd := Lib.hid (fun A n c A' n' c' W (h1 : IL W A n c P.l) (h2 : IL W A' n' c' (minusDc X).l) => show Calls Try.prog 28 #[.agg #[.bool P.neg, .slice A n c, .int .i64 P.s], .agg #[.bool (minusDc X).neg, .slice A' n' c', .int .i64 (minusDc X).s]] W (RCE W F ec) by
    have := rcadd_any P.neg (minusDc X).neg P.s (minusDc X).s W h1 h2 (by have := h1.len; have := gP.2.2.2; omega) (by have := h2.len; have := gM.2.2.2; omega) (by have := gP.2.1; have := gP.2.2.1; omega) (by have := gM.2.1; have := gM.2.2.1; omega)
    have e : addDc ⟨P.neg, P.l, P.s⟩ ⟨(minusDc X).neg, (minusDc X).l, (minusDc X).s⟩ = (F, ec) := hFe
    rw [e] at this
    exact this)
  rw [hFe] at hfar gF gT
  obtain ⟨G, hG⟩ : ∃ G, Hid (G = absDc F) := ⟨_, rfl⟩
  obtain ⟨S, tc, hSe⟩ : ∃ S tc, timesDc G 2 = (S, tc) := ⟨_, _, rfl⟩
  simp only [← hG.out] at hfar gF gT
  rw [hSe] at hfar gT
  have htimes := Lib.hid (fun A n c W (h1 : IL W A n c G.l) => show Calls Try.prog 30 #[.agg #[.bool G.neg, .slice A n c, .int .i64 G.s], .int .i64 2] W (RCE W S tc) by
    have := rctimes_any G.neg G.s 2 W h1 (by have := h1.len; have := gF.2.2.2; omega) (by have := gF.2.1; have := gF.2.2.1; omega) (by omega)
    rw [show timesDc ⟨G.neg, G.l, G.s⟩ 2 = (S, tc) from hSe] at this
    exact this)
  have hfar1 := hfar.2
  have hminus := Lib.hid (fun (A : Option Addr) (n c : Nat) W => show Calls Try.prog 29 #[.agg #[.bool X.neg, .slice A n c, .int .i64 X.s]] W (RV W (.agg #[.bool (minusDc X).neg, .slice A n c, .int .i64 (minusDc X).s])) from rminus_any X.neg X.s W)
  clear hP hFe hSe hfar
  go_enter Try.func5, Try.ntmps5
  go_wp2_with fail
  refine (hg0.out _ (w0.alloc _)).mono ?_
  rintro e w2 ⟨A2, n2, c2, rfl, hI2, hB2, _⟩
  have hL2 := ((Later.refl w).alloc _).call hB2
  have hx2 := DB.made w w2 24 hL2 hI2 _ rfl
  go_wp2_with fail
  refine (hka.out _).mono ?_
  rintro e w2x ⟨rfl, rfl⟩
  go_wp2_with fail
  refine (hqa.out _).mono ?_
  rintro e w2x ⟨rfl, rfl⟩
  have qx0 := hx2.c0
  have qx1 := hx2.c1
  have qx2 := hx2.c2
  go_wp2_with fail
  refine (of7_any _ _ _).mono ?_
  rintro e w3 ⟨rfl, hB3⟩
  clear qx0 qx1 qx2
  have hx3 := hx2.call hB3
  clear hx2
  go_wp2_with fail
  refine (hToP.out _ _ _ _ hx3.il).mono ?_
  rintro e w4 ⟨A4, n4, c4, rfl, hI4, hB4, _⟩
  have hx4 := hx3.call hB4
  clear hx3
  have hp4 := DB.made w w4 27 hx4.later hI4 _ rfl
  go_upto_region 7 with fail
  have hx_wb := hx4.alloc (.cells #[.bool P.neg, .slice A4 n4 c4, .int .i64 P.s] 27)
  clear hx4
  generalize hgw : World.alloc w4 _ = wb at *
  clear hgw
  have hLb := hx_wb.later
  have HS : Hid (∀ W, Later wb W → ((W.cell? ⟨w2.heap.size, 0, none⟩ = some (.bool X.neg) ∧ W.cell? ⟨w2.heap.size, 1, none⟩ = some (.slice A2 n2 c2) ∧ W.cell? ⟨w2.heap.size, 2, none⟩ = some (.int .i64 X.s)) ∧ (W.cell? ⟨w4.heap.size, 0, none⟩ = some (.bool P.neg) ∧ W.cell? ⟨w4.heap.size, 1, none⟩ = some (.slice A4 n4 c4) ∧ W.cell? ⟨w4.heap.size, 2, none⟩ = some (.int .i64 P.s))) ∧ Later wb W) := fun W hW => ⟨⟨(hx_wb.call hW).at_.1, (hp4.call hW).at_.1⟩, hW⟩
  have hxi := Lib.hid (fun W (hW : Later wb W) => (hx_wb.call hW).il)
  have hpi := Lib.hid (fun W (hW : Later wb W) => (hp4.call hW).il)
  clear hx_wb hp4 hI2 hI4
  go_upto_region 7 with fail
  go_cut [12, 13] (fun sP sC W => ∃ (g : Nat) (A1 : Option Addr) (n1 c1 : Nat), sP = .pointer (some ⟨g, 0, none⟩) ∧ sC = .int .i64 ec ∧ DB wb g 24 A1 n1 c1 F W ∧ (0 < n1 → ∀ a, A1 = some a → wb.heap.size ≤ a.block ∧ a.block ≠ g))
  case first =>
    go_region_held3 (fun W => ((W.cell? ⟨w2.heap.size, 0, none⟩ = some (.bool X.neg) ∧ W.cell? ⟨w2.heap.size, 1, none⟩ = some (.slice A2 n2 c2) ∧ W.cell? ⟨w2.heap.size, 2, none⟩ = some (.int .i64 X.s)) ∧ (W.cell? ⟨w4.heap.size, 0, none⟩ = some (.bool P.neg) ∧ W.cell? ⟨w4.heap.size, 1, none⟩ = some (.slice A4 n4 c4) ∧ W.cell? ⟨w4.heap.size, 2, none⟩ = some (.int .i64 P.s))) ∧ Later wb W)
      ((refine HS.out _ ?_; repeat (first | exact And.right (by assumption) | exact Later.refl _ | refine Later.drew ?_ | refine Later.alloc ?_ _ | refine Later.setCell ?_ (by first | exact Nat.le_refl _ | exact hL1.size | exact hL2.size | exact hL3.size) _ | refine Later.call ?_ hB1 | refine Later.call ?_ hB2 | refine Later.call ?_ hB3)))
      (first
        | (go_at_call 28; have _t := hB2; refine (hadd.out _ _ _ _ _ _ _ (hpi.out _ (And.right (by assumption))) (hxi.out _ (And.right (by assumption)))).mono ?_; rintro e wc3 ⟨A1, n1, c1, rfl, hI1, hB3, hN1⟩; have hL3 : Later wb wc3 := Later.call (And.right (by assumption)) hB3; first | (have kb := kb.call hB3; have kl := kb.lt; obtain ⟨⟨z0, z1, z2⟩, ⟨z3, z4, z5⟩⟩ := kb.cells3) | (have hC : Below (wc2.alloc (.cells #[.bool false, .slice none 0 0, .int .i64 0] 24)).heap.size (wc2.alloc (.cells #[.bool false, .slice none 0 0, .int .i64 0] 24)) wc3 := (by with_reducible exact hB3); have kb := (Blk.made wb wc2 24 _ hL2 _ rfl).call hC; have kl := kb.lt; obtain ⟨⟨z0, z1, z2⟩, ⟨z3, z4, z5⟩⟩ := kb.cells3) | skip)
        | (go_at_call 29; have _t := hB1; refine (hminus.out _ _ _ _).mono ?_; rintro e wc2 ⟨rfl, hB2⟩; have hL2 : Later wb wc2 := Later.call (And.right (by assumption)) hB2; first | (have kb := kb.call hB2; have kl := kb.lt; obtain ⟨⟨z0, z1, z2⟩, ⟨z3, z4, z5⟩⟩ := kb.cells3) | (have hC : Below (wc1.alloc (.cells #[.bool false, .slice none 0 0, .int .i64 0] 24)).heap.size (wc1.alloc (.cells #[.bool false, .slice none 0 0, .int .i64 0] 24)) wc2 := (by with_reducible exact hB2); have kb := (Blk.made wb wc1 24 _ hL1 _ rfl).call hC; have kl := kb.lt; obtain ⟨⟨z0, z1, z2⟩, ⟨z3, z4, z5⟩⟩ := kb.cells3) | skip)
        | (go_at_call 25; refine (as7_any _ _ _).mono ?_; rintro e wc1 ⟨rfl, hB1⟩; have hL1 : Later wb wc1 := Later.call (And.right (by assumption)) hB1; first | (have hC : Below ((wb.alloc (.cells #[.bool false, .slice none 0 0, .int .i64 0] 24)).drew).heap.size ((wb.alloc (.cells #[.bool false, .slice none 0 0, .int .i64 0] 24)).drew) wc1 := (by with_reducible exact hB1); have kb := (Blk.made wb wb 24 _ (Later.refl wb) _ rfl).drew.call hC; have kl := kb.lt; obtain ⟨⟨z0, z1, z2⟩, ⟨z3, z4, z5⟩⟩ := kb.cells3) | skip))
    all_goals
      go_wp2_with fail
      go_meet
      first
      | (have _k := kb; exact ⟨_, A1, n1, c1, rfl, rfl, DB.store kb hI1 (fun hz a ha => by have := hN1 hz a ha; (try simp at this); omega), fun hz a ha => by have q1 := hN1 hz a ha; have q2 := hL2.size; have q3 := kb.1; (try simp at q1); (try simp at q2); exact ⟨by omega, by omega⟩⟩)
      | exact ⟨_, A1, n1, c1, rfl, rfl, DB.made wb wc3 _ hL3 hI1 _ rfl, fun hz a ha => by have q1 := hN1 hz a ha; have q2 := hL2.size; have q4 := hI1.block_lt hz a ha; (try simp at q1); (try simp at q2); exact ⟨by omega, by omega⟩⟩
  case rest =>
    obtain ⟨g, A11, n11, c11, rfl, rfl, hv, hq⟩ := hcut
    have hv2 : DB wb g 24 A11 n11 c11 G (wc.setCell ⟨g, 0, none⟩ (.bool false)) := by
      rw [hG.out]
      exact ⟨hv.1.set_ 0 (.bool false), hv.2.set_ (fun hz a ha => (hq hz a ha).2) _⟩
    obtain ⟨⟨kc, kc1, kc2⟩, ⟨kc3, kc4, kc5⟩⟩ := hv.1.cells3
    have kl := hv.1.lt
    go_upto_region 9 with fail
    clear hv hq kc kl kc1 kc2 kc3 kc4 kc5
    generalize World.setCell wc _ _ = w8 at *
    have hu8 : DB w g 24 A11 n11 c11 G w8 := DB.from_ hLb hv2
    clear hv2
    have qu0 := hu8.c0
    have qu1 := hu8.c1
    have qu2 := hu8.c2
    go_wp2_with fail
    refine (htimes.out _ _ _ _ hu8.il).mono ?_
    rintro e w9 ⟨A9, n9, c9, rfl, hI9, hB9, _⟩
    clear qu0 qu1 qu2
    have hu9 := hu8.call hB9
    clear hu8
    have ht9 := DB.made w w9 24 hu9.later hI9 _ rfl
    go_upto_region 10 with fail
    have hu_wd := hu9.alloc (.cells #[.bool S.neg, .slice A9 n9 c9, .int .i64 S.s] 24)
    clear hu9
    generalize hgw : World.alloc w9 _ = wd at *
    clear hgw
    have dU := Lib.hid ((hu_wd.alloc (.cells #[.int .i64 1] 3)).alloc (.cells #[.bool (oneDc false k).neg, .slice (some ⟨wd.heap.size, 0, none⟩) 1 1, .int .i64 (oneDc false k).s] 24)).at_
    have dT := Lib.hid ((ht9.alloc (.cells #[.int .i64 1] 3)).alloc (.cells #[.bool (oneDc false k).neg, .slice (some ⟨wd.heap.size, 0, none⟩) 1 1, .int .i64 (oneDc false k).s] 24)).at_
    have dO := DB.made w (wd.alloc (.cells #[.int .i64 1] 3)) 24 (A := some ⟨wd.heap.size, 0, none⟩) (n := 1) (c := 1) (X := oneDc false k) (hu_wd.later.alloc _) (IL.lit1 _ _ _ _ rfl) (wd.heap.size + 1) (by simp)
    have hLz := dO.later
    have dO' := Lib.hid dO.at_
    clear dO hu_wd ht9
    go_upto_region 11 with fail
    have e0 : (World.alloc (World.alloc wd (.cells #[.int .i64 1] 3)) (.cells #[.bool false, .slice (some ⟨wd.heap.size, 0, none⟩) 1 1, .int .i64 (k : Int)] 24)) = (World.alloc (World.alloc wd (.cells #[.int .i64 1] 3)) (.cells #[.bool (oneDc false k).neg, .slice (some ⟨wd.heap.size, 0, none⟩) 1 1, .int .i64 (oneDc false k).s] 24)) := rfl
    rw [e0]
    generalize World.alloc (World.alloc wd _) _ = wz at *
    clear e0
    generalize oneDc false k = O at *
    have hc1 := Lib.hid (fun s : Ext wz => rccompare_at dU.out dO'.out gF gO (by omega) (by omega) s)
    have hc2 := Lib.hid (fun s : Ext wz => rccompare_at dT.out dO'.out gT gO (by omega) (by omega) s)
    generalize cmpDc G O = d1 at *
    generalize cmpDc S O = d2 at *
    have x0 := dU.out.1.1
    have x1 := dU.out.1.2.1
    have x2 := dU.out.1.2.2
    have t0 := dT.out.1.1
    have t1 := dT.out.1.2.1
    have t2 := dT.out.1.2.2
    have o0 := dO'.out.1.1
    have o1 := dO'.out.1.2.1
    have o2 := dO'.out.1.2.2
    obtain ⟨h1, h2⟩ := hfar1
    by_cases h4 : q < 4
    · go_wp2_with fail
      refine (hc1.out (Ext.refl _)).mono ?_
      rintro e wy ⟨rfl, hBy⟩
      go_wp2_with fail
      refine (lives7_any _).mono ?_
      rintro e wx ⟨rfl, hBx⟩
      go_wp2_with fail
      go_ret
      exact ⟨rfl, below_from (below_from hLz hBy) hBx⟩
    · have h2' : d2 ≤ 0 := by omega
      go_wp2_with fail
      refine (hc1.out (Ext.refl _)).mono ?_
      rintro e wy ⟨rfl, hBy⟩
      clear x0 x1 x2 t0 t1 t2 o0 o1 o2
      have t0 := (dT.out.call hBy).1.1
      have t1 := (dT.out.call hBy).1.2.1
      have t2 := (dT.out.call hBy).1.2.2
      have o0 := (dO'.out.call hBy).1.1
      have o1 := (dO'.out.call hBy).1.2.1
      have o2 := (dO'.out.call hBy).1.2.2
      go_wp2_with fail
      refine (hc2.out ⟨wy, hBy⟩).mono ?_
      rintro e wv ⟨rfl, hBv⟩
      go_wp2_with fail
      refine (lives7_any _).mono ?_
      rintro e wx ⟨rfl, hBx⟩
      go_wp2_with fail
      go_ret
      exact ⟨rfl, below_from (below_from (below_from hLz hBy) hBv) hBx⟩

end Go.Proofs.Ytnndiikogaoeiaa
