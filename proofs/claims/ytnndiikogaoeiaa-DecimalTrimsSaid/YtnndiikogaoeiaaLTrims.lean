/- The walk of DecimalTrims. No condition. -/
import Derived.Test.YtnndiikogaoeiaaDcb
import Derived.Test.YtnndiikogaoeiaaCanon4
import Derived.Test.YtnndiikogaoeiaaDe4
namespace Go.Proofs.Ytnndiikogaoeiaa
open Go.RowKit

set_option maxRecDepth 100000 in
set_option maxHeartbeats 4000000 in
theorem decimalTrims_walk (w : World) {A0 : Option Addr} {n0 c0 : Nat} {l0 : List Int} {a0 : Int}
    (b0 : Bool) (w0 : IL w A0 n0 c0 l0) (i0 : I64 l0) (x0 : -9223372036854775808 ≤ a0 ∧ a0 ≤ 9223372036854775807) :
    Calls Try.prog 11 #[.agg #[.bool b0, .slice A0 n0 c0, .int .i64 a0]] w fun e w' => e = .returned (.bool true) ∧ Below w.heap.size w w' := by
  obtain ⟨X, hX, _, hg⟩ := cgood_ex (A := A0) (n := n0) (c := c0) b0 a0 20 i0 x0 (by omega)
  have iX := I64_of_may hX.1
  have lX := hX.2.2.2
  have bX := hX.2.2.1
  have bX0 := hX.2.1
  obtain ⟨T, hTm, hTl, hTs, hT1, hT2, hT3, hT4⟩ : ∃ T : Dc, mayL T.l = true ∧ T.l.length ≤ 20 ∧ (0 ≤ T.s ∧ T.s ≤ 9) ∧ Hid (∀ A n c W, IL W A n c X.l → Calls Try.prog 43 #[.agg #[.bool X.neg, .slice A n c, .int .i64 X.s]] W (RC W T)) ∧
      Hid (∀ A n c W, IL W A n c X.l → Calls Try.prog 36 #[.agg #[.bool X.neg, .slice A n c, .int .i64 X.s]] W (RC W T)) ∧
      Hid (∀ A n c W, IL W A n c T.l → Calls Try.prog 43 #[.agg #[.bool T.neg, .slice A n c, .int .i64 T.s]] W (RC W T)) ∧ Hid (cmpDc T X = 0) := by
    obtain ⟨x, sx, hx, hs, hs1, hs2, hm, hl, hc⟩ := trimDc_parts hX.1 hX.2.1 (by omega)
    have hT : (trimDc X).l.length ≤ 20 := by rw [hx]; omega
    have hTs : 0 ≤ (trimDc X).s ∧ (trimDc X).s ≤ 9 := by rw [hx]; omega
    have hTm : mayL (trimDc X).l = true := by rw [hx]; exact hm
    refine ⟨trimDc X, hTm, hT, hTs, fun A n c W hW => ?_, fun A n c W hW => ?_, fun A n c W hW => ?_, ?_⟩
    · exact dtrim_any X.neg X.s W hW iX (by have := hW.len; omega) (by omega) (by omega)
    · exact rdtrim_any X.neg X.s W hW iX (by have := hW.len; omega) (by omega) (by omega)
    · have := dtrim_any (trimDc X).neg (trimDc X).s W hW (I64_of_may hTm) (by have := hW.len; omega) hTs.1 (by omega)
      rw [show (⟨(trimDc X).neg, (trimDc X).l, (trimDc X).s⟩ : Dc) = trimDc X from rfl, trimDc_idem hX.1 hX.2.1] at this
      exact this
    · rw [Hid, cmpDc_trimL hX.1 hX.2.1, cmpDc_self]
  obtain ⟨p1, p2, hpl, hP1, hP2⟩ : ∃ p1 p2 : List Int, Hid ((p2.length : Int) = X.s) ∧ Hid (∀ A n c W, IL W A n c X.l → Calls Try.prog 44 #[.agg #[.bool X.neg, .slice A n c, .int .i64 X.s]] W (RP W p1 p2)) ∧
      Hid (∀ A n c W, IL W A n c X.l → Calls Try.prog 45 #[.agg #[.bool X.neg, .slice A n c, .int .i64 X.s]] W (RP W p1 p2)) := by
    obtain ⟨k, hk⟩ := Int.eq_ofNat_of_zero_le bX0
    refine ⟨(partsS X.l k).1, (partsS X.l k).2, ?_, fun A n c W hW => ?_, fun A n c W hW => ?_⟩
    · rw [Hid, parts_len, hk]
    · rw [hk]; exact parts_any X.neg k W hW iX (by have := hW.len; omega) (by omega)
    · rw [hk]; exact rparts_any X.neg k W hW (by have := hW.len; omega) (by omega)
  go_enter Try.func11, Try.ntmps11
  go_wp2_with fail
  refine (hg.out _ (w0.alloc _)).mono ?_
  rintro e w2 ⟨A2, n2, c2, rfl, hI2, hB2, _⟩
  have hL2 := ((Later.refl w).alloc (.cells #[.bool b0, .slice A0 n0 c0, .int .i64 a0] 24)).call hB2
  have hx2 := DB.made w w2 24 hL2 hI2 _ rfl
  have qx0 := hx2.c0
  have qx1 := hx2.c1
  have qx2 := hx2.c2
  go_wp2_with fail
  refine (of6_any _ _ _).mono ?_
  rintro e w3 ⟨rfl, hB3⟩
  clear qx0 qx1 qx2
  have hx3 := hx2.call hB3
  clear hx2
  go_wp2_with fail
  refine (hT1.out _ _ _ _ hx3.il).mono ?_
  rintro e w4 ⟨A4, n4, c4, rfl, hI4, hB4, _⟩
  have hx4 := hx3.call hB4
  clear hx3
  have ht4 := DB.made w w4 27 hx4.later hI4 _ rfl
  have qx0 := fun o => (hx4.alloc o).c0
  have qx1 := fun o => (hx4.alloc o).c1
  have qx2 := fun o => (hx4.alloc o).c2
  go_wp2_with fail
  refine (of6_any _ _ _).mono ?_
  rintro e w5 ⟨rfl, hB5⟩
  clear qx0 qx1 qx2
  have hx5 := (hx4.alloc _).call hB5
  have ht5 := ht4.call hB5
  clear hx4 ht4
  go_wp2_with fail
  refine (hP1.out _ _ _ _ hx5.il).mono ?_
  rintro e w6 ⟨A6, n6, c6, E6, m6, d6, rfl, hI6, hJ6, hB6⟩
  have hx6 := hx5.call hB6
  have ht6 := ht5.call hB6
  clear hx5 ht5
  have hJ7a := hJ6.len
  have qx0 := hx6.c0
  have qx1 := hx6.c1
  have qx2 := hx6.c2
  go_wp2_with fail
  refine (hP2.out _ _ _ _ hx6.il).mono ?_
  rintro e w7 ⟨A7, n7, c7, E7, m7, d7, rfl, hI7, hJ7, hB7⟩
  clear qx0 qx1 qx2
  have hx7 := hx6.call hB7
  have ht7 := ht6.call hB7
  have hi7 := hI6.below hB7
  have hj7 := hJ6.below hB7
  clear hx6 ht6 hI6 hJ6
  have hsc : X.s = (m6 : Int) := by rw [← hpl.out, hJ7a]
  go_upto_region 5 with fail
  have dX := Lib.hid hx7.at_
  have dT := Lib.hid ht7.at_
  have hL := hx7.later
  clear hx7 ht7 hB2 hB3 hB4 hB5 hB6 hB7 hI2 hI4 hL2
  have HS : Hid (∀ W, Later w7 W → ((W.cell? ⟨w2.heap.size, 0, none⟩ = some (.bool X.neg) ∧ W.cell? ⟨w2.heap.size, 1, none⟩ = some (.slice A2 n2 c2) ∧ W.cell? ⟨w2.heap.size, 2, none⟩ = some (.int .i64 (m6 : Int))) ∧
      (W.cell? ⟨w4.heap.size, 0, none⟩ = some (.bool T.neg) ∧ W.cell? ⟨w4.heap.size, 1, none⟩ = some (.slice A4 n4 c4) ∧ W.cell? ⟨w4.heap.size, 2, none⟩ = some (.int .i64 T.s))) ∧ Later w7 W) := fun W hW =>
    ⟨⟨by rw [← hsc]; exact (dX.out.later hW).1, (dT.out.later hW).1⟩, hW⟩
  rw [hsc] at hT1 hT2 hP1 hP2
  have hcm := Lib.hid (fun W (hW : Later w7 W) => show Calls Try.prog 39 #[.agg #[.bool T.neg, .slice A4 n4 c4, .int .i64 T.s], .agg #[.bool X.neg, .slice A2 n2 c2, .int .i64 (m6 : Int)]] W (RV W (.int .i64 0)) by
    rw [← hsc, ← hT4.out]
    have h1 := dT.out.later hW
    have h2 := dX.out.later hW
    exact ccompare_any T.neg X.neg T.s X.s W h1.2 h2.2 hTm hX.1 (by have := h1.2.len; omega) (by have := h2.2.len; omega) hTs.1 (by omega) bX0 (by omega))
  have hof := Lib.hid (fun W => of6_any (A := A2) (n := n2) (c := c2) X.neg (m6 : Int) W)
  have hti := Lib.hid (fun W (hW : Later w7 W) => (dT.out.later hW).2)
  have hxi := Lib.hid (fun W (hW : Later w7 W) => (dX.out.later hW).2)
  have hsd := Lib.hid (fun (A : Option Addr) (n c : Nat) (A2 : Option Addr) (n2 c2 : Nat) W (h1 : IL W A n c T.l) (h2 : IL W A2 n2 c2 T.l) => show Calls Try.prog 24 #[.agg #[.bool T.neg, .slice A n c, .int .i64 T.s], .agg #[.bool T.neg, .slice A2 n2 c2, .int .i64 T.s]] W (RV W (.bool true)) by
    have := csame_any T.neg T.neg T.s T.s W h1 h2
    rw [show sameDc ⟨T.neg, T.l, T.s⟩ ⟨T.neg, T.l, T.s⟩ = true from sameDc_refl _] at this
    exact this)
  have hsi := Lib.hid (fun W (hW : Later w7 W) => show Calls Try.prog 31 #[.slice A6 n6 c6, .slice A7 n7 c7] W (RV W (.bool true)) by
    have := same_any A6 n6 c6 p1 A7 n7 c7 p1 W (hi7.later hW) (hI7.later hW)
    rw [beq_self_eq_true] at this
    exact this.mono fun _ _ h => RQ.rv h)
  have hsj := Lib.hid (fun W (hW : Later w7 W) => show Calls Try.prog 31 #[.slice E6 m6 d6, .slice E7 m7 d7] W (RV W (.bool true)) by
    have := same_any E6 m6 d6 p2 E7 m7 d7 p2 W (hj7.later hW) (hJ7.later hW)
    rw [beq_self_eq_true] at this
    exact this.mono fun _ _ h => RQ.rv h)
  clear hsc
  go_region_held3 (fun W => ((W.cell? ⟨w2.heap.size, 0, none⟩ = some (.bool X.neg) ∧ W.cell? ⟨w2.heap.size, 1, none⟩ = some (.slice A2 n2 c2) ∧ W.cell? ⟨w2.heap.size, 2, none⟩ = some (.int .i64 (m6 : Int))) ∧
      (W.cell? ⟨w4.heap.size, 0, none⟩ = some (.bool T.neg) ∧ W.cell? ⟨w4.heap.size, 1, none⟩ = some (.slice A4 n4 c4) ∧ W.cell? ⟨w4.heap.size, 2, none⟩ = some (.int .i64 T.s))) ∧ Later w7 W)
    ((refine HS.out _ ?_; repeat (first | exact And.right (by assumption) | exact Later.refl _ | refine Later.call ?_ hB | refine Later.drew ?_)))
    (first
      | (go_at_call 33; refine (hof.out _).mono ?_; rintro e w8 ⟨rfl, hB⟩)
      | (go_at_call 35; refine (as6_any _ _ _).mono ?_; rintro e w8 ⟨rfl, hB⟩; (try have hI9 := hI9.below hB))
      | (go_at_call 36; refine (hT2.out _ _ _ _ (hxi.out _ (And.right (by assumption)))).mono ?_; rintro e w8 ⟨A9, n9, c9, rfl, hI9, hB, _⟩)
      | (go_at_call 43; refine (hT3.out _ _ _ _ (hti.out _ (And.right (by assumption)))).mono ?_; rintro e w8 ⟨A9, n9, c9, rfl, hI9, hB, _⟩)
      | (go_at_call 24; ((with_reducible refine (hsd.out _ _ _ _ _ _ _ (hti.out _ (And.right (by assumption))) hI9).mono ?_); rintro e w8 ⟨rfl, hB⟩))
      | (go_at_call 24; refine (hsd.out _ _ _ _ _ _ _ hI9 (hti.out _ (And.right (by assumption)))).mono ?_; rintro e w8 ⟨rfl, hB⟩)
      | (go_at_call 39; refine (hcm.out _ (And.right (by assumption))).mono ?_; rintro e w8 ⟨rfl, hB⟩)
      | (go_at_call 31; ((with_reducible refine (hsi.out _ (And.right (by assumption))).mono ?_); rintro e w8 ⟨rfl, hB⟩))
      | (go_at_call 31; refine (hsj.out _ (And.right (by assumption))).mono ?_; rintro e w8 ⟨rfl, hB⟩)
      | (go_at_call 37; refine (lives6_any _).mono ?_; rintro e w8 ⟨rfl, hB⟩))
  all_goals
    go_wp2_with fail
    go_ret
    exact ⟨rfl, below_from hL (And.right (by assumption))⟩

end Go.Proofs.Ytnndiikogaoeiaa
