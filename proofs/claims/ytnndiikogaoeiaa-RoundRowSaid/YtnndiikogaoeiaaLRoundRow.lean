/- The walk of RoundRow. No condition. -/
import Derived.Test.YtnndiikogaoeiaaRo5
namespace Go.Proofs.Ytnndiikogaoeiaa
open Go.RowKit

set_option maxRecDepth 100000 in
set_option maxHeartbeats 8000000 in
theorem roundRow_walk (w : World) {A0 : Option Addr} {n0 c0 : Nat} {l0 : List Int} {a0 : Int} {A1 : Option Addr} {n1 c1 : Nat} {l1 : List Int} {a1 : Int} {a2 : Int} {a3 : Int}
    (b0 : Bool) (w0 : IL w A0 n0 c0 l0) (i0 : I64 l0) (x0 : -9223372036854775808 ≤ a0 ∧ a0 ≤ 9223372036854775807) (b1 : Bool) (w1 : IL w A1 n1 c1 l1) (i1 : I64 l1) (x1 : -9223372036854775808 ≤ a1 ∧ a1 ≤ 9223372036854775807) (w2 : -9223372036854775808 ≤ a2 ∧ a2 ≤ 9223372036854775807) (w3 : -9223372036854775808 ≤ a3 ∧ a3 ≤ 9223372036854775807) :
    Calls Try.prog 4 #[.agg #[.bool b0, .slice A0 n0 c0, .int .i64 a0], .agg #[.bool b1, .slice A1 n1 c1, .int .i64 a1], .int .i64 a2, .int .i64 a3] w fun e w' => e = .returned (.bool true) ∧ Below w.heap.size w w' := by
  obtain ⟨X, hX, _, hg0⟩ := cgood_ex (A := A0) (n := n0) (c := c0) b0 a0 12 i0 x0 (by omega)
  obtain ⟨Y, hY, _, hg1⟩ := cgood_ex (A := A1) (n := n1) (c := c1) b1 a1 12 i1 x1 (by omega)
  obtain ⟨k, hk, hka⟩ : ∃ k : Int, (0 ≤ k ∧ k < 10) ∧ Hid (∀ W, Calls Try.prog 20 #[.int .i64 a2, .int .i64 10] W fun e w' => e = .returned (.int .i64 k) ∧ W = w') :=
    ⟨_, around_bd a2 10 (by omega), fun W => around_any a2 10 W w2.1 w2.2 (by omega) (by omega)⟩
  obtain ⟨q, hq, hqa⟩ : ∃ k : Int, (0 ≤ k ∧ k < 7) ∧ Hid (∀ W, Calls Try.prog 20 #[.int .i64 a3, .int .i64 7] W fun e w' => e = .returned (.int .i64 k) ∧ W = w') :=
    ⟨_, around_bd a3 7 (by omega), fun W => around_any a3 7 W w3.1 w3.2 (by omega) (by omega)⟩
  obtain ⟨k, rfl⟩ : ∃ j : Nat, k = (j : Int) := ⟨k.toNat, by omega⟩
  have hk9 : k ≤ 9 := by omega
  have hq6 : 0 ≤ q ∧ q ≤ 6 := by omega
  obtain ⟨P, hP, hToP⟩ : ∃ D : Dc, Hid (D = scaled k (roundZ q X k)) ∧ Hid (∀ A n c W, IL W A n c X.l → Calls Try.prog 21 #[.agg #[.bool X.neg, .slice A n c, .int .i64 X.s], .int .i64 (k : Int), .int .i64 q] W (RCE W D 0)) :=
    ⟨scaled k (roundZ q X k), rfl, fun A n c W hW => to_good hX (by omega) hk9 hq6 W hW⟩
  obtain ⟨Q, hQ, hToQ⟩ : ∃ D : Dc, Hid (D = scaled k (roundZ q Y k)) ∧ Hid (∀ A n c W, IL W A n c Y.l → Calls Try.prog 21 #[.agg #[.bool Y.neg, .slice A n c, .int .i64 Y.s], .int .i64 (k : Int), .int .i64 q] W (RCE W D 0)) :=
    ⟨scaled k (roundZ q Y k), rfl, fun A n c W hW => to_good hY (by omega) hk9 hq6 W hW⟩
  have gP : GoodDc P 22 := by rw [hP.out]; have := good_round hX q hk9; exact ⟨this.1, this.2.1, this.2.2.1, by have := this.2.2.2; omega⟩
  have gQ : GoodDc Q 22 := by rw [hQ.out]; have := good_round hY q hk9; exact ⟨this.1, this.2.1, this.2.2.1, by have := this.2.2.2; omega⟩
  have hmono : (0 < cmpDc X Y ∨ cmpDc P Q ≤ 0) ∧ (cmpDc X Y < 0 ∨ 0 ≤ cmpDc P Q) := by rw [hP.out, hQ.out]; exact round_mono hX.dc hY.dc q k
  have hp1 := Blk.made w (w.alloc (.cells #[.bool b0, .slice A0 n0 c0, .int .i64 a0] 24)) 24 #[.bool b1, .slice A1 n1 c1, .int .i64 a1] ((Later.refl w).alloc _) (w.heap.size + 1) (by simp)
  have w11 := (w1.alloc (.cells #[.bool b0, .slice A0 n0 c0, .int .i64 a0] 24)).alloc (.cells #[.bool b1, .slice A1 n1 c1, .int .i64 a1] 24)
  clear hP hQ
  go_enter Try.func4, Try.ntmps4
  go_wp2_with fail
  refine (hg0.out _ ((w0.alloc _).alloc _)).mono ?_
  rintro e w2 ⟨A2, n2, c2, rfl, hI2, hB2, _⟩
  have hp2 := hp1.call hB2
  have w12 := w11.below hB2
  have hL2 := hp2.later
  have q0 := fun o => (hp2.alloc o).cells3.1.1
  have q1 := fun o => (hp2.alloc o).cells3.1.2.1
  have q2 := fun o => (hp2.alloc o).cells3.1.2.2
  have hx2 := DB.made w w2 24 hL2 hI2 _ rfl
  go_wp2_with fail
  refine (hg1.out _ (w12.alloc _)).mono ?_
  rintro e w3 ⟨A3, n3, c3, rfl, hI3, hB3, _⟩
  have hx3 := hx2.call hB3
  clear hx2
  clear q0 q1 q2 hp2 hp1 w11 w12 hI2
  have hy3 := DB.made w w3 24 hx3.later hI3 _ rfl
  go_wp2_with fail
  refine (hka.out _).mono ?_
  rintro e w3x ⟨rfl, rfl⟩
  go_wp2_with fail
  refine (hqa.out _).mono ?_
  rintro e w3x ⟨rfl, rfl⟩
  have qx0 := fun o => (hx3.alloc o).c0
  have qx1 := fun o => (hx3.alloc o).c1
  have qx2 := fun o => (hx3.alloc o).c2
  go_wp2_with fail
  refine (of7_any _ _ _).mono ?_
  rintro e w4 ⟨rfl, hB4⟩
  clear qx0 qx1 qx2
  have hx4 := (hx3.alloc _).call hB4
  have hy4 := hy3.call hB4
  clear hx3 hy3
  go_wp2_with fail
  refine (hToP.out _ _ _ _ hx4.il).mono ?_
  rintro e w5 ⟨A5, n5, c5, rfl, hI5, hB5, _⟩
  have hx5 := hx4.call hB5
  have hy5 := hy4.call hB5
  clear hx4 hy4
  have hp5 := DB.made w w5 27 hx5.later hI5 _ rfl
  have qy0 := fun o => (hy5.alloc o).c0
  have qy1 := fun o => (hy5.alloc o).c1
  have qy2 := fun o => (hy5.alloc o).c2
  go_wp2_with fail
  refine (of7_any _ _ _).mono ?_
  rintro e w6 ⟨rfl, hB6⟩
  clear qy0 qy1 qy2
  have hx6 := (hx5.alloc _).call hB6
  have hy6 := (hy5.alloc _).call hB6
  have hp6 := hp5.call hB6
  clear hx5 hy5 hp5
  go_wp2_with fail
  refine (hToQ.out _ _ _ _ hy6.il).mono ?_
  rintro e w7 ⟨A7, n7, c7, rfl, hI7, hB7, _⟩
  have hx7 := hx6.call hB7
  have hy7 := hy6.call hB7
  have hp7 := hp6.call hB7
  clear hx6 hy6 hp6
  have hr7 := DB.made w w7 27 hx7.later hI7 _ rfl
  go_upto_region 7 with fail
  have hx_w8 := hx7.alloc (.cells #[.bool Q.neg, .slice A7 n7 c7, .int .i64 Q.s] 27)
  clear hx7
  have hy_w8 := hy7.alloc (.cells #[.bool Q.neg, .slice A7 n7 c7, .int .i64 Q.s] 27)
  clear hy7
  have hp_w8 := hp7.alloc (.cells #[.bool Q.neg, .slice A7 n7 c7, .int .i64 Q.s] 27)
  clear hp7
  generalize hgw : World.alloc w7 _ = w8 at *
  clear hgw
  have hLw := hx_w8.later
  have dX := Lib.hid hx_w8.at_
  have dY := Lib.hid hy_w8.at_
  have dP := Lib.hid hp_w8.at_
  have dQ := Lib.hid hr7.at_
  clear hx_w8 hy_w8 hp_w8 hr7 hI3 hI5 hI7
  have hcc := Lib.hid (show Calls Try.prog 27 #[.agg #[.bool X.neg, .slice A2 n2 c2, .int .i64 X.s], .agg #[.bool Y.neg, .slice A3 n3 c3, .int .i64 Y.s]] w8 (RV w8 (.int .i64 (cmpDc X Y))) from rccompare_at dX.out dY.out hX hY (by omega) (by omega) (Ext.refl w8))
  generalize cmpDc X Y = cc at *
  have x0 := dX.out.1.1
  have x1 := dX.out.1.2.1
  have x2 := dX.out.1.2.2
  have y0 := dY.out.1.1
  have y1 := dY.out.1.2.1
  have y2 := dY.out.1.2.2
  go_wp2_with fail
  refine hcc.out.mono ?_
  rintro e w9 ⟨rfl, hB9⟩
  clear x0 x1 x2 y0 y1 y2 hcc
  have eP := Lib.hid (dP.out.call hB9)
  have eQ := Lib.hid (dQ.out.call hB9)
  have hLz := below_from hLw hB9
  clear dP dQ hLw hB9 dX dY
  have hcm := Lib.hid (fun s : Ext w9 => rccompare_at eP.out eQ.out gP gQ (by omega) (by omega) s)
  generalize cmpDc P Q = dd at *
  go_upto_region 8 with fail
  have KP0 := eP.out.k0
  have KP1 := eP.out.k1
  have KP2 := eP.out.k2
  have KQ0 := eQ.out.k0
  have KQ1 := eQ.out.k1
  have KQ2 := eQ.out.k2
  have hcase : (0 < cc ∧ ¬ cc < 0 ∧ 0 ≤ dd) ∨ (¬ 0 < cc ∧ cc < 0 ∧ dd ≤ 0) ∨ (¬ 0 < cc ∧ ¬ cc < 0 ∧ dd ≤ 0 ∧ 0 ≤ dd) := by omega
  clear hmono
  rcases hcase with ⟨h1, h2, h3⟩ | ⟨h1, h2, h3⟩ | ⟨h1, h2, h3, h4⟩
  all_goals
    refine wp_region_ext (by kernel_rfl) (by kernel_rfl) ?_
    repeat (go_big_quiet_step (first
      | (go_at_call 25; exact quiet_ext _ (as7_any _ _ _))
      | (go_at_call 27; exact quiet_ext _ (hcm.out _))
      | (go_at_call 26; exact quiet_ext _ (lives7_any _))))
    refine wpQuiet_nil ?_
    rintro _ ⟨s9, rfl⟩
    go_wp2_with fail
    go_ret
    exact ⟨rfl, below_from hLz s9.h⟩

end Go.Proofs.Ytnndiikogaoeiaa
