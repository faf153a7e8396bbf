/- The walk of DecimalTimes. No condition. -/
import Derived.Test.YtnndiikogaoeiaaDcb
import Derived.Test.YtnndiikogaoeiaaDe16
import Derived.Test.YtnndiikogaoeiaaCanon4
namespace Go.Proofs.Ytnndiikogaoeiaa
open Go.RowKit

set_option maxRecDepth 100000 in
set_option maxHeartbeats 4000000 in
theorem decimalTimes_walk (w : World) {A0 : Option Addr} {n0 c0 : Nat} {l0 : List Int} {a0 : Int} {a1 : Int}
    (b0 : Bool) (w0 : IL w A0 n0 c0 l0) (i0 : I64 l0) (x0 : -9223372036854775808 ≤ a0 ∧ a0 ≤ 9223372036854775807) (w1 : -9223372036854775808 ≤ a1 ∧ a1 ≤ 9223372036854775807) :
    Calls Try.prog 13 #[.agg #[.bool b0, .slice A0 n0 c0, .int .i64 a0], .int .i64 a1] w fun e w' => e = .returned (.bool true) ∧ Below w.heap.size w w' := by
  obtain ⟨X, hX, _, hg⟩ := cgood_ex (A := A0) (n := n0) (c := c0) b0 a0 12 i0 x0 (by omega)
  obtain ⟨n1, l1, hn1, hl1, hfew⟩ : ∃ (n1 : Nat) (l1 : List Int), n1 ≤ 12 ∧ I64 l1 ∧ Hid (∀ W, IL W A0 n0 c0 l0 → Calls Try.prog 19 #[.agg #[.bool b0, .slice A0 n0 c0, .int .i64 a0], .int .i64 12] W (fun e w' => e = .returned (.agg #[.bool b0, .slice A0 n1 c0, .int .i64 a0]) ∧ IL w' A0 n1 c0 l1 ∧ Below W.heap.size W w')) :=
    ⟨min n0 12, l0.take 12, by omega, i0.take_ 12, fun W hW => cfew_any b0 a0 12 W hW (by omega)⟩
  obtain ⟨k, hk, hka⟩ : ∃ k : Int, (0 ≤ k ∧ k < 2001) ∧ Hid (∀ W, Calls Try.prog 20 #[.int .i64 a1, .int .i64 2001] W fun e w' => e = .returned (.int .i64 k) ∧ W = w') :=
    ⟨_, around_bd a1 2001 (by omega), fun W => around_any a1 2001 W w1.1 w1.2 (by omega) (by omega)⟩
  have hmX : mayDc X = true := mayDc_iff.2 ⟨hX.1, hX.2.1, by have := hX.2.2.1; omega⟩
  have iX := I64_of_may hX.1
  have sX : -9223372036854775808 ≤ X.s ∧ X.s ≤ 9223372036854775807 := by have := hX.2.1; have := hX.2.2.1; omega
  have lX := hX.2.2.2
  have bX := hX.2.2.1
  obtain ⟨P, hPl, hPi, hPe, hP1, hP2⟩ : ∃ P : Dc, (P.l.length ≤ 16 ∧ 0 ≤ P.s ∧ P.s ≤ 1000) ∧ I64 P.l ∧ Hid ((timesDc X (k - 1000)).1 = P) ∧ Hid (∀ A n c W, IL W A n c X.l → Calls Try.prog 47 #[.agg #[.bool X.neg, .slice A n c, .int .i64 X.s], .int .i64 (k - 1000)] W (RCE W P 0)) ∧
      Hid (∀ A n c W, IL W A n c X.l → Calls Try.prog 30 #[.agg #[.bool X.neg, .slice A n c, .int .i64 X.s], .int .i64 (k - 1000)] W (RCE W P 0)) := by
    refine ⟨(timesDc X (k - 1000)).1, ⟨times_len hX.1 lX _, times_s (by omega) _⟩, I64_of_may (mayL_times _), rfl, fun A n c W hW => ?_, fun A n c W hW => ?_⟩
    · have := ctimes_any X.neg X.s (k - 1000) W hW iX (by have := hW.len; omega) sX (by omega)
      rw [show (⟨X.neg, X.l, X.s⟩ : Dc) = X from rfl, times_ok hmX _ (by omega) (by omega)] at this
      exact this
    · have := rctimes_any X.neg X.s (k - 1000) W hW (by have := hW.len; omega) sX (by omega)
      rw [show (⟨X.neg, X.l, X.s⟩ : Dc) = X from rfl, times_ok hmX _ (by omega) (by omega)] at this
      exact this
  obtain ⟨M, hMl, hMi, hMe, hM1⟩ : ∃ P : Dc, (P.l.length ≤ 16 ∧ 0 ≤ P.s ∧ P.s ≤ 1000) ∧ I64 P.l ∧ Hid ((timesDc X (-(k - 1000))).1 = P) ∧ Hid (∀ A n c W, IL W A n c X.l → Calls Try.prog 47 #[.agg #[.bool X.neg, .slice A n c, .int .i64 X.s], .int .i64 (-(k - 1000))] W (RCE W P 0)) := by
    refine ⟨(timesDc X (-(k - 1000))).1, ⟨times_len hX.1 lX _, times_s (by omega) _⟩, I64_of_may (mayL_times _), rfl, fun A n c W hW => ?_⟩
    have := ctimes_any X.neg X.s (-(k - 1000)) W hW iX (by have := hW.len; omega) sX (by omega)
    rw [show (⟨X.neg, X.l, X.s⟩ : Dc) = X from rfl, times_ok hmX _ (by omega) (by omega)] at this
    exact this
  obtain ⟨Q, ec, hQ1, hQ2⟩ : ∃ (Q : Dc) (ec : Int), Hid (∀ W, IL W A0 n1 c0 l1 → Calls Try.prog 47 #[.agg #[.bool b0, .slice A0 n1 c0, .int .i64 a0], .int .i64 a1] W (RCE W Q ec)) ∧
      Hid (∀ W, IL W A0 n1 c0 l1 → Calls Try.prog 30 #[.agg #[.bool b0, .slice A0 n1 c0, .int .i64 a0], .int .i64 a1] W (RCE W Q ec)) :=
    ⟨(timesDc ⟨b0, l1, a0⟩ a1).1, (timesDc ⟨b0, l1, a0⟩ a1).2, fun W hW => ctimes_any b0 a0 a1 W hW hl1 (by omega) x0 w1, fun W hW => rctimes_any b0 a0 a1 W hW (by omega) x0 w1⟩
  have hAd : Hid (∀ A n c A2 n2 c2 W, IL W A n c P.l → IL W A2 n2 c2 M.l → Calls Try.prog 32 #[.agg #[.bool P.neg, .slice A n c, .int .i64 P.s], .agg #[.bool M.neg, .slice A2 n2 c2, .int .i64 M.s]] W (RCE W Dc.zero 0)) := by
    intro A n c A2 n2 c2 W h1 h2
    have := cadd_any P.neg M.neg P.s M.s W h1 h2 hPi hMi (by have := h1.len; omega) (by have := h2.len; omega) (by omega) (by omega)
    have e := times_none hmX (k - 1000) (by omega) (by omega)
    rw [hPe.out, hMe.out] at e
    rw [show (⟨P.neg, P.l, P.s⟩ : Dc) = P from rfl, show (⟨M.neg, M.l, M.s⟩ : Dc) = M from rfl, e] at this
    exact this
  clear hPl hPi hMl hMi
  go_enter Try.func13, Try.ntmps13
  go_wp2_with fail
  refine (hg.out _ (w0.alloc _)).mono ?_
  rintro e w2 ⟨A2, n2, c2, rfl, hI2, hB2, _⟩
  have hp2 := (Blk.made w w 24 #[.bool b0, .slice A0 n0 c0, .int .i64 a0] (Later.refl w) _ rfl).call hB2
  have hL2 := hp2.later
  have q0 := fun o => (hp2.alloc o).cells3.1.1
  have q1 := fun o => (hp2.alloc o).cells3.1.2.1
  have q2 := fun o => (hp2.alloc o).cells3.1.2.2
  have hx2 := DB.made w w2 24 hL2 hI2 _ rfl
  go_wp2_with fail
  refine (hfew.out _ ((w0.later hL2).alloc _)).mono ?_
  rintro e w3 ⟨rfl, hI3, hB3⟩
  have hx3 := hx2.call hB3
  clear hx2
  clear q0 q1 q2 hp2 hI2
  have hf3 := DB.made w w3 24 hx3.later (X := ⟨b0, l1, a0⟩) hI3 _ rfl
  have qx0 := fun o => (hx3.alloc o).c0
  have qx1 := fun o => (hx3.alloc o).c1
  have qx2 := fun o => (hx3.alloc o).c2
  go_wp2_with fail
  refine (hka.out _).mono ?_
  rintro e w3x ⟨rfl, rfl⟩
  go_wp2_with fail
  refine (of6_any _ _ _).mono ?_
  rintro e w4 ⟨rfl, hB4⟩
  clear qx0 qx1 qx2
  have hx4 := (hx3.alloc _).call hB4
  have hf4 := hf3.call hB4
  clear hx3 hf3
  go_wp2_with fail
  refine (hP1.out _ _ _ _ hx4.il).mono ?_
  rintro e w5 ⟨A5, n5, c5, rfl, hI5, hB5, _⟩
  have hx5 := hx4.call hB5
  have hf5 := hf4.call hB5
  clear hx4 hf4
  have hp5 := DB.made w w5 27 hx5.later hI5 _ rfl
  have qx0 := fun o => (hx5.alloc o).c0
  have qx1 := fun o => (hx5.alloc o).c1
  have qx2 := fun o => (hx5.alloc o).c2
  go_wp2_with fail
  refine (hP2.out _ _ _ _ (hx5.alloc _).il).mono ?_
  rintro e w6 ⟨A6, n6, c6, rfl, hI6, hB6, _⟩
  clear qx0 qx1 qx2
  have hx6 := (hx5.alloc _).call hB6
  have hf6 := (hf5.alloc _).call hB6
  have hp6 := hp5.call hB6
  clear hx5 hf5 hp5
  have hr6 := DB.made w w6 24 hx6.later hI6 _ rfl
  have qf0 := fun o => (hf6.alloc o).c0
  have qf1 := fun o => (hf6.alloc o).c1
  have qf2 := fun o => (hf6.alloc o).c2
  go_wp2_with fail
  refine (of6_any _ _ _).mono ?_
  rintro e w7 ⟨rfl, hB7⟩
  clear qf0 qf1 qf2
  have hx7 := (hx6.alloc _).call hB7
  have hf7 := (hf6.alloc _).call hB7
  have hp7 := (hp6.alloc _).call hB7
  have hr7 := hr6.call hB7
  clear hx6 hf6 hp6 hr6
  go_wp2_with fail
  refine (hQ1.out _ hf7.il).mono ?_
  rintro e w8 ⟨A8, n8, c8, rfl, hI8, hB8, _⟩
  have hx8 := hx7.call hB8
  have hf8 := hf7.call hB8
  have hp8 := hp7.call hB8
  have hr8 := hr7.call hB8
  clear hx7 hf7 hp7 hr7
  have hs8 := DB.made w w8 27 hx8.later hI8 _ rfl
  have qf0 := fun o => (hf8.alloc o).c0
  have qf1 := fun o => (hf8.alloc o).c1
  have qf2 := fun o => (hf8.alloc o).c2
  go_wp2_with fail
  refine (hQ2.out _ (hf8.alloc _).il).mono ?_
  rintro e w9 ⟨A9, n9, c9, rfl, hI9, hB9, _⟩
  clear qf0 qf1 qf2
  have hx9 := (hx8.alloc _).call hB9
  have hf9 := (hf8.alloc _).call hB9
  have hp9 := (hp8.alloc _).call hB9
  have hr9 := (hr8.alloc _).call hB9
  have hs9 := hs8.call hB9
  clear hx8 hf8 hp8 hr8 hs8
  have hu9 := DB.made w w9 24 hx9.later hI9 _ rfl
  have qx0 := fun o => (hx9.alloc o).c0
  have qx1 := fun o => (hx9.alloc o).c1
  have qx2 := fun o => (hx9.alloc o).c2
  go_wp2_with fail
  refine (of6_any _ _ _).mono ?_
  rintro e w10 ⟨rfl, hB10⟩
  clear qx0 qx1 qx2
  have hx10 := (hx9.alloc _).call hB10
  have hf10 := (hf9.alloc _).call hB10
  have hp10 := (hp9.alloc _).call hB10
  have hr10 := (hr9.alloc _).call hB10
  have hs10 := (hs9.alloc _).call hB10
  have hu10 := hu9.call hB10
  clear hx9 hf9 hp9 hr9 hs9 hu9
  go_wp2_with fail
  refine (hM1.out _ _ _ _ hx10.il).mono ?_
  rintro e w11 ⟨A11, n11, c11, rfl, hI11, hB11, _⟩
  have hx11 := hx10.call hB11
  have hf11 := hf10.call hB11
  have hp11 := hp10.call hB11
  have hr11 := hr10.call hB11
  have hs11 := hs10.call hB11
  have hu11 := hu10.call hB11
  clear hx10 hf10 hp10 hr10 hs10 hu10
  have hm11 := DB.made w w11 27 hx11.later hI11 _ rfl
  have qp0 := fun o => (hp11.alloc o).c0
  have qp1 := fun o => (hp11.alloc o).c1
  have qp2 := fun o => (hp11.alloc o).c2
  have qm0 := hm11.c0
  have qm1 := hm11.c1
  have qm2 := hm11.c2
  go_wp2_with fail
  refine (hAd.out _ _ _ _ _ _ _ (hp11.alloc _).il (hI11.alloc _)).mono ?_
  rintro e w12 ⟨A12, n12, c12, rfl, hI12, hB12, _⟩
  clear qp0 qp1 qp2 qm0 qm1 qm2
  have hx12 := (hx11.alloc _).call hB12
  have hf12 := (hf11.alloc _).call hB12
  have hp12 := (hp11.alloc _).call hB12
  have hr12 := (hr11.alloc _).call hB12
  have hs12 := (hs11.alloc _).call hB12
  have hu12 := (hu11.alloc _).call hB12
  have hm12 := hm11.call hB12
  clear hx11 hf11 hp11 hr11 hs11 hu11 hm11
  have hz12 := DB.made w w12 27 hx12.later hI12 _ rfl
  obtain rfl : n12 = 0 := hI12.len.symm
  go_upto_region 10 with fail
  have dP := Lib.hid (hp12.alloc (.cells #[.bool Dc.zero.neg, .slice A12 0 c12, .int .i64 Dc.zero.s] 27)).at_
  have dR := Lib.hid (hr12.alloc (.cells #[.bool Dc.zero.neg, .slice A12 0 c12, .int .i64 Dc.zero.s] 27)).at_
  have dS := Lib.hid (hs12.alloc (.cells #[.bool Dc.zero.neg, .slice A12 0 c12, .int .i64 Dc.zero.s] 27)).at_
  have dU := Lib.hid (hu12.alloc (.cells #[.bool Dc.zero.neg, .slice A12 0 c12, .int .i64 Dc.zero.s] 27)).at_
  have dZ := Lib.hid hz12.at_
  have hL := hz12.later
  clear hp12 hr12 hs12 hu12 hz12 hx12 hf12 hm12
  generalize hwz : World.alloc w12 _ = wz at *
  clear hwz
  have s1 := Lib.hid (fun s : Ext wz => csame_at dP.out dR.out s)
  have s2 := Lib.hid (fun s : Ext wz => csame_at dS.out dU.out s)
  have K0 := dP.out.k0
  have K1 := dP.out.k1
  have K2 := dP.out.k2
  have L0 := dR.out.k0
  have L1 := dR.out.k1
  have L2 := dR.out.k2
  have M0 := dS.out.k0
  have M1 := dS.out.k1
  have M2 := dS.out.k2
  have N0 := dU.out.k0
  have N1 := dU.out.k1
  have N2 := dU.out.k2
  have O0 : ∀ s : Ext wz, s.world.cell? ⟨w12.heap.size, 0, none⟩ = some (.bool false) := dZ.out.k0
  have O1 := dZ.out.k1
  have O2 : ∀ s : Ext wz, s.world.cell? ⟨w12.heap.size, 2, none⟩ = some (.int .i64 0) := dZ.out.k2
  refine wp_region_ext (by kernel_rfl) (by kernel_rfl) ?_
  repeat (go_big_quiet_step (first
    | (go_at_call 35; exact quiet_ext _ (as6_any _ _ _))
    | (go_at_call 24; with_reducible exact quiet_ext _ (s1.out _))
    | (go_at_call 24; exact quiet_ext _ (s2.out _))
    | (go_at_call 37; exact quiet_ext _ (lives6_any _))))
  refine wpQuiet_nil ?_
  rintro _ ⟨s4, rfl⟩
  go_wp2_with fail
  go_ret
  exact ⟨rfl, below_from hL s4.h⟩

end Go.Proofs.Ytnndiikogaoeiaa
