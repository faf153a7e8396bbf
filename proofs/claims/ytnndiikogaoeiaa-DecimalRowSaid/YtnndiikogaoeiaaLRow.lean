/- The walk of DecimalRow. No condition. -/
import Derived.Test.YtnndiikogaoeiaaDe15
namespace Go.Proofs.Ytnndiikogaoeiaa
open Go.RowKit

set_option maxHeartbeats 4000000 in
theorem decimalRow_walk (w : World) {A0 : Option Addr} {n0 c0 : Nat} {l0 : List Int} {a0 : Int} {A1 : Option Addr} {n1 c1 : Nat} {l1 : List Int} {a1 : Int} {A2 : Option Addr} {n2 c2 : Nat} {l2 : List Int} {a2 : Int}
    (b0 : Bool) (w0 : IL w A0 n0 c0 l0) (i0 : I64 l0) (x0 : -9223372036854775808 ≤ a0 ∧ a0 ≤ 9223372036854775807) (b1 : Bool) (w1 : IL w A1 n1 c1 l1) (i1 : I64 l1) (x1 : -9223372036854775808 ≤ a1 ∧ a1 ≤ 9223372036854775807) (b2 : Bool) (w2 : IL w A2 n2 c2 l2) (i2 : I64 l2) (x2 : -9223372036854775808 ≤ a2 ∧ a2 ≤ 9223372036854775807) :
    Calls Try.prog 9 #[.agg #[.bool b0, .slice A0 n0 c0, .int .i64 a0], .agg #[.bool b1, .slice A1 n1 c1, .int .i64 a1], .agg #[.bool b2, .slice A2 n2 c2, .int .i64 a2]] w fun e w' => e = .returned (.bool true) ∧ Below w.heap.size w w' := by
  obtain ⟨X, hX, _, hg0⟩ := cgood_ex (A := A0) (n := n0) (c := c0) b0 a0 12 i0 x0 (by omega)
  obtain ⟨Y, hY, _, hg1⟩ := cgood_ex (A := A1) (n := n1) (c := c1) b1 a1 12 i1 x1 (by omega)
  obtain ⟨Z, hZ, _, hg2⟩ := cgood_ex (A := A2) (n := n2) (c := c2) b2 a2 12 i2 x2 (by omega)
  have hP1 := (Blk.made w (w.alloc (.cells #[.bool b0, .slice A0 n0 c0, .int .i64 a0] 24)) 24 #[.bool b1, .slice A1 n1 c1, .int .i64 a1] ((Later.refl w).alloc _) (w.heap.size + 1) (by simp)).alloc (.cells #[.bool b2, .slice A2 n2 c2, .int .i64 a2] 24)
  have hP2 := Blk.made w ((w.alloc (.cells #[.bool b0, .slice A0 n0 c0, .int .i64 a0] 24)).alloc (.cells #[.bool b1, .slice A1 n1 c1, .int .i64 a1] 24)) 24 #[.bool b2, .slice A2 n2 c2, .int .i64 a2] (((Later.refl w).alloc _).alloc _) (w.heap.size + 2) (by simp)
  go_enter Try.func9, Try.ntmps9
  go_wp2_with fail
  refine (hg0.out _ (((w0.alloc _).alloc _).alloc _)).mono ?_
  rintro e w3 ⟨A3, n3, c3, rfl, hI3, hB3, _⟩
  have hP13 := hP1.call hB3
  have hP23 := hP2.call hB3
  have hF3 := Blk.made w w3 24 #[.bool X.neg, .slice A3 n3 c3, .int .i64 X.s] hP13.later _ rfl
  have q0 := fun o => (hP13.alloc o).cells3.1.1
  have q1 := fun o => (hP13.alloc o).cells3.1.2.1
  have q2 := fun o => (hP13.alloc o).cells3.1.2.2
  go_wp2_with fail
  refine (hg1.out _ ((w1.later hP13.later).alloc _)).mono ?_
  rintro e w4 ⟨A4, n4, c4, rfl, hI4, hB4, _⟩
  have hP24 := (hP23.alloc _).call hB4
  have hF4 := hF3.call hB4
  have hG4 := Blk.made w w4 24 #[.bool Y.neg, .slice A4 n4 c4, .int .i64 Y.s] hF4.later _ rfl
  have r0 := fun o => (hP24.alloc o).cells3.1.1
  have r1 := fun o => (hP24.alloc o).cells3.1.2.1
  have r2 := fun o => (hP24.alloc o).cells3.1.2.2
  go_wp2_with fail
  refine (hg2.out _ ((w2.later hF4.later).alloc _)).mono ?_
  rintro e w5 ⟨A5, n5, c5, rfl, hI5, hB5, _⟩
  have hF5 := ((hF4.alloc _).call hB5).alloc (.cells #[.bool Z.neg, .slice A5 n5 c5, .int .i64 Z.s] 24)
  have hG5 := (hG4.call hB5).alloc (.cells #[.bool Z.neg, .slice A5 n5 c5, .int .i64 Z.s] 24)
  have hH5 := Blk.made w w5 24 #[.bool Z.neg, .slice A5 n5 c5, .int .i64 Z.s] (((hF4.alloc _).call hB5).later) _ rfl
  have hI3' := ((((hI3.alloc _).below hB4).alloc _).below hB5).alloc (.cells #[.bool Z.neg, .slice A5 n5 c5, .int .i64 Z.s] 24)
  have hI4' := ((hI4.alloc _).below hB5).alloc (.cells #[.bool Z.neg, .slice A5 n5 c5, .int .i64 Z.s] 24)
  have hI5' := hI5.alloc (.cells #[.bool Z.neg, .slice A5 n5 c5, .int .i64 Z.s] 24)
  go_upto_region 4 with fail
  obtain ⟨w6, hw6⟩ : ∃ w6, w6 = w5.alloc (.cells #[.bool Z.neg, .slice A5 n5 c5, .int .i64 Z.s] 24) := ⟨_, rfl⟩
  rw [← hw6] at hF5 hG5 hH5 hI3' hI4' hI5'
  rw [← hw6]
  clear hw6
  have dX := Lib.hid (hF5.dc hI3')
  have dY := Lib.hid (hG5.dc hI4')
  have dZ := Lib.hid (hH5.dc hI5')
  have hL6 : Later w w6 := hF5.later
  obtain ⟨n, hn⟩ : ∃ n, cmpDc X Y = n := ⟨_, rfl⟩
  obtain ⟨m, hm⟩ : ∃ m, cmpDc Y Z = m := ⟨_, rfl⟩
  obtain ⟨k, hk⟩ : ∃ k, cmpDc X Z = k := ⟨_, rfl⟩
  have hsw : cmpDc Y X = -n := by rw [cmpDc_swap, hn]
  have htr : n ≤ 0 → m ≤ 0 → k ≤ 0 := fun h1 h2 => by rw [← hk]; exact cmpDc_trans (by rw [hn]; exact h1) (by rw [hm]; exact h2)
  have hnb : -1 ≤ n ∧ n ≤ 1 := by rw [← hn]; exact cmpDc_bd _ _
  have hmb : -1 ≤ m ∧ m ≤ 1 := by rw [← hm]; exact cmpDc_bd _ _
  have c1 := Lib.hid (fun W (hW : Later w6 W) (s : Ext W) => ccompare_at (dX.out.later hW) (dY.out.later hW) hX hY (by omega) (by omega) s)
  have c2' := Lib.hid (fun W (hW : Later w6 W) (s : Ext W) => ccompare_at (dY.out.later hW) (dZ.out.later hW) hY hZ (by omega) (by omega) s)
  have c3' := Lib.hid (fun W (hW : Later w6 W) (s : Ext W) => ccompare_at (dY.out.later hW) (dX.out.later hW) hY hX (by omega) (by omega) s)
  have c4' := Lib.hid (fun W (hW : Later w6 W) (s : Ext W) => ccompare_at (dX.out.later hW) (dZ.out.later hW) hX hZ (by omega) (by omega) s)
  have c5' := Lib.hid (fun W (hW : Later w6 W) (s : Ext W) => rccompare_at (dX.out.later hW) (dY.out.later hW) hX hY (by omega) (by omega) s)
  rw [hn] at c1 c5'
  rw [hm] at c2'
  rw [hsw] at c3'
  rw [hk] at c4'
  clear hn hm hk hsw hF5 hG5 hH5 hI3' hI4' hI5'
  have K0 := dX.out.k0
  have K1 := dX.out.k1
  have K2 := dX.out.k2
  have L0 := dY.out.k0
  have L1 := dY.out.k1
  have L2 := dY.out.k2
  refine wp_region_ext (by kernel_rfl) (by kernel_rfl) ?_
  repeat (go_big_quiet_step (first
    | (go_at_call 33; exact quiet_ext _ (of6_any _ _ _))
    | (go_at_call 39; exact quiet_ext _ (c1.out _ (Later.refl _) _))))
  refine wpQuiet_nil ?_
  rintro _ ⟨s4, rfl⟩
  clear K0 K1 K2 L0 L1 L2
  generalize hwa : s4.world = wa
  have hLa : Later w6 wa := by rw [← hwa]; exact s4.h
  clear hwa
  go_upto_region 5 with fail
  have K0 := (dY.out.later hLa).k0
  have K1 := (dY.out.later hLa).k1
  have K2 := (dY.out.later hLa).k2
  have L0 := (dZ.out.later hLa).k0
  have L1 := (dZ.out.later hLa).k1
  have L2 := (dZ.out.later hLa).k2
  refine wp_region_ext (by kernel_rfl) (by kernel_rfl) ?_
  repeat (go_big_quiet_step (first
    | (go_at_call 33; exact quiet_ext _ (of6_any _ _ _))
    | (go_at_call 39; exact quiet_ext _ (c2'.out _ hLa _))))
  refine wpQuiet_nil ?_
  rintro _ ⟨s5, rfl⟩
  clear K0 K1 K2 L0 L1 L2
  generalize hwc : s5.world = wc
  have hLc : Later w6 wc := by rw [← hwc]; exact below_from hLa s5.h
  clear hwc
  go_upto_region 6 with fail
  have K0 := (dX.out.later hLc).k0
  have K1 := (dX.out.later hLc).k1
  have K2 := (dX.out.later hLc).k2
  have L0 := (dY.out.later hLc).k0
  have L1 := (dY.out.later hLc).k1
  have L2 := (dY.out.later hLc).k2
  have M0 := (dZ.out.later hLc).k0
  have M1 := (dZ.out.later hLc).k1
  have M2 := (dZ.out.later hLc).k2
  have hwr : IntKind.i64.wrap (-n) = -n := IntWalk.i64_in _ (by omega)
  have hcase : 0 < n ∨ (¬ 0 < n ∧ 0 < m) ∨ (¬ 0 < n ∧ ¬ 0 < m ∧ k ≤ 0) := by
    by_cases h1 : 0 < n
    · exact .inl h1
    · by_cases h2 : 0 < m
      · exact .inr (.inl ⟨h1, h2⟩)
      · exact .inr (.inr ⟨h1, h2, htr (by omega) (by omega)⟩)
  clear htr
  rcases hcase with h1 | ⟨h1, h2⟩ | ⟨h1, h2, h3⟩
  all_goals
    refine wp_region_ext (by kernel_rfl) (by kernel_rfl) ?_
    repeat (go_big_quiet_step (first
      | (go_at_call 33; exact quiet_ext _ (of6_any _ _ _))
      | (go_at_call 27; exact quiet_ext _ (c5'.out _ hLc _))
      | (go_at_call 39; with_reducible exact quiet_ext _ (c3'.out _ hLc _))
      | (go_at_call 39; exact quiet_ext _ (c4'.out _ hLc _))
      | (go_at_call 37; exact quiet_ext _ (lives6_any _))))
    refine wpQuiet_nil ?_
    rintro _ ⟨s6, rfl⟩
    clear hwr
    go_wp2_with fail
    go_ret
    exact ⟨rfl, below_from (below_from hL6 hLc) s6.h⟩

end Go.Proofs.Ytnndiikogaoeiaa
