/- The walk of RoundTo. No condition. -/
import Derived.Test.YtnndiikogaoeiaaRo5
import Derived.Test.YtnndiikogaoeiaaRo4
namespace Go.Proofs.Ytnndiikogaoeiaa
open Go.RowKit

set_option maxRecDepth 100000 in
set_option maxHeartbeats 8000000 in
theorem roundTo_walk (w : World) {A0 : Option Addr} {n0 c0 : Nat} {l0 : List Int} {a0 : Int} {a1 a2 : Int}
    (b0 : Bool) (w0 : IL w A0 n0 c0 l0) (i0 : I64 l0) (x0 : -9223372036854775808 ≤ a0 ∧ a0 ≤ 9223372036854775807) (w1 : -9223372036854775808 ≤ a1 ∧ a1 ≤ 9223372036854775807) (w2 : -9223372036854775808 ≤ a2 ∧ a2 ≤ 9223372036854775807) :
    Calls Try.prog 3 #[.agg #[.bool b0, .slice A0 n0 c0, .int .i64 a0], .int .i64 a1, .int .i64 a2] w fun e w' => e = .returned (.bool true) ∧ Below w.heap.size w w' := by
  obtain ⟨X, hX, _, hg⟩ := cgood_ex (A := A0) (n := n0) (c := c0) b0 a0 12 i0 x0 (by omega)
  obtain ⟨n1, l1, hn1, hl1, hfew⟩ : ∃ (n1 : Nat) (l1 : List Int), n1 ≤ 12 ∧ I64 l1 ∧ Hid (∀ W, IL W A0 n0 c0 l0 → Calls Try.prog 19 #[.agg #[.bool b0, .slice A0 n0 c0, .int .i64 a0], .int .i64 12] W (fun e w' => e = .returned (.agg #[.bool b0, .slice A0 n1 c0, .int .i64 a0]) ∧ IL w' A0 n1 c0 l1 ∧ Below W.heap.size W w')) :=
    ⟨min n0 12, l0.take 12, by omega, i0.take_ 12, fun W hW => cfew_any b0 a0 12 W hW (by omega)⟩
  obtain ⟨k, hk, hka⟩ : ∃ k : Int, (0 ≤ k ∧ k < 10) ∧ Hid (∀ W, Calls Try.prog 20 #[.int .i64 a1, .int .i64 10] W fun e w' => e = .returned (.int .i64 k) ∧ W = w') :=
    ⟨_, around_bd a1 10 (by omega), fun W => around_any a1 10 W w1.1 w1.2 (by omega) (by omega)⟩
  obtain ⟨q, hq, hqa⟩ : ∃ k : Int, (0 ≤ k ∧ k < 7) ∧ Hid (∀ W, Calls Try.prog 20 #[.int .i64 a2, .int .i64 7] W fun e w' => e = .returned (.int .i64 k) ∧ W = w') :=
    ⟨_, around_bd a2 7 (by omega), fun W => around_any a2 7 W w2.1 w2.2 (by omega) (by omega)⟩
  have hqv := Lib.hid (fun W => (hqa.out W).mono (fun e w' (h : e = .returned (.int .i64 q) ∧ W = w') => (⟨h.1, by rw [← h.2]; exact Below.refl _ _⟩ : RV W (.int .i64 q) e w')))
  have iX := I64_of_may hX.1
  have sX : -9223372036854775808 ≤ X.s ∧ X.s ≤ 9223372036854775807 := by have := hX.2.1; have := hX.2.2.1; omega
  have lX := hX.2.2.2
  have hTo := Lib.hid (fun (kk mm : Int) (hb : (-9223372036854775808 ≤ kk ∧ kk ≤ 9223372036854775807) ∧ (-9223372036854775808 ≤ mm ∧ mm ≤ 9223372036854775807)) => show ∃ D : Dc × Int,
      Hid (∀ A n c W, IL W A n c X.l → Calls Try.prog 21 #[.agg #[.bool X.neg, .slice A n c, .int .i64 X.s], .int .i64 kk, .int .i64 mm] W (RCE W D.1 D.2)) ∧
      Hid (∀ A n c W, IL W A n c X.l → Calls Try.prog 23 #[.agg #[.bool X.neg, .slice A n c, .int .i64 X.s], .int .i64 kk, .int .i64 mm] W (RCE W D.1 D.2)) from
    ⟨roundDc X kk mm, fun A n c W hW => rto_any X.neg X.s kk mm W hW iX sX hb.1 hb.2 (by have := hW.len; omega), fun A n c W hW => rrto_any X.neg X.s kk mm W hW iX sX hb.1 hb.2 (by have := hW.len; omega)⟩)
  obtain ⟨Q, hQ1, hQ2⟩ : ∃ D : Dc × Int, Hid (∀ W, IL W A0 n1 c0 l1 → Calls Try.prog 21 #[.agg #[.bool b0, .slice A0 n1 c0, .int .i64 a0], .int .i64 a1, .int .i64 a2] W (RCE W D.1 D.2)) ∧
      Hid (∀ W, IL W A0 n1 c0 l1 → Calls Try.prog 23 #[.agg #[.bool b0, .slice A0 n1 c0, .int .i64 a0], .int .i64 a1, .int .i64 a2] W (RCE W D.1 D.2)) :=
    ⟨roundDc ⟨b0, l1, a0⟩ a1 a2, fun W hW => rto_any b0 a0 a1 a2 W hW hl1 x0 w1 w2 (by omega), fun W hW => rrto_any b0 a0 a1 a2 W hW hl1 x0 w1 w2 (by omega)⟩
  obtain ⟨Q, ec⟩ := Q
  obtain ⟨D, hD1, hD2⟩ := hTo.out a1 q ⟨w1, by omega⟩
  obtain ⟨D, fc⟩ := D
  go_enter Try.func3, Try.ntmps3
  go_wp2_with fail
  refine (hg.out _ (w0.alloc _)).mono ?_
  rintro e w2 ⟨A2, n2, c2, rfl, hI2, hB2, _⟩
  have hp2 := (Blk.made w w 24 #[.bool b0, .slice A0 n0 c0, .int .i64 a0] (Later.refl w) _ rfl).call hB2
  have hL2 := hp2.later
  have q0 := fun o => (hp2.alloc o).cells3.1.1
  have q1 := fun o => (hp2.alloc o).cells3.1.2.1
  have q2 := fun o => (hp2.alloc o).cells3.1.2.2
  have hx2 := DB.made w w2 24 hL2 hI2 _ rfl
  go_wp2_with fail
  refine (hfew.out _ ((w0.later hL2).alloc _)).mono ?_
  rintro e w3 ⟨rfl, hI3, hB3⟩
  have hx3 := hx2.call hB3
  clear hx2
  clear q0 q1 q2 hp2 hI2
  have hf3 := DB.made w w3 24 hx3.later (X := ⟨b0, l1, a0⟩) hI3 _ rfl
  go_wp2_with fail
  refine (hka.out _).mono ?_
  rintro e w3x ⟨rfl, rfl⟩
  have hx4 := hx3.alloc (.cells #[.bool b0, .slice A0 n1 c0, .int .i64 a0] 24)
  have hf4 := hf3
  clear hx3 hf3 hI3 hB2 hB3 hL2
  go_upto_region 5 with fail
  generalize World.alloc w3 _ = w4 at *
  go_loopw [10] (fun v wr => ∃ mm : Int, (-1 ≤ mm ∧ mm ≤ 8) ∧ v = .int .i64 mm ∧ DB w w2.heap.size 24 A2 n2 c2 X wr ∧ DB w w3.heap.size 24 A0 n1 c0 ⟨b0, l1, a0⟩ wr) (fun v _ => (8 - intOf v).toNat)
  case atStart => exact ⟨-1, by omega, rfl, hx4, hf4⟩
  case round =>
    obtain ⟨mm, hmm, rfl, hxr, hfr⟩ := hrel
    obtain ⟨wu, hwu⟩ : ∃ wu, wu = wr := ⟨_, rfl⟩
    rw [← hwu] at hxr hfr
    rw [← hwu]
    clear hwu hx4 hf4
    by_cases hlt : mm < 8
    · obtain ⟨E, hE1, hE2⟩ := hTo.out k mm ⟨by omega, by omega⟩
      obtain ⟨E, gc⟩ := E
      have qx0 := hxr.c0
      have qx1 := hxr.c1
      have qx2 := hxr.c2
      go_wp2_with fail
      refine (of7_any _ _ _).mono ?_
      rintro e w5 ⟨rfl, hB5⟩
      clear qx0 qx1 qx2
      have hx5 := hxr.call hB5
      have hf5 := hfr.call hB5
      clear hxr hfr
      go_wp2_with fail
      refine (hE1.out _ _ _ _ hx5.il).mono ?_
      rintro e w6 ⟨A6, n6, c6, rfl, hI6, hB6, _⟩
      have hx6 := hx5.call hB6
      have hf6 := hf5.call hB6
      clear hx5 hf5
      have hp6 := DB.made w w6 27 hx6.later hI6 _ rfl
      have qx0 := fun o => (hx6.alloc o).c0
      have qx1 := fun o => (hx6.alloc o).c1
      have qx2 := fun o => (hx6.alloc o).c2
      go_wp2_with fail
      refine (hE2.out _ _ _ _ (hx6.alloc _).il).mono ?_
      rintro e w7 ⟨A7, n7, c7, rfl, hI7, hB7, _⟩
      clear qx0 qx1 qx2
      have hx7 := (hx6.alloc _).call hB7
      have hf7 := (hf6.alloc _).call hB7
      have hp7 := hp6.call hB7
      clear hx6 hf6 hp6
      have hr7 := DB.made w w7 24 hx7.later hI7 _ rfl
      go_upto_region 9 with fail
      have hx8 := hx7.alloc (.cells #[.bool E.neg, .slice A7 n7 c7, .int .i64 E.s] 24)
      have hf8 := hf7.alloc (.cells #[.bool E.neg, .slice A7 n7 c7, .int .i64 E.s] 24)
      have hp8 := hp7.alloc (.cells #[.bool E.neg, .slice A7 n7 c7, .int .i64 E.s] 24)
      clear hx7 hf7 hp7
      generalize World.alloc w7 _ = w8 at *
      have d1 := Lib.hid hp8.at_
      have d2 := Lib.hid hr7.at_
      clear hp8 hr7
      have hsm := Lib.hid (fun s : Ext w8 => csame_at d1.out d2.out s)
      have K0 := d1.out.k0
      have K1 := d1.out.k1
      have K2 := d1.out.k2
      have M0 := d2.out.k0
      have M1 := d2.out.k1
      have M2 := d2.out.k2
      refine wp_region_ext (by kernel_rfl) (by kernel_rfl) ?_
      repeat (go_big_quiet_step (first
        | (go_at_call 25; exact quiet_ext _ (as7_any _ _ _))
        | (go_at_call 24; exact quiet_ext _ (hsm.out _))))
      refine wpQuiet_nil ?_
      rintro _ ⟨s, rfl⟩
      clear K0 K1 K2 M0 M1 M2 hsm
      go_wp2_with fail
      go_roundw
      case rel => first | exact ⟨mm + 1, by omega, by go_num, hx8.call s.h, hf8.call s.h⟩ | ((repeat apply Exists.intro); exact ⟨⟨mm + 1, by omega, by go_num, hx8.call s.h, hf8.call s.h⟩, rfl⟩)
      case measure => simp [intOf]; omega
    · have : mm = 8 := by omega
      subst this
      have qf0 := hfr.c0
      have qf1 := hfr.c1
      have qf2 := hfr.c2
      go_wp2_with fail
      refine (of7_any _ _ _).mono ?_
      rintro e w5 ⟨rfl, hB5⟩
      clear qf0 qf1 qf2
      have hx5 := hxr.call hB5
      have hf5 := hfr.call hB5
      clear hxr hfr
      go_wp2_with fail
      refine (hQ1.out _ hf5.il).mono ?_
      rintro e w6 ⟨A6, n6, c6, rfl, hI6, hB6, _⟩
      have hx6 := hx5.call hB6
      have hf6 := hf5.call hB6
      clear hx5 hf5
      have hp6 := DB.made w w6 27 hx6.later hI6 _ rfl
      have qf0 := fun o => (hf6.alloc o).c0
      have qf1 := fun o => (hf6.alloc o).c1
      have qf2 := fun o => (hf6.alloc o).c2
      go_wp2_with fail
      refine (hQ2.out _ (hf6.alloc _).il).mono ?_
      rintro e w7 ⟨A7, n7, c7, rfl, hI7, hB7, _⟩
      clear qf0 qf1 qf2
      have hx7 := (hx6.alloc _).call hB7
      have hf7 := (hf6.alloc _).call hB7
      have hp7 := hp6.call hB7
      clear hx6 hf6 hp6
      have hr7 := DB.made w w7 24 hx7.later hI7 _ rfl
      have qx0 := fun o => (hx7.alloc o).c0
      have qx1 := fun o => (hx7.alloc o).c1
      have qx2 := fun o => (hx7.alloc o).c2
      go_wp2_with fail
      refine (of7_any _ _ _).mono ?_
      rintro e w8 ⟨rfl, hB8⟩
      clear qx0 qx1 qx2
      have hx8 := (hx7.alloc _).call hB8
      have hf8 := (hf7.alloc _).call hB8
      have hp8 := (hp7.alloc _).call hB8
      have hr8 := hr7.call hB8
      clear hx7 hf7 hp7 hr7
      go_wp2_with fail
      refine (hqa.out _).mono ?_
      rintro e w8x ⟨rfl, rfl⟩
      go_wp2_with fail
      refine (hD1.out _ _ _ _ hx8.il).mono ?_
      rintro e w9 ⟨A9, n9, c9, rfl, hI9, hB9, _⟩
      have hx9 := hx8.call hB9
      have hf9 := hf8.call hB9
      have hp9 := hp8.call hB9
      have hr9 := hr8.call hB9
      clear hx8 hf8 hp8 hr8
      have hu9 := DB.made w w9 27 hx9.later hI9 _ rfl
      go_upto_region 14 with fail
      have hx10 := hx9.alloc (.cells #[.bool D.neg, .slice A9 n9 c9, .int .i64 D.s] 27)
      have hp10 := hp9.alloc (.cells #[.bool D.neg, .slice A9 n9 c9, .int .i64 D.s] 27)
      have hr10 := hr9.alloc (.cells #[.bool D.neg, .slice A9 n9 c9, .int .i64 D.s] 27)
      clear hx9 hp9 hr9 hf9
      generalize World.alloc w9 _ = wb at *
      have HS : Hid (∀ W, Later wb W → ((W.cell? ⟨w2.heap.size, 0, none⟩ = some (.bool X.neg) ∧ W.cell? ⟨w2.heap.size, 1, none⟩ = some (.slice A2 n2 c2) ∧ W.cell? ⟨w2.heap.size, 2, none⟩ = some (.int .i64 X.s))) ∧ Later wb W) := fun W hW => ⟨(hx10.call hW).at_.1, hW⟩
      have hxi := Lib.hid (fun W (hW : Later wb W) => (hx10.call hW).il)
      go_upto_region 14 with fail
      go_cut [21, 22] (fun sP sC W => ∃ (g : Nat) (A1 : Option Addr) (n1 c1 : Nat), sP = .pointer (some ⟨g, 0, none⟩) ∧ sC = .int .i64 fc ∧ DB wb g 24 A1 n1 c1 D W)
      case first =>
        go_region_held3 (fun W => ((W.cell? ⟨w2.heap.size, 0, none⟩ = some (.bool X.neg) ∧ W.cell? ⟨w2.heap.size, 1, none⟩ = some (.slice A2 n2 c2) ∧ W.cell? ⟨w2.heap.size, 2, none⟩ = some (.int .i64 X.s))) ∧ Later wb W)
          ((refine HS.out _ ?_; repeat (first | exact And.right (by assumption) | exact Later.refl _ | refine Later.drew ?_ | refine Later.alloc ?_ _ | refine Later.setCell ?_ (by first | exact Nat.le_refl _ | exact hL1.size | exact hL2.size) _ | refine Later.call ?_ hB1 | refine Later.call ?_ hB2)))
          (first
            | (go_at_call 23; have _t := hB1; refine (hD2.out _ _ _ _ (hxi.out _ (And.right (by assumption)))).mono ?_; rintro e wc2 ⟨A1, n1, c1, rfl, hI1, hB2, hN1⟩; have hL2 : Later wb wc2 := Later.call (And.right (by assumption)) hB2; first | (have kb := kb.call hB2; have kl := kb.lt; obtain ⟨⟨z0, z1, z2⟩, ⟨z3, z4, z5⟩⟩ := kb.cells3) | (have hC : Below (wc1.alloc (.cells #[.bool false, .slice none 0 0, .int .i64 0] 24)).heap.size (wc1.alloc (.cells #[.bool false, .slice none 0 0, .int .i64 0] 24)) wc2 := (by with_reducible exact hB2); have kb := (Blk.made wb wc1 24 _ hL1 _ rfl).call hC; have kl := kb.lt; obtain ⟨⟨z0, z1, z2⟩, ⟨z3, z4, z5⟩⟩ := kb.cells3) | skip)
            | (go_at_call 20; refine (hqv.out _).mono ?_; rintro e wc1 ⟨rfl, hB1⟩; have hL1 : Later wb wc1 := Later.call (And.right (by assumption)) hB1; first | (have hC : Below ((wb.alloc (.cells #[.bool false, .slice none 0 0, .int .i64 0] 24)).drew).heap.size ((wb.alloc (.cells #[.bool false, .slice none 0 0, .int .i64 0] 24)).drew) wc1 := (by with_reducible exact hB1); have kb := (Blk.made wb wb 24 _ (Later.refl wb) _ rfl).drew.call hC; have kl := kb.lt; obtain ⟨⟨z0, z1, z2⟩, ⟨z3, z4, z5⟩⟩ := kb.cells3) | skip))
        all_goals
          go_wp2_with fail
          go_meet
          first
          | (have _k := kb; exact ⟨_, A1, n1, c1, rfl, rfl, DB.store kb hI1 (fun hz a ha => by have := hN1 hz a ha; (try simp at this); omega)⟩)
          | exact ⟨_, A1, n1, c1, rfl, rfl, DB.made wb wc2 _ hL2 hI1 _ rfl⟩
      case rest =>
        obtain ⟨g, A11, n11, c11, rfl, rfl, hv⟩ := hcut
        have hLc : Later wb wc := hv.later
        have z1 := Lib.hid (hp10.call hLc).at_
        have z2 := Lib.hid (hr10.call hLc).at_
        have z3 := Lib.hid (hu9.call hLc).at_
        have z4 := Lib.hid hv.at_
        have hLw := below_from hx10.later hLc
        clear hp10 hr10 hu9 hv hx10
        have hsm := Lib.hid (fun s : Ext wc => csame_at z1.out z2.out s)
        have hsn := Lib.hid (fun s : Ext wc => csame_at z3.out z4.out s)
        have K0 := z1.out.k0
        have K1 := z1.out.k1
        have K2 := z1.out.k2
        have M0 := z2.out.k0
        have M1 := z2.out.k1
        have M2 := z2.out.k2
        have N0 := z3.out.k0
        have N1 := z3.out.k1
        have N2 := z3.out.k2
        have O0 := z4.out.k0
        have O1 := z4.out.k1
        have O2 := z4.out.k2
        go_upto_region 15 with fail
        refine wp_region_ext (by kernel_rfl) (by kernel_rfl) ?_
        repeat (go_big_quiet_step (first
          | (go_at_call 25; exact quiet_ext _ (as7_any _ _ _))
          | (go_at_call 24; with_reducible exact quiet_ext _ (hsm.out _))
          | (go_at_call 24; exact quiet_ext _ (hsn.out _))
          | (go_at_call 26; exact quiet_ext _ (lives7_any _))))
        refine wpQuiet_nil ?_
        rintro _ ⟨s4, rfl⟩
        go_wp2_with fail
        go_ret
        exact ⟨rfl, below_from hLw s4.h⟩

end Go.Proofs.Ytnndiikogaoeiaa
