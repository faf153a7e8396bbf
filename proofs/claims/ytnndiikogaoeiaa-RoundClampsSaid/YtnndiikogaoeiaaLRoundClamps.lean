/- The walk of RoundClamps. No condition. -/
import Derived.Test.YtnndiikogaoeiaaRo6
namespace Go.Proofs.Ytnndiikogaoeiaa
open Go.RowKit

set_option maxRecDepth 100000 in
set_option maxHeartbeats 8000000 in
theorem roundClamps_walk (w : World) {A0 : Option Addr} {n0 c0 : Nat} {l0 : List Int} {a0 : Int} {A1 : Option Addr} {n1 c1 : Nat} {l1 : List Int} {a1 : Int} {A2 : Option Addr} {n2 c2 : Nat} {l2 : List Int} {a2 : Int}
    (b0 : Bool) (w0 : IL w A0 n0 c0 l0) (i0 : I64 l0) (x0 : -9223372036854775808 ≤ a0 ∧ a0 ≤ 9223372036854775807) (b1 : Bool) (w1 : IL w A1 n1 c1 l1) (i1 : I64 l1) (x1 : -9223372036854775808 ≤ a1 ∧ a1 ≤ 9223372036854775807) (b2 : Bool) (w2 : IL w A2 n2 c2 l2) (i2 : I64 l2) (x2 : -9223372036854775808 ≤ a2 ∧ a2 ≤ 9223372036854775807) :
    Calls Try.prog 15 #[.agg #[.bool b0, .slice A0 n0 c0, .int .i64 a0], .agg #[.bool b1, .slice A1 n1 c1, .int .i64 a1], .agg #[.bool b2, .slice A2 n2 c2, .int .i64 a2]] w fun e w' => e = .returned (.bool true) ∧ Below w.heap.size w w' := by
  obtain ⟨X, hX, _, hg0⟩ := cgood_ex (A := A0) (n := n0) (c := c0) b0 a0 12 i0 x0 (by omega)
  obtain ⟨Y, hY, _, hg1⟩ := cgood_ex (A := A1) (n := n1) (c := c1) b1 a1 12 i1 x1 (by omega)
  obtain ⟨Z, hZ, _, hg2⟩ := cgood_ex (A := A2) (n := n2) (c := c2) b2 a2 12 i2 x2 (by omega)
  obtain ⟨m0, r0, hm0, hr0, hfew0⟩ : ∃ (m : Nat) (r : List Int), m ≤ 12 ∧ I64 r ∧ Hid (∀ W, IL W A0 n0 c0 l0 → Calls Try.prog 19 #[.agg #[.bool b0, .slice A0 n0 c0, .int .i64 a0], .int .i64 12] W (fun e w' => e = .returned (.agg #[.bool b0, .slice A0 m c0, .int .i64 a0]) ∧ IL w' A0 m c0 r ∧ Below W.heap.size W w')) :=
    ⟨min n0 12, l0.take 12, by omega, i0.take_ 12, fun W hW => cfew_any b0 a0 12 W hW (by omega)⟩
  obtain ⟨m1, r1, hm1, hr1, hfew1⟩ : ∃ (m : Nat) (r : List Int), m ≤ 12 ∧ I64 r ∧ Hid (∀ W, IL W A1 n1 c1 l1 → Calls Try.prog 19 #[.agg #[.bool b1, .slice A1 n1 c1, .int .i64 a1], .int .i64 12] W (fun e w' => e = .returned (.agg #[.bool b1, .slice A1 m c1, .int .i64 a1]) ∧ IL w' A1 m c1 r ∧ Below W.heap.size W w')) :=
    ⟨min n1 12, l1.take 12, by omega, i1.take_ 12, fun W hW => cfew_any b1 a1 12 W hW (by omega)⟩
  obtain ⟨m2, r2, hm2, hr2, hfew2⟩ : ∃ (m : Nat) (r : List Int), m ≤ 12 ∧ I64 r ∧ Hid (∀ W, IL W A2 n2 c2 l2 → Calls Try.prog 19 #[.agg #[.bool b2, .slice A2 n2 c2, .int .i64 a2], .int .i64 12] W (fun e w' => e = .returned (.agg #[.bool b2, .slice A2 m c2, .int .i64 a2]) ∧ IL w' A2 m c2 r ∧ Below W.heap.size W w')) :=
    ⟨min n2 12, l2.take 12, by omega, i2.take_ 12, fun W hW => cfew_any b2 a2 12 W hW (by omega)⟩
  have iX := I64_of_may hX.1
  have lX := hX.2.2.2
  have bX := hX.2.2.1
  have bX0 := hX.2.1
  have iY := I64_of_may hY.1
  have lY := hY.2.2.2
  have bY := hY.2.2.1
  have bY0 := hY.2.1
  have iZ := I64_of_may hZ.1
  have lZ := hZ.2.2.2
  have bZ := hZ.2.2.1
  have bZ0 := hZ.2.1
  have hp0 := ((Blk.made w w 24 #[.bool b0, .slice A0 n0 c0, .int .i64 a0] (Later.refl w) _ rfl).alloc (.cells #[.bool b1, .slice A1 n1 c1, .int .i64 a1] 24)).alloc (.cells #[.bool b2, .slice A2 n2 c2, .int .i64 a2] 24)
  have hp1 := (Blk.made w (w.alloc (.cells #[.bool b0, .slice A0 n0 c0, .int .i64 a0] 24)) 24 #[.bool b1, .slice A1 n1 c1, .int .i64 a1] ((Later.refl w).alloc _) (w.heap.size + 1) (by simp)).alloc (.cells #[.bool b2, .slice A2 n2 c2, .int .i64 a2] 24)
  have hp2 := Blk.made w ((w.alloc (.cells #[.bool b0, .slice A0 n0 c0, .int .i64 a0] 24)).alloc (.cells #[.bool b1, .slice A1 n1 c1, .int .i64 a1] 24)) 24 #[.bool b2, .slice A2 n2 c2, .int .i64 a2] (((Later.refl w).alloc _).alloc _) (w.heap.size + 2) (by simp)
  have w01 := ((w0.alloc (.cells #[.bool b0, .slice A0 n0 c0, .int .i64 a0] 24)).alloc (.cells #[.bool b1, .slice A1 n1 c1, .int .i64 a1] 24)).alloc (.cells #[.bool b2, .slice A2 n2 c2, .int .i64 a2] 24)
  have w11 := ((w1.alloc (.cells #[.bool b0, .slice A0 n0 c0, .int .i64 a0] 24)).alloc (.cells #[.bool b1, .slice A1 n1 c1, .int .i64 a1] 24)).alloc (.cells #[.bool b2, .slice A2 n2 c2, .int .i64 a2] 24)
  have w21 := ((w2.alloc (.cells #[.bool b0, .slice A0 n0 c0, .int .i64 a0] 24)).alloc (.cells #[.bool b1, .slice A1 n1 c1, .int .i64 a1] 24)).alloc (.cells #[.bool b2, .slice A2 n2 c2, .int .i64 a2] 24)
  go_enter Try.func15, Try.ntmps15
  go_upto_region 1 with fail
  generalize World.alloc (World.alloc (World.alloc w _) _) _ = wb at *
  have hLb0 := hp2.later
  have hbb : Later wb wb := Later.refl wb
  have HS0 : Hid (∀ W, Later wb W → (W.cell? ⟨w.heap.size, 0, none⟩ = some (.bool b0) ∧ W.cell? ⟨w.heap.size, 1, none⟩ = some (.slice A0 n0 c0) ∧ W.cell? ⟨w.heap.size, 2, none⟩ = some (.int .i64 a0)) ∧ Later wb W) := fun W hW => ⟨(hp0.call (below_from hbb hW)).cells3.1, hW⟩
  go_region_held3 (fun W => (W.cell? ⟨w.heap.size, 0, none⟩ = some (.bool b0) ∧ W.cell? ⟨w.heap.size, 1, none⟩ = some (.slice A0 n0 c0) ∧ W.cell? ⟨w.heap.size, 2, none⟩ = some (.int .i64 a0)) ∧ Later wb W)
    ((refine HS0.out _ ?_; repeat (first | exact And.right (by assumption) | exact Later.refl _ | refine Later.drew ?_ | refine Later.alloc ?_ _ | refine Later.call ?_ hB1 | refine Later.call ?_ hB2)))
    (first
      | (go_at_call 19; refine (hfew0.out _ (w01.later (below_from hbb (And.right (by assumption))))).mono ?_; rintro e wc2 ⟨rfl, hI2, hB2⟩; have hL2 : Later wb wc2 := Later.call (And.right (by assumption)) hB2)
      | (go_at_call 18; refine (hg0.out _ (w01.later (below_from hbb (And.right (by assumption))))).mono ?_; rintro e wc1 ⟨C1, k1, q1, rfl, hI1, hB1, _⟩; have hL1 : Later wb wc1 := Later.call (And.right (by assumption)) hB1))
  go_upto_region 2 with fail
  generalize hwd : World.alloc wc2 _ = wd
  have hLd : Later wc2 wd := by rw [← hwd]; exact (Later.refl wc2).alloc _
  have hbd : Later wb wd := below_from hL2 hLd
  have HS1 : Hid (∀ W, Later wd W → (W.cell? ⟨w.heap.size + 1, 0, none⟩ = some (.bool b1) ∧ W.cell? ⟨w.heap.size + 1, 1, none⟩ = some (.slice A1 n1 c1) ∧ W.cell? ⟨w.heap.size + 1, 2, none⟩ = some (.int .i64 a1)) ∧ Later wd W) := fun W hW => ⟨(hp1.call (below_from hbd hW)).cells3.1, hW⟩
  go_region_held3 (fun W => (W.cell? ⟨w.heap.size + 1, 0, none⟩ = some (.bool b1) ∧ W.cell? ⟨w.heap.size + 1, 1, none⟩ = some (.slice A1 n1 c1) ∧ W.cell? ⟨w.heap.size + 1, 2, none⟩ = some (.int .i64 a1)) ∧ Later wd W)
    ((refine HS1.out _ ?_; repeat (first | exact And.right (by assumption) | exact Later.refl _ | refine Later.drew ?_ | refine Later.alloc ?_ _ | refine Later.call ?_ hB3 | refine Later.call ?_ hB4)))
    (first
      | (go_at_call 19; refine (hfew1.out _ (w11.later (below_from hbd (And.right (by assumption))))).mono ?_; rintro e wc4 ⟨rfl, hI4, hB4⟩; have hL4 : Later wd wc4 := Later.call (And.right (by assumption)) hB4)
      | (go_at_call 18; refine (hg1.out _ (w11.later (below_from hbd (And.right (by assumption))))).mono ?_; rintro e wc3 ⟨C3, k3, q3, rfl, hI3, hB3, _⟩; have hL3 : Later wd wc3 := Later.call (And.right (by assumption)) hB3))
  go_upto_region 3 with fail
  generalize hwe : World.alloc wc4 _ = we
  have hLe : Later wc4 we := by rw [← hwe]; exact (Later.refl wc4).alloc _
  have hbe : Later wb we := below_from hbd (below_from hL4 hLe)
  have HS2 : Hid (∀ W, Later we W → (W.cell? ⟨w.heap.size + 2, 0, none⟩ = some (.bool b2) ∧ W.cell? ⟨w.heap.size + 2, 1, none⟩ = some (.slice A2 n2 c2) ∧ W.cell? ⟨w.heap.size + 2, 2, none⟩ = some (.int .i64 a2)) ∧ Later we W) := fun W hW => ⟨(hp2.call (below_from hbe hW)).cells3.1, hW⟩
  go_region_held3 (fun W => (W.cell? ⟨w.heap.size + 2, 0, none⟩ = some (.bool b2) ∧ W.cell? ⟨w.heap.size + 2, 1, none⟩ = some (.slice A2 n2 c2) ∧ W.cell? ⟨w.heap.size + 2, 2, none⟩ = some (.int .i64 a2)) ∧ Later we W)
    ((refine HS2.out _ ?_; repeat (first | exact And.right (by assumption) | exact Later.refl _ | refine Later.drew ?_ | refine Later.alloc ?_ _ | refine Later.call ?_ hB5 | refine Later.call ?_ hB6)))
    (first
      | (go_at_call 19; refine (hfew2.out _ (w21.later (below_from hbe (And.right (by assumption))))).mono ?_; rintro e wc6 ⟨rfl, hI6, hB6⟩; have hL6 : Later we wc6 := Later.call (And.right (by assumption)) hB6)
      | (go_at_call 18; refine (hg2.out _ (w21.later (below_from hbe (And.right (by assumption))))).mono ?_; rintro e wc5 ⟨C5, k5, q5, rfl, hI5, hB5, _⟩; have hL5 : Later we wc5 := Later.call (And.right (by assumption)) hB5))
  go_wp2_with fail
  generalize hw9 : World.alloc wc6 _ = w9
  have h69 : Later wc6 w9 := by rw [← hw9]; exact (Later.refl wc6).alloc _
  have he9 : Later we w9 := below_from hL6 h69
  have h49 : Later wc4 w9 := below_from hLe he9
  have hd9 : Later wd w9 := below_from hL4 h49
  have h29 : Later wc2 w9 := below_from hLd hd9
  have hL9 : Later w w9 := below_from hLb0 (below_from hbd hd9)
  obtain ⟨F, G, H, hF⟩ : ∃ (F G H : Nat → CV), ∀ i, i < 2 → ((F i).at_ w9 wc2.heap.size (i * 3) ∧ (F i).ok w9 ∧ I64 (F i).X.l ∧ (F i).n ≤ 12 ∧ (-9223372036854775808 ≤ (F i).X.s ∧ (F i).X.s ≤ 9223372036854775807)) ∧ ((G i).at_ w9 wc4.heap.size (i * 3) ∧ (G i).ok w9 ∧ I64 (G i).X.l ∧ (G i).n ≤ 12 ∧ (-9223372036854775808 ≤ (G i).X.s ∧ (G i).X.s ≤ 9223372036854775807)) ∧ ((H i).at_ w9 wc6.heap.size (i * 3) ∧ (H i).ok w9 ∧ I64 (H i).X.l ∧ (H i).n ≤ 12 ∧ (-9223372036854775808 ≤ (H i).X.s ∧ (H i).X.s ≤ 9223372036854775807)) := by
    refine ⟨fun i => if i = 0 then ⟨C1, k1, q1, X⟩ else ⟨A0, m0, c0, ⟨b0, r0, a0⟩⟩, fun i => if i = 0 then ⟨C3, k3, q3, Y⟩ else ⟨A1, m1, c1, ⟨b1, r1, a1⟩⟩, fun i => if i = 0 then ⟨C5, k5, q5, Z⟩ else ⟨A2, m2, c2, ⟨b2, r2, a2⟩⟩, ?_⟩
    intro i hi
    have hc0 : ∀ i, w9.cell? ⟨wc2.heap.size, i, none⟩ = (#[.bool X.neg, .slice C1 k1 q1, .int .i64 X.s, .bool b0, .slice A0 m0 c0, .int .i64 a0] : Array Value)[i]? := by
      intro i
      have hlt : wc2.heap.size < wd.heap.size := by rw [← hwd]; simp
      rw [Below.cell hd9 (p := ⟨wc2.heap.size, i, none⟩) hlt, ← hwd, World.cell?_alloc_at _ _ _ _ rfl]
    have hc1 : ∀ i, w9.cell? ⟨wc4.heap.size, i, none⟩ = (#[.bool Y.neg, .slice C3 k3 q3, .int .i64 Y.s, .bool b1, .slice A1 m1 c1, .int .i64 a1] : Array Value)[i]? := by
      intro i
      have hlt : wc4.heap.size < we.heap.size := by rw [← hwe]; simp
      rw [Below.cell he9 (p := ⟨wc4.heap.size, i, none⟩) hlt, ← hwe, World.cell?_alloc_at _ _ _ _ rfl]
    have hc2 : ∀ i, w9.cell? ⟨wc6.heap.size, i, none⟩ = (#[.bool Z.neg, .slice C5 k5 q5, .int .i64 Z.s, .bool b2, .slice A2 m2 c2, .int .i64 a2] : Array Value)[i]? := by
      intro i
      rw [← hw9, World.cell?_alloc_at _ _ _ _ rfl]
    have g0 := (hI1.below hB2).later h29
    have f0 := hI2.later h29
    have e0 := g0.len
    have g1 := (hI3.below hB4).later h49
    have f1 := hI4.later h49
    have e1 := g1.len
    have g2 := (hI5.below hB6).later h69
    have f2 := hI6.later h69
    have e2 := g2.len
    have hkk : i = 0 ∨ i = 1 := by omega
    rcases hkk with rfl | rfl
    · exact ⟨⟨⟨hc0 0, hc0 1, hc0 2⟩, g0, iX, (by show k1 ≤ 12; omega), (by show _ ≤ X.s ∧ X.s ≤ _; omega)⟩, ⟨⟨hc1 0, hc1 1, hc1 2⟩, g1, iY, (by show k3 ≤ 12; omega), (by show _ ≤ Y.s ∧ Y.s ≤ _; omega)⟩, ⟨⟨hc2 0, hc2 1, hc2 2⟩, g2, iZ, (by show k5 ≤ 12; omega), (by show _ ≤ Z.s ∧ Z.s ≤ _; omega)⟩⟩
    · exact ⟨⟨⟨hc0 3, hc0 4, hc0 5⟩, f0, hr0, hm0, x0⟩, ⟨⟨hc1 3, hc1 4, hc1 5⟩, f1, hr1, hm1, x1⟩, ⟨⟨hc2 3, hc2 4, hc2 5⟩, f2, hr2, hm2, x2⟩⟩
  have HF := Lib.hid hF
  clear hF hw9 h49 h69 he9 hd9 h29 hwd hwe hI1 hI2 hI3 hI4 hI5 hI6 hB1 hB2 hB3 hB4 hB5 hB6 hL2 hL3 hL4 hL5 hL6 HS0 HS1 HS2 hX hY hZ hr0 hm0 hr1 hm1 hr2 hm2 hp0 hp1 hp2 w01 w11 w21
  go_loopw [10] (fun v wr => ∃ i : Nat, i ≤ 2 ∧ v = .int .i64 i ∧ Later w9 wr) (fun v _ => 2 - (intOf v).toNat)
  case atStart => exact ⟨0, by omega, rfl, Later.refl _⟩
  case round =>
    obtain ⟨i, hi, rfl, hL⟩ := hrel
    by_cases hlt : i < 2
    · obtain ⟨⟨hx1, hx2, hx3, hx4, hx5⟩, ⟨hy1, hy2, hy3, hy4, hy5⟩, ⟨hz1, hz2, hz3, hz4, hz5⟩⟩ := HF.out i hlt
      generalize F i = x at *
      generalize G i = y at *
      generalize H i = z at *
      obtain ⟨wb2, hwb⟩ : ∃ wb, wb = wr := ⟨_, rfl⟩
      rw [← hwb] at hL
      rw [← hwb]
      clear hwb
      have HS : Hid (∀ W, Later wb2 W → ((W.cell? ⟨wc2.heap.size, i * 3, none⟩ = some (.bool x.X.neg) ∧ W.cell? ⟨wc2.heap.size, i * 3 + 1, none⟩ = some (.slice x.A x.n x.c) ∧ W.cell? ⟨wc2.heap.size, i * 3 + 2, none⟩ = some (.int .i64 x.X.s)) ∧ (W.cell? ⟨wc4.heap.size, i * 3, none⟩ = some (.bool y.X.neg) ∧ W.cell? ⟨wc4.heap.size, i * 3 + 1, none⟩ = some (.slice y.A y.n y.c) ∧ W.cell? ⟨wc4.heap.size, i * 3 + 2, none⟩ = some (.int .i64 y.X.s)) ∧ (W.cell? ⟨wc6.heap.size, i * 3, none⟩ = some (.bool z.X.neg) ∧ W.cell? ⟨wc6.heap.size, i * 3 + 1, none⟩ = some (.slice z.A z.n z.c) ∧ W.cell? ⟨wc6.heap.size, i * 3 + 2, none⟩ = some (.int .i64 z.X.s))) ∧ Later wb2 W) := by
        intro W hW
        have hLW : Later w9 W := below_from hL hW
        exact ⟨⟨hx1.later hLW, hy1.later hLW, hz1.later hLW⟩, hW⟩
      have hi3 : (i : Int) < 2 := by omega
      have hi0 : (0 : Int) ≤ (i : Int) := by omega
      have hxw := Lib.hid (fun W (hW : Later wb2 W) => (hx2.later (below_from hL hW) : x.ok W))
      have hyw := Lib.hid (fun W (hW : Later wb2 W) => (hy2.later (below_from hL hW) : y.ok W))
      have hzw := Lib.hid (fun W (hW : Later wb2 W) => (hz2.later (below_from hL hW) : z.ok W))
      obtain ⟨D, hD⟩ : ∃ D, Hid (D = clampDc x.X y.X z.X) := ⟨_, rfl⟩
      have hs1 := Lib.hid (fun W (hW : Later wb2 W) => show Calls Try.prog 50 #[.agg #[.bool x.X.neg, .slice x.A x.n x.c, .int .i64 x.X.s], .agg #[.bool y.X.neg, .slice y.A y.n y.c, .int .i64 y.X.s], .agg #[.bool z.X.neg, .slice z.A z.n z.c, .int .i64 z.X.s]] W (RCE W D.1 D.2) by
        rw [hD.out]; exact cclamp_any x.X y.X z.X W (hxw.out W hW) (hyw.out W hW) (hzw.out W hW) hx3 hy3 hz3 hx5 hy5 hz5 (by omega) (by omega) (by omega))
      have hs2 := Lib.hid (fun W (hW : Later wb2 W) => show Calls Try.prog 51 #[.agg #[.bool x.X.neg, .slice x.A x.n x.c, .int .i64 x.X.s], .agg #[.bool y.X.neg, .slice y.A y.n y.c, .int .i64 y.X.s], .agg #[.bool z.X.neg, .slice z.A z.n z.c, .int .i64 z.X.s]] W (RCE W D.1 D.2) by
        rw [hD.out]; exact rcclamp_any x.X y.X z.X W (hxw.out W hW) (hyw.out W hW) (hzw.out W hW) hx3 hy3 hz3 hx5 hy5 hz5 (by omega) (by omega) (by omega))
      have hback : D.2 = 0 → Hid (∀ W (A : Option Addr) (n c : Nat), Later wb2 W → IL W A n c D.1.l → Calls Try.prog 50 #[.agg #[.bool D.1.neg, .slice A n c, .int .i64 D.1.s], .agg #[.bool y.X.neg, .slice y.A y.n y.c, .int .i64 y.X.s], .agg #[.bool z.X.neg, .slice z.A z.n z.c, .int .i64 z.X.s]] W (RCE W D.1 0)) := by
        intro h
        rw [hD.out] at h ⊢
        intro W A n c hW hI
        have hm := mayDc_iff.1 (clamp_may h)
        have exl := hx2.len
        have eyl := hy2.len
        have ezl := hz2.len
        have hln := clamp_len (d := x.X) (l := y.X) (h := z.X) (M := 12) (by omega) (by omega) (by omega)
        have := cclamp_any (clampDc x.X y.X z.X).1 y.X z.X W hI (hyw.out W hW) (hzw.out W hW) (I64_of_may hm.1) hy3 hz3 (by omega) hy5 hz5 (by have := hI.len; omega) (by omega) (by omega)
        rw [clamp_again h] at this
        exact this
      clear hD
      obtain ⟨D, ec⟩ := D
      go_upto_region 7 with fail
      go_cut [11, 12] (fun sP sC W => ∃ (g : Nat) (A1 : Option Addr) (n1 c1 : Nat), sP = .pointer (some ⟨g, 0, none⟩) ∧ sC = .int .i64 ec ∧ DB wb2 g 27 A1 n1 c1 D W)
      case first =>
        go_region_held3 (fun W => ((W.cell? ⟨wc2.heap.size, i * 3, none⟩ = some (.bool x.X.neg) ∧ W.cell? ⟨wc2.heap.size, i * 3 + 1, none⟩ = some (.slice x.A x.n x.c) ∧ W.cell? ⟨wc2.heap.size, i * 3 + 2, none⟩ = some (.int .i64 x.X.s)) ∧ (W.cell? ⟨wc4.heap.size, i * 3, none⟩ = some (.bool y.X.neg) ∧ W.cell? ⟨wc4.heap.size, i * 3 + 1, none⟩ = some (.slice y.A y.n y.c) ∧ W.cell? ⟨wc4.heap.size, i * 3 + 2, none⟩ = some (.int .i64 y.X.s)) ∧ (W.cell? ⟨wc6.heap.size, i * 3, none⟩ = some (.bool z.X.neg) ∧ W.cell? ⟨wc6.heap.size, i * 3 + 1, none⟩ = some (.slice z.A z.n z.c) ∧ W.cell? ⟨wc6.heap.size, i * 3 + 2, none⟩ = some (.int .i64 z.X.s))) ∧ Later wb2 W)
          ((refine HS.out _ ?_; repeat (first | exact And.right (by assumption) | exact Later.refl _ | refine Later.drew ?_ | refine Later.alloc ?_ _ | refine Later.setCell ?_ (by first | exact Nat.le_refl _ | exact hL1.size | exact hL2.size | exact hL3.size | exact hL4.size) _ | refine Later.call ?_ hB1 | refine Later.call ?_ hB2 | refine Later.call ?_ hB3 | refine Later.call ?_ hB4)))
          (first
            | (go_at_call 50; have _t := hB3; refine (hs1.out _ (And.right (by assumption))).mono ?_; rintro e wc4 ⟨A1, n1, c1, rfl, hI1, hB4, hN1⟩; have hL4 : Later wb2 wc4 := Later.call (And.right (by assumption)) hB4; first | (have kb := kb.call hB4; have kl := kb.lt; obtain ⟨⟨z0, z1, z2⟩, ⟨z3, z4, z5⟩⟩ := kb.cells3) | (have hC : Below (wc3.alloc (.cells #[.bool false, .slice none 0 0, .int .i64 0] 27)).heap.size (wc3.alloc (.cells #[.bool false, .slice none 0 0, .int .i64 0] 27)) wc4 := (by with_reducible exact hB4); have kb := (Blk.made wb2 wc3 27 _ hL3 _ rfl).call hC; have kl := kb.lt; obtain ⟨⟨z0, z1, z2⟩, ⟨z3, z4, z5⟩⟩ := kb.cells3) | skip)
            | (go_at_call 22; have _t := hB2; refine (of7_any _ _ _).mono ?_; rintro e wc3 ⟨rfl, hB3⟩; have hL3 : Later wb2 wc3 := Later.call (And.right (by assumption)) hB3; first | (have kb := kb.call hB3; have kl := kb.lt; obtain ⟨⟨z0, z1, z2⟩, ⟨z3, z4, z5⟩⟩ := kb.cells3) | (have hC : Below (wc2.alloc (.cells #[.bool false, .slice none 0 0, .int .i64 0] 27)).heap.size (wc2.alloc (.cells #[.bool false, .slice none 0 0, .int .i64 0] 27)) wc3 := (by with_reducible exact hB3); have kb := (Blk.made wb2 wc2 27 _ hL2 _ rfl).call hC; have kl := kb.lt; obtain ⟨⟨z0, z1, z2⟩, ⟨z3, z4, z5⟩⟩ := kb.cells3) | skip)
            | (go_at_call 22; have _t := hB1; refine (of7_any _ _ _).mono ?_; rintro e wc2 ⟨rfl, hB2⟩; have hL2 : Later wb2 wc2 := Later.call (And.right (by assumption)) hB2; first | (have kb := kb.call hB2; have kl := kb.lt; obtain ⟨⟨z0, z1, z2⟩, ⟨z3, z4, z5⟩⟩ := kb.cells3) | (have hC : Below (wc1.alloc (.cells #[.bool false, .slice none 0 0, .int .i64 0] 27)).heap.size (wc1.alloc (.cells #[.bool false, .slice none 0 0, .int .i64 0] 27)) wc2 := (by with_reducible exact hB2); have kb := (Blk.made wb2 wc1 27 _ hL1 _ rfl).call hC; have kl := kb.lt; obtain ⟨⟨z0, z1, z2⟩, ⟨z3, z4, z5⟩⟩ := kb.cells3) | skip)
            | (go_at_call 22; refine (of7_any _ _ _).mono ?_; rintro e wc1 ⟨rfl, hB1⟩; have hL1 : Later wb2 wc1 := Later.call (And.right (by assumption)) hB1; first | (have hC : Below ((wb2.alloc (.cells #[.bool false, .slice none 0 0, .int .i64 0] 27)).drew).heap.size ((wb2.alloc (.cells #[.bool false, .slice none 0 0, .int .i64 0] 27)).drew) wc1 := (by with_reducible exact hB1); have kb := (Blk.made wb2 wb2 27 _ (Later.refl wb2) _ rfl).drew.call hC; have kl := kb.lt; obtain ⟨⟨z0, z1, z2⟩, ⟨z3, z4, z5⟩⟩ := kb.cells3) | skip))
        all_goals
          go_wp2_with fail
          go_meet
          first
          | (have _k := kb; exact ⟨_, A1, n1, c1, rfl, rfl, DB.store kb hI1 (fun hz a ha => by have := hN1 hz a ha; (try simp at this); omega)⟩)
          | exact ⟨_, A1, n1, c1, rfl, rfl, DB.made wb2 wc4 _ hL4 hI1 _ rfl⟩
      case rest =>
        obtain ⟨g1, D1, d1, e1, rfl, rfl, hD1⟩ := hcut
        obtain ⟨u1, hu1⟩ : ∃ wm, wm = wc := ⟨_, rfl⟩
        rw [← hu1] at hD1
        rw [← hu1]
        clear hu1
        have hLu1 : Later wb2 u1 := hD1.later
        have hTu1 : Later wb2 u1 := hLu1
        have HS1 : Hid (∀ W, Later u1 W → ((W.cell? ⟨wc2.heap.size, i * 3, none⟩ = some (.bool x.X.neg) ∧ W.cell? ⟨wc2.heap.size, i * 3 + 1, none⟩ = some (.slice x.A x.n x.c) ∧ W.cell? ⟨wc2.heap.size, i * 3 + 2, none⟩ = some (.int .i64 x.X.s)) ∧ (W.cell? ⟨wc4.heap.size, i * 3, none⟩ = some (.bool y.X.neg) ∧ W.cell? ⟨wc4.heap.size, i * 3 + 1, none⟩ = some (.slice y.A y.n y.c) ∧ W.cell? ⟨wc4.heap.size, i * 3 + 2, none⟩ = some (.int .i64 y.X.s)) ∧ (W.cell? ⟨wc6.heap.size, i * 3, none⟩ = some (.bool z.X.neg) ∧ W.cell? ⟨wc6.heap.size, i * 3 + 1, none⟩ = some (.slice z.A z.n z.c) ∧ W.cell? ⟨wc6.heap.size, i * 3 + 2, none⟩ = some (.int .i64 z.X.s))) ∧ Later u1 W) := fun W hW => ⟨(HS.out W (below_from hLu1 hW)).1, hW⟩
        go_upto_region 8 with fail
        go_cut [13, 14] (fun sP sC W => ∃ (g : Nat) (A1 : Option Addr) (n1 c1 : Nat), sP = .pointer (some ⟨g, 0, none⟩) ∧ sC = .int .i64 ec ∧ DB u1 g 24 A1 n1 c1 D W)
        case first =>
          go_region_held3 (fun W => ((W.cell? ⟨wc2.heap.size, i * 3, none⟩ = some (.bool x.X.neg) ∧ W.cell? ⟨wc2.heap.size, i * 3 + 1, none⟩ = some (.slice x.A x.n x.c) ∧ W.cell? ⟨wc2.heap.size, i * 3 + 2, none⟩ = some (.int .i64 x.X.s)) ∧ (W.cell? ⟨wc4.heap.size, i * 3, none⟩ = some (.bool y.X.neg) ∧ W.cell? ⟨wc4.heap.size, i * 3 + 1, none⟩ = some (.slice y.A y.n y.c) ∧ W.cell? ⟨wc4.heap.size, i * 3 + 2, none⟩ = some (.int .i64 y.X.s)) ∧ (W.cell? ⟨wc6.heap.size, i * 3, none⟩ = some (.bool z.X.neg) ∧ W.cell? ⟨wc6.heap.size, i * 3 + 1, none⟩ = some (.slice z.A z.n z.c) ∧ W.cell? ⟨wc6.heap.size, i * 3 + 2, none⟩ = some (.int .i64 z.X.s))) ∧ Later u1 W)
            ((refine HS1.out _ ?_; repeat (first | exact And.right (by assumption) | exact Later.refl _ | refine Later.drew ?_ | refine Later.alloc ?_ _ | refine Later.setCell ?_ (by first | exact Nat.le_refl _ | exact hL1.size) _ | refine Later.call ?_ hB1)))
            (first
              | (go_at_call 51; refine (hs2.out _ (below_from hTu1 (And.right (by assumption)))).mono ?_; rintro e wc1 ⟨A1, n1, c1, rfl, hI1, hB1, hN1⟩; have hL1 : Later u1 wc1 := Later.call (And.right (by assumption)) hB1; first | (have hC : Below ((u1.alloc (.cells #[.bool false, .slice none 0 0, .int .i64 0] 24)).drew).heap.size ((u1.alloc (.cells #[.bool false, .slice none 0 0, .int .i64 0] 24)).drew) wc1 := (by with_reducible exact hB1); have kb := (Blk.made u1 u1 24 _ (Later.refl u1) _ rfl).drew.call hC; have kl := kb.lt; obtain ⟨⟨z0, z1, z2⟩, ⟨z3, z4, z5⟩⟩ := kb.cells3) | skip))
          all_goals
            go_wp2_with fail
            go_meet
            first
            | (have _k := kb; exact ⟨_, A1, n1, c1, rfl, rfl, DB.store kb hI1 (fun hz a ha => by have := hN1 hz a ha; (try simp at this); omega)⟩)
            | exact ⟨_, A1, n1, c1, rfl, rfl, DB.made u1 wc1 _ hL1 hI1 _ rfl⟩
        case rest =>
          obtain ⟨g2, D2, d2, e2, rfl, rfl, hD2⟩ := hcut
          obtain ⟨u2, hu2⟩ : ∃ wm, wm = wc := ⟨_, rfl⟩
          rw [← hu2] at hD2
          rw [← hu2]
          clear hu2
          have hLu2 : Later u1 u2 := hD2.later
          have hTu2 : Later wb2 u2 := below_from hTu1 hLu2
          have HS2 : Hid (∀ W, Later u2 W → ((W.cell? ⟨wc2.heap.size, i * 3, none⟩ = some (.bool x.X.neg) ∧ W.cell? ⟨wc2.heap.size, i * 3 + 1, none⟩ = some (.slice x.A x.n x.c) ∧ W.cell? ⟨wc2.heap.size, i * 3 + 2, none⟩ = some (.int .i64 x.X.s)) ∧ (W.cell? ⟨wc4.heap.size, i * 3, none⟩ = some (.bool y.X.neg) ∧ W.cell? ⟨wc4.heap.size, i * 3 + 1, none⟩ = some (.slice y.A y.n y.c) ∧ W.cell? ⟨wc4.heap.size, i * 3 + 2, none⟩ = some (.int .i64 y.X.s)) ∧ (W.cell? ⟨wc6.heap.size, i * 3, none⟩ = some (.bool z.X.neg) ∧ W.cell? ⟨wc6.heap.size, i * 3 + 1, none⟩ = some (.slice z.A z.n z.c) ∧ W.cell? ⟨wc6.heap.size, i * 3 + 2, none⟩ = some (.int .i64 z.X.s))) ∧ Later u2 W) := fun W hW => ⟨(HS1.out W (below_from hLu2 hW)).1, hW⟩
          have hD1 := hD1.call hLu2
          have z1 := Lib.hid hD1.at_
          have z2 := Lib.hid hD2.at_
          clear hD1 hD2 HS HS1 hs1 hs2
          have hsm := Lib.hid (fun s : Ext u2 => csame_at z1.out z2.out s)
          have K0 := z1.out.k0
          have K1 := z1.out.k1
          have K2 := z1.out.k2
          have M0 := z2.out.k0
          have M1 := z2.out.k1
          have M2 := z2.out.k2
          go_upto_region 9 with fail
          refine wp_region_ext (by kernel_rfl) (by kernel_rfl) ?_
          repeat (go_big_quiet_step (first
            | (go_at_call 25; exact quiet_ext _ (as7_any _ _ _))
            | (go_at_call 24; exact quiet_ext _ (hsm.out _))))
          refine wpQuiet_nil ?_
          rintro _ ⟨s, rfl⟩
          clear K0 K1 K2 M0 M1 M2 hsm
          generalize hws : s.world = u5
          have hLu5 : Later u2 u5 := by rw [← hws]; exact s.h
          clear hws
          have hTu5 : Later wb2 u5 := below_from hTu2 hLu5
          have y1 := Lib.hid (z1.out.later hLu5)
          have y2 := Lib.hid (z2.out.later hLu5)
          clear z1 z2
          by_cases hec : ec = 0
          · subst hec
            have hbk := hback rfl
            clear hback
            have HS5 : Hid (∀ W, Later u5 W → ((W.cell? ⟨g1, 0, none⟩ = some (.bool D.neg) ∧ W.cell? ⟨g1, 1, none⟩ = some (.slice D1 d1 e1) ∧ W.cell? ⟨g1, 2, none⟩ = some (.int .i64 D.s)) ∧ ((W.cell? ⟨wc2.heap.size, i * 3, none⟩ = some (.bool x.X.neg) ∧ W.cell? ⟨wc2.heap.size, i * 3 + 1, none⟩ = some (.slice x.A x.n x.c) ∧ W.cell? ⟨wc2.heap.size, i * 3 + 2, none⟩ = some (.int .i64 x.X.s)) ∧ (W.cell? ⟨wc4.heap.size, i * 3, none⟩ = some (.bool y.X.neg) ∧ W.cell? ⟨wc4.heap.size, i * 3 + 1, none⟩ = some (.slice y.A y.n y.c) ∧ W.cell? ⟨wc4.heap.size, i * 3 + 2, none⟩ = some (.int .i64 y.X.s)) ∧ (W.cell? ⟨wc6.heap.size, i * 3, none⟩ = some (.bool z.X.neg) ∧ W.cell? ⟨wc6.heap.size, i * 3 + 1, none⟩ = some (.slice z.A z.n z.c) ∧ W.cell? ⟨wc6.heap.size, i * 3 + 2, none⟩ = some (.int .i64 z.X.s)))) ∧ Later u5 W) := fun W hW => ⟨⟨(y1.out.later hW).1, (HS2.out W (below_from hLu5 hW)).1⟩, hW⟩
            go_upto_region 12 with fail
            go_cut [15, 16] (fun sP sC W => ∃ (g : Nat) (A1 : Option Addr) (n1 c1 : Nat), sP = .pointer (some ⟨g, 0, none⟩) ∧ sC = .int .i64 (0 : Int) ∧ DB u5 g 27 A1 n1 c1 D W)
            case first =>
              go_region_held3 (fun W => ((W.cell? ⟨g1, 0, none⟩ = some (.bool D.neg) ∧ W.cell? ⟨g1, 1, none⟩ = some (.slice D1 d1 e1) ∧ W.cell? ⟨g1, 2, none⟩ = some (.int .i64 D.s)) ∧ ((W.cell? ⟨wc2.heap.size, i * 3, none⟩ = some (.bool x.X.neg) ∧ W.cell? ⟨wc2.heap.size, i * 3 + 1, none⟩ = some (.slice x.A x.n x.c) ∧ W.cell? ⟨wc2.heap.size, i * 3 + 2, none⟩ = some (.int .i64 x.X.s)) ∧ (W.cell? ⟨wc4.heap.size, i * 3, none⟩ = some (.bool y.X.neg) ∧ W.cell? ⟨wc4.heap.size, i * 3 + 1, none⟩ = some (.slice y.A y.n y.c) ∧ W.cell? ⟨wc4.heap.size, i * 3 + 2, none⟩ = some (.int .i64 y.X.s)) ∧ (W.cell? ⟨wc6.heap.size, i * 3, none⟩ = some (.bool z.X.neg) ∧ W.cell? ⟨wc6.heap.size, i * 3 + 1, none⟩ = some (.slice z.A z.n z.c) ∧ W.cell? ⟨wc6.heap.size, i * 3 + 2, none⟩ = some (.int .i64 z.X.s)))) ∧ Later u5 W)
                ((refine HS5.out _ ?_; repeat (first | exact And.right (by assumption) | exact Later.refl _ | refine Later.drew ?_ | refine Later.alloc ?_ _ | refine Later.setCell ?_ (by first | exact Nat.le_refl _ | exact hL1.size | exact hL2.size | exact hL3.size) _ | refine Later.call ?_ hB1 | refine Later.call ?_ hB2 | refine Later.call ?_ hB3)))
                (first
                  | (go_at_call 50; have _t := hB2; refine (hbk.out _ _ _ _ (below_from hTu5 (And.right (by assumption))) ((y1.out.later (And.right (by assumption))).2)).mono ?_; rintro e wc3 ⟨A1, n1, c1, rfl, hI1, hB3, hN1⟩; have hL3 : Later u5 wc3 := Later.call (And.right (by assumption)) hB3; first | (have kb := kb.call hB3; have kl := kb.lt; obtain ⟨⟨z0, z1, z2⟩, ⟨z3, z4, z5⟩⟩ := kb.cells3) | (have hC : Below (wc2.alloc (.cells #[.bool false, .slice none 0 0, .int .i64 0] 27)).heap.size (wc2.alloc (.cells #[.bool false, .slice none 0 0, .int .i64 0] 27)) wc3 := (by with_reducible exact hB3); have kb := (Blk.made u5 wc2 27 _ hL2 _ rfl).call hC; have kl := kb.lt; obtain ⟨⟨z0, z1, z2⟩, ⟨z3, z4, z5⟩⟩ := kb.cells3) | skip)
                  | (go_at_call 22; have _t := hB1; refine (of7_any _ _ _).mono ?_; rintro e wc2 ⟨rfl, hB2⟩; have hL2 : Later u5 wc2 := Later.call (And.right (by assumption)) hB2; first | (have kb := kb.call hB2; have kl := kb.lt; obtain ⟨⟨z0, z1, z2⟩, ⟨z3, z4, z5⟩⟩ := kb.cells3) | (have hC : Below (wc1.alloc (.cells #[.bool false, .slice none 0 0, .int .i64 0] 27)).heap.size (wc1.alloc (.cells #[.bool false, .slice none 0 0, .int .i64 0] 27)) wc2 := (by with_reducible exact hB2); have kb := (Blk.made u5 wc1 27 _ hL1 _ rfl).call hC; have kl := kb.lt; obtain ⟨⟨z0, z1, z2⟩, ⟨z3, z4, z5⟩⟩ := kb.cells3) | skip)
                  | (go_at_call 22; refine (of7_any _ _ _).mono ?_; rintro e wc1 ⟨rfl, hB1⟩; have hL1 : Later u5 wc1 := Later.call (And.right (by assumption)) hB1; first | (have hC : Below ((u5.alloc (.cells #[.bool false, .slice none 0 0, .int .i64 0] 27)).drew).heap.size ((u5.alloc (.cells #[.bool false, .slice none 0 0, .int .i64 0] 27)).drew) wc1 := (by with_reducible exact hB1); have kb := (Blk.made u5 u5 27 _ (Later.refl u5) _ rfl).drew.call hC; have kl := kb.lt; obtain ⟨⟨z0, z1, z2⟩, ⟨z3, z4, z5⟩⟩ := kb.cells3) | skip))
              all_goals
                go_wp2_with fail
                go_meet
                first
                | (have _k := kb; exact ⟨_, A1, n1, c1, rfl, rfl, DB.store kb hI1 (fun hz a ha => by have := hN1 hz a ha; (try simp at this); omega)⟩)
                | exact ⟨_, A1, n1, c1, rfl, rfl, DB.made u5 wc3 _ hL3 hI1 _ rfl⟩
            case rest =>
              obtain ⟨g6, D6, d6, e6, rfl, rfl, hD6⟩ := hcut
              obtain ⟨u6, hu6⟩ : ∃ wm, wm = wc := ⟨_, rfl⟩
              rw [← hu6] at hD6
              rw [← hu6]
              clear hu6
              have hLu6 : Later u5 u6 := hD6.later
              have hTu6 : Later wb2 u6 := below_from hTu5 hLu6
              have z6 := Lib.hid hD6.at_
              have z2 := Lib.hid (y2.out.later hLu6)
              clear hD6 HS5 y1 y2
              have hsm := Lib.hid (fun s : Ext u6 => csame_at z6.out z2.out s)
              have K0 := z6.out.k0
              have K1 := z6.out.k1
              have K2 := z6.out.k2
              have M0 := z2.out.k0
              have M1 := z2.out.k1
              have M2 := z2.out.k2
              go_upto_region 13 with fail
              refine wp_region_ext (by kernel_rfl) (by kernel_rfl) ?_
              repeat (go_big_quiet_step (first
                | (go_at_call 25; exact quiet_ext _ (as7_any _ _ _))
                | (go_at_call 24; exact quiet_ext _ (hsm.out _))))
              refine wpQuiet_nil ?_
              rintro _ ⟨s2, rfl⟩
              clear K0 K1 K2 M0 M1 M2 hsm
              go_wp2_with fail
              go_roundw
              case rel => first | exact ⟨i + 1, by omega, by go_num, below_from hL (below_from hTu6 s2.h)⟩ | ((repeat apply Exists.intro); exact ⟨⟨i + 1, by omega, by go_num, below_from hL (below_from hTu6 s2.h)⟩, rfl⟩)
              case measure => simp [intOf]; omega
          · have hec2 : (ec == (0 : Int)) = false := by simpa using hec
            have hec3 : (ec != (0 : Int)) = true := by simpa using hec
            clear hback
            go_wp2_with fail
            go_roundw
            case rel => first | exact ⟨i + 1, by omega, by go_num, below_from hL hTu5⟩ | ((repeat apply Exists.intro); exact ⟨⟨i + 1, by omega, by go_num, below_from hL hTu5⟩, rfl⟩)
            case measure => simp [intOf]; omega
    · go_wp2_with fail
      refine (lives7_any _).mono ?_
      rintro e w10 ⟨rfl, hB10⟩
      go_wp2_with fail
      go_ret
      exact ⟨rfl, below_from (below_from hL9 hL) hB10⟩

end Go.Proofs.Ytnndiikogaoeiaa
