/- The walk of DecimalAdds. No condition. -/
import Derived.Test.YtnndiikogaoeiaaDcb
import Derived.Test.YtnndiikogaoeiaaCanon4
import Derived.Test.YtnndiikogaoeiaaDe11
import Derived.Test.YtnndiikogaoeiaaDe12
namespace Go.Proofs.Ytnndiikogaoeiaa
open Go.RowKit

theorem add_may {x y : Dc} (h : (addDc x y).2 = 0) : mayDc x = true ∧ mayDc y = true := by
  unfold addDc at h
  split at h
  · rename_i hm
    simpa using hm
  · simp at h

set_option maxRecDepth 100000 in
set_option maxHeartbeats 8000000 in
theorem decimalAdds_walk (w : World) {A0 : Option Addr} {n0 c0 : Nat} {l0 : List Int} {a0 : Int} {A1 : Option Addr} {n1 c1 : Nat} {l1 : List Int} {a1 : Int}
    (b0 : Bool) (w0 : IL w A0 n0 c0 l0) (i0 : I64 l0) (x0 : -9223372036854775808 ≤ a0 ∧ a0 ≤ 9223372036854775807) (b1 : Bool) (w1 : IL w A1 n1 c1 l1) (i1 : I64 l1) (x1 : -9223372036854775808 ≤ a1 ∧ a1 ≤ 9223372036854775807) :
    Calls Try.prog 7 #[.agg #[.bool b0, .slice A0 n0 c0, .int .i64 a0], .agg #[.bool b1, .slice A1 n1 c1, .int .i64 a1]] w fun e w' => e = .returned (.bool true) ∧ Below w.heap.size w w' := by
  obtain ⟨X, hX, _, hg0⟩ := cgood_ex (A := A0) (n := n0) (c := c0) b0 a0 12 i0 x0 (by omega)
  obtain ⟨Y, hY, _, hg1⟩ := cgood_ex (A := A1) (n := n1) (c := c1) b1 a1 12 i1 x1 (by omega)
  obtain ⟨m0, r0, hm0, hr0, hfew0⟩ : ∃ (m : Nat) (r : List Int), m ≤ 12 ∧ I64 r ∧ Hid (∀ W, IL W A0 n0 c0 l0 → Calls Try.prog 19 #[.agg #[.bool b0, .slice A0 n0 c0, .int .i64 a0], .int .i64 12] W (fun e w' => e = .returned (.agg #[.bool b0, .slice A0 m c0, .int .i64 a0]) ∧ IL w' A0 m c0 r ∧ Below W.heap.size W w')) :=
    ⟨min n0 12, l0.take 12, by omega, i0.take_ 12, fun W hW => cfew_any b0 a0 12 W hW (by omega)⟩
  obtain ⟨m1, r1, hm1, hr1, hfew1⟩ : ∃ (m : Nat) (r : List Int), m ≤ 12 ∧ I64 r ∧ Hid (∀ W, IL W A1 n1 c1 l1 → Calls Try.prog 19 #[.agg #[.bool b1, .slice A1 n1 c1, .int .i64 a1], .int .i64 12] W (fun e w' => e = .returned (.agg #[.bool b1, .slice A1 m c1, .int .i64 a1]) ∧ IL w' A1 m c1 r ∧ Below W.heap.size W w')) :=
    ⟨min n1 12, l1.take 12, by omega, i1.take_ 12, fun W hW => cfew_any b1 a1 12 W hW (by omega)⟩
  have iX := I64_of_may hX.1
  have lX := hX.2.2.2
  have bX := hX.2.2.1
  have bX0 := hX.2.1
  have iY := I64_of_may hY.1
  have lY := hY.2.2.2
  have bY := hY.2.2.1
  have bY0 := hY.2.1
  have hp0 := (Blk.made w w 24 #[.bool b0, .slice A0 n0 c0, .int .i64 a0] (Later.refl w) _ rfl).alloc (.cells #[.bool b1, .slice A1 n1 c1, .int .i64 a1] 24)
  have hp1 := Blk.made w (w.alloc (.cells #[.bool b0, .slice A0 n0 c0, .int .i64 a0] 24)) 24 #[.bool b1, .slice A1 n1 c1, .int .i64 a1] ((Later.refl w).alloc _) (w.heap.size + 1) (by simp)
  have w01 := (w0.alloc (.cells #[.bool b0, .slice A0 n0 c0, .int .i64 a0] 24)).alloc (.cells #[.bool b1, .slice A1 n1 c1, .int .i64 a1] 24)
  have w11 := (w1.alloc (.cells #[.bool b0, .slice A0 n0 c0, .int .i64 a0] 24)).alloc (.cells #[.bool b1, .slice A1 n1 c1, .int .i64 a1] 24)
  go_enter Try.func7, Try.ntmps7
  go_upto_region 1 with fail
  generalize World.alloc (World.alloc w _) _ = wb at *
  have hL1 := hp1.later
  have HS : Hid (∀ W, Later wb W → (W.cell? ⟨w.heap.size, 0, none⟩ = some (.bool b0) ∧ W.cell? ⟨w.heap.size, 1, none⟩ = some (.slice A0 n0 c0) ∧ W.cell? ⟨w.heap.size, 2, none⟩ = some (.int .i64 a0)) ∧ Later wb W) := fun W hW => ⟨(hp0.call hW).cells3.1, hW⟩
  go_region_held3 (fun W => (W.cell? ⟨w.heap.size, 0, none⟩ = some (.bool b0) ∧ W.cell? ⟨w.heap.size, 1, none⟩ = some (.slice A0 n0 c0) ∧ W.cell? ⟨w.heap.size, 2, none⟩ = some (.int .i64 a0)) ∧ Later wb W)
    ((refine HS.out _ ?_; repeat (first | exact And.right (by assumption) | exact Later.refl _ | refine Later.drew ?_ | refine Later.alloc ?_ _ | refine Later.call ?_ hB1 | refine Later.call ?_ hB2)))
    (first
      | (go_at_call 19; refine (hfew0.out _ (w01.later (And.right (by assumption)))).mono ?_; rintro e wc2 ⟨rfl, hI2, hB2⟩; have hL2 : Later wb wc2 := Later.call (And.right (by assumption)) hB2)
      | (go_at_call 18; refine (hg0.out _ (w01.later (And.right (by assumption)))).mono ?_; rintro e wc1 ⟨C1, k1, q1, rfl, hI1, hB1, _⟩; have hL1' : Later wb wc1 := Later.call (And.right (by assumption)) hB1))
  go_upto_region 2 with fail
  generalize hwd : World.alloc wc2 _ = wd
  have hLd : Later wc2 wd := by rw [← hwd]; exact (Later.refl wc2).alloc _
  have hbd : Later wb wd := below_from hL2 hLd
  have HT : Hid (∀ W, Later wd W → (W.cell? ⟨w.heap.size + 1, 0, none⟩ = some (.bool b1) ∧ W.cell? ⟨w.heap.size + 1, 1, none⟩ = some (.slice A1 n1 c1) ∧ W.cell? ⟨w.heap.size + 1, 2, none⟩ = some (.int .i64 a1)) ∧ Later wd W) := fun W hW => ⟨(hp1.call (below_from hbd hW)).cells3.1, hW⟩
  go_region_held3 (fun W => (W.cell? ⟨w.heap.size + 1, 0, none⟩ = some (.bool b1) ∧ W.cell? ⟨w.heap.size + 1, 1, none⟩ = some (.slice A1 n1 c1) ∧ W.cell? ⟨w.heap.size + 1, 2, none⟩ = some (.int .i64 a1)) ∧ Later wd W)
    ((refine HT.out _ ?_; repeat (first | exact And.right (by assumption) | exact Later.refl _ | refine Later.drew ?_ | refine Later.alloc ?_ _ | refine Later.call ?_ hB3 | refine Later.call ?_ hB4)))
    (first
      | (go_at_call 19; refine (hfew1.out _ (w11.later (below_from hbd (And.right (by assumption))))).mono ?_; rintro e wc4 ⟨rfl, hI4, hB4⟩; have hL4 : Later wd wc4 := Later.call (And.right (by assumption)) hB4)
      | (go_at_call 18; refine (hg1.out _ (w11.later (below_from hbd (And.right (by assumption))))).mono ?_; rintro e wc3 ⟨C3, k3, q3, rfl, hI3, hB3, _⟩; have hL3 : Later wd wc3 := Later.call (And.right (by assumption)) hB3))
  go_wp2_with fail
  generalize hw9 : World.alloc wc4 _ = w9
  have h49 : Later wc4 w9 := by rw [← hw9]; exact (Later.refl wc4).alloc _
  have hd9 : Later wd w9 := below_from hL4 h49
  have h29 : Later wc2 w9 := below_from hLd hd9
  have hL9 : Later w w9 := below_from hL1 (below_from hbd hd9)
  obtain ⟨F, G, hF⟩ : ∃ (F G : Nat → CV), ∀ i, i < 2 → ((F i).at_ w9 wc2.heap.size (i * 3) ∧ (F i).ok w9 ∧ I64 (F i).X.l ∧ (F i).n ≤ 12 ∧ (-9223372036854775808 ≤ (F i).X.s ∧ (F i).X.s ≤ 9223372036854775807)) ∧
      ((G i).at_ w9 wc4.heap.size (i * 3) ∧ (G i).ok w9 ∧ I64 (G i).X.l ∧ (G i).n ≤ 12 ∧ (-9223372036854775808 ≤ (G i).X.s ∧ (G i).X.s ≤ 9223372036854775807)) := by
    refine ⟨fun i => if i = 0 then ⟨C1, k1, q1, X⟩ else ⟨A0, m0, c0, ⟨b0, r0, a0⟩⟩, fun i => if i = 0 then ⟨C3, k3, q3, Y⟩ else ⟨A1, m1, c1, ⟨b1, r1, a1⟩⟩, ?_⟩
    intro i hi
    have hc0 : ∀ i, w9.cell? ⟨wc2.heap.size, i, none⟩ = (#[.bool X.neg, .slice C1 k1 q1, .int .i64 X.s, .bool b0, .slice A0 m0 c0, .int .i64 a0] : Array Value)[i]? := by
      intro i
      have hlt : wc2.heap.size < wd.heap.size := by rw [← hwd]; simp
      rw [Below.cell hd9 (p := ⟨wc2.heap.size, i, none⟩) hlt, ← hwd, World.cell?_alloc_at _ _ _ _ rfl]
    have hc1 : ∀ i, w9.cell? ⟨wc4.heap.size, i, none⟩ = (#[.bool Y.neg, .slice C3 k3 q3, .int .i64 Y.s, .bool b1, .slice A1 m1 c1, .int .i64 a1] : Array Value)[i]? := by
      intro i
      rw [← hw9, World.cell?_alloc_at _ _ _ _ rfl]
    have g1 := (hI1.below hB2).later h29
    have g2 := hI2.later h29
    have g3 := (hI3.below hB4).later h49
    have g4 := hI4.later h49
    have e1 := g1.len
    have e3 := g3.len
    have hkk : i = 0 ∨ i = 1 := by omega
    rcases hkk with rfl | rfl
    · exact ⟨⟨⟨hc0 0, hc0 1, hc0 2⟩, g1, iX, (by show k1 ≤ 12; omega), (by show _ ≤ X.s ∧ X.s ≤ _; omega)⟩, ⟨⟨hc1 0, hc1 1, hc1 2⟩, g3, iY, (by show k3 ≤ 12; omega), (by show _ ≤ Y.s ∧ Y.s ≤ _; omega)⟩⟩
    · exact ⟨⟨⟨hc0 3, hc0 4, hc0 5⟩, g2, hr0, hm0, x0⟩, ⟨⟨hc1 3, hc1 4, hc1 5⟩, g4, hr1, hm1, x1⟩⟩
  have HF := Lib.hid hF
  clear hF hw9 h49 hd9 h29 hwd hI1 hI2 hI3 hI4 hB1 hB2 hB3 hB4 hL1' hL2 hL3 hL4 HS HT hX hY hr0 hm0 hr1 hm1 hp0 hp1 w01 w11
  go_loopw [7] (fun v wr => ∃ i : Nat, i ≤ 2 ∧ v = .int .i64 i ∧ Later w9 wr) (fun v _ => 2 - (intOf v).toNat)
  case atStart => exact ⟨0, by omega, rfl, Later.refl _⟩
  case round =>
    obtain ⟨i, hi, rfl, hL⟩ := hrel
    by_cases hlt : i < 2
    · obtain ⟨⟨hx1, hx2, hx3, hx4, hx5⟩, ⟨hy1, hy2, hy3, hy4, hy5⟩⟩ := HF.out i hlt
      generalize F i = x at *
      generalize G i = y at *
      obtain ⟨wb2, hwb⟩ : ∃ wb, wb = wr := ⟨_, rfl⟩
      rw [← hwb] at hL
      rw [← hwb]
      clear hwb
      have HS : Hid (∀ W, Later wb2 W → ((W.cell? ⟨wc2.heap.size, i * 3, none⟩ = some (.bool x.X.neg) ∧ W.cell? ⟨wc2.heap.size, i * 3 + 1, none⟩ = some (.slice x.A x.n x.c) ∧ W.cell? ⟨wc2.heap.size, i * 3 + 2, none⟩ = some (.int .i64 x.X.s)) ∧ (W.cell? ⟨wc4.heap.size, i * 3, none⟩ = some (.bool y.X.neg) ∧ W.cell? ⟨wc4.heap.size, i * 3 + 1, none⟩ = some (.slice y.A y.n y.c) ∧ W.cell? ⟨wc4.heap.size, i * 3 + 2, none⟩ = some (.int .i64 y.X.s))) ∧ Later wb2 W) := by
        intro W hW
        have hLW : Later w9 W := below_from hL hW
        exact ⟨⟨hx1.later hLW, hy1.later hLW⟩, hW⟩
      have hi3 : (i : Int) < 2 := by omega
      have hi0 : (0 : Int) ≤ (i : Int) := by omega
      have hxw := Lib.hid (fun W (hW : Later wb2 W) => (hx2.later (below_from hL hW) : x.ok W))
      have hyw := Lib.hid (fun W (hW : Later wb2 W) => (hy2.later (below_from hL hW) : y.ok W))
      obtain ⟨D, hD⟩ : ∃ D, addDc x.X y.X = D := ⟨_, rfl⟩
      obtain ⟨E, hE⟩ : ∃ D, addDc x.X (minusDc y.X) = D := ⟨_, rfl⟩
      have hs1 := Lib.hid (fun W (hW : Later wb2 W) => show Calls Try.prog 32 #[.agg #[.bool x.X.neg, .slice x.A x.n x.c, .int .i64 x.X.s], .agg #[.bool y.X.neg, .slice y.A y.n y.c, .int .i64 y.X.s]] W (RCE W D.1 D.2) by
        rw [← hD]; exact cadd_any x.X.neg y.X.neg x.X.s y.X.s W (hxw.out W hW) (hyw.out W hW) hx3 hy3 (by omega) (by omega) hx5 hy5)
      have hs2 := Lib.hid (fun W (hW : Later wb2 W) => show Calls Try.prog 28 #[.agg #[.bool x.X.neg, .slice x.A x.n x.c, .int .i64 x.X.s], .agg #[.bool y.X.neg, .slice y.A y.n y.c, .int .i64 y.X.s]] W (RCE W D.1 D.2) by
        rw [← hD]; exact rcadd_any x.X.neg y.X.neg x.X.s y.X.s W (hxw.out W hW) (hyw.out W hW) (by omega) (by omega) hx5 hy5)
      have hs3 := Lib.hid (fun W (hW : Later wb2 W) => show Calls Try.prog 34 #[.agg #[.bool x.X.neg, .slice x.A x.n x.c, .int .i64 x.X.s], .agg #[.bool y.X.neg, .slice y.A y.n y.c, .int .i64 y.X.s]] W (RCE W E.1 E.2) by
        rw [← hE]; exact csub_any x.X.neg y.X.neg x.X.s y.X.s W (hxw.out W hW) (hyw.out W hW) hx3 hy3 (by omega) (by omega) hx5 hy5)
      have hs4 := Lib.hid (fun W (hW : Later wb2 W) => show Calls Try.prog 28 #[.agg #[.bool x.X.neg, .slice x.A x.n x.c, .int .i64 x.X.s], .agg #[.bool (!y.X.neg), .slice y.A y.n y.c, .int .i64 y.X.s]] W (RCE W E.1 E.2) by
        rw [← hE]; exact rcadd_any x.X.neg (!y.X.neg) x.X.s y.X.s W (hxw.out W hW) (hyw.out W hW) (by omega) (by omega) hx5 hy5)
      obtain ⟨T, hT⟩ : ∃ T, trimDc x.X = T := ⟨_, rfl⟩
      have hback : D.2 = 0 → Hid (∀ W (A : Option Addr) (n c : Nat), Later wb2 W → IL W A n c D.1.l → Calls Try.prog 34 #[.agg #[.bool D.1.neg, .slice A n c, .int .i64 D.1.s], .agg #[.bool y.X.neg, .slice y.A y.n y.c, .int .i64 y.X.s]] W (RCE W T 0)) ∧
          Hid (∀ W, Later wb2 W → Calls Try.prog 36 #[.agg #[.bool x.X.neg, .slice x.A x.n x.c, .int .i64 x.X.s]] W (RC W T)) := by
        intro h
        rw [← hD] at h ⊢
        obtain ⟨h1, h2⟩ := add_may h
        have hb := add_back h1 h2
        obtain ⟨h7, h8, h9⟩ := mayDc_iff.1 h1
        obtain ⟨h4, h5, h6⟩ := mayDc_iff.1 h2
        have hsb := add_s x.X y.X
        have exl := hx2.len
        have eyl := hy2.len
        have hln := add_len (a := x.X) (b := y.X) h7 h4 (M := 12) (N := 1000) (by omega) (by omega) (by omega) (by omega)
        refine ⟨fun W A n c hW hI => ?_, fun W hW => ?_⟩
        · have := csub_any (addDc x.X y.X).1.neg y.X.neg (addDc x.X y.X).1.s y.X.s W hI (hyw.out W hW) (I64_of_may (mayL_add _ _)) hy3 (by have := hI.len; omega) (by omega) (by omega) hy5
          rw [show (⟨(addDc x.X y.X).1.neg, (addDc x.X y.X).1.l, (addDc x.X y.X).1.s⟩ : Dc) = (addDc x.X y.X).1 from rfl, show (⟨y.X.neg, y.X.l, y.X.s⟩ : Dc) = y.X from rfl, hb] at this
          rw [← hT]
          exact this
        · rw [← hT]; exact rdtrim_any x.X.neg x.X.s W (hxw.out W hW) hx3 (by omega) h8 (by omega)
      clear hD hE hT
      obtain ⟨D, ec⟩ := D
      obtain ⟨E, gc⟩ := E
      go_upto_region 6 with fail
      go_cut [8, 9] (fun sP sC W => ∃ (g : Nat) (A1 : Option Addr) (n1 c1 : Nat), sP = .pointer (some ⟨g, 0, none⟩) ∧ sC = .int .i64 ec ∧ DB wb2 g 27 A1 n1 c1 D W)
      case first =>
        go_region_held3 (fun W => ((W.cell? ⟨wc2.heap.size, i * 3, none⟩ = some (.bool x.X.neg) ∧ W.cell? ⟨wc2.heap.size, i * 3 + 1, none⟩ = some (.slice x.A x.n x.c) ∧ W.cell? ⟨wc2.heap.size, i * 3 + 2, none⟩ = some (.int .i64 x.X.s)) ∧ (W.cell? ⟨wc4.heap.size, i * 3, none⟩ = some (.bool y.X.neg) ∧ W.cell? ⟨wc4.heap.size, i * 3 + 1, none⟩ = some (.slice y.A y.n y.c) ∧ W.cell? ⟨wc4.heap.size, i * 3 + 2, none⟩ = some (.int .i64 y.X.s))) ∧ Later wb2 W)
          ((refine HS.out _ ?_; repeat (first | exact And.right (by assumption) | exact Later.refl _ | refine Later.drew ?_ | refine Later.alloc ?_ _ | refine Later.setCell ?_ (by first | exact Nat.le_refl _ | exact hL1.size | exact hL2.size | exact hL3.size) _ | refine Later.call ?_ hB1 | refine Later.call ?_ hB2 | refine Later.call ?_ hB3)))
          (first
            | (go_at_call 32; have _t := hB2; refine (hs1.out _ (And.right (by assumption))).mono ?_; rintro e wc3 ⟨A1, n1, c1, rfl, hI1, hB3, hN1⟩; have hL3 : Later wb2 wc3 := Later.call (And.right (by assumption)) hB3; first | (have kb := kb.call hB3; have kl := kb.lt; obtain ⟨⟨z0, z1, z2⟩, ⟨z3, z4, z5⟩⟩ := kb.cells3) | (have hC : Below (wc2.alloc (.cells #[.bool false, .slice none 0 0, .int .i64 0] 27)).heap.size (wc2.alloc (.cells #[.bool false, .slice none 0 0, .int .i64 0] 27)) wc3 := (by with_reducible exact hB3); have kb := (Blk.made wb2 wc2 27 _ hL2 _ rfl).call hC; have kl := kb.lt; obtain ⟨⟨z0, z1, z2⟩, ⟨z3, z4, z5⟩⟩ := kb.cells3) | skip)
            | (go_at_call 33; have _t := hB1; refine (of6_any _ _ _).mono ?_; rintro e wc2 ⟨rfl, hB2⟩; have hL2 : Later wb2 wc2 := Later.call (And.right (by assumption)) hB2; first | (have kb := kb.call hB2; have kl := kb.lt; obtain ⟨⟨z0, z1, z2⟩, ⟨z3, z4, z5⟩⟩ := kb.cells3) | (have hC : Below (wc1.alloc (.cells #[.bool false, .slice none 0 0, .int .i64 0] 27)).heap.size (wc1.alloc (.cells #[.bool false, .slice none 0 0, .int .i64 0] 27)) wc2 := (by with_reducible exact hB2); have kb := (Blk.made wb2 wc1 27 _ hL1 _ rfl).call hC; have kl := kb.lt; obtain ⟨⟨z0, z1, z2⟩, ⟨z3, z4, z5⟩⟩ := kb.cells3) | skip)
            | (go_at_call 33; refine (of6_any _ _ _).mono ?_; rintro e wc1 ⟨rfl, hB1⟩; have hL1 : Later wb2 wc1 := Later.call (And.right (by assumption)) hB1; first | (have hC : Below ((wb2.alloc (.cells #[.bool false, .slice none 0 0, .int .i64 0] 27)).drew).heap.size ((wb2.alloc (.cells #[.bool false, .slice none 0 0, .int .i64 0] 27)).drew) wc1 := (by with_reducible exact hB1); have kb := (Blk.made wb2 wb2 27 _ (Later.refl wb2) _ rfl).drew.call hC; have kl := kb.lt; obtain ⟨⟨z0, z1, z2⟩, ⟨z3, z4, z5⟩⟩ := kb.cells3) | skip))
        all_goals
          go_wp2_with fail
          go_meet
          first
          | (have _k := kb; exact ⟨_, A1, n1, c1, rfl, rfl, DB.store kb hI1 (fun hz a ha => by have := hN1 hz a ha; (try simp at this); omega)⟩)
          | exact ⟨_, A1, n1, c1, rfl, rfl, DB.made wb2 wc3 _ hL3 hI1 _ rfl⟩
      case rest =>
        obtain ⟨g1, D1, d1, e1, rfl, rfl, hD1⟩ := hcut
        obtain ⟨u1, hu1⟩ : ∃ wm, wm = wc := ⟨_, rfl⟩
        rw [← hu1] at hD1
        rw [← hu1]
        clear hu1
        have hLu1 : Later wb2 u1 := hD1.later
        have hTu1 : Later wb2 u1 := hLu1
        have HS1 : Hid (∀ W, Later u1 W → ((W.cell? ⟨wc2.heap.size, i * 3, none⟩ = some (.bool x.X.neg) ∧ W.cell? ⟨wc2.heap.size, i * 3 + 1, none⟩ = some (.slice x.A x.n x.c) ∧ W.cell? ⟨wc2.heap.size, i * 3 + 2, none⟩ = some (.int .i64 x.X.s)) ∧ (W.cell? ⟨wc4.heap.size, i * 3, none⟩ = some (.bool y.X.neg) ∧ W.cell? ⟨wc4.heap.size, i * 3 + 1, none⟩ = some (.slice y.A y.n y.c) ∧ W.cell? ⟨wc4.heap.size, i * 3 + 2, none⟩ = some (.int .i64 y.X.s))) ∧ Later u1 W) := fun W hW => ⟨(HS.out W (below_from hLu1 hW)).1, hW⟩
        go_upto_region 7 with fail
        go_cut [10, 11] (fun sP sC W => ∃ (g : Nat) (A1 : Option Addr) (n1 c1 : Nat), sP = .pointer (some ⟨g, 0, none⟩) ∧ sC = .int .i64 ec ∧ DB u1 g 24 A1 n1 c1 D W)
        case first =>
          go_region_held3 (fun W => ((W.cell? ⟨wc2.heap.size, i * 3, none⟩ = some (.bool x.X.neg) ∧ W.cell? ⟨wc2.heap.size, i * 3 + 1, none⟩ = some (.slice x.A x.n x.c) ∧ W.cell? ⟨wc2.heap.size, i * 3 + 2, none⟩ = some (.int .i64 x.X.s)) ∧ (W.cell? ⟨wc4.heap.size, i * 3, none⟩ = some (.bool y.X.neg) ∧ W.cell? ⟨wc4.heap.size, i * 3 + 1, none⟩ = some (.slice y.A y.n y.c) ∧ W.cell? ⟨wc4.heap.size, i * 3 + 2, none⟩ = some (.int .i64 y.X.s))) ∧ Later u1 W)
            ((refine HS1.out _ ?_; repeat (first | exact And.right (by assumption) | exact Later.refl _ | refine Later.drew ?_ | refine Later.alloc ?_ _ | refine Later.setCell ?_ (by first | exact Nat.le_refl _ | exact hL1.size) _ | refine Later.call ?_ hB1)))
            (first
              | (go_at_call 28; refine (hs2.out _ (below_from hTu1 (And.right (by assumption)))).mono ?_; rintro e wc1 ⟨A1, n1, c1, rfl, hI1, hB1, hN1⟩; have hL1 : Later u1 wc1 := Later.call (And.right (by assumption)) hB1; first | (have hC : Below ((u1.alloc (.cells #[.bool false, .slice none 0 0, .int .i64 0] 24)).drew).heap.size ((u1.alloc (.cells #[.bool false, .slice none 0 0, .int .i64 0] 24)).drew) wc1 := (by with_reducible exact hB1); have kb := (Blk.made u1 u1 24 _ (Later.refl u1) _ rfl).drew.call hC; have kl := kb.lt; obtain ⟨⟨z0, z1, z2⟩, ⟨z3, z4, z5⟩⟩ := kb.cells3) | skip))
          all_goals
            go_wp2_with fail
            go_meet
            first
            | (have _k := kb; exact ⟨_, A1, n1, c1, rfl, rfl, DB.store kb hI1 (fun hz a ha => by have := hN1 hz a ha; (try simp at this); omega)⟩)
            | exact ⟨_, A1, n1, c1, rfl, rfl, DB.made u1 wc1 _ hL1 hI1 _ rfl⟩
        case rest =>
          obtain ⟨g2, D2, d2, e2, rfl, rfl, hD2⟩ := hcut
          obtain ⟨u2, hu2⟩ : ∃ wm, wm = wc := ⟨_, rfl⟩
          rw [← hu2] at hD2
          rw [← hu2]
          clear hu2
          have hLu2 : Later u1 u2 := hD2.later
          have hTu2 : Later wb2 u2 := below_from hTu1 hLu2
          have HS2 : Hid (∀ W, Later u2 W → ((W.cell? ⟨wc2.heap.size, i * 3, none⟩ = some (.bool x.X.neg) ∧ W.cell? ⟨wc2.heap.size, i * 3 + 1, none⟩ = some (.slice x.A x.n x.c) ∧ W.cell? ⟨wc2.heap.size, i * 3 + 2, none⟩ = some (.int .i64 x.X.s)) ∧ (W.cell? ⟨wc4.heap.size, i * 3, none⟩ = some (.bool y.X.neg) ∧ W.cell? ⟨wc4.heap.size, i * 3 + 1, none⟩ = some (.slice y.A y.n y.c) ∧ W.cell? ⟨wc4.heap.size, i * 3 + 2, none⟩ = some (.int .i64 y.X.s))) ∧ Later u2 W) := fun W hW => ⟨(HS1.out W (below_from hLu2 hW)).1, hW⟩
          have hD1 := hD1.call hLu2
          go_upto_region 8 with fail
          go_cut [12, 13] (fun sP sC W => ∃ (g : Nat) (A1 : Option Addr) (n1 c1 : Nat), sP = .pointer (some ⟨g, 0, none⟩) ∧ sC = .int .i64 gc ∧ DB u2 g 27 A1 n1 c1 E W)
          case first =>
            go_region_held3 (fun W => ((W.cell? ⟨wc2.heap.size, i * 3, none⟩ = some (.bool x.X.neg) ∧ W.cell? ⟨wc2.heap.size, i * 3 + 1, none⟩ = some (.slice x.A x.n x.c) ∧ W.cell? ⟨wc2.heap.size, i * 3 + 2, none⟩ = some (.int .i64 x.X.s)) ∧ (W.cell? ⟨wc4.heap.size, i * 3, none⟩ = some (.bool y.X.neg) ∧ W.cell? ⟨wc4.heap.size, i * 3 + 1, none⟩ = some (.slice y.A y.n y.c) ∧ W.cell? ⟨wc4.heap.size, i * 3 + 2, none⟩ = some (.int .i64 y.X.s))) ∧ Later u2 W)
              ((refine HS2.out _ ?_; repeat (first | exact And.right (by assumption) | exact Later.refl _ | refine Later.drew ?_ | refine Later.alloc ?_ _ | refine Later.setCell ?_ (by first | exact Nat.le_refl _ | exact hL1.size | exact hL2.size | exact hL3.size) _ | refine Later.call ?_ hB1 | refine Later.call ?_ hB2 | refine Later.call ?_ hB3)))
              (first
                | (go_at_call 34; have _t := hB2; refine (hs3.out _ (below_from hTu2 (And.right (by assumption)))).mono ?_; rintro e wc3 ⟨A1, n1, c1, rfl, hI1, hB3, hN1⟩; have hL3 : Later u2 wc3 := Later.call (And.right (by assumption)) hB3; first | (have kb := kb.call hB3; have kl := kb.lt; obtain ⟨⟨z0, z1, z2⟩, ⟨z3, z4, z5⟩⟩ := kb.cells3) | (have hC : Below (wc2.alloc (.cells #[.bool false, .slice none 0 0, .int .i64 0] 27)).heap.size (wc2.alloc (.cells #[.bool false, .slice none 0 0, .int .i64 0] 27)) wc3 := (by with_reducible exact hB3); have kb := (Blk.made u2 wc2 27 _ hL2 _ rfl).call hC; have kl := kb.lt; obtain ⟨⟨z0, z1, z2⟩, ⟨z3, z4, z5⟩⟩ := kb.cells3) | skip)
                | (go_at_call 33; have _t := hB1; refine (of6_any _ _ _).mono ?_; rintro e wc2 ⟨rfl, hB2⟩; have hL2 : Later u2 wc2 := Later.call (And.right (by assumption)) hB2; first | (have kb := kb.call hB2; have kl := kb.lt; obtain ⟨⟨z0, z1, z2⟩, ⟨z3, z4, z5⟩⟩ := kb.cells3) | (have hC : Below (wc1.alloc (.cells #[.bool false, .slice none 0 0, .int .i64 0] 27)).heap.size (wc1.alloc (.cells #[.bool false, .slice none 0 0, .int .i64 0] 27)) wc2 := (by with_reducible exact hB2); have kb := (Blk.made u2 wc1 27 _ hL1 _ rfl).call hC; have kl := kb.lt; obtain ⟨⟨z0, z1, z2⟩, ⟨z3, z4, z5⟩⟩ := kb.cells3) | skip)
                | (go_at_call 33; refine (of6_any _ _ _).mono ?_; rintro e wc1 ⟨rfl, hB1⟩; have hL1 : Later u2 wc1 := Later.call (And.right (by assumption)) hB1; first | (have hC : Below ((u2.alloc (.cells #[.bool false, .slice none 0 0, .int .i64 0] 27)).drew).heap.size ((u2.alloc (.cells #[.bool false, .slice none 0 0, .int .i64 0] 27)).drew) wc1 := (by with_reducible exact hB1); have kb := (Blk.made u2 u2 27 _ (Later.refl u2) _ rfl).drew.call hC; have kl := kb.lt; obtain ⟨⟨z0, z1, z2⟩, ⟨z3, z4, z5⟩⟩ := kb.cells3) | skip))
            all_goals
              go_wp2_with fail
              go_meet
              first
              | (have _k := kb; exact ⟨_, A1, n1, c1, rfl, rfl, DB.store kb hI1 (fun hz a ha => by have := hN1 hz a ha; (try simp at this); omega)⟩)
              | exact ⟨_, A1, n1, c1, rfl, rfl, DB.made u2 wc3 _ hL3 hI1 _ rfl⟩
          case rest =>
            obtain ⟨g3, D3, d3, e3, rfl, rfl, hD3⟩ := hcut
            obtain ⟨u3, hu3⟩ : ∃ wm, wm = wc := ⟨_, rfl⟩
            rw [← hu3] at hD3
            rw [← hu3]
            clear hu3
            have hLu3 : Later u2 u3 := hD3.later
            have hTu3 : Later wb2 u3 := below_from hTu2 hLu3
            have HS3 : Hid (∀ W, Later u3 W → ((W.cell? ⟨wc2.heap.size, i * 3, none⟩ = some (.bool x.X.neg) ∧ W.cell? ⟨wc2.heap.size, i * 3 + 1, none⟩ = some (.slice x.A x.n x.c) ∧ W.cell? ⟨wc2.heap.size, i * 3 + 2, none⟩ = some (.int .i64 x.X.s)) ∧ (W.cell? ⟨wc4.heap.size, i * 3, none⟩ = some (.bool y.X.neg) ∧ W.cell? ⟨wc4.heap.size, i * 3 + 1, none⟩ = some (.slice y.A y.n y.c) ∧ W.cell? ⟨wc4.heap.size, i * 3 + 2, none⟩ = some (.int .i64 y.X.s))) ∧ Later u3 W) := fun W hW => ⟨(HS2.out W (below_from hLu3 hW)).1, hW⟩
            have hD1 := hD1.call hLu3
            have hD2 := hD2.call hLu3
            go_upto_region 9 with fail
            go_cut [14, 15] (fun sP sC W => ∃ (g : Nat) (A1 : Option Addr) (n1 c1 : Nat), sP = .pointer (some ⟨g, 0, none⟩) ∧ sC = .int .i64 gc ∧ DB u3 g 24 A1 n1 c1 E W)
            case first =>
              go_region_held3 (fun W => ((W.cell? ⟨wc2.heap.size, i * 3, none⟩ = some (.bool x.X.neg) ∧ W.cell? ⟨wc2.heap.size, i * 3 + 1, none⟩ = some (.slice x.A x.n x.c) ∧ W.cell? ⟨wc2.heap.size, i * 3 + 2, none⟩ = some (.int .i64 x.X.s)) ∧ (W.cell? ⟨wc4.heap.size, i * 3, none⟩ = some (.bool y.X.neg) ∧ W.cell? ⟨wc4.heap.size, i * 3 + 1, none⟩ = some (.slice y.A y.n y.c) ∧ W.cell? ⟨wc4.heap.size, i * 3 + 2, none⟩ = some (.int .i64 y.X.s))) ∧ Later u3 W)
                ((refine HS3.out _ ?_; repeat (first | exact And.right (by assumption) | exact Later.refl _ | refine Later.drew ?_ | refine Later.alloc ?_ _ | refine Later.setCell ?_ (by first | exact Nat.le_refl _ | exact hL1.size | exact hL2.size) _ | refine Later.call ?_ hB1 | refine Later.call ?_ hB2)))
                (first
                  | (go_at_call 28; have _t := hB1; refine (hs4.out _ (below_from hTu3 (And.right (by assumption)))).mono ?_; rintro e wc2 ⟨A1, n1, c1, rfl, hI1, hB2, hN1⟩; have hL2 : Later u3 wc2 := Later.call (And.right (by assumption)) hB2; first | (have kb := kb.call hB2; have kl := kb.lt; obtain ⟨⟨z0, z1, z2⟩, ⟨z3, z4, z5⟩⟩ := kb.cells3) | (have hC : Below (wc1.alloc (.cells #[.bool false, .slice none 0 0, .int .i64 0] 24)).heap.size (wc1.alloc (.cells #[.bool false, .slice none 0 0, .int .i64 0] 24)) wc2 := (by with_reducible exact hB2); have kb := (Blk.made u3 wc1 24 _ hL1 _ rfl).call hC; have kl := kb.lt; obtain ⟨⟨z0, z1, z2⟩, ⟨z3, z4, z5⟩⟩ := kb.cells3) | skip)
                  | (go_at_call 29; refine (rminus_any _ _ _).mono ?_; rintro e wc1 ⟨rfl, hB1⟩; have hL1 : Later u3 wc1 := Later.call (And.right (by assumption)) hB1; first | (have hC : Below ((u3.alloc (.cells #[.bool false, .slice none 0 0, .int .i64 0] 24)).drew).heap.size ((u3.alloc (.cells #[.bool false, .slice none 0 0, .int .i64 0] 24)).drew) wc1 := (by with_reducible exact hB1); have kb := (Blk.made u3 u3 24 _ (Later.refl u3) _ rfl).drew.call hC; have kl := kb.lt; obtain ⟨⟨z0, z1, z2⟩, ⟨z3, z4, z5⟩⟩ := kb.cells3) | skip))
              all_goals
                go_wp2_with fail
                go_meet
                first
                | (have _k := kb; exact ⟨_, A1, n1, c1, rfl, rfl, DB.store kb hI1 (fun hz a ha => by have := hN1 hz a ha; (try simp at this); omega)⟩)
                | exact ⟨_, A1, n1, c1, rfl, rfl, DB.made u3 wc2 _ hL2 hI1 _ rfl⟩
            case rest =>
              obtain ⟨g4, D4, d4, e4, rfl, rfl, hD4⟩ := hcut
              obtain ⟨u4, hu4⟩ : ∃ wm, wm = wc := ⟨_, rfl⟩
              rw [← hu4] at hD4
              rw [← hu4]
              clear hu4
              have hLu4 : Later u3 u4 := hD4.later
              have hTu4 : Later wb2 u4 := below_from hTu3 hLu4
              have HS4 : Hid (∀ W, Later u4 W → ((W.cell? ⟨wc2.heap.size, i * 3, none⟩ = some (.bool x.X.neg) ∧ W.cell? ⟨wc2.heap.size, i * 3 + 1, none⟩ = some (.slice x.A x.n x.c) ∧ W.cell? ⟨wc2.heap.size, i * 3 + 2, none⟩ = some (.int .i64 x.X.s)) ∧ (W.cell? ⟨wc4.heap.size, i * 3, none⟩ = some (.bool y.X.neg) ∧ W.cell? ⟨wc4.heap.size, i * 3 + 1, none⟩ = some (.slice y.A y.n y.c) ∧ W.cell? ⟨wc4.heap.size, i * 3 + 2, none⟩ = some (.int .i64 y.X.s))) ∧ Later u4 W) := fun W hW => ⟨(HS3.out W (below_from hLu4 hW)).1, hW⟩
              have hD1 := hD1.call hLu4
              have hD2 := hD2.call hLu4
              have hD3 := hD3.call hLu4
              have z1 := Lib.hid hD1.at_
              have z2 := Lib.hid hD2.at_
              have z3 := Lib.hid hD3.at_
              have z4 := Lib.hid hD4.at_
              clear hD1 hD2 hD3 hD4 HS HS1 HS2 HS3 hs1 hs2 hs3 hs4
              have hsm := Lib.hid (fun s : Ext u4 => csame_at z1.out z2.out s)
              have hsn := Lib.hid (fun s : Ext u4 => csame_at z3.out z4.out s)
              have K0 := z1.out.k0
              have K1 := z1.out.k1
              have K2 := z1.out.k2
              have M0 := z2.out.k0
              have M1 := z2.out.k1
              have M2 := z2.out.k2
              have N0 := z3.out.k0
              have N1 := z3.out.k1
              have N2 := z3.out.k2
              have O0 := z4.out.k0
              have O1 := z4.out.k1
              have O2 := z4.out.k2
              go_upto_region 10 with fail
              refine wp_region_ext (by kernel_rfl) (by kernel_rfl) ?_
              repeat (go_big_quiet_step (first
                | (go_at_call 35; exact quiet_ext _ (as6_any _ _ _))
                | (go_at_call 24; with_reducible exact quiet_ext _ (hsm.out _))
                | (go_at_call 24; exact quiet_ext _ (hsn.out _))))
              refine wpQuiet_nil ?_
              rintro _ ⟨s, rfl⟩
              clear K0 K1 K2 M0 M1 M2 N0 N1 N2 O0 O1 O2 hsm hsn
              generalize hws : s.world = u5
              have hLu5 : Later u4 u5 := by rw [← hws]; exact s.h
              clear hws
              have hTu5 : Later wb2 u5 := below_from hTu4 hLu5
              have y1 := Lib.hid (z1.out.later hLu5)
              clear z1 z2 z3 z4
              by_cases hec : ec = 0
              · subst hec
                obtain ⟨hbk, htr⟩ := hback rfl
                clear hback
                have HS5 : Hid (∀ W, Later u5 W → ((W.cell? ⟨g1, 0, none⟩ = some (.bool D.neg) ∧ W.cell? ⟨g1, 1, none⟩ = some (.slice D1 d1 e1) ∧ W.cell? ⟨g1, 2, none⟩ = some (.int .i64 D.s)) ∧ ((W.cell? ⟨wc2.heap.size, i * 3, none⟩ = some (.bool x.X.neg) ∧ W.cell? ⟨wc2.heap.size, i * 3 + 1, none⟩ = some (.slice x.A x.n x.c) ∧ W.cell? ⟨wc2.heap.size, i * 3 + 2, none⟩ = some (.int .i64 x.X.s)) ∧ (W.cell? ⟨wc4.heap.size, i * 3, none⟩ = some (.bool y.X.neg) ∧ W.cell? ⟨wc4.heap.size, i * 3 + 1, none⟩ = some (.slice y.A y.n y.c) ∧ W.cell? ⟨wc4.heap.size, i * 3 + 2, none⟩ = some (.int .i64 y.X.s)))) ∧ Later u5 W) := fun W hW => ⟨⟨(y1.out.later hW).1, (HS4.out W (below_from hLu5 hW)).1⟩, hW⟩
                go_upto_region 13 with fail
                go_cut [16, 17] (fun sP sC W => ∃ (g : Nat) (A1 : Option Addr) (n1 c1 : Nat), sP = .pointer (some ⟨g, 0, none⟩) ∧ sC = .int .i64 (0 : Int) ∧ DB u5 g 27 A1 n1 c1 T W)
                case first =>
                  go_region_held3 (fun W => ((W.cell? ⟨g1, 0, none⟩ = some (.bool D.neg) ∧ W.cell? ⟨g1, 1, none⟩ = some (.slice D1 d1 e1) ∧ W.cell? ⟨g1, 2, none⟩ = some (.int .i64 D.s)) ∧ ((W.cell? ⟨wc2.heap.size, i * 3, none⟩ = some (.bool x.X.neg) ∧ W.cell? ⟨wc2.heap.size, i * 3 + 1, none⟩ = some (.slice x.A x.n x.c) ∧ W.cell? ⟨wc2.heap.size, i * 3 + 2, none⟩ = some (.int .i64 x.X.s)) ∧ (W.cell? ⟨wc4.heap.size, i * 3, none⟩ = some (.bool y.X.neg) ∧ W.cell? ⟨wc4.heap.size, i * 3 + 1, none⟩ = some (.slice y.A y.n y.c) ∧ W.cell? ⟨wc4.heap.size, i * 3 + 2, none⟩ = some (.int .i64 y.X.s)))) ∧ Later u5 W)
                    ((refine HS5.out _ ?_; repeat (first | exact And.right (by assumption) | exact Later.refl _ | refine Later.drew ?_ | refine Later.alloc ?_ _ | refine Later.setCell ?_ (by first | exact Nat.le_refl _ | exact hL1.size | exact hL2.size) _ | refine Later.call ?_ hB1 | refine Later.call ?_ hB2)))
                    (first
                      | (go_at_call 34; have _t := hB1; refine (hbk.out _ _ _ _ (below_from hTu5 (And.right (by assumption))) ((y1.out.later (And.right (by assumption))).2)).mono ?_; rintro e wc2 ⟨A1, n1, c1, rfl, hI1, hB2, hN1⟩; have hL2 : Later u5 wc2 := Later.call (And.right (by assumption)) hB2; first | (have kb := kb.call hB2; have kl := kb.lt; obtain ⟨⟨z0, z1, z2⟩, ⟨z3, z4, z5⟩⟩ := kb.cells3) | (have hC : Below (wc1.alloc (.cells #[.bool false, .slice none 0 0, .int .i64 0] 27)).heap.size (wc1.alloc (.cells #[.bool false, .slice none 0 0, .int .i64 0] 27)) wc2 := (by with_reducible exact hB2); have kb := (Blk.made u5 wc1 27 _ hL1 _ rfl).call hC; have kl := kb.lt; obtain ⟨⟨z0, z1, z2⟩, ⟨z3, z4, z5⟩⟩ := kb.cells3) | skip)
                      | (go_at_call 33; refine (of6_any _ _ _).mono ?_; rintro e wc1 ⟨rfl, hB1⟩; have hL1 : Later u5 wc1 := Later.call (And.right (by assumption)) hB1; first | (have hC : Below ((u5.alloc (.cells #[.bool false, .slice none 0 0, .int .i64 0] 27)).drew).heap.size ((u5.alloc (.cells #[.bool false, .slice none 0 0, .int .i64 0] 27)).drew) wc1 := (by with_reducible exact hB1); have kb := (Blk.made u5 u5 27 _ (Later.refl u5) _ rfl).drew.call hC; have kl := kb.lt; obtain ⟨⟨z0, z1, z2⟩, ⟨z3, z4, z5⟩⟩ := kb.cells3) | skip))
                  all_goals
                    go_wp2_with fail
                    go_meet
                    first
                    | (have _k := kb; exact ⟨_, A1, n1, c1, rfl, rfl, DB.store kb hI1 (fun hz a ha => by have := hN1 hz a ha; (try simp at this); omega)⟩)
                    | exact ⟨_, A1, n1, c1, rfl, rfl, DB.made u5 wc2 _ hL2 hI1 _ rfl⟩
                case rest =>
                  obtain ⟨g6, D6, d6, e6, rfl, rfl, hD6⟩ := hcut
                  obtain ⟨u6, hu6⟩ : ∃ wm, wm = wc := ⟨_, rfl⟩
                  rw [← hu6] at hD6
                  rw [← hu6]
                  clear hu6
                  have hLu6 : Later u5 u6 := hD6.later
                  have hTu6 : Later wb2 u6 := below_from hTu5 hLu6
                  have y6 := Lib.hid hD6.at_
                  clear hD6
                  have HS6 : Hid (∀ W, Later u6 W → ((W.cell? ⟨g6, 0, none⟩ = some (.bool T.neg) ∧ W.cell? ⟨g6, 1, none⟩ = some (.slice D6 d6 e6) ∧ W.cell? ⟨g6, 2, none⟩ = some (.int .i64 T.s)) ∧ ((W.cell? ⟨wc2.heap.size, i * 3, none⟩ = some (.bool x.X.neg) ∧ W.cell? ⟨wc2.heap.size, i * 3 + 1, none⟩ = some (.slice x.A x.n x.c) ∧ W.cell? ⟨wc2.heap.size, i * 3 + 2, none⟩ = some (.int .i64 x.X.s)) ∧ (W.cell? ⟨wc4.heap.size, i * 3, none⟩ = some (.bool y.X.neg) ∧ W.cell? ⟨wc4.heap.size, i * 3 + 1, none⟩ = some (.slice y.A y.n y.c) ∧ W.cell? ⟨wc4.heap.size, i * 3 + 2, none⟩ = some (.int .i64 y.X.s)))) ∧ Later u6 W) := fun W hW => ⟨⟨(y6.out.later hW).1, (HS5.out W (below_from hLu6 hW)).1.2⟩, hW⟩
                  clear HS5
                  go_upto_region 14 with fail
                  go_region_held3 (fun W => ((W.cell? ⟨g6, 0, none⟩ = some (.bool T.neg) ∧ W.cell? ⟨g6, 1, none⟩ = some (.slice D6 d6 e6) ∧ W.cell? ⟨g6, 2, none⟩ = some (.int .i64 T.s)) ∧ ((W.cell? ⟨wc2.heap.size, i * 3, none⟩ = some (.bool x.X.neg) ∧ W.cell? ⟨wc2.heap.size, i * 3 + 1, none⟩ = some (.slice x.A x.n x.c) ∧ W.cell? ⟨wc2.heap.size, i * 3 + 2, none⟩ = some (.int .i64 x.X.s)) ∧ (W.cell? ⟨wc4.heap.size, i * 3, none⟩ = some (.bool y.X.neg) ∧ W.cell? ⟨wc4.heap.size, i * 3 + 1, none⟩ = some (.slice y.A y.n y.c) ∧ W.cell? ⟨wc4.heap.size, i * 3 + 2, none⟩ = some (.int .i64 y.X.s)))) ∧ Later u6 W)
                    ((refine HS6.out _ ?_; repeat (first | exact And.right (by assumption) | exact Later.refl _ | refine Later.drew ?_ | refine Later.call ?_ hB1 | refine Later.call ?_ hB2 | refine Later.call ?_ hB3)))
                    (first
                      | (go_at_call 35; refine (as6_any _ _ _).mono ?_; rintro e wc1 ⟨rfl, hB1⟩)
                      | (go_at_call 36; refine (htr.out _ (below_from hTu6 (And.right (by assumption)))).mono ?_; rintro e wc2 ⟨A9, n9, c9, rfl, hI9, hB2, _⟩)
                      | (go_at_call 24; refine (csame_any T.neg T.neg T.s T.s _ (y6.out.later (And.right (by assumption))).2 hI9).mono ?_; rw [show sameDc ⟨T.neg, T.l, T.s⟩ ⟨T.neg, T.l, T.s⟩ = true from sameDc_refl _]; rintro e wc3 ⟨rfl, hB3⟩))
                  all_goals
                    go_wp2_with fail
                    go_roundw
                    case rel => first | exact ⟨i + 1, by omega, by go_num, below_from hL (below_from hTu6 (And.right (by assumption)))⟩ | ((repeat apply Exists.intro); exact ⟨⟨i + 1, by omega, by go_num, below_from hL (below_from hTu6 (And.right (by assumption)))⟩, rfl⟩)
                    case measure => simp [intOf]; omega
              · have hec2 : (ec == (0 : Int)) = false := by simpa using hec
                have hec3 : (ec != (0 : Int)) = true := by simpa using hec
                clear hback
                go_wp2_with fail
                go_roundw
                case rel => first | exact ⟨i + 1, by omega, by go_num, below_from hL hTu5⟩ | ((repeat apply Exists.intro); exact ⟨⟨i + 1, by omega, by go_num, below_from hL hTu5⟩, rfl⟩)
                case measure => simp [intOf]; omega
    · go_wp2_with fail
      refine (lives6_any _).mono ?_
      rintro e w10 ⟨rfl, hB10⟩
      go_wp2_with fail
      go_ret
      exact ⟨rfl, below_from (below_from hL9 hL) hB10⟩

end Go.Proofs.Ytnndiikogaoeiaa
