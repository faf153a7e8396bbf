/- The walk of EditSelects. No condition. -/
import Derived.Test.YtppkifdngjcbeaaEd5
import Derived.Test.YtppkifdngjcbeaaEd12
import Derived.Test.YtppkifdngjcbeaaEd14
import Derived.BigQuiet
import Derived.BigRegion
namespace Go.Proofs.Ytppkifdngjcbeaa
open Go.RowKit
set_option linter.unusedSimpArgs false

def SV.at_ (x : SV) (W : World) (g o : Nat) : Prop := W.cell? ⟨g, o, none⟩ = some (.bool x.v.b) ∧ W.cell? ⟨g, o + 1, none⟩ = some (.slice x.v.A x.v.n x.v.c) ∧ W.cell? ⟨g, o + 2, none⟩ = some (.bool x.v.p) ∧ W.cell? ⟨g, o + 3, none⟩ = some (.slice x.v.E x.v.m x.v.q) ∧ W.cell? ⟨g, o + 4, none⟩ = some (.int .i64 x.c) ∧ W.cell? ⟨g, o + 5, none⟩ = some (.int .i64 x.a)
theorem SV.at_.later {x : SV} {W W' : World} {g o : Nat} (h : x.at_ W g o) (hb : Later W W') : x.at_ W' g o := ⟨hb.cell h.1, hb.cell h.2.1, hb.cell h.2.2.1, hb.cell h.2.2.2.1, hb.cell h.2.2.2.2.1, hb.cell h.2.2.2.2.2⟩
theorem three_cells (w : World) (e : TypeId) (x y z : Int) (i : Nat) (hi : i < 3) : (w.alloc (.cells #[.int .i64 x, .int .i64 y, .int .i64 z] e)).cell? ⟨w.heap.size, i, none⟩ = some (.int .i64 (if i = 0 then x else if i = 1 then y else z)) := by
  rw [World.cell?_alloc_at _ _ _ _ rfl]
  have hcs : i = 0 ∨ i = 1 ∨ i = 2 := by omega
  rcases hcs with rfl | rfl | rfl <;> rfl
set_option maxRecDepth 100000 in
set_option maxHeartbeats 8000000 in
theorem editSelects_walk (w : World) (x0 : SV) {f1 g1 a2 b2 : Int} (w0 : x0.v.ok w) (i0 : I64 x0.v.l ∧ I64 x0.v.f) (c0 : I6 x0.c) (a0 : I6 x0.a) (j1 : -9223372036854775808 ≤ a2 ∧ a2 ≤ 9223372036854775807) (j2 : -9223372036854775808 ≤ b2 ∧ b2 ≤ 9223372036854775807) (s1 : Bool) (_l1 : I6 f1) (_m1 : I6 g1) :
    Calls Try.prog 9 #[.agg #[.bool x0.v.b, .slice x0.v.A x0.v.n x0.v.c, .bool x0.v.p, .slice x0.v.E x0.v.m x0.v.q, .int .i64 x0.c, .int .i64 x0.a], .int .i64 a2, .int .i64 b2, .agg #[.int .i64 f1, .int .i64 g1, .bool s1]] w fun e w' => e = .returned (.bool true) ∧ Below w.heap.size w w' := by
  have hgd := Lib.hid (fun W (hW : x0.v.ok W) => rsgood_any x0 6 4 6 W hW i0.1 i0.2 c0 a0 (by omega) (by omega) (by omega))
  have hfw := Lib.hid (fun W (hW : x0.v.ok W) => rsfew_any x0 8 W hW (by omega))
  have hga := Lib.hid (fun W => around_any a2 13 W j1.1 j1.2 (by omega) (by omega))
  have hgb := Lib.hid (fun W => around_any b2 13 W j2.1 j2.2 (by omega) (by omega))
  have hGm := goodS_may x0 6 4
  have hGl := gdS_len x0 6 4
  have hGd : Hid ((goodS x0 6 4).d = gdS x0 6 4) := rfl
  generalize around a2 13 = ra at *
  generalize around b2 13 = rb at *
  generalize goodS x0 6 4 = G at *
  generalize gdS x0 6 4 = gd at *
  have hx00 := ((SB.made w w 53 x0 (Later.refl w) w0 (w.heap.size) (by simp)).alloc (.cells #[.int .i64 f1, .int .i64 g1, .bool s1] 55))
  have hL0 := (Blk.made w (w.alloc (.cells #[.bool x0.v.b, .slice x0.v.A x0.v.n x0.v.c, .bool x0.v.p, .slice x0.v.E x0.v.m x0.v.q, .int .i64 x0.c, .int .i64 x0.a] 53)) 55 #[.int .i64 f1, .int .i64 g1, .bool s1] ((Later.refl w).alloc _) (w.heap.size + 1) (by simp))
  go_enter Try.func9, Try.ntmps9
  go_upto_region 1 with fail
  generalize World.alloc (World.alloc w _) _ = w1 at *
  have qx00 := hx00.c0
  have qx01 := hx00.c1
  have qx02 := hx00.c2
  have qx03 := hx00.c3
  have qx04 := hx00.c4
  have qx05 := hx00.c5
  go_wp2_with fail
  refine (hgd.out _ hx00.ok).mono ?_
  rintro e w2 ⟨y, rfl, hyS, hyo, hyn, hB2⟩
  clear qx00 qx01 qx02 qx03 qx04 qx05
  have hx02 := hx00.call hB2
  clear hx00
  have hL2 := hL0.call hB2
  clear hL0
  have hy2 := SB.made w w2 53 y hx02.later hyo _ rfl
  go_upto_region 2 with fail
  have hx0_v2 := hx02.alloc (.cells #[.bool y.v.b, .slice y.v.A y.v.n y.v.c, .bool y.v.p, .slice y.v.E y.v.m y.v.q, .int .i64 y.c, .int .i64 y.a] 53)
  clear hx02
  have hL_v2 := hL2.alloc (.cells #[.bool y.v.b, .slice y.v.A y.v.n y.v.c, .bool y.v.p, .slice y.v.E y.v.m y.v.q, .int .i64 y.c, .int .i64 y.a] 53)
  clear hL2
  generalize hgw : World.alloc w2 _ = v2 at *
  clear hgw
  obtain ⟨wk, hwk⟩ : ∃ wm, wm = v2 := ⟨_, rfl⟩
  subst hwk
  have hy := hy2
  have hx := hx0_v2
  have hM := hL_v2
  clear hy2 hx0_v2 hL_v2
  have HS7 : Hid (∀ W, Later wk W → ((W.cell? ⟨w2.heap.size, 0, none⟩ = some (.bool y.v.b) ∧ W.cell? ⟨w2.heap.size, 1, none⟩ = some (.slice y.v.A y.v.n y.v.c) ∧ W.cell? ⟨w2.heap.size, 2, none⟩ = some (.bool y.v.p) ∧ W.cell? ⟨w2.heap.size, 3, none⟩ = some (.slice y.v.E y.v.m y.v.q) ∧ W.cell? ⟨w2.heap.size, 4, none⟩ = some (.int .i64 y.c) ∧ W.cell? ⟨w2.heap.size, 5, none⟩ = some (.int .i64 y.a)) ∧ (W.cell? ⟨w.heap.size, 0, none⟩ = some (.bool x0.v.b) ∧ W.cell? ⟨w.heap.size, 1, none⟩ = some (.slice x0.v.A x0.v.n x0.v.c) ∧ W.cell? ⟨w.heap.size, 2, none⟩ = some (.bool x0.v.p) ∧ W.cell? ⟨w.heap.size, 3, none⟩ = some (.slice x0.v.E x0.v.m x0.v.q) ∧ W.cell? ⟨w.heap.size, 4, none⟩ = some (.int .i64 x0.c) ∧ W.cell? ⟨w.heap.size, 5, none⟩ = some (.int .i64 x0.a))) ∧ Later wk W) := fun W hW => by
    have q1 := hy.call hW
    have q2 := hx.call hW
    exact ⟨⟨⟨q1.c0, q1.c1, q1.c2, q1.c3, q1.c4, q1.c5⟩, ⟨q2.c0, q2.c1, q2.c2, q2.c3, q2.c4, q2.c5⟩⟩, hW⟩
  have hxo := Lib.hid (fun W (hW : Later wk W) => (hx.call hW).ok)
  go_region_held3 (fun W => ((W.cell? ⟨w2.heap.size, 0, none⟩ = some (.bool y.v.b) ∧ W.cell? ⟨w2.heap.size, 1, none⟩ = some (.slice y.v.A y.v.n y.v.c) ∧ W.cell? ⟨w2.heap.size, 2, none⟩ = some (.bool y.v.p) ∧ W.cell? ⟨w2.heap.size, 3, none⟩ = some (.slice y.v.E y.v.m y.v.q) ∧ W.cell? ⟨w2.heap.size, 4, none⟩ = some (.int .i64 y.c) ∧ W.cell? ⟨w2.heap.size, 5, none⟩ = some (.int .i64 y.a)) ∧ (W.cell? ⟨w.heap.size, 0, none⟩ = some (.bool x0.v.b) ∧ W.cell? ⟨w.heap.size, 1, none⟩ = some (.slice x0.v.A x0.v.n x0.v.c) ∧ W.cell? ⟨w.heap.size, 2, none⟩ = some (.bool x0.v.p) ∧ W.cell? ⟨w.heap.size, 3, none⟩ = some (.slice x0.v.E x0.v.m x0.v.q) ∧ W.cell? ⟨w.heap.size, 4, none⟩ = some (.int .i64 x0.c) ∧ W.cell? ⟨w.heap.size, 5, none⟩ = some (.int .i64 x0.a))) ∧ Later wk W)
    ((refine HS7.out _ ?_; repeat (first | exact And.right (by assumption) | exact Later.refl _ | refine Later.drew ?_ | refine Later.alloc ?_ _ | refine Later.call ?_ hB2)))
    (first | (go_at_call 31; refine (hfw.out _ (hxo.out _ (And.right (by assumption)))).mono ?_; rintro e wc2 ⟨z, rfl, hzS, hzo, hzn, hB2⟩; have hL2 : Later wk wc2 := Later.call (And.right (by assumption)) hB2))
  go_upto_region 3 with fail
  generalize hw8 : World.alloc wc2 _ = w8
  have h28 : Later wc2 w8 := by rw [← hw8]; exact (Later.refl wc2).alloc _
  have hk8 : Later wk w8 := below_from hL2 h28
  go_wp2_with fail
  refine (hga.out _).mono ?_
  rintro e _ ⟨rfl, rfl⟩
  go_wp2_with fail
  refine (hga.out _).mono ?_
  rintro e _ ⟨rfl, rfl⟩
  go_upto_region 4 with fail
  generalize hw7 : World.alloc w8 _ = w7
  have h87 : Later w8 w7 := by rw [← hw7]; exact (Later.refl w8).alloc _
  go_wp2_with fail
  refine (hgb.out _).mono ?_
  rintro e _ ⟨rfl, rfl⟩
  go_wp2_with fail
  refine (hgb.out _).mono ?_
  rintro e _ ⟨rfl, rfl⟩
  go_upto_region 5 with fail
  generalize hw9 : World.alloc w7 _ = w9
  have h79 : Later w7 w9 := by rw [← hw9]; exact (Later.refl w7).alloc _
  have h89 : Later w8 w9 := below_from h87 h79
  have h29 : Later wc2 w9 := below_from h28 h89
  have hk9 : Later wk w9 := below_from hL2 h29
  have hL9 : Later w w9 := below_from hy.later hk9
  have hM9 := hM.call hk9
  obtain ⟨Fn, Pn, Qn, hF⟩ : ∃ (Fn : Nat → SV) (Pn Qn : Nat → Int), ∀ i, i < 3 → ((Fn i).at_ w9 wc2.heap.size (i * 6) ∧ w9.cell? ⟨w8.heap.size, i, none⟩ = some (.int .i64 (Pn i)) ∧ w9.cell? ⟨w7.heap.size, i, none⟩ = some (.int .i64 (Qn i))) ∧ (Fn i).v.ok w9 ∧ (Fn i).v.fit := by
    refine ⟨fun i => if i = 0 then y else if i = 1 then z else y, fun i => if i = 0 then ra else if i = 1 then ra else a2, fun i => if i = 0 then rb else if i = 1 then rb else b2, ?_⟩
    have hcl8 : ∀ i v, (#[.bool y.v.b, .slice y.v.A y.v.n y.v.c, .bool y.v.p, .slice y.v.E y.v.m y.v.q, .int .i64 y.c, .int .i64 y.a, .bool z.v.b, .slice z.v.A z.v.n z.v.c, .bool z.v.p, .slice z.v.E z.v.m z.v.q, .int .i64 z.c, .int .i64 z.a, .bool y.v.b, .slice y.v.A y.v.n y.v.c, .bool y.v.p, .slice y.v.E y.v.m y.v.q, .int .i64 y.c, .int .i64 y.a] : Array Value)[i]? = some v → w9.cell? ⟨wc2.heap.size, i, none⟩ = some v := fun i v hv => h89.cell (by rw [← hw8, World.cell?_alloc_at _ _ _ _ rfl]; exact hv)
    have hmG := mayS_iff.1 hGm
    rw [← hyS.out] at hmG
    obtain ⟨hmd, ⟨hc0, hc1⟩, ha0, ha1⟩ := hmG
    have hmd2 := mayDr_iff.1 hmd
    have hyl : lenR y.s.d ≤ 20001 := by
      have e := atoms_len y.v.l y.v.p y.v.f
      have e1 := hyo.1.len
      have e2 := hyo.2.len
      have e5 : lenR y.s.d = ((atomsD y.v.l y.v.p y.v.f).length : Int) := rfl
      have e6 := hyn.1
      have e7 := hyn.2
      omega
    have hyf : y.v.fit := ⟨fun q hq => by have := mayL_iff.1 hmd2.1 q hq; omega, fun q hq => by have := mayL_iff.1 hmd2.2.1 q hq; omega, by have := hyn.1; omega, by have := hyn.2; omega⟩
    have hc0' : 0 ≤ y.c := hc0
    have hc1' : y.c ≤ lenR y.s.d := hc1
    have ha0' : 0 ≤ y.a := ha0
    have ha1' : y.a ≤ lenR y.s.d := ha1
    have hyk := hy.ok.later hk9
    intro i hi
    have hp : w9.cell? ⟨w8.heap.size, i, none⟩ = some (.int .i64 (if i = 0 then ra else if i = 1 then ra else a2)) := h79.cell (by rw [← hw7]; exact three_cells _ _ _ _ _ i hi)
    have hq : w9.cell? ⟨w7.heap.size, i, none⟩ = some (.int .i64 (if i = 0 then rb else if i = 1 then rb else b2)) := by rw [← hw9]; exact three_cells _ _ _ _ _ i hi
    have hcs : i = 0 ∨ i = 1 ∨ i = 2 := by omega
    rcases hcs with rfl | rfl | rfl
    · exact ⟨⟨⟨hcl8 0 _ rfl, hcl8 1 _ rfl, hcl8 2 _ rfl, hcl8 3 _ rfl, hcl8 4 _ rfl, hcl8 5 _ rfl⟩, hp, hq⟩, hyk, hyf⟩
    · have e1 : z.v.l = x0.v.l.take 8 := congrArg (fun s : St => s.d.int) hzS.out
      have e2 : z.v.f = x0.v.f.take 8 := congrArg (fun s : St => s.d.frac) hzS.out
      exact ⟨⟨⟨hcl8 6 _ rfl, hcl8 7 _ rfl, hcl8 8 _ rfl, hcl8 9 _ rfl, hcl8 10 _ rfl, hcl8 11 _ rfl⟩, hp, hq⟩, hzo.later h29, ⟨by show I64 z.v.l; rw [e1]; exact i0.1.take 8, by show I64 z.v.f; rw [e2]; exact i0.2.take 8, by show z.v.n ≤ _; have := hzn.1; omega, by show z.v.m ≤ _; have := hzn.2; omega⟩⟩
    · exact ⟨⟨⟨hcl8 12 _ rfl, hcl8 13 _ rfl, hcl8 14 _ rfl, hcl8 15 _ rfl, hcl8 16 _ rfl, hcl8 17 _ rfl⟩, hp, hq⟩, hyk, hyf⟩
  have HF := Lib.hid hF
  have hM9c := hM9.cells3.1
  clear hF hw9 hw8 hw7 h28 hk8 h87 h79 h89 h29 hk9 hzS hzo hzn hB2 hL2 HS7 hxo hy hx hM hM9 hyS hyo hyn hga hgb
  go_wp2_with fail
  go_loopw [13] (fun v wr => ∃ i : Nat, i ≤ 3 ∧ v = .int .i64 i ∧ Later w9 wr) (fun v _ => 3 - (intOf v).toNat)
  case atStart => exact ⟨0, by omega, rfl, Later.refl _⟩
  case round =>
    obtain ⟨i, hi, rfl, hL0⟩ := hrel
    by_cases hlt : i < 3
    · obtain ⟨⟨hx1, hx4, hx5⟩, hx2, hx3⟩ := HF.out i hlt
      generalize Fn i = x at *
      generalize Pn i = p at *
      generalize Qn i = r at *
      have hi3 : (i : Int) < 3 := by omega
      have hi0 : (0 : Int) ≤ (i : Int) := by omega
      obtain ⟨wr3, hwr⟩ : ∃ wb, wb = wr := ⟨_, rfl⟩
      have hL3 : Later w9 wr3 := by rw [hwr]; exact hL0
      rw [← hwr]
      clear hwr hL0
      have HS : Hid (∀ W, Later wr3 W → ((W.cell? ⟨wc2.heap.size, i * 6, none⟩ = some (.bool x.v.b) ∧ W.cell? ⟨wc2.heap.size, i * 6 + 1, none⟩ = some (.slice x.v.A x.v.n x.v.c) ∧ W.cell? ⟨wc2.heap.size, i * 6 + 2, none⟩ = some (.bool x.v.p) ∧ W.cell? ⟨wc2.heap.size, i * 6 + 3, none⟩ = some (.slice x.v.E x.v.m x.v.q) ∧ W.cell? ⟨wc2.heap.size, i * 6 + 4, none⟩ = some (.int .i64 x.c) ∧ W.cell? ⟨wc2.heap.size, i * 6 + 5, none⟩ = some (.int .i64 x.a)) ∧ (W.cell? ⟨w8.heap.size, i, none⟩ = some (.int .i64 p) ∧ W.cell? ⟨w7.heap.size, i, none⟩ = some (.int .i64 r)) ∧ (W.cell? ⟨(w.heap.size + 1), 0, none⟩ = some (.int .i64 f1) ∧ W.cell? ⟨(w.heap.size + 1), 1, none⟩ = some (.int .i64 g1) ∧ W.cell? ⟨(w.heap.size + 1), 2, none⟩ = some (.bool s1))) ∧ Later wr3 W) := fun W hW => by
        have hLW : Later w9 W := below_from hL3 hW
        exact ⟨⟨hx1.later hLW, ⟨hLW.cell hx4, hLW.cell hx5⟩, ⟨hLW.cell hM9c.1, hLW.cell hM9c.2.1, hLW.cell hM9c.2.2⟩⟩, hW⟩
      have hxw := Lib.hid (fun W (hW : Later wr3 W) => (hx2.later (below_from hL3 hW) : x.v.ok W))
      have hB9 : w9.heap.size ≤ wr3.heap.size := hL3.size
      have hxOld : x.olds w9.heap.size := hx2.old
      obtain ⟨D1, hP1, hR1⟩ : ∃ D : St × Int, Hid (∀ W, Later wr3 W → Calls Try.prog 46 #[.agg #[.bool x.v.b, .slice x.v.A x.v.n x.v.c, .bool x.v.p, .slice x.v.E x.v.m x.v.q, .int .i64 x.c, .int .i64 x.a], .int .i64 p, .int .i64 r] W (RSE w9.heap.size W D.1 D.2)) ∧
          Hid (∀ W, Later wr3 W → Calls Try.prog 47 #[.agg #[.bool x.v.b, .slice x.v.A x.v.n x.v.c, .bool x.v.p, .slice x.v.E x.v.m x.v.q, .int .i64 x.c, .int .i64 x.a], .int .i64 p, .int .i64 r] W (RSE w9.heap.size W D.1 D.2)) :=
        ⟨selectS x.s p r, fun W hW => eselect_any x p r W (hxw.out W hW) hx3 w9.heap.size hxOld (Nat.le_trans hB9 hW.size), fun W hW => rsselect_any x p r W (hxw.out W hW) hx3 w9.heap.size hxOld (Nat.le_trans hB9 hW.size)⟩
      obtain ⟨D1, ec1⟩ := D1
      obtain ⟨D2, hP2, hR2⟩ : ∃ D : St × Int, Hid (∀ W, Later wr3 W → Calls Try.prog 48 #[.agg #[.bool x.v.b, .slice x.v.A x.v.n x.v.c, .bool x.v.p, .slice x.v.E x.v.m x.v.q, .int .i64 x.c, .int .i64 x.a], .agg #[.int .i64 f1, .int .i64 g1, .bool s1]] W (RSE w9.heap.size W D.1 D.2)) ∧
          Hid (∀ W, Later wr3 W → Calls Try.prog 49 #[.agg #[.bool x.v.b, .slice x.v.A x.v.n x.v.c, .bool x.v.p, .slice x.v.E x.v.m x.v.q, .int .i64 x.c, .int .i64 x.a], .agg #[.int .i64 f1, .int .i64 g1, .bool s1]] W (RSE w9.heap.size W D.1 D.2)) :=
        ⟨toggleS x.s s1, fun W hW => etoggle_any x f1 g1 s1 W (hxw.out W hW) hx3 w9.heap.size hxOld (Nat.le_trans hB9 hW.size), fun W hW => rstoggle_any x f1 g1 s1 W (hxw.out W hW) hx3 w9.heap.size hxOld (Nat.le_trans hB9 hW.size)⟩
      obtain ⟨D2, ec2⟩ := D2
      go_upto_region 8 with fail
      go_cut [14, 15] (fun sP sC W => ∃ (g : Nat) (q : SV), sP = .pointer (some ⟨g, 0, none⟩) ∧ sC = .int .i64 ec1 ∧ SB wr3 g 61 q W ∧ Hid (q.s = D1))
      case first =>
        as_aux_lemma =>
          go_region_held3 (fun W => ((W.cell? ⟨wc2.heap.size, i * 6, none⟩ = some (.bool x.v.b) ∧ W.cell? ⟨wc2.heap.size, i * 6 + 1, none⟩ = some (.slice x.v.A x.v.n x.v.c) ∧ W.cell? ⟨wc2.heap.size, i * 6 + 2, none⟩ = some (.bool x.v.p) ∧ W.cell? ⟨wc2.heap.size, i * 6 + 3, none⟩ = some (.slice x.v.E x.v.m x.v.q) ∧ W.cell? ⟨wc2.heap.size, i * 6 + 4, none⟩ = some (.int .i64 x.c) ∧ W.cell? ⟨wc2.heap.size, i * 6 + 5, none⟩ = some (.int .i64 x.a)) ∧ (W.cell? ⟨w8.heap.size, i, none⟩ = some (.int .i64 p) ∧ W.cell? ⟨w7.heap.size, i, none⟩ = some (.int .i64 r)) ∧ (W.cell? ⟨(w.heap.size + 1), 0, none⟩ = some (.int .i64 f1) ∧ W.cell? ⟨(w.heap.size + 1), 1, none⟩ = some (.int .i64 g1) ∧ W.cell? ⟨(w.heap.size + 1), 2, none⟩ = some (.bool s1))) ∧ Later wr3 W)
            ((refine HS.out _ ?_; repeat (first | with_reducible refine Later.setCell ?_ (by first | exact Nat.le_refl _ | exact hL1.size | exact hL2.size) _ | with_reducible refine Later.alloc ?_ _ | with_reducible refine Later.drew ?_ | with_reducible refine Later.call ?_ hB2 | with_reducible refine Later.call ?_ hB1 | with_reducible exact Later.refl _ | with_reducible exact And.right (by assumption))))
            (first
              | (go_at_call 46; have _t := hB1; refine (hP1.out _ (And.right (by assumption))).mono ?_; rintro e wc2 ⟨q, rfl, hqS, hqo, hB2, hqN, hqM⟩; have hL2 : Later wr3 wc2 := Later.call (And.right (by assumption)) hB2; first | (have kb := kb.call hB2; have kl := kb.lt; obtain ⟨⟨z0, z1, z2, z3, z4, z5⟩, ⟨z6, z7, z8, z9, z10, z11⟩⟩ := kb.cells6) | (have hC : Below (wc1.alloc (.cells #[.bool false, .slice none 0 0, .bool false, .slice none 0 0, .int .i64 0, .int .i64 0] 61)).heap.size (wc1.alloc (.cells #[.bool false, .slice none 0 0, .bool false, .slice none 0 0, .int .i64 0, .int .i64 0] 61)) wc2 := (by with_reducible exact hB2); have kb := (Blk.made wr3 wc1 61 _ hL1 _ rfl).call hC; have kl := kb.lt; obtain ⟨⟨z0, z1, z2, z3, z4, z5⟩, ⟨z6, z7, z8, z9, z10, z11⟩⟩ := kb.cells6) | skip)
              | (go_at_call 33; refine (of19_any x _).mono ?_; rintro e wc1 ⟨rfl, hB1⟩; have hL1 : Later wr3 wc1 := Later.call (And.right (by assumption)) hB1; first | (have hC : Below ((wr3.alloc (.cells #[.bool false, .slice none 0 0, .bool false, .slice none 0 0, .int .i64 0, .int .i64 0] 61)).drew).heap.size ((wr3.alloc (.cells #[.bool false, .slice none 0 0, .bool false, .slice none 0 0, .int .i64 0, .int .i64 0] 61)).drew) wc1 := (by with_reducible exact hB1); have kb := (Blk.made wr3 wr3 61 _ (Later.refl wr3) _ rfl).drew.call hC; have kl := kb.lt; obtain ⟨⟨z0, z1, z2, z3, z4, z5⟩, ⟨z6, z7, z8, z9, z10, z11⟩⟩ := kb.cells6) | skip))
          all_goals
            go_wp2_with fail
            go_meet
            first
            | (have _k := kb; have _s1 := hL1.size; have _s2 := hL2.size; exact ⟨_, q, rfl, rfl, ⟨kb.store6 _ _ _ _ _ _, hqo.1.set6 (fun hz a ha => by have := hqN hz a ha; omega) _ _ _ _ _ _, hqo.2.set6 (fun hz a ha => by have := hqM hz a ha; omega) _ _ _ _ _ _⟩, hqS⟩)
            | exact ⟨_, q, rfl, rfl, SB.made wr3 wc2 _ q hL2 hqo _ rfl, hqS⟩
      case rest =>
        obtain ⟨ga, qa, rfl, rfl, hqa, hSa⟩ := hcut
        obtain ⟨u1, hu1⟩ : ∃ wm, wm = wc := ⟨_, rfl⟩
        rw [← hu1] at hqa
        rw [← hu1]
        clear hu1
        have hLu1 : Later wr3 u1 := hqa.later
        have hT1 : Later wr3 u1 := hLu1
        have hs1 : w9.heap.size ≤ u1.heap.size := Nat.le_trans hB9 hT1.size
        have HS1 : Hid (∀ W, Later u1 W → ((W.cell? ⟨wc2.heap.size, i * 6, none⟩ = some (.bool x.v.b) ∧ W.cell? ⟨wc2.heap.size, i * 6 + 1, none⟩ = some (.slice x.v.A x.v.n x.v.c) ∧ W.cell? ⟨wc2.heap.size, i * 6 + 2, none⟩ = some (.bool x.v.p) ∧ W.cell? ⟨wc2.heap.size, i * 6 + 3, none⟩ = some (.slice x.v.E x.v.m x.v.q) ∧ W.cell? ⟨wc2.heap.size, i * 6 + 4, none⟩ = some (.int .i64 x.c) ∧ W.cell? ⟨wc2.heap.size, i * 6 + 5, none⟩ = some (.int .i64 x.a)) ∧ (W.cell? ⟨w8.heap.size, i, none⟩ = some (.int .i64 p) ∧ W.cell? ⟨w7.heap.size, i, none⟩ = some (.int .i64 r)) ∧ (W.cell? ⟨(w.heap.size + 1), 0, none⟩ = some (.int .i64 f1) ∧ W.cell? ⟨(w.heap.size + 1), 1, none⟩ = some (.int .i64 g1) ∧ W.cell? ⟨(w.heap.size + 1), 2, none⟩ = some (.bool s1))) ∧ Later u1 W) := fun W hW => ⟨(HS.out W (below_from hT1 hW)).1, hW⟩
        go_upto_region 9 with fail
        go_cut [16, 17] (fun sP sC W => ∃ (g : Nat) (q : SV), sP = .pointer (some ⟨g, 0, none⟩) ∧ sC = .int .i64 ec1 ∧ SB u1 g 53 q W ∧ Hid (q.s = D1))
        case first =>
          as_aux_lemma =>
            go_region_held3 (fun W => ((W.cell? ⟨wc2.heap.size, i * 6, none⟩ = some (.bool x.v.b) ∧ W.cell? ⟨wc2.heap.size, i * 6 + 1, none⟩ = some (.slice x.v.A x.v.n x.v.c) ∧ W.cell? ⟨wc2.heap.size, i * 6 + 2, none⟩ = some (.bool x.v.p) ∧ W.cell? ⟨wc2.heap.size, i * 6 + 3, none⟩ = some (.slice x.v.E x.v.m x.v.q) ∧ W.cell? ⟨wc2.heap.size, i * 6 + 4, none⟩ = some (.int .i64 x.c) ∧ W.cell? ⟨wc2.heap.size, i * 6 + 5, none⟩ = some (.int .i64 x.a)) ∧ (W.cell? ⟨w8.heap.size, i, none⟩ = some (.int .i64 p) ∧ W.cell? ⟨w7.heap.size, i, none⟩ = some (.int .i64 r)) ∧ (W.cell? ⟨(w.heap.size + 1), 0, none⟩ = some (.int .i64 f1) ∧ W.cell? ⟨(w.heap.size + 1), 1, none⟩ = some (.int .i64 g1) ∧ W.cell? ⟨(w.heap.size + 1), 2, none⟩ = some (.bool s1))) ∧ Later u1 W)
              ((refine HS1.out _ ?_; repeat (first | with_reducible refine Later.setCell ?_ (by first | exact Nat.le_refl _ | exact hL1.size) _ | with_reducible refine Later.alloc ?_ _ | with_reducible refine Later.drew ?_ | with_reducible refine Later.call ?_ hB1 | with_reducible exact Later.refl _ | with_reducible exact And.right (by assumption))))
              (first
                | (go_at_call 47; refine (hR1.out _ (below_from hT1 (And.right (by assumption)))).mono ?_; rintro e wc1 ⟨q, rfl, hqS, hqo, hB1, hqN, hqM⟩; have hL1 : Later u1 wc1 := Later.call (And.right (by assumption)) hB1; first | (have hC : Below ((u1.alloc (.cells #[.bool false, .slice none 0 0, .bool false, .slice none 0 0, .int .i64 0, .int .i64 0] 53)).drew).heap.size ((u1.alloc (.cells #[.bool false, .slice none 0 0, .bool false, .slice none 0 0, .int .i64 0, .int .i64 0] 53)).drew) wc1 := (by with_reducible exact hB1); have kb := (Blk.made u1 u1 53 _ (Later.refl u1) _ rfl).drew.call hC; have kl := kb.lt; obtain ⟨⟨z0, z1, z2, z3, z4, z5⟩, ⟨z6, z7, z8, z9, z10, z11⟩⟩ := kb.cells6) | skip))
            all_goals
              go_wp2_with fail
              go_meet
              first
              | (have _k := kb; have _s1 := hL1.size; exact ⟨_, q, rfl, rfl, ⟨kb.store6 _ _ _ _ _ _, hqo.1.set6 (fun hz a ha => by have := hqN hz a ha; omega) _ _ _ _ _ _, hqo.2.set6 (fun hz a ha => by have := hqM hz a ha; omega) _ _ _ _ _ _⟩, hqS⟩)
              | exact ⟨_, q, rfl, rfl, SB.made u1 wc1 _ q hL1 hqo _ rfl, hqS⟩
        case rest =>
          obtain ⟨gb, qb, rfl, rfl, hqb, hSb⟩ := hcut
          obtain ⟨u2, hu2⟩ : ∃ wm, wm = wc := ⟨_, rfl⟩
          rw [← hu2] at hqb
          rw [← hu2]
          clear hu2
          have hLu2 : Later u1 u2 := hqb.later
          have hT2 : Later wr3 u2 := below_from hT1 hLu2
          have hs2 : w9.heap.size ≤ u2.heap.size := Nat.le_trans hB9 hT2.size
          replace hqa := hqa.call hLu2
          have HS2 : Hid (∀ W, Later u2 W → ((W.cell? ⟨wc2.heap.size, i * 6, none⟩ = some (.bool x.v.b) ∧ W.cell? ⟨wc2.heap.size, i * 6 + 1, none⟩ = some (.slice x.v.A x.v.n x.v.c) ∧ W.cell? ⟨wc2.heap.size, i * 6 + 2, none⟩ = some (.bool x.v.p) ∧ W.cell? ⟨wc2.heap.size, i * 6 + 3, none⟩ = some (.slice x.v.E x.v.m x.v.q) ∧ W.cell? ⟨wc2.heap.size, i * 6 + 4, none⟩ = some (.int .i64 x.c) ∧ W.cell? ⟨wc2.heap.size, i * 6 + 5, none⟩ = some (.int .i64 x.a)) ∧ (W.cell? ⟨w8.heap.size, i, none⟩ = some (.int .i64 p) ∧ W.cell? ⟨w7.heap.size, i, none⟩ = some (.int .i64 r)) ∧ (W.cell? ⟨(w.heap.size + 1), 0, none⟩ = some (.int .i64 f1) ∧ W.cell? ⟨(w.heap.size + 1), 1, none⟩ = some (.int .i64 g1) ∧ W.cell? ⟨(w.heap.size + 1), 2, none⟩ = some (.bool s1))) ∧ Later u2 W) := fun W hW => ⟨(HS.out W (below_from hT2 hW)).1, hW⟩
          go_upto_region 10 with fail
          go_cut [18, 19] (fun sP sC W => ∃ (g : Nat) (q : SV), sP = .pointer (some ⟨g, 0, none⟩) ∧ sC = .int .i64 ec2 ∧ SB u2 g 61 q W ∧ Hid (q.s = D2))
          case first =>
            as_aux_lemma =>
              go_region_held3 (fun W => ((W.cell? ⟨wc2.heap.size, i * 6, none⟩ = some (.bool x.v.b) ∧ W.cell? ⟨wc2.heap.size, i * 6 + 1, none⟩ = some (.slice x.v.A x.v.n x.v.c) ∧ W.cell? ⟨wc2.heap.size, i * 6 + 2, none⟩ = some (.bool x.v.p) ∧ W.cell? ⟨wc2.heap.size, i * 6 + 3, none⟩ = some (.slice x.v.E x.v.m x.v.q) ∧ W.cell? ⟨wc2.heap.size, i * 6 + 4, none⟩ = some (.int .i64 x.c) ∧ W.cell? ⟨wc2.heap.size, i * 6 + 5, none⟩ = some (.int .i64 x.a)) ∧ (W.cell? ⟨w8.heap.size, i, none⟩ = some (.int .i64 p) ∧ W.cell? ⟨w7.heap.size, i, none⟩ = some (.int .i64 r)) ∧ (W.cell? ⟨(w.heap.size + 1), 0, none⟩ = some (.int .i64 f1) ∧ W.cell? ⟨(w.heap.size + 1), 1, none⟩ = some (.int .i64 g1) ∧ W.cell? ⟨(w.heap.size + 1), 2, none⟩ = some (.bool s1))) ∧ Later u2 W)
                ((refine HS2.out _ ?_; repeat (first | with_reducible refine Later.setCell ?_ (by first | exact Nat.le_refl _ | exact hL1.size | exact hL2.size) _ | with_reducible refine Later.alloc ?_ _ | with_reducible refine Later.drew ?_ | with_reducible refine Later.call ?_ hB2 | with_reducible refine Later.call ?_ hB1 | with_reducible exact Later.refl _ | with_reducible exact And.right (by assumption))))
                (first
                  | (go_at_call 48; have _t := hB1; refine (hP2.out _ (below_from hT2 (And.right (by assumption)))).mono ?_; rintro e wc2 ⟨q, rfl, hqS, hqo, hB2, hqN, hqM⟩; have hL2 : Later u2 wc2 := Later.call (And.right (by assumption)) hB2; first | (have kb := kb.call hB2; have kl := kb.lt; obtain ⟨⟨z0, z1, z2, z3, z4, z5⟩, ⟨z6, z7, z8, z9, z10, z11⟩⟩ := kb.cells6) | (have hC : Below (wc1.alloc (.cells #[.bool false, .slice none 0 0, .bool false, .slice none 0 0, .int .i64 0, .int .i64 0] 61)).heap.size (wc1.alloc (.cells #[.bool false, .slice none 0 0, .bool false, .slice none 0 0, .int .i64 0, .int .i64 0] 61)) wc2 := (by with_reducible exact hB2); have kb := (Blk.made u2 wc1 61 _ hL1 _ rfl).call hC; have kl := kb.lt; obtain ⟨⟨z0, z1, z2, z3, z4, z5⟩, ⟨z6, z7, z8, z9, z10, z11⟩⟩ := kb.cells6) | skip)
                  | (go_at_call 33; refine (of19_any x _).mono ?_; rintro e wc1 ⟨rfl, hB1⟩; have hL1 : Later u2 wc1 := Later.call (And.right (by assumption)) hB1; first | (have hC : Below ((u2.alloc (.cells #[.bool false, .slice none 0 0, .bool false, .slice none 0 0, .int .i64 0, .int .i64 0] 61)).drew).heap.size ((u2.alloc (.cells #[.bool false, .slice none 0 0, .bool false, .slice none 0 0, .int .i64 0, .int .i64 0] 61)).drew) wc1 := (by with_reducible exact hB1); have kb := (Blk.made u2 u2 61 _ (Later.refl u2) _ rfl).drew.call hC; have kl := kb.lt; obtain ⟨⟨z0, z1, z2, z3, z4, z5⟩, ⟨z6, z7, z8, z9, z10, z11⟩⟩ := kb.cells6) | skip))
              all_goals
                go_wp2_with fail
                go_meet
                first
                | (have _k := kb; have _s1 := hL1.size; have _s2 := hL2.size; exact ⟨_, q, rfl, rfl, ⟨kb.store6 _ _ _ _ _ _, hqo.1.set6 (fun hz a ha => by have := hqN hz a ha; omega) _ _ _ _ _ _, hqo.2.set6 (fun hz a ha => by have := hqM hz a ha; omega) _ _ _ _ _ _⟩, hqS⟩)
                | exact ⟨_, q, rfl, rfl, SB.made u2 wc2 _ q hL2 hqo _ rfl, hqS⟩
          case rest =>
            obtain ⟨gc, qc, rfl, rfl, hqc, hSc⟩ := hcut
            obtain ⟨u3, hu3⟩ : ∃ wm, wm = wc := ⟨_, rfl⟩
            rw [← hu3] at hqc
            rw [← hu3]
            clear hu3
            have hLu3 : Later u2 u3 := hqc.later
            have hT3 : Later wr3 u3 := below_from hT2 hLu3
            have hs3 : w9.heap.size ≤ u3.heap.size := Nat.le_trans hB9 hT3.size
            replace hqa := hqa.call hLu3
            replace hqb := hqb.call hLu3
            have HS3 : Hid (∀ W, Later u3 W → ((W.cell? ⟨wc2.heap.size, i * 6, none⟩ = some (.bool x.v.b) ∧ W.cell? ⟨wc2.heap.size, i * 6 + 1, none⟩ = some (.slice x.v.A x.v.n x.v.c) ∧ W.cell? ⟨wc2.heap.size, i * 6 + 2, none⟩ = some (.bool x.v.p) ∧ W.cell? ⟨wc2.heap.size, i * 6 + 3, none⟩ = some (.slice x.v.E x.v.m x.v.q) ∧ W.cell? ⟨wc2.heap.size, i * 6 + 4, none⟩ = some (.int .i64 x.c) ∧ W.cell? ⟨wc2.heap.size, i * 6 + 5, none⟩ = some (.int .i64 x.a)) ∧ (W.cell? ⟨w8.heap.size, i, none⟩ = some (.int .i64 p) ∧ W.cell? ⟨w7.heap.size, i, none⟩ = some (.int .i64 r)) ∧ (W.cell? ⟨(w.heap.size + 1), 0, none⟩ = some (.int .i64 f1) ∧ W.cell? ⟨(w.heap.size + 1), 1, none⟩ = some (.int .i64 g1) ∧ W.cell? ⟨(w.heap.size + 1), 2, none⟩ = some (.bool s1))) ∧ Later u3 W) := fun W hW => ⟨(HS.out W (below_from hT3 hW)).1, hW⟩
            go_upto_region 11 with fail
            go_cut [20, 21] (fun sP sC W => ∃ (g : Nat) (q : SV), sP = .pointer (some ⟨g, 0, none⟩) ∧ sC = .int .i64 ec2 ∧ SB u3 g 53 q W ∧ Hid (q.s = D2))
            case first =>
              as_aux_lemma =>
                go_region_held3 (fun W => ((W.cell? ⟨wc2.heap.size, i * 6, none⟩ = some (.bool x.v.b) ∧ W.cell? ⟨wc2.heap.size, i * 6 + 1, none⟩ = some (.slice x.v.A x.v.n x.v.c) ∧ W.cell? ⟨wc2.heap.size, i * 6 + 2, none⟩ = some (.bool x.v.p) ∧ W.cell? ⟨wc2.heap.size, i * 6 + 3, none⟩ = some (.slice x.v.E x.v.m x.v.q) ∧ W.cell? ⟨wc2.heap.size, i * 6 + 4, none⟩ = some (.int .i64 x.c) ∧ W.cell? ⟨wc2.heap.size, i * 6 + 5, none⟩ = some (.int .i64 x.a)) ∧ (W.cell? ⟨w8.heap.size, i, none⟩ = some (.int .i64 p) ∧ W.cell? ⟨w7.heap.size, i, none⟩ = some (.int .i64 r)) ∧ (W.cell? ⟨(w.heap.size + 1), 0, none⟩ = some (.int .i64 f1) ∧ W.cell? ⟨(w.heap.size + 1), 1, none⟩ = some (.int .i64 g1) ∧ W.cell? ⟨(w.heap.size + 1), 2, none⟩ = some (.bool s1))) ∧ Later u3 W)
                  ((refine HS3.out _ ?_; repeat (first | with_reducible refine Later.setCell ?_ (by first | exact Nat.le_refl _ | exact hL1.size) _ | with_reducible refine Later.alloc ?_ _ | with_reducible refine Later.drew ?_ | with_reducible refine Later.call ?_ hB1 | with_reducible exact Later.refl _ | with_reducible exact And.right (by assumption))))
                  (first
                    | (go_at_call 49; refine (hR2.out _ (below_from hT3 (And.right (by assumption)))).mono ?_; rintro e wc1 ⟨q, rfl, hqS, hqo, hB1, hqN, hqM⟩; have hL1 : Later u3 wc1 := Later.call (And.right (by assumption)) hB1; first | (have hC : Below ((u3.alloc (.cells #[.bool false, .slice none 0 0, .bool false, .slice none 0 0, .int .i64 0, .int .i64 0] 53)).drew).heap.size ((u3.alloc (.cells #[.bool false, .slice none 0 0, .bool false, .slice none 0 0, .int .i64 0, .int .i64 0] 53)).drew) wc1 := (by with_reducible exact hB1); have kb := (Blk.made u3 u3 53 _ (Later.refl u3) _ rfl).drew.call hC; have kl := kb.lt; obtain ⟨⟨z0, z1, z2, z3, z4, z5⟩, ⟨z6, z7, z8, z9, z10, z11⟩⟩ := kb.cells6) | skip))
                all_goals
                  go_wp2_with fail
                  go_meet
                  first
                  | (have _k := kb; have _s1 := hL1.size; exact ⟨_, q, rfl, rfl, ⟨kb.store6 _ _ _ _ _ _, hqo.1.set6 (fun hz a ha => by have := hqN hz a ha; omega) _ _ _ _ _ _, hqo.2.set6 (fun hz a ha => by have := hqM hz a ha; omega) _ _ _ _ _ _⟩, hqS⟩)
                  | exact ⟨_, q, rfl, rfl, SB.made u3 wc1 _ q hL1 hqo _ rfl, hqS⟩
            case rest =>
              obtain ⟨gd, qd, rfl, rfl, hqd, hSd⟩ := hcut
              obtain ⟨u4, hu4⟩ : ∃ wm, wm = wc := ⟨_, rfl⟩
              rw [← hu4] at hqd
              rw [← hu4]
              clear hu4
              have hLu4 : Later u3 u4 := hqd.later
              have hT4 : Later wr3 u4 := below_from hT3 hLu4
              have hs4 : w9.heap.size ≤ u4.heap.size := Nat.le_trans hB9 hT4.size
              replace hqa := hqa.call hLu4
              replace hqb := hqb.call hLu4
              replace hqc := hqc.call hLu4
              have HS4 : Hid (∀ W, Later u4 W → ((W.cell? ⟨wc2.heap.size, i * 6, none⟩ = some (.bool x.v.b) ∧ W.cell? ⟨wc2.heap.size, i * 6 + 1, none⟩ = some (.slice x.v.A x.v.n x.v.c) ∧ W.cell? ⟨wc2.heap.size, i * 6 + 2, none⟩ = some (.bool x.v.p) ∧ W.cell? ⟨wc2.heap.size, i * 6 + 3, none⟩ = some (.slice x.v.E x.v.m x.v.q) ∧ W.cell? ⟨wc2.heap.size, i * 6 + 4, none⟩ = some (.int .i64 x.c) ∧ W.cell? ⟨wc2.heap.size, i * 6 + 5, none⟩ = some (.int .i64 x.a)) ∧ (W.cell? ⟨w8.heap.size, i, none⟩ = some (.int .i64 p) ∧ W.cell? ⟨w7.heap.size, i, none⟩ = some (.int .i64 r)) ∧ (W.cell? ⟨(w.heap.size + 1), 0, none⟩ = some (.int .i64 f1) ∧ W.cell? ⟨(w.heap.size + 1), 1, none⟩ = some (.int .i64 g1) ∧ W.cell? ⟨(w.heap.size + 1), 2, none⟩ = some (.bool s1))) ∧ Later u4 W) := fun W hW => ⟨(HS.out W (below_from hT4 hW)).1, hW⟩
              clear hP1 hP2 hR1 hR2 HS1 HS2 HS3 HS4
              have hfr : Hid ((if x.a < x.c then x.a else x.c) = frontS x.s) := rfl
              have hbk : Hid ((if x.c < x.a then x.a else x.c) = backS x.s) := rfl
              have hsp := Lib.hid (fun W (hW : Later wr3 W) => espan_any x W (hxw.out W hW) hx3)
              have hmy := Lib.hid (fun W (hW : Later wr3 W) => rsmay_any x W (hxw.out W hW) hx3)
              have hem := Lib.hid (fun W (hW : Later wr3 W) => emay_any x W (hxw.out W hW) hx3)
              generalize frontS x.s = fr at *
              generalize backS x.s = bk at *
              generalize mayS x.s = mm at *
              obtain ⟨f5, hf5⟩ : ∃ f5 : Int, Hid ((if mm = true then fr else 0) = f5) := ⟨_, rfl⟩
              obtain ⟨b5, hb5⟩ : ∃ b5 : Int, Hid ((if mm = true then bk else 0) = b5) := ⟨_, rfl⟩
              rw [hf5.out, hb5.out] at hsp
              obtain ⟨k0, k1, k2, k3, k4, k5⟩ := (HS.out _ hT4).1.1
              go_wp2_with fail
              refine (of19_any x _).mono ?_
              rintro e u5 ⟨rfl, hB5⟩
              have hT5 : Later wr3 u5 := Later.call hT4 hB5
              go_wp2_with fail
              refine (hsp.out _ hT5).mono ?_
              rintro e u6 ⟨rfl, hB6⟩
              have hT6 : Later wr3 u6 := Later.call hT5 hB6
              clear k0 k1 k2 k3 k4 k5
              obtain ⟨k0, k1, k2, k3, k4, k5⟩ := (HS.out _ hT6).1.1
              go_wp2_with fail
              refine (hmy.out _ hT6).mono ?_
              rintro e u7 ⟨rfl, hB7⟩
              have hT7 : Later wr3 u7 := Later.call hT6 hB7
              have hL47 : Later u4 u7 := Later.call (Later.call (Later.call (Later.refl u4) hB5) hB6) hB7
              clear k0 k1 k2 k3 k4 k5
              go_upto_region 14 with fail
              have hma := hqa.call hL47
              have hmb := hqb.call hL47
              have hmc := hqc.call hL47
              have hmd := hqd.call hL47
              clear hqa hqb hqc hqd hB5 hB6 hB7 hsp hmy
              have hsm1 := Lib.hid (fun s : Ext u7 => rssame_any qa qb s.world (hma.ok.below s.h) (hmb.ok.below s.h) (by rw [hSa.out, hSb.out]))
              have hsm2 := Lib.hid (fun s : Ext u7 => rssame_any qc qd s.world (hmc.ok.below s.h) (hmd.ok.below s.h) (by rw [hSc.out, hSd.out]))
              have hey := Lib.hid (fun s : Ext u7 => hem.out s.world (below_from hT7 s.h))
              have Ka0 := fun s : Ext u7 => Ext.cell hma.c0 s
              have Ka1 := fun s : Ext u7 => Ext.cell hma.c1 s
              have Ka2 := fun s : Ext u7 => Ext.cell hma.c2 s
              have Ka3 := fun s : Ext u7 => Ext.cell hma.c3 s
              have Ka4 := fun s : Ext u7 => Ext.cell hma.c4 s
              have Ka5 := fun s : Ext u7 => Ext.cell hma.c5 s
              have Kb0 := fun s : Ext u7 => Ext.cell hmb.c0 s
              have Kb1 := fun s : Ext u7 => Ext.cell hmb.c1 s
              have Kb2 := fun s : Ext u7 => Ext.cell hmb.c2 s
              have Kb3 := fun s : Ext u7 => Ext.cell hmb.c3 s
              have Kb4 := fun s : Ext u7 => Ext.cell hmb.c4 s
              have Kb5 := fun s : Ext u7 => Ext.cell hmb.c5 s
              have Kc0 := fun s : Ext u7 => Ext.cell hmc.c0 s
              have Kc1 := fun s : Ext u7 => Ext.cell hmc.c1 s
              have Kc2 := fun s : Ext u7 => Ext.cell hmc.c2 s
              have Kc3 := fun s : Ext u7 => Ext.cell hmc.c3 s
              have Kc4 := fun s : Ext u7 => Ext.cell hmc.c4 s
              have Kc5 := fun s : Ext u7 => Ext.cell hmc.c5 s
              have Kd0 := fun s : Ext u7 => Ext.cell hmd.c0 s
              have Kd1 := fun s : Ext u7 => Ext.cell hmd.c1 s
              have Kd2 := fun s : Ext u7 => Ext.cell hmd.c2 s
              have Kd3 := fun s : Ext u7 => Ext.cell hmd.c3 s
              have Kd4 := fun s : Ext u7 => Ext.cell hmd.c4 s
              have Kd5 := fun s : Ext u7 => Ext.cell hmd.c5 s
              have Kx0 := fun s : Ext u7 => Ext.cell ((HS.out _ hT7).1.1.1) s
              have Kx1 := fun s : Ext u7 => Ext.cell ((HS.out _ hT7).1.1.2.1) s
              have Kx2 := fun s : Ext u7 => Ext.cell ((HS.out _ hT7).1.1.2.2.1) s
              have Kx3 := fun s : Ext u7 => Ext.cell ((HS.out _ hT7).1.1.2.2.2.1) s
              have Kx4 := fun s : Ext u7 => Ext.cell ((HS.out _ hT7).1.1.2.2.2.2.1) s
              have Kx5 := fun s : Ext u7 => Ext.cell ((HS.out _ hT7).1.1.2.2.2.2.2) s
              clear hma hmb hmc hmd
              refine wp_region_ext (by kernel_rfl) (by kernel_rfl) ?_
              iterate 16 (go_big_quiet_step (first
                | (go_at_call 36; exact quiet_ext _ (as19_any qa _))
                | (go_at_call 35; exact quiet_ext _ (hsm1.out _))))
              repeat (go_big_quiet_step (first
                | (go_at_call 36; exact quiet_ext _ (as19_any qc _))
                | (go_at_call 33; exact quiet_ext _ (of19_any x _))
                | (go_at_call 51; exact quiet_ext _ (hey.out _))
                | (go_at_call 35; exact quiet_ext _ (hsm2.out _))))
              refine wpQuiet_nil ?_
              rintro _ ⟨s, rfl⟩
              clear Ka0 Ka1 Ka2 Ka3 Ka4 Ka5 Kb0 Kb1 Kb2 Kb3 Kb4 Kb5 Kc0 Kc1 Kc2 Kc3 Kc4 Kc5 Kd0 Kd1 Kd2 Kd3 Kd4 Kd5 Kx0 Kx1 Kx2 Kx3 Kx4 Kx5 hsm1 hsm2 hey hem
              have hT8 : Later wr3 s.world := below_from hT7 s.h
              obtain ⟨u8, hu8⟩ : ∃ wm, wm = s.world := ⟨_, rfl⟩
              rw [← hu8] at hT8
              rw [← hu8]
              clear hu8
              go_upto_region 16 with fail
              have Kx4 := fun s : Ext u8 => Ext.cell ((HS.out _ hT8).1.1.2.2.2.2.1) s
              have Kx5 := fun s : Ext u8 => Ext.cell ((HS.out _ hT8).1.1.2.2.2.2.2) s
              have hfrE := hfr.out
              have hbkE := hbk.out
              have hf5 := hf5.out
              have hb5 := hb5.out
              cases mm
              all_goals
                simp only [Bool.false_eq_true, if_false, if_true] at hf5 hb5
                subst hf5
                subst hb5
                refine wp_region_ext (by kernel_rfl) (by kernel_rfl) ?_
                repeat (go_big_quiet_step (fail))
                refine wpQuiet_nil ?_
                rintro _ ⟨s, rfl⟩
                clear Kx4 Kx5
                go_wp2_with fail
                go_roundw
                case rel => exact ⟨i + 1, by omega, by go_num, below_from hL3 (below_from hT8 s.h)⟩
                case measure => simp [intOf]; omega
    · go_wp2_with fail
      refine (lives19_any _).mono ?_
      rintro e w10 ⟨rfl, hB10⟩
      go_wp2_with fail
      go_ret
      exact ⟨rfl, below_from (below_from hL9 hL0) hB10⟩

end Go.Proofs.Ytppkifdngjcbeaa
