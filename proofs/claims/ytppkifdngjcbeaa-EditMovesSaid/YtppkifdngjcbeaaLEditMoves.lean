/- The walk of EditMoves. No condition. -/
import Derived.Test.YtppkifdngjcbeaaEd9
import Derived.Test.YtppkifdngjcbeaaEd11
import Derived.Test.YtppkifdngjcbeaaEd12
import Derived.Test.YtppkifdngjcbeaaEd14
import Derived.BigQuiet
namespace Go.Proofs.Ytppkifdngjcbeaa
open Go.RowKit
set_option linter.unusedSimpArgs false

theorem SB.far {w0 W : World} {g : Nat} {t : TypeId} {x : SV} (h : SB w0 g t x W) {p : Addr} (hp : g ≠ p.block) (h0 : w0.heap.size ≤ p.block) (h1 : 0 < x.v.n → ∀ a, x.v.A = some a → a.block ≠ p.block) (h2 : 0 < x.v.m → ∀ a, x.v.E = some a → a.block ≠ p.block) (u : Value) :
    SB w0 g t x (W.setCell p u) := ⟨h.1.far hp h0 u, h.2.1.set_ h1 u, h.2.2.set_ h2 u⟩
def SV.at_ (x : SV) (W : World) (g o : Nat) : Prop := W.cell? ⟨g, o, none⟩ = some (.bool x.v.b) ∧ W.cell? ⟨g, o + 1, none⟩ = some (.slice x.v.A x.v.n x.v.c) ∧ W.cell? ⟨g, o + 2, none⟩ = some (.bool x.v.p) ∧ W.cell? ⟨g, o + 3, none⟩ = some (.slice x.v.E x.v.m x.v.q) ∧ W.cell? ⟨g, o + 4, none⟩ = some (.int .i64 x.c) ∧ W.cell? ⟨g, o + 5, none⟩ = some (.int .i64 x.a)
theorem SV.at_.later {x : SV} {W W' : World} {g o : Nat} (h : x.at_ W g o) (hb : Later W W') : x.at_ W' g o := ⟨hb.cell h.1, hb.cell h.2.1, hb.cell h.2.2.1, hb.cell h.2.2.2.1, hb.cell h.2.2.2.2.1, hb.cell h.2.2.2.2.2⟩
set_option maxRecDepth 100000 in
set_option maxHeartbeats 8000000 in
theorem editMoves_walk (w : World) (x0 : SV) (w0 : x0.v.ok w) (i0 : I64 x0.v.l ∧ I64 x0.v.f) (c0 : I6 x0.c) (a0 : I6 x0.a) {a2 : Int} (w2 : -9223372036854775808 ≤ a2 ∧ a2 ≤ 9223372036854775807) :
    Calls Try.prog 8 #[.agg #[.bool x0.v.b, .slice x0.v.A x0.v.n x0.v.c, .bool x0.v.p, .slice x0.v.E x0.v.m x0.v.q, .int .i64 x0.c, .int .i64 x0.a], .int .i64 a2] w fun e w' => e = .returned (.bool true) ∧ Below w.heap.size w w' := by
  have hgd := Lib.hid (fun W (hW : x0.v.ok W) => rsgood_any x0 6 4 6 W hW i0.1 i0.2 c0 a0 (by omega) (by omega) (by omega))
  have hfw := Lib.hid (fun W (hW : x0.v.ok W) => rsfew_any x0 8 W hW (by omega))
  have hGm := goodS_may x0 6 4
  have hGl := gdS_len x0 6 4
  have hGd : Hid ((goodS x0 6 4).d = gdS x0 6 4) := rfl
  generalize goodS x0 6 4 = G at *
  generalize gdS x0 6 4 = gd at *
  have hx00 := (SB.made w w 53 x0 (Later.refl w) w0 (w.heap.size) (by simp))
  go_enter Try.func8, Try.ntmps8
  go_upto_region 1 with fail
  generalize World.alloc w _ = w1 at *
  have qx00 := hx00.c0
  have qx01 := hx00.c1
  have qx02 := hx00.c2
  have qx03 := hx00.c3
  have qx04 := hx00.c4
  have qx05 := hx00.c5
  go_wp2_with fail
  refine (hgd.out _ hx00.ok).mono ?_
  rintro e w2 ⟨y, rfl, hyS, hyo, hyn, hB2⟩
  clear qx00 qx01 qx02 qx03 qx04 qx05
  have hx02 := hx00.call hB2
  clear hx00
  have hyOld := hyo.old
  have hxOld := w0.old
  have gL := hx02.later.size
  have gx := hx02.1.lt
  have hy2 := SB.made w w2 53 y hx02.later hyo _ rfl
  go_upto_region 2 with fail
  have hx0_v2 := hx02.alloc (.cells #[.bool y.v.b, .slice y.v.A y.v.n y.v.c, .bool y.v.p, .slice y.v.E y.v.m y.v.q, .int .i64 y.c, .int .i64 y.a] 53)
  clear hx02
  generalize hgw : World.alloc w2 _ = v2 at *
  clear hgw
  have gy := hy2.1.lt
  have qy0 := hy2.c0
  have qy1 := hy2.c1
  have qy2 := hy2.c2
  have qy3 := hy2.c3
  have qy4 := hy2.c4
  have qy5 := hy2.c5
  have hh2 := SB.made w v2 53 y hy2.later hy2.ok _ rfl
  go_upto_region 3 with fail
  have hx0_v3 := hx0_v2.alloc (.cells #[.bool y.v.b, .slice y.v.A y.v.n y.v.c, .bool y.v.p, .slice y.v.E y.v.m y.v.q, .int .i64 y.c, .int .i64 y.a] 53)
  have hy_v3 := hy2.alloc (.cells #[.bool y.v.b, .slice y.v.A y.v.n y.v.c, .bool y.v.p, .slice y.v.E y.v.m y.v.q, .int .i64 y.c, .int .i64 y.a] 53)
  clear qy0 qy1 qy2 qy3 qy4 qy5 hx0_v2 hy2
  have gh : v2.heap.size < (World.alloc v2 (.cells #[.bool y.v.b, .slice y.v.A y.v.n y.v.c, .bool y.v.p, .slice y.v.E y.v.m y.v.q, .int .i64 y.c, .int .i64 y.a] 53)).heap.size := by simp
  generalize hgw3 : World.alloc v2 _ = v3 at *
  clear hgw3
  have qy0 := hy_v3.c0
  have qy1 := hy_v3.c1
  have qy2 := hy_v3.c2
  have qy3 := hy_v3.c3
  have qy4 := hy_v3.c4
  have qy5 := hy_v3.c5
  obtain ⟨⟨o0, o1, o2, o3, o4, o5⟩, ⟨p0, p1, p2, p3, p4, p5⟩⟩ := hh2.1.cells6
  have hh_v4 := hh2.anc y.c (fun hz a ha => by have := hyOld.1 hz a ha; (try simp only); omega) (fun hz a ha => by have := hyOld.2 hz a ha; (try simp only); omega)
  have hy_v4 := hy_v3.far (p := ⟨v2.heap.size, 5, none⟩) (by simp only; omega) (by simp only; omega) (fun hz a ha => by have := hyOld.1 hz a ha; (try simp only); omega) (fun hz a ha => by have := hyOld.2 hz a ha; (try simp only); omega) (.int .i64 y.c)
  have hx0_v4 := hx0_v3.far (p := ⟨v2.heap.size, 5, none⟩) (by simp only; omega) (by simp only; omega) (fun hz a ha => by have := hxOld.1 hz a ha; (try simp only); omega) (fun hz a ha => by have := hxOld.2 hz a ha; (try simp only); omega) (.int .i64 y.c)
  go_upto_region 4 with fail
  clear o0 o1 o2 o3 o4 o5 p0 p1 p2 p3 p4 p5 hh2 hy_v3 hx0_v3 qy0 qy1 qy2 qy3 qy4 qy5
  generalize hgs_v4 : World.setCell v3 _ _ = v4 at *
  clear hgs_v4
  obtain ⟨wk, hwk⟩ : ∃ wm, wm = v4 := ⟨_, rfl⟩
  subst hwk
  have hh := hh_v4
  have hy := hy_v4
  have hx := hx0_v4
  clear hh_v4 hy_v4 hx0_v4
  have HS7 : Hid (∀ W, Later wk W → ((W.cell? ⟨w2.heap.size, 0, none⟩ = some (.bool y.v.b) ∧ W.cell? ⟨w2.heap.size, 1, none⟩ = some (.slice y.v.A y.v.n y.v.c) ∧ W.cell? ⟨w2.heap.size, 2, none⟩ = some (.bool y.v.p) ∧ W.cell? ⟨w2.heap.size, 3, none⟩ = some (.slice y.v.E y.v.m y.v.q) ∧ W.cell? ⟨w2.heap.size, 4, none⟩ = some (.int .i64 y.c) ∧ W.cell? ⟨w2.heap.size, 5, none⟩ = some (.int .i64 y.a)) ∧ (W.cell? ⟨w.heap.size, 0, none⟩ = some (.bool x0.v.b) ∧ W.cell? ⟨w.heap.size, 1, none⟩ = some (.slice x0.v.A x0.v.n x0.v.c) ∧ W.cell? ⟨w.heap.size, 2, none⟩ = some (.bool x0.v.p) ∧ W.cell? ⟨w.heap.size, 3, none⟩ = some (.slice x0.v.E x0.v.m x0.v.q) ∧ W.cell? ⟨w.heap.size, 4, none⟩ = some (.int .i64 x0.c) ∧ W.cell? ⟨w.heap.size, 5, none⟩ = some (.int .i64 x0.a)) ∧ (W.cell? ⟨v2.heap.size, 0, none⟩ = some (.bool y.v.b) ∧ W.cell? ⟨v2.heap.size, 1, none⟩ = some (.slice y.v.A y.v.n y.v.c) ∧ W.cell? ⟨v2.heap.size, 2, none⟩ = some (.bool y.v.p) ∧ W.cell? ⟨v2.heap.size, 3, none⟩ = some (.slice y.v.E y.v.m y.v.q) ∧ W.cell? ⟨v2.heap.size, 4, none⟩ = some (.int .i64 y.c) ∧ W.cell? ⟨v2.heap.size, 5, none⟩ = some (.int .i64 y.c))) ∧ Later wk W) := fun W hW => by
    have q1 := hy.call hW
    have q2 := hx.call hW
    have q3 := hh.call hW
    exact ⟨⟨⟨q1.c0, q1.c1, q1.c2, q1.c3, q1.c4, q1.c5⟩, ⟨q2.c0, q2.c1, q2.c2, q2.c3, q2.c4, q2.c5⟩, ⟨q3.c0, q3.c1, q3.c2, q3.c3, q3.c4, q3.c5⟩⟩, hW⟩
  have hxo := Lib.hid (fun W (hW : Later wk W) => (hx.call hW).ok)
  go_region_held3 (fun W => ((W.cell? ⟨w2.heap.size, 0, none⟩ = some (.bool y.v.b) ∧ W.cell? ⟨w2.heap.size, 1, none⟩ = some (.slice y.v.A y.v.n y.v.c) ∧ W.cell? ⟨w2.heap.size, 2, none⟩ = some (.bool y.v.p) ∧ W.cell? ⟨w2.heap.size, 3, none⟩ = some (.slice y.v.E y.v.m y.v.q) ∧ W.cell? ⟨w2.heap.size, 4, none⟩ = some (.int .i64 y.c) ∧ W.cell? ⟨w2.heap.size, 5, none⟩ = some (.int .i64 y.a)) ∧ (W.cell? ⟨w.heap.size, 0, none⟩ = some (.bool x0.v.b) ∧ W.cell? ⟨w.heap.size, 1, none⟩ = some (.slice x0.v.A x0.v.n x0.v.c) ∧ W.cell? ⟨w.heap.size, 2, none⟩ = some (.bool x0.v.p) ∧ W.cell? ⟨w.heap.size, 3, none⟩ = some (.slice x0.v.E x0.v.m x0.v.q) ∧ W.cell? ⟨w.heap.size, 4, none⟩ = some (.int .i64 x0.c) ∧ W.cell? ⟨w.heap.size, 5, none⟩ = some (.int .i64 x0.a)) ∧ (W.cell? ⟨v2.heap.size, 0, none⟩ = some (.bool y.v.b) ∧ W.cell? ⟨v2.heap.size, 1, none⟩ = some (.slice y.v.A y.v.n y.v.c) ∧ W.cell? ⟨v2.heap.size, 2, none⟩ = some (.bool y.v.p) ∧ W.cell? ⟨v2.heap.size, 3, none⟩ = some (.slice y.v.E y.v.m y.v.q) ∧ W.cell? ⟨v2.heap.size, 4, none⟩ = some (.int .i64 y.c) ∧ W.cell? ⟨v2.heap.size, 5, none⟩ = some (.int .i64 y.c))) ∧ Later wk W)
    ((refine HS7.out _ ?_; repeat (first | exact And.right (by assumption) | exact Later.refl _ | refine Later.drew ?_ | refine Later.alloc ?_ _ | refine Later.call ?_ hB2)))
    (first | (go_at_call 31; refine (hfw.out _ (hxo.out _ (And.right (by assumption)))).mono ?_; rintro e wc2 ⟨z, rfl, hzS, hzo, hzn, hB2⟩; have hL2 : Later wk wc2 := Later.call (And.right (by assumption)) hB2))
  go_wp2_with fail
  generalize hw9 : World.alloc wc2 _ = w9
  have h29 : Later wc2 w9 := by rw [← hw9]; exact (Later.refl wc2).alloc _
  have hk9 : Later wk w9 := below_from hL2 h29
  have hL9 : Later w w9 := below_from hy.later hk9
  obtain ⟨Fn, hF⟩ : ∃ Fn : Nat → SV, ∀ i, i < 3 → (Fn i).at_ w9 wc2.heap.size (i * 6) ∧ (Fn i).v.ok w9 ∧ (Fn i).v.fit ∧ I6 (Fn i).c ∧ I6 (Fn i).a := by
    refine ⟨fun i => if i = 0 then y else if i = 1 then ⟨y.v, y.c, y.c⟩ else z, ?_⟩
    have hcl : ∀ i, w9.cell? ⟨wc2.heap.size, i, none⟩ = (#[.bool y.v.b, .slice y.v.A y.v.n y.v.c, .bool y.v.p, .slice y.v.E y.v.m y.v.q, .int .i64 y.c, .int .i64 y.a, .bool y.v.b, .slice y.v.A y.v.n y.v.c, .bool y.v.p, .slice y.v.E y.v.m y.v.q, .int .i64 y.c, .int .i64 y.c, .bool z.v.b, .slice z.v.A z.v.n z.v.c, .bool z.v.p, .slice z.v.E z.v.m z.v.q, .int .i64 z.c, .int .i64 z.a] : Array Value)[i]? := fun i => by rw [← hw9, World.cell?_alloc_at _ _ _ _ rfl]
    have hmG := mayS_iff.1 hGm
    rw [← hyS.out] at hmG
    obtain ⟨hmd, ⟨hc0, hc1⟩, ha0, ha1⟩ := hmG
    have hmd2 := mayDr_iff.1 hmd
    have hyl : lenR y.s.d ≤ 20001 := by
      have e := atoms_len y.v.l y.v.p y.v.f
      have e1 := hyo.1.len
      have e2 := hyo.2.len
      have e5 : lenR y.s.d = ((atomsD y.v.l y.v.p y.v.f).length : Int) := rfl
      have e6 := hyn.1
      have e7 := hyn.2
      omega
    have hyf : y.v.fit := ⟨fun q hq => by have := mayL_iff.1 hmd2.1 q hq; omega, fun q hq => by have := mayL_iff.1 hmd2.2.1 q hq; omega, by have := hyn.1; omega, by have := hyn.2; omega⟩
    have hyk := hy.ok.later hk9
    have hc0' : 0 ≤ y.c := hc0
    have hc1' : y.c ≤ lenR y.s.d := hc1
    have ha0' : 0 ≤ y.a := ha0
    have ha1' : y.a ≤ lenR y.s.d := ha1
    intro i hi
    have hcs : i = 0 ∨ i = 1 ∨ i = 2 := by omega
    rcases hcs with rfl | rfl | rfl
    · exact ⟨⟨hcl 0, hcl 1, hcl 2, hcl 3, hcl 4, hcl 5⟩, hyk, hyf, ⟨by show _ ≤ y.c; omega, by show y.c ≤ _; omega⟩, ⟨by show _ ≤ y.a; omega, by show y.a ≤ _; omega⟩⟩
    · exact ⟨⟨hcl 6, hcl 7, hcl 8, hcl 9, hcl 10, hcl 11⟩, hyk, hyf, ⟨by show _ ≤ y.c; omega, by show y.c ≤ _; omega⟩, ⟨by show _ ≤ y.c; omega, by show y.c ≤ _; omega⟩⟩
    · have e1 : z.v.l = x0.v.l.take 8 := congrArg (fun s : St => s.d.int) hzS.out
      have e2 : z.v.f = x0.v.f.take 8 := congrArg (fun s : St => s.d.frac) hzS.out
      have e3 : z.c = x0.c := congrArg St.c hzS.out
      have e4 : z.a = x0.a := congrArg St.a hzS.out
      exact ⟨⟨hcl 12, hcl 13, hcl 14, hcl 15, hcl 16, hcl 17⟩, hzo.later h29, ⟨by show I64 z.v.l; rw [e1]; exact i0.1.take 8, by show I64 z.v.f; rw [e2]; exact i0.2.take 8, by show z.v.n ≤ _; have := hzn.1; omega, by show z.v.m ≤ _; have := hzn.2; omega⟩, by show I6 z.c; rw [e3]; exact c0, by show I6 z.a; rw [e4]; exact a0⟩
  have HF := Lib.hid hF
  clear hF hw9 h29 hk9 hzS hzo hzn hB2 hL2 HS7 hxo hy hx hh hyS hyo hyn hyOld hxOld
  go_loopw [8] (fun v wr => ∃ i : Nat, i ≤ 3 ∧ v = .int .i64 i ∧ Later w9 wr) (fun v _ => 3 - (intOf v).toNat)
  case atStart => exact ⟨0, by omega, rfl, Later.refl _⟩
  case round =>
    obtain ⟨i, hi, rfl, hL0⟩ := hrel
    by_cases hlt : i < 3
    · obtain ⟨hx1, hx2, hx3, hx4, hx5⟩ := HF.out i hlt
      generalize Fn i = x at *
      have hi3 : (i : Int) < 3 := by omega
      have hi0 : (0 : Int) ≤ (i : Int) := by omega
      go_wp2_with fail
      go_loopw [9] (fun v wr => ∃ kk : Int, (-1 ≤ kk ∧ kk ≤ 7) ∧ v = .int .i64 kk ∧ Later w9 wr) (fun v _ => (7 - intOf v).toNat)
      case atStart => exact ⟨-1, by omega, rfl, hL0⟩
      case round =>
       obtain ⟨kk, hkk, rfl, hL⟩ := hrel
       obtain ⟨wr2, hwr⟩ : ∃ wb, wb = wr := ⟨_, rfl⟩
       rw [← hwr] at hL
       rw [← hwr]
       clear hwr hL0
       by_cases hk7 : kk ≤ 6
       case neg =>
        go_wp2_with fail
        go_roundw
        case rel => first | exact ⟨i + 1, by omega, by go_num, hL⟩ | ((repeat apply Exists.intro); exact ⟨⟨i + 1, by omega, by go_num, hL⟩, rfl⟩)
        case measure => simp [intOf]; omega
       obtain ⟨nn, hnn⟩ : ∃ nn, Hid (nn = if kk = 6 then a2 else kk) := ⟨_, rfl⟩
       have hnb : -9223372036854775808 ≤ nn ∧ nn ≤ 9223372036854775807 := by rw [hnn.out]; split <;> omega
       go_upto_if 40 with fail
       go_cut [10] (fun s W => s = .int .i64 nn ∧ W = wr2)
       case first =>
        by_cases h7 : kk = 6
        · have e : Hid (nn = a2) := by rw [Hid, hnn.out, if_pos h7]
          subst h7
          go_wp2_with fail
          go_meet
          exact ⟨by rw [e.out], rfl⟩
        · have e : Hid (nn = kk) := by rw [Hid, hnn.out, if_neg h7]
          have hb : (kk == (6 : Int)) = false := by simpa using h7
          go_wp2_with fail
          go_meet
          exact ⟨by rw [e.out], rfl⟩
       case rest =>
       obtain ⟨rfl, hwc⟩ := hcut
       obtain ⟨wr3, hwr3⟩ : ∃ wm, wm = wc := ⟨_, rfl⟩
       have hL3 : Later w9 wr3 := by rw [hwr3, hwc]; exact hL
       rw [← hwr3]
       clear hwr3 hwc hL hnn
       have HS : Hid (∀ W, Later wr3 W → ((W.cell? ⟨wc2.heap.size, i * 6, none⟩ = some (.bool x.v.b) ∧ W.cell? ⟨wc2.heap.size, i * 6 + 1, none⟩ = some (.slice x.v.A x.v.n x.v.c) ∧ W.cell? ⟨wc2.heap.size, i * 6 + 2, none⟩ = some (.bool x.v.p) ∧ W.cell? ⟨wc2.heap.size, i * 6 + 3, none⟩ = some (.slice x.v.E x.v.m x.v.q) ∧ W.cell? ⟨wc2.heap.size, i * 6 + 4, none⟩ = some (.int .i64 x.c) ∧ W.cell? ⟨wc2.heap.size, i * 6 + 5, none⟩ = some (.int .i64 x.a))) ∧ Later wr3 W) := fun W hW => ⟨hx1.later (below_from hL3 hW), hW⟩
       have hxw := Lib.hid (fun W (hW : Later wr3 W) => (hx2.later (below_from hL3 hW) : x.v.ok W))
       have hB9 : w9.heap.size ≤ wr3.heap.size := hL3.size
       have hxOld : x.olds w9.heap.size := hx2.old
       obtain ⟨D, hD1, hD2⟩ : ∃ D : St × Int, Hid (∀ W, Later wr3 W → Calls Try.prog 44 #[.agg #[.bool x.v.b, .slice x.v.A x.v.n x.v.c, .bool x.v.p, .slice x.v.E x.v.m x.v.q, .int .i64 x.c, .int .i64 x.a], .int .i64 nn, .bool false] W (RSE w9.heap.size W D.1 D.2)) ∧
           Hid (∀ W, Later wr3 W → Calls Try.prog 45 #[.agg #[.bool x.v.b, .slice x.v.A x.v.n x.v.c, .bool x.v.p, .slice x.v.E x.v.m x.v.q, .int .i64 x.c, .int .i64 x.a], .int .i64 nn, .bool false] W (RSE w9.heap.size W D.1 D.2)) :=
         ⟨moveS x.s nn false, fun W hW => emove_any x nn false W (hxw.out W hW) hx3 w9.heap.size hxOld (Nat.le_trans hB9 hW.size), fun W hW => rsmove_any x nn false W (hxw.out W hW) hx3 w9.heap.size hxOld (Nat.le_trans hB9 hW.size)⟩
       obtain ⟨Dfalse, ecfalse⟩ := D
       have hPfalse := hD1
       have hRfalse := hD2
       clear hD1 hD2
       obtain ⟨D, hD1, hD2⟩ : ∃ D : St × Int, Hid (∀ W, Later wr3 W → Calls Try.prog 44 #[.agg #[.bool x.v.b, .slice x.v.A x.v.n x.v.c, .bool x.v.p, .slice x.v.E x.v.m x.v.q, .int .i64 x.c, .int .i64 x.a], .int .i64 nn, .bool true] W (RSE w9.heap.size W D.1 D.2)) ∧
           Hid (∀ W, Later wr3 W → Calls Try.prog 45 #[.agg #[.bool x.v.b, .slice x.v.A x.v.n x.v.c, .bool x.v.p, .slice x.v.E x.v.m x.v.q, .int .i64 x.c, .int .i64 x.a], .int .i64 nn, .bool true] W (RSE w9.heap.size W D.1 D.2)) :=
         ⟨moveS x.s nn true, fun W hW => emove_any x nn true W (hxw.out W hW) hx3 w9.heap.size hxOld (Nat.le_trans hB9 hW.size), fun W hW => rsmove_any x nn true W (hxw.out W hW) hx3 w9.heap.size hxOld (Nat.le_trans hB9 hW.size)⟩
       obtain ⟨Dtrue, ectrue⟩ := D
       have hPtrue := hD1
       have hRtrue := hD2
       clear hD1 hD2
       go_upto_region 14 with fail
       obtain ⟨k0, k1, k2, k3, k4, k5⟩ := (HS.out _ (Later.refl wr3)).1
       go_wp2_with fail
       refine (of19_any x _).mono ?_
       rintro e u1c1 ⟨rfl, hB1⟩
       have hLu11 : Later wr3 u1c1 := Later.call (Later.refl wr3) hB1
       go_wp2_with fail
       refine (hPfalse.out _ hLu11).mono ?_
       rintro e u1c2 ⟨qa, rfl, hSa, hqao, hB2, _, _⟩
       have hLu12 : Later wr3 u1c2 := Later.call hLu11 hB2
       have hqa := SB.made wr3 u1c2 61 qa hLu12 hqao _ rfl
       go_upto_region 15 with fail
       clear k0 k1 k2 k3 k4 k5
       generalize World.alloc u1c2 _ = u1 at *
       have hLu1 : Later wr3 u1 := hqa.later
       have hT1 : Later wr3 u1 := hLu1
       have hs1 : w9.heap.size ≤ u1.heap.size := Nat.le_trans hB9 hT1.size
       have HS1 : Hid (∀ W, Later u1 W → ((W.cell? ⟨wc2.heap.size, i * 6, none⟩ = some (.bool x.v.b) ∧ W.cell? ⟨wc2.heap.size, i * 6 + 1, none⟩ = some (.slice x.v.A x.v.n x.v.c) ∧ W.cell? ⟨wc2.heap.size, i * 6 + 2, none⟩ = some (.bool x.v.p) ∧ W.cell? ⟨wc2.heap.size, i * 6 + 3, none⟩ = some (.slice x.v.E x.v.m x.v.q) ∧ W.cell? ⟨wc2.heap.size, i * 6 + 4, none⟩ = some (.int .i64 x.c) ∧ W.cell? ⟨wc2.heap.size, i * 6 + 5, none⟩ = some (.int .i64 x.a))) ∧ Later u1 W) := fun W hW => ⟨(HS.out W (below_from hT1 hW)).1, hW⟩
       obtain ⟨k0, k1, k2, k3, k4, k5⟩ := (HS1.out _ (Later.refl u1)).1
       go_wp2_with fail
       refine (hRfalse.out _ (below_from hT1 (Later.refl u1))).mono ?_
       rintro e u2c1 ⟨qb, rfl, hSb, hqbo, hB1, _, _⟩
       have hLu21 : Later u1 u2c1 := Later.call (Later.refl u1) hB1
       have hqb := SB.made u1 u2c1 53 qb hLu21 hqbo _ rfl
       go_upto_region 16 with fail
       clear k0 k1 k2 k3 k4 k5
       generalize World.alloc u2c1 _ = u2 at *
       have hLu2 : Later u1 u2 := hqb.later
       have hT2 : Later wr3 u2 := below_from hT1 hLu2
       have hs2 : w9.heap.size ≤ u2.heap.size := Nat.le_trans hB9 hT2.size
       replace hqa := hqa.call hLu2
       have HS2 : Hid (∀ W, Later u2 W → ((W.cell? ⟨wc2.heap.size, i * 6, none⟩ = some (.bool x.v.b) ∧ W.cell? ⟨wc2.heap.size, i * 6 + 1, none⟩ = some (.slice x.v.A x.v.n x.v.c) ∧ W.cell? ⟨wc2.heap.size, i * 6 + 2, none⟩ = some (.bool x.v.p) ∧ W.cell? ⟨wc2.heap.size, i * 6 + 3, none⟩ = some (.slice x.v.E x.v.m x.v.q) ∧ W.cell? ⟨wc2.heap.size, i * 6 + 4, none⟩ = some (.int .i64 x.c) ∧ W.cell? ⟨wc2.heap.size, i * 6 + 5, none⟩ = some (.int .i64 x.a))) ∧ Later u2 W) := fun W hW => ⟨(HS.out W (below_from hT2 hW)).1, hW⟩
       obtain ⟨k0, k1, k2, k3, k4, k5⟩ := (HS2.out _ (Later.refl u2)).1
       go_wp2_with fail
       refine (of19_any x _).mono ?_
       rintro e u3c1 ⟨rfl, hB1⟩
       have hLu31 : Later u2 u3c1 := Later.call (Later.refl u2) hB1
       go_wp2_with fail
       refine (hPtrue.out _ (below_from hT2 hLu31)).mono ?_
       rintro e u3c2 ⟨qc, rfl, hSc, hqco, hB2, _, _⟩
       have hLu32 : Later u2 u3c2 := Later.call hLu31 hB2
       have hqc := SB.made u2 u3c2 61 qc hLu32 hqco _ rfl
       go_upto_region 17 with fail
       clear k0 k1 k2 k3 k4 k5
       generalize World.alloc u3c2 _ = u3 at *
       have hLu3 : Later u2 u3 := hqc.later
       have hT3 : Later wr3 u3 := below_from hT2 hLu3
       have hs3 : w9.heap.size ≤ u3.heap.size := Nat.le_trans hB9 hT3.size
       replace hqa := hqa.call hLu3
       replace hqb := hqb.call hLu3
       have HS3 : Hid (∀ W, Later u3 W → ((W.cell? ⟨wc2.heap.size, i * 6, none⟩ = some (.bool x.v.b) ∧ W.cell? ⟨wc2.heap.size, i * 6 + 1, none⟩ = some (.slice x.v.A x.v.n x.v.c) ∧ W.cell? ⟨wc2.heap.size, i * 6 + 2, none⟩ = some (.bool x.v.p) ∧ W.cell? ⟨wc2.heap.size, i * 6 + 3, none⟩ = some (.slice x.v.E x.v.m x.v.q) ∧ W.cell? ⟨wc2.heap.size, i * 6 + 4, none⟩ = some (.int .i64 x.c) ∧ W.cell? ⟨wc2.heap.size, i * 6 + 5, none⟩ = some (.int .i64 x.a))) ∧ Later u3 W) := fun W hW => ⟨(HS.out W (below_from hT3 hW)).1, hW⟩
       obtain ⟨k0, k1, k2, k3, k4, k5⟩ := (HS3.out _ (Later.refl u3)).1
       go_wp2_with fail
       refine (hRtrue.out _ (below_from hT3 (Later.refl u3))).mono ?_
       rintro e u4c1 ⟨qd, rfl, hSd, hqdo, hB1, _, _⟩
       have hLu41 : Later u3 u4c1 := Later.call (Later.refl u3) hB1
       have hqd := SB.made u3 u4c1 53 qd hLu41 hqdo _ rfl
       go_upto_region 18 with fail
       clear k0 k1 k2 k3 k4 k5
       generalize World.alloc u4c1 _ = u4 at *
       have hLu4 : Later u3 u4 := hqd.later
       have hT4 : Later wr3 u4 := below_from hT3 hLu4
       have hs4 : w9.heap.size ≤ u4.heap.size := Nat.le_trans hB9 hT4.size
       replace hqa := hqa.call hLu4
       replace hqb := hqb.call hLu4
       replace hqc := hqc.call hLu4
       clear HS HS1 HS2 HS3 hPfalse hPtrue hRfalse hRtrue
       have hsm1 := Lib.hid (fun s : Ext u4 => rssame_any qa qb s.world (hqa.ok.below s.h) (hqb.ok.below s.h) (by rw [hSa.out, hSb.out]))
       have hsm2 := Lib.hid (fun s : Ext u4 => rssame_any qc qd s.world (hqc.ok.below s.h) (hqd.ok.below s.h) (by rw [hSc.out, hSd.out]))
       have Ka0 := fun s : Ext u4 => Ext.cell hqa.c0 s
       have Ka1 := fun s : Ext u4 => Ext.cell hqa.c1 s
       have Ka2 := fun s : Ext u4 => Ext.cell hqa.c2 s
       have Ka3 := fun s : Ext u4 => Ext.cell hqa.c3 s
       have Ka4 := fun s : Ext u4 => Ext.cell hqa.c4 s
       have Ka5 := fun s : Ext u4 => Ext.cell hqa.c5 s
       have Kb0 := fun s : Ext u4 => Ext.cell hqb.c0 s
       have Kb1 := fun s : Ext u4 => Ext.cell hqb.c1 s
       have Kb2 := fun s : Ext u4 => Ext.cell hqb.c2 s
       have Kb3 := fun s : Ext u4 => Ext.cell hqb.c3 s
       have Kb4 := fun s : Ext u4 => Ext.cell hqb.c4 s
       have Kb5 := fun s : Ext u4 => Ext.cell hqb.c5 s
       have Kc0 := fun s : Ext u4 => Ext.cell hqc.c0 s
       have Kc1 := fun s : Ext u4 => Ext.cell hqc.c1 s
       have Kc2 := fun s : Ext u4 => Ext.cell hqc.c2 s
       have Kc3 := fun s : Ext u4 => Ext.cell hqc.c3 s
       have Kc4 := fun s : Ext u4 => Ext.cell hqc.c4 s
       have Kc5 := fun s : Ext u4 => Ext.cell hqc.c5 s
       have Kd0 := fun s : Ext u4 => Ext.cell hqd.c0 s
       have Kd1 := fun s : Ext u4 => Ext.cell hqd.c1 s
       have Kd2 := fun s : Ext u4 => Ext.cell hqd.c2 s
       have Kd3 := fun s : Ext u4 => Ext.cell hqd.c3 s
       have Kd4 := fun s : Ext u4 => Ext.cell hqd.c4 s
       have Kd5 := fun s : Ext u4 => Ext.cell hqd.c5 s
       clear hqa hqb hqc hqd
       refine wp_region_ext (by kernel_rfl) (by kernel_rfl) ?_
       iterate 15 (go_big_quiet_step (first
         | (go_at_call 36; exact quiet_ext _ (as19_any qa _))
         | (go_at_call 35; exact quiet_ext _ (hsm1.out _))))
       repeat (go_big_quiet_step (first
         | (go_at_call 36; exact quiet_ext _ (as19_any qc _))
         | (go_at_call 35; exact quiet_ext _ (hsm2.out _))))
       refine wpQuiet_nil ?_
       rintro _ ⟨s, rfl⟩
       clear Ka0 Ka1 Ka2 Ka3 Ka4 Ka5 Kb0 Kb1 Kb2 Kb3 Kb4 Kb5 Kc0 Kc1 Kc2 Kc3 Kc4 Kc5 Kd0 Kd1 Kd2 Kd3 Kd4 Kd5 hsm1 hsm2
       go_wp2_with fail
       go_roundw
       case rel => first | exact ⟨kk + 1, by omega, by go_num, below_from hL3 (below_from hT4 s.h)⟩ | ((repeat apply Exists.intro); exact ⟨⟨kk + 1, by omega, by go_num, below_from hL3 (below_from hT4 s.h)⟩, rfl⟩)
       case measure => simp [intOf]; omega
    · go_wp2_with fail
      refine (lives19_any _).mono ?_
      rintro e w10 ⟨rfl, hB10⟩
      go_wp2_with fail
      go_ret
      exact ⟨rfl, below_from (below_from hL9 hL0) hB10⟩

end Go.Proofs.Ytppkifdngjcbeaa
