/- The walk of EditWithin. No condition. -/
import Derived.Test.YtppkifdngjcbeaaEd4
import Derived.Test.YtppkifdngjcbeaaEd9p
import Derived.Test.YtppkifdngjcbeaaEd9e
import Derived.Test.YtppkifdngjcbeaaEd12
import Derived.Test.YtppkifdngjcbeaaEd14
import Derived.Test.YtppkifdngjcbeaaEd15
import Derived.BigQuiet
namespace Go.Proofs.Ytppkifdngjcbeaa
open Go.RowKit
set_option linter.unusedSimpArgs false

/-- Its lists do not lie in block g. -/
def SV.away (x : SV) (g : Nat) : Prop := (0 < x.v.n → ∀ a, x.v.A = some a → a.block ≠ g) ∧ (0 < x.v.m → ∀ a, x.v.E = some a → a.block ≠ g)
theorem Blk.far6 {w0 W : World} {g g' : Nat} {t : TypeId} {cs : Array Value} (h : Blk w0 g t cs W) (hg : g ≠ g') (h0 : w0.heap.size ≤ g') (u0 u1 u2 u3 u4 u5 : Value) :
    Blk w0 g t cs ((((((W.setCell ⟨g', 0, none⟩ u0).setCell ⟨g', 1, none⟩ u1).setCell ⟨g', 2, none⟩ u2).setCell ⟨g', 3, none⟩ u3).setCell ⟨g', 4, none⟩ u4).setCell ⟨g', 5, none⟩ u5) :=
  (((((h.far (p := ⟨g', 0, none⟩) hg h0 u0).far (p := ⟨g', 1, none⟩) hg h0 u1).far (p := ⟨g', 2, none⟩) hg h0 u2).far (p := ⟨g', 3, none⟩) hg h0 u3).far (p := ⟨g', 4, none⟩) hg h0 u4).far (p := ⟨g', 5, none⟩) hg h0 u5
theorem SB.far6 {w0 W : World} {g g' : Nat} {t : TypeId} {x : SV} (h : SB w0 g t x W) (hg : g ≠ g') (h0 : w0.heap.size ≤ g') (ha : x.away g') (u0 u1 u2 u3 u4 u5 : Value) :
    SB w0 g t x ((((((W.setCell ⟨g', 0, none⟩ u0).setCell ⟨g', 1, none⟩ u1).setCell ⟨g', 2, none⟩ u2).setCell ⟨g', 3, none⟩ u3).setCell ⟨g', 4, none⟩ u4).setCell ⟨g', 5, none⟩ u5) := ⟨h.1.far6 hg h0 _ _ _ _ _ _, h.2.set6 ha.1 ha.2 _ _ _ _ _ _⟩
theorem SB.put6 {w0 W : World} {g : Nat} {t : TypeId} {x : SV} (h : SB w0 g t x W) (q : SV) (hq : q.v.ok W) (ha : q.away g) :
    SB w0 g t q ((((((W.setCell ⟨g, 0, none⟩ (.bool q.v.b)).setCell ⟨g, 1, none⟩ (.slice q.v.A q.v.n q.v.c)).setCell ⟨g, 2, none⟩ (.bool q.v.p)).setCell ⟨g, 3, none⟩ (.slice q.v.E q.v.m q.v.q)).setCell ⟨g, 4, none⟩ (.int .i64 q.c)).setCell ⟨g, 5, none⟩ (.int .i64 q.a)) := ⟨h.1.store6 _ _ _ _ _ _, hq.set6 ha.1 ha.2 _ _ _ _ _ _⟩
theorem away_lt {x : SV} {W : World} (h : x.v.ok W) {g : Nat} (hg : W.heap.size ≤ g) : x.away g := ⟨fun hz a ha => by have := h.old.1 hz a ha; omega, fun hz a ha => by have := h.old.2 hz a ha; omega⟩
/-- What may be, and lies within limits, is small. -/
theorem fit_may {x : SV} {W : World} (h : x.v.ok W) (hm : mayS x.s = true) {li lf : Int} (hf : fitsD x.s.d li lf = true) (b1 : li ≤ 9) (b2 : lf ≤ 9) : x.v.fit ∧ I6 x.c ∧ I6 x.a := by
  obtain ⟨hmd, hc, ha⟩ := mayS_iff.1 hm
  obtain ⟨d1, d2, _⟩ := mayDr_iff.1 hmd
  unfold fitsD at hf
  simp only [Bool.and_eq_true, decide_eq_true_eq] at hf
  have e1 := h.1.len
  have e2 := h.2.len
  have g1 : (x.v.l.length : Int) ≤ li := hf.1
  have g2 : (x.v.f.length : Int) ≤ lf := hf.2
  have hl : lenR x.s.d ≤ 19 := by
    have e := atoms_len x.v.l x.v.p x.v.f
    have e5 : lenR x.s.d = ((atomsD x.v.l x.v.p x.v.f).length : Int) := rfl
    omega
  have hc' : 0 ≤ x.c ∧ x.c ≤ lenR x.s.d := hc
  have ha' : 0 ≤ x.a ∧ x.a ≤ lenR x.s.d := ha
  refine ⟨⟨fun q hq => by have := mayL_iff.1 d1 q hq; omega, fun q hq => by have := mayL_iff.1 d2 q hq; omega, by omega, by omega⟩, ⟨by omega, by omega⟩, ⟨by omega, by omega⟩⟩
/-- What a round's call hands back: a state whose lists' blocks are such; with code 0 it is within the limits. -/
def RIN (P : Nat → Prop) (li lf : Int) (w : World) (e : Ending) (w' : World) : Prop :=
  ∃ (x : SV) (ec : Int), e = .returned (.tuple #[.agg #[.bool x.v.b, .slice x.v.A x.v.n x.v.c, .bool x.v.p, .slice x.v.E x.v.m x.v.q, .int .i64 x.c, .int .i64 x.a], .int .i64 ec]) ∧ x.v.ok w' ∧ Below w.heap.size w w' ∧
    (0 < x.v.n → ∀ a, x.v.A = some a → P a.block) ∧ (0 < x.v.m → ∀ a, x.v.E = some a → P a.block) ∧ (ec = 0 → mayS x.s = true ∧ fitsD x.s.d li lf = true)
/-- Within a round: the state, what a call made of it, the limits, in blocks of their own. -/
def WK (w : World) (g8 g9 g12 : Nat) (li lf : Int) (x q : SV) (W : World) : Prop :=
  SB w g9 61 x W ∧ SB w g12 61 q W ∧ Blk w g8 65 #[.int .i64 li, .int .i64 lf, .bool true] W ∧ q.away g9 ∧ q.away g12
theorem einsert_in (x : SV) (li lf : Int) (sg : Bool) {S : Option Addr} (m : Int) (w : World) (h : x.v.ok w) (hf : x.v.fit ∧ I6 x.c ∧ I6 x.a) (hl : I6 li ∧ I6 lf) (hs : IL w S 1 1 [m]) (hm : -20 ≤ m ∧ m ≤ 20) :
    Calls Try.prog 40 #[.agg #[.bool x.v.b, .slice x.v.A x.v.n x.v.c, .bool x.v.p, .slice x.v.E x.v.m x.v.q, .int .i64 x.c, .int .i64 x.a], .agg #[.int .i64 li, .int .i64 lf, .bool sg], .slice S 1 1] w (RIN (fun b => w.heap.size ≤ b) li lf w) :=
  (einsert_any x li lf sg w h hf.1 hf.2.1 hf.2.2 hl hs (fun q hq => by obtain rfl := List.mem_singleton.1 hq; omega) (by omega)).mono (fun e w' hh => by
    obtain ⟨q, e1, hS, hok, hB, hN, hM⟩ := hh
    exact ⟨q, _, e1, hok, hB, hN, hM, fun h0 => by rw [hS.out]; exact ins_within h0⟩)
theorem eerase_in (x : SV) (li lf : Int) (sg : Bool) (what : Int) (w : World) (h : x.v.ok w) (hf : x.v.fit ∧ I6 x.c ∧ I6 x.a) (hl : I6 li ∧ I6 lf) :
    Calls Try.prog 32 #[.agg #[.bool x.v.b, .slice x.v.A x.v.n x.v.c, .bool x.v.p, .slice x.v.E x.v.m x.v.q, .int .i64 x.c, .int .i64 x.a], .agg #[.int .i64 li, .int .i64 lf, .bool sg], .int .i64 what] w (RIN (fun b => w.heap.size ≤ b) li lf w) :=
  (eerase_any x li lf sg what w h hf.1 hl).mono (fun e w' hh => by
    obtain ⟨q, e1, hS, hok, hB, hN, hM⟩ := hh
    exact ⟨q, _, e1, hok, hB, hN, hM, fun h0 => by rw [hS.out]; exact erase_within h0⟩)
theorem emove_in (x : SV) (li lf : Int) (what : Int) (keep : Bool) (w : World) (h : x.v.ok w) (hf : x.v.fit ∧ I6 x.c ∧ I6 x.a) (hx : fitsD x.s.d li lf = true) (P : Nat → Prop) (hOld : (0 < x.v.n → ∀ a, x.v.A = some a → P a.block) ∧ (0 < x.v.m → ∀ a, x.v.E = some a → P a.block)) (hPw : ∀ b, P b → b < w.heap.size) :
    Calls Try.prog 44 #[.agg #[.bool x.v.b, .slice x.v.A x.v.n x.v.c, .bool x.v.p, .slice x.v.E x.v.m x.v.q, .int .i64 x.c, .int .i64 x.a], .int .i64 what, .bool keep] w (RIN P li lf w) :=
  (emove_p x what keep w h hf.1 P hOld hPw).mono (fun e w' hh => by
    obtain ⟨q, e1, hS, hok, hB, hN, hM⟩ := hh
    exact ⟨q, _, e1, hok, hB, hN, hM, fun h0 => by rw [hS.out]; have := move_within h0; exact ⟨this.1, by rw [this.2]; exact hx⟩⟩)
set_option maxRecDepth 100000 in
set_option maxHeartbeats 8000000 in
theorem editWithin_walk (w : World) (x0 : SV) {A2 : Option Addr} {n2 c2 : Nat} {l2 : List Int} {a1 : Int} (w0 : x0.v.ok w) (i0 : I64 x0.v.l ∧ I64 x0.v.f) (c0 : I6 x0.c) (a0 : I6 x0.a) (j1 : -9223372036854775808 ≤ a1 ∧ a1 ≤ 9223372036854775807) (j2 : IL w A2 n2 c2 l2) (i2 : I64 l2) :
    Calls Try.prog 10 #[.agg #[.bool x0.v.b, .slice x0.v.A x0.v.n x0.v.c, .bool x0.v.p, .slice x0.v.E x0.v.m x0.v.q, .int .i64 x0.c, .int .i64 x0.a], .int .i64 a1, .slice A2 n2 c2] w fun e w' => e = .returned (.bool true) ∧ Below w.heap.size w w' := by
  have hgd := Lib.hid (fun W (hW : x0.v.ok W) => rsgood_any x0 5 3 5 W hW i0.1 i0.2 c0 a0 (by omega) (by omega) (by omega))
  have hra := Lib.hid (fun W => around_any a1 3 W j1.1 j1.2 (by omega) (by omega))
  have hrb := Lib.hid (fun W => around_any a1 2 W j1.1 j1.2 (by omega) (by omega))
  have bra := around_bd a1 3 (by omega)
  have brb := around_bd a1 2 (by omega)
  have hGm := goodS_may x0 5 3
  generalize goodS x0 5 3 = G at *
  generalize around a1 3 = ra at *
  generalize around a1 2 = rb at *
  have hx00 := (SB.made w w 53 x0 (Later.refl w) w0 (w.heap.size) (by simp))
  go_enter Try.func10, Try.ntmps10
  go_upto_region 1 with fail
  generalize World.alloc w _ = w1 at *
  have qx00 := hx00.c0
  have qx01 := hx00.c1
  have qx02 := hx00.c2
  have qx03 := hx00.c3
  have qx04 := hx00.c4
  have qx05 := hx00.c5
  go_wp2_with fail
  refine (hgd.out _ hx00.ok).mono ?_
  rintro e w2 ⟨y, rfl, hyS, hyo, hyn, hB2⟩
  clear qx00 qx01 qx02 qx03 qx04 qx05
  have hx02 := hx00.call hB2
  clear hx00
  have hy2 := SB.made w w2 53 y hx02.later hyo _ rfl
  go_upto_region 2 with fail
  have hx0_v2 := hx02.alloc (.cells #[.bool y.v.b, .slice y.v.A y.v.n y.v.c, .bool y.v.p, .slice y.v.E y.v.m y.v.q, .int .i64 y.c, .int .i64 y.a] 53)
  clear hx02
  generalize hgw : World.alloc w2 _ = v2 at *
  clear hgw
  have hy := hy2
  clear hy2 hx0_v2
  have hmG := hGm
  rw [← hyS.out] at hmG
  have hyn1 := hyn.1
  have hyn2 := hyn.2
  obtain ⟨li, hli⟩ : ∃ li, Hid (li = (y.v.n : Int) + ra) := ⟨_, rfl⟩
  obtain ⟨lf, hlf⟩ : ∃ lf, Hid (lf = (y.v.m : Int) + rb) := ⟨_, rfl⟩
  have bli : 0 ≤ li ∧ li ≤ 9 := by rw [hli.out]; omega
  have blf : 0 ≤ lf ∧ lf ≤ 9 := by rw [hlf.out]; omega
  have hmF : fitsD y.s.d li lf = true := by
    have e1 := hyo.1.len
    have e2 := hyo.2.len
    have g1 : y.s.d.int.length = y.v.l.length := rfl
    have g2 : y.s.d.frac.length = y.v.f.length := rfl
    unfold fitsD
    simp only [Bool.and_eq_true, decide_eq_true_eq]
    rw [hli.out, hlf.out, g1, g2]
    omega
  have HS7 : Hid (∀ W, Later v2 W → (W.cell? ⟨w2.heap.size, 0, none⟩ = some (.bool y.v.b) ∧ W.cell? ⟨w2.heap.size, 1, none⟩ = some (.slice y.v.A y.v.n y.v.c) ∧ W.cell? ⟨w2.heap.size, 2, none⟩ = some (.bool y.v.p) ∧ W.cell? ⟨w2.heap.size, 3, none⟩ = some (.slice y.v.E y.v.m y.v.q) ∧ W.cell? ⟨w2.heap.size, 4, none⟩ = some (.int .i64 y.c) ∧ W.cell? ⟨w2.heap.size, 5, none⟩ = some (.int .i64 y.a)) ∧ Later v2 W) := fun W hW => by
    have q1 := hy.call hW
    exact ⟨⟨q1.c0, q1.c1, q1.c2, q1.c3, q1.c4, q1.c5⟩, hW⟩
  go_cut [8] (fun s W => ∃ g : Nat, s = .pointer (some ⟨g, 0, none⟩) ∧ Blk v2 g 65 #[.int .i64 li, .int .i64 lf, .bool true] W)
  case first =>
    have av := Lib.hid (fun W => (hra.out W).mono (fun e w' (h : e = .returned (.int .i64 ra) ∧ W = w') => (⟨h.1, by rw [← h.2]; exact Below.refl _ _⟩ : RV W (.int .i64 ra) e w')))
    have bv := Lib.hid (fun W => (hrb.out W).mono (fun e w' (h : e = .returned (.int .i64 rb) ∧ W = w') => (⟨h.1, by rw [← h.2]; exact Below.refl _ _⟩ : RV W (.int .i64 rb) e w')))
    go_region_held3 (fun W => (W.cell? ⟨w2.heap.size, 0, none⟩ = some (.bool y.v.b) ∧ W.cell? ⟨w2.heap.size, 1, none⟩ = some (.slice y.v.A y.v.n y.v.c) ∧ W.cell? ⟨w2.heap.size, 2, none⟩ = some (.bool y.v.p) ∧ W.cell? ⟨w2.heap.size, 3, none⟩ = some (.slice y.v.E y.v.m y.v.q) ∧ W.cell? ⟨w2.heap.size, 4, none⟩ = some (.int .i64 y.c) ∧ W.cell? ⟨w2.heap.size, 5, none⟩ = some (.int .i64 y.a)) ∧ Later v2 W)
      ((refine HS7.out _ ?_; repeat (first | with_reducible refine Later.setCell ?_ (by first | exact Nat.le_refl _ | exact hL1.size | exact hL2.size) _ | with_reducible refine Later.alloc ?_ _ | with_reducible refine Later.drew ?_ | with_reducible refine Later.call ?_ hB2 | with_reducible refine Later.call ?_ hB1 | with_reducible exact Later.refl _ | with_reducible exact And.right (by assumption))))
      (first
        | (go_at_call 19; with_reducible refine (av.out _).mono ?_; rintro e wc1 ⟨rfl, hB1⟩; have hL1 : Later v2 wc1 := Later.call (And.right (by assumption)) hB1; first | (have hC : Below ((v2.alloc (.cells #[.int .i64 0, .int .i64 0, .bool false] 65)).drew).heap.size ((v2.alloc (.cells #[.int .i64 0, .int .i64 0, .bool false] 65)).drew) wc1 := (by with_reducible exact hB1); have kb := (Blk.made v2 v2 65 _ (Later.refl v2) _ rfl).drew.call hC; have kl := kb.lt; obtain ⟨⟨z0, z1, z2⟩, ⟨z3, z4, z5⟩⟩ := kb.cells3) | skip)
        | (go_at_call 19; have _t := hB1; refine (bv.out _).mono ?_; rintro e wc2 ⟨rfl, hB2⟩; have hL2 : Later v2 wc2 := Later.call (And.right (by assumption)) hB2; first | (have kb := kb.call hB2; have kl := kb.lt; obtain ⟨⟨z0, z1, z2⟩, ⟨z3, z4, z5⟩⟩ := kb.cells3) | (have hC : Below (wc1.alloc (.cells #[.int .i64 0, .int .i64 0, .bool false] 65)).heap.size (wc1.alloc (.cells #[.int .i64 0, .int .i64 0, .bool false] 65)) wc2 := (by with_reducible exact hB2); have kb := (Blk.made v2 wc1 65 _ hL1 _ rfl).call hC; have kl := kb.lt; obtain ⟨⟨z0, z1, z2⟩, ⟨z3, z4, z5⟩⟩ := kb.cells3) | skip))
    all_goals
      go_wp2_with fail
      go_meet
      rw [hli.out, hlf.out]
      try rw [IntWalk.i64_in ((y.v.n : Int) + ra) (by omega), IntWalk.i64_in ((y.v.m : Int) + rb) (by omega)]
      first
      | exact ⟨_, rfl, kb.store3 _ _ _⟩
      | exact ⟨_, rfl, Blk.made v2 wc2 _ _ hL2 _ rfl⟩
  case rest =>
    obtain ⟨g8, rfl, hM0⟩ := hcut
    obtain ⟨v3, hv3⟩ : ∃ wm, wm = wc := ⟨_, rfl⟩
    rw [← hv3] at hM0
    rw [← hv3]
    clear hv3 HS7 hra hrb hli hlf bra brb hgd
    have hL23 : Later v2 v3 := hM0.later
    have hy3 := hy.call hL23
    have hM3 : Blk w g8 65 #[.int .i64 li, .int .i64 lf, .bool true] v3 := ⟨Nat.le_trans hy.later.size hM0.1, hM0.2.1, below_from hy.later hM0.2.2⟩
    clear hM0 hy hL23 hyo hyS hyn hyn1 hyn2 hGm
    have q0 := hy3.c0
    have q1 := hy3.c1
    have q2 := hy3.c2
    have q3 := hy3.c3
    have q4 := hy3.c4
    have q5 := hy3.c5
    go_wp2_with fail
    refine (of19_any y _).mono ?_
    rintro e v4 ⟨rfl, hB4⟩
    have hy4 := hy3.call hB4
    have hM4 := hM3.call hB4
    have g89 : g8 < v4.heap.size := hM4.lt
    have hx9 := SB.made w v4 61 y hy4.later hy4.ok _ rfl
    have hM9 := hM4.alloc (.cells #[.bool y.v.b, .slice y.v.A y.v.n y.v.c, .bool y.v.p, .slice y.v.E y.v.m y.v.q, .int .i64 y.c, .int .i64 y.a] 61)
    have hya : y.away v4.heap.size := away_lt hy4.ok (Nat.le_refl _)
    have hw4 : w.heap.size ≤ v4.heap.size := hy4.later.size
    go_upto_region 4 with fail
    clear q0 q1 q2 q3 q4 q5 hy3 hM3 hM4 hy4
    generalize World.alloc v4 _ = v5 at *
    obtain ⟨g9, hg9⟩ : ∃ g9, g9 = v4.heap.size := ⟨_, rfl⟩
    rw [← hg9] at g89 hx9 hya hw4
    rw [← hg9]
    clear hg9 hB4
    go_wp2_with fail
    go_loopw [10] (fun v wr => ∃ (i : Nat) (x : SV), i ≤ 6 ∧ v = .int .i64 i ∧ SB w g9 61 x wr ∧ Blk w g8 65 #[.int .i64 li, .int .i64 lf, .bool true] wr ∧ x.away g9 ∧ mayS x.s = true ∧ fitsD x.s.d li lf = true) (fun v _ => 6 - (intOf v).toNat)
    case atStart => exact ⟨0, y, by omega, rfl, hx9, hM9, hya, hmG, hmF⟩
    case round =>
      obtain ⟨i, x, hi, rfl, hX0, hK0, hxa, hxm, hxf⟩ := hrel
      obtain ⟨u1, hu1⟩ : ∃ wm, wm = wr := ⟨_, rfl⟩
      rw [← hu1] at hX0 hK0
      rw [← hu1]
      clear hu1 hx9 hM9 hya hmG hmF
      have hfit := fit_may hX0.ok hxm hxf (by omega) (by omega)
      by_cases hlt : i < n2 ∧ i < 6
      case neg =>
        have hem := Lib.hid (fun W (hW : x.v.ok W) => emay_any x W hW hfit.1)
        rw [hxm] at hem
        have q0 := hX0.c0
        have q1 := hX0.c1
        have q2 := hX0.c2
        have q3 := hX0.c3
        have q4 := hX0.c4
        have q5 := hX0.c5
        have hend : (¬ (i : Int) < n2) ∨ ((i : Int) < n2 ∧ ¬ (i : Int) < 6) := by omega
        rcases hend with hn | ⟨hn, h6⟩
        all_goals
          go_wp2_with fail
          refine (hem.out _ hX0.ok).mono ?_
          rintro e u2 ⟨rfl, hB2⟩
          go_wp2_with fail
          refine (lives19_any _).mono ?_
          rintro e u3 ⟨rfl, hB3⟩
          go_wp2_with fail
          go_ret
          exact ⟨rfl, below_from (hX0.call hB2).later hB3⟩
      case pos =>
      obtain ⟨hln, hl6⟩ := hlt
      have hin : (i : Int) < n2 := by omega
      have hi6 : (i : Int) < 6 := by omega
      have hi0 : (0 : Int) ≤ i := by omega
      obtain ⟨b, off, hA, hc⟩ := (j2.later hX0.later).at_ hln
      have hz : I6 (l2.getD i 0) := i2 _ (by
        have hk' : i < l2.length := by have := j2.len; omega
        simp only [List.getD, List.getElem?_eq_getElem hk', Option.getD_some]
        exact List.getElem_mem hk')
      have hk := around_bd (l2.getD i 0) 24 (by omega)
      have hka := Lib.hid (fun W => around_any (l2.getD i 0) 24 W hz.1 hz.2 (by omega) (by omega))
      generalize around (l2.getD i 0) 24 = k at *
      generalize l2.getD i 0 = z at *
      subst hA
      go_wp2_with fail
      refine (hka.out _).mono ?_
      rintro e _ ⟨rfl, rfl⟩
      clear hc
      have hk11 : -20 ≤ k.tmod 11 ∧ k.tmod 11 ≤ 20 := by rw [Int.tmod_eq_emod_of_nonneg hk.1]; omega
      have hins := Lib.hid (fun S W (hW : x.v.ok W) (hS : IL W S 1 1 [k.tmod 11]) => einsert_in x li lf true (k.tmod 11) W hW hfit ⟨⟨by omega, by omega⟩, by omega, by omega⟩ hS hk11)
      have hers := Lib.hid (fun what W (hW : x.v.ok W) => eerase_in x li lf true what W hW hfit ⟨⟨by omega, by omega⟩, by omega, by omega⟩)
      have hmov := Lib.hid (fun what keep W (hW : x.v.ok W) P h1 h2 => emove_in x li lf what keep W hW hfit hxf P h1 h2)
      have q0 := hX0.c0
      have q1 := hX0.c1
      have q2 := hX0.c2
      have q3 := hX0.c3
      have q4 := hX0.c4
      have q5 := hX0.c5
      obtain ⟨l0, l1, l2'⟩ := hK0.cells3.1
      generalize hkm : k.tmod 11 = km at *
      go_upto_region 8 with fail
      go_wp2_with fail
      refine (hins.out _ _ (hX0.ok.alloc _) (IL.one _ _ _)).mono ?_
      rintro e u2 ⟨q, ec, rfl, hqo, hB2, hqN, hqM, hqG⟩
      have hu1 : g9 < u1.heap.size := hX0.1.lt
      have hX2 := (hX0.alloc (.cells #[.int .i64 km] 3)).call hB2
      have hK2 := (hK0.alloc (.cells #[.int .i64 km] 3)).call hB2
      have hqa9 : q.away g9 := ⟨fun hz a ha => by have e : (World.alloc u1 _).heap.size ≤ a.block := hqN hz a ha; rw [World.size_alloc] at e; omega, fun hz a ha => by have e : (World.alloc u1 _).heap.size ≤ a.block := hqM hz a ha; rw [World.size_alloc] at e; omega⟩
      have hQ3 := SB.made w u2 61 q hX2.later hqo _ rfl
      have hX3 := hX2.alloc (.cells #[.bool q.v.b, .slice q.v.A q.v.n q.v.c, .bool q.v.p, .slice q.v.E q.v.m q.v.q, .int .i64 q.c, .int .i64 q.a] 61)
      have hK3 := hK2.alloc (.cells #[.bool q.v.b, .slice q.v.A q.v.n q.v.c, .bool q.v.p, .slice q.v.E q.v.m q.v.q, .int .i64 q.c, .int .i64 q.a] 61)
      have hqa12 : q.away u2.heap.size := away_lt hqo (Nat.le_refl _)
      have hxa12 : x.away u2.heap.size := away_lt hX2.ok (Nat.le_refl _)
      have h912 : g9 < u2.heap.size := hX2.1.lt
      have h812 : g8 < u2.heap.size := hK2.lt
      have hw12 : w.heap.size ≤ u2.heap.size := hX2.later.size
      go_upto_region 9 with fail
      clear q0 q1 q2 q3 q4 q5 l0 l1 l2' hX0 hK0 hX2 hK2 hqN hqM hka hins hB2
      generalize World.alloc u2 _ = u3 at *
      generalize u2.heap.size = g12 at *
      have hWK : WK w g8 g9 g12 li lf x q u3 := ⟨hX3, hQ3, hK3, hqa9, hqa12⟩
      clear hX3 hQ3 hK3 hqa9 hqa12 hqo
      obtain ⟨bb, hbb⟩ : ∃ bb, Hid (bb = (decide (10 < k) && decide (k < 18))) := ⟨_, rfl⟩
      go_cut [62] (fun s W => s = .bool bb ∧ W = u3)
      case first =>
        by_cases h2 : 10 < k
        · by_cases h3 : k < 18
          · have e : Hid (bb = true) := by rw [Hid, hbb.out]; simp [h2, h3]
            go_wp2_with fail
            go_meet
            exact ⟨by rw [e.out], rfl⟩
          · have e : Hid (bb = false) := by rw [Hid, hbb.out]; simp [h3]
            go_wp2_with fail
            go_meet
            exact ⟨by rw [e.out], rfl⟩
        · have e : Hid (bb = false) := by rw [Hid, hbb.out]; simp [h2]
          go_wp2_with fail
          go_meet
          exact ⟨by rw [e.out], rfl⟩
      case rest =>
      obtain ⟨rfl, hwc⟩ := hcut
      rw [← hwc] at hWK
      generalize wc = u3b at *
      clear hwc u3
      go_upto_if 62 with fail
      go_cut [13] (fun s W => ∃ (q : SV) (ec : Int), s = .int .i64 ec ∧ WK w g8 g9 g12 li lf x q W ∧ (ec = 0 → mayS q.s = true ∧ fitsD q.s.d li lf = true))
      case first =>
        cases bb
        case false =>
          go_wp2_with fail
          go_meet
          exact ⟨q, ec, rfl, hWK, hqG⟩
        case true =>
        have h23 : 10 < k ∧ k < 18 := by
          have := hbb.out
          simp at this
          exact this
        clear hbb
        obtain ⟨hX3, hQ3, hK3, _, _⟩ := hWK
        have q0 := hX3.c0
        have q1 := hX3.c1
        have q2 := hX3.c2
        have q3 := hX3.c3
        have q4 := hX3.c4
        have q5 := hX3.c5
        obtain ⟨l0, l1, l2'⟩ := hK3.cells3.1
        go_wp2_with fail
        refine (hers.out _ _ hX3.ok).mono ?_
        rintro e u4 ⟨r, ed, rfl, hro, hB4, hrN, hrM, hrG⟩
        have hg9 : g9 < u3b.heap.size := hX3.1.lt
        have hg12 : g12 < u3b.heap.size := hQ3.1.lt
        have hX4 := hX3.call hB4
        have hQ4 := hQ3.call hB4
        have hK4 := hK3.call hB4
        clear q0 q1 q2 q3 q4 q5 l0 l1 l2'
        obtain ⟨⟨z0, z1, z2, z3, z4, z5⟩, ⟨z6, z7, z8, z9, z10, z11⟩⟩ := hQ4.1.cells6
        have hra9 : r.away g9 := ⟨fun hz a ha => by have e : u3b.heap.size ≤ a.block := hrN hz a ha; omega, fun hz a ha => by have e : u3b.heap.size ≤ a.block := hrM hz a ha; omega⟩
        have hra12 : r.away g12 := ⟨fun hz a ha => by have e : u3b.heap.size ≤ a.block := hrN hz a ha; omega, fun hz a ha => by have e : u3b.heap.size ≤ a.block := hrM hz a ha; omega⟩
        go_wp2_with fail
        go_meet
        exact ⟨r, ed, rfl, ⟨hX4.far6 (by omega) hw12 hxa12 _ _ _ _ _ _, hQ4.put6 r hro hra12, hK4.far6 (by omega) hw12 _ _ _ _ _ _, hra9, hra12⟩, hrG⟩
      case rest =>
      clear hWK hqG hbb
      clear q ec bb
      obtain ⟨q, ec, rfl, hWK, hqG⟩ := hcut
      obtain ⟨u5, hu5⟩ : ∃ wm, wm = wc := ⟨_, rfl⟩
      rw [← hu5] at hWK
      rw [← hu5]
      clear hu5
      go_upto_if 72 with fail
      go_cut [13] (fun s W => ∃ (q : SV) (ec : Int), s = .int .i64 ec ∧ WK w g8 g9 g12 li lf x q W ∧ (ec = 0 → mayS q.s = true ∧ fitsD q.s.d li lf = true))
      case first =>
        by_cases h1 : 18 ≤ k
        case neg =>
          go_wp2_with fail
          go_meet
          exact ⟨q, ec, rfl, hWK, hqG⟩
        case pos =>
        obtain ⟨hX3, hQ3, hK3, _, _⟩ := hWK
        have q0 := hX3.c0
        have q1 := hX3.c1
        have q2 := hX3.c2
        have q3 := hX3.c3
        have q4 := hX3.c4
        have q5 := hX3.c5
        go_wp2_with fail
        refine (hmov.out _ _ _ hX3.ok (fun b => b < u5.heap.size ∧ b ≠ g9 ∧ b ≠ g12) ⟨fun hz a ha => ⟨hX3.ok.old.1 hz a ha, hxa.1 hz a ha, hxa12.1 hz a ha⟩, fun hz a ha => ⟨hX3.ok.old.2 hz a ha, hxa.2 hz a ha, hxa12.2 hz a ha⟩⟩ (fun b hb => hb.1)).mono ?_
        rintro e u6 ⟨r, ed, rfl, hro, hB4, hrN, hrM, hrG⟩
        have hX4 := hX3.call hB4
        have hQ4 := hQ3.call hB4
        have hK4 := hK3.call hB4
        clear q0 q1 q2 q3 q4 q5
        obtain ⟨⟨z0, z1, z2, z3, z4, z5⟩, ⟨z6, z7, z8, z9, z10, z11⟩⟩ := hQ4.1.cells6
        have hra9 : r.away g9 := ⟨fun hz a ha => (hrN hz a ha).2.1, fun hz a ha => (hrM hz a ha).2.1⟩
        have hra12 : r.away g12 := ⟨fun hz a ha => (hrN hz a ha).2.2, fun hz a ha => (hrM hz a ha).2.2⟩
        go_wp2_with fail
        go_meet
        exact ⟨r, ed, rfl, ⟨hX4.far6 (by omega) hw12 hxa12 _ _ _ _ _ _, hQ4.put6 r hro hra12, hK4.far6 (by omega) hw12 _ _ _ _ _ _, hra9, hra12⟩, hrG⟩
      case rest =>
      clear hWK hqG hers hmov
      clear q ec
      obtain ⟨q, ec, rfl, ⟨hX7, hQ7, hK7, hqa9, _⟩, hqG⟩ := hcut
      obtain ⟨u7, hu7⟩ : ∃ wm, wm = wc := ⟨_, rfl⟩
      rw [← hu7] at hX7 hQ7 hK7
      rw [← hu7]
      clear hu7
      by_cases hec : ec = 0
      case neg =>
        have hecb : (ec != 0) = true := by simpa using hec
        go_wp2_with fail
        go_roundw
        case rel => exact ⟨i + 1, x, by omega, by go_num, hX7, hK7, hxa, hxm, hxf⟩
        case measure => simp [intOf]; omega
      case pos =>
      subst hec
      obtain ⟨hqm, hqf⟩ := hqG rfl
      have hqfit := fit_may hQ7.ok hqm hqf (by omega) (by omega)
      have q0 := hQ7.c0
      have q1 := hQ7.c1
      have q2 := hQ7.c2
      have q3 := hQ7.c3
      have q4 := hQ7.c4
      have q5 := hQ7.c5
      obtain ⟨⟨z0, z1, z2, z3, z4, z5⟩, ⟨z6, z7, z8, z9, z10, z11⟩⟩ := hX7.1.cells6
      have g9w : w.heap.size ≤ g9 := hX7.1.1
      have hX8 := hX7.put6 q hQ7.ok hqa9
      have hK8 := hK7.far6 (g' := g9) (by omega) g9w (.bool q.v.b) (.slice q.v.A q.v.n q.v.c) (.bool q.v.p) (.slice q.v.E q.v.m q.v.q) (.int .i64 q.c) (.int .i64 q.a)
      go_upto_region 15 with fail
      clear q0 q1 q2 q3 q4 q5 z0 z1 z2 z3 z4 z5 z6 z7 z8 z9 z10 z11 hX7 hQ7 hK7
      generalize World.setCell (World.setCell (World.setCell (World.setCell (World.setCell (World.setCell _ _ _) _ _) _ _) _ _) _ _) _ _ = u8 at *
      have hem := Lib.hid (fun W (hW : Later u8 W) => show Calls Try.prog 51 #[.agg #[.bool q.v.b, .slice q.v.A q.v.n q.v.c, .bool q.v.p, .slice q.v.E q.v.m q.v.q, .int .i64 q.c, .int .i64 q.a]] W (RV W (.bool true)) by
        have := emay_any q W (hX8.call hW).ok hqfit.1
        rw [hqm] at this
        exact this)
      have hfi := Lib.hid (fun W (hW : Later u8 W) => show Calls Try.prog 52 #[.agg #[.bool q.v.b, .slice q.v.A q.v.n q.v.c, .bool q.v.p, .slice q.v.E q.v.m q.v.q], .int .i64 li, .int .i64 lf] W (RV W (.bool true)) by
        have := dfits_any q.v.b q.v.p li lf W (hX8.call hW).ok.1 (hX8.call hW).ok.2 ⟨by omega, by omega⟩ ⟨by omega, by omega⟩
        rw [show fitsD ⟨q.v.b, q.v.l, q.v.p, q.v.f⟩ li lf = true from hqf] at this
        exact this)
      have q0 := hX8.c0
      have q1 := hX8.c1
      have q2 := hX8.c2
      have q3 := hX8.c3
      have q4 := hX8.c4
      have q5 := hX8.c5
      go_wp2_with fail
      refine (hem.out _ (Later.refl _)).mono ?_
      rintro e u9 ⟨rfl, hB9⟩
      have hX9 := hX8.call hB9
      have hK9 := hK8.call hB9
      clear q0 q1 q2 q3 q4 q5
      have q0 := hX9.c0
      have q1 := hX9.c1
      have q2 := hX9.c2
      have q3 := hX9.c3
      obtain ⟨l0, l1, l2'⟩ := hK9.cells3.1
      go_wp2_with fail
      refine (hfi.out _ hB9).mono ?_
      rintro e u10 ⟨rfl, hB10⟩
      have hX10 := hX9.call hB10
      have hK10 := hK9.call hB10
      go_wp2_with fail
      go_roundw
      case rel => exact ⟨i + 1, q, by omega, by go_num, hX10, hK10, hqa9, hqm, hqf⟩
      case measure => simp [intOf]; omega

end Go.Proofs.Ytppkifdngjcbeaa
