/- States that are the same, as each side has them, and what lives. No condition. -/
import Derived.Test.YtppkifdngjcbeaaEd4
import Derived.Test.YtppkifdngjcbeaaEd9e
import Derived.Test.YtppkifdngjcbeaaDr3
import Derived.Test.YtppkifdngjcbeaaDr8
namespace Go.Proofs.Ytppkifdngjcbeaa
open Go.RowKit
set_option linter.unusedSimpArgs false

set_option maxHeartbeats 1000000 in
theorem of19_any (x : SV) (w : World) : Calls Try.prog 33 #[.agg #[.bool x.v.b, .slice x.v.A x.v.n x.v.c, .bool x.v.p, .slice x.v.E x.v.m x.v.q, .int .i64 x.c, .int .i64 x.a]] w (RV w (.agg #[.bool x.v.b, .slice x.v.A x.v.n x.v.c, .bool x.v.p, .slice x.v.E x.v.m x.v.q, .int .i64 x.c, .int .i64 x.a])) := by
  go_enter Try.func33, Try.ntmps33
  go_wp2
  exact bodyPost_ret (v := .agg #[.bool x.v.b, .slice x.v.A x.v.n x.v.c, .bool x.v.p, .slice x.v.E x.v.m x.v.q, .int .i64 x.c, .int .i64 x.a]) (by simp [results, Try.results33, go_sem]) rfl ⟨rfl, ((Below.refl _ _).alloc (Nat.le_refl _) _).alloc (by simp) _⟩
set_option maxHeartbeats 1000000 in
theorem as19_any (x : SV) (w : World) : Calls Try.prog 36 #[.agg #[.bool x.v.b, .slice x.v.A x.v.n x.v.c, .bool x.v.p, .slice x.v.E x.v.m x.v.q, .int .i64 x.c, .int .i64 x.a]] w (RV w (.agg #[.bool x.v.b, .slice x.v.A x.v.n x.v.c, .bool x.v.p, .slice x.v.E x.v.m x.v.q, .int .i64 x.c, .int .i64 x.a])) := by
  go_enter Try.func36, Try.ntmps36
  go_wp2
  exact bodyPost_ret (v := .agg #[.bool x.v.b, .slice x.v.A x.v.n x.v.c, .bool x.v.p, .slice x.v.E x.v.m x.v.q, .int .i64 x.c, .int .i64 x.a]) (by simp [results, Try.results36, go_sem]) rfl ⟨rfl, ((Below.refl _ _).alloc (Nat.le_refl _) _).alloc (by simp) _⟩

set_option maxHeartbeats 2000000 in
theorem rssame_any (x y : SV) (w : World) (hx : x.v.ok w) (hy : y.v.ok w) (he : x.s = y.s) :
    Calls Try.prog 35 #[.agg #[.bool x.v.b, .slice x.v.A x.v.n x.v.c, .bool x.v.p, .slice x.v.E x.v.m x.v.q, .int .i64 x.c, .int .i64 x.a], .agg #[.bool y.v.b, .slice y.v.A y.v.n y.v.c, .bool y.v.p, .slice y.v.E y.v.m y.v.q, .int .i64 y.c, .int .i64 y.a]] w (RV w (.bool true)) := by
  have hd : x.v.d = y.v.d := congrArg St.d he
  have hc : x.c = y.c := congrArg St.c he
  have ha : x.a = y.a := congrArg St.a he
  have hsm := Lib.hid (fun W (h1 : x.v.ok W) (h2 : y.v.ok W) => show Calls Try.prog 22 #[.agg #[.bool x.v.b, .slice x.v.A x.v.n x.v.c, .bool x.v.p, .slice x.v.E x.v.m x.v.q], .agg #[.bool y.v.b, .slice y.v.A y.v.n y.v.c, .bool y.v.p, .slice y.v.E y.v.m y.v.q]] W (RV W (.bool true)) by
    have := rdsame_any x.v.b x.v.p y.v.b y.v.p W h1.1 h1.2 h2.1 h2.2
    rw [show (⟨x.v.b, x.v.l, x.v.p, x.v.f⟩ : Dr) = ⟨y.v.b, y.v.l, y.v.p, y.v.f⟩ from hd, sameD_refl] at this
    exact this)
  have hX := (SB.made w w 53 x (Later.refl w) hx _ rfl).alloc (.cells #[.bool y.v.b, .slice y.v.A y.v.n y.v.c, .bool y.v.p, .slice y.v.E y.v.m y.v.q, .int .i64 y.c, .int .i64 y.a] 53)
  have hY := SB.made w (w.alloc (.cells #[.bool x.v.b, .slice x.v.A x.v.n x.v.c, .bool x.v.p, .slice x.v.E x.v.m x.v.q, .int .i64 x.c, .int .i64 x.a] 53)) 53 y ((Later.refl w).alloc _) (hy.alloc _) (w.heap.size + 1) (by simp)
  have hcH := Lib.hid hc
  have haH := Lib.hid ha
  clear he hd hc ha
  go_enter Try.func35, Try.ntmps35
  go_upto_region 1 with fail
  generalize World.alloc (World.alloc w _) _ = w1 at *
  have q0 := hX.c0
  have q1 := hX.c1
  have q2 := hX.c2
  have q3 := hX.c3
  have p0 := hY.c0
  have p1 := hY.c1
  have p2 := hY.c2
  have p3 := hY.c3
  go_wp2_with fail
  refine (hsm.out _ hX.ok hY.ok).mono ?_
  rintro e w2 ⟨rfl, hB2⟩
  clear q0 q1 q2 q3 p0 p1 p2 p3
  have q4 := (hX.call hB2).c4
  have q5 := (hX.call hB2).c5
  have p4 := (hY.call hB2).c4
  have p5 := (hY.call hB2).c5
  rw [← hcH.out] at p4
  rw [← haH.out] at p5
  have hL := (hX.call hB2).later
  clear hX hY
  go_wp2_with fail
  go_ret
  exact ⟨rfl, hL⟩

theorem lives19_e : eraseS ⟨⟨false, [1, 2], true, [5]⟩, 2, 2⟩ 9 9 2 = (⟨⟨false, [], true, [5]⟩, 0, 0⟩, 0) := by rfl
theorem lives19_i : insS ⟨⟨false, [1, 2], true, [5]⟩, 1, 1⟩ 9 9 [9] = (⟨⟨false, [1, 9, 2], true, [5]⟩, 2, 2⟩, 0) := by rfl
theorem lives19_t1 : bs (textD ⟨false, [], true, [5]⟩) = { data := #[46, 53] } := by rfl
theorem lives19_t2 : bs (textD ⟨false, [1, 9, 2], true, [5]⟩) = { data := #[49, 57, 50, 46, 53] } := by rfl

set_option maxHeartbeats 4000000 in
theorem lives19_any (w : World) : Calls Try.prog 37 #[] w (RV w (.bool true)) := by
  have b12 : I64 [1, 2] := by unfold I64; simp
  have b5 : I64 [5] := by unfold I64; simp
  have b9 : I64 [9] := by unfold I64; simp
  have hE := Lib.hid (fun (A E : Option Addr) W (h1 : IL W A 2 2 [1, 2]) (h2 : IL W E 1 1 [5]) => show Calls Try.prog 32 #[.agg #[.bool false, .slice A 2 2, .bool true, .slice E 1 1, .int .i64 2, .int .i64 2], .agg #[.int .i64 9, .int .i64 9, .bool false], .int .i64 2] W (RSF W ⟨⟨false, [], true, [5]⟩, 0, 0⟩ 0) by
    have := eerase_any ⟨⟨false, A, 2, 2, [1, 2], true, E, 1, 1, [5]⟩, 2, 2⟩ 9 9 false 2 W ⟨h1, h2⟩ ⟨b12, b5, by simp, by simp⟩ ⟨by unfold I6; simp, by unfold I6; simp⟩
    rw [show eraseS (⟨⟨false, A, 2, 2, [1, 2], true, E, 1, 1, [5]⟩, 2, 2⟩ : SV).s 9 9 2 = (⟨⟨false, [], true, [5]⟩, 0, 0⟩, 0) from lives19_e] at this
    exact this)
  have hI := Lib.hid (fun (A E S : Option Addr) W (h1 : IL W A 2 2 [1, 2]) (h2 : IL W E 1 1 [5]) (h3 : IL W S 1 1 [9]) => show Calls Try.prog 40 #[.agg #[.bool false, .slice A 2 2, .bool true, .slice E 1 1, .int .i64 1, .int .i64 1], .agg #[.int .i64 9, .int .i64 9, .bool false], .slice S 1 1] W (RSF W ⟨⟨false, [1, 9, 2], true, [5]⟩, 2, 2⟩ 0) by
    have := einsert_any ⟨⟨false, A, 2, 2, [1, 2], true, E, 1, 1, [5]⟩, 1, 1⟩ 9 9 false W ⟨h1, h2⟩ ⟨b12, b5, by simp, by simp⟩ (by unfold I6; simp) (by unfold I6; simp) ⟨by unfold I6; simp, by unfold I6; simp⟩ h3 b9 (by omega)
    rw [show insS (⟨⟨false, A, 2, 2, [1, 2], true, E, 1, 1, [5]⟩, 1, 1⟩ : SV).s 9 9 [9] = (⟨⟨false, [1, 9, 2], true, [5]⟩, 2, 2⟩, 0) from lives19_i] at this
    exact this)
  have hT := Lib.hid (fun (y : DV) (d : Dr) (hd : y.d = d) (h9 : I64 d.int ∧ I64 d.frac ∧ d.int.length ≤ 10000 ∧ d.frac.length ≤ 10000) W (hy : y.ok W) => show Calls Try.prog 74 #[.agg #[.bool y.b, .slice y.A y.n y.c, .bool y.p, .slice y.E y.m y.q]] W (RV W (.string (bs (textD d)))) by
    subst hd
    exact dtext_any y.b y.p W hy.1 hy.2 h9.1 h9.2.1 (by have := hy.1.len; have h3 : y.l.length ≤ 10000 := h9.2.2.1; omega) (by have := hy.2.len; have h3 : y.f.length ≤ 10000 := h9.2.2.2; omega))
  clear b12 b5 b9
  go_enter Try.func37, Try.ntmps37
  go_wp2_with fail
  refine (hE.out _ _ _ ((IL.lit2 _ _ _ _ _ rfl).alloc _) (IL.lit1 _ _ _ _ (by simp))).mono ?_
  rintro e w1 ⟨x, rfl, hxS, hxo, hB1, _, _⟩
  have hL1 : Later w w1 := (((Later.refl w).alloc _).alloc _).call hB1
  have hx1 := SB.made w w1 61 x hL1 hxo _ rfl
  go_upto_region 2 with fail
  generalize World.alloc w1 _ = w2 at *
  go_wp2_with fail
  refine (hI.out _ _ _ _ (((IL.lit2 _ _ _ _ _ rfl).alloc _).alloc _) ((IL.lit1 _ _ _ _ (by simp)).alloc _) (IL.lit1 _ _ _ _ (by simp))).mono ?_
  rintro e w3 ⟨y, rfl, hyS, hyo, hB3, _, _⟩
  have hx3 := (((hx1.alloc _).alloc _).alloc _).call hB3
  have hy3 := SB.made w w3 61 y hx3.later hyo _ rfl
  have hx4 := hx3.alloc (.cells #[.bool y.v.b, .slice y.v.A y.v.n y.v.c, .bool y.v.p, .slice y.v.E y.v.m y.v.q, .int .i64 y.c, .int .i64 y.a] 61)
  clear hx1 hx3 hxo hyo
  go_upto_region 3 with fail
  generalize World.alloc w3 _ = w4 at *
  have hxd := congrArg St.d hxS.out
  have hxc : Hid (x.c = 0) := congrArg St.c hxS.out
  have hyd := congrArg St.d hyS.out
  have hyc : Hid (y.c = 2) := congrArg St.c hyS.out
  have hya : Hid (y.a = 2) := congrArg St.a hyS.out
  have t1 := Lib.hid (hT.out x.v ⟨false, [], true, [5]⟩ hxd ⟨(fun z hz => (by cases hz)), by unfold I64; simp, by simp, by simp⟩)
  have t2 := Lib.hid (hT.out y.v ⟨false, [1, 9, 2], true, [5]⟩ hyd ⟨by unfold I64; simp, by unfold I64; simp, by simp, by simp⟩)
  rw [lives19_t1] at t1
  rw [lives19_t2] at t2
  clear hxd hyd hT hxS hyS
  have q0 := hx4.c0
  have q1 := hx4.c1
  have q2 := hx4.c2
  have q3 := hx4.c3
  go_wp2_with fail
  refine (t1.out _ hx4.ok).mono ?_
  rintro e w5 ⟨rfl, hB5⟩
  clear q0 q1 q2 q3
  have hx5 := hx4.call hB5
  have hy5 := hy3.call hB5
  have q4 := hx5.c4
  rw [hxc.out] at q4
  have q0 := hy5.c0
  have q1 := hy5.c1
  have q2 := hy5.c2
  have q3 := hy5.c3
  go_wp2_with fail
  refine (t2.out _ hy5.ok).mono ?_
  rintro e w6 ⟨rfl, hB6⟩
  clear q0 q1 q2 q3
  have hy6 := hy5.call hB6
  have p4 := hy6.c4
  rw [hyc.out] at p4
  have p5 := hy6.c5
  rw [hya.out] at p5
  go_wp2_with fail
  go_ret
  exact ⟨rfl, hy6.later⟩

end Go.Proofs.Ytppkifdngjcbeaa
