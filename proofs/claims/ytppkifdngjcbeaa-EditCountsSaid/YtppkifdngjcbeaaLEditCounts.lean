/- The walk of EditCounts. No condition. -/
import Derived.Test.YtppkifdngjcbeaaEd4
import Derived.Test.YtppkifdngjcbeaaEd12
import Derived.Test.YtppkifdngjcbeaaEd14
import Derived.Test.YtppkifdngjcbeaaEd15
import Derived.Test.YtppkifdngjcbeaaEd16
import Derived.BigQuiet
namespace Go.Proofs.Ytppkifdngjcbeaa
open Go.RowKit
set_option linter.unusedSimpArgs false

set_option maxRecDepth 100000 in
set_option maxHeartbeats 8000000 in
theorem editCounts_walk (w : World) (x0 : SV) {A1 : Option Addr} {n1 c1 : Nat} {l1 : List Int} (w0 : x0.v.ok w) (i0 : I64 x0.v.l ∧ I64 x0.v.f) (c0 : I6 x0.c) (a0 : I6 x0.a) (j1 : IL w A1 n1 c1 l1) (i1 : I64 l1) :
    Calls Try.prog 6 #[.agg #[.bool x0.v.b, .slice x0.v.A x0.v.n x0.v.c, .bool x0.v.p, .slice x0.v.E x0.v.m x0.v.q, .int .i64 x0.c, .int .i64 x0.a], .slice A1 n1 c1] w fun e w' => e = .returned (.bool true) ∧ Below w.heap.size w w' := by
  have hgd := Lib.hid (fun W (hW : x0.v.ok W) => rsgood_any x0 6 4 6 W hW i0.1 i0.2 c0 a0 (by omega) (by omega) (by omega))
  have hpo := Lib.hid (fun W (hW : IL W A1 n1 c1 l1) => points_own A1 n1 c1 5 l1 W hW i1 (by omega))
  have hGm := goodS_may x0 6 4
  have hGl := gdS_len x0 6 4
  have hGd : Hid ((goodS x0 6 4).d = gdS x0 6 4) := rfl
  have hLb := goodL11_bd l1 5
  have hLn := goodL11_len l1 5
  generalize goodL11 l1 5 = L at *
  generalize goodS x0 6 4 = G at *
  generalize gdS x0 6 4 = gd at *
  have hx00 := (SB.made w w 53 x0 (Later.refl w) w0 (w.heap.size) (by simp))
  go_enter Try.func6, Try.ntmps6
  go_upto_region 1 with fail
  generalize World.alloc w _ = w1 at *
  have qx00 := hx00.c0
  have qx01 := hx00.c1
  have qx02 := hx00.c2
  have qx03 := hx00.c3
  have qx04 := hx00.c4
  have qx05 := hx00.c5
  go_wp2_with fail
  refine (hgd.out _ hx00.ok).mono ?_
  rintro e w2 ⟨y, rfl, hyS, hyo, hyn, hB2⟩
  clear qx00 qx01 qx02 qx03 qx04 qx05
  have hx02 := hx00.call hB2
  clear hx00
  have hy2 := SB.made w w2 53 y hx02.later hyo _ rfl
  go_upto_region 2 with fail
  have hx0_v2 := hx02.alloc (.cells #[.bool y.v.b, .slice y.v.A y.v.n y.v.c, .bool y.v.p, .slice y.v.E y.v.m y.v.q, .int .i64 y.c, .int .i64 y.a] 53)
  clear hx02
  generalize hgw : World.alloc w2 _ = v2 at *
  clear hgw
  have hy := hy2
  clear hy2 hx0_v2
  have hLv : Later w v2 := hy.later
  go_wp2_with fail
  refine (hpo.out _ (j1.later hLv)).mono ?_
  rintro e v3 ⟨A, n, c, rfl, hR0, hB3⟩
  have hn : L.length = n := by have := hR0.1; simpa using this
  have hn5 : n ≤ 5 := by omega
  have Hn := Lib.hid hn
  clear hgd hpo hn
  go_upto_region 3 with fail
  go_wp2_with fail
  go_loopw [7] (fun v wr => ∃ k : Nat, k ≤ n ∧ v = .int .i64 k ∧ wr.ownsRow v2.heap.size 3 1 (.slice A n c) n ((modTo L k).map (Value.int .i64)) ∧ Below v2.heap.size v2 wr) (fun v _ => n - (intOf v).toNat)
  case atStart => exact ⟨0, by omega, rfl, by rw [modTo_zero]; exact hR0, hB3⟩
  case round =>
    obtain ⟨k, hk, rfl, hR, hB⟩ := hrel
    by_cases hlt : k < n
    · have hd := hLb (L.getD k 0) (by
        have hk' : k < L.length := by rw [Hn.out]; omega
        simp only [List.getD, List.getElem?_eq_getElem hk', Option.getD_some]
        exact List.getElem_mem hk')
      have hkk : (k : Int) < n := by omega
      have hst := modTo_step (l := L) (k := k) (by rw [Hn.out]; omega)
      rcases hR.2 with ⟨_, h1⟩ | ⟨g, cap, cur, hv, hg, _⟩
      · omega
      · injection hv with hA _ hcap
        subst hA hcap
        have hcell := (hR.cellAt k (by omega)).trans (modTo_at (k := k) (by rw [Hn.out]; omega))
        have hfree := hR.frozenAt k
        have hmd : Hid ((L.getD k 0).tmod 10 = L.getD k 0 % 10) := tmod_digit hd.1
        have s1 := (hR.stored k (.int .i64 (L.getD k 0 % 10))).1
        rw [hst] at s1
        have S1 := Lib.hid s1
        clear hR s1 hst
        generalize L.getD k 0 = q at *
        go_wp2_with fail
        go_roundw
        case rel => exact ⟨k + 1, by omega, by go_num, S1.out, hB.setCell (by simpa using hg) _⟩
        case measure => simp [intOf]; omega
    · have hkn : n = k := by omega
      subst hkn
      rw [modTo_all L (by rw [Hn.out]; omega)] at hR
      obtain ⟨M, hM⟩ : ∃ M, M = L.map (fun x => x % 10) := ⟨_, rfl⟩
      have hMd : ∀ q, q ∈ M → 0 ≤ q ∧ q ≤ 9 := by
        intro q hq
        rw [hM] at hq
        obtain ⟨r, hr, rfl⟩ := List.mem_map.1 hq
        omega
      have hMl : M.length = n := by rw [hM, List.length_map]; exact Hn.out
      rw [← hM] at hR
      clear hM hLb hLn Hn
      obtain ⟨v4, hv4⟩ : ∃ wm, wm = wr := ⟨_, rfl⟩
      rw [← hv4] at hR hB
      rw [← hv4]
      clear hv4 hR0 hB3
      have hI : IL v4 A n c M := VL.of_own hR
      have hy4 := hy.call hB
      have hmG := hGm
      clear hR hB hy
      rw [← hyS.out] at hmG
      obtain ⟨hmd, ⟨hc0, hc1⟩, ha0, ha1⟩ := mayS_iff.1 hmG
      have hmd2 := mayDr_iff.1 hmd
      have hyl : lenR y.s.d ≤ 20001 := by
        have e := atoms_len y.v.l y.v.p y.v.f
        have e1 := hyo.1.len
        have e2 := hyo.2.len
        have e5 : lenR y.s.d = ((atomsD y.v.l y.v.p y.v.f).length : Int) := rfl
        have e6 := hyn.1
        have e7 := hyn.2
        omega
      have hyf : y.v.fit := ⟨fun q hq => by have := mayL_iff.1 hmd2.1 q hq; omega, fun q hq => by have := mayL_iff.1 hmd2.2.1 q hq; omega, by have := hyn.1; omega, by have := hyn.2; omega⟩
      have hc0' : 0 ≤ y.c := hc0
      have hc1' : y.c ≤ lenR y.s.d := hc1
      have ha0' : 0 ≤ y.a := ha0
      have ha1' : y.a ≤ lenR y.s.d := ha1
      have hcnt := ins_count (s := y.s) (l := M) hmG (mayL_iff.2 hMd) (by show y.v.l.length ≤ 6; have := hyo.1.len; have := hyn.1; omega) (by show y.v.f.length ≤ 6; have := hyo.2.len; have := hyn.2; omega) (by omega)
      have hyF : y.fit := ⟨hyf, ⟨by omega, by omega⟩, by omega, by omega⟩
      have hbd := front_back hmG
      have hL4 : Later w v4 := hy4.later
      have hof := Lib.hid (fun W => of19_any y W)
      have hspan := Lib.hid (fun W (hW : y.v.ok W) => show Calls Try.prog 39 #[.agg #[.bool y.v.b, .slice y.v.A y.v.n y.v.c, .bool y.v.p, .slice y.v.E y.v.m y.v.q, .int .i64 y.c, .int .i64 y.a]] W (fun e w' => e = .returned (.tuple #[.int .i64 (frontS y.s), .int .i64 (backS y.s)]) ∧ Below W.heap.size W w') by
        have := espan_any y W hW hyf
        rw [if_pos hmG, if_pos hmG] at this
        exact this)
      have hins := Lib.hid (fun W (hW : y.v.ok W) (hS : IL W A n c M) => show Calls Try.prog 40 #[.agg #[.bool y.v.b, .slice y.v.A y.v.n y.v.c, .bool y.v.p, .slice y.v.E y.v.m y.v.q, .int .i64 y.c, .int .i64 y.a], .agg #[.int .i64 64, .int .i64 64, .bool false], .slice A n c] W (RSF W (insS y.s 64 64 M).1 0) by
        have := einsert_any y 64 64 false W hW hyf ⟨by omega, by omega⟩ ⟨by omega, by omega⟩ ⟨⟨by omega, by omega⟩, by omega, by omega⟩ hS (fun q hq => by have := hMd q hq; omega) (by omega)
        rw [hcnt.1] at this
        exact this)
      have hat := Lib.hid (fun W (hW : y.v.ok W) => show Calls Try.prog 41 #[.agg #[.bool y.v.b, .slice y.v.A y.v.n y.v.c, .bool y.v.p, .slice y.v.E y.v.m y.v.q]] W (RL W (atomsR y.v.d)) from
        (ratoms_any y.v.b y.v.p W hW.1 hW.2 (by have := hyn.1; omega) (by have := hyn.2; omega)).mono (fun _ _ q => q.rl))
      obtain ⟨_, hk1, hk2, hk3⟩ := hcnt
      rw [hMl] at hk1 hk2 hk3
      have hfr : Hid (frontS y.s = if y.a < y.c then y.a else y.c) := rfl
      generalize hXg : (insS y.s 64 64 M).1 = X at *
      generalize frontS y.s = fr at *
      generalize backS y.s = bk at *
      clear hXg
      obtain ⟨hN, hNe⟩ : ∃ N : Nat, Hid ((atomsR y.v.d).length = N) ∧ lenR y.s.d = (N : Int) := ⟨_, rfl, rfl⟩
      have q0 := hy4.c0
      have q1 := hy4.c1
      have q2 := hy4.c2
      have q3 := hy4.c3
      have q4 := hy4.c4
      have q5 := hy4.c5
      go_upto_region 7 with fail
      go_wp2_with fail
      refine (hof.out _).mono ?_
      rintro e v5 ⟨rfl, hB5⟩
      have hy5 := hy4.call hB5
      have hI5 := hI.below hB5
      go_wp2_with fail
      refine (hspan.out _ hy5.ok).mono ?_
      rintro e v6 ⟨rfl, hB6⟩
      have hy6 := hy5.call hB6
      have hI6 := hI5.below hB6
      clear q0 q1 q2 q3 q4 q5 hy4 hI hy5 hI5
      have q0 := hy6.c0
      have q1 := hy6.c1
      have q2 := hy6.c2
      have q3 := hy6.c3
      have q4 := hy6.c4
      have q5 := hy6.c5
      go_upto_region 8 with fail
      go_wp2_with fail
      refine (hof.out _).mono ?_
      rintro e v7 ⟨rfl, hB7⟩
      have hy7 := hy6.call hB7
      have hI7 := hI6.below hB7
      go_wp2_with fail
      refine (hins.out _ hy7.ok hI7).mono ?_
      rintro e v8 ⟨z, rfl, hzS, hzo, hB8, _hzN, _hzM⟩
      have hy8 := hy7.call hB8
      have hI8 := hI7.below hB8
      clear q0 q1 q2 q3 q4 q5 hy6 hI6 hy7 hI7 hof hspan hins
      have hz := SB.made w v8 61 z hy8.later hzo _ rfl
      have hy9 := hy8.alloc (.cells #[.bool z.v.b, .slice z.v.A z.v.n z.v.c, .bool z.v.p, .slice z.v.E z.v.m z.v.q, .int .i64 z.c, .int .i64 z.a] 61)
      go_upto_region 9 with fail
      clear hy8 hI8
      generalize World.alloc v8 _ = v9 at *
      have q0 := hy9.c0
      have q1 := hy9.c1
      have q2 := hy9.c2
      have q3 := hy9.c3
      go_wp2_with fail
      refine (hat.out _ hy9.ok).mono ?_
      rintro e v10 ⟨A3, n3, c3, rfl, hI3, hB10⟩
      have hy10 := hy9.call hB10
      have hz10 := hz.call hB10
      have hn3 : n3 = hN := by rw [← hI3.len]; exact hNe.1.out
      clear q0 q1 q2 q3 hy9 hz hat
      have hzc : z.c = fr + (n : Int) := by have := congrArg St.c hzS.out; rw [hk1] at this; exact this
      have hza : z.a = fr + (n : Int) := by have := congrArg St.a hzS.out; rw [hk2] at this; exact this
      have hzl : lenR z.v.d = (hN : Int) - (bk - fr) + (n : Int) := by
        have := congrArg St.d hzS.out
        have e2 : z.v.d = X.d := this
        rw [e2, hk3, hNe.2]
      have hzk := hzo.lens
      have hNl : lenR y.s.d = (hN : Int) := hNe.2
      have hzn : z.v.n ≤ 1000000 ∧ z.v.m ≤ 1000000 := by
        have e : lenR z.v.d = ((z.v.l ++ ((if z.v.p then [10] else []) ++ z.v.f)).length : Int) := rfl
        have e1 := hzo.1.len
        have e2 := hzo.2.len
        simp only [List.length_append] at e
        omega
      have hlen := Lib.hid (fun W (hW : z.v.ok W) => show Calls Try.prog 27 #[.agg #[.bool z.v.b, .slice z.v.A z.v.n z.v.c, .bool z.v.p, .slice z.v.E z.v.m z.v.q]] W (RV W (.int .i64 ((hN : Int) - (bk - fr) + (n : Int)))) by
        have := len_any z.v.b z.v.p W hW.1 hW.2 hzn.1 hzn.2
        rw [show (((atomsD z.v.l z.v.p z.v.f).length : Nat) : Int) = lenR z.v.d from rfl, hzl] at this
        exact this)
      obtain ⟨⟨z0, z1, z2, z3, z4, z5⟩, _⟩ := hz10.1.cells6
      obtain ⟨⟨q0, q1, q2, q3, q4, q5⟩, _⟩ := hy10.1.cells6
      have hmn := hfr.out.symm
      rw [hzc] at z4
      rw [hza] at z5
      subst hn3
      have b1 : 0 ≤ fr := hbd.1
      have b2 : fr ≤ bk := hbd.2.1
      have b3 : bk ≤ (n3 : Int) := by have := hbd.2.2; omega
      have b4 : (n3 : Int) ≤ 20001 := by omega
      have b5 : (n : Int) ≤ 5 := by omega
      have b6 : (0 : Int) ≤ (n : Int) := by omega
      clear hzc hza hzl hzk hNl hzn hfr hk1 hk2 hk3 hbd
      go_upto_region 10 with fail
      go_wp2_with fail
      refine (hlen.out _ hz10.ok).mono ?_
      rintro e v11 ⟨rfl, hB11⟩
      have q4' := hB11.cell (p := ⟨w2.heap.size, 4, none⟩) (hy10.1.lt) |>.trans q4
      have q5' := hB11.cell (p := ⟨w2.heap.size, 5, none⟩) (hy10.1.lt) |>.trans q5
      have hL11 := (hy10.call hB11).later
      clear z0 z1 z2 z3 z4 z5 q0 q1 q2 q3 q4 q5 hlen hy10 hz10
      go_wp2_with fail
      refine (lives19_any _).mono ?_
      rintro e v12 ⟨rfl, hB12⟩
      go_wp2_with fail
      go_ret
      exact ⟨rfl, below_from hL11 hB12⟩

end Go.Proofs.Ytppkifdngjcbeaa
