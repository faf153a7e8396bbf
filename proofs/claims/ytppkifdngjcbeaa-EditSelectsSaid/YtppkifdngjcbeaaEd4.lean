/- The walks of both Inserts. No condition. -/
import Derived.Test.YtppkifdngjcbeaaEd3
import Derived.Test.YtppkifdngjcbeaaDr7
namespace Go.Proofs.Ytppkifdngjcbeaa
open Go.RowKit

set_option maxRecDepth 100000 in
set_option maxHeartbeats 4000000 in
theorem einsert_any (x : SV) (li lf : Int) (sg : Bool) {S : Option Addr} {ns cs : Nat} {s : List Int} (w : World) (h : x.v.ok w) (hf : x.v.fit) (_ic : I6 x.c) (_ia : I6 x.a) (hl : I6 li ∧ I6 lf) (hs : IL w S ns cs s) (hsI : I64 s) (hns : ns ≤ 10000) :
    Calls Try.prog 40 #[.agg #[.bool x.v.b, .slice x.v.A x.v.n x.v.c, .bool x.v.p, .slice x.v.E x.v.m x.v.q, .int .i64 x.c, .int .i64 x.a], .agg #[.int .i64 li, .int .i64 lf, .bool sg], .slice S ns cs] w (RSF w (insS x.s li lf s).1 (insS x.s li lf s).2) := by
  have hm := Lib.hid (fun W (hW : x.v.ok W) => emay_any x W hW hf)
  have hsp := Lib.hid (fun (i j : Int) (hi : I6 i) (hj : I6 j) W (hW : x.v.ok W) (hS : IL W S ns cs s) => show Calls Try.prog 73 #[.agg #[.bool x.v.b, .slice x.v.A x.v.n x.v.c, .bool x.v.p, .slice x.v.E x.v.m x.v.q], .int .i64 i, .int .i64 j, .slice S ns cs] W (RDV W (spliceS x.v.d i j s).1 (spliceS x.v.d i j s).2) from (splice_any x.v.b x.v.p i j W hW.1 hW.2 hS hf.1 hf.2.1 hsI hf.2.2.1 hf.2.2.2 hns hi hj).mono (fun _ _ q => q.dv))
  have hspan := Lib.hid (fun W (hW : x.v.ok W) => espan_any x W hW hf)
  have hfit := Lib.hid (fun (y : DV) W (hW : y.ok W) => show Calls Try.prog 52 #[.agg #[.bool y.b, .slice y.A y.n y.c, .bool y.p, .slice y.E y.m y.q], .int .i64 li, .int .i64 lf] W (RV W (.bool (fitsD y.d li lf))) from dfits_any y.b y.p li lf W hW.1 hW.2 hl.1 hl.2)
  have hIN : Hid (insS x.s li lf s = if mayS x.s then (if (spliceS x.v.d (frontS x.s) (backS x.s) s).2 = 0 then (if fitsD (spliceS x.v.d (frontS x.s) (backS x.s) s).1 li lf then (⟨(spliceS x.v.d (frontS x.s) (backS x.s) s).1, frontS x.s + s.length, frontS x.s + s.length⟩, 0) else (St.zero, 4)) else (St.zero, (spliceS x.v.d (frontS x.s) (backS x.s) s).2)) else (St.zero, 1)) := rfl
  have hfb : mayS x.s = true → Hid (0 ≤ frontS x.s ∧ frontS x.s ≤ 20001 ∧ 0 ≤ backS x.s ∧ backS x.s ≤ 20001) := fun hh => by
    have q := front_back hh
    have e := atoms_len x.v.l x.v.p x.v.f
    have e1 := h.1.len
    have e2 := h.2.len
    have e3 := hf.2.2.1
    have e4 := hf.2.2.2
    have e5 : lenR x.s.d = ((atomsD x.v.l x.v.p x.v.f).length : Int) := rfl
    exact ⟨by omega, by omega, by omega, by omega⟩
  have hx0 := ((SB.made w w 61 x (Later.refl w) h _ rfl).alloc (.cells #[.int .i64 li, .int .i64 lf, .bool sg] 65)).alloc (.cells #[.bool false, .slice none 0 0, .bool false, .slice none 0 0, .int .i64 0, .int .i64 0] 61)
  have hl0 := (Blk.made w (w.alloc (.cells #[.bool x.v.b, .slice x.v.A x.v.n x.v.c, .bool x.v.p, .slice x.v.E x.v.m x.v.q, .int .i64 x.c, .int .i64 x.a] 61)) 65 #[.int .i64 li, .int .i64 lf, .bool sg] ((Later.refl w).alloc _) (w.heap.size + 1) (by simp)).alloc (.cells #[.bool false, .slice none 0 0, .bool false, .slice none 0 0, .int .i64 0, .int .i64 0] 61)
  have hR0 := Blk.made w ((w.alloc (.cells #[.bool x.v.b, .slice x.v.A x.v.n x.v.c, .bool x.v.p, .slice x.v.E x.v.m x.v.q, .int .i64 x.c, .int .i64 x.a] 61)).alloc (.cells #[.int .i64 li, .int .i64 lf, .bool sg] 65)) 61 #[.bool false, .slice none 0 0, .bool false, .slice none 0 0, .int .i64 0, .int .i64 0] (((Later.refl w).alloc _).alloc _) (w.heap.size + 2) (by simp)
  have hs0 := ((hs.alloc (.cells #[.bool x.v.b, .slice x.v.A x.v.n x.v.c, .bool x.v.p, .slice x.v.E x.v.m x.v.q, .int .i64 x.c, .int .i64 x.a] 61)).alloc (.cells #[.int .i64 li, .int .i64 lf, .bool sg] 65)).alloc (.cells #[.bool false, .slice none 0 0, .bool false, .slice none 0 0, .int .i64 0, .int .i64 0] 61)
  have hsl := Lib.hid hs.len
  generalize insS x.s li lf s = D at *
  generalize frontS x.s = fr at *
  generalize backS x.s = bk at *
  cases hmm : mayS x.s
  · rw [hmm] at hm hIN
    have HD : Hid (D = (St.zero, 1)) := by rw [Hid, hIN.out]; rfl
    clear hmm hIN
    go_enter Try.func40, Try.ntmps40
    go_upto_region 1 with fail
    generalize World.alloc (World.alloc (World.alloc w _) _) _ = w1 at *
    have qx0 := hx0.c0
    have qx1 := hx0.c1
    have qx2 := hx0.c2
    have qx3 := hx0.c3
    have qx4 := hx0.c4
    have qx5 := hx0.c5
    go_wp2_with fail
    refine (hm.out _ hx0.ok).mono ?_
    rintro e w2 ⟨rfl, hB2⟩
    clear qx0 qx1 qx2 qx3 qx4 qx5
    have hx2 := hx0.call hB2
    have hs2 := hs0.below hB2
    clear hx0 hs0
    have hL2 := hl0.call hB2
    clear hl0
    have hR2 := hR0.call hB2
    clear hR0
    obtain ⟨⟨R0, R1, R2, R3, R4, R5⟩, ⟨Rf0, Rf1, Rf2, Rf3, Rf4, Rf5⟩⟩ := hR2.cells6
    go_wp2_with fail
    rw [HD.out]
    obtain ⟨⟨u0, u1, u2, u3, u4, u5⟩, _⟩ := (hR2.store6 (.bool false) (.slice none 0 0) (.bool false) (.slice none 0 0) (.int .i64 0) (.int .i64 0)).cells6
    refine bodyPost_ret (v := .tuple #[.agg #[.bool false, .slice none 0 0, .bool false, .slice none 0 0, .int .i64 0, .int .i64 0], .int .i64 1]) (by generalize World.setCell (World.setCell (World.setCell (World.setCell (World.setCell (World.setCell _ _ _) _ _) _ _) _ _) _ _) _ _ = W6 at u0 u1 u2 u3 u4 u5 ⊢; simp [results, Try.results40, go_sem, u0, u1, u2, u3, u4, u5]) rfl ?_
    exact ⟨⟨⟨false, none, 0, 0, [], false, none, 0, 0, []⟩, 0, 0⟩, rfl, rfl, ⟨IL.nil _, IL.nil _⟩, below_set6 hR2.later (by omega) _ _ _ _ _ _, none_newer _, none_newer _⟩
  · rw [hmm] at hm hIN hspan
    have hfb2 := hfb hmm
    obtain ⟨f0, f1, b0, b1⟩ := hfb2.out
    clear hfb hmm
    have hsp1 := Lib.hid (hsp.out fr bk ⟨by omega, by omega⟩ ⟨by omega, by omega⟩)
    clear hsp
    generalize spliceS x.v.d fr bk s = Q at *
    obtain ⟨Q, qc⟩ := Q
    by_cases hq : qc = 0
    case neg =>
      have HD : Hid (D = (St.zero, qc)) := by rw [Hid, hIN.out, if_pos rfl, if_neg hq]
      have hq2 : (qc == (0 : Int)) = false := by simpa using hq
      have hq3 : (qc != (0 : Int)) = true := by simpa using hq
      clear hIN
      go_enter Try.func40, Try.ntmps40
      go_upto_region 1 with fail
      generalize World.alloc (World.alloc (World.alloc w _) _) _ = w1 at *
      have qx0 := hx0.c0
      have qx1 := hx0.c1
      have qx2 := hx0.c2
      have qx3 := hx0.c3
      have qx4 := hx0.c4
      have qx5 := hx0.c5
      go_wp2_with fail
      refine (hm.out _ hx0.ok).mono ?_
      rintro e w2 ⟨rfl, hB2⟩
      clear qx0 qx1 qx2 qx3 qx4 qx5
      have hx2 := hx0.call hB2
      have hs2 := hs0.below hB2
      clear hx0 hs0
      have hL2 := hl0.call hB2
      clear hl0
      have hR2 := hR0.call hB2
      clear hR0
      have qx0 := hx2.c0
      have qx1 := hx2.c1
      have qx2 := hx2.c2
      have qx3 := hx2.c3
      have qx4 := hx2.c4
      have qx5 := hx2.c5
      go_wp2_with fail
      refine (hspan.out _ hx2.ok).mono ?_
      rintro e w3 ⟨rfl, hB3⟩
      clear qx0 qx1 qx2 qx3 qx4 qx5
      have hx3 := hx2.call hB3
      have hs3 := hs2.below hB3
      clear hx2 hs2
      have hL3 := hL2.call hB3
      clear hL2
      have hR3 := hR2.call hB3
      clear hR2
      have gR := hR3.lt
      have qx0 := hx3.c0
      have qx1 := hx3.c1
      have qx2 := hx3.c2
      have qx3 := hx3.c3
      have qx4 := hx3.c4
      have qx5 := hx3.c5
      go_wp2_with fail
      refine (hsp1.out _ hx3.ok hs3).mono ?_
      rintro e w4 ⟨y, rfl, hyq, hyo, hB4, hN9, hM9⟩
      clear qx0 qx1 qx2 qx3 qx4 qx5
      have hx4 := hx3.call hB4
      have hs4 := hs3.below hB4
      clear hx3 hs3
      have hL4 := hL3.call hB4
      clear hL3
      have hR4 := hR3.call hB4
      clear hR3
      have hd4 := DBk.made w w4 38 y hx4.later hyo _ rfl
      have hln := Lib.hid hyo.lens
      go_upto_region 5 with fail
      have hx_v9 := hx4.alloc (.cells #[.bool y.b, .slice y.A y.n y.c, .bool y.p, .slice y.E y.m y.q] 38)
      clear hx4
      have hL_v9 := hL4.alloc (.cells #[.bool y.b, .slice y.A y.n y.c, .bool y.p, .slice y.E y.m y.q] 38)
      clear hL4
      have hR_v9 := hR4.alloc (.cells #[.bool y.b, .slice y.A y.n y.c, .bool y.p, .slice y.E y.m y.q] 38)
      clear hR4
      have hs_v9 := hs4.alloc (.cells #[.bool y.b, .slice y.A y.n y.c, .bool y.p, .slice y.E y.m y.q] 38)
      clear hs4
      generalize hgw : World.alloc w4 _ = v9 at *
      clear hgw
      obtain ⟨⟨R0, R1, R2, R3, R4, R5⟩, ⟨Rf0, Rf1, Rf2, Rf3, Rf4, Rf5⟩⟩ := hR_v9.cells6
      go_wp2_with fail
      rw [HD.out]
      obtain ⟨⟨u0, u1, u2, u3, u4, u5⟩, _⟩ := (hR_v9.store6 (.bool false) (.slice none 0 0) (.bool false) (.slice none 0 0) (.int .i64 0) (.int .i64 0)).cells6
      refine bodyPost_ret (v := .tuple #[.agg #[.bool false, .slice none 0 0, .bool false, .slice none 0 0, .int .i64 0, .int .i64 0], .int .i64 qc]) (by generalize World.setCell (World.setCell (World.setCell (World.setCell (World.setCell (World.setCell _ _ _) _ _) _ _) _ _) _ _) _ _ = W6 at u0 u1 u2 u3 u4 u5 ⊢; simp [results, Try.results40, go_sem, u0, u1, u2, u3, u4, u5]) rfl ?_
      exact ⟨⟨⟨false, none, 0, 0, [], false, none, 0, 0, []⟩, 0, 0⟩, rfl, rfl, ⟨IL.nil _, IL.nil _⟩, below_set6 hR_v9.later (by omega) _ _ _ _ _ _, none_newer _, none_newer _⟩
    case pos =>
      subst hq
      cases hfq : fitsD Q li lf
      case false =>
        have HD : Hid (D = (St.zero, 4)) := by rw [Hid, hIN.out, if_pos rfl, if_pos rfl, hfq]; rfl
        clear hIN
        go_enter Try.func40, Try.ntmps40
        go_upto_region 1 with fail
        generalize World.alloc (World.alloc (World.alloc w _) _) _ = w1 at *
        have qx0 := hx0.c0
        have qx1 := hx0.c1
        have qx2 := hx0.c2
        have qx3 := hx0.c3
        have qx4 := hx0.c4
        have qx5 := hx0.c5
        go_wp2_with fail
        refine (hm.out _ hx0.ok).mono ?_
        rintro e w2 ⟨rfl, hB2⟩
        clear qx0 qx1 qx2 qx3 qx4 qx5
        have hx2 := hx0.call hB2
        have hs2 := hs0.below hB2
        clear hx0 hs0
        have hL2 := hl0.call hB2
        clear hl0
        have hR2 := hR0.call hB2
        clear hR0
        have qx0 := hx2.c0
        have qx1 := hx2.c1
        have qx2 := hx2.c2
        have qx3 := hx2.c3
        have qx4 := hx2.c4
        have qx5 := hx2.c5
        go_wp2_with fail
        refine (hspan.out _ hx2.ok).mono ?_
        rintro e w3 ⟨rfl, hB3⟩
        clear qx0 qx1 qx2 qx3 qx4 qx5
        have hx3 := hx2.call hB3
        have hs3 := hs2.below hB3
        clear hx2 hs2
        have hL3 := hL2.call hB3
        clear hL2
        have hR3 := hR2.call hB3
        clear hR2
        have gR := hR3.lt
        have qx0 := hx3.c0
        have qx1 := hx3.c1
        have qx2 := hx3.c2
        have qx3 := hx3.c3
        have qx4 := hx3.c4
        have qx5 := hx3.c5
        go_wp2_with fail
        refine (hsp1.out _ hx3.ok hs3).mono ?_
        rintro e w4 ⟨y, rfl, hyq, hyo, hB4, hN9, hM9⟩
        clear qx0 qx1 qx2 qx3 qx4 qx5
        have hx4 := hx3.call hB4
        have hs4 := hs3.below hB4
        clear hx3 hs3
        have hL4 := hL3.call hB4
        clear hL3
        have hR4 := hR3.call hB4
        clear hR3
        have hd4 := DBk.made w w4 38 y hx4.later hyo _ rfl
        have hln := Lib.hid hyo.lens
        go_upto_region 5 with fail
        have hx_v9 := hx4.alloc (.cells #[.bool y.b, .slice y.A y.n y.c, .bool y.p, .slice y.E y.m y.q] 38)
        clear hx4
        have hL_v9 := hL4.alloc (.cells #[.bool y.b, .slice y.A y.n y.c, .bool y.p, .slice y.E y.m y.q] 38)
        clear hL4
        have hR_v9 := hR4.alloc (.cells #[.bool y.b, .slice y.A y.n y.c, .bool y.p, .slice y.E y.m y.q] 38)
        clear hR4
        have hs_v9 := hs4.alloc (.cells #[.bool y.b, .slice y.A y.n y.c, .bool y.p, .slice y.E y.m y.q] 38)
        clear hs4
        generalize hgw : World.alloc w4 _ = v9 at *
        clear hgw
        have hfit1 := Lib.hid (hfit.out y)
        rw [hyq.out, hfq] at hfit1
        have qd0 := hd4.c0
        have qd1 := hd4.c1
        have qd2 := hd4.c2
        have qd3 := hd4.c3
        obtain ⟨⟨L0, L1, L2⟩, ⟨Lf0, Lf1, Lf2⟩⟩ := hL_v9.cells3
        go_wp2_with fail
        refine (hfit1.out _ hd4.ok).mono ?_
        rintro e w5 ⟨rfl, hB5⟩
        clear qd0 qd1 qd2 qd3 L0 L1 L2 Lf0 Lf1 Lf2
        have hx5 := hx_v9.call hB5
        have hd5 := hd4.call hB5
        have hs5 := hs_v9.below hB5
        clear hx_v9 hd4 hs_v9
        have hL5 := hL_v9.call hB5
        clear hL_v9
        have hR5 := hR_v9.call hB5
        clear hR_v9
        obtain ⟨⟨R0, R1, R2, R3, R4, R5⟩, ⟨Rf0, Rf1, Rf2, Rf3, Rf4, Rf5⟩⟩ := hR5.cells6
        go_wp2_with fail
        rw [HD.out]
        obtain ⟨⟨u0, u1, u2, u3, u4, u5⟩, _⟩ := (hR5.store6 (.bool false) (.slice none 0 0) (.bool false) (.slice none 0 0) (.int .i64 0) (.int .i64 0)).cells6
        refine bodyPost_ret (v := .tuple #[.agg #[.bool false, .slice none 0 0, .bool false, .slice none 0 0, .int .i64 0, .int .i64 0], .int .i64 4]) (by generalize World.setCell (World.setCell (World.setCell (World.setCell (World.setCell (World.setCell _ _ _) _ _) _ _) _ _) _ _) _ _ = W6 at u0 u1 u2 u3 u4 u5 ⊢; simp [results, Try.results40, go_sem, u0, u1, u2, u3, u4, u5]) rfl ?_
        exact ⟨⟨⟨false, none, 0, 0, [], false, none, 0, 0, []⟩, 0, 0⟩, rfl, rfl, ⟨IL.nil _, IL.nil _⟩, below_set6 hR5.later (by omega) _ _ _ _ _ _, none_newer _, none_newer _⟩
      case true =>
        have HD : Hid (D = (⟨Q, fr + s.length, fr + s.length⟩, 0)) := by rw [Hid, hIN.out, if_pos rfl, if_pos rfl, hfq]; rfl
        clear hIN
        go_enter Try.func40, Try.ntmps40
        go_upto_region 1 with fail
        generalize World.alloc (World.alloc (World.alloc w _) _) _ = w1 at *
        have qx0 := hx0.c0
        have qx1 := hx0.c1
        have qx2 := hx0.c2
        have qx3 := hx0.c3
        have qx4 := hx0.c4
        have qx5 := hx0.c5
        go_wp2_with fail
        refine (hm.out _ hx0.ok).mono ?_
        rintro e w2 ⟨rfl, hB2⟩
        clear qx0 qx1 qx2 qx3 qx4 qx5
        have hx2 := hx0.call hB2
        have hs2 := hs0.below hB2
        clear hx0 hs0
        have hL2 := hl0.call hB2
        clear hl0
        have hR2 := hR0.call hB2
        clear hR0
        have qx0 := hx2.c0
        have qx1 := hx2.c1
        have qx2 := hx2.c2
        have qx3 := hx2.c3
        have qx4 := hx2.c4
        have qx5 := hx2.c5
        go_wp2_with fail
        refine (hspan.out _ hx2.ok).mono ?_
        rintro e w3 ⟨rfl, hB3⟩
        clear qx0 qx1 qx2 qx3 qx4 qx5
        have hx3 := hx2.call hB3
        have hs3 := hs2.below hB3
        clear hx2 hs2
        have hL3 := hL2.call hB3
        clear hL2
        have hR3 := hR2.call hB3
        clear hR2
        have gR := hR3.lt
        have qx0 := hx3.c0
        have qx1 := hx3.c1
        have qx2 := hx3.c2
        have qx3 := hx3.c3
        have qx4 := hx3.c4
        have qx5 := hx3.c5
        go_wp2_with fail
        refine (hsp1.out _ hx3.ok hs3).mono ?_
        rintro e w4 ⟨y, rfl, hyq, hyo, hB4, hN9, hM9⟩
        clear qx0 qx1 qx2 qx3 qx4 qx5
        have hx4 := hx3.call hB4
        have hs4 := hs3.below hB4
        clear hx3 hs3
        have hL4 := hL3.call hB4
        clear hL3
        have hR4 := hR3.call hB4
        clear hR3
        have hd4 := DBk.made w w4 38 y hx4.later hyo _ rfl
        have hln := Lib.hid hyo.lens
        go_upto_region 5 with fail
        have hx_v9 := hx4.alloc (.cells #[.bool y.b, .slice y.A y.n y.c, .bool y.p, .slice y.E y.m y.q] 38)
        clear hx4
        have hL_v9 := hL4.alloc (.cells #[.bool y.b, .slice y.A y.n y.c, .bool y.p, .slice y.E y.m y.q] 38)
        clear hL4
        have hR_v9 := hR4.alloc (.cells #[.bool y.b, .slice y.A y.n y.c, .bool y.p, .slice y.E y.m y.q] 38)
        clear hR4
        have hs_v9 := hs4.alloc (.cells #[.bool y.b, .slice y.A y.n y.c, .bool y.p, .slice y.E y.m y.q] 38)
        clear hs4
        generalize hgw : World.alloc w4 _ = v9 at *
        clear hgw
        have hwr : IntKind.i64.wrap (fr + (ns : Int)) = fr + (ns : Int) := IntWalk.i64_in _ (by omega)
        have hfit1 := Lib.hid (hfit.out y)
        rw [hyq.out, hfq] at hfit1
        have qd0 := hd4.c0
        have qd1 := hd4.c1
        have qd2 := hd4.c2
        have qd3 := hd4.c3
        obtain ⟨⟨L0, L1, L2⟩, ⟨Lf0, Lf1, Lf2⟩⟩ := hL_v9.cells3
        go_wp2_with fail
        refine (hfit1.out _ hd4.ok).mono ?_
        rintro e w5 ⟨rfl, hB5⟩
        clear qd0 qd1 qd2 qd3 L0 L1 L2 Lf0 Lf1 Lf2
        have hx5 := hx_v9.call hB5
        have hd5 := hd4.call hB5
        have hs5 := hs_v9.below hB5
        clear hx_v9 hd4 hs_v9
        have hL5 := hL_v9.call hB5
        clear hL_v9
        have hR5 := hR_v9.call hB5
        clear hR_v9
        have hOK := hd5.ok
        have qd0 := hd5.c0
        have qd1 := hd5.c1
        have qd2 := hd5.c2
        have qd3 := hd5.c3
        obtain ⟨⟨R0, R1, R2, R3, R4, R5⟩, ⟨Rf0, Rf1, Rf2, Rf3, Rf4, Rf5⟩⟩ := hR5.cells6
        go_wp2_with fail
        rw [HD.out, hsl.out]
        obtain ⟨⟨u0, u1, u2, u3, u4, u5⟩, _⟩ := (hR5.store6 (.bool y.b) (.slice y.A y.n y.c) (.bool y.p) (.slice y.E y.m y.q) (.int .i64 (fr + (ns : Int))) (.int .i64 (fr + (ns : Int)))).cells6
        refine bodyPost_ret (v := .tuple #[.agg #[.bool y.b, .slice y.A y.n y.c, .bool y.p, .slice y.E y.m y.q, .int .i64 (fr + (ns : Int)), .int .i64 (fr + (ns : Int))], .int .i64 0]) (by generalize World.setCell (World.setCell (World.setCell (World.setCell (World.setCell (World.setCell _ _ _) _ _) _ _) _ _) _ _) _ _ = W6 at u0 u1 u2 u3 u4 u5 ⊢; simp [results, Try.results40, go_sem, u0, u1, u2, u3, u4, u5]) rfl ?_
        refine ⟨⟨y, fr + (ns : Int), fr + (ns : Int)⟩, rfl, ?_, ?_, ?_, ?_, ?_⟩
        · rw [Hid]; unfold SV.s; rw [hyq.out]
        · exact hOK.set6 (fun hz a ha => by have := hN9 hz a ha; omega) (fun hz a ha => by have := hM9 hz a ha; omega) _ _ _ _ _ _
        · exact below_set6 hR5.later (by omega) _ _ _ _ _ _
        · exact fun hz a ha => by have := hN9 hz a ha; omega
        · exact fun hz a ha => by have := hM9 hz a ha; omega

end Go.Proofs.Ytppkifdngjcbeaa
