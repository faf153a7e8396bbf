/- The walk of Put. No condition. -/
import Derived.Test.YtppkifdngjcbeaaEd4
import Derived.Test.YtppkifdngjcbeaaEd1b
namespace Go.Proofs.Ytppkifdngjcbeaa
open Go.RowKit

set_option maxRecDepth 100000 in
set_option maxHeartbeats 8000000 in
theorem eput_any (x : SV) (li lf : Int) (sg cn : Bool) {S : Option Addr} {ns cs : Nat} {s : List Int} (w : World) (h : x.v.ok w) (hf : x.v.fit) (ic : I6 x.c) (ia : I6 x.a) (hl : I6 li ∧ I6 lf) (hs : IL w S ns cs s) (hsI : I64 s) (hns : ns ≤ 10000) :
    Calls Try.prog 42 #[.agg #[.bool x.v.b, .slice x.v.A x.v.n x.v.c, .bool x.v.p, .slice x.v.E x.v.m x.v.q, .int .i64 x.c, .int .i64 x.a], .agg #[.int .i64 li, .int .i64 lf, .bool sg], .agg #[.bool cn, .slice S ns cs]] w (RSF w (putS x.s li lf sg cn s).1 (putS x.s li lf sg cn s).2) := by
  have hins := Lib.hid (fun W (hW : x.v.ok W) (hS : IL W S ns cs s) => einsert_any x li lf sg W hW hf ic ia hl hS hsI hns)
  have hput : Hid (putS x.s li lf sg cn s = if (insS x.s li lf s).2 = 0 then (if cn && (!sg || decide (0 < frontS x.s)) then (St.zero, 5) else (⟨negD (insS x.s li lf s).1.d (cn || (x.v.b && !wholeS x.s)), (insS x.s li lf s).1.c, (insS x.s li lf s).1.a⟩, 0)) else (St.zero, (insS x.s li lf s).2)) := rfl
  have hwh : Hid (wholeS x.s = (decide (0 < lenR x.v.d) && (frontS x.s == 0) && (backS x.s == lenR x.v.d))) := rfl
  have him := Lib.hid (fun hh => ins_may (s := x.s) (x := li) (y := lf) (l := s) hh)
  have hin := Lib.hid (fun hh => ins_neg (s := x.s) (x := li) (y := lf) (l := s) hh)
  have hspan := Lib.hid (fun (hmm : mayS x.s = true) W (hW : x.v.ok W) => show Calls Try.prog 39 #[.agg #[.bool x.v.b, .slice x.v.A x.v.n x.v.c, .bool x.v.p, .slice x.v.E x.v.m x.v.q, .int .i64 x.c, .int .i64 x.a]] W fun e w' => e = .returned (.tuple #[.int .i64 (frontS x.s), .int .i64 (backS x.s)]) ∧ Below W.heap.size W w' by
    have := espan_any x W hW hf
    rw [hmm] at this
    exact this)
  have hlen := Lib.hid (fun W (hW : x.v.ok W) => show Calls Try.prog 27 #[.agg #[.bool x.v.b, .slice x.v.A x.v.n x.v.c, .bool x.v.p, .slice x.v.E x.v.m x.v.q]] W (RV W (.int .i64 (lenR x.v.d))) from len_any x.v.b x.v.p W hW.1 hW.2 (by have := hf.2.2.1; omega) (by have := hf.2.2.2; omega))
  have hx0 := ((((SB.made w w 61 x (Later.refl w) h (w.heap.size) (by simp)).alloc (.cells #[.int .i64 li, .int .i64 lf, .bool sg] 65)).alloc (.cells #[.bool cn, .slice S ns cs] 79)).alloc (.cells #[.bool false, .slice none 0 0, .bool false, .slice none 0 0, .int .i64 0, .int .i64 0] 61))
  have hL0 := (((Blk.made w (w.alloc (.cells #[.bool x.v.b, .slice x.v.A x.v.n x.v.c, .bool x.v.p, .slice x.v.E x.v.m x.v.q, .int .i64 x.c, .int .i64 x.a] 61)) 65 #[.int .i64 li, .int .i64 lf, .bool sg] ((Later.refl w).alloc _) (w.heap.size + 1) (by simp)).alloc (.cells #[.bool cn, .slice S ns cs] 79)).alloc (.cells #[.bool false, .slice none 0 0, .bool false, .slice none 0 0, .int .i64 0, .int .i64 0] 61))
  have hC0 := ((Blk.made w ((w.alloc (.cells #[.bool x.v.b, .slice x.v.A x.v.n x.v.c, .bool x.v.p, .slice x.v.E x.v.m x.v.q, .int .i64 x.c, .int .i64 x.a] 61)).alloc (.cells #[.int .i64 li, .int .i64 lf, .bool sg] 65)) 79 #[.bool cn, .slice S ns cs] (((Later.refl w).alloc _).alloc _) (w.heap.size + 2) (by simp)).alloc (.cells #[.bool false, .slice none 0 0, .bool false, .slice none 0 0, .int .i64 0, .int .i64 0] 61))
  have hR0 := (Blk.made w (((w.alloc (.cells #[.bool x.v.b, .slice x.v.A x.v.n x.v.c, .bool x.v.p, .slice x.v.E x.v.m x.v.q, .int .i64 x.c, .int .i64 x.a] 61)).alloc (.cells #[.int .i64 li, .int .i64 lf, .bool sg] 65)).alloc (.cells #[.bool cn, .slice S ns cs] 79)) 61 #[.bool false, .slice none 0 0, .bool false, .slice none 0 0, .int .i64 0, .int .i64 0] ((((Later.refl w).alloc _).alloc _).alloc _) (w.heap.size + 3) (by simp))
  have hs0 := (((hs.alloc (.cells #[.bool x.v.b, .slice x.v.A x.v.n x.v.c, .bool x.v.p, .slice x.v.E x.v.m x.v.q, .int .i64 x.c, .int .i64 x.a] 61)).alloc (.cells #[.int .i64 li, .int .i64 lf, .bool sg] 65)).alloc (.cells #[.bool cn, .slice S ns cs] 79)).alloc (.cells #[.bool false, .slice none 0 0, .bool false, .slice none 0 0, .int .i64 0, .int .i64 0] 61)
  generalize putS x.s li lf sg cn s = D at *
  generalize insS x.s li lf s = I at *
  obtain ⟨I, qc⟩ := I
  generalize frontS x.s = fr at *
  generalize backS x.s = bk at *
  generalize wholeS x.s = wh at *
  generalize lenR x.v.d = nn at *
  go_enter Try.func42, Try.ntmps42
  go_upto_region 1 with fail
  generalize World.alloc (World.alloc (World.alloc (World.alloc w _) _) _) _ = w1 at *
  have gR := hR0.lt
  have gW := hx0.later.size
  have qx0 := hx0.c0
  have qx1 := hx0.c1
  have qx2 := hx0.c2
  have qx3 := hx0.c3
  have qx4 := hx0.c4
  have qx5 := hx0.c5
  obtain ⟨⟨L0, L1, L2⟩, ⟨Lf0, Lf1, Lf2⟩⟩ := hL0.cells3
  obtain ⟨⟨C0, C1⟩, ⟨Cf0, Cf1⟩⟩ := hC0.cells2
  go_wp2_with fail
  refine (hins.out _ hx0.ok hs0).mono ?_
  rintro e w2 ⟨y, rfl, hyS, hyo, hB2, hN9, hM9⟩
  clear qx0 qx1 qx2 qx3 qx4 qx5 L0 L1 L2 Lf0 Lf1 Lf2 C0 C1 Cf0 Cf1
  have hx2 := hx0.call hB2
  have hs2 := hs0.below hB2
  clear hx0 hs0
  have hL2 := hL0.call hB2
  clear hL0
  have hC2 := hC0.call hB2
  clear hC0
  have hR2 := hR0.call hB2
  clear hR0
  have hyOld := hyo.old
  have gR2 := hR2.lt
  have gL := hx2.later.size
  have ho2 := SB.made w w2 61 y hx2.later hyo _ rfl
  go_upto_region 2 with fail
  have hx_v2 := hx2.alloc (.cells #[.bool y.v.b, .slice y.v.A y.v.n y.v.c, .bool y.v.p, .slice y.v.E y.v.m y.v.q, .int .i64 y.c, .int .i64 y.a] 61)
  clear hx2
  have hL_v2 := hL2.alloc (.cells #[.bool y.v.b, .slice y.v.A y.v.n y.v.c, .bool y.v.p, .slice y.v.E y.v.m y.v.q, .int .i64 y.c, .int .i64 y.a] 61)
  clear hL2
  have hC_v2 := hC2.alloc (.cells #[.bool y.v.b, .slice y.v.A y.v.n y.v.c, .bool y.v.p, .slice y.v.E y.v.m y.v.q, .int .i64 y.c, .int .i64 y.a] 61)
  clear hC2
  have hR_v2 := hR2.alloc (.cells #[.bool y.v.b, .slice y.v.A y.v.n y.v.c, .bool y.v.p, .slice y.v.E y.v.m y.v.q, .int .i64 y.c, .int .i64 y.a] 61)
  clear hR2
  have hs_v2 := hs2.alloc (.cells #[.bool y.v.b, .slice y.v.A y.v.n y.v.c, .bool y.v.p, .slice y.v.E y.v.m y.v.q, .int .i64 y.c, .int .i64 y.a] 61)
  clear hs2
  generalize hgw : World.alloc w2 _ = v2 at *
  clear hgw
  by_cases hq : qc = 0
  case neg =>
    have HD : Hid (D = (St.zero, qc)) := by rw [Hid, hput.out, if_neg hq]
    have hq2 : (qc == (0 : Int)) = false := by simpa using hq
    have hq3 : (qc != (0 : Int)) = true := by simpa using hq
    obtain ⟨⟨R0, R1, R2, R3, R4, R5⟩, ⟨Rf0, Rf1, Rf2, Rf3, Rf4, Rf5⟩⟩ := hR_v2.cells6
    go_wp2_with fail
    rw [HD.out]
    obtain ⟨⟨u0, u1, u2, u3, u4, u5⟩, _⟩ := (hR_v2.store6 (.bool false) (.slice none 0 0) (.bool false) (.slice none 0 0) (.int .i64 0) (.int .i64 0)).cells6
    refine bodyPost_ret (v := .tuple #[.agg #[.bool false, .slice none 0 0, .bool false, .slice none 0 0, .int .i64 0, .int .i64 0], .int .i64 qc]) (by generalize World.setCell (World.setCell (World.setCell (World.setCell (World.setCell (World.setCell _ _ _) _ _) _ _) _ _) _ _) _ _ = W6 at u0 u1 u2 u3 u4 u5 ⊢; simp [results, Try.results42, go_sem, u0, u1, u2, u3, u4, u5]) rfl ?_
    exact ⟨⟨⟨false, none, 0, 0, [], false, none, 0, 0, []⟩, 0, 0⟩, rfl, rfl, ⟨IL.nil _, IL.nil _⟩, below_set6 hR_v2.later (by omega) _ _ _ _ _ _, none_newer _, none_newer _⟩
  case pos =>
    subst hq
    have hmay := him.out rfl
    have hneg := Lib.hid (hin.out rfl)
    have qx0 := hx_v2.c0
    have qx1 := hx_v2.c1
    have qx2 := hx_v2.c2
    have qx3 := hx_v2.c3
    have qx4 := hx_v2.c4
    have qx5 := hx_v2.c5
    go_wp2_with fail
    refine (hspan.out hmay _ hx_v2.ok).mono ?_
    rintro e w3 ⟨rfl, hB3⟩
    clear qx0 qx1 qx2 qx3 qx4 qx5
    have hx3 := hx_v2.call hB3
    have ho3 := ho2.call hB3
    have hs3 := hs_v2.below hB3
    clear hx_v2 ho2 hs_v2
    have hL3 := hL_v2.call hB3
    clear hL_v2
    have hC3 := hC_v2.call hB3
    clear hC_v2
    have hR3 := hR_v2.call hB3
    clear hR_v2
    clear hmay him hin hspan
    go_upto_region 5 with fail
    cases cn
    case false =>
      obtain ⟨⟨C0, C1⟩, ⟨Cf0, Cf1⟩⟩ := hC3.cells2
      obtain ⟨⟨L0, L1, L2⟩, ⟨Lf0, Lf1, Lf2⟩⟩ := hL3.cells3
      go_upto_region 7 with fail
      clear C0 C1 Cf0 Cf1 L0 L1 L2 Lf0 Lf1 Lf2
      have qx0 := hx3.c0
      have qx1 := hx3.c1
      have qx2 := hx3.c2
      have qx3 := hx3.c3
      have qx4 := hx3.c4
      have qx5 := hx3.c5
      go_wp2_with fail
      refine (hlen.out _ hx3.ok).mono ?_
      rintro e w4 ⟨rfl, hB4⟩
      clear qx0 qx1 qx2 qx3 qx4 qx5
      have hx4 := hx3.call hB4
      have ho4 := ho3.call hB4
      have hs4 := hs3.below hB4
      clear hx3 ho3 hs3
      have hL4 := hL3.call hB4
      clear hL3
      have hC4 := hC3.call hB4
      clear hC3
      have hR4 := hR3.call hB4
      clear hR3
      clear hyo
      by_cases g1 : 0 < nn
      case neg =>
        have g1b : decide (0 < nn) = false := by simpa using g1
        have hw2 : wh = false := by rw [hwh.out]; simp; omega
        have qx0 := hx4.c0
        have qx1 := hx4.c1
        have qx2 := hx4.c2
        have qx3 := hx4.c3
        have qx4 := hx4.c4
        have qx5 := hx4.c5
        clear qx0 qx1 qx2 qx3 qx4 qx5
        cases hxb : x.v.b
        ·
          have HD : Hid (D = (⟨negD I.d false, I.c, I.a⟩, 0)) := by rw [Hid, hput.out]; simp [hw2, hxb]
          have hyo2 := ho4.ok
          have ho_n0 := ho4.neg false (fun hz a ha => by have := hyOld.1 hz a ha; omega) (fun hz a ha => by have := hyOld.2 hz a ha; omega)
          have hR_n0 := hR4.far (p := ⟨w2.heap.size, 0, none⟩) (by simp only; omega) gL (.bool false)
          have hC_n0 := hC4.far (p := ⟨w2.heap.size, 0, none⟩) (by simp only; omega) gL (.bool false)
          obtain ⟨⟨o0, o1, o2, o3, o4, o5⟩, ⟨p0, p1, p2, p3, p4, p5⟩⟩ := ho4.1.cells6
          have qx0 := hx4.c0
          have qx1 := hx4.c1
          have qx2 := hx4.c2
          have qx3 := hx4.c3
          have qx4 := hx4.c4
          have qx5 := hx4.c5
          obtain ⟨⟨C0, C1⟩, ⟨Cf0, Cf1⟩⟩ := hC4.cells2
          rw [hxb] at qx0
          go_upto_region 10 with fail
          clear o0 o1 o2 o3 o4 o5 p0 p1 p2 p3 p4 p5 qx0 qx1 qx2 qx3 qx4 qx5 C0 C1 Cf0 Cf1
          clear ho4 hR4
          generalize hgs0 : World.setCell _ _ _ = v30 at *
          clear hgs0
          clear hC4
          have hOK := ho_n0.ok
          have qo0 := ho_n0.c0
          have qo1 := ho_n0.c1
          have qo2 := ho_n0.c2
          have qo3 := ho_n0.c3
          have qo4 := ho_n0.c4
          have qo5 := ho_n0.c5
          obtain ⟨⟨R0, R1, R2, R3, R4, R5⟩, ⟨Rf0, Rf1, Rf2, Rf3, Rf4, Rf5⟩⟩ := hR_n0.cells6
          go_wp2_with fail
          rw [HD.out]
          obtain ⟨⟨u0, u1, u2, u3, u4, u5⟩, _⟩ := (hR_n0.store6 (.bool (y.ng false).v.b) (.slice (y.ng false).v.A (y.ng false).v.n (y.ng false).v.c) (.bool (y.ng false).v.p) (.slice (y.ng false).v.E (y.ng false).v.m (y.ng false).v.q) (.int .i64 (y.ng false).c) (.int .i64 (y.ng false).a)).cells6
          refine bodyPost_ret (v := .tuple #[.agg #[.bool (y.ng false).v.b, .slice (y.ng false).v.A (y.ng false).v.n (y.ng false).v.c, .bool (y.ng false).v.p, .slice (y.ng false).v.E (y.ng false).v.m (y.ng false).v.q, .int .i64 (y.ng false).c, .int .i64 (y.ng false).a], .int .i64 0]) (by generalize World.setCell (World.setCell (World.setCell (World.setCell (World.setCell (World.setCell _ _ _) _ _) _ _) _ _) _ _) _ _ = W6 at u0 u1 u2 u3 u4 u5 ⊢; simp [results, Try.results42, go_sem, u0, u1, u2, u3, u4, u5]) rfl ?_
          refine ⟨(y.ng false), rfl, ?_, ?_, ?_, ?_, ?_⟩
          · rw [Hid]; show _ = (⟨negD I.d false, I.c, I.a⟩ : St); rw [← hyS.out]; rfl
          · exact hOK.set6 (fun hz a ha => by have := hN9 hz a ha; omega) (fun hz a ha => by have := hM9 hz a ha; omega) _ _ _ _ _ _
          · exact below_set6 hR_n0.later (by omega) _ _ _ _ _ _
          · exact fun hz a ha => by have := hN9 hz a ha; omega
          · exact fun hz a ha => by have := hM9 hz a ha; omega
        ·
          have HD : Hid (D = (⟨negD I.d true, I.c, I.a⟩, 0)) := by rw [Hid, hput.out]; simp [hw2, hxb]
          have hyo2 := ho4.ok
          have ho_n0 := ho4.neg true (fun hz a ha => by have := hyOld.1 hz a ha; omega) (fun hz a ha => by have := hyOld.2 hz a ha; omega)
          have hR_n0 := hR4.far (p := ⟨w2.heap.size, 0, none⟩) (by simp only; omega) gL (.bool true)
          have hC_n0 := hC4.far (p := ⟨w2.heap.size, 0, none⟩) (by simp only; omega) gL (.bool true)
          obtain ⟨⟨o0, o1, o2, o3, o4, o5⟩, ⟨p0, p1, p2, p3, p4, p5⟩⟩ := ho4.1.cells6
          have qx0 := hx4.c0
          have qx1 := hx4.c1
          have qx2 := hx4.c2
          have qx3 := hx4.c3
          have qx4 := hx4.c4
          have qx5 := hx4.c5
          obtain ⟨⟨C0, C1⟩, ⟨Cf0, Cf1⟩⟩ := hC4.cells2
          rw [hxb] at qx0
          go_upto_region 10 with fail
          clear o0 o1 o2 o3 o4 o5 p0 p1 p2 p3 p4 p5 qx0 qx1 qx2 qx3 qx4 qx5 C0 C1 Cf0 Cf1
          clear ho4 hR4
          generalize hgs0 : World.setCell _ _ _ = v30 at *
          clear hgs0
          clear hC4
          have hOK := ho_n0.ok
          have qo0 := ho_n0.c0
          have qo1 := ho_n0.c1
          have qo2 := ho_n0.c2
          have qo3 := ho_n0.c3
          have qo4 := ho_n0.c4
          have qo5 := ho_n0.c5
          obtain ⟨⟨R0, R1, R2, R3, R4, R5⟩, ⟨Rf0, Rf1, Rf2, Rf3, Rf4, Rf5⟩⟩ := hR_n0.cells6
          go_wp2_with fail
          rw [HD.out]
          obtain ⟨⟨u0, u1, u2, u3, u4, u5⟩, _⟩ := (hR_n0.store6 (.bool (y.ng true).v.b) (.slice (y.ng true).v.A (y.ng true).v.n (y.ng true).v.c) (.bool (y.ng true).v.p) (.slice (y.ng true).v.E (y.ng true).v.m (y.ng true).v.q) (.int .i64 (y.ng true).c) (.int .i64 (y.ng true).a)).cells6
          refine bodyPost_ret (v := .tuple #[.agg #[.bool (y.ng true).v.b, .slice (y.ng true).v.A (y.ng true).v.n (y.ng true).v.c, .bool (y.ng true).v.p, .slice (y.ng true).v.E (y.ng true).v.m (y.ng true).v.q, .int .i64 (y.ng true).c, .int .i64 (y.ng true).a], .int .i64 0]) (by generalize World.setCell (World.setCell (World.setCell (World.setCell (World.setCell (World.setCell _ _ _) _ _) _ _) _ _) _ _) _ _ = W6 at u0 u1 u2 u3 u4 u5 ⊢; simp [results, Try.results42, go_sem, u0, u1, u2, u3, u4, u5]) rfl ?_
          refine ⟨(y.ng true), rfl, ?_, ?_, ?_, ?_, ?_⟩
          · rw [Hid]; show _ = (⟨negD I.d true, I.c, I.a⟩ : St); rw [← hyS.out]; rfl
          · exact hOK.set6 (fun hz a ha => by have := hN9 hz a ha; omega) (fun hz a ha => by have := hM9 hz a ha; omega) _ _ _ _ _ _
          · exact below_set6 hR_n0.later (by omega) _ _ _ _ _ _
          · exact fun hz a ha => by have := hN9 hz a ha; omega
          · exact fun hz a ha => by have := hM9 hz a ha; omega
      case pos =>
        by_cases g2 : fr = 0
        case neg =>
          have g2b : (fr == (0 : Int)) = false := by simpa using g2
          have hw2 : wh = false := by rw [hwh.out]; simp; omega
          have qx0 := hx4.c0
          have qx1 := hx4.c1
          have qx2 := hx4.c2
          have qx3 := hx4.c3
          have qx4 := hx4.c4
          have qx5 := hx4.c5
          clear qx0 qx1 qx2 qx3 qx4 qx5
          cases hxb : x.v.b
          ·
            have HD : Hid (D = (⟨negD I.d false, I.c, I.a⟩, 0)) := by rw [Hid, hput.out]; simp [hw2, hxb]
            have hyo2 := ho4.ok
            have ho_n0 := ho4.neg false (fun hz a ha => by have := hyOld.1 hz a ha; omega) (fun hz a ha => by have := hyOld.2 hz a ha; omega)
            have hR_n0 := hR4.far (p := ⟨w2.heap.size, 0, none⟩) (by simp only; omega) gL (.bool false)
            have hC_n0 := hC4.far (p := ⟨w2.heap.size, 0, none⟩) (by simp only; omega) gL (.bool false)
            obtain ⟨⟨o0, o1, o2, o3, o4, o5⟩, ⟨p0, p1, p2, p3, p4, p5⟩⟩ := ho4.1.cells6
            have qx0 := hx4.c0
            have qx1 := hx4.c1
            have qx2 := hx4.c2
            have qx3 := hx4.c3
            have qx4 := hx4.c4
            have qx5 := hx4.c5
            obtain ⟨⟨C0, C1⟩, ⟨Cf0, Cf1⟩⟩ := hC4.cells2
            rw [hxb] at qx0
            go_upto_region 10 with fail
            clear o0 o1 o2 o3 o4 o5 p0 p1 p2 p3 p4 p5 qx0 qx1 qx2 qx3 qx4 qx5 C0 C1 Cf0 Cf1
            clear ho4 hR4
            generalize hgs0 : World.setCell _ _ _ = v30 at *
            clear hgs0
            clear hC4
            have hOK := ho_n0.ok
            have qo0 := ho_n0.c0
            have qo1 := ho_n0.c1
            have qo2 := ho_n0.c2
            have qo3 := ho_n0.c3
            have qo4 := ho_n0.c4
            have qo5 := ho_n0.c5
            obtain ⟨⟨R0, R1, R2, R3, R4, R5⟩, ⟨Rf0, Rf1, Rf2, Rf3, Rf4, Rf5⟩⟩ := hR_n0.cells6
            go_wp2_with fail
            rw [HD.out]
            obtain ⟨⟨u0, u1, u2, u3, u4, u5⟩, _⟩ := (hR_n0.store6 (.bool (y.ng false).v.b) (.slice (y.ng false).v.A (y.ng false).v.n (y.ng false).v.c) (.bool (y.ng false).v.p) (.slice (y.ng false).v.E (y.ng false).v.m (y.ng false).v.q) (.int .i64 (y.ng false).c) (.int .i64 (y.ng false).a)).cells6
            refine bodyPost_ret (v := .tuple #[.agg #[.bool (y.ng false).v.b, .slice (y.ng false).v.A (y.ng false).v.n (y.ng false).v.c, .bool (y.ng false).v.p, .slice (y.ng false).v.E (y.ng false).v.m (y.ng false).v.q, .int .i64 (y.ng false).c, .int .i64 (y.ng false).a], .int .i64 0]) (by generalize World.setCell (World.setCell (World.setCell (World.setCell (World.setCell (World.setCell _ _ _) _ _) _ _) _ _) _ _) _ _ = W6 at u0 u1 u2 u3 u4 u5 ⊢; simp [results, Try.results42, go_sem, u0, u1, u2, u3, u4, u5]) rfl ?_
            refine ⟨(y.ng false), rfl, ?_, ?_, ?_, ?_, ?_⟩
            · rw [Hid]; show _ = (⟨negD I.d false, I.c, I.a⟩ : St); rw [← hyS.out]; rfl
            · exact hOK.set6 (fun hz a ha => by have := hN9 hz a ha; omega) (fun hz a ha => by have := hM9 hz a ha; omega) _ _ _ _ _ _
            · exact below_set6 hR_n0.later (by omega) _ _ _ _ _ _
            · exact fun hz a ha => by have := hN9 hz a ha; omega
            · exact fun hz a ha => by have := hM9 hz a ha; omega
          ·
            have HD : Hid (D = (⟨negD I.d true, I.c, I.a⟩, 0)) := by rw [Hid, hput.out]; simp [hw2, hxb]
            have hyo2 := ho4.ok
            have ho_n0 := ho4.neg true (fun hz a ha => by have := hyOld.1 hz a ha; omega) (fun hz a ha => by have := hyOld.2 hz a ha; omega)
            have hR_n0 := hR4.far (p := ⟨w2.heap.size, 0, none⟩) (by simp only; omega) gL (.bool true)
            have hC_n0 := hC4.far (p := ⟨w2.heap.size, 0, none⟩) (by simp only; omega) gL (.bool true)
            obtain ⟨⟨o0, o1, o2, o3, o4, o5⟩, ⟨p0, p1, p2, p3, p4, p5⟩⟩ := ho4.1.cells6
            have qx0 := hx4.c0
            have qx1 := hx4.c1
            have qx2 := hx4.c2
            have qx3 := hx4.c3
            have qx4 := hx4.c4
            have qx5 := hx4.c5
            obtain ⟨⟨C0, C1⟩, ⟨Cf0, Cf1⟩⟩ := hC4.cells2
            rw [hxb] at qx0
            go_upto_region 10 with fail
            clear o0 o1 o2 o3 o4 o5 p0 p1 p2 p3 p4 p5 qx0 qx1 qx2 qx3 qx4 qx5 C0 C1 Cf0 Cf1
            clear ho4 hR4
            generalize hgs0 : World.setCell _ _ _ = v30 at *
            clear hgs0
            clear hC4
            have hOK := ho_n0.ok
            have qo0 := ho_n0.c0
            have qo1 := ho_n0.c1
            have qo2 := ho_n0.c2
            have qo3 := ho_n0.c3
            have qo4 := ho_n0.c4
            have qo5 := ho_n0.c5
            obtain ⟨⟨R0, R1, R2, R3, R4, R5⟩, ⟨Rf0, Rf1, Rf2, Rf3, Rf4, Rf5⟩⟩ := hR_n0.cells6
            go_wp2_with fail
            rw [HD.out]
            obtain ⟨⟨u0, u1, u2, u3, u4, u5⟩, _⟩ := (hR_n0.store6 (.bool (y.ng true).v.b) (.slice (y.ng true).v.A (y.ng true).v.n (y.ng true).v.c) (.bool (y.ng true).v.p) (.slice (y.ng true).v.E (y.ng true).v.m (y.ng true).v.q) (.int .i64 (y.ng true).c) (.int .i64 (y.ng true).a)).cells6
            refine bodyPost_ret (v := .tuple #[.agg #[.bool (y.ng true).v.b, .slice (y.ng true).v.A (y.ng true).v.n (y.ng true).v.c, .bool (y.ng true).v.p, .slice (y.ng true).v.E (y.ng true).v.m (y.ng true).v.q, .int .i64 (y.ng true).c, .int .i64 (y.ng true).a], .int .i64 0]) (by generalize World.setCell (World.setCell (World.setCell (World.setCell (World.setCell (World.setCell _ _ _) _ _) _ _) _ _) _ _) _ _ = W6 at u0 u1 u2 u3 u4 u5 ⊢; simp [results, Try.results42, go_sem, u0, u1, u2, u3, u4, u5]) rfl ?_
            refine ⟨(y.ng true), rfl, ?_, ?_, ?_, ?_, ?_⟩
            · rw [Hid]; show _ = (⟨negD I.d true, I.c, I.a⟩ : St); rw [← hyS.out]; rfl
            · exact hOK.set6 (fun hz a ha => by have := hN9 hz a ha; omega) (fun hz a ha => by have := hM9 hz a ha; omega) _ _ _ _ _ _
            · exact below_set6 hR_n0.later (by omega) _ _ _ _ _ _
            · exact fun hz a ha => by have := hN9 hz a ha; omega
            · exact fun hz a ha => by have := hM9 hz a ha; omega
        case pos =>
          by_cases g3 : bk = nn
          case neg =>
            have g2b : (fr == (0 : Int)) = true := by simpa using g2
            have g3b : (bk == nn) = false := by simpa using g3
            have hw2 : wh = false := by rw [hwh.out]; simp; omega
            have qx0 := hx4.c0
            have qx1 := hx4.c1
            have qx2 := hx4.c2
            have qx3 := hx4.c3
            have qx4 := hx4.c4
            have qx5 := hx4.c5
            clear qx0 qx1 qx2 qx3 qx4 qx5
            cases hxb : x.v.b
            ·
              have HD : Hid (D = (⟨negD I.d false, I.c, I.a⟩, 0)) := by rw [Hid, hput.out]; simp [hw2, hxb]
              have hyo2 := ho4.ok
              have ho_n0 := ho4.neg false (fun hz a ha => by have := hyOld.1 hz a ha; omega) (fun hz a ha => by have := hyOld.2 hz a ha; omega)
              have hR_n0 := hR4.far (p := ⟨w2.heap.size, 0, none⟩) (by simp only; omega) gL (.bool false)
              have hC_n0 := hC4.far (p := ⟨w2.heap.size, 0, none⟩) (by simp only; omega) gL (.bool false)
              obtain ⟨⟨o0, o1, o2, o3, o4, o5⟩, ⟨p0, p1, p2, p3, p4, p5⟩⟩ := ho4.1.cells6
              have qx0 := hx4.c0
              have qx1 := hx4.c1
              have qx2 := hx4.c2
              have qx3 := hx4.c3
              have qx4 := hx4.c4
              have qx5 := hx4.c5
              obtain ⟨⟨C0, C1⟩, ⟨Cf0, Cf1⟩⟩ := hC4.cells2
              rw [hxb] at qx0
              go_upto_region 10 with fail
              clear o0 o1 o2 o3 o4 o5 p0 p1 p2 p3 p4 p5 qx0 qx1 qx2 qx3 qx4 qx5 C0 C1 Cf0 Cf1
              clear ho4 hR4
              generalize hgs0 : World.setCell _ _ _ = v30 at *
              clear hgs0
              clear hC4
              have hOK := ho_n0.ok
              have qo0 := ho_n0.c0
              have qo1 := ho_n0.c1
              have qo2 := ho_n0.c2
              have qo3 := ho_n0.c3
              have qo4 := ho_n0.c4
              have qo5 := ho_n0.c5
              obtain ⟨⟨R0, R1, R2, R3, R4, R5⟩, ⟨Rf0, Rf1, Rf2, Rf3, Rf4, Rf5⟩⟩ := hR_n0.cells6
              go_wp2_with fail
              rw [HD.out]
              obtain ⟨⟨u0, u1, u2, u3, u4, u5⟩, _⟩ := (hR_n0.store6 (.bool (y.ng false).v.b) (.slice (y.ng false).v.A (y.ng false).v.n (y.ng false).v.c) (.bool (y.ng false).v.p) (.slice (y.ng false).v.E (y.ng false).v.m (y.ng false).v.q) (.int .i64 (y.ng false).c) (.int .i64 (y.ng false).a)).cells6
              refine bodyPost_ret (v := .tuple #[.agg #[.bool (y.ng false).v.b, .slice (y.ng false).v.A (y.ng false).v.n (y.ng false).v.c, .bool (y.ng false).v.p, .slice (y.ng false).v.E (y.ng false).v.m (y.ng false).v.q, .int .i64 (y.ng false).c, .int .i64 (y.ng false).a], .int .i64 0]) (by generalize World.setCell (World.setCell (World.setCell (World.setCell (World.setCell (World.setCell _ _ _) _ _) _ _) _ _) _ _) _ _ = W6 at u0 u1 u2 u3 u4 u5 ⊢; simp [results, Try.results42, go_sem, u0, u1, u2, u3, u4, u5]) rfl ?_
              refine ⟨(y.ng false), rfl, ?_, ?_, ?_, ?_, ?_⟩
              · rw [Hid]; show _ = (⟨negD I.d false, I.c, I.a⟩ : St); rw [← hyS.out]; rfl
              · exact hOK.set6 (fun hz a ha => by have := hN9 hz a ha; omega) (fun hz a ha => by have := hM9 hz a ha; omega) _ _ _ _ _ _
              · exact below_set6 hR_n0.later (by omega) _ _ _ _ _ _
              · exact fun hz a ha => by have := hN9 hz a ha; omega
              · exact fun hz a ha => by have := hM9 hz a ha; omega
            ·
              have HD : Hid (D = (⟨negD I.d true, I.c, I.a⟩, 0)) := by rw [Hid, hput.out]; simp [hw2, hxb]
              have hyo2 := ho4.ok
              have ho_n0 := ho4.neg true (fun hz a ha => by have := hyOld.1 hz a ha; omega) (fun hz a ha => by have := hyOld.2 hz a ha; omega)
              have hR_n0 := hR4.far (p := ⟨w2.heap.size, 0, none⟩) (by simp only; omega) gL (.bool true)
              have hC_n0 := hC4.far (p := ⟨w2.heap.size, 0, none⟩) (by simp only; omega) gL (.bool true)
              obtain ⟨⟨o0, o1, o2, o3, o4, o5⟩, ⟨p0, p1, p2, p3, p4, p5⟩⟩ := ho4.1.cells6
              have qx0 := hx4.c0
              have qx1 := hx4.c1
              have qx2 := hx4.c2
              have qx3 := hx4.c3
              have qx4 := hx4.c4
              have qx5 := hx4.c5
              obtain ⟨⟨C0, C1⟩, ⟨Cf0, Cf1⟩⟩ := hC4.cells2
              rw [hxb] at qx0
              go_upto_region 10 with fail
              clear o0 o1 o2 o3 o4 o5 p0 p1 p2 p3 p4 p5 qx0 qx1 qx2 qx3 qx4 qx5 C0 C1 Cf0 Cf1
              clear ho4 hR4
              generalize hgs0 : World.setCell _ _ _ = v30 at *
              clear hgs0
              clear hC4
              have hOK := ho_n0.ok
              have qo0 := ho_n0.c0
              have qo1 := ho_n0.c1
              have qo2 := ho_n0.c2
              have qo3 := ho_n0.c3
              have qo4 := ho_n0.c4
              have qo5 := ho_n0.c5
              obtain ⟨⟨R0, R1, R2, R3, R4, R5⟩, ⟨Rf0, Rf1, Rf2, Rf3, Rf4, Rf5⟩⟩ := hR_n0.cells6
              go_wp2_with fail
              rw [HD.out]
              obtain ⟨⟨u0, u1, u2, u3, u4, u5⟩, _⟩ := (hR_n0.store6 (.bool (y.ng true).v.b) (.slice (y.ng true).v.A (y.ng true).v.n (y.ng true).v.c) (.bool (y.ng true).v.p) (.slice (y.ng true).v.E (y.ng true).v.m (y.ng true).v.q) (.int .i64 (y.ng true).c) (.int .i64 (y.ng true).a)).cells6
              refine bodyPost_ret (v := .tuple #[.agg #[.bool (y.ng true).v.b, .slice (y.ng true).v.A (y.ng true).v.n (y.ng true).v.c, .bool (y.ng true).v.p, .slice (y.ng true).v.E (y.ng true).v.m (y.ng true).v.q, .int .i64 (y.ng true).c, .int .i64 (y.ng true).a], .int .i64 0]) (by generalize World.setCell (World.setCell (World.setCell (World.setCell (World.setCell (World.setCell _ _ _) _ _) _ _) _ _) _ _) _ _ = W6 at u0 u1 u2 u3 u4 u5 ⊢; simp [results, Try.results42, go_sem, u0, u1, u2, u3, u4, u5]) rfl ?_
              refine ⟨(y.ng true), rfl, ?_, ?_, ?_, ?_, ?_⟩
              · rw [Hid]; show _ = (⟨negD I.d true, I.c, I.a⟩ : St); rw [← hyS.out]; rfl
              · exact hOK.set6 (fun hz a ha => by have := hN9 hz a ha; omega) (fun hz a ha => by have := hM9 hz a ha; omega) _ _ _ _ _ _
              · exact below_set6 hR_n0.later (by omega) _ _ _ _ _ _
              · exact fun hz a ha => by have := hN9 hz a ha; omega
              · exact fun hz a ha => by have := hM9 hz a ha; omega
          case pos =>
            have g2b : (fr == (0 : Int)) = true := by simpa using g2
            have g3b : (bk == nn) = true := by simpa using g3
            have hw2 : wh = true := by rw [hwh.out]; simp; exact ⟨⟨by omega, g2⟩, g3⟩
            have qx0 := hx4.c0
            have qx1 := hx4.c1
            have qx2 := hx4.c2
            have qx3 := hx4.c3
            have qx4 := hx4.c4
            have qx5 := hx4.c5
            clear qx0 qx1 qx2 qx3 qx4 qx5
            cases hxb : x.v.b
            ·
              have HD : Hid (D = (⟨negD I.d false, I.c, I.a⟩, 0)) := by rw [Hid, hput.out]; simp [hw2, hxb]
              have hyo2 := ho4.ok
              have ho_n0 := ho4.neg false (fun hz a ha => by have := hyOld.1 hz a ha; omega) (fun hz a ha => by have := hyOld.2 hz a ha; omega)
              have hR_n0 := hR4.far (p := ⟨w2.heap.size, 0, none⟩) (by simp only; omega) gL (.bool false)
              have hC_n0 := hC4.far (p := ⟨w2.heap.size, 0, none⟩) (by simp only; omega) gL (.bool false)
              obtain ⟨⟨o0, o1, o2, o3, o4, o5⟩, ⟨p0, p1, p2, p3, p4, p5⟩⟩ := ho4.1.cells6
              have qx0 := hx4.c0
              have qx1 := hx4.c1
              have qx2 := hx4.c2
              have qx3 := hx4.c3
              have qx4 := hx4.c4
              have qx5 := hx4.c5
              obtain ⟨⟨C0, C1⟩, ⟨Cf0, Cf1⟩⟩ := hC4.cells2
              rw [hxb] at qx0
              go_upto_region 10 with fail
              clear o0 o1 o2 o3 o4 o5 p0 p1 p2 p3 p4 p5 qx0 qx1 qx2 qx3 qx4 qx5 C0 C1 Cf0 Cf1
              clear ho4 hR4
              generalize hgs0 : World.setCell _ _ _ = v30 at *
              clear hgs0
              clear hC4
              have hOK := ho_n0.ok
              have qo0 := ho_n0.c0
              have qo1 := ho_n0.c1
              have qo2 := ho_n0.c2
              have qo3 := ho_n0.c3
              have qo4 := ho_n0.c4
              have qo5 := ho_n0.c5
              obtain ⟨⟨R0, R1, R2, R3, R4, R5⟩, ⟨Rf0, Rf1, Rf2, Rf3, Rf4, Rf5⟩⟩ := hR_n0.cells6
              go_wp2_with fail
              rw [HD.out]
              obtain ⟨⟨u0, u1, u2, u3, u4, u5⟩, _⟩ := (hR_n0.store6 (.bool (y.ng false).v.b) (.slice (y.ng false).v.A (y.ng false).v.n (y.ng false).v.c) (.bool (y.ng false).v.p) (.slice (y.ng false).v.E (y.ng false).v.m (y.ng false).v.q) (.int .i64 (y.ng false).c) (.int .i64 (y.ng false).a)).cells6
              refine bodyPost_ret (v := .tuple #[.agg #[.bool (y.ng false).v.b, .slice (y.ng false).v.A (y.ng false).v.n (y.ng false).v.c, .bool (y.ng false).v.p, .slice (y.ng false).v.E (y.ng false).v.m (y.ng false).v.q, .int .i64 (y.ng false).c, .int .i64 (y.ng false).a], .int .i64 0]) (by generalize World.setCell (World.setCell (World.setCell (World.setCell (World.setCell (World.setCell _ _ _) _ _) _ _) _ _) _ _) _ _ = W6 at u0 u1 u2 u3 u4 u5 ⊢; simp [results, Try.results42, go_sem, u0, u1, u2, u3, u4, u5]) rfl ?_
              refine ⟨(y.ng false), rfl, ?_, ?_, ?_, ?_, ?_⟩
              · rw [Hid]; show _ = (⟨negD I.d false, I.c, I.a⟩ : St); rw [← hyS.out]; rfl
              · exact hOK.set6 (fun hz a ha => by have := hN9 hz a ha; omega) (fun hz a ha => by have := hM9 hz a ha; omega) _ _ _ _ _ _
              · exact below_set6 hR_n0.later (by omega) _ _ _ _ _ _
              · exact fun hz a ha => by have := hN9 hz a ha; omega
              · exact fun hz a ha => by have := hM9 hz a ha; omega
            ·
              have HD : Hid (D = (⟨negD I.d false, I.c, I.a⟩, 0)) := by rw [Hid, hput.out]; simp [hw2, hxb]
              have hyo2 := ho4.ok
              have ho_n0 := ho4.neg false (fun hz a ha => by have := hyOld.1 hz a ha; omega) (fun hz a ha => by have := hyOld.2 hz a ha; omega)
              have hR_n0 := hR4.far (p := ⟨w2.heap.size, 0, none⟩) (by simp only; omega) gL (.bool false)
              have hC_n0 := hC4.far (p := ⟨w2.heap.size, 0, none⟩) (by simp only; omega) gL (.bool false)
              obtain ⟨⟨o0, o1, o2, o3, o4, o5⟩, ⟨p0, p1, p2, p3, p4, p5⟩⟩ := ho4.1.cells6
              have qx0 := hx4.c0
              have qx1 := hx4.c1
              have qx2 := hx4.c2
              have qx3 := hx4.c3
              have qx4 := hx4.c4
              have qx5 := hx4.c5
              obtain ⟨⟨C0, C1⟩, ⟨Cf0, Cf1⟩⟩ := hC4.cells2
              rw [hxb] at qx0
              go_upto_region 10 with fail
              clear o0 o1 o2 o3 o4 o5 p0 p1 p2 p3 p4 p5 qx0 qx1 qx2 qx3 qx4 qx5 C0 C1 Cf0 Cf1
              clear ho4 hR4
              generalize hgs0 : World.setCell _ _ _ = v30 at *
              clear hgs0
              clear hC4
              have hOK := ho_n0.ok
              have qo0 := ho_n0.c0
              have qo1 := ho_n0.c1
              have qo2 := ho_n0.c2
              have qo3 := ho_n0.c3
              have qo4 := ho_n0.c4
              have qo5 := ho_n0.c5
              obtain ⟨⟨R0, R1, R2, R3, R4, R5⟩, ⟨Rf0, Rf1, Rf2, Rf3, Rf4, Rf5⟩⟩ := hR_n0.cells6
              go_wp2_with fail
              rw [HD.out]
              obtain ⟨⟨u0, u1, u2, u3, u4, u5⟩, _⟩ := (hR_n0.store6 (.bool (y.ng false).v.b) (.slice (y.ng false).v.A (y.ng false).v.n (y.ng false).v.c) (.bool (y.ng false).v.p) (.slice (y.ng false).v.E (y.ng false).v.m (y.ng false).v.q) (.int .i64 (y.ng false).c) (.int .i64 (y.ng false).a)).cells6
              refine bodyPost_ret (v := .tuple #[.agg #[.bool (y.ng false).v.b, .slice (y.ng false).v.A (y.ng false).v.n (y.ng false).v.c, .bool (y.ng false).v.p, .slice (y.ng false).v.E (y.ng false).v.m (y.ng false).v.q, .int .i64 (y.ng false).c, .int .i64 (y.ng false).a], .int .i64 0]) (by generalize World.setCell (World.setCell (World.setCell (World.setCell (World.setCell (World.setCell _ _ _) _ _) _ _) _ _) _ _) _ _ = W6 at u0 u1 u2 u3 u4 u5 ⊢; simp [results, Try.results42, go_sem, u0, u1, u2, u3, u4, u5]) rfl ?_
              refine ⟨(y.ng false), rfl, ?_, ?_, ?_, ?_, ?_⟩
              · rw [Hid]; show _ = (⟨negD I.d false, I.c, I.a⟩ : St); rw [← hyS.out]; rfl
              · exact hOK.set6 (fun hz a ha => by have := hN9 hz a ha; omega) (fun hz a ha => by have := hM9 hz a ha; omega) _ _ _ _ _ _
              · exact below_set6 hR_n0.later (by omega) _ _ _ _ _ _
              · exact fun hz a ha => by have := hN9 hz a ha; omega
              · exact fun hz a ha => by have := hM9 hz a ha; omega
    case true =>
      cases sg
      case false =>
        have HD : Hid (D = (St.zero, 5)) := by rw [Hid, hput.out]; simp
        obtain ⟨⟨C0, C1⟩, ⟨Cf0, Cf1⟩⟩ := hC3.cells2
        obtain ⟨⟨L0, L1, L2⟩, ⟨Lf0, Lf1, Lf2⟩⟩ := hL3.cells3
        obtain ⟨⟨R0, R1, R2, R3, R4, R5⟩, ⟨Rf0, Rf1, Rf2, Rf3, Rf4, Rf5⟩⟩ := hR3.cells6
        go_wp2_with fail
        rw [HD.out]
        obtain ⟨⟨u0, u1, u2, u3, u4, u5⟩, _⟩ := (hR3.store6 (.bool false) (.slice none 0 0) (.bool false) (.slice none 0 0) (.int .i64 0) (.int .i64 0)).cells6
        refine bodyPost_ret (v := .tuple #[.agg #[.bool false, .slice none 0 0, .bool false, .slice none 0 0, .int .i64 0, .int .i64 0], .int .i64 5]) (by generalize World.setCell (World.setCell (World.setCell (World.setCell (World.setCell (World.setCell _ _ _) _ _) _ _) _ _) _ _) _ _ = W6 at u0 u1 u2 u3 u4 u5 ⊢; simp [results, Try.results42, go_sem, u0, u1, u2, u3, u4, u5]) rfl ?_
        exact ⟨⟨⟨false, none, 0, 0, [], false, none, 0, 0, []⟩, 0, 0⟩, rfl, rfl, ⟨IL.nil _, IL.nil _⟩, below_set6 hR3.later (by omega) _ _ _ _ _ _, none_newer _, none_newer _⟩
      case true =>
        by_cases gf : 0 < fr
        case pos =>
          have HD : Hid (D = (St.zero, 5)) := by rw [Hid, hput.out]; simp [gf]
          obtain ⟨⟨C0, C1⟩, ⟨Cf0, Cf1⟩⟩ := hC3.cells2
          obtain ⟨⟨L0, L1, L2⟩, ⟨Lf0, Lf1, Lf2⟩⟩ := hL3.cells3
          obtain ⟨⟨R0, R1, R2, R3, R4, R5⟩, ⟨Rf0, Rf1, Rf2, Rf3, Rf4, Rf5⟩⟩ := hR3.cells6
          go_wp2_with fail
          rw [HD.out]
          obtain ⟨⟨u0, u1, u2, u3, u4, u5⟩, _⟩ := (hR3.store6 (.bool false) (.slice none 0 0) (.bool false) (.slice none 0 0) (.int .i64 0) (.int .i64 0)).cells6
          refine bodyPost_ret (v := .tuple #[.agg #[.bool false, .slice none 0 0, .bool false, .slice none 0 0, .int .i64 0, .int .i64 0], .int .i64 5]) (by generalize World.setCell (World.setCell (World.setCell (World.setCell (World.setCell (World.setCell _ _ _) _ _) _ _) _ _) _ _) _ _ = W6 at u0 u1 u2 u3 u4 u5 ⊢; simp [results, Try.results42, go_sem, u0, u1, u2, u3, u4, u5]) rfl ?_
          exact ⟨⟨⟨false, none, 0, 0, [], false, none, 0, 0, []⟩, 0, 0⟩, rfl, rfl, ⟨IL.nil _, IL.nil _⟩, below_set6 hR3.later (by omega) _ _ _ _ _ _, none_newer _, none_newer _⟩
        case neg =>
          have gfb : decide (0 < fr) = false := by simpa using gf
          obtain ⟨⟨C0, C1⟩, ⟨Cf0, Cf1⟩⟩ := hC3.cells2
          obtain ⟨⟨L0, L1, L2⟩, ⟨Lf0, Lf1, Lf2⟩⟩ := hL3.cells3
          go_upto_region 7 with fail
          clear C0 C1 Cf0 Cf1 L0 L1 L2 Lf0 Lf1 Lf2
          have qx0 := hx3.c0
          have qx1 := hx3.c1
          have qx2 := hx3.c2
          have qx3 := hx3.c3
          have qx4 := hx3.c4
          have qx5 := hx3.c5
          go_wp2_with fail
          refine (hlen.out _ hx3.ok).mono ?_
          rintro e w4 ⟨rfl, hB4⟩
          clear qx0 qx1 qx2 qx3 qx4 qx5
          have hx4 := hx3.call hB4
          have ho4 := ho3.call hB4
          have hs4 := hs3.below hB4
          clear hx3 ho3 hs3
          have hL4 := hL3.call hB4
          clear hL3
          have hC4 := hC3.call hB4
          clear hC3
          have hR4 := hR3.call hB4
          clear hR3
          clear hyo
          by_cases g1 : 0 < nn
          case neg =>
            have g1b : decide (0 < nn) = false := by simpa using g1
            have hw2 : wh = false := by rw [hwh.out]; simp; omega
            have qx0 := hx4.c0
            have qx1 := hx4.c1
            have qx2 := hx4.c2
            have qx3 := hx4.c3
            have qx4 := hx4.c4
            have qx5 := hx4.c5
            clear qx0 qx1 qx2 qx3 qx4 qx5
            have HD : Hid (D = (⟨negD I.d true, I.c, I.a⟩, 0)) := by rw [Hid, hput.out]; simp [gf, hw2]
            have hyo2 := ho4.ok
            have ho_n0 := ho4.neg true (fun hz a ha => by have := hyOld.1 hz a ha; omega) (fun hz a ha => by have := hyOld.2 hz a ha; omega)
            have hR_n0 := hR4.far (p := ⟨w2.heap.size, 0, none⟩) (by simp only; omega) gL (.bool true)
            have hC_n0 := hC4.far (p := ⟨w2.heap.size, 0, none⟩) (by simp only; omega) gL (.bool true)
            obtain ⟨⟨o0, o1, o2, o3, o4, o5⟩, ⟨p0, p1, p2, p3, p4, p5⟩⟩ := ho4.1.cells6
            have qx0 := hx4.c0
            have qx1 := hx4.c1
            have qx2 := hx4.c2
            have qx3 := hx4.c3
            have qx4 := hx4.c4
            have qx5 := hx4.c5
            obtain ⟨⟨C0, C1⟩, ⟨Cf0, Cf1⟩⟩ := hC4.cells2
            go_upto_region 10 with fail
            clear o0 o1 o2 o3 o4 o5 p0 p1 p2 p3 p4 p5 qx0 qx1 qx2 qx3 qx4 qx5 C0 C1 Cf0 Cf1
            clear ho4 hR4
            generalize hgs0 : World.setCell _ _ _ = v30 at *
            clear hgs0
            clear hC4
            have hOK := ho_n0.ok
            have qo0 := ho_n0.c0
            have qo1 := ho_n0.c1
            have qo2 := ho_n0.c2
            have qo3 := ho_n0.c3
            have qo4 := ho_n0.c4
            have qo5 := ho_n0.c5
            obtain ⟨⟨R0, R1, R2, R3, R4, R5⟩, ⟨Rf0, Rf1, Rf2, Rf3, Rf4, Rf5⟩⟩ := hR_n0.cells6
            go_wp2_with fail
            rw [HD.out]
            obtain ⟨⟨u0, u1, u2, u3, u4, u5⟩, _⟩ := (hR_n0.store6 (.bool (y.ng true).v.b) (.slice (y.ng true).v.A (y.ng true).v.n (y.ng true).v.c) (.bool (y.ng true).v.p) (.slice (y.ng true).v.E (y.ng true).v.m (y.ng true).v.q) (.int .i64 (y.ng true).c) (.int .i64 (y.ng true).a)).cells6
            refine bodyPost_ret (v := .tuple #[.agg #[.bool (y.ng true).v.b, .slice (y.ng true).v.A (y.ng true).v.n (y.ng true).v.c, .bool (y.ng true).v.p, .slice (y.ng true).v.E (y.ng true).v.m (y.ng true).v.q, .int .i64 (y.ng true).c, .int .i64 (y.ng true).a], .int .i64 0]) (by generalize World.setCell (World.setCell (World.setCell (World.setCell (World.setCell (World.setCell _ _ _) _ _) _ _) _ _) _ _) _ _ = W6 at u0 u1 u2 u3 u4 u5 ⊢; simp [results, Try.results42, go_sem, u0, u1, u2, u3, u4, u5]) rfl ?_
            refine ⟨(y.ng true), rfl, ?_, ?_, ?_, ?_, ?_⟩
            · rw [Hid]; show _ = (⟨negD I.d true, I.c, I.a⟩ : St); rw [← hyS.out]; rfl
            · exact hOK.set6 (fun hz a ha => by have := hN9 hz a ha; omega) (fun hz a ha => by have := hM9 hz a ha; omega) _ _ _ _ _ _
            · exact below_set6 hR_n0.later (by omega) _ _ _ _ _ _
            · exact fun hz a ha => by have := hN9 hz a ha; omega
            · exact fun hz a ha => by have := hM9 hz a ha; omega
          case pos =>
            by_cases g2 : fr = 0
            case neg =>
              have g2b : (fr == (0 : Int)) = false := by simpa using g2
              have hw2 : wh = false := by rw [hwh.out]; simp; omega
              have qx0 := hx4.c0
              have qx1 := hx4.c1
              have qx2 := hx4.c2
              have qx3 := hx4.c3
              have qx4 := hx4.c4
              have qx5 := hx4.c5
              clear qx0 qx1 qx2 qx3 qx4 qx5
              have HD : Hid (D = (⟨negD I.d true, I.c, I.a⟩, 0)) := by rw [Hid, hput.out]; simp [gf, hw2]
              have hyo2 := ho4.ok
              have ho_n0 := ho4.neg true (fun hz a ha => by have := hyOld.1 hz a ha; omega) (fun hz a ha => by have := hyOld.2 hz a ha; omega)
              have hR_n0 := hR4.far (p := ⟨w2.heap.size, 0, none⟩) (by simp only; omega) gL (.bool true)
              have hC_n0 := hC4.far (p := ⟨w2.heap.size, 0, none⟩) (by simp only; omega) gL (.bool true)
              obtain ⟨⟨o0, o1, o2, o3, o4, o5⟩, ⟨p0, p1, p2, p3, p4, p5⟩⟩ := ho4.1.cells6
              have qx0 := hx4.c0
              have qx1 := hx4.c1
              have qx2 := hx4.c2
              have qx3 := hx4.c3
              have qx4 := hx4.c4
              have qx5 := hx4.c5
              obtain ⟨⟨C0, C1⟩, ⟨Cf0, Cf1⟩⟩ := hC4.cells2
              go_upto_region 10 with fail
              clear o0 o1 o2 o3 o4 o5 p0 p1 p2 p3 p4 p5 qx0 qx1 qx2 qx3 qx4 qx5 C0 C1 Cf0 Cf1
              clear ho4 hR4
              generalize hgs0 : World.setCell _ _ _ = v30 at *
              clear hgs0
              clear hC4
              have hOK := ho_n0.ok
              have qo0 := ho_n0.c0
              have qo1 := ho_n0.c1
              have qo2 := ho_n0.c2
              have qo3 := ho_n0.c3
              have qo4 := ho_n0.c4
              have qo5 := ho_n0.c5
              obtain ⟨⟨R0, R1, R2, R3, R4, R5⟩, ⟨Rf0, Rf1, Rf2, Rf3, Rf4, Rf5⟩⟩ := hR_n0.cells6
              go_wp2_with fail
              rw [HD.out]
              obtain ⟨⟨u0, u1, u2, u3, u4, u5⟩, _⟩ := (hR_n0.store6 (.bool (y.ng true).v.b) (.slice (y.ng true).v.A (y.ng true).v.n (y.ng true).v.c) (.bool (y.ng true).v.p) (.slice (y.ng true).v.E (y.ng true).v.m (y.ng true).v.q) (.int .i64 (y.ng true).c) (.int .i64 (y.ng true).a)).cells6
              refine bodyPost_ret (v := .tuple #[.agg #[.bool (y.ng true).v.b, .slice (y.ng true).v.A (y.ng true).v.n (y.ng true).v.c, .bool (y.ng true).v.p, .slice (y.ng true).v.E (y.ng true).v.m (y.ng true).v.q, .int .i64 (y.ng true).c, .int .i64 (y.ng true).a], .int .i64 0]) (by generalize World.setCell (World.setCell (World.setCell (World.setCell (World.setCell (World.setCell _ _ _) _ _) _ _) _ _) _ _) _ _ = W6 at u0 u1 u2 u3 u4 u5 ⊢; simp [results, Try.results42, go_sem, u0, u1, u2, u3, u4, u5]) rfl ?_
              refine ⟨(y.ng true), rfl, ?_, ?_, ?_, ?_, ?_⟩
              · rw [Hid]; show _ = (⟨negD I.d true, I.c, I.a⟩ : St); rw [← hyS.out]; rfl
              · exact hOK.set6 (fun hz a ha => by have := hN9 hz a ha; omega) (fun hz a ha => by have := hM9 hz a ha; omega) _ _ _ _ _ _
              · exact below_set6 hR_n0.later (by omega) _ _ _ _ _ _
              · exact fun hz a ha => by have := hN9 hz a ha; omega
              · exact fun hz a ha => by have := hM9 hz a ha; omega
            case pos =>
              by_cases g3 : bk = nn
              case neg =>
                have g2b : (fr == (0 : Int)) = true := by simpa using g2
                have g3b : (bk == nn) = false := by simpa using g3
                have hw2 : wh = false := by rw [hwh.out]; simp; omega
                have qx0 := hx4.c0
                have qx1 := hx4.c1
                have qx2 := hx4.c2
                have qx3 := hx4.c3
                have qx4 := hx4.c4
                have qx5 := hx4.c5
                clear qx0 qx1 qx2 qx3 qx4 qx5
                have HD : Hid (D = (⟨negD I.d true, I.c, I.a⟩, 0)) := by rw [Hid, hput.out]; simp [gf, hw2]
                have hyo2 := ho4.ok
                have ho_n0 := ho4.neg true (fun hz a ha => by have := hyOld.1 hz a ha; omega) (fun hz a ha => by have := hyOld.2 hz a ha; omega)
                have hR_n0 := hR4.far (p := ⟨w2.heap.size, 0, none⟩) (by simp only; omega) gL (.bool true)
                have hC_n0 := hC4.far (p := ⟨w2.heap.size, 0, none⟩) (by simp only; omega) gL (.bool true)
                obtain ⟨⟨o0, o1, o2, o3, o4, o5⟩, ⟨p0, p1, p2, p3, p4, p5⟩⟩ := ho4.1.cells6
                have qx0 := hx4.c0
                have qx1 := hx4.c1
                have qx2 := hx4.c2
                have qx3 := hx4.c3
                have qx4 := hx4.c4
                have qx5 := hx4.c5
                obtain ⟨⟨C0, C1⟩, ⟨Cf0, Cf1⟩⟩ := hC4.cells2
                go_upto_region 10 with fail
                clear o0 o1 o2 o3 o4 o5 p0 p1 p2 p3 p4 p5 qx0 qx1 qx2 qx3 qx4 qx5 C0 C1 Cf0 Cf1
                clear ho4 hR4
                generalize hgs0 : World.setCell _ _ _ = v30 at *
                clear hgs0
                clear hC4
                have hOK := ho_n0.ok
                have qo0 := ho_n0.c0
                have qo1 := ho_n0.c1
                have qo2 := ho_n0.c2
                have qo3 := ho_n0.c3
                have qo4 := ho_n0.c4
                have qo5 := ho_n0.c5
                obtain ⟨⟨R0, R1, R2, R3, R4, R5⟩, ⟨Rf0, Rf1, Rf2, Rf3, Rf4, Rf5⟩⟩ := hR_n0.cells6
                go_wp2_with fail
                rw [HD.out]
                obtain ⟨⟨u0, u1, u2, u3, u4, u5⟩, _⟩ := (hR_n0.store6 (.bool (y.ng true).v.b) (.slice (y.ng true).v.A (y.ng true).v.n (y.ng true).v.c) (.bool (y.ng true).v.p) (.slice (y.ng true).v.E (y.ng true).v.m (y.ng true).v.q) (.int .i64 (y.ng true).c) (.int .i64 (y.ng true).a)).cells6
                refine bodyPost_ret (v := .tuple #[.agg #[.bool (y.ng true).v.b, .slice (y.ng true).v.A (y.ng true).v.n (y.ng true).v.c, .bool (y.ng true).v.p, .slice (y.ng true).v.E (y.ng true).v.m (y.ng true).v.q, .int .i64 (y.ng true).c, .int .i64 (y.ng true).a], .int .i64 0]) (by generalize World.setCell (World.setCell (World.setCell (World.setCell (World.setCell (World.setCell _ _ _) _ _) _ _) _ _) _ _) _ _ = W6 at u0 u1 u2 u3 u4 u5 ⊢; simp [results, Try.results42, go_sem, u0, u1, u2, u3, u4, u5]) rfl ?_
                refine ⟨(y.ng true), rfl, ?_, ?_, ?_, ?_, ?_⟩
                · rw [Hid]; show _ = (⟨negD I.d true, I.c, I.a⟩ : St); rw [← hyS.out]; rfl
                · exact hOK.set6 (fun hz a ha => by have := hN9 hz a ha; omega) (fun hz a ha => by have := hM9 hz a ha; omega) _ _ _ _ _ _
                · exact below_set6 hR_n0.later (by omega) _ _ _ _ _ _
                · exact fun hz a ha => by have := hN9 hz a ha; omega
                · exact fun hz a ha => by have := hM9 hz a ha; omega
              case pos =>
                have g2b : (fr == (0 : Int)) = true := by simpa using g2
                have g3b : (bk == nn) = true := by simpa using g3
                have hw2 : wh = true := by rw [hwh.out]; simp; exact ⟨⟨by omega, g2⟩, g3⟩
                have qx0 := hx4.c0
                have qx1 := hx4.c1
                have qx2 := hx4.c2
                have qx3 := hx4.c3
                have qx4 := hx4.c4
                have qx5 := hx4.c5
                clear qx0 qx1 qx2 qx3 qx4 qx5
                have HD : Hid (D = (⟨negD I.d true, I.c, I.a⟩, 0)) := by rw [Hid, hput.out]; simp [gf, hw2]
                have hyo2 := ho4.ok
                have ho_n0 := ho4.neg true (fun hz a ha => by have := hyOld.1 hz a ha; omega) (fun hz a ha => by have := hyOld.2 hz a ha; omega)
                have hR_n0 := hR4.far (p := ⟨w2.heap.size, 0, none⟩) (by simp only; omega) gL (.bool true)
                have hC_n0 := hC4.far (p := ⟨w2.heap.size, 0, none⟩) (by simp only; omega) gL (.bool true)
                obtain ⟨⟨o0, o1, o2, o3, o4, o5⟩, ⟨p0, p1, p2, p3, p4, p5⟩⟩ := ho4.1.cells6
                have qx0 := hx4.c0
                have qx1 := hx4.c1
                have qx2 := hx4.c2
                have qx3 := hx4.c3
                have qx4 := hx4.c4
                have qx5 := hx4.c5
                obtain ⟨⟨C0, C1⟩, ⟨Cf0, Cf1⟩⟩ := hC4.cells2
                go_upto_region 10 with fail
                clear o0 o1 o2 o3 o4 o5 p0 p1 p2 p3 p4 p5 qx0 qx1 qx2 qx3 qx4 qx5 C0 C1 Cf0 Cf1
                clear ho4 hR4
                generalize hgs0 : World.setCell _ _ _ = v30 at *
                clear hgs0
                clear hC4
                have hOK := ho_n0.ok
                have qo0 := ho_n0.c0
                have qo1 := ho_n0.c1
                have qo2 := ho_n0.c2
                have qo3 := ho_n0.c3
                have qo4 := ho_n0.c4
                have qo5 := ho_n0.c5
                obtain ⟨⟨R0, R1, R2, R3, R4, R5⟩, ⟨Rf0, Rf1, Rf2, Rf3, Rf4, Rf5⟩⟩ := hR_n0.cells6
                go_wp2_with fail
                rw [HD.out]
                obtain ⟨⟨u0, u1, u2, u3, u4, u5⟩, _⟩ := (hR_n0.store6 (.bool (y.ng true).v.b) (.slice (y.ng true).v.A (y.ng true).v.n (y.ng true).v.c) (.bool (y.ng true).v.p) (.slice (y.ng true).v.E (y.ng true).v.m (y.ng true).v.q) (.int .i64 (y.ng true).c) (.int .i64 (y.ng true).a)).cells6
                refine bodyPost_ret (v := .tuple #[.agg #[.bool (y.ng true).v.b, .slice (y.ng true).v.A (y.ng true).v.n (y.ng true).v.c, .bool (y.ng true).v.p, .slice (y.ng true).v.E (y.ng true).v.m (y.ng true).v.q, .int .i64 (y.ng true).c, .int .i64 (y.ng true).a], .int .i64 0]) (by generalize World.setCell (World.setCell (World.setCell (World.setCell (World.setCell (World.setCell _ _ _) _ _) _ _) _ _) _ _) _ _ = W6 at u0 u1 u2 u3 u4 u5 ⊢; simp [results, Try.results42, go_sem, u0, u1, u2, u3, u4, u5]) rfl ?_
                refine ⟨(y.ng true), rfl, ?_, ?_, ?_, ?_, ?_⟩
                · rw [Hid]; show _ = (⟨negD I.d true, I.c, I.a⟩ : St); rw [← hyS.out]; rfl
                · exact hOK.set6 (fun hz a ha => by have := hN9 hz a ha; omega) (fun hz a ha => by have := hM9 hz a ha; omega) _ _ _ _ _ _
                · exact below_set6 hR_n0.later (by omega) _ _ _ _ _ _
                · exact fun hz a ha => by have := hN9 hz a ha; omega
                · exact fun hz a ha => by have := hM9 hz a ha; omega

end Go.Proofs.Ytppkifdngjcbeaa
