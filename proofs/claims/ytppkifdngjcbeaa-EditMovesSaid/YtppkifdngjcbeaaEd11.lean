/- The walk of the document's Move. No condition. -/
import Derived.Test.YtppkifdngjcbeaaEd8
import Derived.Test.YtppkifdngjcbeaaEd10
namespace Go.Proofs.Ytppkifdngjcbeaa
open Go.RowKit
set_option linter.unusedSimpArgs false

set_option maxRecDepth 100000 in
set_option maxHeartbeats 8000000 in
theorem rsmove_any (x : SV) (what : Int) (keep : Bool) (w : World) (h : x.v.ok w) (hf : x.v.fit) (B : Nat) (hOld : x.olds B) (hBw : B ≤ w.heap.size) :
    Calls Try.prog 45 #[.agg #[.bool x.v.b, .slice x.v.A x.v.n x.v.c, .bool x.v.p, .slice x.v.E x.v.m x.v.q, .int .i64 x.c, .int .i64 x.a], .int .i64 what, .bool keep] w (RSE B w (moveS x.s what keep).1 (moveS x.s what keep).2) := by
  have hm := Lib.hid (fun W (hW : x.v.ok W) => rsmay_any x W hW hf)
  have hIN : Hid (moveS x.s what keep = if mayS x.s && decide (0 ≤ what) && decide (what ≤ 5) then (⟨x.v.d, moveT x.s what keep, if keep then x.a else moveT x.s what keep⟩, 0) else (St.zero, 1)) := rfl
  have hMT : Hid (moveT x.s what keep = if keep || (frontS x.s == backS x.s) then toS x.v.d x.c what else if what = 0 then frontS x.s else if what = 1 then backS x.s else toS x.v.d x.c what) := rfl
  have hfr : Hid (frontS x.s = if x.a < x.c then x.a else x.c) := rfl
  have hbk : Hid (backS x.s = if x.c < x.a then x.a else x.c) := rfl
  have hx0 := ((SB.made w w 53 x (Later.refl w) h (w.heap.size) (by simp)).alloc (.cells #[.bool false, .slice none 0 0, .bool false, .slice none 0 0, .int .i64 0, .int .i64 0] 53))
  have hR0 := (Blk.made w (w.alloc (.cells #[.bool x.v.b, .slice x.v.A x.v.n x.v.c, .bool x.v.p, .slice x.v.E x.v.m x.v.q, .int .i64 x.c, .int .i64 x.a] 53)) 53 #[.bool false, .slice none 0 0, .bool false, .slice none 0 0, .int .i64 0, .int .i64 0] ((Later.refl w).alloc _) (w.heap.size + 1) (by simp))
  generalize moveS x.s what keep = D at *
  cases hmm : mayS x.s
  · rw [hmm] at hm hIN
    have HD : Hid (D = (St.zero, 1)) := by rw [Hid, hIN.out]; rfl
    clear hmm hIN
    go_enter Try.func45, Try.ntmps45
    go_upto_region 1 with fail
    generalize World.alloc (World.alloc w _) _ = w1 at *
    have qx0 := hx0.c0
    have qx1 := hx0.c1
    have qx2 := hx0.c2
    have qx3 := hx0.c3
    have qx4 := hx0.c4
    have qx5 := hx0.c5
    go_wp2_with fail
    refine (hm.out _ hx0.ok).mono ?_
    rintro e w2 ⟨rfl, hB2⟩
    clear qx0 qx1 qx2 qx3 qx4 qx5
    have hx2 := hx0.call hB2
    clear hx0
    have hR2 := hR0.call hB2
    clear hR0
    obtain ⟨⟨R0, R1, R2, R3, R4, R5⟩, ⟨Rf0, Rf1, Rf2, Rf3, Rf4, Rf5⟩⟩ := hR2.cells6
    go_wp2_with fail
    rw [HD.out]
    obtain ⟨⟨u0, u1, u2, u3, u4, u5⟩, _⟩ := (hR2.store6 (.bool false) (.slice none 0 0) (.bool false) (.slice none 0 0) (.int .i64 0) (.int .i64 0)).cells6
    refine bodyPost_ret (v := .tuple #[.agg #[.bool false, .slice none 0 0, .bool false, .slice none 0 0, .int .i64 0, .int .i64 0], .int .i64 1]) (by generalize World.setCell (World.setCell (World.setCell (World.setCell (World.setCell (World.setCell _ _ _) _ _) _ _) _ _) _ _) _ _ = W6 at u0 u1 u2 u3 u4 u5 ⊢; simp [results, Try.results45, go_sem, u0, u1, u2, u3, u4, u5]) rfl ?_
    exact ⟨⟨⟨false, none, 0, 0, [], false, none, 0, 0, []⟩, 0, 0⟩, rfl, rfl, ⟨IL.nil _, IL.nil _⟩, below_set6 hR2.later (by omega) _ _ _ _ _ _, none_old _, none_old _⟩
  · rw [hmm] at hm hIN
    by_cases hk0 : 0 ≤ what
    case neg =>
      have hkb : what < 0 := by omega
      have HD : Hid (D = (St.zero, 1)) := by rw [Hid, hIN.out]; simp; intro q; omega
      go_enter Try.func45, Try.ntmps45
      go_upto_region 1 with fail
      generalize World.alloc (World.alloc w _) _ = w1 at *
      have qx0 := hx0.c0
      have qx1 := hx0.c1
      have qx2 := hx0.c2
      have qx3 := hx0.c3
      have qx4 := hx0.c4
      have qx5 := hx0.c5
      go_wp2_with fail
      refine (hm.out _ hx0.ok).mono ?_
      rintro e w2 ⟨rfl, hB2⟩
      clear qx0 qx1 qx2 qx3 qx4 qx5
      have hx2 := hx0.call hB2
      clear hx0
      have hR2 := hR0.call hB2
      clear hR0
      obtain ⟨⟨R0, R1, R2, R3, R4, R5⟩, ⟨Rf0, Rf1, Rf2, Rf3, Rf4, Rf5⟩⟩ := hR2.cells6
      go_wp2_with fail
      rw [HD.out]
      obtain ⟨⟨u0, u1, u2, u3, u4, u5⟩, _⟩ := (hR2.store6 (.bool false) (.slice none 0 0) (.bool false) (.slice none 0 0) (.int .i64 0) (.int .i64 0)).cells6
      refine bodyPost_ret (v := .tuple #[.agg #[.bool false, .slice none 0 0, .bool false, .slice none 0 0, .int .i64 0, .int .i64 0], .int .i64 1]) (by generalize World.setCell (World.setCell (World.setCell (World.setCell (World.setCell (World.setCell _ _ _) _ _) _ _) _ _) _ _) _ _ = W6 at u0 u1 u2 u3 u4 u5 ⊢; simp [results, Try.results45, go_sem, u0, u1, u2, u3, u4, u5]) rfl ?_
      exact ⟨⟨⟨false, none, 0, 0, [], false, none, 0, 0, []⟩, 0, 0⟩, rfl, rfl, ⟨IL.nil _, IL.nil _⟩, below_set6 hR2.later (by omega) _ _ _ _ _ _, none_old _, none_old _⟩
    by_cases hk5 : what ≤ 5
    case neg =>
      have hkb : ¬ what < 0 := by omega
      have hkc : 5 < what := by omega
      have HD : Hid (D = (St.zero, 1)) := by rw [Hid, hIN.out]; simp; intros; omega
      go_enter Try.func45, Try.ntmps45
      go_upto_region 1 with fail
      generalize World.alloc (World.alloc w _) _ = w1 at *
      have qx0 := hx0.c0
      have qx1 := hx0.c1
      have qx2 := hx0.c2
      have qx3 := hx0.c3
      have qx4 := hx0.c4
      have qx5 := hx0.c5
      go_wp2_with fail
      refine (hm.out _ hx0.ok).mono ?_
      rintro e w2 ⟨rfl, hB2⟩
      clear qx0 qx1 qx2 qx3 qx4 qx5
      have hx2 := hx0.call hB2
      clear hx0
      have hR2 := hR0.call hB2
      clear hR0
      obtain ⟨⟨R0, R1, R2, R3, R4, R5⟩, ⟨Rf0, Rf1, Rf2, Rf3, Rf4, Rf5⟩⟩ := hR2.cells6
      go_wp2_with fail
      rw [HD.out]
      obtain ⟨⟨u0, u1, u2, u3, u4, u5⟩, _⟩ := (hR2.store6 (.bool false) (.slice none 0 0) (.bool false) (.slice none 0 0) (.int .i64 0) (.int .i64 0)).cells6
      refine bodyPost_ret (v := .tuple #[.agg #[.bool false, .slice none 0 0, .bool false, .slice none 0 0, .int .i64 0, .int .i64 0], .int .i64 1]) (by generalize World.setCell (World.setCell (World.setCell (World.setCell (World.setCell (World.setCell _ _ _) _ _) _ _) _ _) _ _) _ _ = W6 at u0 u1 u2 u3 u4 u5 ⊢; simp [results, Try.results45, go_sem, u0, u1, u2, u3, u4, u5]) rfl ?_
      exact ⟨⟨⟨false, none, 0, 0, [], false, none, 0, 0, []⟩, 0, 0⟩, rfl, rfl, ⟨IL.nil _, IL.nil _⟩, below_set6 hR2.later (by omega) _ _ _ _ _ _, none_old _, none_old _⟩
    have hkb : ¬ what < 0 := by omega
    have hkc : ¬ 5 < what := by omega
    have hIM : Hid (D = (⟨x.v.d, moveT x.s what keep, if keep then x.a else moveT x.s what keep⟩, 0)) := by rw [Hid, hIN.out]; simp [hk0, hk5]
    have hto := Lib.hid (fun W (hW : x.v.ok W) => rto_any x what W hW hf hmm hk0 (by omega))
    clear hIN hmm
    generalize toS x.v.d x.c what = t at *
    generalize moveT x.s what keep = T at *
    generalize frontS x.s = fr at *
    generalize backS x.s = bk at *
    go_enter Try.func45, Try.ntmps45
    go_upto_region 1 with fail
    generalize World.alloc (World.alloc w _) _ = w1 at *
    have qx0 := hx0.c0
    have qx1 := hx0.c1
    have qx2 := hx0.c2
    have qx3 := hx0.c3
    have qx4 := hx0.c4
    have qx5 := hx0.c5
    go_wp2_with fail
    refine (hm.out _ hx0.ok).mono ?_
    rintro e w2 ⟨rfl, hB2⟩
    clear qx0 qx1 qx2 qx3 qx4 qx5
    have hx2 := hx0.call hB2
    clear hx0
    have hR2 := hR0.call hB2
    clear hR0
    go_upto_region 4 with fail
    have qx0 := hx2.c0
    have qx1 := hx2.c1
    have qx2 := hx2.c2
    have qx3 := hx2.c3
    have qx4 := hx2.c4
    have qx5 := hx2.c5
    go_wp2_with fail
    refine (hto.out _ hx2.ok).mono ?_
    rintro e w3 ⟨rfl, hB3⟩
    clear qx0 qx1 qx2 qx3 qx4 qx5
    have hx3 := hx2.call hB3
    clear hx2
    have hR3 := hR2.call hB3
    clear hR2
    have hx9 := hx3
    have hR9 := hR3
    clear hx3 hR3 hto
    cases keep
    case true =>
      have HD : Hid (D = (⟨x.v.d, t, x.a⟩, 0)) := by rw [Hid, hIM.out, hMT.out]; simp
      have hx_1 := hx9.car t (fun hz a ha => by have := hOld.1 hz a ha; omega) (fun hz a ha => by have := hOld.2 hz a ha; omega)
      have hR_1 := hR9.far (p := ⟨w.heap.size, 4, none⟩) (by simp only; omega) (Nat.le_refl _) (.int .i64 t)
      obtain ⟨⟨x0, x1, x2, x3, x4, x5⟩, ⟨y0, y1, y2, y3, y4, y5⟩⟩ := hx9.1.cells6
      go_upto_region 10 with fail
      clear x0 x1 x2 x3 x4 x5 y0 y1 y2 y3 y4 y5 hx9 hR9
      generalize hgs1 : World.setCell w3 _ _ = v1 at *
      clear hgs1
      have hOK := hx_1.ok
      have qx0 := hx_1.c0
      have qx1 := hx_1.c1
      have qx2 := hx_1.c2
      have qx3 := hx_1.c3
      have qx4 := hx_1.c4
      have qx5 := hx_1.c5
      obtain ⟨⟨R0, R1, R2, R3, R4, R5⟩, ⟨Rf0, Rf1, Rf2, Rf3, Rf4, Rf5⟩⟩ := hR_1.cells6
      go_wp2_with fail
      rw [HD.out]
      obtain ⟨⟨u0, u1, u2, u3, u4, u5⟩, _⟩ := (hR_1.store6 (.bool x.v.b) (.slice x.v.A x.v.n x.v.c) (.bool x.v.p) (.slice x.v.E x.v.m x.v.q) (.int .i64 t) (.int .i64 x.a)).cells6
      refine bodyPost_ret (v := .tuple #[.agg #[.bool x.v.b, .slice x.v.A x.v.n x.v.c, .bool x.v.p, .slice x.v.E x.v.m x.v.q, .int .i64 t, .int .i64 x.a], .int .i64 0]) (by generalize World.setCell (World.setCell (World.setCell (World.setCell (World.setCell (World.setCell _ _ _) _ _) _ _) _ _) _ _) _ _ = W6 at u0 u1 u2 u3 u4 u5 ⊢; simp [results, Try.results45, go_sem, u0, u1, u2, u3, u4, u5]) rfl ?_
      refine ⟨⟨x.v, t, x.a⟩, rfl, ?_, ?_, ?_, ?_, ?_⟩
      · rfl
      · exact hOK.set6 (fun hz a ha => by have := hOld.1 hz a ha; omega) (fun hz a ha => by have := hOld.2 hz a ha; omega) _ _ _ _ _ _
      · exact below_set6 hR_1.later (by omega) _ _ _ _ _ _
      · exact hOld.1
      · exact hOld.2
    case false =>
      by_cases hca : x.c = x.a
      case pos =>
        have hfb : (fr == bk) = true := by rw [hfr.out, hbk.out]; simp; split <;> split <;> omega
        have hcb : (x.c == x.a) = true := by simpa using hca
        have hcc : (x.c != x.a) = false := by simp [hca]
        clear hca
        have HD : Hid (D = (⟨x.v.d, t, t⟩, 0)) := by rw [Hid, hIM.out, hMT.out]; simp [hfb]
        have hx_1 := hx9.car t (fun hz a ha => by have := hOld.1 hz a ha; omega) (fun hz a ha => by have := hOld.2 hz a ha; omega)
        have hR_1 := hR9.far (p := ⟨w.heap.size, 4, none⟩) (by simp only; omega) (Nat.le_refl _) (.int .i64 t)
        have hx_2 := hx_1.anc t (fun hz a ha => by have := hOld.1 hz a ha; omega) (fun hz a ha => by have := hOld.2 hz a ha; omega)
        have hR_2 := hR_1.far (p := ⟨w.heap.size, 5, none⟩) (by simp only; omega) (Nat.le_refl _) (.int .i64 t)
        obtain ⟨⟨x0, x1, x2, x3, x4, x5⟩, ⟨y0, y1, y2, y3, y4, y5⟩⟩ := hx9.1.cells6
        go_upto_region 10 with fail
        clear x0 x1 x2 x3 x4 x5 y0 y1 y2 y3 y4 y5 hx9 hR9
        generalize hgs1 : World.setCell w3 _ _ = v1 at *
        clear hgs1
        obtain ⟨⟨x0, x1, x2, x3, x4, x5⟩, ⟨y0, y1, y2, y3, y4, y5⟩⟩ := hx_1.1.cells6
        go_upto_region 12 with fail
        clear x0 x1 x2 x3 x4 x5 y0 y1 y2 y3 y4 y5 hx_1 hR_1
        generalize hgs2 : World.setCell v1 _ _ = v2 at *
        clear hgs2
        have hOK := hx_2.ok
        have qx0 := hx_2.c0
        have qx1 := hx_2.c1
        have qx2 := hx_2.c2
        have qx3 := hx_2.c3
        have qx4 := hx_2.c4
        have qx5 := hx_2.c5
        obtain ⟨⟨R0, R1, R2, R3, R4, R5⟩, ⟨Rf0, Rf1, Rf2, Rf3, Rf4, Rf5⟩⟩ := hR_2.cells6
        go_wp2_with fail
        rw [HD.out]
        obtain ⟨⟨u0, u1, u2, u3, u4, u5⟩, _⟩ := (hR_2.store6 (.bool x.v.b) (.slice x.v.A x.v.n x.v.c) (.bool x.v.p) (.slice x.v.E x.v.m x.v.q) (.int .i64 t) (.int .i64 t)).cells6
        refine bodyPost_ret (v := .tuple #[.agg #[.bool x.v.b, .slice x.v.A x.v.n x.v.c, .bool x.v.p, .slice x.v.E x.v.m x.v.q, .int .i64 t, .int .i64 t], .int .i64 0]) (by generalize World.setCell (World.setCell (World.setCell (World.setCell (World.setCell (World.setCell _ _ _) _ _) _ _) _ _) _ _) _ _ = W6 at u0 u1 u2 u3 u4 u5 ⊢; simp [results, Try.results45, go_sem, u0, u1, u2, u3, u4, u5]) rfl ?_
        refine ⟨⟨x.v, t, t⟩, rfl, ?_, ?_, ?_, ?_, ?_⟩
        · rfl
        · exact hOK.set6 (fun hz a ha => by have := hOld.1 hz a ha; omega) (fun hz a ha => by have := hOld.2 hz a ha; omega) _ _ _ _ _ _
        · exact below_set6 hR_2.later (by omega) _ _ _ _ _ _
        · exact hOld.1
        · exact hOld.2
      case neg =>
        have hfb : (fr == bk) = false := by rw [hfr.out, hbk.out]; simp; split <;> split <;> omega
        have hcb : (x.c == x.a) = false := by simpa using hca
        have hcc : (x.c != x.a) = true := by simpa using hca
        have hmn := hfr.out.symm
        have hmx := hbk.out.symm
        by_cases h0 : what = 0
        case pos =>
          subst h0
          have HD : Hid (D = (⟨x.v.d, fr, fr⟩, 0)) := by rw [Hid, hIM.out, hMT.out]; simp [hfb]
          have hx_1 := hx9.car fr (fun hz a ha => by have := hOld.1 hz a ha; omega) (fun hz a ha => by have := hOld.2 hz a ha; omega)
          have hR_1 := hR9.far (p := ⟨w.heap.size, 4, none⟩) (by simp only; omega) (Nat.le_refl _) (.int .i64 fr)
          have hx_2 := hx_1.anc fr (fun hz a ha => by have := hOld.1 hz a ha; omega) (fun hz a ha => by have := hOld.2 hz a ha; omega)
          have hR_2 := hR_1.far (p := ⟨w.heap.size, 5, none⟩) (by simp only; omega) (Nat.le_refl _) (.int .i64 fr)
          obtain ⟨⟨x0, x1, x2, x3, x4, x5⟩, ⟨y0, y1, y2, y3, y4, y5⟩⟩ := hx9.1.cells6
          go_upto_region 10 with fail
          clear x0 x1 x2 x3 x4 x5 y0 y1 y2 y3 y4 y5 hx9 hR9
          generalize hgs1 : World.setCell w3 _ _ = v1 at *
          clear hgs1
          obtain ⟨⟨x0, x1, x2, x3, x4, x5⟩, ⟨y0, y1, y2, y3, y4, y5⟩⟩ := hx_1.1.cells6
          go_upto_region 12 with fail
          clear x0 x1 x2 x3 x4 x5 y0 y1 y2 y3 y4 y5 hx_1 hR_1
          generalize hgs2 : World.setCell v1 _ _ = v2 at *
          clear hgs2
          have hOK := hx_2.ok
          have qx0 := hx_2.c0
          have qx1 := hx_2.c1
          have qx2 := hx_2.c2
          have qx3 := hx_2.c3
          have qx4 := hx_2.c4
          have qx5 := hx_2.c5
          obtain ⟨⟨R0, R1, R2, R3, R4, R5⟩, ⟨Rf0, Rf1, Rf2, Rf3, Rf4, Rf5⟩⟩ := hR_2.cells6
          go_wp2_with fail
          rw [HD.out]
          obtain ⟨⟨u0, u1, u2, u3, u4, u5⟩, _⟩ := (hR_2.store6 (.bool x.v.b) (.slice x.v.A x.v.n x.v.c) (.bool x.v.p) (.slice x.v.E x.v.m x.v.q) (.int .i64 fr) (.int .i64 fr)).cells6
          refine bodyPost_ret (v := .tuple #[.agg #[.bool x.v.b, .slice x.v.A x.v.n x.v.c, .bool x.v.p, .slice x.v.E x.v.m x.v.q, .int .i64 fr, .int .i64 fr], .int .i64 0]) (by generalize World.setCell (World.setCell (World.setCell (World.setCell (World.setCell (World.setCell _ _ _) _ _) _ _) _ _) _ _) _ _ = W6 at u0 u1 u2 u3 u4 u5 ⊢; simp [results, Try.results45, go_sem, u0, u1, u2, u3, u4, u5]) rfl ?_
          refine ⟨⟨x.v, fr, fr⟩, rfl, ?_, ?_, ?_, ?_, ?_⟩
          · rfl
          · exact hOK.set6 (fun hz a ha => by have := hOld.1 hz a ha; omega) (fun hz a ha => by have := hOld.2 hz a ha; omega) _ _ _ _ _ _
          · exact below_set6 hR_2.later (by omega) _ _ _ _ _ _
          · exact hOld.1
          · exact hOld.2
        case neg =>
          have h0b : (what == (0 : Int)) = false := by simpa using h0
          by_cases h1 : what = 1
          case pos =>
            subst h1
            have HD : Hid (D = (⟨x.v.d, bk, bk⟩, 0)) := by rw [Hid, hIM.out, hMT.out]; simp [hfb]
            have hx_1 := hx9.car bk (fun hz a ha => by have := hOld.1 hz a ha; omega) (fun hz a ha => by have := hOld.2 hz a ha; omega)
            have hR_1 := hR9.far (p := ⟨w.heap.size, 4, none⟩) (by simp only; omega) (Nat.le_refl _) (.int .i64 bk)
            have hx_2 := hx_1.anc bk (fun hz a ha => by have := hOld.1 hz a ha; omega) (fun hz a ha => by have := hOld.2 hz a ha; omega)
            have hR_2 := hR_1.far (p := ⟨w.heap.size, 5, none⟩) (by simp only; omega) (Nat.le_refl _) (.int .i64 bk)
            obtain ⟨⟨x0, x1, x2, x3, x4, x5⟩, ⟨y0, y1, y2, y3, y4, y5⟩⟩ := hx9.1.cells6
            go_upto_region 10 with fail
            clear x0 x1 x2 x3 x4 x5 y0 y1 y2 y3 y4 y5 hx9 hR9
            generalize hgs1 : World.setCell w3 _ _ = v1 at *
            clear hgs1
            obtain ⟨⟨x0, x1, x2, x3, x4, x5⟩, ⟨y0, y1, y2, y3, y4, y5⟩⟩ := hx_1.1.cells6
            go_upto_region 12 with fail
            clear x0 x1 x2 x3 x4 x5 y0 y1 y2 y3 y4 y5 hx_1 hR_1
            generalize hgs2 : World.setCell v1 _ _ = v2 at *
            clear hgs2
            have hOK := hx_2.ok
            have qx0 := hx_2.c0
            have qx1 := hx_2.c1
            have qx2 := hx_2.c2
            have qx3 := hx_2.c3
            have qx4 := hx_2.c4
            have qx5 := hx_2.c5
            obtain ⟨⟨R0, R1, R2, R3, R4, R5⟩, ⟨Rf0, Rf1, Rf2, Rf3, Rf4, Rf5⟩⟩ := hR_2.cells6
            go_wp2_with fail
            rw [HD.out]
            obtain ⟨⟨u0, u1, u2, u3, u4, u5⟩, _⟩ := (hR_2.store6 (.bool x.v.b) (.slice x.v.A x.v.n x.v.c) (.bool x.v.p) (.slice x.v.E x.v.m x.v.q) (.int .i64 bk) (.int .i64 bk)).cells6
            refine bodyPost_ret (v := .tuple #[.agg #[.bool x.v.b, .slice x.v.A x.v.n x.v.c, .bool x.v.p, .slice x.v.E x.v.m x.v.q, .int .i64 bk, .int .i64 bk], .int .i64 0]) (by generalize World.setCell (World.setCell (World.setCell (World.setCell (World.setCell (World.setCell _ _ _) _ _) _ _) _ _) _ _) _ _ = W6 at u0 u1 u2 u3 u4 u5 ⊢; simp [results, Try.results45, go_sem, u0, u1, u2, u3, u4, u5]) rfl ?_
            refine ⟨⟨x.v, bk, bk⟩, rfl, ?_, ?_, ?_, ?_, ?_⟩
            · rfl
            · exact hOK.set6 (fun hz a ha => by have := hOld.1 hz a ha; omega) (fun hz a ha => by have := hOld.2 hz a ha; omega) _ _ _ _ _ _
            · exact below_set6 hR_2.later (by omega) _ _ _ _ _ _
            · exact hOld.1
            · exact hOld.2
          case neg =>
            have h1b : (what == (1 : Int)) = false := by simpa using h1
            have HD : Hid (D = (⟨x.v.d, t, t⟩, 0)) := by rw [Hid, hIM.out, hMT.out]; simp [hfb, h0, h1]
            have hx_1 := hx9.car t (fun hz a ha => by have := hOld.1 hz a ha; omega) (fun hz a ha => by have := hOld.2 hz a ha; omega)
            have hR_1 := hR9.far (p := ⟨w.heap.size, 4, none⟩) (by simp only; omega) (Nat.le_refl _) (.int .i64 t)
            have hx_2 := hx_1.anc t (fun hz a ha => by have := hOld.1 hz a ha; omega) (fun hz a ha => by have := hOld.2 hz a ha; omega)
            have hR_2 := hR_1.far (p := ⟨w.heap.size, 5, none⟩) (by simp only; omega) (Nat.le_refl _) (.int .i64 t)
            obtain ⟨⟨x0, x1, x2, x3, x4, x5⟩, ⟨y0, y1, y2, y3, y4, y5⟩⟩ := hx9.1.cells6
            go_upto_region 10 with fail
            clear x0 x1 x2 x3 x4 x5 y0 y1 y2 y3 y4 y5 hx9 hR9
            generalize hgs1 : World.setCell w3 _ _ = v1 at *
            clear hgs1
            obtain ⟨⟨x0, x1, x2, x3, x4, x5⟩, ⟨y0, y1, y2, y3, y4, y5⟩⟩ := hx_1.1.cells6
            go_upto_region 12 with fail
            clear x0 x1 x2 x3 x4 x5 y0 y1 y2 y3 y4 y5 hx_1 hR_1
            generalize hgs2 : World.setCell v1 _ _ = v2 at *
            clear hgs2
            have hOK := hx_2.ok
            have qx0 := hx_2.c0
            have qx1 := hx_2.c1
            have qx2 := hx_2.c2
            have qx3 := hx_2.c3
            have qx4 := hx_2.c4
            have qx5 := hx_2.c5
            obtain ⟨⟨R0, R1, R2, R3, R4, R5⟩, ⟨Rf0, Rf1, Rf2, Rf3, Rf4, Rf5⟩⟩ := hR_2.cells6
            go_wp2_with fail
            rw [HD.out]
            obtain ⟨⟨u0, u1, u2, u3, u4, u5⟩, _⟩ := (hR_2.store6 (.bool x.v.b) (.slice x.v.A x.v.n x.v.c) (.bool x.v.p) (.slice x.v.E x.v.m x.v.q) (.int .i64 t) (.int .i64 t)).cells6
            refine bodyPost_ret (v := .tuple #[.agg #[.bool x.v.b, .slice x.v.A x.v.n x.v.c, .bool x.v.p, .slice x.v.E x.v.m x.v.q, .int .i64 t, .int .i64 t], .int .i64 0]) (by generalize World.setCell (World.setCell (World.setCell (World.setCell (World.setCell (World.setCell _ _ _) _ _) _ _) _ _) _ _) _ _ = W6 at u0 u1 u2 u3 u4 u5 ⊢; simp [results, Try.results45, go_sem, u0, u1, u2, u3, u4, u5]) rfl ?_
            refine ⟨⟨x.v, t, t⟩, rfl, ?_, ?_, ?_, ?_, ?_⟩
            · rfl
            · exact hOK.set6 (fun hz a ha => by have := hOld.1 hz a ha; omega) (fun hz a ha => by have := hOld.2 hz a ha; omega) _ _ _ _ _ _
            · exact below_set6 hR_2.later (by omega) _ _ _ _ _ _
            · exact hOld.1
            · exact hOld.2

end Go.Proofs.Ytppkifdngjcbeaa
