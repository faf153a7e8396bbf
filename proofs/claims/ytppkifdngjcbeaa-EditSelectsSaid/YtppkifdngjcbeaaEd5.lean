/- The walks of both Selects and both Toggles. No condition. -/
import Derived.Test.YtppkifdngjcbeaaEd3
namespace Go.Proofs.Ytppkifdngjcbeaa
open Go.RowKit

set_option maxRecDepth 100000 in
set_option maxHeartbeats 4000000 in
theorem eselect_any (x : SV) (an ca : Int) (w : World) (h : x.v.ok w) (hf : x.v.fit) (B : Nat) (hOld : x.olds B) (hBw : B ≤ w.heap.size) :
    Calls Try.prog 46 #[.agg #[.bool x.v.b, .slice x.v.A x.v.n x.v.c, .bool x.v.p, .slice x.v.E x.v.m x.v.q, .int .i64 x.c, .int .i64 x.a], .int .i64 an, .int .i64 ca] w (RSE B w (selectS x.s an ca).1 (selectS x.s an ca).2) := by
  have hm := Lib.hid (fun W (hW : x.v.ok W) => emay_any x W hW hf)
  have hIN : Hid (selectS x.s an ca = if mayS x.s then (if inS x.v.d an && inS x.v.d ca then (⟨x.v.d, ca, an⟩, 0) else (St.zero, 3)) else (St.zero, 1)) := rfl
  have h1 := Lib.hid (fun W (hW : x.v.ok W) => ein_any x an W hW hf)
  have h2 := Lib.hid (fun W (hW : x.v.ok W) => ein_any x ca W hW hf)
  have hx0 := ((SB.made w w 61 x (Later.refl w) h (w.heap.size) (by simp)).alloc (.cells #[.bool false, .slice none 0 0, .bool false, .slice none 0 0, .int .i64 0, .int .i64 0] 61))
  have hR0 := (Blk.made w (w.alloc (.cells #[.bool x.v.b, .slice x.v.A x.v.n x.v.c, .bool x.v.p, .slice x.v.E x.v.m x.v.q, .int .i64 x.c, .int .i64 x.a] 61)) 61 #[.bool false, .slice none 0 0, .bool false, .slice none 0 0, .int .i64 0, .int .i64 0] ((Later.refl w).alloc _) (w.heap.size + 1) (by simp))
  generalize selectS x.s an ca = D at *
  cases hmm : mayS x.s
  · rw [hmm] at hm hIN
    have HD : Hid (D = (St.zero, 1)) := by rw [Hid, hIN.out]; rfl
    clear hmm hIN
    go_enter Try.func46, Try.ntmps46
    go_upto_region 1 with fail
    generalize World.alloc (World.alloc w _) _ = w1 at *
    have qx0 := hx0.c0
    have qx1 := hx0.c1
    have qx2 := hx0.c2
    have qx3 := hx0.c3
    have qx4 := hx0.c4
    have qx5 := hx0.c5
    go_wp2_with fail
    refine (hm.out _ hx0.ok).mono ?_
    rintro e w2 ⟨rfl, hB2⟩
    clear qx0 qx1 qx2 qx3 qx4 qx5
    have hx2 := hx0.call hB2
    clear hx0
    have hR2 := hR0.call hB2
    clear hR0
    obtain ⟨⟨R0, R1, R2, R3, R4, R5⟩, ⟨Rf0, Rf1, Rf2, Rf3, Rf4, Rf5⟩⟩ := hR2.cells6
    go_wp2_with fail
    rw [HD.out]
    obtain ⟨⟨u0, u1, u2, u3, u4, u5⟩, _⟩ := (hR2.store6 (.bool false) (.slice none 0 0) (.bool false) (.slice none 0 0) (.int .i64 0) (.int .i64 0)).cells6
    refine bodyPost_ret (v := .tuple #[.agg #[.bool false, .slice none 0 0, .bool false, .slice none 0 0, .int .i64 0, .int .i64 0], .int .i64 1]) (by generalize World.setCell (World.setCell (World.setCell (World.setCell (World.setCell (World.setCell _ _ _) _ _) _ _) _ _) _ _) _ _ = W6 at u0 u1 u2 u3 u4 u5 ⊢; simp [results, Try.results46, go_sem, u0, u1, u2, u3, u4, u5]) rfl ?_
    exact ⟨⟨⟨false, none, 0, 0, [], false, none, 0, 0, []⟩, 0, 0⟩, rfl, rfl, ⟨IL.nil _, IL.nil _⟩, below_set6 hR2.later (by omega) _ _ _ _ _ _, none_old _, none_old _⟩
  · rw [hmm] at hm hIN
    clear hmm
    generalize inS x.v.d an = i1 at *
    generalize inS x.v.d ca = i2 at *
    go_enter Try.func46, Try.ntmps46
    go_upto_region 1 with fail
    generalize World.alloc (World.alloc w _) _ = w1 at *
    have qx0 := hx0.c0
    have qx1 := hx0.c1
    have qx2 := hx0.c2
    have qx3 := hx0.c3
    have qx4 := hx0.c4
    have qx5 := hx0.c5
    go_wp2_with fail
    refine (hm.out _ hx0.ok).mono ?_
    rintro e w2 ⟨rfl, hB2⟩
    clear qx0 qx1 qx2 qx3 qx4 qx5
    have hx2 := hx0.call hB2
    clear hx0
    have hR2 := hR0.call hB2
    clear hR0
    go_upto_region 3 with fail
    have qx0 := hx2.c0
    have qx1 := hx2.c1
    have qx2 := hx2.c2
    have qx3 := hx2.c3
    have qx4 := hx2.c4
    have qx5 := hx2.c5
    go_wp2_with fail
    refine (h1.out _ hx2.ok).mono ?_
    rintro e w3 ⟨rfl, hB3⟩
    clear qx0 qx1 qx2 qx3 qx4 qx5
    have hx3 := hx2.call hB3
    clear hx2
    have hR3 := hR2.call hB3
    clear hR2
    cases i1
    · have HD : Hid (D = (St.zero, 3)) := by rw [Hid, hIN.out]; rfl
      obtain ⟨⟨R0, R1, R2, R3, R4, R5⟩, ⟨Rf0, Rf1, Rf2, Rf3, Rf4, Rf5⟩⟩ := hR3.cells6
      go_wp2_with fail
      rw [HD.out]
      obtain ⟨⟨u0, u1, u2, u3, u4, u5⟩, _⟩ := (hR3.store6 (.bool false) (.slice none 0 0) (.bool false) (.slice none 0 0) (.int .i64 0) (.int .i64 0)).cells6
      refine bodyPost_ret (v := .tuple #[.agg #[.bool false, .slice none 0 0, .bool false, .slice none 0 0, .int .i64 0, .int .i64 0], .int .i64 3]) (by generalize World.setCell (World.setCell (World.setCell (World.setCell (World.setCell (World.setCell _ _ _) _ _) _ _) _ _) _ _) _ _ = W6 at u0 u1 u2 u3 u4 u5 ⊢; simp [results, Try.results46, go_sem, u0, u1, u2, u3, u4, u5]) rfl ?_
      exact ⟨⟨⟨false, none, 0, 0, [], false, none, 0, 0, []⟩, 0, 0⟩, rfl, rfl, ⟨IL.nil _, IL.nil _⟩, below_set6 hR3.later (by omega) _ _ _ _ _ _, none_old _, none_old _⟩
    ·
      have qx0 := hx3.c0
      have qx1 := hx3.c1
      have qx2 := hx3.c2
      have qx3 := hx3.c3
      have qx4 := hx3.c4
      have qx5 := hx3.c5
      go_wp2_with fail
      refine (h2.out _ hx3.ok).mono ?_
      rintro e w4 ⟨rfl, hB4⟩
      clear qx0 qx1 qx2 qx3 qx4 qx5
      have hx4 := hx3.call hB4
      clear hx3
      have hR4 := hR3.call hB4
      clear hR3
      cases i2
      · have HD : Hid (D = (St.zero, 3)) := by rw [Hid, hIN.out]; rfl
        obtain ⟨⟨R0, R1, R2, R3, R4, R5⟩, ⟨Rf0, Rf1, Rf2, Rf3, Rf4, Rf5⟩⟩ := hR4.cells6
        go_wp2_with fail
        rw [HD.out]
        obtain ⟨⟨u0, u1, u2, u3, u4, u5⟩, _⟩ := (hR4.store6 (.bool false) (.slice none 0 0) (.bool false) (.slice none 0 0) (.int .i64 0) (.int .i64 0)).cells6
        refine bodyPost_ret (v := .tuple #[.agg #[.bool false, .slice none 0 0, .bool false, .slice none 0 0, .int .i64 0, .int .i64 0], .int .i64 3]) (by generalize World.setCell (World.setCell (World.setCell (World.setCell (World.setCell (World.setCell _ _ _) _ _) _ _) _ _) _ _) _ _ = W6 at u0 u1 u2 u3 u4 u5 ⊢; simp [results, Try.results46, go_sem, u0, u1, u2, u3, u4, u5]) rfl ?_
        exact ⟨⟨⟨false, none, 0, 0, [], false, none, 0, 0, []⟩, 0, 0⟩, rfl, rfl, ⟨IL.nil _, IL.nil _⟩, below_set6 hR4.later (by omega) _ _ _ _ _ _, none_old _, none_old _⟩
      · have HD : Hid (D = (⟨x.v.d, ca, an⟩, 0)) := by rw [Hid, hIN.out]; rfl
        have hOK := hx4.ok
        have qx0 := hx4.c0
        have qx1 := hx4.c1
        have qx2 := hx4.c2
        have qx3 := hx4.c3
        have qx4 := hx4.c4
        have qx5 := hx4.c5
        obtain ⟨⟨R0, R1, R2, R3, R4, R5⟩, ⟨Rf0, Rf1, Rf2, Rf3, Rf4, Rf5⟩⟩ := hR4.cells6
        go_wp2_with fail
        rw [HD.out]
        obtain ⟨⟨u0, u1, u2, u3, u4, u5⟩, _⟩ := (hR4.store6 (.bool x.v.b) (.slice x.v.A x.v.n x.v.c) (.bool x.v.p) (.slice x.v.E x.v.m x.v.q) (.int .i64 ca) (.int .i64 an)).cells6
        refine bodyPost_ret (v := .tuple #[.agg #[.bool x.v.b, .slice x.v.A x.v.n x.v.c, .bool x.v.p, .slice x.v.E x.v.m x.v.q, .int .i64 ca, .int .i64 an], .int .i64 0]) (by generalize World.setCell (World.setCell (World.setCell (World.setCell (World.setCell (World.setCell _ _ _) _ _) _ _) _ _) _ _) _ _ = W6 at u0 u1 u2 u3 u4 u5 ⊢; simp [results, Try.results46, go_sem, u0, u1, u2, u3, u4, u5]) rfl ?_
        refine ⟨⟨x.v, ca, an⟩, rfl, ?_, ?_, ?_, ?_, ?_⟩
        · rfl
        · exact hOK.set6 (fun hz a ha => by have := hOld.1 hz a ha; omega) (fun hz a ha => by have := hOld.2 hz a ha; omega) _ _ _ _ _ _
        · exact below_set6 hR4.later (by omega) _ _ _ _ _ _
        · exact hOld.1
        · exact hOld.2

set_option maxRecDepth 100000 in
set_option maxHeartbeats 4000000 in
theorem rsselect_any (x : SV) (an ca : Int) (w : World) (h : x.v.ok w) (hf : x.v.fit) (B : Nat) (hOld : x.olds B) (hBw : B ≤ w.heap.size) :
    Calls Try.prog 47 #[.agg #[.bool x.v.b, .slice x.v.A x.v.n x.v.c, .bool x.v.p, .slice x.v.E x.v.m x.v.q, .int .i64 x.c, .int .i64 x.a], .int .i64 an, .int .i64 ca] w (RSE B w (selectS x.s an ca).1 (selectS x.s an ca).2) := by
  have hm := Lib.hid (fun W (hW : x.v.ok W) => rsmay_any x W hW hf)
  have hIN : Hid (selectS x.s an ca = if mayS x.s then (if inS x.v.d an && inS x.v.d ca then (⟨x.v.d, ca, an⟩, 0) else (St.zero, 3)) else (St.zero, 1)) := rfl
  have h1 := Lib.hid (fun (hmm : mayS x.s = true) W (hW : x.v.ok W) => show Calls Try.prog 50 #[.agg #[.bool x.v.b, .slice x.v.A x.v.n x.v.c, .bool x.v.p, .slice x.v.E x.v.m x.v.q, .int .i64 ca, .int .i64 an]] W (RV W (.bool (inS x.v.d ca && inS x.v.d an))) by
    have e : mayS (⟨x.v, ca, an⟩ : SV).s = (mayDr x.v.d && inS x.v.d ca && inS x.v.d an) := rfl
    have hd : mayDr x.v.d = true := (mayS_iff.1 hmm).1
    have := rsmay_any ⟨x.v, ca, an⟩ W hW hf
    rw [e, hd, Bool.true_and] at this
    exact this)
  have hx0 := ((SB.made w w 53 x (Later.refl w) h (w.heap.size) (by simp)).alloc (.cells #[.bool false, .slice none 0 0, .bool false, .slice none 0 0, .int .i64 0, .int .i64 0] 53))
  have hR0 := (Blk.made w (w.alloc (.cells #[.bool x.v.b, .slice x.v.A x.v.n x.v.c, .bool x.v.p, .slice x.v.E x.v.m x.v.q, .int .i64 x.c, .int .i64 x.a] 53)) 53 #[.bool false, .slice none 0 0, .bool false, .slice none 0 0, .int .i64 0, .int .i64 0] ((Later.refl w).alloc _) (w.heap.size + 1) (by simp))
  generalize selectS x.s an ca = D at *
  cases hmm : mayS x.s
  · rw [hmm] at hm hIN
    have HD : Hid (D = (St.zero, 1)) := by rw [Hid, hIN.out]; rfl
    clear hmm hIN
    go_enter Try.func47, Try.ntmps47
    go_upto_region 1 with fail
    generalize World.alloc (World.alloc w _) _ = w1 at *
    have qx0 := hx0.c0
    have qx1 := hx0.c1
    have qx2 := hx0.c2
    have qx3 := hx0.c3
    have qx4 := hx0.c4
    have qx5 := hx0.c5
    go_wp2_with fail
    refine (hm.out _ hx0.ok).mono ?_
    rintro e w2 ⟨rfl, hB2⟩
    clear qx0 qx1 qx2 qx3 qx4 qx5
    have hx2 := hx0.call hB2
    clear hx0
    have hR2 := hR0.call hB2
    clear hR0
    obtain ⟨⟨R0, R1, R2, R3, R4, R5⟩, ⟨Rf0, Rf1, Rf2, Rf3, Rf4, Rf5⟩⟩ := hR2.cells6
    go_wp2_with fail
    rw [HD.out]
    obtain ⟨⟨u0, u1, u2, u3, u4, u5⟩, _⟩ := (hR2.store6 (.bool false) (.slice none 0 0) (.bool false) (.slice none 0 0) (.int .i64 0) (.int .i64 0)).cells6
    refine bodyPost_ret (v := .tuple #[.agg #[.bool false, .slice none 0 0, .bool false, .slice none 0 0, .int .i64 0, .int .i64 0], .int .i64 1]) (by generalize World.setCell (World.setCell (World.setCell (World.setCell (World.setCell (World.setCell _ _ _) _ _) _ _) _ _) _ _) _ _ = W6 at u0 u1 u2 u3 u4 u5 ⊢; simp [results, Try.results47, go_sem, u0, u1, u2, u3, u4, u5]) rfl ?_
    exact ⟨⟨⟨false, none, 0, 0, [], false, none, 0, 0, []⟩, 0, 0⟩, rfl, rfl, ⟨IL.nil _, IL.nil _⟩, below_set6 hR2.later (by omega) _ _ _ _ _ _, none_old _, none_old _⟩
  · rw [hmm] at hm hIN
    replace h1 := Lib.hid (h1.out hmm)
    clear hmm
    generalize inS x.v.d an = i1 at *
    generalize inS x.v.d ca = i2 at *
    go_enter Try.func47, Try.ntmps47
    go_upto_region 1 with fail
    generalize World.alloc (World.alloc w _) _ = w1 at *
    have qx0 := hx0.c0
    have qx1 := hx0.c1
    have qx2 := hx0.c2
    have qx3 := hx0.c3
    have qx4 := hx0.c4
    have qx5 := hx0.c5
    go_wp2_with fail
    refine (hm.out _ hx0.ok).mono ?_
    rintro e w2 ⟨rfl, hB2⟩
    clear qx0 qx1 qx2 qx3 qx4 qx5
    have hx2 := hx0.call hB2
    clear hx0
    have hR2 := hR0.call hB2
    clear hR0
    have qx0 := hx2.c0
    have qx1 := hx2.c1
    have qx2 := hx2.c2
    have qx3 := hx2.c3
    have qx4 := hx2.c4
    have qx5 := hx2.c5
    have ho2 := SB.made w w2 53 ⟨x.v, ca, an⟩ hx2.later hx2.ok _ rfl
    go_upto_region 5 with fail
    have hx_v9 := hx2.alloc (.cells #[.bool x.v.b, .slice x.v.A x.v.n x.v.c, .bool x.v.p, .slice x.v.E x.v.m x.v.q, .int .i64 ca, .int .i64 an] 53)
    clear hx2
    have hR_v9 := hR2.alloc (.cells #[.bool x.v.b, .slice x.v.A x.v.n x.v.c, .bool x.v.p, .slice x.v.E x.v.m x.v.q, .int .i64 ca, .int .i64 an] 53)
    clear hR2
    generalize hgw : World.alloc w2 _ = v9 at *
    clear hgw
    clear qx0 qx1 qx2 qx3 qx4 qx5
    have qo0 := ho2.c0
    have qo1 := ho2.c1
    have qo2 := ho2.c2
    have qo3 := ho2.c3
    have qo4 := ho2.c4
    have qo5 := ho2.c5
    go_wp2_with fail
    refine (h1.out _ ho2.ok).mono ?_
    rintro e w3 ⟨rfl, hB3⟩
    clear qo0 qo1 qo2 qo3 qo4 qo5
    have hx3 := hx_v9.call hB3
    have ho3 := ho2.call hB3
    clear hx_v9 ho2
    have hR3 := hR_v9.call hB3
    clear hR_v9
    cases hii : (i1 && i2)
    · have HD : Hid (D = (St.zero, 3)) := by rw [Hid, hIN.out, hii]; rfl
      have hij : (i2 && i1) = false := by rw [Bool.and_comm]; exact hii
      rw [hij]
      obtain ⟨⟨R0, R1, R2, R3, R4, R5⟩, ⟨Rf0, Rf1, Rf2, Rf3, Rf4, Rf5⟩⟩ := hR3.cells6
      go_wp2_with fail
      rw [HD.out]
      obtain ⟨⟨u0, u1, u2, u3, u4, u5⟩, _⟩ := (hR3.store6 (.bool false) (.slice none 0 0) (.bool false) (.slice none 0 0) (.int .i64 0) (.int .i64 0)).cells6
      refine bodyPost_ret (v := .tuple #[.agg #[.bool false, .slice none 0 0, .bool false, .slice none 0 0, .int .i64 0, .int .i64 0], .int .i64 3]) (by generalize World.setCell (World.setCell (World.setCell (World.setCell (World.setCell (World.setCell _ _ _) _ _) _ _) _ _) _ _) _ _ = W6 at u0 u1 u2 u3 u4 u5 ⊢; simp [results, Try.results47, go_sem, u0, u1, u2, u3, u4, u5]) rfl ?_
      exact ⟨⟨⟨false, none, 0, 0, [], false, none, 0, 0, []⟩, 0, 0⟩, rfl, rfl, ⟨IL.nil _, IL.nil _⟩, below_set6 hR3.later (by omega) _ _ _ _ _ _, none_old _, none_old _⟩
    · have HD : Hid (D = (⟨x.v.d, ca, an⟩, 0)) := by rw [Hid, hIN.out, hii]; rfl
      have hij : (i2 && i1) = true := by rw [Bool.and_comm]; exact hii
      rw [hij]
      have hOK := hx3.ok
      have qo0 := ho3.c0
      have qo1 := ho3.c1
      have qo2 := ho3.c2
      have qo3 := ho3.c3
      have qo4 := ho3.c4
      have qo5 := ho3.c5
      obtain ⟨⟨R0, R1, R2, R3, R4, R5⟩, ⟨Rf0, Rf1, Rf2, Rf3, Rf4, Rf5⟩⟩ := hR3.cells6
      go_wp2_with fail
      rw [HD.out]
      obtain ⟨⟨u0, u1, u2, u3, u4, u5⟩, _⟩ := (hR3.store6 (.bool x.v.b) (.slice x.v.A x.v.n x.v.c) (.bool x.v.p) (.slice x.v.E x.v.m x.v.q) (.int .i64 ca) (.int .i64 an)).cells6
      refine bodyPost_ret (v := .tuple #[.agg #[.bool x.v.b, .slice x.v.A x.v.n x.v.c, .bool x.v.p, .slice x.v.E x.v.m x.v.q, .int .i64 ca, .int .i64 an], .int .i64 0]) (by generalize World.setCell (World.setCell (World.setCell (World.setCell (World.setCell (World.setCell _ _ _) _ _) _ _) _ _) _ _) _ _ = W6 at u0 u1 u2 u3 u4 u5 ⊢; simp [results, Try.results47, go_sem, u0, u1, u2, u3, u4, u5]) rfl ?_
      refine ⟨⟨x.v, ca, an⟩, rfl, ?_, ?_, ?_, ?_, ?_⟩
      · rfl
      · exact hOK.set6 (fun hz a ha => by have := hOld.1 hz a ha; omega) (fun hz a ha => by have := hOld.2 hz a ha; omega) _ _ _ _ _ _
      · exact below_set6 hR3.later (by omega) _ _ _ _ _ _
      · exact hOld.1
      · exact hOld.2

set_option maxRecDepth 100000 in
set_option maxHeartbeats 4000000 in
theorem etoggle_any (x : SV) (li lf : Int) (sg : Bool) (w : World) (h : x.v.ok w) (hf : x.v.fit) (B : Nat) (hOld : x.olds B) (hBw : B ≤ w.heap.size) :
    Calls Try.prog 48 #[.agg #[.bool x.v.b, .slice x.v.A x.v.n x.v.c, .bool x.v.p, .slice x.v.E x.v.m x.v.q, .int .i64 x.c, .int .i64 x.a], .agg #[.int .i64 li, .int .i64 lf, .bool sg]] w (RSE B w (toggleS x.s sg).1 (toggleS x.s sg).2) := by
  have hm := Lib.hid (fun W (hW : x.v.ok W) => emay_any x W hW hf)
  have hIN : Hid (toggleS x.s sg = if mayS x.s then (if sg then (⟨negD x.v.d (!x.v.b), x.c, x.a⟩, 0) else (St.zero, 5)) else (St.zero, 1)) := rfl
  have hx0 := (((SB.made w w 61 x (Later.refl w) h (w.heap.size) (by simp)).alloc (.cells #[.int .i64 li, .int .i64 lf, .bool sg] 65)).alloc (.cells #[.bool false, .slice none 0 0, .bool false, .slice none 0 0, .int .i64 0, .int .i64 0] 61))
  have hL0 := ((Blk.made w (w.alloc (.cells #[.bool x.v.b, .slice x.v.A x.v.n x.v.c, .bool x.v.p, .slice x.v.E x.v.m x.v.q, .int .i64 x.c, .int .i64 x.a] 61)) 65 #[.int .i64 li, .int .i64 lf, .bool sg] ((Later.refl w).alloc _) (w.heap.size + 1) (by simp)).alloc (.cells #[.bool false, .slice none 0 0, .bool false, .slice none 0 0, .int .i64 0, .int .i64 0] 61))
  have hR0 := (Blk.made w ((w.alloc (.cells #[.bool x.v.b, .slice x.v.A x.v.n x.v.c, .bool x.v.p, .slice x.v.E x.v.m x.v.q, .int .i64 x.c, .int .i64 x.a] 61)).alloc (.cells #[.int .i64 li, .int .i64 lf, .bool sg] 65)) 61 #[.bool false, .slice none 0 0, .bool false, .slice none 0 0, .int .i64 0, .int .i64 0] (((Later.refl w).alloc _).alloc _) (w.heap.size + 2) (by simp))
  generalize toggleS x.s sg = D at *
  cases hmm : mayS x.s
  · rw [hmm] at hm hIN
    have HD : Hid (D = (St.zero, 1)) := by rw [Hid, hIN.out]; rfl
    clear hmm hIN
    go_enter Try.func48, Try.ntmps48
    go_upto_region 1 with fail
    generalize World.alloc (World.alloc (World.alloc w _) _) _ = w1 at *
    have qx0 := hx0.c0
    have qx1 := hx0.c1
    have qx2 := hx0.c2
    have qx3 := hx0.c3
    have qx4 := hx0.c4
    have qx5 := hx0.c5
    go_wp2_with fail
    refine (hm.out _ hx0.ok).mono ?_
    rintro e w2 ⟨rfl, hB2⟩
    clear qx0 qx1 qx2 qx3 qx4 qx5
    have hx2 := hx0.call hB2
    clear hx0
    have hL2 := hL0.call hB2
    clear hL0
    have hR2 := hR0.call hB2
    clear hR0
    obtain ⟨⟨R0, R1, R2, R3, R4, R5⟩, ⟨Rf0, Rf1, Rf2, Rf3, Rf4, Rf5⟩⟩ := hR2.cells6
    go_wp2_with fail
    rw [HD.out]
    obtain ⟨⟨u0, u1, u2, u3, u4, u5⟩, _⟩ := (hR2.store6 (.bool false) (.slice none 0 0) (.bool false) (.slice none 0 0) (.int .i64 0) (.int .i64 0)).cells6
    refine bodyPost_ret (v := .tuple #[.agg #[.bool false, .slice none 0 0, .bool false, .slice none 0 0, .int .i64 0, .int .i64 0], .int .i64 1]) (by generalize World.setCell (World.setCell (World.setCell (World.setCell (World.setCell (World.setCell _ _ _) _ _) _ _) _ _) _ _) _ _ = W6 at u0 u1 u2 u3 u4 u5 ⊢; simp [results, Try.results48, go_sem, u0, u1, u2, u3, u4, u5]) rfl ?_
    exact ⟨⟨⟨false, none, 0, 0, [], false, none, 0, 0, []⟩, 0, 0⟩, rfl, rfl, ⟨IL.nil _, IL.nil _⟩, below_set6 hR2.later (by omega) _ _ _ _ _ _, none_old _, none_old _⟩
  · rw [hmm] at hm hIN
    clear hmm
    go_enter Try.func48, Try.ntmps48
    go_upto_region 1 with fail
    generalize World.alloc (World.alloc (World.alloc w _) _) _ = w1 at *
    have qx0 := hx0.c0
    have qx1 := hx0.c1
    have qx2 := hx0.c2
    have qx3 := hx0.c3
    have qx4 := hx0.c4
    have qx5 := hx0.c5
    go_wp2_with fail
    refine (hm.out _ hx0.ok).mono ?_
    rintro e w2 ⟨rfl, hB2⟩
    clear qx0 qx1 qx2 qx3 qx4 qx5
    have hx2 := hx0.call hB2
    clear hx0
    have hL2 := hL0.call hB2
    clear hL0
    have hR2 := hR0.call hB2
    clear hR0
    cases sg
    · have HD : Hid (D = (St.zero, 5)) := by rw [Hid, hIN.out]; rfl
      obtain ⟨⟨L0, L1, L2⟩, ⟨Lf0, Lf1, Lf2⟩⟩ := hL2.cells3
      obtain ⟨⟨R0, R1, R2, R3, R4, R5⟩, ⟨Rf0, Rf1, Rf2, Rf3, Rf4, Rf5⟩⟩ := hR2.cells6
      go_wp2_with fail
      rw [HD.out]
      obtain ⟨⟨u0, u1, u2, u3, u4, u5⟩, _⟩ := (hR2.store6 (.bool false) (.slice none 0 0) (.bool false) (.slice none 0 0) (.int .i64 0) (.int .i64 0)).cells6
      refine bodyPost_ret (v := .tuple #[.agg #[.bool false, .slice none 0 0, .bool false, .slice none 0 0, .int .i64 0, .int .i64 0], .int .i64 5]) (by generalize World.setCell (World.setCell (World.setCell (World.setCell (World.setCell (World.setCell _ _ _) _ _) _ _) _ _) _ _) _ _ = W6 at u0 u1 u2 u3 u4 u5 ⊢; simp [results, Try.results48, go_sem, u0, u1, u2, u3, u4, u5]) rfl ?_
      exact ⟨⟨⟨false, none, 0, 0, [], false, none, 0, 0, []⟩, 0, 0⟩, rfl, rfl, ⟨IL.nil _, IL.nil _⟩, below_set6 hR2.later (by omega) _ _ _ _ _ _, none_old _, none_old _⟩
    · have HD : Hid (D = (⟨negD x.v.d (!x.v.b), x.c, x.a⟩, 0)) := by rw [Hid, hIN.out]; rfl
      obtain ⟨⟨L0, L1, L2⟩, ⟨Lf0, Lf1, Lf2⟩⟩ := hL2.cells3
      have hxn := hx2.neg (!x.v.b) (fun hz a ha => by have := hOld.1 hz a ha; omega) (fun hz a ha => by have := hOld.2 hz a ha; omega)
      have hRn := hR2.far (p := ⟨w.heap.size, 0, none⟩) (by simp only; omega) (Nat.le_refl _) (.bool (!x.v.b))
      obtain ⟨⟨x0, x1, x2, x3, x4, x5⟩, ⟨y0, y1, y2, y3, y4, y5⟩⟩ := hx2.1.cells6
      go_upto_region 6 with fail
      clear x0 x1 x2 x3 x4 x5 y0 y1 y2 y3 y4 y5 L0 L1 L2 Lf0 Lf1 Lf2
      clear hx2 hR2 hL2
      generalize World.setCell w2 _ _ = w9 at *
      have hOK := hxn.ok
      have qx0 := hxn.c0
      have qx1 := hxn.c1
      have qx2 := hxn.c2
      have qx3 := hxn.c3
      have qx4 := hxn.c4
      have qx5 := hxn.c5
      obtain ⟨⟨R0, R1, R2, R3, R4, R5⟩, ⟨Rf0, Rf1, Rf2, Rf3, Rf4, Rf5⟩⟩ := hRn.cells6
      go_wp2_with fail
      rw [HD.out]
      obtain ⟨⟨u0, u1, u2, u3, u4, u5⟩, _⟩ := (hRn.store6 (.bool (x.ng (!x.v.b)).v.b) (.slice (x.ng (!x.v.b)).v.A (x.ng (!x.v.b)).v.n (x.ng (!x.v.b)).v.c) (.bool (x.ng (!x.v.b)).v.p) (.slice (x.ng (!x.v.b)).v.E (x.ng (!x.v.b)).v.m (x.ng (!x.v.b)).v.q) (.int .i64 (x.ng (!x.v.b)).c) (.int .i64 (x.ng (!x.v.b)).a)).cells6
      refine bodyPost_ret (v := .tuple #[.agg #[.bool (x.ng (!x.v.b)).v.b, .slice (x.ng (!x.v.b)).v.A (x.ng (!x.v.b)).v.n (x.ng (!x.v.b)).v.c, .bool (x.ng (!x.v.b)).v.p, .slice (x.ng (!x.v.b)).v.E (x.ng (!x.v.b)).v.m (x.ng (!x.v.b)).v.q, .int .i64 (x.ng (!x.v.b)).c, .int .i64 (x.ng (!x.v.b)).a], .int .i64 0]) (by generalize World.setCell (World.setCell (World.setCell (World.setCell (World.setCell (World.setCell _ _ _) _ _) _ _) _ _) _ _) _ _ = W6 at u0 u1 u2 u3 u4 u5 ⊢; simp [results, Try.results48, go_sem, u0, u1, u2, u3, u4, u5]) rfl ?_
      refine ⟨⟨(x.ng (!x.v.b)).v, (x.ng (!x.v.b)).c, (x.ng (!x.v.b)).a⟩, rfl, ?_, ?_, ?_, ?_, ?_⟩
      · rfl
      · exact hOK.set6 (fun hz a ha => by have := hOld.1 hz a ha; omega) (fun hz a ha => by have := hOld.2 hz a ha; omega) _ _ _ _ _ _
      · exact below_set6 hRn.later (by omega) _ _ _ _ _ _
      · exact hOld.1
      · exact hOld.2

set_option maxRecDepth 100000 in
set_option maxHeartbeats 4000000 in
theorem rstoggle_any (x : SV) (li lf : Int) (sg : Bool) (w : World) (h : x.v.ok w) (hf : x.v.fit) (B : Nat) (hOld : x.olds B) (hBw : B ≤ w.heap.size) :
    Calls Try.prog 49 #[.agg #[.bool x.v.b, .slice x.v.A x.v.n x.v.c, .bool x.v.p, .slice x.v.E x.v.m x.v.q, .int .i64 x.c, .int .i64 x.a], .agg #[.int .i64 li, .int .i64 lf, .bool sg]] w (RSE B w (toggleS x.s sg).1 (toggleS x.s sg).2) := by
  have hm := Lib.hid (fun W (hW : x.v.ok W) => rsmay_any x W hW hf)
  have hIN : Hid (toggleS x.s sg = if mayS x.s then (if sg then (⟨negD x.v.d (!x.v.b), x.c, x.a⟩, 0) else (St.zero, 5)) else (St.zero, 1)) := rfl
  have hx0 := (((SB.made w w 53 x (Later.refl w) h (w.heap.size) (by simp)).alloc (.cells #[.int .i64 li, .int .i64 lf, .bool sg] 55)).alloc (.cells #[.bool false, .slice none 0 0, .bool false, .slice none 0 0, .int .i64 0, .int .i64 0] 53))
  have hL0 := ((Blk.made w (w.alloc (.cells #[.bool x.v.b, .slice x.v.A x.v.n x.v.c, .bool x.v.p, .slice x.v.E x.v.m x.v.q, .int .i64 x.c, .int .i64 x.a] 53)) 55 #[.int .i64 li, .int .i64 lf, .bool sg] ((Later.refl w).alloc _) (w.heap.size + 1) (by simp)).alloc (.cells #[.bool false, .slice none 0 0, .bool false, .slice none 0 0, .int .i64 0, .int .i64 0] 53))
  have hR0 := (Blk.made w ((w.alloc (.cells #[.bool x.v.b, .slice x.v.A x.v.n x.v.c, .bool x.v.p, .slice x.v.E x.v.m x.v.q, .int .i64 x.c, .int .i64 x.a] 53)).alloc (.cells #[.int .i64 li, .int .i64 lf, .bool sg] 55)) 53 #[.bool false, .slice none 0 0, .bool false, .slice none 0 0, .int .i64 0, .int .i64 0] (((Later.refl w).alloc _).alloc _) (w.heap.size + 2) (by simp))
  generalize toggleS x.s sg = D at *
  cases hmm : mayS x.s
  · rw [hmm] at hm hIN
    have HD : Hid (D = (St.zero, 1)) := by rw [Hid, hIN.out]; rfl
    clear hmm hIN
    go_enter Try.func49, Try.ntmps49
    go_upto_region 1 with fail
    generalize World.alloc (World.alloc (World.alloc w _) _) _ = w1 at *
    have qx0 := hx0.c0
    have qx1 := hx0.c1
    have qx2 := hx0.c2
    have qx3 := hx0.c3
    have qx4 := hx0.c4
    have qx5 := hx0.c5
    go_wp2_with fail
    refine (hm.out _ hx0.ok).mono ?_
    rintro e w2 ⟨rfl, hB2⟩
    clear qx0 qx1 qx2 qx3 qx4 qx5
    have hx2 := hx0.call hB2
    clear hx0
    have hL2 := hL0.call hB2
    clear hL0
    have hR2 := hR0.call hB2
    clear hR0
    obtain ⟨⟨R0, R1, R2, R3, R4, R5⟩, ⟨Rf0, Rf1, Rf2, Rf3, Rf4, Rf5⟩⟩ := hR2.cells6
    go_wp2_with fail
    rw [HD.out]
    obtain ⟨⟨u0, u1, u2, u3, u4, u5⟩, _⟩ := (hR2.store6 (.bool false) (.slice none 0 0) (.bool false) (.slice none 0 0) (.int .i64 0) (.int .i64 0)).cells6
    refine bodyPost_ret (v := .tuple #[.agg #[.bool false, .slice none 0 0, .bool false, .slice none 0 0, .int .i64 0, .int .i64 0], .int .i64 1]) (by generalize World.setCell (World.setCell (World.setCell (World.setCell (World.setCell (World.setCell _ _ _) _ _) _ _) _ _) _ _) _ _ = W6 at u0 u1 u2 u3 u4 u5 ⊢; simp [results, Try.results49, go_sem, u0, u1, u2, u3, u4, u5]) rfl ?_
    exact ⟨⟨⟨false, none, 0, 0, [], false, none, 0, 0, []⟩, 0, 0⟩, rfl, rfl, ⟨IL.nil _, IL.nil _⟩, below_set6 hR2.later (by omega) _ _ _ _ _ _, none_old _, none_old _⟩
  · rw [hmm] at hm hIN
    clear hmm
    go_enter Try.func49, Try.ntmps49
    go_upto_region 1 with fail
    generalize World.alloc (World.alloc (World.alloc w _) _) _ = w1 at *
    have qx0 := hx0.c0
    have qx1 := hx0.c1
    have qx2 := hx0.c2
    have qx3 := hx0.c3
    have qx4 := hx0.c4
    have qx5 := hx0.c5
    go_wp2_with fail
    refine (hm.out _ hx0.ok).mono ?_
    rintro e w2 ⟨rfl, hB2⟩
    clear qx0 qx1 qx2 qx3 qx4 qx5
    have hx2 := hx0.call hB2
    clear hx0
    have hL2 := hL0.call hB2
    clear hL0
    have hR2 := hR0.call hB2
    clear hR0
    cases sg
    · have HD : Hid (D = (St.zero, 5)) := by rw [Hid, hIN.out]; rfl
      obtain ⟨⟨L0, L1, L2⟩, ⟨Lf0, Lf1, Lf2⟩⟩ := hL2.cells3
      obtain ⟨⟨R0, R1, R2, R3, R4, R5⟩, ⟨Rf0, Rf1, Rf2, Rf3, Rf4, Rf5⟩⟩ := hR2.cells6
      go_wp2_with fail
      rw [HD.out]
      obtain ⟨⟨u0, u1, u2, u3, u4, u5⟩, _⟩ := (hR2.store6 (.bool false) (.slice none 0 0) (.bool false) (.slice none 0 0) (.int .i64 0) (.int .i64 0)).cells6
      refine bodyPost_ret (v := .tuple #[.agg #[.bool false, .slice none 0 0, .bool false, .slice none 0 0, .int .i64 0, .int .i64 0], .int .i64 5]) (by generalize World.setCell (World.setCell (World.setCell (World.setCell (World.setCell (World.setCell _ _ _) _ _) _ _) _ _) _ _) _ _ = W6 at u0 u1 u2 u3 u4 u5 ⊢; simp [results, Try.results49, go_sem, u0, u1, u2, u3, u4, u5]) rfl ?_
      exact ⟨⟨⟨false, none, 0, 0, [], false, none, 0, 0, []⟩, 0, 0⟩, rfl, rfl, ⟨IL.nil _, IL.nil _⟩, below_set6 hR2.later (by omega) _ _ _ _ _ _, none_old _, none_old _⟩
    · have HD : Hid (D = (⟨negD x.v.d (!x.v.b), x.c, x.a⟩, 0)) := by rw [Hid, hIN.out]; rfl
      obtain ⟨⟨L0, L1, L2⟩, ⟨Lf0, Lf1, Lf2⟩⟩ := hL2.cells3
      have hxn := hx2.neg (!x.v.b) (fun hz a ha => by have := hOld.1 hz a ha; omega) (fun hz a ha => by have := hOld.2 hz a ha; omega)
      have hRn := hR2.far (p := ⟨w.heap.size, 0, none⟩) (by simp only; omega) (Nat.le_refl _) (.bool (!x.v.b))
      obtain ⟨⟨x0, x1, x2, x3, x4, x5⟩, ⟨y0, y1, y2, y3, y4, y5⟩⟩ := hx2.1.cells6
      go_upto_region 7 with fail
      clear x0 x1 x2 x3 x4 x5 y0 y1 y2 y3 y4 y5 L0 L1 L2 Lf0 Lf1 Lf2
      clear hx2 hR2 hL2
      generalize World.setCell w2 _ _ = w9 at *
      have hOK := hxn.ok
      have qx0 := hxn.c0
      have qx1 := hxn.c1
      have qx2 := hxn.c2
      have qx3 := hxn.c3
      have qx4 := hxn.c4
      have qx5 := hxn.c5
      obtain ⟨⟨R0, R1, R2, R3, R4, R5⟩, ⟨Rf0, Rf1, Rf2, Rf3, Rf4, Rf5⟩⟩ := hRn.cells6
      go_wp2_with fail
      rw [HD.out]
      obtain ⟨⟨u0, u1, u2, u3, u4, u5⟩, _⟩ := (hRn.store6 (.bool (x.ng (!x.v.b)).v.b) (.slice (x.ng (!x.v.b)).v.A (x.ng (!x.v.b)).v.n (x.ng (!x.v.b)).v.c) (.bool (x.ng (!x.v.b)).v.p) (.slice (x.ng (!x.v.b)).v.E (x.ng (!x.v.b)).v.m (x.ng (!x.v.b)).v.q) (.int .i64 (x.ng (!x.v.b)).c) (.int .i64 (x.ng (!x.v.b)).a)).cells6
      refine bodyPost_ret (v := .tuple #[.agg #[.bool (x.ng (!x.v.b)).v.b, .slice (x.ng (!x.v.b)).v.A (x.ng (!x.v.b)).v.n (x.ng (!x.v.b)).v.c, .bool (x.ng (!x.v.b)).v.p, .slice (x.ng (!x.v.b)).v.E (x.ng (!x.v.b)).v.m (x.ng (!x.v.b)).v.q, .int .i64 (x.ng (!x.v.b)).c, .int .i64 (x.ng (!x.v.b)).a], .int .i64 0]) (by generalize World.setCell (World.setCell (World.setCell (World.setCell (World.setCell (World.setCell _ _ _) _ _) _ _) _ _) _ _) _ _ = W6 at u0 u1 u2 u3 u4 u5 ⊢; simp [results, Try.results49, go_sem, u0, u1, u2, u3, u4, u5]) rfl ?_
      refine ⟨⟨(x.ng (!x.v.b)).v, (x.ng (!x.v.b)).c, (x.ng (!x.v.b)).a⟩, rfl, ?_, ?_, ?_, ?_, ?_⟩
      · rfl
      · exact hOK.set6 (fun hz a ha => by have := hOld.1 hz a ha; omega) (fun hz a ha => by have := hOld.2 hz a ha; omega) _ _ _ _ _ _
      · exact below_set6 hRn.later (by omega) _ _ _ _ _ _
      · exact hOld.1
      · exact hOld.2

end Go.Proofs.Ytppkifdngjcbeaa
