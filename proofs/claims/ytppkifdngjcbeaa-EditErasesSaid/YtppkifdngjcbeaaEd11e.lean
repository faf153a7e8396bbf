/- The walk of the document's Erase. No condition. -/
import Derived.Test.YtppkifdngjcbeaaEd8
import Derived.Test.YtppkifdngjcbeaaEd10
import Derived.Test.YtppkifdngjcbeaaDr7
import Derived.BigQuiet
namespace Go.Proofs.Ytppkifdngjcbeaa
open Go.RowKit
set_option linter.unusedSimpArgs false

set_option maxRecDepth 100000 in
set_option maxHeartbeats 8000000 in
theorem rserase_any (x : SV) (li lf : Int) (sg : Bool) (what : Int) (w : World) (h : x.v.ok w) (hf : x.v.fit) :
    Calls Try.prog 34 #[.agg #[.bool x.v.b, .slice x.v.A x.v.n x.v.c, .bool x.v.p, .slice x.v.E x.v.m x.v.q, .int .i64 x.c, .int .i64 x.a], .agg #[.int .i64 li, .int .i64 lf, .bool sg], .int .i64 what] w (RSF w (eraseS x.s li lf what).1 (eraseS x.s li lf what).2) := by
  have hm := Lib.hid (fun W (hW : x.v.ok W) => rsmay_any x W hW hf)
  have hat := Lib.hid (fun W (hW : x.v.ok W) => show Calls Try.prog 41 #[.agg #[.bool x.v.b, .slice x.v.A x.v.n x.v.c, .bool x.v.p, .slice x.v.E x.v.m x.v.q]] W (RL W (atomsR x.v.d)) from (ratoms_any x.v.b x.v.p W hW.1 hW.2 (by have := hf.2.2.1; omega) (by have := hf.2.2.2; omega)).mono (fun _ _ h => h.rl))
  have hsp := Lib.hid (fun (i j : Int) (hi : I6 i) (hj : I6 j) W (hW : x.v.ok W) => show Calls Try.prog 79 #[.agg #[.bool x.v.b, .slice x.v.A x.v.n x.v.c, .bool x.v.p, .slice x.v.E x.v.m x.v.q], .int .i64 i, .int .i64 j, .slice none 0 0] W (RDV W (spliceS x.v.d i j []).1 (spliceS x.v.d i j []).2) from (rsplice_any x.v.b x.v.p i j W hW.1 hW.2 (IL.nil _) hf.1 hf.2.1 (fun _ hx => by cases hx) hf.2.2.1 hf.2.2.2 (by omega) hi hj).mono (fun _ _ q => q.dv))
  have hIN : Hid (eraseS x.s li lf what = if mayS x.s && decide (0 ≤ what) && decide (what ≤ 6) then
    if (spanE x.s what).1 = (spanE x.s what).2 ∧ (x.v.b && !(what == 6)) = x.v.b then (St.zero, 7)
    else if fitsD (spliceS x.v.d (spanE x.s what).1 (spanE x.s what).2 []).1 li lf then (⟨negD (spliceS x.v.d (spanE x.s what).1 (spanE x.s what).2 []).1 (x.v.b && !(what == 6)), (spanE x.s what).1, (spanE x.s what).1⟩, 0)
    else (St.zero, 4)
  else (St.zero, 1)) := rfl
  have hSE : Hid (spanE x.s what = if what = 6 then (0, lenR x.v.d) else if frontS x.s = backS x.s then (if x.c < toS x.v.d x.c what then x.c else toS x.v.d x.c what, if toS x.v.d x.c what < x.c then x.c else toS x.v.d x.c what) else (frontS x.s, backS x.s)) := rfl
  have hbd := lenR_le h hf
  have hle : Hid (lenR x.v.d = ((atomsR x.v.d).length : Int)) := rfl
  have hfr : Hid (frontS x.s = if x.a < x.c then x.a else x.c) := rfl
  have hbk : Hid (backS x.s = if x.c < x.a then x.a else x.c) := rfl
  have hOx := h.old
  have hx0 := (((SB.made w w 53 x (Later.refl w) h (w.heap.size) (by simp)).alloc (.cells #[.int .i64 li, .int .i64 lf, .bool sg] 55)).alloc (.cells #[.bool false, .slice none 0 0, .bool false, .slice none 0 0, .int .i64 0, .int .i64 0] 53))
  have hL0 := ((Blk.made w (w.alloc (.cells #[.bool x.v.b, .slice x.v.A x.v.n x.v.c, .bool x.v.p, .slice x.v.E x.v.m x.v.q, .int .i64 x.c, .int .i64 x.a] 53)) 55 #[.int .i64 li, .int .i64 lf, .bool sg] ((Later.refl w).alloc _) (w.heap.size + 1) (by simp)).alloc (.cells #[.bool false, .slice none 0 0, .bool false, .slice none 0 0, .int .i64 0, .int .i64 0] 53))
  have hR0 := (Blk.made w ((w.alloc (.cells #[.bool x.v.b, .slice x.v.A x.v.n x.v.c, .bool x.v.p, .slice x.v.E x.v.m x.v.q, .int .i64 x.c, .int .i64 x.a] 53)).alloc (.cells #[.int .i64 li, .int .i64 lf, .bool sg] 55)) 53 #[.bool false, .slice none 0 0, .bool false, .slice none 0 0, .int .i64 0, .int .i64 0] (((Later.refl w).alloc _).alloc _) (w.heap.size + 2) (by simp))
  generalize eraseS x.s li lf what = D at *
  cases hmm : mayS x.s
  · rw [hmm] at hm hIN
    have HD : Hid (D = (St.zero, 1)) := by rw [Hid, hIN.out]; rfl
    clear hmm hIN
    go_enter Try.func34, Try.ntmps34
    go_upto_region 1 with fail
    generalize World.alloc (World.alloc (World.alloc w _) _) _ = w1 at *
    have qx0 := hx0.c0
    have qx1 := hx0.c1
    have qx2 := hx0.c2
    have qx3 := hx0.c3
    have qx4 := hx0.c4
    have qx5 := hx0.c5
    go_wp2_with fail
    refine (hm.out _ hx0.ok).mono ?_
    rintro e w2 ⟨rfl, hB2⟩
    clear qx0 qx1 qx2 qx3 qx4 qx5
    have hx2 := hx0.call hB2
    clear hx0
    have hL2 := hL0.call hB2
    clear hL0
    have hR2 := hR0.call hB2
    clear hR0
    obtain ⟨⟨R0, R1, R2, R3, R4, R5⟩, ⟨Rf0, Rf1, Rf2, Rf3, Rf4, Rf5⟩⟩ := hR2.cells6
    go_wp2_with fail
    rw [HD.out]
    obtain ⟨⟨u0, u1, u2, u3, u4, u5⟩, _⟩ := (hR2.store6 (.bool false) (.slice none 0 0) (.bool false) (.slice none 0 0) (.int .i64 0) (.int .i64 0)).cells6
    refine bodyPost_ret (v := .tuple #[.agg #[.bool false, .slice none 0 0, .bool false, .slice none 0 0, .int .i64 0, .int .i64 0], .int .i64 1]) (by generalize World.setCell (World.setCell (World.setCell (World.setCell (World.setCell (World.setCell _ _ _) _ _) _ _) _ _) _ _) _ _ = W6 at u0 u1 u2 u3 u4 u5 ⊢; simp [results, Try.results34, go_sem, u0, u1, u2, u3, u4, u5]) rfl ?_
    exact ⟨⟨⟨false, none, 0, 0, [], false, none, 0, 0, []⟩, 0, 0⟩, rfl, rfl, ⟨IL.nil _, IL.nil _⟩, below_set6 hR2.later (by omega) _ _ _ _ _ _, none_newer _, none_newer _⟩
  · rw [hmm] at hm hIN
    have hcar : Car x := (mayS_iff.1 hmm).2.1
    have hmd : mayDr x.v.d = true := (mayS_iff.1 hmm).1
    have hfb := front_back hmm
    by_cases hk0 : 0 ≤ what
    case neg =>
      have hkb : what < 0 := by omega
      have HD : Hid (D = (St.zero, 1)) := by rw [Hid, hIN.out]; simp; intro q; omega
      go_enter Try.func34, Try.ntmps34
      go_upto_region 1 with fail
      generalize World.alloc (World.alloc (World.alloc w _) _) _ = w1 at *
      have qx0 := hx0.c0
      have qx1 := hx0.c1
      have qx2 := hx0.c2
      have qx3 := hx0.c3
      have qx4 := hx0.c4
      have qx5 := hx0.c5
      go_wp2_with fail
      refine (hm.out _ hx0.ok).mono ?_
      rintro e w2 ⟨rfl, hB2⟩
      clear qx0 qx1 qx2 qx3 qx4 qx5
      have hx2 := hx0.call hB2
      clear hx0
      have hL2 := hL0.call hB2
      clear hL0
      have hR2 := hR0.call hB2
      clear hR0
      obtain ⟨⟨R0, R1, R2, R3, R4, R5⟩, ⟨Rf0, Rf1, Rf2, Rf3, Rf4, Rf5⟩⟩ := hR2.cells6
      go_wp2_with fail
      rw [HD.out]
      obtain ⟨⟨u0, u1, u2, u3, u4, u5⟩, _⟩ := (hR2.store6 (.bool false) (.slice none 0 0) (.bool false) (.slice none 0 0) (.int .i64 0) (.int .i64 0)).cells6
      refine bodyPost_ret (v := .tuple #[.agg #[.bool false, .slice none 0 0, .bool false, .slice none 0 0, .int .i64 0, .int .i64 0], .int .i64 1]) (by generalize World.setCell (World.setCell (World.setCell (World.setCell (World.setCell (World.setCell _ _ _) _ _) _ _) _ _) _ _) _ _ = W6 at u0 u1 u2 u3 u4 u5 ⊢; simp [results, Try.results34, go_sem, u0, u1, u2, u3, u4, u5]) rfl ?_
      exact ⟨⟨⟨false, none, 0, 0, [], false, none, 0, 0, []⟩, 0, 0⟩, rfl, rfl, ⟨IL.nil _, IL.nil _⟩, below_set6 hR2.later (by omega) _ _ _ _ _ _, none_newer _, none_newer _⟩
    by_cases hk6 : what ≤ 6
    case neg =>
      have hkb : ¬ what < 0 := by omega
      have hkc : 6 < what := by omega
      have HD : Hid (D = (St.zero, 1)) := by rw [Hid, hIN.out]; simp; intros; omega
      go_enter Try.func34, Try.ntmps34
      go_upto_region 1 with fail
      generalize World.alloc (World.alloc (World.alloc w _) _) _ = w1 at *
      have qx0 := hx0.c0
      have qx1 := hx0.c1
      have qx2 := hx0.c2
      have qx3 := hx0.c3
      have qx4 := hx0.c4
      have qx5 := hx0.c5
      go_wp2_with fail
      refine (hm.out _ hx0.ok).mono ?_
      rintro e w2 ⟨rfl, hB2⟩
      clear qx0 qx1 qx2 qx3 qx4 qx5
      have hx2 := hx0.call hB2
      clear hx0
      have hL2 := hL0.call hB2
      clear hL0
      have hR2 := hR0.call hB2
      clear hR0
      obtain ⟨⟨R0, R1, R2, R3, R4, R5⟩, ⟨Rf0, Rf1, Rf2, Rf3, Rf4, Rf5⟩⟩ := hR2.cells6
      go_wp2_with fail
      rw [HD.out]
      obtain ⟨⟨u0, u1, u2, u3, u4, u5⟩, _⟩ := (hR2.store6 (.bool false) (.slice none 0 0) (.bool false) (.slice none 0 0) (.int .i64 0) (.int .i64 0)).cells6
      refine bodyPost_ret (v := .tuple #[.agg #[.bool false, .slice none 0 0, .bool false, .slice none 0 0, .int .i64 0, .int .i64 0], .int .i64 1]) (by generalize World.setCell (World.setCell (World.setCell (World.setCell (World.setCell (World.setCell _ _ _) _ _) _ _) _ _) _ _) _ _ = W6 at u0 u1 u2 u3 u4 u5 ⊢; simp [results, Try.results34, go_sem, u0, u1, u2, u3, u4, u5]) rfl ?_
      exact ⟨⟨⟨false, none, 0, 0, [], false, none, 0, 0, []⟩, 0, 0⟩, rfl, rfl, ⟨IL.nil _, IL.nil _⟩, below_set6 hR2.later (by omega) _ _ _ _ _ _, none_newer _, none_newer _⟩
    have hto := Lib.hid (fun W (hW : x.v.ok W) => rto_any x what W hW hf hmm hk0 hk6)
    clear hmm
    have hkb : ¬ what < 0 := by omega
    have hkc : ¬ 6 < what := by omega
    have hIM : Hid (D = if (spanE x.s what).1 = (spanE x.s what).2 ∧ (x.v.b && !(what == 6)) = x.v.b then (St.zero, 7)
      else if fitsD (spliceS x.v.d (spanE x.s what).1 (spanE x.s what).2 []).1 li lf then (⟨negD (spliceS x.v.d (spanE x.s what).1 (spanE x.s what).2 []).1 (x.v.b && !(what == 6)), (spanE x.s what).1, (spanE x.s what).1⟩, 0)
      else (St.zero, 4)) := by rw [Hid, hIN.out, if_pos]; simp [hk0, hk6]
    clear hIN
    have htb := toS_bd hcar what
    have hij : 0 ≤ (spanE x.s what).1 ∧ (spanE x.s what).1 ≤ (spanE x.s what).2 ∧ (spanE x.s what).2 ≤ lenR x.v.d := by
      rw [hSE.out]
      obtain ⟨c1, c2⟩ := hcar
      obtain ⟨f1, f2, f3⟩ := hfb
      have f3' : backS x.s ≤ lenR x.v.d := f3
      split
      · exact ⟨by simp only; omega, by simp only; omega, by simp only; omega⟩
      · split
        · simp only
          split <;> split <;> omega
        · exact ⟨f1, f2, f3'⟩
    obtain ⟨Q, hQe, hQn, hQm, hQa⟩ := splice_cut hmd hij.1 hij.2.1 hij.2.2
    have hsp1 := Lib.hid (hsp.out (spanE x.s what).1 (spanE x.s what).2 ⟨by omega, by omega⟩ ⟨by omega, by omega⟩)
    rw [hQe] at hsp1 hIM
    clear hsp hQe hQm hQa hfb htb hcar hmd
    generalize toS x.v.d x.c what = t at *
    generalize spanE x.s what = ij at *
    obtain ⟨i, j⟩ := ij
    generalize frontS x.s = fr at *
    generalize backS x.s = bk at *
    generalize lenR x.v.d = nn at *
    obtain ⟨i0, hi0⟩ : ∃ i0, Hid (i0 = if fr = bk then (if t < x.c then t else x.c) else fr) := ⟨_, rfl⟩
    obtain ⟨j0, hj0⟩ : ∃ j0, Hid (j0 = if fr = bk then (if x.c < t then t else x.c) else bk) := ⟨_, rfl⟩
    have hmn := hfr.out.symm
    have hmx := hbk.out.symm
    go_enter Try.func34, Try.ntmps34
    go_upto_region 1 with fail
    generalize World.alloc (World.alloc (World.alloc w _) _) _ = w1 at *
    have gR := hR0.lt
    have qx0 := hx0.c0
    have qx1 := hx0.c1
    have qx2 := hx0.c2
    have qx3 := hx0.c3
    have qx4 := hx0.c4
    have qx5 := hx0.c5
    go_wp2_with fail
    refine (hm.out _ hx0.ok).mono ?_
    rintro e w2 ⟨rfl, hB2⟩
    clear qx0 qx1 qx2 qx3 qx4 qx5
    have hx2 := hx0.call hB2
    clear hx0
    have hL2 := hL0.call hB2
    clear hL0
    have hR2 := hR0.call hB2
    clear hR0
    have qx0 := hx2.c0
    have qx1 := hx2.c1
    have qx2 := hx2.c2
    have qx3 := hx2.c3
    have qx4 := hx2.c4
    have qx5 := hx2.c5
    go_upto_if 39 with fail
    clear qx0 qx1 qx2 qx3 qx4 qx5 hmn hmx
    go_cut [9, 10] (fun s u W => s = .int .i64 i0 ∧ u = .int .i64 j0 ∧ Later w2 W)
    case first =>
      by_cases hfb : fr = bk
      case neg =>
        have e1 : Hid (i0 = fr) := by rw [Hid, hi0.out, if_neg hfb]
        have e2 : Hid (j0 = bk) := by rw [Hid, hj0.out, if_neg hfb]
        have hfbb : (fr == bk) = false := by simpa using hfb
        go_wp2_with fail
        go_meet
        exact ⟨by rw [e1.out], by rw [e2.out], Later.refl _⟩
      case pos =>
        have e1 : Hid (i0 = if t < x.c then t else x.c) := by rw [Hid, hi0.out, if_pos hfb]
        have e2 : Hid (j0 = if x.c < t then t else x.c) := by rw [Hid, hj0.out, if_pos hfb]
        subst hfb
        have hmn := e1.out.symm
        have hmx := e2.out.symm
        have hxx := hx2
        go_upto_region 7 with fail
        have KX0 := fun s : Ext w2 => Ext.cell hxx.c0 s
        have KX1 := fun s : Ext w2 => Ext.cell hxx.c1 s
        have KX2 := fun s : Ext w2 => Ext.cell hxx.c2 s
        have KX3 := fun s : Ext w2 => Ext.cell hxx.c3 s
        have KX4 := fun s : Ext w2 => Ext.cell hxx.c4 s
        have KX5 := fun s : Ext w2 => Ext.cell hxx.c5 s
        have ht2 := Lib.hid (fun s : Ext w2 => hto.out s.world (hxx.ok.below s.h))
        refine wp_region_ext (by kernel_rfl) (by kernel_rfl) ?_
        repeat (go_big_quiet_step (first
          | (go_at_call 78; exact quiet_ext _ (ht2.out _))))
        refine wpQuiet_nil ?_
        rintro _ ⟨s, rfl⟩
        have hxs := hxx.call s.h
        have hLs := s.h
        clear KX0 KX1 KX2 KX3 KX4 KX5 ht2 hxx
        generalize s.world = v7 at *
        go_upto_region 8 with fail
        have KX0 := fun s : Ext v7 => Ext.cell hxs.c0 s
        have KX1 := fun s : Ext v7 => Ext.cell hxs.c1 s
        have KX2 := fun s : Ext v7 => Ext.cell hxs.c2 s
        have KX3 := fun s : Ext v7 => Ext.cell hxs.c3 s
        have KX4 := fun s : Ext v7 => Ext.cell hxs.c4 s
        have KX5 := fun s : Ext v7 => Ext.cell hxs.c5 s
        have ht2 := Lib.hid (fun s : Ext v7 => hto.out s.world (hxs.ok.below s.h))
        refine wp_region_ext (by kernel_rfl) (by kernel_rfl) ?_
        repeat (go_big_quiet_step (first
          | (go_at_call 78; exact quiet_ext _ (ht2.out _))))
        refine wpQuiet_nil ?_
        rintro _ ⟨s2, rfl⟩
        go_wp2_with fail
        go_meet
        exact ⟨rfl, rfl, below_from hLs s2.h⟩
    case rest =>
      obtain ⟨rfl, rfl, hLc⟩ := hcut
      obtain ⟨w9, hw9⟩ : ∃ wm, wm = wc := ⟨_, rfl⟩
      rw [← hw9] at hLc
      rw [← hw9]
      clear hw9 hto
      have hx9 := hx2.call hLc
      have hR9 := hR2.call hLc
      have hL9 := hL2.call hLc
      clear hx2 hR2 hL2
      by_cases h6 : what = 6
      case pos =>
        subst h6
        have e : Hid ((i, j) = (0, nn)) := by rw [Hid, hSE.out]; rfl
        have hi1 : i = 0 := congrArg Prod.fst e.out
        have hj1 : j = nn := congrArg Prod.snd e.out
        clear e hSE hi0 hj0
        have qx0 := hx9.c0
        have qx1 := hx9.c1
        have qx2 := hx9.c2
        have qx3 := hx9.c3
        have qx4 := hx9.c4
        have qx5 := hx9.c5
        go_upto_region 12 with fail
        clear qx0 qx1 qx2 qx3 qx4 qx5
        have qx0 := hx9.c0
        have qx1 := hx9.c1
        have qx2 := hx9.c2
        have qx3 := hx9.c3
        have qx4 := hx9.c4
        have qx5 := hx9.c5
        go_wp2_with fail
        refine (hat.out _ hx9.ok).mono ?_
        rintro e w10 ⟨A7, n7, c7, rfl, hI7, hB10⟩
        clear qx0 qx1 qx2 qx3 qx4 qx5
        have hx10 := hx9.call hB10
        clear hx9
        have hR10 := hR9.call hB10
        clear hR9
        have hL10 := hL9.call hB10
        clear hL9
        have hn7 : nn = (n7 : Int) := by rw [hle.out, hI7.len]
        have hie : (0 : Int) = i := hi1.symm
        have hje : (n7 : Int) = j := by rw [hj1, hn7]
        clear hI7
        have hieH := Lib.hid hie
        have hjeH := Lib.hid hje
        clear hie hje hi1 hj1 hn7
        cases hxb : x.v.b
        case false =>
          have hxbH := Lib.hid hxb
          clear hxb
          by_cases hij2 : i = j
          case pos =>
            have HD : Hid (D = (St.zero, 7)) := by rw [Hid, hIM.out, if_pos]; exact ⟨hij2, by simp [hxbH.out, hxbH.out]⟩
            have hijb : ((0 : Int) == (n7 : Int)) = true := by rw [hieH.out, hjeH.out]; simpa using hij2
            have qx0 := hx10.c0
            have qx1 := hx10.c1
            have qx2 := hx10.c2
            have qx3 := hx10.c3
            have qx4 := hx10.c4
            have qx5 := hx10.c5
            rw [hxbH.out] at qx0
            clear hij2
            obtain ⟨⟨R0, R1, R2, R3, R4, R5⟩, ⟨Rf0, Rf1, Rf2, Rf3, Rf4, Rf5⟩⟩ := hR10.cells6
            go_wp2_with fail
            rw [HD.out]
            obtain ⟨⟨u0, u1, u2, u3, u4, u5⟩, _⟩ := (hR10.store6 (.bool false) (.slice none 0 0) (.bool false) (.slice none 0 0) (.int .i64 0) (.int .i64 0)).cells6
            refine bodyPost_ret (v := .tuple #[.agg #[.bool false, .slice none 0 0, .bool false, .slice none 0 0, .int .i64 0, .int .i64 0], .int .i64 7]) (by generalize World.setCell (World.setCell (World.setCell (World.setCell (World.setCell (World.setCell _ _ _) _ _) _ _) _ _) _ _) _ _ = W6 at u0 u1 u2 u3 u4 u5 ⊢; simp [results, Try.results34, go_sem, u0, u1, u2, u3, u4, u5]) rfl ?_
            exact ⟨⟨⟨false, none, 0, 0, [], false, none, 0, 0, []⟩, 0, 0⟩, rfl, rfl, ⟨IL.nil _, IL.nil _⟩, below_set6 hR10.later (by omega) _ _ _ _ _ _, none_newer _, none_newer _⟩
          case neg =>
            have hijb : ((0 : Int) == (n7 : Int)) = false := by rw [hieH.out, hjeH.out]; simpa using hij2
            have hIK : Hid (D = if fitsD Q li lf then (⟨negD Q false, i, i⟩, 0) else (St.zero, 4)) := by rw [Hid, hIM.out, if_neg]; (· simp [hxbH.out, hxbH.out]); (· simp [hxbH.out, hxbH.out, hij2])
            clear hij2
            have qx0 := hx10.c0
            have qx1 := hx10.c1
            have qx2 := hx10.c2
            have qx3 := hx10.c3
            have qx4 := hx10.c4
            have qx5 := hx10.c5
            rw [hxbH.out] at qx0
            go_upto_region 16 with fail
            clear qx0 qx1 qx2 qx3 qx4 qx5
            have qx0 := hx10.c0
            have qx1 := hx10.c1
            have qx2 := hx10.c2
            have qx3 := hx10.c3
            have qx4 := hx10.c4
            have qx5 := hx10.c5
            have gL0 := hx10.later.size
            have gR9 := hR10.lt
            have hsp2 := hsp1
            rw [← hieH.out, ← hjeH.out] at hsp2
            go_wp2_with fail
            refine (hsp2.out _ hx10.ok).mono ?_
            rintro e w11 ⟨y, rfl, hyq, hyo, hB11, hN9, hM9⟩
            clear qx0 qx1 qx2 qx3 qx4 qx5
            have hx11 := hx10.call hB11
            clear hx10
            have hR11 := hR10.call hB11
            clear hR10
            have hL11 := hL10.call hB11
            clear hL10
            have hyOld := hyo.old
            have gL := hx11.later.size
            have gR3 := hR11.lt
            have hd11 := DBk.made w w11 42 y hx11.later hyo _ rfl
            go_upto_region 17 with fail
            have hx_v9 := hx11.alloc (.cells #[.bool y.b, .slice y.A y.n y.c, .bool y.p, .slice y.E y.m y.q] 42)
            clear hx11
            have hR_v9 := hR11.alloc (.cells #[.bool y.b, .slice y.A y.n y.c, .bool y.p, .slice y.E y.m y.q] 42)
            clear hR11
            have hL_v9 := hL11.alloc (.cells #[.bool y.b, .slice y.A y.n y.c, .bool y.p, .slice y.E y.m y.q] 42)
            clear hL11
            generalize hgw : World.alloc w11 _ = v9 at *
            clear hgw
            have hyb : Hid (y.b = x.v.b) := (congrArg Dr.neg hyq.out).trans hQn
            have hd_n := hd11.neg false (fun hz a ha => by have := hyOld.1 hz a ha; omega) (fun hz a ha => by have := hyOld.2 hz a ha; omega)
            have hR_n := hR_v9.far (p := ⟨w11.heap.size, 0, none⟩) (by simp only; omega) gL (.bool false)
            have hL_n := hL_v9.far (p := ⟨w11.heap.size, 0, none⟩) (by simp only; omega) gL (.bool false)
            obtain ⟨⟨o0, o1, o2, o3⟩, ⟨p0, p1, p2, p3⟩⟩ := hd11.1.cells4
            go_upto_region 18 with fail
            clear o0 o1 o2 o3 p0 p1 p2 p3 hd11 hx_v9 hR_v9 hL_v9
            generalize hgs : World.setCell _ _ _ = v3 at *
            clear hgs
            have hln : Hid ((y.n : Int) = Q.int.length ∧ (y.m : Int) = Q.frac.length) := by rw [Hid, ← hyq.out]; exact hyo.lens
            cases hfq : fitsD Q li lf
            case false =>
              have HD : Hid (D = (St.zero, 4)) := by rw [Hid, hIK.out, hfq]; rfl
              have hnf : li < (y.n : Int) ∨ (¬ li < (y.n : Int) ∧ lf < (y.m : Int)) := by have q := hln.out; unfold fitsD at hfq; simp at hfq; omega
              rcases hnf with hn1 | ⟨hn1, hn2⟩
              · have qd0 := hd_n.c0
                have qd1 := hd_n.c1
                have qd2 := hd_n.c2
                have qd3 := hd_n.c3
                change _ = some (Value.bool false) at qd0; change _ = some (Value.slice y.A y.n y.c) at qd1; change _ = some (Value.bool y.p) at qd2; change _ = some (Value.slice y.E y.m y.q) at qd3
                obtain ⟨⟨L0, L1, L2⟩, ⟨Lf0, Lf1, Lf2⟩⟩ := hL_n.cells3
                obtain ⟨⟨R0, R1, R2, R3, R4, R5⟩, ⟨Rf0, Rf1, Rf2, Rf3, Rf4, Rf5⟩⟩ := hR_n.cells6
                go_wp2_with fail
                rw [HD.out]
                obtain ⟨⟨u0, u1, u2, u3, u4, u5⟩, _⟩ := (hR_n.store6 (.bool false) (.slice none 0 0) (.bool false) (.slice none 0 0) (.int .i64 0) (.int .i64 0)).cells6
                refine bodyPost_ret (v := .tuple #[.agg #[.bool false, .slice none 0 0, .bool false, .slice none 0 0, .int .i64 0, .int .i64 0], .int .i64 4]) (by generalize World.setCell (World.setCell (World.setCell (World.setCell (World.setCell (World.setCell _ _ _) _ _) _ _) _ _) _ _) _ _ = W6 at u0 u1 u2 u3 u4 u5 ⊢; simp [results, Try.results34, go_sem, u0, u1, u2, u3, u4, u5]) rfl ?_
                exact ⟨⟨⟨false, none, 0, 0, [], false, none, 0, 0, []⟩, 0, 0⟩, rfl, rfl, ⟨IL.nil _, IL.nil _⟩, below_set6 hR_n.later (by omega) _ _ _ _ _ _, none_newer _, none_newer _⟩
              · have qd0 := hd_n.c0
                have qd1 := hd_n.c1
                have qd2 := hd_n.c2
                have qd3 := hd_n.c3
                change _ = some (Value.bool false) at qd0; change _ = some (Value.slice y.A y.n y.c) at qd1; change _ = some (Value.bool y.p) at qd2; change _ = some (Value.slice y.E y.m y.q) at qd3
                obtain ⟨⟨L0, L1, L2⟩, ⟨Lf0, Lf1, Lf2⟩⟩ := hL_n.cells3
                obtain ⟨⟨R0, R1, R2, R3, R4, R5⟩, ⟨Rf0, Rf1, Rf2, Rf3, Rf4, Rf5⟩⟩ := hR_n.cells6
                go_wp2_with fail
                rw [HD.out]
                obtain ⟨⟨u0, u1, u2, u3, u4, u5⟩, _⟩ := (hR_n.store6 (.bool false) (.slice none 0 0) (.bool false) (.slice none 0 0) (.int .i64 0) (.int .i64 0)).cells6
                refine bodyPost_ret (v := .tuple #[.agg #[.bool false, .slice none 0 0, .bool false, .slice none 0 0, .int .i64 0, .int .i64 0], .int .i64 4]) (by generalize World.setCell (World.setCell (World.setCell (World.setCell (World.setCell (World.setCell _ _ _) _ _) _ _) _ _) _ _) _ _ = W6 at u0 u1 u2 u3 u4 u5 ⊢; simp [results, Try.results34, go_sem, u0, u1, u2, u3, u4, u5]) rfl ?_
                exact ⟨⟨⟨false, none, 0, 0, [], false, none, 0, 0, []⟩, 0, 0⟩, rfl, rfl, ⟨IL.nil _, IL.nil _⟩, below_set6 hR_n.later (by omega) _ _ _ _ _ _, none_newer _, none_newer _⟩
            case true =>
              have HD : Hid (D = (⟨negD Q false, i, i⟩, 0)) := by rw [Hid, hIK.out, hfq]; rfl
              have hn1 : ¬ li < (y.n : Int) := by have q := hln.out; unfold fitsD at hfq; simp at hfq; omega
              have hn2 : ¬ lf < (y.m : Int) := by have q := hln.out; unfold fitsD at hfq; simp at hfq; omega
              have hOK := hd_n.ok
              have qd0 := hd_n.c0
              have qd1 := hd_n.c1
              have qd2 := hd_n.c2
              have qd3 := hd_n.c3
              change _ = some (Value.bool false) at qd0; change _ = some (Value.slice y.A y.n y.c) at qd1; change _ = some (Value.bool y.p) at qd2; change _ = some (Value.slice y.E y.m y.q) at qd3
              obtain ⟨⟨L0, L1, L2⟩, ⟨Lf0, Lf1, Lf2⟩⟩ := hL_n.cells3
              obtain ⟨⟨R0, R1, R2, R3, R4, R5⟩, ⟨Rf0, Rf1, Rf2, Rf3, Rf4, Rf5⟩⟩ := hR_n.cells6
              go_wp2_with fail
              rw [HD.out]
              obtain ⟨⟨u0, u1, u2, u3, u4, u5⟩, _⟩ := (hR_n.store6 (.bool false) (.slice y.A y.n y.c) (.bool y.p) (.slice y.E y.m y.q) (.int .i64 (0 : Int)) (.int .i64 (0 : Int))).cells6
              refine bodyPost_ret (v := .tuple #[.agg #[.bool false, .slice y.A y.n y.c, .bool y.p, .slice y.E y.m y.q, .int .i64 (0 : Int), .int .i64 (0 : Int)], .int .i64 0]) (by generalize World.setCell (World.setCell (World.setCell (World.setCell (World.setCell (World.setCell _ _ _) _ _) _ _) _ _) _ _) _ _ = W6 at u0 u1 u2 u3 u4 u5 ⊢; simp [results, Try.results34, go_sem, u0, u1, u2, u3, u4, u5]) rfl ?_
              refine ⟨⟨(y.ng false), (0 : Int), (0 : Int)⟩, rfl, ?_, ?_, ?_, ?_, ?_⟩
              · rw [Hid]; show _ = (⟨negD Q false, i, i⟩ : St); rw [← hyq.out, ← hieH.out]; rfl
              · exact hOK.set6 (fun hz a ha => by have := hN9 hz a ha; omega) (fun hz a ha => by have := hM9 hz a ha; omega) _ _ _ _ _ _
              · exact below_set6 hR_n.later (by omega) _ _ _ _ _ _
              · exact fun hz a ha => by have := hN9 hz a ha; omega
              · exact fun hz a ha => by have := hM9 hz a ha; omega
        case true =>
          have hxbH := Lib.hid hxb
          clear hxb
          by_cases hij2 : i = j
          case pos =>
            have hijb : ((0 : Int) == (n7 : Int)) = true := by rw [hieH.out, hjeH.out]; simpa using hij2
            have hIK : Hid (D = if fitsD Q li lf then (⟨negD Q false, i, i⟩, 0) else (St.zero, 4)) := by rw [Hid, hIM.out, if_neg]; (· simp [hxbH.out, hxbH.out]); (· simp [hxbH.out, hxbH.out])
            clear hij2
            have qx0 := hx10.c0
            have qx1 := hx10.c1
            have qx2 := hx10.c2
            have qx3 := hx10.c3
            have qx4 := hx10.c4
            have qx5 := hx10.c5
            rw [hxbH.out] at qx0
            go_upto_region 16 with fail
            clear qx0 qx1 qx2 qx3 qx4 qx5
            have qx0 := hx10.c0
            have qx1 := hx10.c1
            have qx2 := hx10.c2
            have qx3 := hx10.c3
            have qx4 := hx10.c4
            have qx5 := hx10.c5
            have gL0 := hx10.later.size
            have gR9 := hR10.lt
            have hsp2 := hsp1
            rw [← hieH.out, ← hjeH.out] at hsp2
            go_wp2_with fail
            refine (hsp2.out _ hx10.ok).mono ?_
            rintro e w11 ⟨y, rfl, hyq, hyo, hB11, hN9, hM9⟩
            clear qx0 qx1 qx2 qx3 qx4 qx5
            have hx11 := hx10.call hB11
            clear hx10
            have hR11 := hR10.call hB11
            clear hR10
            have hL11 := hL10.call hB11
            clear hL10
            have hyOld := hyo.old
            have gL := hx11.later.size
            have gR3 := hR11.lt
            have hd11 := DBk.made w w11 42 y hx11.later hyo _ rfl
            go_upto_region 17 with fail
            have hx_v9 := hx11.alloc (.cells #[.bool y.b, .slice y.A y.n y.c, .bool y.p, .slice y.E y.m y.q] 42)
            clear hx11
            have hR_v9 := hR11.alloc (.cells #[.bool y.b, .slice y.A y.n y.c, .bool y.p, .slice y.E y.m y.q] 42)
            clear hR11
            have hL_v9 := hL11.alloc (.cells #[.bool y.b, .slice y.A y.n y.c, .bool y.p, .slice y.E y.m y.q] 42)
            clear hL11
            generalize hgw : World.alloc w11 _ = v9 at *
            clear hgw
            have hyb : Hid (y.b = x.v.b) := (congrArg Dr.neg hyq.out).trans hQn
            have hd_n := hd11.neg false (fun hz a ha => by have := hyOld.1 hz a ha; omega) (fun hz a ha => by have := hyOld.2 hz a ha; omega)
            have hR_n := hR_v9.far (p := ⟨w11.heap.size, 0, none⟩) (by simp only; omega) gL (.bool false)
            have hL_n := hL_v9.far (p := ⟨w11.heap.size, 0, none⟩) (by simp only; omega) gL (.bool false)
            obtain ⟨⟨o0, o1, o2, o3⟩, ⟨p0, p1, p2, p3⟩⟩ := hd11.1.cells4
            go_upto_region 18 with fail
            clear o0 o1 o2 o3 p0 p1 p2 p3 hd11 hx_v9 hR_v9 hL_v9
            generalize hgs : World.setCell _ _ _ = v3 at *
            clear hgs
            have hln : Hid ((y.n : Int) = Q.int.length ∧ (y.m : Int) = Q.frac.length) := by rw [Hid, ← hyq.out]; exact hyo.lens
            cases hfq : fitsD Q li lf
            case false =>
              have HD : Hid (D = (St.zero, 4)) := by rw [Hid, hIK.out, hfq]; rfl
              have hnf : li < (y.n : Int) ∨ (¬ li < (y.n : Int) ∧ lf < (y.m : Int)) := by have q := hln.out; unfold fitsD at hfq; simp at hfq; omega
              rcases hnf with hn1 | ⟨hn1, hn2⟩
              · have qd0 := hd_n.c0
                have qd1 := hd_n.c1
                have qd2 := hd_n.c2
                have qd3 := hd_n.c3
                change _ = some (Value.bool false) at qd0; change _ = some (Value.slice y.A y.n y.c) at qd1; change _ = some (Value.bool y.p) at qd2; change _ = some (Value.slice y.E y.m y.q) at qd3
                obtain ⟨⟨L0, L1, L2⟩, ⟨Lf0, Lf1, Lf2⟩⟩ := hL_n.cells3
                obtain ⟨⟨R0, R1, R2, R3, R4, R5⟩, ⟨Rf0, Rf1, Rf2, Rf3, Rf4, Rf5⟩⟩ := hR_n.cells6
                go_wp2_with fail
                rw [HD.out]
                obtain ⟨⟨u0, u1, u2, u3, u4, u5⟩, _⟩ := (hR_n.store6 (.bool false) (.slice none 0 0) (.bool false) (.slice none 0 0) (.int .i64 0) (.int .i64 0)).cells6
                refine bodyPost_ret (v := .tuple #[.agg #[.bool false, .slice none 0 0, .bool false, .slice none 0 0, .int .i64 0, .int .i64 0], .int .i64 4]) (by generalize World.setCell (World.setCell (World.setCell (World.setCell (World.setCell (World.setCell _ _ _) _ _) _ _) _ _) _ _) _ _ = W6 at u0 u1 u2 u3 u4 u5 ⊢; simp [results, Try.results34, go_sem, u0, u1, u2, u3, u4, u5]) rfl ?_
                exact ⟨⟨⟨false, none, 0, 0, [], false, none, 0, 0, []⟩, 0, 0⟩, rfl, rfl, ⟨IL.nil _, IL.nil _⟩, below_set6 hR_n.later (by omega) _ _ _ _ _ _, none_newer _, none_newer _⟩
              · have qd0 := hd_n.c0
                have qd1 := hd_n.c1
                have qd2 := hd_n.c2
                have qd3 := hd_n.c3
                change _ = some (Value.bool false) at qd0; change _ = some (Value.slice y.A y.n y.c) at qd1; change _ = some (Value.bool y.p) at qd2; change _ = some (Value.slice y.E y.m y.q) at qd3
                obtain ⟨⟨L0, L1, L2⟩, ⟨Lf0, Lf1, Lf2⟩⟩ := hL_n.cells3
                obtain ⟨⟨R0, R1, R2, R3, R4, R5⟩, ⟨Rf0, Rf1, Rf2, Rf3, Rf4, Rf5⟩⟩ := hR_n.cells6
                go_wp2_with fail
                rw [HD.out]
                obtain ⟨⟨u0, u1, u2, u3, u4, u5⟩, _⟩ := (hR_n.store6 (.bool false) (.slice none 0 0) (.bool false) (.slice none 0 0) (.int .i64 0) (.int .i64 0)).cells6
                refine bodyPost_ret (v := .tuple #[.agg #[.bool false, .slice none 0 0, .bool false, .slice none 0 0, .int .i64 0, .int .i64 0], .int .i64 4]) (by generalize World.setCell (World.setCell (World.setCell (World.setCell (World.setCell (World.setCell _ _ _) _ _) _ _) _ _) _ _) _ _ = W6 at u0 u1 u2 u3 u4 u5 ⊢; simp [results, Try.results34, go_sem, u0, u1, u2, u3, u4, u5]) rfl ?_
                exact ⟨⟨⟨false, none, 0, 0, [], false, none, 0, 0, []⟩, 0, 0⟩, rfl, rfl, ⟨IL.nil _, IL.nil _⟩, below_set6 hR_n.later (by omega) _ _ _ _ _ _, none_newer _, none_newer _⟩
            case true =>
              have HD : Hid (D = (⟨negD Q false, i, i⟩, 0)) := by rw [Hid, hIK.out, hfq]; rfl
              have hn1 : ¬ li < (y.n : Int) := by have q := hln.out; unfold fitsD at hfq; simp at hfq; omega
              have hn2 : ¬ lf < (y.m : Int) := by have q := hln.out; unfold fitsD at hfq; simp at hfq; omega
              have hOK := hd_n.ok
              have qd0 := hd_n.c0
              have qd1 := hd_n.c1
              have qd2 := hd_n.c2
              have qd3 := hd_n.c3
              change _ = some (Value.bool false) at qd0; change _ = some (Value.slice y.A y.n y.c) at qd1; change _ = some (Value.bool y.p) at qd2; change _ = some (Value.slice y.E y.m y.q) at qd3
              obtain ⟨⟨L0, L1, L2⟩, ⟨Lf0, Lf1, Lf2⟩⟩ := hL_n.cells3
              obtain ⟨⟨R0, R1, R2, R3, R4, R5⟩, ⟨Rf0, Rf1, Rf2, Rf3, Rf4, Rf5⟩⟩ := hR_n.cells6
              go_wp2_with fail
              rw [HD.out]
              obtain ⟨⟨u0, u1, u2, u3, u4, u5⟩, _⟩ := (hR_n.store6 (.bool false) (.slice y.A y.n y.c) (.bool y.p) (.slice y.E y.m y.q) (.int .i64 (0 : Int)) (.int .i64 (0 : Int))).cells6
              refine bodyPost_ret (v := .tuple #[.agg #[.bool false, .slice y.A y.n y.c, .bool y.p, .slice y.E y.m y.q, .int .i64 (0 : Int), .int .i64 (0 : Int)], .int .i64 0]) (by generalize World.setCell (World.setCell (World.setCell (World.setCell (World.setCell (World.setCell _ _ _) _ _) _ _) _ _) _ _) _ _ = W6 at u0 u1 u2 u3 u4 u5 ⊢; simp [results, Try.results34, go_sem, u0, u1, u2, u3, u4, u5]) rfl ?_
              refine ⟨⟨(y.ng false), (0 : Int), (0 : Int)⟩, rfl, ?_, ?_, ?_, ?_, ?_⟩
              · rw [Hid]; show _ = (⟨negD Q false, i, i⟩ : St); rw [← hyq.out, ← hieH.out]; rfl
              · exact hOK.set6 (fun hz a ha => by have := hN9 hz a ha; omega) (fun hz a ha => by have := hM9 hz a ha; omega) _ _ _ _ _ _
              · exact below_set6 hR_n.later (by omega) _ _ _ _ _ _
              · exact fun hz a ha => by have := hN9 hz a ha; omega
              · exact fun hz a ha => by have := hM9 hz a ha; omega
          case neg =>
            have hijb : ((0 : Int) == (n7 : Int)) = false := by rw [hieH.out, hjeH.out]; simpa using hij2
            have hIK : Hid (D = if fitsD Q li lf then (⟨negD Q false, i, i⟩, 0) else (St.zero, 4)) := by rw [Hid, hIM.out, if_neg]; (· simp [hxbH.out, hxbH.out]); (· simp [hxbH.out, hxbH.out, hij2])
            clear hij2
            have qx0 := hx10.c0
            have qx1 := hx10.c1
            have qx2 := hx10.c2
            have qx3 := hx10.c3
            have qx4 := hx10.c4
            have qx5 := hx10.c5
            rw [hxbH.out] at qx0
            go_upto_region 16 with fail
            clear qx0 qx1 qx2 qx3 qx4 qx5
            have qx0 := hx10.c0
            have qx1 := hx10.c1
            have qx2 := hx10.c2
            have qx3 := hx10.c3
            have qx4 := hx10.c4
            have qx5 := hx10.c5
            have gL0 := hx10.later.size
            have gR9 := hR10.lt
            have hsp2 := hsp1
            rw [← hieH.out, ← hjeH.out] at hsp2
            go_wp2_with fail
            refine (hsp2.out _ hx10.ok).mono ?_
            rintro e w11 ⟨y, rfl, hyq, hyo, hB11, hN9, hM9⟩
            clear qx0 qx1 qx2 qx3 qx4 qx5
            have hx11 := hx10.call hB11
            clear hx10
            have hR11 := hR10.call hB11
            clear hR10
            have hL11 := hL10.call hB11
            clear hL10
            have hyOld := hyo.old
            have gL := hx11.later.size
            have gR3 := hR11.lt
            have hd11 := DBk.made w w11 42 y hx11.later hyo _ rfl
            go_upto_region 17 with fail
            have hx_v9 := hx11.alloc (.cells #[.bool y.b, .slice y.A y.n y.c, .bool y.p, .slice y.E y.m y.q] 42)
            clear hx11
            have hR_v9 := hR11.alloc (.cells #[.bool y.b, .slice y.A y.n y.c, .bool y.p, .slice y.E y.m y.q] 42)
            clear hR11
            have hL_v9 := hL11.alloc (.cells #[.bool y.b, .slice y.A y.n y.c, .bool y.p, .slice y.E y.m y.q] 42)
            clear hL11
            generalize hgw : World.alloc w11 _ = v9 at *
            clear hgw
            have hyb : Hid (y.b = x.v.b) := (congrArg Dr.neg hyq.out).trans hQn
            have hd_n := hd11.neg false (fun hz a ha => by have := hyOld.1 hz a ha; omega) (fun hz a ha => by have := hyOld.2 hz a ha; omega)
            have hR_n := hR_v9.far (p := ⟨w11.heap.size, 0, none⟩) (by simp only; omega) gL (.bool false)
            have hL_n := hL_v9.far (p := ⟨w11.heap.size, 0, none⟩) (by simp only; omega) gL (.bool false)
            obtain ⟨⟨o0, o1, o2, o3⟩, ⟨p0, p1, p2, p3⟩⟩ := hd11.1.cells4
            go_upto_region 18 with fail
            clear o0 o1 o2 o3 p0 p1 p2 p3 hd11 hx_v9 hR_v9 hL_v9
            generalize hgs : World.setCell _ _ _ = v3 at *
            clear hgs
            have hln : Hid ((y.n : Int) = Q.int.length ∧ (y.m : Int) = Q.frac.length) := by rw [Hid, ← hyq.out]; exact hyo.lens
            cases hfq : fitsD Q li lf
            case false =>
              have HD : Hid (D = (St.zero, 4)) := by rw [Hid, hIK.out, hfq]; rfl
              have hnf : li < (y.n : Int) ∨ (¬ li < (y.n : Int) ∧ lf < (y.m : Int)) := by have q := hln.out; unfold fitsD at hfq; simp at hfq; omega
              rcases hnf with hn1 | ⟨hn1, hn2⟩
              · have qd0 := hd_n.c0
                have qd1 := hd_n.c1
                have qd2 := hd_n.c2
                have qd3 := hd_n.c3
                change _ = some (Value.bool false) at qd0; change _ = some (Value.slice y.A y.n y.c) at qd1; change _ = some (Value.bool y.p) at qd2; change _ = some (Value.slice y.E y.m y.q) at qd3
                obtain ⟨⟨L0, L1, L2⟩, ⟨Lf0, Lf1, Lf2⟩⟩ := hL_n.cells3
                obtain ⟨⟨R0, R1, R2, R3, R4, R5⟩, ⟨Rf0, Rf1, Rf2, Rf3, Rf4, Rf5⟩⟩ := hR_n.cells6
                go_wp2_with fail
                rw [HD.out]
                obtain ⟨⟨u0, u1, u2, u3, u4, u5⟩, _⟩ := (hR_n.store6 (.bool false) (.slice none 0 0) (.bool false) (.slice none 0 0) (.int .i64 0) (.int .i64 0)).cells6
                refine bodyPost_ret (v := .tuple #[.agg #[.bool false, .slice none 0 0, .bool false, .slice none 0 0, .int .i64 0, .int .i64 0], .int .i64 4]) (by generalize World.setCell (World.setCell (World.setCell (World.setCell (World.setCell (World.setCell _ _ _) _ _) _ _) _ _) _ _) _ _ = W6 at u0 u1 u2 u3 u4 u5 ⊢; simp [results, Try.results34, go_sem, u0, u1, u2, u3, u4, u5]) rfl ?_
                exact ⟨⟨⟨false, none, 0, 0, [], false, none, 0, 0, []⟩, 0, 0⟩, rfl, rfl, ⟨IL.nil _, IL.nil _⟩, below_set6 hR_n.later (by omega) _ _ _ _ _ _, none_newer _, none_newer _⟩
              · have qd0 := hd_n.c0
                have qd1 := hd_n.c1
                have qd2 := hd_n.c2
                have qd3 := hd_n.c3
                change _ = some (Value.bool false) at qd0; change _ = some (Value.slice y.A y.n y.c) at qd1; change _ = some (Value.bool y.p) at qd2; change _ = some (Value.slice y.E y.m y.q) at qd3
                obtain ⟨⟨L0, L1, L2⟩, ⟨Lf0, Lf1, Lf2⟩⟩ := hL_n.cells3
                obtain ⟨⟨R0, R1, R2, R3, R4, R5⟩, ⟨Rf0, Rf1, Rf2, Rf3, Rf4, Rf5⟩⟩ := hR_n.cells6
                go_wp2_with fail
                rw [HD.out]
                obtain ⟨⟨u0, u1, u2, u3, u4, u5⟩, _⟩ := (hR_n.store6 (.bool false) (.slice none 0 0) (.bool false) (.slice none 0 0) (.int .i64 0) (.int .i64 0)).cells6
                refine bodyPost_ret (v := .tuple #[.agg #[.bool false, .slice none 0 0, .bool false, .slice none 0 0, .int .i64 0, .int .i64 0], .int .i64 4]) (by generalize World.setCell (World.setCell (World.setCell (World.setCell (World.setCell (World.setCell _ _ _) _ _) _ _) _ _) _ _) _ _ = W6 at u0 u1 u2 u3 u4 u5 ⊢; simp [results, Try.results34, go_sem, u0, u1, u2, u3, u4, u5]) rfl ?_
                exact ⟨⟨⟨false, none, 0, 0, [], false, none, 0, 0, []⟩, 0, 0⟩, rfl, rfl, ⟨IL.nil _, IL.nil _⟩, below_set6 hR_n.later (by omega) _ _ _ _ _ _, none_newer _, none_newer _⟩
            case true =>
              have HD : Hid (D = (⟨negD Q false, i, i⟩, 0)) := by rw [Hid, hIK.out, hfq]; rfl
              have hn1 : ¬ li < (y.n : Int) := by have q := hln.out; unfold fitsD at hfq; simp at hfq; omega
              have hn2 : ¬ lf < (y.m : Int) := by have q := hln.out; unfold fitsD at hfq; simp at hfq; omega
              have hOK := hd_n.ok
              have qd0 := hd_n.c0
              have qd1 := hd_n.c1
              have qd2 := hd_n.c2
              have qd3 := hd_n.c3
              change _ = some (Value.bool false) at qd0; change _ = some (Value.slice y.A y.n y.c) at qd1; change _ = some (Value.bool y.p) at qd2; change _ = some (Value.slice y.E y.m y.q) at qd3
              obtain ⟨⟨L0, L1, L2⟩, ⟨Lf0, Lf1, Lf2⟩⟩ := hL_n.cells3
              obtain ⟨⟨R0, R1, R2, R3, R4, R5⟩, ⟨Rf0, Rf1, Rf2, Rf3, Rf4, Rf5⟩⟩ := hR_n.cells6
              go_wp2_with fail
              rw [HD.out]
              obtain ⟨⟨u0, u1, u2, u3, u4, u5⟩, _⟩ := (hR_n.store6 (.bool false) (.slice y.A y.n y.c) (.bool y.p) (.slice y.E y.m y.q) (.int .i64 (0 : Int)) (.int .i64 (0 : Int))).cells6
              refine bodyPost_ret (v := .tuple #[.agg #[.bool false, .slice y.A y.n y.c, .bool y.p, .slice y.E y.m y.q, .int .i64 (0 : Int), .int .i64 (0 : Int)], .int .i64 0]) (by generalize World.setCell (World.setCell (World.setCell (World.setCell (World.setCell (World.setCell _ _ _) _ _) _ _) _ _) _ _) _ _ = W6 at u0 u1 u2 u3 u4 u5 ⊢; simp [results, Try.results34, go_sem, u0, u1, u2, u3, u4, u5]) rfl ?_
              refine ⟨⟨(y.ng false), (0 : Int), (0 : Int)⟩, rfl, ?_, ?_, ?_, ?_, ?_⟩
              · rw [Hid]; show _ = (⟨negD Q false, i, i⟩ : St); rw [← hyq.out, ← hieH.out]; rfl
              · exact hOK.set6 (fun hz a ha => by have := hN9 hz a ha; omega) (fun hz a ha => by have := hM9 hz a ha; omega) _ _ _ _ _ _
              · exact below_set6 hR_n.later (by omega) _ _ _ _ _ _
              · exact fun hz a ha => by have := hN9 hz a ha; omega
              · exact fun hz a ha => by have := hM9 hz a ha; omega
      case neg =>
        have h6b : (what == (6 : Int)) = false := by simpa using h6
        have e : Hid ((i, j) = (i0, j0)) := by
          rw [Hid, hSE.out, hi0.out, hj0.out, if_neg h6]
          by_cases q : fr = bk
          · rw [if_pos q, if_pos q, if_pos q]
            congr 1
            · split <;> split <;> omega
            · split <;> split <;> omega
          · rw [if_neg q, if_neg q, if_neg q]
        have hieH : Hid (i0 = i) := (congrArg Prod.fst e.out).symm
        have hjeH : Hid (j0 = j) := (congrArg Prod.snd e.out).symm
        clear e hSE hi0 hj0 hat
        cases hxb : x.v.b
        case false =>
          have hxbH := Lib.hid hxb
          clear hxb
          by_cases hij2 : i = j
          case pos =>
            have HD : Hid (D = (St.zero, 7)) := by rw [Hid, hIM.out, if_pos]; exact ⟨hij2, by simp [hxbH.out, hxbH.out]⟩
            have hijb : (i0 == j0) = true := by rw [hieH.out, hjeH.out]; simpa using hij2
            have qx0 := hx9.c0
            have qx1 := hx9.c1
            have qx2 := hx9.c2
            have qx3 := hx9.c3
            have qx4 := hx9.c4
            have qx5 := hx9.c5
            rw [hxbH.out] at qx0
            clear hij2
            obtain ⟨⟨R0, R1, R2, R3, R4, R5⟩, ⟨Rf0, Rf1, Rf2, Rf3, Rf4, Rf5⟩⟩ := hR9.cells6
            go_wp2_with fail
            rw [HD.out]
            obtain ⟨⟨u0, u1, u2, u3, u4, u5⟩, _⟩ := (hR9.store6 (.bool false) (.slice none 0 0) (.bool false) (.slice none 0 0) (.int .i64 0) (.int .i64 0)).cells6
            refine bodyPost_ret (v := .tuple #[.agg #[.bool false, .slice none 0 0, .bool false, .slice none 0 0, .int .i64 0, .int .i64 0], .int .i64 7]) (by generalize World.setCell (World.setCell (World.setCell (World.setCell (World.setCell (World.setCell _ _ _) _ _) _ _) _ _) _ _) _ _ = W6 at u0 u1 u2 u3 u4 u5 ⊢; simp [results, Try.results34, go_sem, u0, u1, u2, u3, u4, u5]) rfl ?_
            exact ⟨⟨⟨false, none, 0, 0, [], false, none, 0, 0, []⟩, 0, 0⟩, rfl, rfl, ⟨IL.nil _, IL.nil _⟩, below_set6 hR9.later (by omega) _ _ _ _ _ _, none_newer _, none_newer _⟩
          case neg =>
            have hijb : (i0 == j0) = false := by rw [hieH.out, hjeH.out]; simpa using hij2
            have hIK : Hid (D = if fitsD Q li lf then (⟨negD Q false, i, i⟩, 0) else (St.zero, 4)) := by rw [Hid, hIM.out, if_neg]; (· simp [hxbH.out, hxbH.out]); (· simp [hxbH.out, hxbH.out, hij2])
            clear hij2
            have qx0 := hx9.c0
            have qx1 := hx9.c1
            have qx2 := hx9.c2
            have qx3 := hx9.c3
            have qx4 := hx9.c4
            have qx5 := hx9.c5
            rw [hxbH.out] at qx0
            go_upto_region 16 with fail
            clear qx0 qx1 qx2 qx3 qx4 qx5
            have qx0 := hx9.c0
            have qx1 := hx9.c1
            have qx2 := hx9.c2
            have qx3 := hx9.c3
            have qx4 := hx9.c4
            have qx5 := hx9.c5
            have gL0 := hx9.later.size
            have gR9 := hR9.lt
            have hsp2 := hsp1
            rw [← hieH.out, ← hjeH.out] at hsp2
            go_wp2_with fail
            refine (hsp2.out _ hx9.ok).mono ?_
            rintro e w10 ⟨y, rfl, hyq, hyo, hB10, hN9, hM9⟩
            clear qx0 qx1 qx2 qx3 qx4 qx5
            have hx10 := hx9.call hB10
            clear hx9
            have hR10 := hR9.call hB10
            clear hR9
            have hL10 := hL9.call hB10
            clear hL9
            have hyOld := hyo.old
            have gL := hx10.later.size
            have gR3 := hR10.lt
            have hd10 := DBk.made w w10 42 y hx10.later hyo _ rfl
            go_upto_region 17 with fail
            have hx_v9 := hx10.alloc (.cells #[.bool y.b, .slice y.A y.n y.c, .bool y.p, .slice y.E y.m y.q] 42)
            clear hx10
            have hR_v9 := hR10.alloc (.cells #[.bool y.b, .slice y.A y.n y.c, .bool y.p, .slice y.E y.m y.q] 42)
            clear hR10
            have hL_v9 := hL10.alloc (.cells #[.bool y.b, .slice y.A y.n y.c, .bool y.p, .slice y.E y.m y.q] 42)
            clear hL10
            generalize hgw : World.alloc w10 _ = v9 at *
            clear hgw
            have hyb : Hid (y.b = x.v.b) := (congrArg Dr.neg hyq.out).trans hQn
            have hd_n := hd10.neg false (fun hz a ha => by have := hyOld.1 hz a ha; omega) (fun hz a ha => by have := hyOld.2 hz a ha; omega)
            have hR_n := hR_v9.far (p := ⟨w10.heap.size, 0, none⟩) (by simp only; omega) gL (.bool false)
            have hL_n := hL_v9.far (p := ⟨w10.heap.size, 0, none⟩) (by simp only; omega) gL (.bool false)
            obtain ⟨⟨o0, o1, o2, o3⟩, ⟨p0, p1, p2, p3⟩⟩ := hd10.1.cells4
            go_upto_region 18 with fail
            clear o0 o1 o2 o3 p0 p1 p2 p3 hd10 hx_v9 hR_v9 hL_v9
            generalize hgs : World.setCell _ _ _ = v3 at *
            clear hgs
            have hln : Hid ((y.n : Int) = Q.int.length ∧ (y.m : Int) = Q.frac.length) := by rw [Hid, ← hyq.out]; exact hyo.lens
            cases hfq : fitsD Q li lf
            case false =>
              have HD : Hid (D = (St.zero, 4)) := by rw [Hid, hIK.out, hfq]; rfl
              have hnf : li < (y.n : Int) ∨ (¬ li < (y.n : Int) ∧ lf < (y.m : Int)) := by have q := hln.out; unfold fitsD at hfq; simp at hfq; omega
              rcases hnf with hn1 | ⟨hn1, hn2⟩
              · have qd0 := hd_n.c0
                have qd1 := hd_n.c1
                have qd2 := hd_n.c2
                have qd3 := hd_n.c3
                change _ = some (Value.bool false) at qd0; change _ = some (Value.slice y.A y.n y.c) at qd1; change _ = some (Value.bool y.p) at qd2; change _ = some (Value.slice y.E y.m y.q) at qd3
                obtain ⟨⟨L0, L1, L2⟩, ⟨Lf0, Lf1, Lf2⟩⟩ := hL_n.cells3
                obtain ⟨⟨R0, R1, R2, R3, R4, R5⟩, ⟨Rf0, Rf1, Rf2, Rf3, Rf4, Rf5⟩⟩ := hR_n.cells6
                go_wp2_with fail
                rw [HD.out]
                obtain ⟨⟨u0, u1, u2, u3, u4, u5⟩, _⟩ := (hR_n.store6 (.bool false) (.slice none 0 0) (.bool false) (.slice none 0 0) (.int .i64 0) (.int .i64 0)).cells6
                refine bodyPost_ret (v := .tuple #[.agg #[.bool false, .slice none 0 0, .bool false, .slice none 0 0, .int .i64 0, .int .i64 0], .int .i64 4]) (by generalize World.setCell (World.setCell (World.setCell (World.setCell (World.setCell (World.setCell _ _ _) _ _) _ _) _ _) _ _) _ _ = W6 at u0 u1 u2 u3 u4 u5 ⊢; simp [results, Try.results34, go_sem, u0, u1, u2, u3, u4, u5]) rfl ?_
                exact ⟨⟨⟨false, none, 0, 0, [], false, none, 0, 0, []⟩, 0, 0⟩, rfl, rfl, ⟨IL.nil _, IL.nil _⟩, below_set6 hR_n.later (by omega) _ _ _ _ _ _, none_newer _, none_newer _⟩
              · have qd0 := hd_n.c0
                have qd1 := hd_n.c1
                have qd2 := hd_n.c2
                have qd3 := hd_n.c3
                change _ = some (Value.bool false) at qd0; change _ = some (Value.slice y.A y.n y.c) at qd1; change _ = some (Value.bool y.p) at qd2; change _ = some (Value.slice y.E y.m y.q) at qd3
                obtain ⟨⟨L0, L1, L2⟩, ⟨Lf0, Lf1, Lf2⟩⟩ := hL_n.cells3
                obtain ⟨⟨R0, R1, R2, R3, R4, R5⟩, ⟨Rf0, Rf1, Rf2, Rf3, Rf4, Rf5⟩⟩ := hR_n.cells6
                go_wp2_with fail
                rw [HD.out]
                obtain ⟨⟨u0, u1, u2, u3, u4, u5⟩, _⟩ := (hR_n.store6 (.bool false) (.slice none 0 0) (.bool false) (.slice none 0 0) (.int .i64 0) (.int .i64 0)).cells6
                refine bodyPost_ret (v := .tuple #[.agg #[.bool false, .slice none 0 0, .bool false, .slice none 0 0, .int .i64 0, .int .i64 0], .int .i64 4]) (by generalize World.setCell (World.setCell (World.setCell (World.setCell (World.setCell (World.setCell _ _ _) _ _) _ _) _ _) _ _) _ _ = W6 at u0 u1 u2 u3 u4 u5 ⊢; simp [results, Try.results34, go_sem, u0, u1, u2, u3, u4, u5]) rfl ?_
                exact ⟨⟨⟨false, none, 0, 0, [], false, none, 0, 0, []⟩, 0, 0⟩, rfl, rfl, ⟨IL.nil _, IL.nil _⟩, below_set6 hR_n.later (by omega) _ _ _ _ _ _, none_newer _, none_newer _⟩
            case true =>
              have HD : Hid (D = (⟨negD Q false, i, i⟩, 0)) := by rw [Hid, hIK.out, hfq]; rfl
              have hn1 : ¬ li < (y.n : Int) := by have q := hln.out; unfold fitsD at hfq; simp at hfq; omega
              have hn2 : ¬ lf < (y.m : Int) := by have q := hln.out; unfold fitsD at hfq; simp at hfq; omega
              have hOK := hd_n.ok
              have qd0 := hd_n.c0
              have qd1 := hd_n.c1
              have qd2 := hd_n.c2
              have qd3 := hd_n.c3
              change _ = some (Value.bool false) at qd0; change _ = some (Value.slice y.A y.n y.c) at qd1; change _ = some (Value.bool y.p) at qd2; change _ = some (Value.slice y.E y.m y.q) at qd3
              obtain ⟨⟨L0, L1, L2⟩, ⟨Lf0, Lf1, Lf2⟩⟩ := hL_n.cells3
              obtain ⟨⟨R0, R1, R2, R3, R4, R5⟩, ⟨Rf0, Rf1, Rf2, Rf3, Rf4, Rf5⟩⟩ := hR_n.cells6
              go_wp2_with fail
              rw [HD.out]
              obtain ⟨⟨u0, u1, u2, u3, u4, u5⟩, _⟩ := (hR_n.store6 (.bool false) (.slice y.A y.n y.c) (.bool y.p) (.slice y.E y.m y.q) (.int .i64 i0) (.int .i64 i0)).cells6
              refine bodyPost_ret (v := .tuple #[.agg #[.bool false, .slice y.A y.n y.c, .bool y.p, .slice y.E y.m y.q, .int .i64 i0, .int .i64 i0], .int .i64 0]) (by generalize World.setCell (World.setCell (World.setCell (World.setCell (World.setCell (World.setCell _ _ _) _ _) _ _) _ _) _ _) _ _ = W6 at u0 u1 u2 u3 u4 u5 ⊢; simp [results, Try.results34, go_sem, u0, u1, u2, u3, u4, u5]) rfl ?_
              refine ⟨⟨(y.ng false), i0, i0⟩, rfl, ?_, ?_, ?_, ?_, ?_⟩
              · rw [Hid]; show _ = (⟨negD Q false, i, i⟩ : St); rw [← hyq.out, ← hieH.out]; rfl
              · exact hOK.set6 (fun hz a ha => by have := hN9 hz a ha; omega) (fun hz a ha => by have := hM9 hz a ha; omega) _ _ _ _ _ _
              · exact below_set6 hR_n.later (by omega) _ _ _ _ _ _
              · exact fun hz a ha => by have := hN9 hz a ha; omega
              · exact fun hz a ha => by have := hM9 hz a ha; omega
        case true =>
          have hxbH := Lib.hid hxb
          clear hxb
          by_cases hij2 : i = j
          case pos =>
            have HD : Hid (D = (St.zero, 7)) := by rw [Hid, hIM.out, if_pos]; exact ⟨hij2, by simp [hxbH.out, h6b]⟩
            have hijb : (i0 == j0) = true := by rw [hieH.out, hjeH.out]; simpa using hij2
            have qx0 := hx9.c0
            have qx1 := hx9.c1
            have qx2 := hx9.c2
            have qx3 := hx9.c3
            have qx4 := hx9.c4
            have qx5 := hx9.c5
            rw [hxbH.out] at qx0
            clear hij2
            obtain ⟨⟨R0, R1, R2, R3, R4, R5⟩, ⟨Rf0, Rf1, Rf2, Rf3, Rf4, Rf5⟩⟩ := hR9.cells6
            go_wp2_with fail
            rw [HD.out]
            obtain ⟨⟨u0, u1, u2, u3, u4, u5⟩, _⟩ := (hR9.store6 (.bool false) (.slice none 0 0) (.bool false) (.slice none 0 0) (.int .i64 0) (.int .i64 0)).cells6
            refine bodyPost_ret (v := .tuple #[.agg #[.bool false, .slice none 0 0, .bool false, .slice none 0 0, .int .i64 0, .int .i64 0], .int .i64 7]) (by generalize World.setCell (World.setCell (World.setCell (World.setCell (World.setCell (World.setCell _ _ _) _ _) _ _) _ _) _ _) _ _ = W6 at u0 u1 u2 u3 u4 u5 ⊢; simp [results, Try.results34, go_sem, u0, u1, u2, u3, u4, u5]) rfl ?_
            exact ⟨⟨⟨false, none, 0, 0, [], false, none, 0, 0, []⟩, 0, 0⟩, rfl, rfl, ⟨IL.nil _, IL.nil _⟩, below_set6 hR9.later (by omega) _ _ _ _ _ _, none_newer _, none_newer _⟩
          case neg =>
            have hijb : (i0 == j0) = false := by rw [hieH.out, hjeH.out]; simpa using hij2
            have hIK : Hid (D = if fitsD Q li lf then (⟨negD Q true, i, i⟩, 0) else (St.zero, 4)) := by rw [Hid, hIM.out, if_neg]; (· simp [hxbH.out, h6b]); (· simp [hxbH.out, h6b, hij2])
            clear hij2
            have qx0 := hx9.c0
            have qx1 := hx9.c1
            have qx2 := hx9.c2
            have qx3 := hx9.c3
            have qx4 := hx9.c4
            have qx5 := hx9.c5
            rw [hxbH.out] at qx0
            go_upto_region 16 with fail
            clear qx0 qx1 qx2 qx3 qx4 qx5
            have qx0 := hx9.c0
            have qx1 := hx9.c1
            have qx2 := hx9.c2
            have qx3 := hx9.c3
            have qx4 := hx9.c4
            have qx5 := hx9.c5
            have gL0 := hx9.later.size
            have gR9 := hR9.lt
            have hsp2 := hsp1
            rw [← hieH.out, ← hjeH.out] at hsp2
            go_wp2_with fail
            refine (hsp2.out _ hx9.ok).mono ?_
            rintro e w10 ⟨y, rfl, hyq, hyo, hB10, hN9, hM9⟩
            clear qx0 qx1 qx2 qx3 qx4 qx5
            have hx10 := hx9.call hB10
            clear hx9
            have hR10 := hR9.call hB10
            clear hR9
            have hL10 := hL9.call hB10
            clear hL9
            have hyOld := hyo.old
            have gL := hx10.later.size
            have gR3 := hR10.lt
            have hd10 := DBk.made w w10 42 y hx10.later hyo _ rfl
            go_upto_region 17 with fail
            have hx_v9 := hx10.alloc (.cells #[.bool y.b, .slice y.A y.n y.c, .bool y.p, .slice y.E y.m y.q] 42)
            clear hx10
            have hR_v9 := hR10.alloc (.cells #[.bool y.b, .slice y.A y.n y.c, .bool y.p, .slice y.E y.m y.q] 42)
            clear hR10
            have hL_v9 := hL10.alloc (.cells #[.bool y.b, .slice y.A y.n y.c, .bool y.p, .slice y.E y.m y.q] 42)
            clear hL10
            generalize hgw : World.alloc w10 _ = v9 at *
            clear hgw
            have hyb : Hid (y.b = x.v.b) := (congrArg Dr.neg hyq.out).trans hQn
            have hd_n := hd10.neg true (fun hz a ha => by have := hyOld.1 hz a ha; omega) (fun hz a ha => by have := hyOld.2 hz a ha; omega)
            have hR_n := hR_v9.far (p := ⟨w10.heap.size, 0, none⟩) (by simp only; omega) gL (.bool true)
            have hL_n := hL_v9.far (p := ⟨w10.heap.size, 0, none⟩) (by simp only; omega) gL (.bool true)
            obtain ⟨⟨o0, o1, o2, o3⟩, ⟨p0, p1, p2, p3⟩⟩ := hd10.1.cells4
            go_upto_region 18 with fail
            clear o0 o1 o2 o3 p0 p1 p2 p3 hd10 hx_v9 hR_v9 hL_v9
            generalize hgs : World.setCell _ _ _ = v3 at *
            clear hgs
            have hln : Hid ((y.n : Int) = Q.int.length ∧ (y.m : Int) = Q.frac.length) := by rw [Hid, ← hyq.out]; exact hyo.lens
            cases hfq : fitsD Q li lf
            case false =>
              have HD : Hid (D = (St.zero, 4)) := by rw [Hid, hIK.out, hfq]; rfl
              have hnf : li < (y.n : Int) ∨ (¬ li < (y.n : Int) ∧ lf < (y.m : Int)) := by have q := hln.out; unfold fitsD at hfq; simp at hfq; omega
              rcases hnf with hn1 | ⟨hn1, hn2⟩
              · have qd0 := hd_n.c0
                have qd1 := hd_n.c1
                have qd2 := hd_n.c2
                have qd3 := hd_n.c3
                change _ = some (Value.bool true) at qd0; change _ = some (Value.slice y.A y.n y.c) at qd1; change _ = some (Value.bool y.p) at qd2; change _ = some (Value.slice y.E y.m y.q) at qd3
                obtain ⟨⟨L0, L1, L2⟩, ⟨Lf0, Lf1, Lf2⟩⟩ := hL_n.cells3
                obtain ⟨⟨R0, R1, R2, R3, R4, R5⟩, ⟨Rf0, Rf1, Rf2, Rf3, Rf4, Rf5⟩⟩ := hR_n.cells6
                go_wp2_with fail
                rw [HD.out]
                obtain ⟨⟨u0, u1, u2, u3, u4, u5⟩, _⟩ := (hR_n.store6 (.bool false) (.slice none 0 0) (.bool false) (.slice none 0 0) (.int .i64 0) (.int .i64 0)).cells6
                refine bodyPost_ret (v := .tuple #[.agg #[.bool false, .slice none 0 0, .bool false, .slice none 0 0, .int .i64 0, .int .i64 0], .int .i64 4]) (by generalize World.setCell (World.setCell (World.setCell (World.setCell (World.setCell (World.setCell _ _ _) _ _) _ _) _ _) _ _) _ _ = W6 at u0 u1 u2 u3 u4 u5 ⊢; simp [results, Try.results34, go_sem, u0, u1, u2, u3, u4, u5]) rfl ?_
                exact ⟨⟨⟨false, none, 0, 0, [], false, none, 0, 0, []⟩, 0, 0⟩, rfl, rfl, ⟨IL.nil _, IL.nil _⟩, below_set6 hR_n.later (by omega) _ _ _ _ _ _, none_newer _, none_newer _⟩
              · have qd0 := hd_n.c0
                have qd1 := hd_n.c1
                have qd2 := hd_n.c2
                have qd3 := hd_n.c3
                change _ = some (Value.bool true) at qd0; change _ = some (Value.slice y.A y.n y.c) at qd1; change _ = some (Value.bool y.p) at qd2; change _ = some (Value.slice y.E y.m y.q) at qd3
                obtain ⟨⟨L0, L1, L2⟩, ⟨Lf0, Lf1, Lf2⟩⟩ := hL_n.cells3
                obtain ⟨⟨R0, R1, R2, R3, R4, R5⟩, ⟨Rf0, Rf1, Rf2, Rf3, Rf4, Rf5⟩⟩ := hR_n.cells6
                go_wp2_with fail
                rw [HD.out]
                obtain ⟨⟨u0, u1, u2, u3, u4, u5⟩, _⟩ := (hR_n.store6 (.bool false) (.slice none 0 0) (.bool false) (.slice none 0 0) (.int .i64 0) (.int .i64 0)).cells6
                refine bodyPost_ret (v := .tuple #[.agg #[.bool false, .slice none 0 0, .bool false, .slice none 0 0, .int .i64 0, .int .i64 0], .int .i64 4]) (by generalize World.setCell (World.setCell (World.setCell (World.setCell (World.setCell (World.setCell _ _ _) _ _) _ _) _ _) _ _) _ _ = W6 at u0 u1 u2 u3 u4 u5 ⊢; simp [results, Try.results34, go_sem, u0, u1, u2, u3, u4, u5]) rfl ?_
                exact ⟨⟨⟨false, none, 0, 0, [], false, none, 0, 0, []⟩, 0, 0⟩, rfl, rfl, ⟨IL.nil _, IL.nil _⟩, below_set6 hR_n.later (by omega) _ _ _ _ _ _, none_newer _, none_newer _⟩
            case true =>
              have HD : Hid (D = (⟨negD Q true, i, i⟩, 0)) := by rw [Hid, hIK.out, hfq]; rfl
              have hn1 : ¬ li < (y.n : Int) := by have q := hln.out; unfold fitsD at hfq; simp at hfq; omega
              have hn2 : ¬ lf < (y.m : Int) := by have q := hln.out; unfold fitsD at hfq; simp at hfq; omega
              have hOK := hd_n.ok
              have qd0 := hd_n.c0
              have qd1 := hd_n.c1
              have qd2 := hd_n.c2
              have qd3 := hd_n.c3
              change _ = some (Value.bool true) at qd0; change _ = some (Value.slice y.A y.n y.c) at qd1; change _ = some (Value.bool y.p) at qd2; change _ = some (Value.slice y.E y.m y.q) at qd3
              obtain ⟨⟨L0, L1, L2⟩, ⟨Lf0, Lf1, Lf2⟩⟩ := hL_n.cells3
              obtain ⟨⟨R0, R1, R2, R3, R4, R5⟩, ⟨Rf0, Rf1, Rf2, Rf3, Rf4, Rf5⟩⟩ := hR_n.cells6
              go_wp2_with fail
              rw [HD.out]
              obtain ⟨⟨u0, u1, u2, u3, u4, u5⟩, _⟩ := (hR_n.store6 (.bool true) (.slice y.A y.n y.c) (.bool y.p) (.slice y.E y.m y.q) (.int .i64 i0) (.int .i64 i0)).cells6
              refine bodyPost_ret (v := .tuple #[.agg #[.bool true, .slice y.A y.n y.c, .bool y.p, .slice y.E y.m y.q, .int .i64 i0, .int .i64 i0], .int .i64 0]) (by generalize World.setCell (World.setCell (World.setCell (World.setCell (World.setCell (World.setCell _ _ _) _ _) _ _) _ _) _ _) _ _ = W6 at u0 u1 u2 u3 u4 u5 ⊢; simp [results, Try.results34, go_sem, u0, u1, u2, u3, u4, u5]) rfl ?_
              refine ⟨⟨(y.ng true), i0, i0⟩, rfl, ?_, ?_, ?_, ?_, ?_⟩
              · rw [Hid]; show _ = (⟨negD Q true, i, i⟩ : St); rw [← hyq.out, ← hieH.out]; rfl
              · exact hOK.set6 (fun hz a ha => by have := hN9 hz a ha; omega) (fun hz a ha => by have := hM9 hz a ha; omega) _ _ _ _ _ _
              · exact below_set6 hR_n.later (by omega) _ _ _ _ _ _
              · exact fun hz a ha => by have := hN9 hz a ha; omega
              · exact fun hz a ha => by have := hM9 hz a ha; omega

end Go.Proofs.Ytppkifdngjcbeaa
