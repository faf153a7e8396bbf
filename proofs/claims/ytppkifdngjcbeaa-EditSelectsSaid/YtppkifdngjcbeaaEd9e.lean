/- The walk of the program's Erase. No condition. -/
import Derived.Test.YtppkifdngjcbeaaEd8
import Derived.Test.YtppkifdngjcbeaaDr6
import Derived.Deep.CutBlock
namespace Go.Proofs.Ytppkifdngjcbeaa
open Go.RowKit
set_option linter.unusedSimpArgs false

set_option maxRecDepth 100000 in
set_option maxHeartbeats 8000000 in
theorem eerase_any (x : SV) (li lf : Int) (sg : Bool) (what : Int) (w : World) (h : x.v.ok w) (hf : x.v.fit) (hl : I6 li ∧ I6 lf) :
    Calls Try.prog 32 #[.agg #[.bool x.v.b, .slice x.v.A x.v.n x.v.c, .bool x.v.p, .slice x.v.E x.v.m x.v.q, .int .i64 x.c, .int .i64 x.a], .agg #[.int .i64 li, .int .i64 lf, .bool sg], .int .i64 what] w (RSF w (eraseS x.s li lf what).1 (eraseS x.s li lf what).2) := by
  have hm := Lib.hid (fun W (hW : x.v.ok W) => emay_any x W hW hf)
  have hspan := Lib.hid (fun W (hW : x.v.ok W) => espan_any x W hW hf)
  have hlen := Lib.hid (fun W (hW : x.v.ok W) => show Calls Try.prog 27 #[.agg #[.bool x.v.b, .slice x.v.A x.v.n x.v.c, .bool x.v.p, .slice x.v.E x.v.m x.v.q]] W (RV W (.int .i64 (lenR x.v.d))) from len_any x.v.b x.v.p W hW.1 hW.2 (by have := hf.2.2.1; omega) (by have := hf.2.2.2; omega))
  have hsp := Lib.hid (fun (i j : Int) (hi : I6 i) (hj : I6 j) W (hW : x.v.ok W) => show Calls Try.prog 73 #[.agg #[.bool x.v.b, .slice x.v.A x.v.n x.v.c, .bool x.v.p, .slice x.v.E x.v.m x.v.q], .int .i64 i, .int .i64 j, .slice none 0 0] W (RDV W (spliceS x.v.d i j []).1 (spliceS x.v.d i j []).2) from (splice_any x.v.b x.v.p i j W hW.1 hW.2 (IL.nil _) hf.1 hf.2.1 (fun _ hx => by cases hx) hf.2.2.1 hf.2.2.2 (by omega) hi hj).mono (fun _ _ q => q.dv))
  have hfit := Lib.hid (fun (y : DV) W (hW : y.ok W) => show Calls Try.prog 52 #[.agg #[.bool y.b, .slice y.A y.n y.c, .bool y.p, .slice y.E y.m y.q], .int .i64 li, .int .i64 lf] W (RV W (.bool (fitsD y.d li lf))) from dfits_any y.b y.p li lf W hW.1 hW.2 hl.1 hl.2)
  have hIN : Hid (eraseS x.s li lf what = if mayS x.s && decide (0 ≤ what) && decide (what ≤ 6) then
    if (spanE x.s what).1 = (spanE x.s what).2 ∧ (x.v.b && !(what == 6)) = x.v.b then (St.zero, 7)
    else if fitsD (spliceS x.v.d (spanE x.s what).1 (spanE x.s what).2 []).1 li lf then (⟨negD (spliceS x.v.d (spanE x.s what).1 (spanE x.s what).2 []).1 (x.v.b && !(what == 6)), (spanE x.s what).1, (spanE x.s what).1⟩, 0)
    else (St.zero, 4)
  else (St.zero, 1)) := rfl
  have hSE : Hid (spanE x.s what = if what = 6 then (0, lenR x.v.d) else if frontS x.s = backS x.s then (if x.c < toS x.v.d x.c what then x.c else toS x.v.d x.c what, if toS x.v.d x.c what < x.c then x.c else toS x.v.d x.c what) else (frontS x.s, backS x.s)) := rfl
  have hbd := lenR_le h hf
  have hx0 := (((SB.made w w 61 x (Later.refl w) h (w.heap.size) (by simp)).alloc (.cells #[.int .i64 li, .int .i64 lf, .bool sg] 65)).alloc (.cells #[.bool false, .slice none 0 0, .bool false, .slice none 0 0, .int .i64 0, .int .i64 0] 61))
  have hL0 := ((Blk.made w (w.alloc (.cells #[.bool x.v.b, .slice x.v.A x.v.n x.v.c, .bool x.v.p, .slice x.v.E x.v.m x.v.q, .int .i64 x.c, .int .i64 x.a] 61)) 65 #[.int .i64 li, .int .i64 lf, .bool sg] ((Later.refl w).alloc _) (w.heap.size + 1) (by simp)).alloc (.cells #[.bool false, .slice none 0 0, .bool false, .slice none 0 0, .int .i64 0, .int .i64 0] 61))
  have hR0 := (Blk.made w ((w.alloc (.cells #[.bool x.v.b, .slice x.v.A x.v.n x.v.c, .bool x.v.p, .slice x.v.E x.v.m x.v.q, .int .i64 x.c, .int .i64 x.a] 61)).alloc (.cells #[.int .i64 li, .int .i64 lf, .bool sg] 65)) 61 #[.bool false, .slice none 0 0, .bool false, .slice none 0 0, .int .i64 0, .int .i64 0] (((Later.refl w).alloc _).alloc _) (w.heap.size + 2) (by simp))
  generalize eraseS x.s li lf what = D at *
  cases hmm : mayS x.s
  · rw [hmm] at hm hIN
    have HD : Hid (D = (St.zero, 1)) := by rw [Hid, hIN.out]; rfl
    clear hmm hIN
    go_enter Try.func32, Try.ntmps32
    go_upto_region 1 with fail
    generalize World.alloc (World.alloc (World.alloc w _) _) _ = w1 at *
    have qx0 := hx0.c0
    have qx1 := hx0.c1
    have qx2 := hx0.c2
    have qx3 := hx0.c3
    have qx4 := hx0.c4
    have qx5 := hx0.c5
    go_wp2_with fail
    refine (hm.out _ hx0.ok).mono ?_
    rintro e w2 ⟨rfl, hB2⟩
    clear qx0 qx1 qx2 qx3 qx4 qx5
    have hx2 := hx0.call hB2
    clear hx0
    have hL2 := hL0.call hB2
    clear hL0
    have hR2 := hR0.call hB2
    clear hR0
    obtain ⟨⟨R0, R1, R2, R3, R4, R5⟩, ⟨Rf0, Rf1, Rf2, Rf3, Rf4, Rf5⟩⟩ := hR2.cells6
    go_wp2_with fail
    rw [HD.out]
    obtain ⟨⟨u0, u1, u2, u3, u4, u5⟩, _⟩ := (hR2.store6 (.bool false) (.slice none 0 0) (.bool false) (.slice none 0 0) (.int .i64 0) (.int .i64 0)).cells6
    refine bodyPost_ret (v := .tuple #[.agg #[.bool false, .slice none 0 0, .bool false, .slice none 0 0, .int .i64 0, .int .i64 0], .int .i64 1]) (by generalize World.setCell (World.setCell (World.setCell (World.setCell (World.setCell (World.setCell _ _ _) _ _) _ _) _ _) _ _) _ _ = W6 at u0 u1 u2 u3 u4 u5 ⊢; simp [results, Try.results32, go_sem, u0, u1, u2, u3, u4, u5]) rfl ?_
    exact ⟨⟨⟨false, none, 0, 0, [], false, none, 0, 0, []⟩, 0, 0⟩, rfl, rfl, ⟨IL.nil _, IL.nil _⟩, below_set6 hR2.later (by omega) _ _ _ _ _ _, none_newer _, none_newer _⟩
  · rw [hmm] at hm hIN hspan
    have hcar : Car x := (mayS_iff.1 hmm).2.1
    have hmd : mayDr x.v.d = true := (mayS_iff.1 hmm).1
    have hfb := front_back hmm
    clear hmm
    by_cases hk0 : 0 ≤ what
    case neg =>
      have hkb : what < 0 := by omega
      have HD : Hid (D = (St.zero, 1)) := by rw [Hid, hIN.out]; simp; intro q; omega
      go_enter Try.func32, Try.ntmps32
      go_upto_region 1 with fail
      generalize World.alloc (World.alloc (World.alloc w _) _) _ = w1 at *
      have qx0 := hx0.c0
      have qx1 := hx0.c1
      have qx2 := hx0.c2
      have qx3 := hx0.c3
      have qx4 := hx0.c4
      have qx5 := hx0.c5
      go_wp2_with fail
      refine (hm.out _ hx0.ok).mono ?_
      rintro e w2 ⟨rfl, hB2⟩
      clear qx0 qx1 qx2 qx3 qx4 qx5
      have hx2 := hx0.call hB2
      clear hx0
      have hL2 := hL0.call hB2
      clear hL0
      have hR2 := hR0.call hB2
      clear hR0
      obtain ⟨⟨R0, R1, R2, R3, R4, R5⟩, ⟨Rf0, Rf1, Rf2, Rf3, Rf4, Rf5⟩⟩ := hR2.cells6
      go_wp2_with fail
      rw [HD.out]
      obtain ⟨⟨u0, u1, u2, u3, u4, u5⟩, _⟩ := (hR2.store6 (.bool false) (.slice none 0 0) (.bool false) (.slice none 0 0) (.int .i64 0) (.int .i64 0)).cells6
      refine bodyPost_ret (v := .tuple #[.agg #[.bool false, .slice none 0 0, .bool false, .slice none 0 0, .int .i64 0, .int .i64 0], .int .i64 1]) (by generalize World.setCell (World.setCell (World.setCell (World.setCell (World.setCell (World.setCell _ _ _) _ _) _ _) _ _) _ _) _ _ = W6 at u0 u1 u2 u3 u4 u5 ⊢; simp [results, Try.results32, go_sem, u0, u1, u2, u3, u4, u5]) rfl ?_
      exact ⟨⟨⟨false, none, 0, 0, [], false, none, 0, 0, []⟩, 0, 0⟩, rfl, rfl, ⟨IL.nil _, IL.nil _⟩, below_set6 hR2.later (by omega) _ _ _ _ _ _, none_newer _, none_newer _⟩
    by_cases hk6 : what ≤ 6
    case neg =>
      have hkb : ¬ what < 0 := by omega
      have hkc : 6 < what := by omega
      have HD : Hid (D = (St.zero, 1)) := by rw [Hid, hIN.out]; simp; intros; omega
      go_enter Try.func32, Try.ntmps32
      go_upto_region 1 with fail
      generalize World.alloc (World.alloc (World.alloc w _) _) _ = w1 at *
      have qx0 := hx0.c0
      have qx1 := hx0.c1
      have qx2 := hx0.c2
      have qx3 := hx0.c3
      have qx4 := hx0.c4
      have qx5 := hx0.c5
      go_wp2_with fail
      refine (hm.out _ hx0.ok).mono ?_
      rintro e w2 ⟨rfl, hB2⟩
      clear qx0 qx1 qx2 qx3 qx4 qx5
      have hx2 := hx0.call hB2
      clear hx0
      have hL2 := hL0.call hB2
      clear hL0
      have hR2 := hR0.call hB2
      clear hR0
      obtain ⟨⟨R0, R1, R2, R3, R4, R5⟩, ⟨Rf0, Rf1, Rf2, Rf3, Rf4, Rf5⟩⟩ := hR2.cells6
      go_wp2_with fail
      rw [HD.out]
      obtain ⟨⟨u0, u1, u2, u3, u4, u5⟩, _⟩ := (hR2.store6 (.bool false) (.slice none 0 0) (.bool false) (.slice none 0 0) (.int .i64 0) (.int .i64 0)).cells6
      refine bodyPost_ret (v := .tuple #[.agg #[.bool false, .slice none 0 0, .bool false, .slice none 0 0, .int .i64 0, .int .i64 0], .int .i64 1]) (by generalize World.setCell (World.setCell (World.setCell (World.setCell (World.setCell (World.setCell _ _ _) _ _) _ _) _ _) _ _) _ _ = W6 at u0 u1 u2 u3 u4 u5 ⊢; simp [results, Try.results32, go_sem, u0, u1, u2, u3, u4, u5]) rfl ?_
      exact ⟨⟨⟨false, none, 0, 0, [], false, none, 0, 0, []⟩, 0, 0⟩, rfl, rfl, ⟨IL.nil _, IL.nil _⟩, below_set6 hR2.later (by omega) _ _ _ _ _ _, none_newer _, none_newer _⟩
    obtain ⟨m, rfl⟩ : ∃ m : Nat, what = (m : Int) := ⟨what.toNat, by omega⟩
    have hkb : ¬ (m : Int) < 0 := by omega
    have hkc : ¬ 6 < (m : Int) := by omega
    have hIM : Hid (D = if (spanE x.s (m : Int)).1 = (spanE x.s (m : Int)).2 ∧ (x.v.b && !((m : Int) == 6)) = x.v.b then (St.zero, 7)
      else if fitsD (spliceS x.v.d (spanE x.s (m : Int)).1 (spanE x.s (m : Int)).2 []).1 li lf then (⟨negD (spliceS x.v.d (spanE x.s (m : Int)).1 (spanE x.s (m : Int)).2 []).1 (x.v.b && !((m : Int) == 6)), (spanE x.s (m : Int)).1, (spanE x.s (m : Int)).1⟩, 0)
      else (St.zero, 4)) := by rw [Hid, hIN.out, if_pos]; simp [hk0, hk6]
    clear hIN
    have htb := toS_bd hcar (m : Int)
    have hij : 0 ≤ (spanE x.s (m : Int)).1 ∧ (spanE x.s (m : Int)).1 ≤ (spanE x.s (m : Int)).2 ∧ (spanE x.s (m : Int)).2 ≤ lenR x.v.d := by
      rw [hSE.out]
      obtain ⟨c1, c2⟩ := hcar
      obtain ⟨f1, f2, f3⟩ := hfb
      have f3' : backS x.s ≤ lenR x.v.d := f3
      split
      · exact ⟨by simp only; omega, by simp only; omega, by simp only; omega⟩
      · split
        · simp only
          split <;> split <;> omega
        · exact ⟨f1, f2, f3'⟩
    obtain ⟨Q, hQe, hQn, hQm, hQa⟩ := splice_cut hmd hij.1 hij.2.1 hij.2.2
    have t0 := Lib.hid (fun (hk : (m : Int) = 0) W (hW : x.v.ok W) => show Calls Try.prog 94 #[.agg #[.bool x.v.b, .slice x.v.A x.v.n x.v.c, .bool x.v.p, .slice x.v.E x.v.m x.v.q, .int .i64 x.c, .int .i64 x.a]] W (RV W (.int .i64 (toS x.v.d x.c (m : Int)))) by rw [hk]; exact eahead_any x W hW hf hcar)
    have t1 := Lib.hid (fun (hk : (m : Int) = 1) W (hW : x.v.ok W) => show Calls Try.prog 95 #[.agg #[.bool x.v.b, .slice x.v.A x.v.n x.v.c, .bool x.v.p, .slice x.v.E x.v.m x.v.q, .int .i64 x.c, .int .i64 x.a]] W (RV W (.int .i64 (toS x.v.d x.c (m : Int)))) by rw [hk]; exact ebehind_any x W hW hf hcar)
    have t2 := Lib.hid (fun (hk : (m : Int) = 2) W (hW : x.v.ok W) => show Calls Try.prog 96 #[.agg #[.bool x.v.b, .slice x.v.A x.v.n x.v.c, .bool x.v.p, .slice x.v.E x.v.m x.v.q, .int .i64 x.c, .int .i64 x.a]] W (RV W (.int .i64 (toS x.v.d x.c (m : Int)))) by rw [hk]; exact eleft_any x W hW hf hcar)
    have t3 := Lib.hid (fun (hk : (m : Int) = 3) W (hW : x.v.ok W) => show Calls Try.prog 97 #[.agg #[.bool x.v.b, .slice x.v.A x.v.n x.v.c, .bool x.v.p, .slice x.v.E x.v.m x.v.q, .int .i64 x.c, .int .i64 x.a]] W (RV W (.int .i64 (toS x.v.d x.c (m : Int)))) by rw [hk]; exact eright_any x W hW hf hcar)
    have t4 := Lib.hid (fun (hk : (m : Int) = 4) W (hW : x.v.ok W) => show Calls Try.prog 98 #[.agg #[.bool x.v.b, .slice x.v.A x.v.n x.v.c, .bool x.v.p, .slice x.v.E x.v.m x.v.q, .int .i64 x.c, .int .i64 x.a]] W (RV W (.int .i64 (toS x.v.d x.c (m : Int)))) by rw [hk]; exact ehome_any x W hW)
    have t5 := Lib.hid (fun (hk : (m : Int) = 5) W (hW : x.v.ok W) => show Calls Try.prog 99 #[.agg #[.bool x.v.b, .slice x.v.A x.v.n x.v.c, .bool x.v.p, .slice x.v.E x.v.m x.v.q, .int .i64 x.c, .int .i64 x.a]] W (RV W (.int .i64 (toS x.v.d x.c (m : Int)))) by rw [hk]; exact eend_any x W hW hf)
    have hsp1 := Lib.hid (hsp.out (spanE x.s (m : Int)).1 (spanE x.s (m : Int)).2 ⟨by omega, by omega⟩ ⟨by omega, by omega⟩)
    rw [hQe] at hsp1 hIM
    clear hsp hQe hQm hQa hfb htb hcar hmd
    generalize toS x.v.d x.c (m : Int) = t at *
    generalize spanE x.s (m : Int) = ij at *
    obtain ⟨i, j⟩ := ij
    generalize frontS x.s = fr at *
    generalize backS x.s = bk at *
    generalize lenR x.v.d = nn at *
    go_enter Try.func32, Try.ntmps32
    go_upto_region 1 with fail
    generalize World.alloc (World.alloc (World.alloc w _) _) _ = w1 at *
    have gR := hR0.lt
    have qx0 := hx0.c0
    have qx1 := hx0.c1
    have qx2 := hx0.c2
    have qx3 := hx0.c3
    have qx4 := hx0.c4
    have qx5 := hx0.c5
    go_wp2_with fail
    refine (hm.out _ hx0.ok).mono ?_
    rintro e w2 ⟨rfl, hB2⟩
    clear qx0 qx1 qx2 qx3 qx4 qx5
    have hx2 := hx0.call hB2
    clear hx0
    have hL2 := hL0.call hB2
    clear hL0
    have hR2 := hR0.call hB2
    clear hR0
    have qx0 := hx2.c0
    have qx1 := hx2.c1
    have qx2 := hx2.c2
    have qx3 := hx2.c3
    have qx4 := hx2.c4
    have qx5 := hx2.c5
    go_wp2_with fail
    refine (hspan.out _ hx2.ok).mono ?_
    rintro e w3 ⟨rfl, hB3⟩
    clear qx0 qx1 qx2 qx3 qx4 qx5
    have hx3 := hx2.call hB3
    clear hx2
    have hL3 := hL2.call hB3
    clear hL2
    have hR3 := hR2.call hB3
    clear hR2
    have gR2 := hR3.lt
    go_upto_block 0 with fail
    go_cut [8, 9] (fun s u W => s = .int .i64 i ∧ u = .int .i64 j ∧ Later w3 W)
    case first =>
      by_cases h6 : m = 6
      case pos =>
        subst h6
        have e : Hid ((i, j) = (0, nn)) := by rw [Hid, hSE.out]; rfl
        have e1 : Hid (i = 0) := congrArg Prod.fst e.out
        have e2 : Hid (j = nn) := congrArg Prod.snd e.out
        clear t0 t1 t2 t3 t4 t5 hSE
        have qx0 := hx3.c0
        have qx1 := hx3.c1
        have qx2 := hx3.c2
        have qx3 := hx3.c3
        have qx4 := hx3.c4
        have qx5 := hx3.c5
        go_wp2_with fail
        refine (hlen.out _ hx3.ok).mono ?_
        rintro e w4 ⟨rfl, hB4⟩
        clear qx0 qx1 qx2 qx3 qx4 qx5
        have hx4 := hx3.call hB4
        clear hx3
        go_wp2_with fail
        go_meet
        exact ⟨by rw [e1.out], by rw [e2.out], hB4⟩
      case neg =>
        have hm5 : m ≤ 5 := by omega
        have hk5 : (m : Int) ≤ 5 := by omega
        have h6i : ¬ (m : Int) = 6 := by omega
        have h6b : ((m : Int) == 6) = false := by simpa using h6i
        by_cases hfb : fr = bk
        case neg =>
          have e : Hid ((i, j) = (fr, bk)) := by rw [Hid, hSE.out, if_neg h6i, if_neg hfb]
          have e1 : Hid (i = fr) := congrArg Prod.fst e.out
          have e2 : Hid (j = bk) := congrArg Prod.snd e.out
          have hfbb : (fr == bk) = false := by simpa using hfb
          clear t0 t1 t2 t3 t4 t5 hSE
          go_wp2_with fail
          go_meet
          exact ⟨by rw [e1.out], by rw [e2.out], Later.refl _⟩
        case pos =>
          subst hfb
          have e : Hid ((i, j) = (if x.c < t then x.c else t, if t < x.c then x.c else t)) := by rw [Hid, hSE.out, if_neg h6i, if_pos rfl]
          have e1 : Hid (i = if x.c < t then x.c else t) := congrArg Prod.fst e.out
          have e2 : Hid (j = if t < x.c then x.c else t) := congrArg Prod.snd e.out
          clear e hSE
          go_upto_region 7 with fail
          go_cut [10] (fun s W => s = .int .i64 t ∧ Later w3 W)
          case first =>
            obtain ⟨wn, hwn⟩ : ∃ wn, wn = World.alloc (World.drew w3) (.cells wayCells 117) := ⟨_, rfl⟩
            have hLn : Later w3 wn := by rw [hwn]; exact ((Later.refl w3).drew).alloc _
            have hways := Lib.hid (show Calls Try.prog 77 #[] (World.drew w3) fun e w' => e = .returned (.slice (some ⟨w3.heap.size, 0, none⟩) 6 6) ∧ w' = wn by rw [hwn]; exact ways_any _)
            have hcl : ∀ i, wn.cell? ⟨w3.heap.size, i, none⟩ = wayCells[i]? := fun i => by rw [hwn]; exact World.cell?_alloc_at _ _ _ _ rfl
            have hxd := hx3.call (Later.refl w3).drew
            have hxn := hx3.call hLn
            have d0 := hxd.c0
            have d1 := hxd.c1
            have d2 := hxd.c2
            have d3 := hxd.c3
            have d4 := hxd.c4
            have d5 := hxd.c5
            have n0 := hxn.c0
            have n1 := hxn.c1
            have n2 := hxn.c2
            have n3 := hxn.c3
            have n4 := hxn.c4
            have n5 := hxn.c5
            have hok := hxn.ok
            clear hwn hxd hxn
            have hcs : m = 0 ∨ m = 1 ∨ m = 2 ∨ m = 3 ∨ m = 4 ∨ m = 5 := by omega
            rcases hcs with rfl | rfl | rfl | rfl | rfl | rfl
            · have ht := Lib.hid (t0.out rfl)
              have hc : wn.cell? ⟨w3.heap.size, 0, none⟩ = some (.func (.func 94) #[] #[]) := hcl 0
              clear t0 t1 t2 t3 t4 t5 hcl
              go_region_with (first
                | (go_at_call 77; refine hways.out.mono ?_; rintro e wc0 ⟨rfl, rfl⟩)
                | (go_at_call 94; refine (ht.out _ hok).mono ?_; rintro e wc1 ⟨rfl, hB1⟩))
              all_goals
                go_wp2_with fail
                go_meet
                exact ⟨rfl, below_from hLn hB1⟩
            · have ht := Lib.hid (t1.out rfl)
              have hc : wn.cell? ⟨w3.heap.size, 1, none⟩ = some (.func (.func 95) #[] #[]) := hcl 1
              clear t0 t1 t2 t3 t4 t5 hcl
              go_region_with (first
                | (go_at_call 77; refine hways.out.mono ?_; rintro e wc0 ⟨rfl, rfl⟩)
                | (go_at_call 95; refine (ht.out _ hok).mono ?_; rintro e wc1 ⟨rfl, hB1⟩))
              all_goals
                go_wp2_with fail
                go_meet
                exact ⟨rfl, below_from hLn hB1⟩
            · have ht := Lib.hid (t2.out rfl)
              have hc : wn.cell? ⟨w3.heap.size, 2, none⟩ = some (.func (.func 96) #[] #[]) := hcl 2
              clear t0 t1 t2 t3 t4 t5 hcl
              go_region_with (first
                | (go_at_call 77; refine hways.out.mono ?_; rintro e wc0 ⟨rfl, rfl⟩)
                | (go_at_call 96; refine (ht.out _ hok).mono ?_; rintro e wc1 ⟨rfl, hB1⟩))
              all_goals
                go_wp2_with fail
                go_meet
                exact ⟨rfl, below_from hLn hB1⟩
            · have ht := Lib.hid (t3.out rfl)
              have hc : wn.cell? ⟨w3.heap.size, 3, none⟩ = some (.func (.func 97) #[] #[]) := hcl 3
              clear t0 t1 t2 t3 t4 t5 hcl
              go_region_with (first
                | (go_at_call 77; refine hways.out.mono ?_; rintro e wc0 ⟨rfl, rfl⟩)
                | (go_at_call 97; refine (ht.out _ hok).mono ?_; rintro e wc1 ⟨rfl, hB1⟩))
              all_goals
                go_wp2_with fail
                go_meet
                exact ⟨rfl, below_from hLn hB1⟩
            · have ht := Lib.hid (t4.out rfl)
              have hc : wn.cell? ⟨w3.heap.size, 4, none⟩ = some (.func (.func 98) #[] #[]) := hcl 4
              clear t0 t1 t2 t3 t4 t5 hcl
              go_region_with (first
                | (go_at_call 77; refine hways.out.mono ?_; rintro e wc0 ⟨rfl, rfl⟩)
                | (go_at_call 98; refine (ht.out _ hok).mono ?_; rintro e wc1 ⟨rfl, hB1⟩))
              all_goals
                go_wp2_with fail
                go_meet
                exact ⟨rfl, below_from hLn hB1⟩
            · have ht := Lib.hid (t5.out rfl)
              have hc : wn.cell? ⟨w3.heap.size, 5, none⟩ = some (.func (.func 99) #[] #[]) := hcl 5
              clear t0 t1 t2 t3 t4 t5 hcl
              go_region_with (first
                | (go_at_call 77; refine hways.out.mono ?_; rintro e wc0 ⟨rfl, rfl⟩)
                | (go_at_call 99; refine (ht.out _ hok).mono ?_; rintro e wc1 ⟨rfl, hB1⟩))
              all_goals
                go_wp2_with fail
                go_meet
                exact ⟨rfl, below_from hLn hB1⟩
          case rest =>
            obtain ⟨rfl, hLd⟩ := hcut
            obtain ⟨w8, hw8⟩ : ∃ wm, wm = wc := ⟨_, rfl⟩
            rw [← hw8] at hLd
            rw [← hw8]
            clear hw8 t0 t1 t2 t3 t4 t5
            have hx8 := hx3.call hLd
            have q4 := hx8.c4
            have q4d := (hx8.call (Later.refl w8).drew).c4
            go_upto_region 8 with fail
            clear hx8
            have hmn := e1.out.symm
            have hmx := e2.out.symm
            go_region
            all_goals
              go_wp2_with fail
              go_meet
              exact ⟨rfl, rfl, hLd.drew⟩
    case rest =>
      obtain ⟨rfl, rfl, hLc⟩ := hcut
      obtain ⟨w9, hw9⟩ : ∃ wm, wm = wc := ⟨_, rfl⟩
      rw [← hw9] at hLc
      rw [← hw9]
      clear hw9 t0 t1 t2 t3 t4 t5 hSE
      have hx9 := hx3.call hLc
      have hR9 := hR3.call hLc
      have hL9 := hL3.call hLc
      clear hx3 hR3 hL3
      have gR9 := hR9.lt
      have gW9 := hx9.later.size
      have qx0 := hx9.c0
      have qx1 := hx9.c1
      have qx2 := hx9.c2
      have qx3 := hx9.c3
      have qx4 := hx9.c4
      have qx5 := hx9.c5
      go_wp2_with fail
      refine (hsp1.out _ hx9.ok).mono ?_
      rintro e w10 ⟨y, rfl, hyq, hyo, hB10, hN9, hM9⟩
      clear qx0 qx1 qx2 qx3 qx4 qx5
      have hx10 := hx9.call hB10
      clear hx9
      have hR10 := hR9.call hB10
      clear hR9
      have hL10 := hL9.call hB10
      clear hL9
      have hyOld := hyo.old
      have gL := hx10.later.size
      have gR3 := hR10.lt
      have hd10 := DBk.made w w10 38 y hx10.later hyo _ rfl
      go_upto_region 10 with fail
      have hx_v9 := hx10.alloc (.cells #[.bool y.b, .slice y.A y.n y.c, .bool y.p, .slice y.E y.m y.q] 38)
      clear hx10
      have hR_v9 := hR10.alloc (.cells #[.bool y.b, .slice y.A y.n y.c, .bool y.p, .slice y.E y.m y.q] 38)
      clear hR10
      have hL_v9 := hL10.alloc (.cells #[.bool y.b, .slice y.A y.n y.c, .bool y.p, .slice y.E y.m y.q] 38)
      clear hL10
      generalize hgw : World.alloc w10 _ = v9 at *
      clear hgw
      have hyb : Hid (y.b = x.v.b) := (congrArg Dr.neg hyq.out).trans hQn
      clear hQn
      have hOx := h.old
      cases hxb : x.v.b
      case false =>
        have hd_n := hd10.neg false (fun hz a ha => by have := hyOld.1 hz a ha; omega) (fun hz a ha => by have := hyOld.2 hz a ha; omega)
        have hR_n := hR_v9.far (p := ⟨w10.heap.size, 0, none⟩) (by simp only; omega) gL (.bool false)
        have hL_n := hL_v9.far (p := ⟨w10.heap.size, 0, none⟩) (by simp only; omega) gL (.bool false)
        have hx_n : SB w w.heap.size 61 x _ := ⟨hx_v9.1.far (p := ⟨w10.heap.size, 0, none⟩) (by simp only; omega) gL (.bool false), hx_v9.2.1.set_ (p := ⟨w10.heap.size, 0, none⟩) (fun hz a ha => by have := hOx.1 hz a ha; simp only; omega) _, hx_v9.2.2.set_ (p := ⟨w10.heap.size, 0, none⟩) (fun hz a ha => by have := hOx.2 hz a ha; simp only; omega) _⟩
        obtain ⟨⟨o0, o1, o2, o3⟩, ⟨p0, p1, p2, p3⟩⟩ := hd10.1.cells4
        rw [hyb.out, hxb] at o0
        go_upto_region 11 with fail
        clear o0 o1 o2 o3 p0 p1 p2 p3 hd10 hx_v9 hR_v9 hL_v9
        generalize hgs : World.setCell _ _ _ = v3 at *
        clear hgs
        by_cases hij2 : i = j
        case pos =>
          have hijb : (i == j) = true := by simpa using hij2
          have hijh := Lib.hid hij2
          clear hij2
          have HD : Hid (D = (St.zero, 7)) := by rw [Hid, hIM.out, if_pos]; exact ⟨hijh.out, by simp [hxb, hxb]⟩
          have qd0 := hd_n.c0
          have qd1 := hd_n.c1
          have qd2 := hd_n.c2
          have qd3 := hd_n.c3
          have qx0 := hx_n.c0
          have qx1 := hx_n.c1
          have qx2 := hx_n.c2
          have qx3 := hx_n.c3
          have qx4 := hx_n.c4
          have qx5 := hx_n.c5
          rw [hxb] at qx0
          change _ = some (Value.bool false) at qd0
          obtain ⟨⟨R0, R1, R2, R3, R4, R5⟩, ⟨Rf0, Rf1, Rf2, Rf3, Rf4, Rf5⟩⟩ := hR_n.cells6
          go_wp2_with fail
          rw [HD.out]
          obtain ⟨⟨u0, u1, u2, u3, u4, u5⟩, _⟩ := (hR_n.store6 (.bool false) (.slice none 0 0) (.bool false) (.slice none 0 0) (.int .i64 0) (.int .i64 0)).cells6
          refine bodyPost_ret (v := .tuple #[.agg #[.bool false, .slice none 0 0, .bool false, .slice none 0 0, .int .i64 0, .int .i64 0], .int .i64 7]) (by generalize World.setCell (World.setCell (World.setCell (World.setCell (World.setCell (World.setCell _ _ _) _ _) _ _) _ _) _ _) _ _ = W6 at u0 u1 u2 u3 u4 u5 ⊢; simp [results, Try.results32, go_sem, u0, u1, u2, u3, u4, u5]) rfl ?_
          exact ⟨⟨⟨false, none, 0, 0, [], false, none, 0, 0, []⟩, 0, 0⟩, rfl, rfl, ⟨IL.nil _, IL.nil _⟩, below_set6 hR_n.later (by omega) _ _ _ _ _ _, none_newer _, none_newer _⟩
        case neg =>
          have hijb : (i == j) = false := by simpa using hij2
          have hIK : Hid (D = if fitsD Q li lf then (⟨negD Q false, i, i⟩, 0) else (St.zero, 4)) := by rw [Hid, hIM.out, if_neg]; (· simp [hxb, hxb]); (· simp [hxb, hxb, hij2])
          have hfq0 := Lib.hid (hfit.out (y.ng false))
          have hfe : Hid (fitsD (y.ng false).d li lf = fitsD Q li lf) := by rw [Hid, ← hyq.out]; rfl
          rw [hfe.out] at hfq0
          have qd0 := hd_n.c0
          have qd1 := hd_n.c1
          have qd2 := hd_n.c2
          have qd3 := hd_n.c3
          have qx0 := hx_n.c0
          have qx1 := hx_n.c1
          have qx2 := hx_n.c2
          have qx3 := hx_n.c3
          have qx4 := hx_n.c4
          have qx5 := hx_n.c5
          rw [hxb] at qx0
          change _ = some (Value.bool false) at qd0
          obtain ⟨⟨L0, L1, L2⟩, ⟨Lf0, Lf1, Lf2⟩⟩ := hL_n.cells3
          go_wp2_with fail
          refine (hfq0.out _ hd_n.ok).mono ?_
          rintro e w11 ⟨rfl, hB11⟩
          clear qd0 qd1 qd2 qd3 qx0 qx1 qx2 qx3 qx4 qx5 L0 L1 L2 Lf0 Lf1 Lf2
          have hd11 := hd_n.call hB11
          have hx11 := hx_n.call hB11
          clear hd_n hx_n
          have hR11 := hR_n.call hB11
          clear hR_n
          have hL11 := hL_n.call hB11
          clear hL_n
          cases hfq : fitsD Q li lf
          case false =>
            have HD : Hid (D = (St.zero, 4)) := by rw [Hid, hIK.out, hfq]; rfl
            obtain ⟨⟨R0, R1, R2, R3, R4, R5⟩, ⟨Rf0, Rf1, Rf2, Rf3, Rf4, Rf5⟩⟩ := hR11.cells6
            go_wp2_with fail
            rw [HD.out]
            obtain ⟨⟨u0, u1, u2, u3, u4, u5⟩, _⟩ := (hR11.store6 (.bool false) (.slice none 0 0) (.bool false) (.slice none 0 0) (.int .i64 0) (.int .i64 0)).cells6
            refine bodyPost_ret (v := .tuple #[.agg #[.bool false, .slice none 0 0, .bool false, .slice none 0 0, .int .i64 0, .int .i64 0], .int .i64 4]) (by generalize World.setCell (World.setCell (World.setCell (World.setCell (World.setCell (World.setCell _ _ _) _ _) _ _) _ _) _ _) _ _ = W6 at u0 u1 u2 u3 u4 u5 ⊢; simp [results, Try.results32, go_sem, u0, u1, u2, u3, u4, u5]) rfl ?_
            exact ⟨⟨⟨false, none, 0, 0, [], false, none, 0, 0, []⟩, 0, 0⟩, rfl, rfl, ⟨IL.nil _, IL.nil _⟩, below_set6 hR11.later (by omega) _ _ _ _ _ _, none_newer _, none_newer _⟩
          case true =>
            have HD : Hid (D = (⟨negD Q false, i, i⟩, 0)) := by rw [Hid, hIK.out, hfq]; rfl
            have hOK := hd11.ok
            have qd0 := hd11.c0
            have qd1 := hd11.c1
            have qd2 := hd11.c2
            have qd3 := hd11.c3
            change _ = some (Value.bool false) at qd0
            obtain ⟨⟨R0, R1, R2, R3, R4, R5⟩, ⟨Rf0, Rf1, Rf2, Rf3, Rf4, Rf5⟩⟩ := hR11.cells6
            go_wp2_with fail
            rw [HD.out]
            obtain ⟨⟨u0, u1, u2, u3, u4, u5⟩, _⟩ := (hR11.store6 (.bool false) (.slice (y.ng false).A (y.ng false).n (y.ng false).c) (.bool (y.ng false).p) (.slice (y.ng false).E (y.ng false).m (y.ng false).q) (.int .i64 i) (.int .i64 i)).cells6
            refine bodyPost_ret (v := .tuple #[.agg #[.bool false, .slice (y.ng false).A (y.ng false).n (y.ng false).c, .bool (y.ng false).p, .slice (y.ng false).E (y.ng false).m (y.ng false).q, .int .i64 i, .int .i64 i], .int .i64 0]) (by generalize World.setCell (World.setCell (World.setCell (World.setCell (World.setCell (World.setCell _ _ _) _ _) _ _) _ _) _ _) _ _ = W6 at u0 u1 u2 u3 u4 u5 ⊢; simp [results, Try.results32, go_sem, u0, u1, u2, u3, u4, u5]) rfl ?_
            refine ⟨⟨(y.ng false), i, i⟩, rfl, ?_, ?_, ?_, ?_, ?_⟩
            · rw [Hid]; show _ = (⟨negD Q false, i, i⟩ : St); rw [← hyq.out]; rfl
            · exact hOK.set6 (fun hz a ha => by have := hN9 hz a ha; omega) (fun hz a ha => by have := hM9 hz a ha; omega) _ _ _ _ _ _
            · exact below_set6 hR11.later (by omega) _ _ _ _ _ _
            · exact fun hz a ha => by have := hN9 hz a ha; omega
            · exact fun hz a ha => by have := hM9 hz a ha; omega
      case true =>
        by_cases h6 : (m : Int) = 6
        case pos =>
          have h6b : ((m : Int) == 6) = true := by simpa using h6
          have h6c : ((m : Int) != 6) = false := by simp [h6]
          have hd_n := hd10.neg false (fun hz a ha => by have := hyOld.1 hz a ha; omega) (fun hz a ha => by have := hyOld.2 hz a ha; omega)
          have hR_n := hR_v9.far (p := ⟨w10.heap.size, 0, none⟩) (by simp only; omega) gL (.bool false)
          have hL_n := hL_v9.far (p := ⟨w10.heap.size, 0, none⟩) (by simp only; omega) gL (.bool false)
          have hx_n : SB w w.heap.size 61 x _ := ⟨hx_v9.1.far (p := ⟨w10.heap.size, 0, none⟩) (by simp only; omega) gL (.bool false), hx_v9.2.1.set_ (p := ⟨w10.heap.size, 0, none⟩) (fun hz a ha => by have := hOx.1 hz a ha; simp only; omega) _, hx_v9.2.2.set_ (p := ⟨w10.heap.size, 0, none⟩) (fun hz a ha => by have := hOx.2 hz a ha; simp only; omega) _⟩
          obtain ⟨⟨o0, o1, o2, o3⟩, ⟨p0, p1, p2, p3⟩⟩ := hd10.1.cells4
          rw [hyb.out, hxb] at o0
          go_upto_region 11 with fail
          clear o0 o1 o2 o3 p0 p1 p2 p3 hd10 hx_v9 hR_v9 hL_v9
          generalize hgs : World.setCell _ _ _ = v3 at *
          clear hgs
          by_cases hij2 : i = j
          case pos =>
            have hijb : (i == j) = true := by simpa using hij2
            have hijh := Lib.hid hij2
            clear hij2
            have hIK : Hid (D = if fitsD Q li lf then (⟨negD Q false, i, i⟩, 0) else (St.zero, 4)) := by rw [Hid, hIM.out, if_neg]; (· simp [hxb, h6b]); (· simp [hxb, h6b])
            have hfq0 := Lib.hid (hfit.out (y.ng false))
            have hfe : Hid (fitsD (y.ng false).d li lf = fitsD Q li lf) := by rw [Hid, ← hyq.out]; rfl
            rw [hfe.out] at hfq0
            have qd0 := hd_n.c0
            have qd1 := hd_n.c1
            have qd2 := hd_n.c2
            have qd3 := hd_n.c3
            have qx0 := hx_n.c0
            have qx1 := hx_n.c1
            have qx2 := hx_n.c2
            have qx3 := hx_n.c3
            have qx4 := hx_n.c4
            have qx5 := hx_n.c5
            rw [hxb] at qx0
            change _ = some (Value.bool false) at qd0
            obtain ⟨⟨L0, L1, L2⟩, ⟨Lf0, Lf1, Lf2⟩⟩ := hL_n.cells3
            go_wp2_with fail
            refine (hfq0.out _ hd_n.ok).mono ?_
            rintro e w11 ⟨rfl, hB11⟩
            clear qd0 qd1 qd2 qd3 qx0 qx1 qx2 qx3 qx4 qx5 L0 L1 L2 Lf0 Lf1 Lf2
            have hd11 := hd_n.call hB11
            have hx11 := hx_n.call hB11
            clear hd_n hx_n
            have hR11 := hR_n.call hB11
            clear hR_n
            have hL11 := hL_n.call hB11
            clear hL_n
            cases hfq : fitsD Q li lf
            case false =>
              have HD : Hid (D = (St.zero, 4)) := by rw [Hid, hIK.out, hfq]; rfl
              obtain ⟨⟨R0, R1, R2, R3, R4, R5⟩, ⟨Rf0, Rf1, Rf2, Rf3, Rf4, Rf5⟩⟩ := hR11.cells6
              go_wp2_with fail
              rw [HD.out]
              obtain ⟨⟨u0, u1, u2, u3, u4, u5⟩, _⟩ := (hR11.store6 (.bool false) (.slice none 0 0) (.bool false) (.slice none 0 0) (.int .i64 0) (.int .i64 0)).cells6
              refine bodyPost_ret (v := .tuple #[.agg #[.bool false, .slice none 0 0, .bool false, .slice none 0 0, .int .i64 0, .int .i64 0], .int .i64 4]) (by generalize World.setCell (World.setCell (World.setCell (World.setCell (World.setCell (World.setCell _ _ _) _ _) _ _) _ _) _ _) _ _ = W6 at u0 u1 u2 u3 u4 u5 ⊢; simp [results, Try.results32, go_sem, u0, u1, u2, u3, u4, u5]) rfl ?_
              exact ⟨⟨⟨false, none, 0, 0, [], false, none, 0, 0, []⟩, 0, 0⟩, rfl, rfl, ⟨IL.nil _, IL.nil _⟩, below_set6 hR11.later (by omega) _ _ _ _ _ _, none_newer _, none_newer _⟩
            case true =>
              have HD : Hid (D = (⟨negD Q false, i, i⟩, 0)) := by rw [Hid, hIK.out, hfq]; rfl
              have hOK := hd11.ok
              have qd0 := hd11.c0
              have qd1 := hd11.c1
              have qd2 := hd11.c2
              have qd3 := hd11.c3
              change _ = some (Value.bool false) at qd0
              obtain ⟨⟨R0, R1, R2, R3, R4, R5⟩, ⟨Rf0, Rf1, Rf2, Rf3, Rf4, Rf5⟩⟩ := hR11.cells6
              go_wp2_with fail
              rw [HD.out]
              obtain ⟨⟨u0, u1, u2, u3, u4, u5⟩, _⟩ := (hR11.store6 (.bool false) (.slice (y.ng false).A (y.ng false).n (y.ng false).c) (.bool (y.ng false).p) (.slice (y.ng false).E (y.ng false).m (y.ng false).q) (.int .i64 i) (.int .i64 i)).cells6
              refine bodyPost_ret (v := .tuple #[.agg #[.bool false, .slice (y.ng false).A (y.ng false).n (y.ng false).c, .bool (y.ng false).p, .slice (y.ng false).E (y.ng false).m (y.ng false).q, .int .i64 i, .int .i64 i], .int .i64 0]) (by generalize World.setCell (World.setCell (World.setCell (World.setCell (World.setCell (World.setCell _ _ _) _ _) _ _) _ _) _ _) _ _ = W6 at u0 u1 u2 u3 u4 u5 ⊢; simp [results, Try.results32, go_sem, u0, u1, u2, u3, u4, u5]) rfl ?_
              refine ⟨⟨(y.ng false), i, i⟩, rfl, ?_, ?_, ?_, ?_, ?_⟩
              · rw [Hid]; show _ = (⟨negD Q false, i, i⟩ : St); rw [← hyq.out]; rfl
              · exact hOK.set6 (fun hz a ha => by have := hN9 hz a ha; omega) (fun hz a ha => by have := hM9 hz a ha; omega) _ _ _ _ _ _
              · exact below_set6 hR11.later (by omega) _ _ _ _ _ _
              · exact fun hz a ha => by have := hN9 hz a ha; omega
              · exact fun hz a ha => by have := hM9 hz a ha; omega
          case neg =>
            have hijb : (i == j) = false := by simpa using hij2
            have hIK : Hid (D = if fitsD Q li lf then (⟨negD Q false, i, i⟩, 0) else (St.zero, 4)) := by rw [Hid, hIM.out, if_neg]; (· simp [hxb, h6b]); (· simp [hxb, h6b, hij2])
            have hfq0 := Lib.hid (hfit.out (y.ng false))
            have hfe : Hid (fitsD (y.ng false).d li lf = fitsD Q li lf) := by rw [Hid, ← hyq.out]; rfl
            rw [hfe.out] at hfq0
            have qd0 := hd_n.c0
            have qd1 := hd_n.c1
            have qd2 := hd_n.c2
            have qd3 := hd_n.c3
            have qx0 := hx_n.c0
            have qx1 := hx_n.c1
            have qx2 := hx_n.c2
            have qx3 := hx_n.c3
            have qx4 := hx_n.c4
            have qx5 := hx_n.c5
            rw [hxb] at qx0
            change _ = some (Value.bool false) at qd0
            obtain ⟨⟨L0, L1, L2⟩, ⟨Lf0, Lf1, Lf2⟩⟩ := hL_n.cells3
            go_wp2_with fail
            refine (hfq0.out _ hd_n.ok).mono ?_
            rintro e w11 ⟨rfl, hB11⟩
            clear qd0 qd1 qd2 qd3 qx0 qx1 qx2 qx3 qx4 qx5 L0 L1 L2 Lf0 Lf1 Lf2
            have hd11 := hd_n.call hB11
            have hx11 := hx_n.call hB11
            clear hd_n hx_n
            have hR11 := hR_n.call hB11
            clear hR_n
            have hL11 := hL_n.call hB11
            clear hL_n
            cases hfq : fitsD Q li lf
            case false =>
              have HD : Hid (D = (St.zero, 4)) := by rw [Hid, hIK.out, hfq]; rfl
              obtain ⟨⟨R0, R1, R2, R3, R4, R5⟩, ⟨Rf0, Rf1, Rf2, Rf3, Rf4, Rf5⟩⟩ := hR11.cells6
              go_wp2_with fail
              rw [HD.out]
              obtain ⟨⟨u0, u1, u2, u3, u4, u5⟩, _⟩ := (hR11.store6 (.bool false) (.slice none 0 0) (.bool false) (.slice none 0 0) (.int .i64 0) (.int .i64 0)).cells6
              refine bodyPost_ret (v := .tuple #[.agg #[.bool false, .slice none 0 0, .bool false, .slice none 0 0, .int .i64 0, .int .i64 0], .int .i64 4]) (by generalize World.setCell (World.setCell (World.setCell (World.setCell (World.setCell (World.setCell _ _ _) _ _) _ _) _ _) _ _) _ _ = W6 at u0 u1 u2 u3 u4 u5 ⊢; simp [results, Try.results32, go_sem, u0, u1, u2, u3, u4, u5]) rfl ?_
              exact ⟨⟨⟨false, none, 0, 0, [], false, none, 0, 0, []⟩, 0, 0⟩, rfl, rfl, ⟨IL.nil _, IL.nil _⟩, below_set6 hR11.later (by omega) _ _ _ _ _ _, none_newer _, none_newer _⟩
            case true =>
              have HD : Hid (D = (⟨negD Q false, i, i⟩, 0)) := by rw [Hid, hIK.out, hfq]; rfl
              have hOK := hd11.ok
              have qd0 := hd11.c0
              have qd1 := hd11.c1
              have qd2 := hd11.c2
              have qd3 := hd11.c3
              change _ = some (Value.bool false) at qd0
              obtain ⟨⟨R0, R1, R2, R3, R4, R5⟩, ⟨Rf0, Rf1, Rf2, Rf3, Rf4, Rf5⟩⟩ := hR11.cells6
              go_wp2_with fail
              rw [HD.out]
              obtain ⟨⟨u0, u1, u2, u3, u4, u5⟩, _⟩ := (hR11.store6 (.bool false) (.slice (y.ng false).A (y.ng false).n (y.ng false).c) (.bool (y.ng false).p) (.slice (y.ng false).E (y.ng false).m (y.ng false).q) (.int .i64 i) (.int .i64 i)).cells6
              refine bodyPost_ret (v := .tuple #[.agg #[.bool false, .slice (y.ng false).A (y.ng false).n (y.ng false).c, .bool (y.ng false).p, .slice (y.ng false).E (y.ng false).m (y.ng false).q, .int .i64 i, .int .i64 i], .int .i64 0]) (by generalize World.setCell (World.setCell (World.setCell (World.setCell (World.setCell (World.setCell _ _ _) _ _) _ _) _ _) _ _) _ _ = W6 at u0 u1 u2 u3 u4 u5 ⊢; simp [results, Try.results32, go_sem, u0, u1, u2, u3, u4, u5]) rfl ?_
              refine ⟨⟨(y.ng false), i, i⟩, rfl, ?_, ?_, ?_, ?_, ?_⟩
              · rw [Hid]; show _ = (⟨negD Q false, i, i⟩ : St); rw [← hyq.out]; rfl
              · exact hOK.set6 (fun hz a ha => by have := hN9 hz a ha; omega) (fun hz a ha => by have := hM9 hz a ha; omega) _ _ _ _ _ _
              · exact below_set6 hR11.later (by omega) _ _ _ _ _ _
              · exact fun hz a ha => by have := hN9 hz a ha; omega
              · exact fun hz a ha => by have := hM9 hz a ha; omega
        case neg =>
          have h6b : ((m : Int) == 6) = false := by simpa using h6
          have h6c : ((m : Int) != 6) = true := by simp; omega
          have hd_n := hd10.neg true (fun hz a ha => by have := hyOld.1 hz a ha; omega) (fun hz a ha => by have := hyOld.2 hz a ha; omega)
          have hR_n := hR_v9.far (p := ⟨w10.heap.size, 0, none⟩) (by simp only; omega) gL (.bool true)
          have hL_n := hL_v9.far (p := ⟨w10.heap.size, 0, none⟩) (by simp only; omega) gL (.bool true)
          have hx_n : SB w w.heap.size 61 x _ := ⟨hx_v9.1.far (p := ⟨w10.heap.size, 0, none⟩) (by simp only; omega) gL (.bool true), hx_v9.2.1.set_ (p := ⟨w10.heap.size, 0, none⟩) (fun hz a ha => by have := hOx.1 hz a ha; simp only; omega) _, hx_v9.2.2.set_ (p := ⟨w10.heap.size, 0, none⟩) (fun hz a ha => by have := hOx.2 hz a ha; simp only; omega) _⟩
          obtain ⟨⟨o0, o1, o2, o3⟩, ⟨p0, p1, p2, p3⟩⟩ := hd10.1.cells4
          rw [hyb.out, hxb] at o0
          go_upto_region 11 with fail
          clear o0 o1 o2 o3 p0 p1 p2 p3 hd10 hx_v9 hR_v9 hL_v9
          generalize hgs : World.setCell _ _ _ = v3 at *
          clear hgs
          by_cases hij2 : i = j
          case pos =>
            have hijb : (i == j) = true := by simpa using hij2
            have hijh := Lib.hid hij2
            clear hij2
            have HD : Hid (D = (St.zero, 7)) := by rw [Hid, hIM.out, if_pos]; exact ⟨hijh.out, by simp [hxb, h6b]⟩
            have qd0 := hd_n.c0
            have qd1 := hd_n.c1
            have qd2 := hd_n.c2
            have qd3 := hd_n.c3
            have qx0 := hx_n.c0
            have qx1 := hx_n.c1
            have qx2 := hx_n.c2
            have qx3 := hx_n.c3
            have qx4 := hx_n.c4
            have qx5 := hx_n.c5
            rw [hxb] at qx0
            change _ = some (Value.bool true) at qd0
            obtain ⟨⟨R0, R1, R2, R3, R4, R5⟩, ⟨Rf0, Rf1, Rf2, Rf3, Rf4, Rf5⟩⟩ := hR_n.cells6
            go_wp2_with fail
            rw [HD.out]
            obtain ⟨⟨u0, u1, u2, u3, u4, u5⟩, _⟩ := (hR_n.store6 (.bool false) (.slice none 0 0) (.bool false) (.slice none 0 0) (.int .i64 0) (.int .i64 0)).cells6
            refine bodyPost_ret (v := .tuple #[.agg #[.bool false, .slice none 0 0, .bool false, .slice none 0 0, .int .i64 0, .int .i64 0], .int .i64 7]) (by generalize World.setCell (World.setCell (World.setCell (World.setCell (World.setCell (World.setCell _ _ _) _ _) _ _) _ _) _ _) _ _ = W6 at u0 u1 u2 u3 u4 u5 ⊢; simp [results, Try.results32, go_sem, u0, u1, u2, u3, u4, u5]) rfl ?_
            exact ⟨⟨⟨false, none, 0, 0, [], false, none, 0, 0, []⟩, 0, 0⟩, rfl, rfl, ⟨IL.nil _, IL.nil _⟩, below_set6 hR_n.later (by omega) _ _ _ _ _ _, none_newer _, none_newer _⟩
          case neg =>
            have hijb : (i == j) = false := by simpa using hij2
            have hIK : Hid (D = if fitsD Q li lf then (⟨negD Q true, i, i⟩, 0) else (St.zero, 4)) := by rw [Hid, hIM.out, if_neg]; (· simp [hxb, h6b]); (· simp [hxb, h6b, hij2])
            have hfq0 := Lib.hid (hfit.out (y.ng true))
            have hfe : Hid (fitsD (y.ng true).d li lf = fitsD Q li lf) := by rw [Hid, ← hyq.out]; rfl
            rw [hfe.out] at hfq0
            have qd0 := hd_n.c0
            have qd1 := hd_n.c1
            have qd2 := hd_n.c2
            have qd3 := hd_n.c3
            have qx0 := hx_n.c0
            have qx1 := hx_n.c1
            have qx2 := hx_n.c2
            have qx3 := hx_n.c3
            have qx4 := hx_n.c4
            have qx5 := hx_n.c5
            rw [hxb] at qx0
            change _ = some (Value.bool true) at qd0
            obtain ⟨⟨L0, L1, L2⟩, ⟨Lf0, Lf1, Lf2⟩⟩ := hL_n.cells3
            go_wp2_with fail
            refine (hfq0.out _ hd_n.ok).mono ?_
            rintro e w11 ⟨rfl, hB11⟩
            clear qd0 qd1 qd2 qd3 qx0 qx1 qx2 qx3 qx4 qx5 L0 L1 L2 Lf0 Lf1 Lf2
            have hd11 := hd_n.call hB11
            have hx11 := hx_n.call hB11
            clear hd_n hx_n
            have hR11 := hR_n.call hB11
            clear hR_n
            have hL11 := hL_n.call hB11
            clear hL_n
            cases hfq : fitsD Q li lf
            case false =>
              have HD : Hid (D = (St.zero, 4)) := by rw [Hid, hIK.out, hfq]; rfl
              obtain ⟨⟨R0, R1, R2, R3, R4, R5⟩, ⟨Rf0, Rf1, Rf2, Rf3, Rf4, Rf5⟩⟩ := hR11.cells6
              go_wp2_with fail
              rw [HD.out]
              obtain ⟨⟨u0, u1, u2, u3, u4, u5⟩, _⟩ := (hR11.store6 (.bool false) (.slice none 0 0) (.bool false) (.slice none 0 0) (.int .i64 0) (.int .i64 0)).cells6
              refine bodyPost_ret (v := .tuple #[.agg #[.bool false, .slice none 0 0, .bool false, .slice none 0 0, .int .i64 0, .int .i64 0], .int .i64 4]) (by generalize World.setCell (World.setCell (World.setCell (World.setCell (World.setCell (World.setCell _ _ _) _ _) _ _) _ _) _ _) _ _ = W6 at u0 u1 u2 u3 u4 u5 ⊢; simp [results, Try.results32, go_sem, u0, u1, u2, u3, u4, u5]) rfl ?_
              exact ⟨⟨⟨false, none, 0, 0, [], false, none, 0, 0, []⟩, 0, 0⟩, rfl, rfl, ⟨IL.nil _, IL.nil _⟩, below_set6 hR11.later (by omega) _ _ _ _ _ _, none_newer _, none_newer _⟩
            case true =>
              have HD : Hid (D = (⟨negD Q true, i, i⟩, 0)) := by rw [Hid, hIK.out, hfq]; rfl
              have hOK := hd11.ok
              have qd0 := hd11.c0
              have qd1 := hd11.c1
              have qd2 := hd11.c2
              have qd3 := hd11.c3
              change _ = some (Value.bool true) at qd0
              obtain ⟨⟨R0, R1, R2, R3, R4, R5⟩, ⟨Rf0, Rf1, Rf2, Rf3, Rf4, Rf5⟩⟩ := hR11.cells6
              go_wp2_with fail
              rw [HD.out]
              obtain ⟨⟨u0, u1, u2, u3, u4, u5⟩, _⟩ := (hR11.store6 (.bool true) (.slice (y.ng true).A (y.ng true).n (y.ng true).c) (.bool (y.ng true).p) (.slice (y.ng true).E (y.ng true).m (y.ng true).q) (.int .i64 i) (.int .i64 i)).cells6
              refine bodyPost_ret (v := .tuple #[.agg #[.bool true, .slice (y.ng true).A (y.ng true).n (y.ng true).c, .bool (y.ng true).p, .slice (y.ng true).E (y.ng true).m (y.ng true).q, .int .i64 i, .int .i64 i], .int .i64 0]) (by generalize World.setCell (World.setCell (World.setCell (World.setCell (World.setCell (World.setCell _ _ _) _ _) _ _) _ _) _ _) _ _ = W6 at u0 u1 u2 u3 u4 u5 ⊢; simp [results, Try.results32, go_sem, u0, u1, u2, u3, u4, u5]) rfl ?_
              refine ⟨⟨(y.ng true), i, i⟩, rfl, ?_, ?_, ?_, ?_, ?_⟩
              · rw [Hid]; show _ = (⟨negD Q true, i, i⟩ : St); rw [← hyq.out]; rfl
              · exact hOK.set6 (fun hz a ha => by have := hN9 hz a ha; omega) (fun hz a ha => by have := hM9 hz a ha; omega) _ _ _ _ _ _
              · exact below_set6 hR11.later (by omega) _ _ _ _ _ _
              · exact fun hz a ha => by have := hN9 hz a ha; omega
              · exact fun hz a ha => by have := hM9 hz a ha; omega

end Go.Proofs.Ytppkifdngjcbeaa
