/- The walk of the program's Move. No condition. -/
import Derived.Test.YtppkifdngjcbeaaEd8
namespace Go.Proofs.Ytppkifdngjcbeaa
open Go.RowKit
set_option linter.unusedSimpArgs false

/-- A state and a code; the blocks of the state's lists are such. -/
def RSP (P : Nat → Prop) (w : World) (S : St) (code : Int) (e : Ending) (w' : World) : Prop :=
  ∃ x : SV, e = .returned (.tuple #[.agg #[.bool x.v.b, .slice x.v.A x.v.n x.v.c, .bool x.v.p, .slice x.v.E x.v.m x.v.q, .int .i64 x.c, .int .i64 x.a], .int .i64 code]) ∧ Hid (x.s = S) ∧ x.v.ok w' ∧ Below w.heap.size w w' ∧
    (0 < x.v.n → ∀ a, x.v.A = some a → P a.block) ∧ (0 < x.v.m → ∀ a, x.v.E = some a → P a.block)
theorem none_p (P : Nat → Prop) : 0 < 0 → ∀ a : Addr, none = some a → P a.block := fun h => absurd h (by omega)
set_option maxRecDepth 100000 in
set_option maxHeartbeats 8000000 in
theorem emove_p (x : SV) (what : Int) (keep : Bool) (w : World) (h : x.v.ok w) (hf : x.v.fit) (P : Nat → Prop) (hOld : (0 < x.v.n → ∀ a, x.v.A = some a → P a.block) ∧ (0 < x.v.m → ∀ a, x.v.E = some a → P a.block)) (hPw : ∀ b, P b → b < w.heap.size) :
    Calls Try.prog 44 #[.agg #[.bool x.v.b, .slice x.v.A x.v.n x.v.c, .bool x.v.p, .slice x.v.E x.v.m x.v.q, .int .i64 x.c, .int .i64 x.a], .int .i64 what, .bool keep] w (RSP P w (moveS x.s what keep).1 (moveS x.s what keep).2) := by
  have hm := Lib.hid (fun W (hW : x.v.ok W) => emay_any x W hW hf)
  have hspan := Lib.hid (fun W (hW : x.v.ok W) => espan_any x W hW hf)
  have hIN : Hid (moveS x.s what keep = if mayS x.s && decide (0 ≤ what) && decide (what ≤ 5) then (⟨x.v.d, moveT x.s what keep, if keep then x.a else moveT x.s what keep⟩, 0) else (St.zero, 1)) := rfl
  have hMT : Hid (moveT x.s what keep = if keep || (frontS x.s == backS x.s) then toS x.v.d x.c what else if what = 0 then frontS x.s else if what = 1 then backS x.s else toS x.v.d x.c what) := rfl
  have hx0 := ((SB.made w w 61 x (Later.refl w) h (w.heap.size) (by simp)).alloc (.cells #[.bool false, .slice none 0 0, .bool false, .slice none 0 0, .int .i64 0, .int .i64 0] 61))
  have hR0 := (Blk.made w (w.alloc (.cells #[.bool x.v.b, .slice x.v.A x.v.n x.v.c, .bool x.v.p, .slice x.v.E x.v.m x.v.q, .int .i64 x.c, .int .i64 x.a] 61)) 61 #[.bool false, .slice none 0 0, .bool false, .slice none 0 0, .int .i64 0, .int .i64 0] ((Later.refl w).alloc _) (w.heap.size + 1) (by simp))
  generalize moveS x.s what keep = D at *
  cases hmm : mayS x.s
  · rw [hmm] at hm hIN
    have HD : Hid (D = (St.zero, 1)) := by rw [Hid, hIN.out]; rfl
    clear hmm hIN
    go_enter Try.func44, Try.ntmps44
    go_upto_region 1 with fail
    generalize World.alloc (World.alloc w _) _ = w1 at *
    have qx0 := hx0.c0
    have qx1 := hx0.c1
    have qx2 := hx0.c2
    have qx3 := hx0.c3
    have qx4 := hx0.c4
    have qx5 := hx0.c5
    go_wp2_with fail
    refine (hm.out _ hx0.ok).mono ?_
    rintro e w2 ⟨rfl, hB2⟩
    clear qx0 qx1 qx2 qx3 qx4 qx5
    have hx2 := hx0.call hB2
    clear hx0
    have hR2 := hR0.call hB2
    clear hR0
    obtain ⟨⟨R0, R1, R2, R3, R4, R5⟩, ⟨Rf0, Rf1, Rf2, Rf3, Rf4, Rf5⟩⟩ := hR2.cells6
    go_wp2_with fail
    rw [HD.out]
    obtain ⟨⟨u0, u1, u2, u3, u4, u5⟩, _⟩ := (hR2.store6 (.bool false) (.slice none 0 0) (.bool false) (.slice none 0 0) (.int .i64 0) (.int .i64 0)).cells6
    refine bodyPost_ret (v := .tuple #[.agg #[.bool false, .slice none 0 0, .bool false, .slice none 0 0, .int .i64 0, .int .i64 0], .int .i64 1]) (by generalize World.setCell (World.setCell (World.setCell (World.setCell (World.setCell (World.setCell _ _ _) _ _) _ _) _ _) _ _) _ _ = W6 at u0 u1 u2 u3 u4 u5 ⊢; simp [results, Try.results44, go_sem, u0, u1, u2, u3, u4, u5]) rfl ?_
    exact ⟨⟨⟨false, none, 0, 0, [], false, none, 0, 0, []⟩, 0, 0⟩, rfl, rfl, ⟨IL.nil _, IL.nil _⟩, below_set6 hR2.later (by omega) _ _ _ _ _ _, none_p _, none_p _⟩
  · rw [hmm] at hm hIN hspan
    have hcar : Car x := (mayS_iff.1 hmm).2.1
    clear hmm
    by_cases hk0 : 0 ≤ what
    case neg =>
      have hkb : what < 0 := by omega
      have HD : Hid (D = (St.zero, 1)) := by rw [Hid, hIN.out]; simp; intro q; omega
      go_enter Try.func44, Try.ntmps44
      go_upto_region 1 with fail
      generalize World.alloc (World.alloc w _) _ = w1 at *
      have qx0 := hx0.c0
      have qx1 := hx0.c1
      have qx2 := hx0.c2
      have qx3 := hx0.c3
      have qx4 := hx0.c4
      have qx5 := hx0.c5
      go_wp2_with fail
      refine (hm.out _ hx0.ok).mono ?_
      rintro e w2 ⟨rfl, hB2⟩
      clear qx0 qx1 qx2 qx3 qx4 qx5
      have hx2 := hx0.call hB2
      clear hx0
      have hR2 := hR0.call hB2
      clear hR0
      obtain ⟨⟨R0, R1, R2, R3, R4, R5⟩, ⟨Rf0, Rf1, Rf2, Rf3, Rf4, Rf5⟩⟩ := hR2.cells6
      go_wp2_with fail
      rw [HD.out]
      obtain ⟨⟨u0, u1, u2, u3, u4, u5⟩, _⟩ := (hR2.store6 (.bool false) (.slice none 0 0) (.bool false) (.slice none 0 0) (.int .i64 0) (.int .i64 0)).cells6
      refine bodyPost_ret (v := .tuple #[.agg #[.bool false, .slice none 0 0, .bool false, .slice none 0 0, .int .i64 0, .int .i64 0], .int .i64 1]) (by generalize World.setCell (World.setCell (World.setCell (World.setCell (World.setCell (World.setCell _ _ _) _ _) _ _) _ _) _ _) _ _ = W6 at u0 u1 u2 u3 u4 u5 ⊢; simp [results, Try.results44, go_sem, u0, u1, u2, u3, u4, u5]) rfl ?_
      exact ⟨⟨⟨false, none, 0, 0, [], false, none, 0, 0, []⟩, 0, 0⟩, rfl, rfl, ⟨IL.nil _, IL.nil _⟩, below_set6 hR2.later (by omega) _ _ _ _ _ _, none_p _, none_p _⟩
    by_cases hk5 : what ≤ 5
    case neg =>
      have hkb : ¬ what < 0 := by omega
      have hkc : 5 < what := by omega
      have HD : Hid (D = (St.zero, 1)) := by rw [Hid, hIN.out]; simp; intros; omega
      go_enter Try.func44, Try.ntmps44
      go_upto_region 1 with fail
      generalize World.alloc (World.alloc w _) _ = w1 at *
      have qx0 := hx0.c0
      have qx1 := hx0.c1
      have qx2 := hx0.c2
      have qx3 := hx0.c3
      have qx4 := hx0.c4
      have qx5 := hx0.c5
      go_wp2_with fail
      refine (hm.out _ hx0.ok).mono ?_
      rintro e w2 ⟨rfl, hB2⟩
      clear qx0 qx1 qx2 qx3 qx4 qx5
      have hx2 := hx0.call hB2
      clear hx0
      have hR2 := hR0.call hB2
      clear hR0
      obtain ⟨⟨R0, R1, R2, R3, R4, R5⟩, ⟨Rf0, Rf1, Rf2, Rf3, Rf4, Rf5⟩⟩ := hR2.cells6
      go_wp2_with fail
      rw [HD.out]
      obtain ⟨⟨u0, u1, u2, u3, u4, u5⟩, _⟩ := (hR2.store6 (.bool false) (.slice none 0 0) (.bool false) (.slice none 0 0) (.int .i64 0) (.int .i64 0)).cells6
      refine bodyPost_ret (v := .tuple #[.agg #[.bool false, .slice none 0 0, .bool false, .slice none 0 0, .int .i64 0, .int .i64 0], .int .i64 1]) (by generalize World.setCell (World.setCell (World.setCell (World.setCell (World.setCell (World.setCell _ _ _) _ _) _ _) _ _) _ _) _ _ = W6 at u0 u1 u2 u3 u4 u5 ⊢; simp [results, Try.results44, go_sem, u0, u1, u2, u3, u4, u5]) rfl ?_
      exact ⟨⟨⟨false, none, 0, 0, [], false, none, 0, 0, []⟩, 0, 0⟩, rfl, rfl, ⟨IL.nil _, IL.nil _⟩, below_set6 hR2.later (by omega) _ _ _ _ _ _, none_p _, none_p _⟩
    obtain ⟨m, rfl⟩ : ∃ m : Nat, what = (m : Int) := ⟨what.toNat, by omega⟩
    have hkb : ¬ (m : Int) < 0 := by omega
    have hkc : ¬ 5 < (m : Int) := by omega
    have hIM : Hid (D = (⟨x.v.d, moveT x.s (m : Int) keep, if keep then x.a else moveT x.s (m : Int) keep⟩, 0)) := by rw [Hid, hIN.out]; simp [hk0, hk5]
    clear hIN
    have t0 := Lib.hid (fun (hk : (m : Int) = 0) W (hW : x.v.ok W) => show Calls Try.prog 94 #[.agg #[.bool x.v.b, .slice x.v.A x.v.n x.v.c, .bool x.v.p, .slice x.v.E x.v.m x.v.q, .int .i64 x.c, .int .i64 x.a]] W (RV W (.int .i64 (toS x.v.d x.c (m : Int)))) by rw [hk]; exact eahead_any x W hW hf hcar)
    have t1 := Lib.hid (fun (hk : (m : Int) = 1) W (hW : x.v.ok W) => show Calls Try.prog 95 #[.agg #[.bool x.v.b, .slice x.v.A x.v.n x.v.c, .bool x.v.p, .slice x.v.E x.v.m x.v.q, .int .i64 x.c, .int .i64 x.a]] W (RV W (.int .i64 (toS x.v.d x.c (m : Int)))) by rw [hk]; exact ebehind_any x W hW hf hcar)
    have t2 := Lib.hid (fun (hk : (m : Int) = 2) W (hW : x.v.ok W) => show Calls Try.prog 96 #[.agg #[.bool x.v.b, .slice x.v.A x.v.n x.v.c, .bool x.v.p, .slice x.v.E x.v.m x.v.q, .int .i64 x.c, .int .i64 x.a]] W (RV W (.int .i64 (toS x.v.d x.c (m : Int)))) by rw [hk]; exact eleft_any x W hW hf hcar)
    have t3 := Lib.hid (fun (hk : (m : Int) = 3) W (hW : x.v.ok W) => show Calls Try.prog 97 #[.agg #[.bool x.v.b, .slice x.v.A x.v.n x.v.c, .bool x.v.p, .slice x.v.E x.v.m x.v.q, .int .i64 x.c, .int .i64 x.a]] W (RV W (.int .i64 (toS x.v.d x.c (m : Int)))) by rw [hk]; exact eright_any x W hW hf hcar)
    have t4 := Lib.hid (fun (hk : (m : Int) = 4) W (hW : x.v.ok W) => show Calls Try.prog 98 #[.agg #[.bool x.v.b, .slice x.v.A x.v.n x.v.c, .bool x.v.p, .slice x.v.E x.v.m x.v.q, .int .i64 x.c, .int .i64 x.a]] W (RV W (.int .i64 (toS x.v.d x.c (m : Int)))) by rw [hk]; exact ehome_any x W hW)
    have t5 := Lib.hid (fun (hk : (m : Int) = 5) W (hW : x.v.ok W) => show Calls Try.prog 99 #[.agg #[.bool x.v.b, .slice x.v.A x.v.n x.v.c, .bool x.v.p, .slice x.v.E x.v.m x.v.q, .int .i64 x.c, .int .i64 x.a]] W (RV W (.int .i64 (toS x.v.d x.c (m : Int)))) by rw [hk]; exact eend_any x W hW hf)
    generalize toS x.v.d x.c (m : Int) = t at *
    generalize moveT x.s (m : Int) keep = T at *
    generalize frontS x.s = fr at *
    generalize backS x.s = bk at *
    clear hcar
    go_enter Try.func44, Try.ntmps44
    go_upto_region 1 with fail
    generalize World.alloc (World.alloc w _) _ = w1 at *
    have qx0 := hx0.c0
    have qx1 := hx0.c1
    have qx2 := hx0.c2
    have qx3 := hx0.c3
    have qx4 := hx0.c4
    have qx5 := hx0.c5
    go_wp2_with fail
    refine (hm.out _ hx0.ok).mono ?_
    rintro e w2 ⟨rfl, hB2⟩
    clear qx0 qx1 qx2 qx3 qx4 qx5
    have hx2 := hx0.call hB2
    clear hx0
    have hR2 := hR0.call hB2
    clear hR0
    have qx0 := hx2.c0
    have qx1 := hx2.c1
    have qx2 := hx2.c2
    have qx3 := hx2.c3
    have qx4 := hx2.c4
    have qx5 := hx2.c5
    go_wp2_with fail
    refine (hspan.out _ hx2.ok).mono ?_
    rintro e w3 ⟨rfl, hB3⟩
    clear qx0 qx1 qx2 qx3 qx4 qx5
    have hx3 := hx2.call hB3
    clear hx2
    have hR3 := hR2.call hB3
    clear hR2
    go_upto_region 4 with fail
    go_cut [10] (fun s W => s = .int .i64 t ∧ Later w3 W)
    case first =>
      obtain ⟨wn, hwn⟩ : ∃ wn, wn = World.alloc (World.drew w3) (.cells wayCells 117) := ⟨_, rfl⟩
      have hLn : Later w3 wn := by rw [hwn]; exact ((Later.refl w3).drew).alloc _
      have hways := Lib.hid (show Calls Try.prog 77 #[] (World.drew w3) fun e w' => e = .returned (.slice (some ⟨w3.heap.size, 0, none⟩) 6 6) ∧ w' = wn by rw [hwn]; exact ways_any _)
      have hcl : ∀ i, wn.cell? ⟨w3.heap.size, i, none⟩ = wayCells[i]? := fun i => by rw [hwn]; exact World.cell?_alloc_at _ _ _ _ rfl
      have hxd := hx3.call (Later.refl w3).drew
      have hxn := hx3.call hLn
      have d0 := hxd.c0
      have d1 := hxd.c1
      have d2 := hxd.c2
      have d3 := hxd.c3
      have d4 := hxd.c4
      have d5 := hxd.c5
      have n0 := hxn.c0
      have n1 := hxn.c1
      have n2 := hxn.c2
      have n3 := hxn.c3
      have n4 := hxn.c4
      have n5 := hxn.c5
      have hok := hxn.ok
      clear hwn hxd hxn
      have hcs : m = 0 ∨ m = 1 ∨ m = 2 ∨ m = 3 ∨ m = 4 ∨ m = 5 := by omega
      rcases hcs with rfl | rfl | rfl | rfl | rfl | rfl
      · have ht := Lib.hid (t0.out rfl)
        have hc : wn.cell? ⟨w3.heap.size, 0, none⟩ = some (.func (.func 94) #[] #[]) := hcl 0
        clear t0 t1 t2 t3 t4 t5 hcl
        go_region_with (first
          | (go_at_call 77; refine hways.out.mono ?_; rintro e wc0 ⟨rfl, rfl⟩)
          | (go_at_call 94; refine (ht.out _ hok).mono ?_; rintro e wc1 ⟨rfl, hB1⟩))
        all_goals
          go_wp2_with fail
          go_meet
          exact ⟨rfl, below_from hLn hB1⟩
      · have ht := Lib.hid (t1.out rfl)
        have hc : wn.cell? ⟨w3.heap.size, 1, none⟩ = some (.func (.func 95) #[] #[]) := hcl 1
        clear t0 t1 t2 t3 t4 t5 hcl
        go_region_with (first
          | (go_at_call 77; refine hways.out.mono ?_; rintro e wc0 ⟨rfl, rfl⟩)
          | (go_at_call 95; refine (ht.out _ hok).mono ?_; rintro e wc1 ⟨rfl, hB1⟩))
        all_goals
          go_wp2_with fail
          go_meet
          exact ⟨rfl, below_from hLn hB1⟩
      · have ht := Lib.hid (t2.out rfl)
        have hc : wn.cell? ⟨w3.heap.size, 2, none⟩ = some (.func (.func 96) #[] #[]) := hcl 2
        clear t0 t1 t2 t3 t4 t5 hcl
        go_region_with (first
          | (go_at_call 77; refine hways.out.mono ?_; rintro e wc0 ⟨rfl, rfl⟩)
          | (go_at_call 96; refine (ht.out _ hok).mono ?_; rintro e wc1 ⟨rfl, hB1⟩))
        all_goals
          go_wp2_with fail
          go_meet
          exact ⟨rfl, below_from hLn hB1⟩
      · have ht := Lib.hid (t3.out rfl)
        have hc : wn.cell? ⟨w3.heap.size, 3, none⟩ = some (.func (.func 97) #[] #[]) := hcl 3
        clear t0 t1 t2 t3 t4 t5 hcl
        go_region_with (first
          | (go_at_call 77; refine hways.out.mono ?_; rintro e wc0 ⟨rfl, rfl⟩)
          | (go_at_call 97; refine (ht.out _ hok).mono ?_; rintro e wc1 ⟨rfl, hB1⟩))
        all_goals
          go_wp2_with fail
          go_meet
          exact ⟨rfl, below_from hLn hB1⟩
      · have ht := Lib.hid (t4.out rfl)
        have hc : wn.cell? ⟨w3.heap.size, 4, none⟩ = some (.func (.func 98) #[] #[]) := hcl 4
        clear t0 t1 t2 t3 t4 t5 hcl
        go_region_with (first
          | (go_at_call 77; refine hways.out.mono ?_; rintro e wc0 ⟨rfl, rfl⟩)
          | (go_at_call 98; refine (ht.out _ hok).mono ?_; rintro e wc1 ⟨rfl, hB1⟩))
        all_goals
          go_wp2_with fail
          go_meet
          exact ⟨rfl, below_from hLn hB1⟩
      · have ht := Lib.hid (t5.out rfl)
        have hc : wn.cell? ⟨w3.heap.size, 5, none⟩ = some (.func (.func 99) #[] #[]) := hcl 5
        clear t0 t1 t2 t3 t4 t5 hcl
        go_region_with (first
          | (go_at_call 77; refine hways.out.mono ?_; rintro e wc0 ⟨rfl, rfl⟩)
          | (go_at_call 99; refine (ht.out _ hok).mono ?_; rintro e wc1 ⟨rfl, hB1⟩))
        all_goals
          go_wp2_with fail
          go_meet
          exact ⟨rfl, below_from hLn hB1⟩
    case rest =>
      obtain ⟨rfl, hLc⟩ := hcut
      obtain ⟨w9, hw9⟩ : ∃ wm, wm = wc := ⟨_, rfl⟩
      rw [← hw9] at hLc
      rw [← hw9]
      clear hw9 t0 t1 t2 t3 t4 t5
      have hx9 := hx3.call hLc
      have hR9 := hR3.call hLc
      clear hx3 hR3
      cases keep
      case true =>
        have hfb2 := True.intro
        have HD : Hid (D = (⟨x.v.d, t, x.a⟩, 0)) := by rw [Hid, hIM.out, hMT.out]; simp [hfb2]
        have hx_1 := hx9.car t (fun hz a ha => by have := hPw _ (hOld.1 hz a ha); omega) (fun hz a ha => by have := hPw _ (hOld.2 hz a ha); omega)
        have hR_1 := hR9.far (p := ⟨w.heap.size, 4, none⟩) (by simp only; omega) (Nat.le_refl _) (.int .i64 t)
        obtain ⟨⟨x0, x1, x2, x3, x4, x5⟩, ⟨y0, y1, y2, y3, y4, y5⟩⟩ := hx9.1.cells6
        go_upto_region 11 with fail
        clear x0 x1 x2 x3 x4 x5 y0 y1 y2 y3 y4 y5 hx9 hR9
        generalize hgs1 : World.setCell w9 _ _ = v1 at *
        clear hgs1
        have hOK := hx_1.ok
        have qx0 := hx_1.c0
        have qx1 := hx_1.c1
        have qx2 := hx_1.c2
        have qx3 := hx_1.c3
        have qx4 := hx_1.c4
        have qx5 := hx_1.c5
        obtain ⟨⟨R0, R1, R2, R3, R4, R5⟩, ⟨Rf0, Rf1, Rf2, Rf3, Rf4, Rf5⟩⟩ := hR_1.cells6
        go_wp2_with fail
        rw [HD.out]
        obtain ⟨⟨u0, u1, u2, u3, u4, u5⟩, _⟩ := (hR_1.store6 (.bool x.v.b) (.slice x.v.A x.v.n x.v.c) (.bool x.v.p) (.slice x.v.E x.v.m x.v.q) (.int .i64 t) (.int .i64 x.a)).cells6
        refine bodyPost_ret (v := .tuple #[.agg #[.bool x.v.b, .slice x.v.A x.v.n x.v.c, .bool x.v.p, .slice x.v.E x.v.m x.v.q, .int .i64 t, .int .i64 x.a], .int .i64 0]) (by generalize World.setCell (World.setCell (World.setCell (World.setCell (World.setCell (World.setCell _ _ _) _ _) _ _) _ _) _ _) _ _ = W6 at u0 u1 u2 u3 u4 u5 ⊢; simp [results, Try.results44, go_sem, u0, u1, u2, u3, u4, u5]) rfl ?_
        refine ⟨⟨x.v, t, x.a⟩, rfl, ?_, ?_, ?_, ?_, ?_⟩
        · rfl
        · exact hOK.set6 (fun hz a ha => by have := hPw _ (hOld.1 hz a ha); omega) (fun hz a ha => by have := hPw _ (hOld.2 hz a ha); omega) _ _ _ _ _ _
        · exact below_set6 hR_1.later (by omega) _ _ _ _ _ _
        · exact hOld.1
        · exact hOld.2
      case false =>
        by_cases hfb : fr = bk
        case pos =>
          have hfb2 : (fr == bk) = true := by simpa using hfb
          have HD : Hid (D = (⟨x.v.d, t, t⟩, 0)) := by rw [Hid, hIM.out, hMT.out]; simp [hfb2]
          have hx_1 := hx9.car t (fun hz a ha => by have := hPw _ (hOld.1 hz a ha); omega) (fun hz a ha => by have := hPw _ (hOld.2 hz a ha); omega)
          have hR_1 := hR9.far (p := ⟨w.heap.size, 4, none⟩) (by simp only; omega) (Nat.le_refl _) (.int .i64 t)
          have hx_2 := hx_1.anc t (fun hz a ha => by have := hPw _ (hOld.1 hz a ha); omega) (fun hz a ha => by have := hPw _ (hOld.2 hz a ha); omega)
          have hR_2 := hR_1.far (p := ⟨w.heap.size, 5, none⟩) (by simp only; omega) (Nat.le_refl _) (.int .i64 t)
          obtain ⟨⟨x0, x1, x2, x3, x4, x5⟩, ⟨y0, y1, y2, y3, y4, y5⟩⟩ := hx9.1.cells6
          go_upto_region 11 with fail
          clear x0 x1 x2 x3 x4 x5 y0 y1 y2 y3 y4 y5 hx9 hR9
          generalize hgs1 : World.setCell w9 _ _ = v1 at *
          clear hgs1
          obtain ⟨⟨x0, x1, x2, x3, x4, x5⟩, ⟨y0, y1, y2, y3, y4, y5⟩⟩ := hx_1.1.cells6
          go_upto_region 13 with fail
          clear x0 x1 x2 x3 x4 x5 y0 y1 y2 y3 y4 y5 hx_1 hR_1
          generalize hgs2 : World.setCell v1 _ _ = v2 at *
          clear hgs2
          have hOK := hx_2.ok
          have qx0 := hx_2.c0
          have qx1 := hx_2.c1
          have qx2 := hx_2.c2
          have qx3 := hx_2.c3
          have qx4 := hx_2.c4
          have qx5 := hx_2.c5
          obtain ⟨⟨R0, R1, R2, R3, R4, R5⟩, ⟨Rf0, Rf1, Rf2, Rf3, Rf4, Rf5⟩⟩ := hR_2.cells6
          go_wp2_with fail
          rw [HD.out]
          obtain ⟨⟨u0, u1, u2, u3, u4, u5⟩, _⟩ := (hR_2.store6 (.bool x.v.b) (.slice x.v.A x.v.n x.v.c) (.bool x.v.p) (.slice x.v.E x.v.m x.v.q) (.int .i64 t) (.int .i64 t)).cells6
          refine bodyPost_ret (v := .tuple #[.agg #[.bool x.v.b, .slice x.v.A x.v.n x.v.c, .bool x.v.p, .slice x.v.E x.v.m x.v.q, .int .i64 t, .int .i64 t], .int .i64 0]) (by generalize World.setCell (World.setCell (World.setCell (World.setCell (World.setCell (World.setCell _ _ _) _ _) _ _) _ _) _ _) _ _ = W6 at u0 u1 u2 u3 u4 u5 ⊢; simp [results, Try.results44, go_sem, u0, u1, u2, u3, u4, u5]) rfl ?_
          refine ⟨⟨x.v, t, t⟩, rfl, ?_, ?_, ?_, ?_, ?_⟩
          · rfl
          · exact hOK.set6 (fun hz a ha => by have := hPw _ (hOld.1 hz a ha); omega) (fun hz a ha => by have := hPw _ (hOld.2 hz a ha); omega) _ _ _ _ _ _
          · exact below_set6 hR_2.later (by omega) _ _ _ _ _ _
          · exact hOld.1
          · exact hOld.2
        case neg =>
          have hfb2 : (fr == bk) = false := by simpa using hfb
          by_cases h0 : (m : Int) = 0
          case pos =>
            obtain rfl : m = 0 := by omega
            have hfb3 := hfb2
            have HD : Hid (D = (⟨x.v.d, fr, fr⟩, 0)) := by rw [Hid, hIM.out, hMT.out]; simp [hfb2]
            have hx_1 := hx9.car fr (fun hz a ha => by have := hPw _ (hOld.1 hz a ha); omega) (fun hz a ha => by have := hPw _ (hOld.2 hz a ha); omega)
            have hR_1 := hR9.far (p := ⟨w.heap.size, 4, none⟩) (by simp only; omega) (Nat.le_refl _) (.int .i64 fr)
            have hx_2 := hx_1.anc fr (fun hz a ha => by have := hPw _ (hOld.1 hz a ha); omega) (fun hz a ha => by have := hPw _ (hOld.2 hz a ha); omega)
            have hR_2 := hR_1.far (p := ⟨w.heap.size, 5, none⟩) (by simp only; omega) (Nat.le_refl _) (.int .i64 fr)
            obtain ⟨⟨x0, x1, x2, x3, x4, x5⟩, ⟨y0, y1, y2, y3, y4, y5⟩⟩ := hx9.1.cells6
            go_upto_region 11 with fail
            clear x0 x1 x2 x3 x4 x5 y0 y1 y2 y3 y4 y5 hx9 hR9
            generalize hgs1 : World.setCell w9 _ _ = v1 at *
            clear hgs1
            obtain ⟨⟨x0, x1, x2, x3, x4, x5⟩, ⟨y0, y1, y2, y3, y4, y5⟩⟩ := hx_1.1.cells6
            go_upto_region 13 with fail
            clear x0 x1 x2 x3 x4 x5 y0 y1 y2 y3 y4 y5 hx_1 hR_1
            generalize hgs2 : World.setCell v1 _ _ = v2 at *
            clear hgs2
            have hOK := hx_2.ok
            have qx0 := hx_2.c0
            have qx1 := hx_2.c1
            have qx2 := hx_2.c2
            have qx3 := hx_2.c3
            have qx4 := hx_2.c4
            have qx5 := hx_2.c5
            obtain ⟨⟨R0, R1, R2, R3, R4, R5⟩, ⟨Rf0, Rf1, Rf2, Rf3, Rf4, Rf5⟩⟩ := hR_2.cells6
            go_wp2_with fail
            rw [HD.out]
            obtain ⟨⟨u0, u1, u2, u3, u4, u5⟩, _⟩ := (hR_2.store6 (.bool x.v.b) (.slice x.v.A x.v.n x.v.c) (.bool x.v.p) (.slice x.v.E x.v.m x.v.q) (.int .i64 fr) (.int .i64 fr)).cells6
            refine bodyPost_ret (v := .tuple #[.agg #[.bool x.v.b, .slice x.v.A x.v.n x.v.c, .bool x.v.p, .slice x.v.E x.v.m x.v.q, .int .i64 fr, .int .i64 fr], .int .i64 0]) (by generalize World.setCell (World.setCell (World.setCell (World.setCell (World.setCell (World.setCell _ _ _) _ _) _ _) _ _) _ _) _ _ = W6 at u0 u1 u2 u3 u4 u5 ⊢; simp [results, Try.results44, go_sem, u0, u1, u2, u3, u4, u5]) rfl ?_
            refine ⟨⟨x.v, fr, fr⟩, rfl, ?_, ?_, ?_, ?_, ?_⟩
            · rfl
            · exact hOK.set6 (fun hz a ha => by have := hPw _ (hOld.1 hz a ha); omega) (fun hz a ha => by have := hPw _ (hOld.2 hz a ha); omega) _ _ _ _ _ _
            · exact below_set6 hR_2.later (by omega) _ _ _ _ _ _
            · exact hOld.1
            · exact hOld.2
          case neg =>
            have h0b : ((m : Int) == (0 : Int)) = false := by simpa using h0
            by_cases h1 : (m : Int) = 1
            case pos =>
              obtain rfl : m = 1 := by omega
              have hfb3 := hfb2
              have HD : Hid (D = (⟨x.v.d, bk, bk⟩, 0)) := by rw [Hid, hIM.out, hMT.out]; simp [hfb2]
              have hx_1 := hx9.car bk (fun hz a ha => by have := hPw _ (hOld.1 hz a ha); omega) (fun hz a ha => by have := hPw _ (hOld.2 hz a ha); omega)
              have hR_1 := hR9.far (p := ⟨w.heap.size, 4, none⟩) (by simp only; omega) (Nat.le_refl _) (.int .i64 bk)
              have hx_2 := hx_1.anc bk (fun hz a ha => by have := hPw _ (hOld.1 hz a ha); omega) (fun hz a ha => by have := hPw _ (hOld.2 hz a ha); omega)
              have hR_2 := hR_1.far (p := ⟨w.heap.size, 5, none⟩) (by simp only; omega) (Nat.le_refl _) (.int .i64 bk)
              obtain ⟨⟨x0, x1, x2, x3, x4, x5⟩, ⟨y0, y1, y2, y3, y4, y5⟩⟩ := hx9.1.cells6
              go_upto_region 11 with fail
              clear x0 x1 x2 x3 x4 x5 y0 y1 y2 y3 y4 y5 hx9 hR9
              generalize hgs1 : World.setCell w9 _ _ = v1 at *
              clear hgs1
              obtain ⟨⟨x0, x1, x2, x3, x4, x5⟩, ⟨y0, y1, y2, y3, y4, y5⟩⟩ := hx_1.1.cells6
              go_upto_region 13 with fail
              clear x0 x1 x2 x3 x4 x5 y0 y1 y2 y3 y4 y5 hx_1 hR_1
              generalize hgs2 : World.setCell v1 _ _ = v2 at *
              clear hgs2
              have hOK := hx_2.ok
              have qx0 := hx_2.c0
              have qx1 := hx_2.c1
              have qx2 := hx_2.c2
              have qx3 := hx_2.c3
              have qx4 := hx_2.c4
              have qx5 := hx_2.c5
              obtain ⟨⟨R0, R1, R2, R3, R4, R5⟩, ⟨Rf0, Rf1, Rf2, Rf3, Rf4, Rf5⟩⟩ := hR_2.cells6
              go_wp2_with fail
              rw [HD.out]
              obtain ⟨⟨u0, u1, u2, u3, u4, u5⟩, _⟩ := (hR_2.store6 (.bool x.v.b) (.slice x.v.A x.v.n x.v.c) (.bool x.v.p) (.slice x.v.E x.v.m x.v.q) (.int .i64 bk) (.int .i64 bk)).cells6
              refine bodyPost_ret (v := .tuple #[.agg #[.bool x.v.b, .slice x.v.A x.v.n x.v.c, .bool x.v.p, .slice x.v.E x.v.m x.v.q, .int .i64 bk, .int .i64 bk], .int .i64 0]) (by generalize World.setCell (World.setCell (World.setCell (World.setCell (World.setCell (World.setCell _ _ _) _ _) _ _) _ _) _ _) _ _ = W6 at u0 u1 u2 u3 u4 u5 ⊢; simp [results, Try.results44, go_sem, u0, u1, u2, u3, u4, u5]) rfl ?_
              refine ⟨⟨x.v, bk, bk⟩, rfl, ?_, ?_, ?_, ?_, ?_⟩
              · rfl
              · exact hOK.set6 (fun hz a ha => by have := hPw _ (hOld.1 hz a ha); omega) (fun hz a ha => by have := hPw _ (hOld.2 hz a ha); omega) _ _ _ _ _ _
              · exact below_set6 hR_2.later (by omega) _ _ _ _ _ _
              · exact hOld.1
              · exact hOld.2
            case neg =>
              have h1b : ((m : Int) == (1 : Int)) = false := by simpa using h1
              have hfb3 := hfb2
              have HD : Hid (D = (⟨x.v.d, t, t⟩, 0)) := by rw [Hid, hIM.out, hMT.out]; simp [hfb2, h0, h1, (show ¬ m = 0 by omega), (show ¬ m = 1 by omega)]
              have hx_1 := hx9.car t (fun hz a ha => by have := hPw _ (hOld.1 hz a ha); omega) (fun hz a ha => by have := hPw _ (hOld.2 hz a ha); omega)
              have hR_1 := hR9.far (p := ⟨w.heap.size, 4, none⟩) (by simp only; omega) (Nat.le_refl _) (.int .i64 t)
              have hx_2 := hx_1.anc t (fun hz a ha => by have := hPw _ (hOld.1 hz a ha); omega) (fun hz a ha => by have := hPw _ (hOld.2 hz a ha); omega)
              have hR_2 := hR_1.far (p := ⟨w.heap.size, 5, none⟩) (by simp only; omega) (Nat.le_refl _) (.int .i64 t)
              obtain ⟨⟨x0, x1, x2, x3, x4, x5⟩, ⟨y0, y1, y2, y3, y4, y5⟩⟩ := hx9.1.cells6
              go_upto_region 11 with fail
              clear x0 x1 x2 x3 x4 x5 y0 y1 y2 y3 y4 y5 hx9 hR9
              generalize hgs1 : World.setCell w9 _ _ = v1 at *
              clear hgs1
              obtain ⟨⟨x0, x1, x2, x3, x4, x5⟩, ⟨y0, y1, y2, y3, y4, y5⟩⟩ := hx_1.1.cells6
              go_upto_region 13 with fail
              clear x0 x1 x2 x3 x4 x5 y0 y1 y2 y3 y4 y5 hx_1 hR_1
              generalize hgs2 : World.setCell v1 _ _ = v2 at *
              clear hgs2
              have hOK := hx_2.ok
              have qx0 := hx_2.c0
              have qx1 := hx_2.c1
              have qx2 := hx_2.c2
              have qx3 := hx_2.c3
              have qx4 := hx_2.c4
              have qx5 := hx_2.c5
              obtain ⟨⟨R0, R1, R2, R3, R4, R5⟩, ⟨Rf0, Rf1, Rf2, Rf3, Rf4, Rf5⟩⟩ := hR_2.cells6
              go_wp2_with fail
              rw [HD.out]
              obtain ⟨⟨u0, u1, u2, u3, u4, u5⟩, _⟩ := (hR_2.store6 (.bool x.v.b) (.slice x.v.A x.v.n x.v.c) (.bool x.v.p) (.slice x.v.E x.v.m x.v.q) (.int .i64 t) (.int .i64 t)).cells6
              refine bodyPost_ret (v := .tuple #[.agg #[.bool x.v.b, .slice x.v.A x.v.n x.v.c, .bool x.v.p, .slice x.v.E x.v.m x.v.q, .int .i64 t, .int .i64 t], .int .i64 0]) (by generalize World.setCell (World.setCell (World.setCell (World.setCell (World.setCell (World.setCell _ _ _) _ _) _ _) _ _) _ _) _ _ = W6 at u0 u1 u2 u3 u4 u5 ⊢; simp [results, Try.results44, go_sem, u0, u1, u2, u3, u4, u5]) rfl ?_
              refine ⟨⟨x.v, t, t⟩, rfl, ?_, ?_, ?_, ?_, ?_⟩
              · rfl
              · exact hOK.set6 (fun hz a ha => by have := hPw _ (hOld.1 hz a ha); omega) (fun hz a ha => by have := hPw _ (hOld.2 hz a ha); omega) _ _ _ _ _ _
              · exact below_set6 hR_2.later (by omega) _ _ _ _ _ _
              · exact hOld.1
              · exact hOld.2

end Go.Proofs.Ytppkifdngjcbeaa
