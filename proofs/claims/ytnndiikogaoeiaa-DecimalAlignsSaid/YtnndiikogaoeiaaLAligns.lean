/- The walk of DecimalAligns. No condition. -/
import Derived.Test.YtnndiikogaoeiaaDcb
import Derived.Test.YtnndiikogaoeiaaCanon4
import Derived.Test.YtnndiikogaoeiaaDe12
namespace Go.Proofs.Ytnndiikogaoeiaa
open Go.RowKit

theorem align_may {x : Dc} {s : Int} (h : (alignDc x s).2 = 0) : mayDc x = true ∧ mayL (alignDc x s).1.l = true ∧ 0 ≤ (alignDc x s).1.s ∧ (alignDc x s).1.s ≤ 1000 := by
  unfold alignDc at h ⊢
  by_cases hx : mayDc x = true
  · rw [if_pos hx] at h ⊢
    by_cases hr : s < (trimDc x).s ∨ 1000 < s
    · rw [if_pos hr] at h; simp at h
    · rw [if_neg hr]
      obtain ⟨hxl, hx0, hx1⟩ := mayDc_iff.1 hx
      have hc := trimDc_canonic hxl hx0
      have := hc.lo
      refine ⟨hx, mayL_trim (mayL_zerosB hc.may _), ?_, ?_⟩
      · simp only; omega
      · simp only; omega
  · rw [if_neg hx] at h; simp at h
theorem align_len (x : Dc) (s : Int) {M : Nat} (h : x.l.length ≤ M) : (alignDc x s).1.l.length ≤ M + 1000 := by
  unfold alignDc
  split
  · split
    · simp [Dc.zero]
    · have h1 := trimL_len (zerosB (trimDc x).l (s - (trimDc x).s).toNat)
      have h2 := trimDc_len x
      rw [zerosB_len] at h1
      rename_i hm hr
      have hc := (trimDc_canonic (mayDc_iff.1 hm).1 (mayDc_iff.1 hm).2.1).lo
      simp only
      omega
  · simp [Dc.zero]

set_option maxRecDepth 100000 in
set_option maxHeartbeats 8000000 in
theorem decimalAligns_walk (w : World) {A0 : Option Addr} {n0 c0 : Nat} {l0 : List Int} {a0 : Int} {a1 : Int}
    (b0 : Bool) (w0 : IL w A0 n0 c0 l0) (i0 : I64 l0) (x0 : -9223372036854775808 ≤ a0 ∧ a0 ≤ 9223372036854775807) (w1 : -9223372036854775808 ≤ a1 ∧ a1 ≤ 9223372036854775807) :
    Calls Try.prog 14 #[.agg #[.bool b0, .slice A0 n0 c0, .int .i64 a0], .int .i64 a1] w fun e w' => e = .returned (.bool true) ∧ Below w.heap.size w w' := by
  obtain ⟨X, hX, _, hg⟩ := cgood_ex (A := A0) (n := n0) (c := c0) b0 a0 12 i0 x0 (by omega)
  obtain ⟨n1, l1, hn1, hl1, hfew⟩ : ∃ (n1 : Nat) (l1 : List Int), n1 ≤ 12 ∧ I64 l1 ∧ Hid (∀ W, IL W A0 n0 c0 l0 → Calls Try.prog 19 #[.agg #[.bool b0, .slice A0 n0 c0, .int .i64 a0], .int .i64 12] W (fun e w' => e = .returned (.agg #[.bool b0, .slice A0 n1 c0, .int .i64 a0]) ∧ IL w' A0 n1 c0 l1 ∧ Below W.heap.size W w')) :=
    ⟨min n0 12, l0.take 12, by omega, i0.take_ 12, fun W hW => cfew_any b0 a0 12 W hW (by omega)⟩
  obtain ⟨k, hk, hka⟩ : ∃ k : Int, (0 ≤ k ∧ k < 20) ∧ Hid (∀ W, Calls Try.prog 20 #[.int .i64 a1, .int .i64 20] W fun e w' => e = .returned (.int .i64 k) ∧ W = w') :=
    ⟨_, around_bd a1 20 (by omega), fun W => around_any a1 20 W w1.1 w1.2 (by omega) (by omega)⟩
  have iX := I64_of_may hX.1
  have lX := hX.2.2.2
  have bX := hX.2.2.1
  have bX0 := hX.2.1
  have hp1 := Blk.made w w 24 #[.bool b0, .slice A0 n0 c0, .int .i64 a0] (Later.refl w) _ rfl
  have w01 := w0.alloc (.cells #[.bool b0, .slice A0 n0 c0, .int .i64 a0] 24)
  go_enter Try.func14, Try.ntmps14
  go_upto_region 1 with fail
  generalize World.alloc w _ = wb at *
  have hL1 := hp1.later
  have HS : Hid (∀ W, Later wb W → (W.cell? ⟨w.heap.size, 0, none⟩ = some (.bool b0) ∧ W.cell? ⟨w.heap.size, 1, none⟩ = some (.slice A0 n0 c0) ∧ W.cell? ⟨w.heap.size, 2, none⟩ = some (.int .i64 a0)) ∧ Later wb W) := fun W hW => ⟨(hp1.call hW).cells3.1, hW⟩
  clear hp1
  go_region_held3 (fun W => (W.cell? ⟨w.heap.size, 0, none⟩ = some (.bool b0) ∧ W.cell? ⟨w.heap.size, 1, none⟩ = some (.slice A0 n0 c0) ∧ W.cell? ⟨w.heap.size, 2, none⟩ = some (.int .i64 a0)) ∧ Later wb W)
    ((refine HS.out _ ?_; repeat (first | exact And.right (by assumption) | exact Later.refl _ | refine Later.drew ?_ | refine Later.alloc ?_ _ | refine Later.call ?_ hB1 | refine Later.call ?_ hB2 | refine Later.call ?_ hB3)))
    (first
      | (go_at_call 19; refine (hfew.out _ (w01.later (And.right (by assumption)))).mono ?_; rintro e wc2 ⟨rfl, hI2, hB2⟩; have hL2 : Later wb wc2 := Later.call (And.right (by assumption)) hB2)
      | (go_at_call 18; have _t := hB2; refine (hg.out _ (w01.later (And.right (by assumption)))).mono ?_; rintro e wc3 ⟨A3, n3, c3, rfl, hI3, hB3, _⟩; have hL3 : Later wb wc3 := Later.call (And.right (by assumption)) hB3)
      | (go_at_call 18; refine (hg.out _ (w01.later (And.right (by assumption)))).mono ?_; rintro e wc1 ⟨A1, n1', c1, rfl, hI1, hB1, _⟩; have hL1' : Later wb wc1 := Later.call (And.right (by assumption)) hB1))
  go_wp2_with (go_at_call 20; refine (hka.out _).mono ?_; rintro e w9 ⟨rfl, rfl⟩)
  generalize hw9 : World.alloc (World.alloc wc3 _) _ = w9
  have h39 : Later wc3 w9 := by rw [← hw9]; exact (((Later.refl wc3).alloc _).alloc _)
  have hL9 : Later w w9 := below_from (below_from hL1 hL3) h39
  obtain ⟨F, N, hF⟩ : ∃ (F : Nat → CV) (N : Nat → Int), ∀ i, i < 3 → (F i).at_ w9 wc3.heap.size (i * 3) ∧ (F i).ok w9 ∧ I64 (F i).X.l ∧ (F i).n ≤ 12 ∧ (-9223372036854775808 ≤ (F i).X.s ∧ (F i).X.s ≤ 9223372036854775807) ∧
      (w9.cell? ⟨wc3.heap.size + 1, i, none⟩ = some (.int .i64 (N i)) ∧ -9223372036854775808 ≤ N i ∧ N i ≤ 9223372036854775807) := by
    refine ⟨fun i => if i = 0 then ⟨A1, n1', c1, X⟩ else if i = 1 then ⟨A0, n1, c0, ⟨b0, l1, a0⟩⟩ else ⟨A3, n3, c3, X⟩, fun i => if i = 2 then a1 else k, ?_⟩
    intro i hi
    have hc0 : ∀ i, w9.cell? ⟨wc3.heap.size, i, none⟩ = (#[.bool X.neg, .slice A1 n1' c1, .int .i64 X.s, .bool b0, .slice A0 n1 c0, .int .i64 a0, .bool X.neg, .slice A3 n3 c3, .int .i64 X.s] : Array Value)[i]? := by
      intro i
      rw [← hw9, World.cell?_alloc_past _ _ _ (by simp; try omega), World.cell?_alloc_at _ _ _ _ rfl]
    have hc1 : ∀ i, w9.cell? ⟨wc3.heap.size + 1, i, none⟩ = (#[.int .i64 k, .int .i64 k, .int .i64 a1] : Array Value)[i]? := by
      intro i
      rw [← hw9, World.cell?_alloc_at _ _ _ _ (by simp)]
    have g1 := ((hI1.below hB2).below hB3).later h39
    have g2 := (hI2.below hB3).later h39
    have g3 := hI3.later h39
    have e1 := g1.len
    have e3 := g3.len
    have hkk : i = 0 ∨ i = 1 ∨ i = 2 := by omega
    rcases hkk with rfl | rfl | rfl
    · exact ⟨⟨hc0 0, hc0 1, hc0 2⟩, g1, iX, (by show n1' ≤ 12; omega), (by show _ ≤ X.s ∧ X.s ≤ _; omega), hc1 0, (by show _ ≤ k ∧ k ≤ _; omega)⟩
    · exact ⟨⟨hc0 3, hc0 4, hc0 5⟩, g2, hl1, hn1, x0, hc1 1, (by show _ ≤ k ∧ k ≤ _; omega)⟩
    · exact ⟨⟨hc0 6, hc0 7, hc0 8⟩, g3, iX, (by show n3 ≤ 12; omega), (by show _ ≤ X.s ∧ X.s ≤ _; omega), hc1 2, w1⟩
  have HF := Lib.hid hF
  clear hF hw9 h39 hI1 hI2 hI3 hB1 hB2 hB3 hL1' hL2 HS hX hl1 hn1 hk
  go_loopw [7] (fun v wr => ∃ i : Nat, i ≤ 3 ∧ v = .int .i64 i ∧ Later w9 wr) (fun v _ => 3 - (intOf v).toNat)
  case atStart => exact ⟨0, by omega, rfl, Later.refl _⟩
  case round =>
    obtain ⟨i, hi, rfl, hL⟩ := hrel
    by_cases hlt : i < 3
    · obtain ⟨hx1, hx2, hx3, hx4, hx5, hn1, hn2⟩ := HF.out i hlt
      generalize F i = x at *
      generalize N i = kk at *
      obtain ⟨wb, hwb⟩ : ∃ wb, wb = wr := ⟨_, rfl⟩
      rw [← hwb] at hL
      rw [← hwb]
      clear hwb
      have HS : Hid (∀ W, Later wb W → ((W.cell? ⟨wc3.heap.size, i * 3, none⟩ = some (.bool x.X.neg) ∧ W.cell? ⟨wc3.heap.size, i * 3 + 1, none⟩ = some (.slice x.A x.n x.c) ∧ W.cell? ⟨wc3.heap.size, i * 3 + 2, none⟩ = some (.int .i64 x.X.s)) ∧ W.cell? ⟨wc3.heap.size + 1, i, none⟩ = some (.int .i64 kk)) ∧ Later wb W) := by
        intro W hW
        have hLW : Later w9 W := below_from hL hW
        exact ⟨⟨hx1.later hLW, hLW.cell hn1⟩, hW⟩
      have hi3 : (i : Int) < 3 := by omega
      have hi0 : (0 : Int) ≤ (i : Int) := by omega
      obtain ⟨D, hD⟩ : ∃ D, alignDc x.X kk = D := ⟨_, rfl⟩
      have hs1 := Lib.hid (fun W (hW : Later wb W) => show Calls Try.prog 48 #[.agg #[.bool x.X.neg, .slice x.A x.n x.c, .int .i64 x.X.s], .int .i64 kk] W (RCE W D.1 D.2) by
        rw [← hD]; exact calign_any x.X.neg x.X.s kk W (hx2.later (below_from hL hW)) hx3 hx5 hn2 (by omega))
      have hs2 := Lib.hid (fun W (hW : Later wb W) => show Calls Try.prog 49 #[.agg #[.bool x.X.neg, .slice x.A x.n x.c, .int .i64 x.X.s], .int .i64 kk] W (RCE W D.1 D.2) by
        rw [← hD]; exact rcalign_any x.X.neg x.X.s kk W (hx2.later (below_from hL hW)) hx3 hx5 hn2 (by omega))
      have hback : D.2 = 0 → Hid (D.1.s = kk) ∧ Hid (∀ W (A : Option Addr) (n c : Nat), Later wb W → IL W A n c D.1.l → Calls Try.prog 39 #[.agg #[.bool D.1.neg, .slice A n c, .int .i64 kk], .agg #[.bool x.X.neg, .slice x.A x.n x.c, .int .i64 x.X.s]] W (RV W (.int .i64 0))) := by
        intro h
        rw [← hD] at h ⊢
        obtain ⟨h1, h2⟩ := align_back h
        obtain ⟨h3, h4, h5, h6⟩ := align_may h
        obtain ⟨h7, h8, h9⟩ := mayDc_iff.1 h3
        refine ⟨h1, fun W A n c hW hI => ?_⟩
        have hxw := hx2.later (below_from hL hW)
        have hxl := hxw.len
        have := ccompare_any (alignDc x.X kk).1.neg x.X.neg (alignDc x.X kk).1.s x.X.s W hI hxw h4 h7 (by have := hI.len; have := align_len x.X kk (M := 12) (by omega); omega) (by omega) h5 h6 h8 h9
        rw [show (⟨(alignDc x.X kk).1.neg, (alignDc x.X kk).1.l, (alignDc x.X kk).1.s⟩ : Dc) = (alignDc x.X kk).1 from rfl, show (⟨x.X.neg, x.X.l, x.X.s⟩ : Dc) = x.X from rfl, h2, h1] at this
        exact this
      clear hD
      obtain ⟨D, ec⟩ := D
      go_upto_region 6 with fail
      go_cut [8, 9] (fun sP sC W => ∃ (g : Nat) (A1 : Option Addr) (n1 c1 : Nat), sP = .pointer (some ⟨g, 0, none⟩) ∧ sC = .int .i64 ec ∧ DB wb g 27 A1 n1 c1 D W)
      case first =>
        go_region_held3 (fun W => ((W.cell? ⟨wc3.heap.size, i * 3, none⟩ = some (.bool x.X.neg) ∧ W.cell? ⟨wc3.heap.size, i * 3 + 1, none⟩ = some (.slice x.A x.n x.c) ∧ W.cell? ⟨wc3.heap.size, i * 3 + 2, none⟩ = some (.int .i64 x.X.s)) ∧ W.cell? ⟨wc3.heap.size + 1, i, none⟩ = some (.int .i64 kk)) ∧ Later wb W)
          ((refine HS.out _ ?_; repeat (first | exact And.right (by assumption) | exact Later.refl _ | refine Later.drew ?_ | refine Later.alloc ?_ _ | refine Later.setCell ?_ (by first | exact Nat.le_refl _ | exact hL1.size | exact hL2.size) _ | refine Later.call ?_ hB1 | refine Later.call ?_ hB2)))
          (first
            | (go_at_call 33; refine (of6_any _ _ _).mono ?_; rintro e wc1 ⟨rfl, hB1⟩; have hL1 : Later wb wc1 := Later.call (And.right (by assumption)) hB1; first | (have hC : Below ((wb.alloc (.cells #[.bool false, .slice none 0 0, .int .i64 0] 27)).drew).heap.size ((wb.alloc (.cells #[.bool false, .slice none 0 0, .int .i64 0] 27)).drew) wc1 := (by with_reducible exact hB1); have kb := (Blk.made wb wb 27 _ (Later.refl wb) _ rfl).drew.call hC; have kl := kb.lt; obtain ⟨⟨z0, z1, z2⟩, ⟨z3, z4, z5⟩⟩ := kb.cells3) | skip)
            | (go_at_call 48; have _t := hB1; refine (hs1.out _ (And.right (by assumption))).mono ?_; rintro e wc2 ⟨A1, n1, c1, rfl, hI1, hB2, hN1⟩; have hL2 : Later wb wc2 := Later.call (And.right (by assumption)) hB2; first | (have kb := kb.call hB2; have kl := kb.lt; obtain ⟨⟨z0, z1, z2⟩, ⟨z3, z4, z5⟩⟩ := kb.cells3) | (have hC : Below (wc1.alloc (.cells #[.bool false, .slice none 0 0, .int .i64 0] 27)).heap.size (wc1.alloc (.cells #[.bool false, .slice none 0 0, .int .i64 0] 27)) wc2 := (by with_reducible exact hB2); have kb := (Blk.made wb wc1 27 _ hL1 _ rfl).call hC; have kl := kb.lt; obtain ⟨⟨z0, z1, z2⟩, ⟨z3, z4, z5⟩⟩ := kb.cells3) | skip))
        all_goals
          go_wp2_with fail
          go_meet
          first
          | (have _k := kb; exact ⟨_, A1, n1, c1, rfl, rfl, DB.store kb hI1 (fun hz a ha => by have := hN1 hz a ha; (try simp at this); omega)⟩)
          | exact ⟨_, A1, n1, c1, rfl, rfl, DB.made wb wc2 _ hL2 hI1 _ rfl⟩
      case rest =>
        obtain ⟨g, A1, n1, c1, rfl, rfl, hD1⟩ := hcut
        obtain ⟨wm, hwm⟩ : ∃ wm, wm = wc := ⟨_, rfl⟩
        rw [← hwm] at hD1
        rw [← hwm]
        clear hwm
        have hLc : Later wb wm := hD1.later
        have HSc : Hid (∀ W, Later wm W → ((W.cell? ⟨wc3.heap.size, i * 3, none⟩ = some (.bool x.X.neg) ∧ W.cell? ⟨wc3.heap.size, i * 3 + 1, none⟩ = some (.slice x.A x.n x.c) ∧ W.cell? ⟨wc3.heap.size, i * 3 + 2, none⟩ = some (.int .i64 x.X.s)) ∧ W.cell? ⟨wc3.heap.size + 1, i, none⟩ = some (.int .i64 kk)) ∧ Later wm W) := fun W hW => ⟨(HS.out W (below_from hLc hW)).1, hW⟩
        go_upto_region 7 with fail
        go_cut [10, 11] (fun sP sC W => ∃ (g : Nat) (A1 : Option Addr) (n1 c1 : Nat), sP = .pointer (some ⟨g, 0, none⟩) ∧ sC = .int .i64 ec ∧ DB wm g 24 A1 n1 c1 D W)
        case first =>
          go_region_held3 (fun W => ((W.cell? ⟨wc3.heap.size, i * 3, none⟩ = some (.bool x.X.neg) ∧ W.cell? ⟨wc3.heap.size, i * 3 + 1, none⟩ = some (.slice x.A x.n x.c) ∧ W.cell? ⟨wc3.heap.size, i * 3 + 2, none⟩ = some (.int .i64 x.X.s)) ∧ W.cell? ⟨wc3.heap.size + 1, i, none⟩ = some (.int .i64 kk)) ∧ Later wm W)
            ((refine HSc.out _ ?_; repeat (first | exact And.right (by assumption) | exact Later.refl _ | refine Later.drew ?_ | refine Later.alloc ?_ _ | refine Later.setCell ?_ (by first | exact Nat.le_refl _ | exact hL1.size) _ | refine Later.call ?_ hB1)))
            (first
              | (go_at_call 49; refine (hs2.out _ (below_from hLc (And.right (by assumption)))).mono ?_; rintro e wc1 ⟨A1, n1, c1, rfl, hI1, hB1, hN1⟩; have hL1 : Later wm wc1 := Later.call (And.right (by assumption)) hB1; first | (have hC : Below ((wm.alloc (.cells #[.bool false, .slice none 0 0, .int .i64 0] 24)).drew).heap.size ((wm.alloc (.cells #[.bool false, .slice none 0 0, .int .i64 0] 24)).drew) wc1 := (by with_reducible exact hB1); have kb := (Blk.made wm wm 24 _ (Later.refl wm) _ rfl).drew.call hC; have kl := kb.lt; obtain ⟨⟨z0, z1, z2⟩, ⟨z3, z4, z5⟩⟩ := kb.cells3) | skip))
          all_goals
            go_wp2_with fail
            go_meet
            first
            | (have _k := kb; exact ⟨_, A1, n1, c1, rfl, rfl, DB.store kb hI1 (fun hz a ha => by have := hN1 hz a ha; (try simp at this); omega)⟩)
            | exact ⟨_, A1, n1, c1, rfl, rfl, DB.made wm wc1 _ hL1 hI1 _ rfl⟩
        case rest =>
          obtain ⟨g2, A2, n2, c2, rfl, rfl, hD2⟩ := hcut
          obtain ⟨wn, hwn⟩ : ∃ wn, wn = wc := ⟨_, rfl⟩
          rw [← hwn] at hD2
          rw [← hwn]
          clear hwn
          have hLn : Later wm wn := hD2.later
          have d1 := Lib.hid (hD1.call hLn).at_
          have d2 := Lib.hid hD2.at_
          clear hD1 hD2
          have hsm := Lib.hid (fun s : Ext wn => csame_at d1.out d2.out s)
          have hSn := Lib.hid (fun s : Ext wn => (HSc.out s.world (below_from hLn s.h)).1)
          have K0 := d1.out.k0
          have K1 := d1.out.k1
          have K2 := d1.out.k2
          have M0 := d2.out.k0
          have M1 := d2.out.k1
          have M2 := d2.out.k2
          go_upto_region 8 with fail
          refine wp_region_ext (by kernel_rfl) (by kernel_rfl) ?_
          repeat (go_big_quiet_step (first
            | (go_at_call 35; exact quiet_ext _ (as6_any _ _ _))
            | (go_at_call 24; exact quiet_ext _ (hsm.out _))))
          refine wpQuiet_nil ?_
          rintro _ ⟨s, rfl⟩
          clear K0 K1 K2 M0 M1 M2 hsm
          generalize hws : s.world = ws
          have hLs : Later wn ws := by rw [← hws]; exact s.h
          clear hws
          have hSs := Lib.hid (fun s : Ext ws => (HSc.out s.world (below_from hLn (below_from hLs s.h))).1)
          have K0 := (d1.out.later hLs).k0
          have K1 := (d1.out.later hLs).k1
          have E0 := fun s : Ext ws => (hSs.out s).1.1
          have E1 := fun s : Ext ws => (hSs.out s).1.2.1
          have E2 := fun s : Ext ws => (hSs.out s).1.2.2
          have E3 := fun s : Ext ws => (hSs.out s).2
          by_cases hec : ec = 0
          · subst hec
            obtain ⟨hds, hcm⟩ := hback rfl
            have K2 : ∀ s : Ext ws, s.world.cell? ⟨g, 2, none⟩ = some (.int .i64 kk) := by
              have := (d1.out.later hLs).k2
              rw [hds.out] at this
              exact this
            have hcc := Lib.hid (fun s : Ext ws => hcm.out s.world A1 n1 c1 (below_from hLc (below_from hLn (below_from hLs s.h))) ((d1.out.later hLs).il s))
            clear hback hds hcm
            go_upto_region 10 with fail
            refine wp_region_ext (by kernel_rfl) (by kernel_rfl) ?_
            repeat (go_big_quiet_step (first
              | (go_at_call 33; exact quiet_ext _ (of6_any _ _ _))
              | (go_at_call 39; exact quiet_ext _ (hcc.out _))))
            refine wpQuiet_nil ?_
            rintro _ ⟨s2, rfl⟩
            go_wp2_with fail
            go_roundw
            case rel => first | exact ⟨i + 1, by omega, by go_num, below_from (below_from (below_from (below_from hL hLc) hLn) hLs) s2.h⟩ | ((repeat apply Exists.intro); exact ⟨⟨i + 1, by omega, by go_num, below_from (below_from (below_from (below_from hL hLc) hLn) hLs) s2.h⟩, rfl⟩)
            case measure => simp [intOf]; omega
          · have hec2 : (ec == (0 : Int)) = false := by simpa using hec
            clear hback
            go_upto_region 10 with fail
            refine wp_region_ext (by kernel_rfl) (by kernel_rfl) ?_
            repeat (go_big_quiet_step (first
              | (go_at_call 33; exact quiet_ext _ (of6_any _ _ _))))
            refine wpQuiet_nil ?_
            rintro _ ⟨s2, rfl⟩
            go_wp2_with fail
            go_roundw
            case rel => first | exact ⟨i + 1, by omega, by go_num, below_from (below_from (below_from (below_from hL hLc) hLn) hLs) s2.h⟩ | ((repeat apply Exists.intro); exact ⟨⟨i + 1, by omega, by go_num, below_from (below_from (below_from (below_from hL hLc) hLn) hLs) s2.h⟩, rfl⟩)
            case measure => simp [intOf]; omega
    · go_wp2_with fail
      refine (lives6_any _).mono ?_
      rintro e w10 ⟨rfl, hB10⟩
      go_wp2_with fail
      go_ret
      exact ⟨rfl, below_from (below_from hL9 hL) hB10⟩

end Go.Proofs.Ytnndiikogaoeiaa
