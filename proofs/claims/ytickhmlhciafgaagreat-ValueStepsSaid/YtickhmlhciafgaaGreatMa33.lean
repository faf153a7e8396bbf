/- Drafts and decimals as values in memory; regions whose calls make them. No condition. -/
import Derived.Test.YtickhmlhciafgaaGreatMa31
import Derived.Test.YtickhmlhciafgaaGreatMa32
import Derived.Test.YtickhmlhciafgaaGreatMa29
import Derived.Deep.RegionHeld3
namespace Go.Proofs.YtickhmlhciafgaaGreat
open Go.RowKit
set_option linter.unusedVariables false

theorem row_draft : RowT Tryz.prog 70 4 := ⟨by kernel_rfl, by kernel_rfl⟩
theorem row_draft14 : RowT Tryz.prog 64 4 := ⟨by kernel_rfl, by kernel_rfl⟩
set_option maxRecDepth 100000 in
set_option maxHeartbeats 4000000 in
theorem changed_commit (y : RuV) (d : Dr) {A E : Option Addr} {n c m q : Nat} (p : Addr) (V : Dc × Int) {wf : World} {gf : Nat} {tf : TypeId} (w : World)
    (hd : IL w A n c d.int) (hf : IL w E m q d.frac) (id : I64 d.int) (jf : I64 d.frac) (nd : n ≤ 10000) (nf : m ≤ 10000) (hmi : 0 ≤ y.r.n.mi ∧ y.r.n.mi ≤ 64) (hmf : 0 ≤ y.r.n.mf ∧ y.r.n.mf ≤ 64)
    (hV : mayD d.neg d.int d.sep d.frac = true → V.2 = 0 → mayDc V.1 = true ∧ V.1.l.length ≤ 10000) (hfn : Blk wf gf tf #[.func (.func 71) #[] #[.pointer (some p)]] w)
    (hdo : ∀ (A : Option Addr) (n c : Nat) W, Later w W → mayD d.neg d.int d.sep d.frac = true → IL W A n c (decD d).l → Calls Tryz.prog 71 #[.agg #[.bool (decD d).neg, .slice A n c, .int .i64 (decD d).s], .pointer (some p)] W (RCE W V.1 V.2)) :
    Calls Tryz.prog 70 #[.agg y.cs, .agg #[.bool d.neg, .slice A n c, .bool d.sep, .slice E m q], .slice (some ⟨gf, 0, none⟩) 1 1] w (RDE w (changedS V y.r d).1 (changedS V y.r d).2) := by
  have hC : Hid (changedS V y.r d = if mayD d.neg d.int d.sep d.frac then (if V.2 = 0 then fromS V.1 y.r.n.mi y.r.n.mf else (Dr.none, V.2)) else (Dr.none, 1)) := rfl
  have hmy := Lib.hid (fun W (h1 : IL W A n c d.int) (h2 : IL W E m q d.frac) => show Calls Tryz.prog 107 #[.agg #[.bool d.neg, .slice A n c, .bool d.sep, .slice E m q]] W (RV W (.bool (mayD d.neg d.int d.sep d.frac))) from dmay_any d.neg d.sep W h1 h2 id jf)
  have hde := Lib.hid (fun W (h1 : IL W A n c d.int) (h2 : IL W E m q d.frac) => show Calls Tryz.prog 65 #[.agg #[.bool d.neg, .slice A n c, .bool d.sep, .slice E m q]] W (RC W (decD d)) from ddec_any d.neg d.sep W h1 h2 id jf nd nf)
  have hdo := Lib.hid hdo
  generalize changedS V y.r d = R at *
  generalize decD d = X at *
  generalize mayD d.neg d.int d.sep d.frac = may at *
  have hX := ((Blk.made w w 32 y.cs (Later.refl w) _ rfl).alloc (.cells #[.bool d.neg, .slice A n c, .bool d.sep, .slice E m q] 70)).alloc (.cells #[.bool false, .slice none 0 0, .bool false, .slice none 0 0] 70)
  have hD := (Blk.made w (w.alloc (.cells y.cs 32)) 70 #[.bool d.neg, .slice A n c, .bool d.sep, .slice E m q] ((Later.refl w).alloc _) (w.heap.size + 1) (by simp)).alloc (.cells #[.bool false, .slice none 0 0, .bool false, .slice none 0 0] 70)
  have hR := Blk.made w ((w.alloc (.cells y.cs 32)).alloc (.cells #[.bool d.neg, .slice A n c, .bool d.sep, .slice E m q] 70)) 70 #[.bool false, .slice none 0 0, .bool false, .slice none 0 0] (((Later.refl w).alloc _).alloc _) (w.heap.size + 2) (by simp)
  go_enter Tryz.func70, Tryz.ntmps70
  go_upto_region 1 with fail
  generalize World.alloc (World.alloc (World.alloc w _) _) _ = w1 at *
  go_wp2_with (refine wpList_load_blk hD row_draft rfl rfl rfl rfl ?_; go_simp)
  refine (hmy.out _ (hd.later hD.later) (hf.later hD.later)).mono ?_
  rintro e w2 ⟨rfl, hB2⟩
  have hX2 := hX.call hB2
  have hD2 := hD.call hB2
  have hR2 := hR.call hB2
  clear hX hD hR hmy
  cases may
  · rw [if_neg (by simp)] at hC
    go_wp2_with (refine wpList_store_blk hR2 row_draft rfl rfl rfl rfl rfl rfl (by kernel_rfl) ?_; intro w9 hR9 hS9; go_simp)
    rw [hC.out]
    exact bodyPost_ret (results_ct hR9 row_draft rfl Tryz.results70 rfl rfl) rfl ⟨none, 0, 0, none, 0, 0, rfl, IL.nil _, IL.nil _, hS9.below hR2.later (by omega), none_newer _, none_newer _⟩
  · rw [if_pos rfl] at hC
    go_wp2_with (refine wpList_load_blk hD2 row_draft rfl rfl rfl rfl ?_; go_simp)
    refine (hde.out _ (hd.later hD2.later) (hf.later hD2.later)).mono ?_
    rintro e w3 ⟨A3, n3, c3, rfl, hI3, hB3, hN3⟩
    have hZ := Blk.made w w3 29 (#[.bool X.neg, .slice A3 n3 c3, .int .i64 X.s]) (hR2.call hB3).later _ rfl
    have hX3 := (hX2.call hB3).alloc (.cells (#[.bool X.neg, .slice A3 n3 c3, .int .i64 X.s]) 29)
    have hR3 := (hR2.call hB3).alloc (.cells (#[.bool X.neg, .slice A3 n3 c3, .int .i64 X.s]) 29)
    have hI3' := hI3.alloc (.cells (#[.bool X.neg, .slice A3 n3 c3, .int .i64 X.s]) 29)
    have hfn3 := (hfn.call hR2.later).call hB3 |>.alloc (.cells (#[.bool X.neg, .slice A3 n3 c3, .int .i64 X.s]) 29)
    have hl2 := hR2.lt
    have hl3 : w.heap.size ≤ w2.heap.size := hR2.later.size
    clear hde hX2 hD2 hR2 hI3
    obtain ⟨v, ec⟩ := V
    simp only at hC hV hdo
    go_upto_region 4 with fail
    have hgz : w.heap.size + 2 < w3.heap.size := by have := hB3.size; omega
    have hgf : gf < w.heap.size := hfn.lt
    have hwg : wf.heap.size ≤ gf := hfn.1
    generalize World.alloc w3 _ = w4 at *
    generalize w3.heap.size = gz at *
    go_wp2_with fail
    go_loopw [21] (fun s wr => ∃ (i : Nat) (Y : Dc) (A : Option Addr) (n c : Nat), i ≤ 1 ∧ s = .int .i64 i ∧ Blk w gz 29 #[.bool Y.neg, .slice A n c, .int .i64 Y.s] wr ∧ IL wr A n c Y.l ∧ Blk w w.heap.size 32 y.cs wr ∧ Blk w (w.heap.size + 2) 70 #[.bool false, .slice none 0 0, .bool false, .slice none 0 0] wr ∧ Blk wf gf tf #[.func (.func 71) #[] #[.pointer (some p)]] wr ∧ Later w wr ∧ Hid (if 0 < i then Y = v ∧ ec = 0 else Y = X)) (fun s _ => 1 - (intOf s).toNat)
    case atStart => exact ⟨0, X, A3, n3, c3, by omega, rfl, hZ, hI3', hX3, hR3, hfn3, hR3.later, rfl⟩
    case round =>
      clear hX3 hR3 hI3' hfn3 hZ hfn
      obtain ⟨i, Y, A, n, c, hi, rfl, hZ, hI, hX, hR, hfn, hL, hY⟩ := hrel
      by_cases hlt : i < 1
      · have hi0 : i = 0 := by omega
        subst hi0
        have hYX : Y = X := by simpa [Hid] using hY
        subst hYX
        clear hY
        have f0 : wr.cell? ⟨gf, 0, none⟩ = some (.func (.func 71) #[] #[.pointer (some p)]) := hfn.cell 0
        go_upto_region 7 with fail
        clear f0
        go_wp2_with (refine wpList_load_blk hZ row_dec rfl rfl rfl rfl ?_; go_simp)
        refine (hdo.out _ _ _ _ hL trivial hI).mono ?_
        rintro e w5 ⟨A5, n5, c5, rfl, hI5, hB5, hN5⟩
        have hT := Blk.made w w5 29 (#[.bool v.neg, .slice A5 n5 c5, .int .i64 v.s]) (hR.call hB5).later _ rfl
        have hX5 := (hX.call hB5).alloc (.cells (#[.bool v.neg, .slice A5 n5 c5, .int .i64 v.s]) 29)
        have hR5 := (hR.call hB5).alloc (.cells (#[.bool v.neg, .slice A5 n5 c5, .int .i64 v.s]) 29)
        have hZ5 := (hZ.call hB5).alloc (.cells (#[.bool v.neg, .slice A5 n5 c5, .int .i64 v.s]) 29)
        have hI5' := hI5.alloc (.cells (#[.bool v.neg, .slice A5 n5 c5, .int .i64 v.s]) 29)
        have hfn5 := (hfn.call hB5).alloc (.cells (#[.bool v.neg, .slice A5 n5 c5, .int .i64 v.s]) 29)
        have hlZ := hZ.lt
        have hlf := hfn.lt
        have hlR := hR.lt
        have hlX := hX.lt
        clear hX hR hZ hI5 hfn
        go_upto_region 8 with fail
        generalize World.alloc w5 _ = w6 at *
        by_cases hec : ec = 0
        · subst hec
          go_wp2_with (first | (refine wpList_load_blk hT row_dec rfl rfl rfl rfl ?_; go_simp) | (refine wpList_store_blk hZ5 row_dec rfl rfl rfl rfl rfl rfl (by kernel_rfl) ?_; intro w9 hZ9 hS9; go_simp))
          go_roundw
          case rel =>
            have hg0 : w.heap.size ≤ gz := hZ5.1
            refine ⟨1, v, A5, n5, c5, by omega, by go_num, hZ9, hS9.il hI5' (fun hz a ha => by have := hN5 hz a ha; omega), hS9.far hX5 (by omega) hg0, hS9.far hR5 (by omega) hg0, ?_, hS9.later hX5.later hg0, by simp [Hid]⟩
            exact hS9.far hfn5 (by omega) (by omega)
          case measure => simp [intOf]
        · have hb : (ec != (0 : Int)) = true := by simpa using hec
          rw [if_neg hec] at hC
          go_wp2_with (refine wpList_store_blk hR5 row_draft rfl rfl rfl rfl rfl rfl (by kernel_rfl) ?_; intro w9 hR9 hS9; go_simp)
          rw [hC.out]
          exact bodyPost_ret (results_ct hR9 row_draft rfl Tryz.results70 rfl rfl) rfl ⟨none, 0, 0, none, 0, 0, rfl, IL.nil _, IL.nil _, hS9.below hR5.later (by omega), none_newer _, none_newer _⟩
      · have hi1 : i = 1 := by omega
        subst hi1
        have hYv : Y = v ∧ ec = 0 := by simpa [Hid] using hY
        obtain ⟨rfl, rfl⟩ := hYv
        clear hY hdo
        rw [if_pos rfl] at hC
        obtain ⟨m1, m2⟩ := hV trivial rfl
        have hlY := hI.len
        have hfr := Lib.hid (fun W (hW : IL W A n c Y.l) => show Calls Tryz.prog 29 #[.agg #[.bool Y.neg, .slice A n c, .int .i64 Y.s], .int .i64 y.r.n.mi, .int .i64 y.r.n.mf] W (RDE W (fromS Y y.r.n.mi y.r.n.mf).1 (fromS Y y.r.n.mi y.r.n.mf).2) from
          dfrom_any Y.neg Y.s _ _ W hW (may_bd m1).1 (by omega) (may_bd m1).2 (by omega) (by omega))
        generalize fromS Y y.r.n.mi y.r.n.mf = G at *
        obtain ⟨G, eg⟩ := G
        subst_vars
        simp only at hfr
        have q0 : wr.cell? ⟨w.heap.size, 13, none⟩ = some (.int .i64 y.r.n.mi) := hX.cell 13
        have q1 : wr.cell? ⟨w.heap.size, 14, none⟩ = some (.int .i64 y.r.n.mf) := hX.cell 14
        go_wp2_with (refine wpList_load_blk hZ row_dec rfl rfl rfl rfl ?_; go_simp)
        refine (hfr.out _ hI).mono ?_
        rintro e w7 ⟨A7, n7, c7, E7, m7, q7, rfl, hI7, hJ7, hB7, hN7, hM7⟩
        have hR7 := hR.call hB7
        have hlR := hR.lt
        have hlw : w.heap.size ≤ wr.heap.size := hR.later.size
        go_wp2_with (refine wpList_store_blk hR7 row_draft rfl rfl rfl rfl rfl rfl (by kernel_rfl) ?_; intro w9 hR9 hS9; go_simp)
        exact bodyPost_ret (results_ct hR9 row_draft rfl Tryz.results70 rfl rfl) rfl ⟨A7, n7, c7, E7, m7, q7, rfl, hS9.il hI7 (fun hz a ha => by have := hN7 hz a ha; omega), hS9.il hJ7 (fun hz a ha => by have := hM7 hz a ha; omega), hS9.below hR7.later (by omega), fun hz a ha => by have := hN7 hz a ha; omega, fun hz a ha => by have := hM7 hz a ha; omega⟩
set_option maxRecDepth 100000 in
set_option maxHeartbeats 4000000 in
theorem changed_step (y : RuV) (d : Dr) {A E : Option Addr} {n c m q : Nat} (p p2 : Addr) (V : Dc × Int) {wf : World} {gf : Nat} {tf : TypeId} (w : World)
    (hd : IL w A n c d.int) (hf : IL w E m q d.frac) (id : I64 d.int) (jf : I64 d.frac) (nd : n ≤ 10000) (nf : m ≤ 10000) (hmi : 0 ≤ y.r.n.mi ∧ y.r.n.mi ≤ 64) (hmf : 0 ≤ y.r.n.mf ∧ y.r.n.mf ≤ 64)
    (hV : mayD d.neg d.int d.sep d.frac = true → V.2 = 0 → mayDc V.1 = true ∧ V.1.l.length ≤ 10000) (hfn : Blk wf gf tf #[.func (.func 75) #[] #[.pointer (some p), .pointer (some p2)]] w)
    (hdo : ∀ (A : Option Addr) (n c : Nat) W, Later w W → mayD d.neg d.int d.sep d.frac = true → IL W A n c (decD d).l → Calls Tryz.prog 75 #[.agg #[.bool (decD d).neg, .slice A n c, .int .i64 (decD d).s], .pointer (some p), .pointer (some p2)] W (RCE W V.1 V.2)) :
    Calls Tryz.prog 70 #[.agg y.cs, .agg #[.bool d.neg, .slice A n c, .bool d.sep, .slice E m q], .slice (some ⟨gf, 0, none⟩) 1 1] w (RDE w (changedS V y.r d).1 (changedS V y.r d).2) := by
  have hC : Hid (changedS V y.r d = if mayD d.neg d.int d.sep d.frac then (if V.2 = 0 then fromS V.1 y.r.n.mi y.r.n.mf else (Dr.none, V.2)) else (Dr.none, 1)) := rfl
  have hmy := Lib.hid (fun W (h1 : IL W A n c d.int) (h2 : IL W E m q d.frac) => show Calls Tryz.prog 107 #[.agg #[.bool d.neg, .slice A n c, .bool d.sep, .slice E m q]] W (RV W (.bool (mayD d.neg d.int d.sep d.frac))) from dmay_any d.neg d.sep W h1 h2 id jf)
  have hde := Lib.hid (fun W (h1 : IL W A n c d.int) (h2 : IL W E m q d.frac) => show Calls Tryz.prog 65 #[.agg #[.bool d.neg, .slice A n c, .bool d.sep, .slice E m q]] W (RC W (decD d)) from ddec_any d.neg d.sep W h1 h2 id jf nd nf)
  have hdo := Lib.hid hdo
  generalize changedS V y.r d = R at *
  generalize decD d = X at *
  generalize mayD d.neg d.int d.sep d.frac = may at *
  have hX := ((Blk.made w w 32 y.cs (Later.refl w) _ rfl).alloc (.cells #[.bool d.neg, .slice A n c, .bool d.sep, .slice E m q] 70)).alloc (.cells #[.bool false, .slice none 0 0, .bool false, .slice none 0 0] 70)
  have hD := (Blk.made w (w.alloc (.cells y.cs 32)) 70 #[.bool d.neg, .slice A n c, .bool d.sep, .slice E m q] ((Later.refl w).alloc _) (w.heap.size + 1) (by simp)).alloc (.cells #[.bool false, .slice none 0 0, .bool false, .slice none 0 0] 70)
  have hR := Blk.made w ((w.alloc (.cells y.cs 32)).alloc (.cells #[.bool d.neg, .slice A n c, .bool d.sep, .slice E m q] 70)) 70 #[.bool false, .slice none 0 0, .bool false, .slice none 0 0] (((Later.refl w).alloc _).alloc _) (w.heap.size + 2) (by simp)
  go_enter Tryz.func70, Tryz.ntmps70
  go_upto_region 1 with fail
  generalize World.alloc (World.alloc (World.alloc w _) _) _ = w1 at *
  go_wp2_with (refine wpList_load_blk hD row_draft rfl rfl rfl rfl ?_; go_simp)
  refine (hmy.out _ (hd.later hD.later) (hf.later hD.later)).mono ?_
  rintro e w2 ⟨rfl, hB2⟩
  have hX2 := hX.call hB2
  have hD2 := hD.call hB2
  have hR2 := hR.call hB2
  clear hX hD hR hmy
  cases may
  · rw [if_neg (by simp)] at hC
    go_wp2_with (refine wpList_store_blk hR2 row_draft rfl rfl rfl rfl rfl rfl (by kernel_rfl) ?_; intro w9 hR9 hS9; go_simp)
    rw [hC.out]
    exact bodyPost_ret (results_ct hR9 row_draft rfl Tryz.results70 rfl rfl) rfl ⟨none, 0, 0, none, 0, 0, rfl, IL.nil _, IL.nil _, hS9.below hR2.later (by omega), none_newer _, none_newer _⟩
  · rw [if_pos rfl] at hC
    go_wp2_with (refine wpList_load_blk hD2 row_draft rfl rfl rfl rfl ?_; go_simp)
    refine (hde.out _ (hd.later hD2.later) (hf.later hD2.later)).mono ?_
    rintro e w3 ⟨A3, n3, c3, rfl, hI3, hB3, hN3⟩
    have hZ := Blk.made w w3 29 (#[.bool X.neg, .slice A3 n3 c3, .int .i64 X.s]) (hR2.call hB3).later _ rfl
    have hX3 := (hX2.call hB3).alloc (.cells (#[.bool X.neg, .slice A3 n3 c3, .int .i64 X.s]) 29)
    have hR3 := (hR2.call hB3).alloc (.cells (#[.bool X.neg, .slice A3 n3 c3, .int .i64 X.s]) 29)
    have hI3' := hI3.alloc (.cells (#[.bool X.neg, .slice A3 n3 c3, .int .i64 X.s]) 29)
    have hfn3 := (hfn.call hR2.later).call hB3 |>.alloc (.cells (#[.bool X.neg, .slice A3 n3 c3, .int .i64 X.s]) 29)
    have hl2 := hR2.lt
    have hl3 : w.heap.size ≤ w2.heap.size := hR2.later.size
    clear hde hX2 hD2 hR2 hI3
    obtain ⟨v, ec⟩ := V
    simp only at hC hV hdo
    go_upto_region 4 with fail
    have hgz : w.heap.size + 2 < w3.heap.size := by have := hB3.size; omega
    have hgf : gf < w.heap.size := hfn.lt
    have hwg : wf.heap.size ≤ gf := hfn.1
    generalize World.alloc w3 _ = w4 at *
    generalize w3.heap.size = gz at *
    go_wp2_with fail
    go_loopw [21] (fun s wr => ∃ (i : Nat) (Y : Dc) (A : Option Addr) (n c : Nat), i ≤ 1 ∧ s = .int .i64 i ∧ Blk w gz 29 #[.bool Y.neg, .slice A n c, .int .i64 Y.s] wr ∧ IL wr A n c Y.l ∧ Blk w w.heap.size 32 y.cs wr ∧ Blk w (w.heap.size + 2) 70 #[.bool false, .slice none 0 0, .bool false, .slice none 0 0] wr ∧ Blk wf gf tf #[.func (.func 75) #[] #[.pointer (some p), .pointer (some p2)]] wr ∧ Later w wr ∧ Hid (if 0 < i then Y = v ∧ ec = 0 else Y = X)) (fun s _ => 1 - (intOf s).toNat)
    case atStart => exact ⟨0, X, A3, n3, c3, by omega, rfl, hZ, hI3', hX3, hR3, hfn3, hR3.later, rfl⟩
    case round =>
      clear hX3 hR3 hI3' hfn3 hZ hfn
      obtain ⟨i, Y, A, n, c, hi, rfl, hZ, hI, hX, hR, hfn, hL, hY⟩ := hrel
      by_cases hlt : i < 1
      · have hi0 : i = 0 := by omega
        subst hi0
        have hYX : Y = X := by simpa [Hid] using hY
        subst hYX
        clear hY
        have f0 : wr.cell? ⟨gf, 0, none⟩ = some (.func (.func 75) #[] #[.pointer (some p), .pointer (some p2)]) := hfn.cell 0
        go_upto_region 7 with fail
        clear f0
        go_wp2_with (refine wpList_load_blk hZ row_dec rfl rfl rfl rfl ?_; go_simp)
        refine (hdo.out _ _ _ _ hL trivial hI).mono ?_
        rintro e w5 ⟨A5, n5, c5, rfl, hI5, hB5, hN5⟩
        have hT := Blk.made w w5 29 (#[.bool v.neg, .slice A5 n5 c5, .int .i64 v.s]) (hR.call hB5).later _ rfl
        have hX5 := (hX.call hB5).alloc (.cells (#[.bool v.neg, .slice A5 n5 c5, .int .i64 v.s]) 29)
        have hR5 := (hR.call hB5).alloc (.cells (#[.bool v.neg, .slice A5 n5 c5, .int .i64 v.s]) 29)
        have hZ5 := (hZ.call hB5).alloc (.cells (#[.bool v.neg, .slice A5 n5 c5, .int .i64 v.s]) 29)
        have hI5' := hI5.alloc (.cells (#[.bool v.neg, .slice A5 n5 c5, .int .i64 v.s]) 29)
        have hfn5 := (hfn.call hB5).alloc (.cells (#[.bool v.neg, .slice A5 n5 c5, .int .i64 v.s]) 29)
        have hlZ := hZ.lt
        have hlf := hfn.lt
        have hlR := hR.lt
        have hlX := hX.lt
        clear hX hR hZ hI5 hfn
        go_upto_region 8 with fail
        generalize World.alloc w5 _ = w6 at *
        by_cases hec : ec = 0
        · subst hec
          go_wp2_with (first | (refine wpList_load_blk hT row_dec rfl rfl rfl rfl ?_; go_simp) | (refine wpList_store_blk hZ5 row_dec rfl rfl rfl rfl rfl rfl (by kernel_rfl) ?_; intro w9 hZ9 hS9; go_simp))
          go_roundw
          case rel =>
            have hg0 : w.heap.size ≤ gz := hZ5.1
            refine ⟨1, v, A5, n5, c5, by omega, by go_num, hZ9, hS9.il hI5' (fun hz a ha => by have := hN5 hz a ha; omega), hS9.far hX5 (by omega) hg0, hS9.far hR5 (by omega) hg0, ?_, hS9.later hX5.later hg0, by simp [Hid]⟩
            exact hS9.far hfn5 (by omega) (by omega)
          case measure => simp [intOf]
        · have hb : (ec != (0 : Int)) = true := by simpa using hec
          rw [if_neg hec] at hC
          go_wp2_with (refine wpList_store_blk hR5 row_draft rfl rfl rfl rfl rfl rfl (by kernel_rfl) ?_; intro w9 hR9 hS9; go_simp)
          rw [hC.out]
          exact bodyPost_ret (results_ct hR9 row_draft rfl Tryz.results70 rfl rfl) rfl ⟨none, 0, 0, none, 0, 0, rfl, IL.nil _, IL.nil _, hS9.below hR5.later (by omega), none_newer _, none_newer _⟩
      · have hi1 : i = 1 := by omega
        subst hi1
        have hYv : Y = v ∧ ec = 0 := by simpa [Hid] using hY
        obtain ⟨rfl, rfl⟩ := hYv
        clear hY hdo
        rw [if_pos rfl] at hC
        obtain ⟨m1, m2⟩ := hV trivial rfl
        have hlY := hI.len
        have hfr := Lib.hid (fun W (hW : IL W A n c Y.l) => show Calls Tryz.prog 29 #[.agg #[.bool Y.neg, .slice A n c, .int .i64 Y.s], .int .i64 y.r.n.mi, .int .i64 y.r.n.mf] W (RDE W (fromS Y y.r.n.mi y.r.n.mf).1 (fromS Y y.r.n.mi y.r.n.mf).2) from
          dfrom_any Y.neg Y.s _ _ W hW (may_bd m1).1 (by omega) (may_bd m1).2 (by omega) (by omega))
        generalize fromS Y y.r.n.mi y.r.n.mf = G at *
        obtain ⟨G, eg⟩ := G
        subst_vars
        simp only at hfr
        have q0 : wr.cell? ⟨w.heap.size, 13, none⟩ = some (.int .i64 y.r.n.mi) := hX.cell 13
        have q1 : wr.cell? ⟨w.heap.size, 14, none⟩ = some (.int .i64 y.r.n.mf) := hX.cell 14
        go_wp2_with (refine wpList_load_blk hZ row_dec rfl rfl rfl rfl ?_; go_simp)
        refine (hfr.out _ hI).mono ?_
        rintro e w7 ⟨A7, n7, c7, E7, m7, q7, rfl, hI7, hJ7, hB7, hN7, hM7⟩
        have hR7 := hR.call hB7
        have hlR := hR.lt
        have hlw : w.heap.size ≤ wr.heap.size := hR.later.size
        go_wp2_with (refine wpList_store_blk hR7 row_draft rfl rfl rfl rfl rfl rfl (by kernel_rfl) ?_; intro w9 hR9 hS9; go_simp)
        exact bodyPost_ret (results_ct hR9 row_draft rfl Tryz.results70 rfl rfl) rfl ⟨A7, n7, c7, E7, m7, q7, rfl, hS9.il hI7 (fun hz a ha => by have := hN7 hz a ha; omega), hS9.il hJ7 (fun hz a ha => by have := hM7 hz a ha; omega), hS9.below hR7.later (by omega), fun hz a ha => by have := hN7 hz a ha; omega, fun hz a ha => by have := hM7 hz a ha; omega⟩

end Go.Proofs.YtickhmlhciafgaaGreat


namespace Go.Proofs.YtickhmlhciafgaaGreat
open Go.RowKit
set_option linter.unusedVariables false

def DV.cs (x : DV) : Array Value := #[.bool x.b, .slice x.A x.n x.c, .bool x.p, .slice x.E x.m x.q]
def DV.new (x : DV) (B : Nat) : Prop := (0 < x.n → ∀ a, x.A = some a → B ≤ a.block) ∧ (0 < x.m → ∀ a, x.E = some a → B ≤ a.block)
def DV.off (x : DV) (b : Nat) : Prop := (0 < x.n → ∀ a, x.A = some a → a.block ≠ b) ∧ (0 < x.m → ∀ a, x.E = some a → a.block ≠ b)
theorem DV.new.off {x : DV} {B b : Nat} (h : x.new B) (hb : b < B) : x.off b := ⟨fun hz a ha => by have := h.1 hz a ha; omega, fun hz a ha => by have := h.2 hz a ha; omega⟩
theorem DV.new.mono {x : DV} {B b : Nat} (h : x.new B) (hb : b ≤ B) : x.new b := ⟨fun hz a ha => Nat.le_trans hb (h.1 hz a ha), fun hz a ha => Nat.le_trans hb (h.2 hz a ha)⟩
theorem DV.ok.off {x : DV} {W : World} (h : x.ok W) {b : Nat} (hb : W.heap.size ≤ b) : x.off b := ⟨h.1.apart hb, h.2.apart hb⟩
theorem DV.ok.sto {x : DV} {W W' : World} {b : Nat} (h : x.ok W) (hS : Sto W W' b) (ho : x.off b) : x.ok W' := ⟨hS.il h.1 ho.1, hS.il h.2 ho.2⟩
theorem DV.cs_inj {x y : DV} (h : x.cs = y.cs) (hd : x.d = y.d) : x = y := by
  obtain ⟨b, A, n, c, l, p, E, m, q, f⟩ := x
  obtain ⟨b', A', n', c', l', p', E', m', q', f'⟩ := y
  simp only [DV.cs, Array.mk.injEq, List.cons.injEq, Value.bool.injEq, Value.slice.injEq, and_true] at h
  simp only [DV.d, Dr.mk.injEq] at hd
  obtain ⟨rfl, ⟨rfl, rfl, rfl⟩, rfl, rfl, rfl, rfl⟩ := h
  obtain ⟨_, rfl, _, rfl⟩ := hd
  rfl
/-- A call that hands back a draft, in a shape. -/
def PK (K : DV → Value) (d : Dr) (w : World) (e : Ending) (w' : World) : Prop := ∃ y : DV, e = .returned (K y) ∧ Hid (y.d = d) ∧ y.ok w' ∧ Below w.heap.size w w' ∧ y.new w.heap.size
def kd (y : DV) : Value := .agg y.cs
def kde (code : Int) (y : DV) : Value := .tuple #[.agg y.cs, .int .i64 code]
theorem kd_inj {x y : DV} (h : kd x = kd y) : x.cs = y.cs := by simpa [kd] using h
theorem kde_inj {code : Int} {x y : DV} (h : kde code x = kde code y) : x.cs = y.cs := by simpa [kde] using h
theorem RDE.pk {w w' : World} {d : Dr} {code : Int} {e : Ending} (h : RDE w d code e w') : PK (kde code) d w e w' := by
  obtain ⟨A, n, c, E, m, k, he, h1, h2, hB, hN, hM⟩ := h
  exact ⟨⟨d.neg, A, n, c, d.int, d.sep, E, m, k, d.frac⟩, he, rfl, ⟨h1, h2⟩, hB, hN, hM⟩
theorem RDN.pk {w w' : World} {d : Dr} {e : Ending} (h : RDN w d e w') : PK kd d w e w' := by
  obtain ⟨A, n, c, E, m, k, he, h1, h2, hB, hN, hM⟩ := h
  exact ⟨⟨d.neg, A, n, c, d.int, d.sep, E, m, k, d.frac⟩, he, rfl, ⟨h1, h2⟩, hB, fun hz a ha => Nat.le_trans (Nat.le_add_right _ 2) (hN hz a ha), fun hz a ha => Nat.le_trans (Nat.le_add_right _ 2) (hM hz a ha)⟩

/-- A decimal's value. -/
structure NV where
  D : Dc
  A : Option Addr
  n : Nat
  c : Nat
def NV.cs (x : NV) : Array Value := #[.bool x.D.neg, .slice x.A x.n x.c, .int .i64 x.D.s]
def NV.ok (x : NV) (W : World) : Prop := IL W x.A x.n x.c x.D.l
def NV.new (x : NV) (B : Nat) : Prop := 0 < x.n → ∀ a, x.A = some a → B ≤ a.block
def NV.off (x : NV) (b : Nat) : Prop := 0 < x.n → ∀ a, x.A = some a → a.block ≠ b
theorem NV.new.off {x : NV} {B b : Nat} (h : x.new B) (hb : b < B) : x.off b := fun hz a ha => by have := h hz a ha; omega
theorem NV.ok.later {x : NV} {W W' : World} (h : x.ok W) (hb : Later W W') : x.ok W' := IL.later h hb
theorem NV.ok.below {x : NV} {W W' : World} (h : x.ok W) (hb : Below W.heap.size W W') : x.ok W' := IL.below h hb
theorem NV.ok.alloc {x : NV} {W : World} (h : x.ok W) (o : Obj) : x.ok (W.alloc o) := IL.alloc h o
theorem NV.ok.off {x : NV} {W : World} (h : x.ok W) {b : Nat} (hb : W.heap.size ≤ b) : x.off b := IL.apart h hb
theorem NV.ok.sto {x : NV} {W W' : World} {b : Nat} (h : x.ok W) (hS : Sto W W' b) (ho : x.off b) : x.ok W' := hS.il h ho
theorem NV.cs_inj {x y : NV} (h : x.cs = y.cs) (hd : x.D = y.D) : x = y := by
  obtain ⟨D, A, n, c⟩ := x
  obtain ⟨D', A', n', c'⟩ := y
  simp only at hd
  subst hd
  simp only [NV.cs, Array.mk.injEq, List.cons.injEq, Value.slice.injEq, and_true, true_and] at h
  obtain ⟨rfl, rfl, rfl⟩ := h
  rfl
def PQ (K : NV → Value) (D : Dc) (w : World) (e : Ending) (w' : World) : Prop := ∃ y : NV, e = .returned (K y) ∧ Hid (y.D = D) ∧ y.ok w' ∧ Below w.heap.size w w' ∧ y.new w.heap.size
def kc (y : NV) : Value := .agg y.cs
def kce (code : Int) (y : NV) : Value := .tuple #[.agg y.cs, .int .i64 code]
theorem kc_inj {x y : NV} (h : kc x = kc y) : x.cs = y.cs := by simpa [kc] using h
theorem kce_inj {code : Int} {x y : NV} (h : kce code x = kce code y) : x.cs = y.cs := by simpa [kce] using h
theorem RC.pq {w w' : World} {d : Dc} {e : Ending} (h : RC w d e w') : PQ kc d w e w' := by
  obtain ⟨A, n, c, he, h1, hB, hN⟩ := h
  exact ⟨⟨d, A, n, c⟩, he, rfl, h1, hB, hN⟩
theorem RCE.pq {w w' : World} {d : Dc} {code : Int} {e : Ending} (h : RCE w d code e w') : PQ (kce code) d w e w' := by
  obtain ⟨A, n, c, he, h1, hB, hN⟩ := h
  exact ⟨⟨d, A, n, c⟩, he, rfl, h1, hB, hN⟩

/-- What a call hands back, what holds of it while memory grows, and where its lists are not. -/
structure UpR (R : World → Ending → World → Prop) (V : Value → Prop) (F : Value → World → Prop) (ap : Value → Nat → Prop) : Prop where
  up : ∀ W e W', R W e W' → ∃ u, e = .returned u ∧ V u ∧ F u W' ∧ Below W.heap.size W W' ∧ ∀ b, b < W.heap.size → ap u b
  f1 : ∀ u W W', F u W → Below W.heap.size W W' → F u W'
  f2 : ∀ u W W' b, F u W → Sto W W' b → ap u b → F u W'
  f4 : ∀ u W b, F u W → W.heap.size ≤ b → ap u b
def VD (K : DV → Value) (d : Dr) (u : Value) : Prop := ∃ y, u = K y ∧ Hid (y.d = d)
def FD (K : DV → Value) (d : Dr) (u : Value) (W : World) : Prop := ∀ y, u = K y → y.d = d → y.ok W
def AD (K : DV → Value) (d : Dr) (u : Value) (b : Nat) : Prop := ∀ y, u = K y → y.d = d → y.off b
theorem upD {K : DV → Value} (hK : ∀ {x y}, K x = K y → x.cs = y.cs) (d : Dr) : UpR (PK K d) (VD K d) (FD K d) (AD K d) where
  up W e W' h := by
    obtain ⟨y, he, hy, hok, hB, hN⟩ := h
    have key : ∀ y', K y = K y' → y'.d = d → y' = y := fun y' h1 h2 => DV.cs_inj (hK h1.symm) (h2.trans (Hid.out hy).symm)
    exact ⟨K y, he, ⟨y, rfl, hy⟩, fun y' h1 h2 => by rw [key y' h1 h2]; exact hok, hB, fun b hb y' h1 h2 => by rw [key y' h1 h2]; exact hN.off hb⟩
  f1 _ _ _ h hb := fun y h1 h2 => (h y h1 h2).below hb
  f2 _ _ _ _ h hs ha := fun y h1 h2 => (h y h1 h2).sto hs (ha y h1 h2)
  f4 _ _ _ h hb := fun y h1 h2 => (h y h1 h2).off hb
def VQ (K : NV → Value) (d : Dc) (u : Value) : Prop := ∃ y, u = K y ∧ Hid (y.D = d)
def FQ (K : NV → Value) (d : Dc) (u : Value) (W : World) : Prop := ∀ y, u = K y → y.D = d → y.ok W
def AQ (K : NV → Value) (d : Dc) (u : Value) (b : Nat) : Prop := ∀ y, u = K y → y.D = d → y.off b
theorem upQ {K : NV → Value} (hK : ∀ {x y}, K x = K y → x.cs = y.cs) (d : Dc) : UpR (PQ K d) (VQ K d) (FQ K d) (AQ K d) where
  up W e W' h := by
    obtain ⟨y, he, hy, hok, hB, hN⟩ := h
    have key : ∀ y', K y = K y' → y'.D = d → y' = y := fun y' h1 h2 => NV.cs_inj (hK h1.symm) (h2.trans (Hid.out hy).symm)
    exact ⟨K y, he, ⟨y, rfl, hy⟩, fun y' h1 h2 => by rw [key y' h1 h2]; exact hok, hB, fun b hb y' h1 h2 => by rw [key y' h1 h2]; exact hN.off hb⟩
  f1 _ _ _ h hb := fun y h1 h2 => (h y h1 h2).below hb
  f2 _ _ _ _ h hs ha := fun y h1 h2 => (h y h1 h2).sto hs (ha y h1 h2)
  f4 _ _ _ h hb := fun y h1 h2 => (h y h1 h2).off hb

section
variable {P : Program} {ops : Array Oper} {rest : List Oper} {op : Oper} {a : Act} {w w0 : World} {Q : Exit → Act → World → Prop} {g o n : Nat} {t : TypeId} {cs : Array Value}
/-- The load of a struct, under a guard that holds. -/
theorem wpList_load_partg {l : List Value} (hR : w.rangeAt g o l) {ty : TypeId} (hT : RowT P ty n) (hn : l.length = n) {x : Operand} (hw : Region.wanted op (yielded ops a.tmps) = true) (ho : op.op = .load ty x) (hx : a.eval x = .pointer (some ⟨g, o, none⟩))
    (h : wpList P ops Q rest (a.put op.dst (.agg l.toArray)) w) : wpList P ops Q (op :: rest) a w := by
  obtain ⟨h1, h2⟩ := hT
  cases hu : P.underlying ty with
  | none => simp [hu] at h1
  | some d =>
    rw [hu] at h1
    rw [wpList, if_pos hw]
    exact .inl (wp_load_mid ty x ho g o hx l d hR hu (by simpa using h1) (by rw [h2, hn]) h)
theorem wpList_load_blkg (hB : Blk w0 g t cs w) {ty : TypeId} (hT : RowT P ty n) (hn : cs.size = n) {x : Operand} (hw : Region.wanted op (yielded ops a.tmps) = true) (ho : op.op = .load ty x) (hx : a.eval x = .pointer (some ⟨g, 0, none⟩))
    (h : wpList P ops Q rest (a.put op.dst (.agg cs)) w) : wpList P ops Q (op :: rest) a w :=
  wpList_load_partg hB.range hT (by simpa using hn) hw ho hx (by simpa using h)
end
section
variable {P : Program} {w w0 : World} {m k i : Nat} {isc : Nat → Bool} {Q : Inv w → Act → Prop} {I : Inv w} {a : Act} {o : Oper} {rest : List Oper} {R : World → Ending → World → Prop} {V : Value → Prop} {F : Value → World → Prop} {ap : Value → Nat → Prop}
def callUponR (P : Program) (R : World → Ending → World → Prop) (W : World) : Result Next → Prop
  | .ok (.enter f args) w' => w' = W ∧ Calls P f args W (R W)
  | _ => False
def Inv.up (I : Inv w) (U : UpR R V F ap) (u : Value) : Inv w := I.and (F u) (ap u) (U.f1 u) (U.f2 u) (U.f4 u)
theorem wpQM_nil (h : Q I a) : wpQM P w m k isc Q I i [] a := h
theorem wpQM_call (U : UpR R V F ap) (hi : isc i = true) (h1 : ∀ W, I.C W → callUponR P R W ((execOp a.eval o).run P W)) (h2 : ∀ u, V u → wpQM P w m k isc Q (I.up U u) (i + 1) rest (a.put o.dst u)) : wpQM P w m k isc Q I i (o :: rest) a := by
  simp only [wpQM]
  rw [if_pos hi]
  refine ⟨V, I.up U, fun u W hu h => h.1, fun W hW => ?_, h2⟩
  have h3 := h1 W hW
  generalize (execOp a.eval o).run P W = r at h3 ⊢
  cases r with
  | halt x W' => simp only [callUponR] at h3
  | ok nx W' =>
    cases nx <;> simp only [callUponR] at h3
    case enter f args =>
      refine ⟨h3.1, h3.2.mono fun e W' he => ?_⟩
      obtain ⟨u, e1, e2, e3, e4, e5⟩ := U.up W e W' he
      exact ⟨u, e1, e2, ⟨I.f1 _ _ hW e4, e3⟩, e4, fun b hb hI => ⟨hI, e5 b hb⟩⟩
theorem wpQM_pass (hi : isc i = false ∧ (i = m ∨ i = k)) (h : wpQM P w m k isc Q I (i + 1) rest a) : wpQM P w m k isc Q I i (o :: rest) a := by
  simp only [wpQM]; rw [if_neg (by rw [hi.1]; exact Bool.false_ne_true), if_pos hi.2]; exact h
theorem wpQM_step (hi : isc i = false ∧ ¬ (i = m ∨ i = k))
    (h : ∀ K : Act → Prop, (∀ a, wpQM P w m k isc Q I (i + 1) rest a → K a) → ∃ v, (∀ W, I.C W → Oper.quietUpon P (fun W' => Below W.heap.size W W') W v ((execOp a.eval o).run P W)) ∧ K (a.put o.dst v)) : wpQM P w m k isc Q I i (o :: rest) a := by
  simp only [wpQM]; rw [if_neg (by rw [hi.1]; exact Bool.false_ne_true), if_neg hi.2]; exact h _ (fun _ h => h)
theorem QM_load {g : Nat} {tt tl : TypeId} {cs : Array Value} {nl : Nat} (hB : Blk w0 g tt cs w) (off : Nat) (lst : List Value) (hl : (cs.toList.drop off).take lst.length = lst) (hTl : RowT P tl nl) (hi : isc i = false ∧ ¬ (i = m ∨ i = k)) (hnl : lst.length = nl) {x : Operand} (ho : o.op = .load tl x) (hx : a.eval x = .pointer (some ⟨g, off, none⟩))
    (h : wpQM P w m k isc Q I (i + 1) rest (a.put o.dst (.agg lst.toArray))) : wpQM P w m k isc Q I i (o :: rest) a := by
  obtain ⟨h1, h2⟩ := hTl
  cases hu : P.underlying tl with
  | none => simp [hu] at h1
  | some d =>
    rw [hu] at h1
    refine wpQM_step hi fun K hK => ⟨.agg lst.toArray, fun W hW => ?_, hK _ h⟩
    have hR := (hB.call (I.later hW)).part off lst hl
    unfold execOp
    simp only [ho, hx, Instr.loadAt, Instr.sureAddr, Sem.run_bind, Sem.run_pure, Result.andThen_ok, run_loadVar_mid W g off tl lst d hR hu (by simpa using h1) (by rw [h2, hnl])]
    exact ⟨rfl, rfl⟩
theorem QM_loadb {g : Nat} {tt tl : TypeId} {cs : Array Value} {nl : Nat} (hB : Blk w0 g tt cs w) (hTl : RowT P tl nl) (hi : isc i = false ∧ ¬ (i = m ∨ i = k)) (hnl : cs.size = nl) {x : Operand} (ho : o.op = .load tl x) (hx : a.eval x = .pointer (some ⟨g, 0, none⟩))
    (h : wpQM P w m k isc Q I (i + 1) rest (a.put o.dst (.agg cs))) : wpQM P w m k isc Q I i (o :: rest) a :=
  QM_load hB 0 cs.toList (by rw [List.drop_zero, List.take_length]) hTl hi (by simpa using hnl) ho hx (by simpa using h)
theorem wpFree_nil {isf : Nat → Bool} {Q : Act → Prop} (h : Q a) : wpFree P w isf Q i [] a := h
theorem wpFree_pass {isf : Nat → Bool} {Q : Act → Prop} (hi : isf i = false) (h : wpFree P w isf Q (i + 1) rest a) : wpFree P w isf Q i (o :: rest) a := by
  simp only [wpFree]; rw [hi, if_neg Bool.false_ne_true]; exact h
theorem wpFree_step {isf : Nat → Bool} {Q : Act → Prop} (hi : isf i = true)
    (h : ∀ K : Act → Prop, (∀ a, wpFree P w isf Q (i + 1) rest a → K a) → ∃ v, (∀ W, Later w W → Oper.quietUpon P (fun W' => Below W.heap.size W W') W v ((execOp a.eval o).run P W)) ∧ K (a.put o.dst v)) : wpFree P w isf Q i (o :: rest) a := by
  simp only [wpFree]; rw [if_pos hi]; exact h _ (fun _ h => h)
theorem wpQN_nil {isf : Nat → Bool} (h : Q I a) : wpQN P w isf isc Q I i [] a := h
theorem wpQN_pass {isf : Nat → Bool} (hi : isf i = true) (h : wpQN P w isf isc Q I (i + 1) rest a) : wpQN P w isf isc Q I i (o :: rest) a := by
  simp only [wpQN]; rw [if_pos hi]; exact h
theorem wpQN_step {isf : Nat → Bool} (hi : isf i = false ∧ isc i = false)
    (h : ∀ K : Act → Prop, (∀ a, wpQN P w isf isc Q I (i + 1) rest a → K a) → ∃ v, (∀ W, I.C W → Oper.quietUpon P (fun W' => Below W.heap.size W W') W v ((execOp a.eval o).run P W)) ∧ K (a.put o.dst v)) : wpQN P w isf isc Q I i (o :: rest) a := by
  simp only [wpQN]; rw [if_neg (by rw [hi.1]; exact Bool.false_ne_true), if_neg (by rw [hi.2]; exact Bool.false_ne_true)]; exact h _ (fun _ h => h)
theorem wpQN_call {isf : Nat → Bool} (U : UpR R V F ap) (hi : isf i = false ∧ isc i = true) (h1 : ∀ W, I.C W → callUponR P R W ((execOp a.eval o).run P W)) (h2 : ∀ u, V u → wpQN P w isf isc Q (I.up U u) (i + 1) rest (a.put o.dst u)) : wpQN P w isf isc Q I i (o :: rest) a := by
  simp only [wpQN]
  rw [if_neg (by rw [hi.1]; exact Bool.false_ne_true), if_pos hi.2]
  refine ⟨V, I.up U, fun u W hu h => h.1, fun W hW => ?_, h2⟩
  have h3 := h1 W hW
  generalize (execOp a.eval o).run P W = r at h3 ⊢
  cases r with
  | halt x W' => simp only [callUponR] at h3
  | ok nx W' =>
    cases nx <;> simp only [callUponR] at h3
    case enter f args =>
      refine ⟨h3.1, h3.2.mono fun e W' he => ?_⟩
      obtain ⟨u, e1, e2, e3, e4, e5⟩ := U.up W e W' he
      exact ⟨u, e1, e2, ⟨I.f1 _ _ hW e4, e3⟩, e4, fun b hb hI => ⟨hI, e5 b hb⟩⟩
theorem QN_load {isf : Nat → Bool} {g : Nat} {tt tl : TypeId} {cs : Array Value} {nl : Nat} (hB : Blk w0 g tt cs w) (off : Nat) (lst : List Value) (hl : (cs.toList.drop off).take lst.length = lst) (hTl : RowT P tl nl) (hi : isf i = false ∧ isc i = false) (hnl : lst.length = nl) {x : Operand} (ho : o.op = .load tl x) (hx : a.eval x = .pointer (some ⟨g, off, none⟩))
    (h : wpQN P w isf isc Q I (i + 1) rest (a.put o.dst (.agg lst.toArray))) : wpQN P w isf isc Q I i (o :: rest) a := by
  obtain ⟨h1, h2⟩ := hTl
  cases hu : P.underlying tl with
  | none => simp [hu] at h1
  | some d =>
    rw [hu] at h1
    refine wpQN_step hi fun K hK => ⟨.agg lst.toArray, fun W hW => ?_, hK _ h⟩
    have hR := (hB.call (I.later hW)).part off lst hl
    unfold execOp
    simp only [ho, hx, Instr.loadAt, Instr.sureAddr, Sem.run_bind, Sem.run_pure, Result.andThen_ok, run_loadVar_mid W g off tl lst d hR hu (by simpa using h1) (by rw [h2, hnl])]
    exact ⟨rfl, rfl⟩
theorem QN_loadb {isf : Nat → Bool} {g : Nat} {tt tl : TypeId} {cs : Array Value} {nl : Nat} (hB : Blk w0 g tt cs w) (hTl : RowT P tl nl) (hi : isf i = false ∧ isc i = false) (hnl : cs.size = nl) {x : Operand} (ho : o.op = .load tl x) (hx : a.eval x = .pointer (some ⟨g, 0, none⟩))
    (h : wpQN P w isf isc Q I (i + 1) rest (a.put o.dst (.agg cs))) : wpQN P w isf isc Q I i (o :: rest) a :=
  QN_load hB 0 cs.toList (by rw [List.drop_zero, List.take_length]) hTl hi (by simpa using hnl) ho hx (by simpa using h)
end
section
variable {P : Program} {ops : Array Oper} {S : World → Prop} {Q : Exit → Act → World → Prop} {md : Region.Mode} {fuel : Nat} {listed : Array Bool} {a : Act} {w w0 : World} {op : Oper} {g n : Nat} {t : TypeId} {cs : Array Value}
/-- In a region that draws its order: what may be taken first; what comes alone; a struct's load and store. -/
theorem wpAnyH_one {i : Nat} (hr : Region.ready md ops listed = [i]) (ho : ops[i]? = some op) (hw : Region.wanted op (yielded ops a.tmps) = true)
    (h : ∀ K : Act → World → Prop, Shut (∀ a w, S w → wpAnyH P md ops Q S fuel (listed.setIfInBounds i true) a w → K a w) → op.wp P a w K Q) : wpAnyH P md ops Q S (fuel + 1) listed a w :=
  wpAnyH_ready hr (by simp) (AllReadyH.cons ho (fun K hK => by rw [if_pos hw]; exact h K (fun a w h1 h2 => hK.out a w h1 (fun _ => h2))) AllReadyH.nil)
theorem yieldsIf_blk {tl : TypeId} (hS : ∀ W, S W → Blk w0 g t cs W) (hT : RowT P tl n) (hn : cs.size = n) (hw : Region.wanted op (yielded ops a.tmps) = true) {x : Operand} (ho : op.op = .load tl x) (hx : a.eval x = .pointer (some ⟨g, 0, none⟩)) : YieldsIf P ops S op (.agg cs) a := by
  obtain ⟨h1, h2⟩ := hT
  cases hu : P.underlying tl with
  | none => simp [hu] at h1
  | some d =>
    rw [hu] at h1
    have := yieldsIf_load_mid (S := S) hw tl x ho g 0 hx cs.toList d (fun W hW => (hS W hW).range) hu (by simpa using h1) (by rw [h2, ← hn]; simp)
    simpa using this
theorem wp_store_blk (hB : Blk w0 g t cs w) {ty : TypeId} (hT : RowT P ty n) {K : Act → World → Prop} {x y : Operand} {us : Array Value} (ho : op.op = .store ty x y) (hx : a.eval x = .pointer (some ⟨g, 0, none⟩)) (hy : a.eval y = .agg us)
    (hs : us.size = n) (hc : cs.size = n) (h1 : us.all (·.oneCell') = true)
    (h : ∀ W, Blk w0 g t us W → Sto w W g → K (a.put op.dst undef) W) : op.wp P a w K Q :=
  wp_store_mid ty x y ho g 0 us hx hy (hB.there 0 us.size (by omega)) (by rw [hT.size, hs]) h1 (h _ (hB.stored us (by omega)) (Sto.cells g _ 0 w))
end

end Go.Proofs.YtickhmlhciafgaaGreat

