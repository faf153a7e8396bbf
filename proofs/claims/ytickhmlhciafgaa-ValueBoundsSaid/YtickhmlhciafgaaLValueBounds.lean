/- A committed draft's number is within the bounds; one that is a value already stays that number: the walk. No condition. -/
import Derived.Test.YtickhmlhciafgaaMa35
namespace Go.Proofs.Ytickhmlhciafgaa
open Go.RowKit
set_option linter.unusedVariables false

set_option maxRecDepth 100000 in
set_option maxHeartbeats 4000000 in
theorem valueBounds_walk (w : World) (x : GV) (hx : x.ok w) (hb : x.Bd) (b1 p1 : Bool) {A1 : Option Addr} {n1 c1 : Nat} {l1 : List Int} {E1 : Option Addr} {m1 d1 : Nat} {k1 : List Int} (w1 : IL w A1 n1 c1 l1) (i1 : I64 l1) (x1 : IL w E1 m1 d1 k1) (j1 : I64 k1) :
    Calls Try.prog 6 #[.agg x.cs, .agg #[.bool b1, .slice A1 n1 c1, .bool p1, .slice E1 m1 d1]] w (RV w (.bool true)) := by
  obtain ⟨d, hd⟩ : ∃ d : DV, Hid (d = ⟨b1, A1, n1, c1, l1, p1, E1, m1, d1, k1⟩) := ⟨_, rfl⟩
  have hdo : d.ok w := by rw [hd.out]; exact ⟨w1, x1⟩
  have hdi : I64 d.l := by rw [hd.out]; exact i1
  have hdf : I64 d.f := by rw [hd.out]; exact j1
  have hcs : (#[.bool b1, .slice A1 n1 c1, .bool p1, .slice E1 m1 d1] : Array Value) = d.cs := by rw [hd.out]; rfl
  rw [hcs]
  clear hcs hd w1 x1 i1 j1
  have hgd := Lib.hid (fun W (hW : d.ok W) => vgood_any d 9 7 W hW hdi hdf (by omega) (by omega))
  have hg := goodD_ok d.d 9 7 (by omega) (by omega)
  generalize goodD d.d 9 7 = G at *
  have hbg := Lib.hid (fun W (h : x.ok W) => begin20_any x W h hb)
  have hcok := goodG_ok x.g
  have hru := hcok.ruOk
  have hrb := hcok.ruBd
  clear hcok
  generalize (goodG x.g).ru = R at *
  have hB0 := ((Blk.made w w 28 x.cs (Later.refl w) _ rfl).alloc (.cells d.cs 61))
  have hB1 := (Blk.made w (w.alloc (.cells x.cs 28)) 61 d.cs ((Later.refl w).alloc _) (w.heap.size + 1) (by simp))
  go_enter Try.func6, Try.ntmps6
  go_upto_region 1 with fail
  generalize World.alloc (World.alloc w _) _ = w1 at *
  go_wp2_with (refine wpList_load_blk hB0 row_made13 rfl rfl rfl rfl ?_; go_simp)
  refine (hbg.out _ (hx.later hB0.later)).mono ?_
  rintro e w2 ⟨y, z, rfl, hyr, hzr, hyo, hzo, hB2⟩
  have hY0 := (Blk.made w w2 32 #[.bool false, .slice none 0 0, .int .i64 0, .bool false, .slice none 0 0, .int .i64 0, .bool false, .slice none 0 0, .int .i64 0, .bool false, .int .i64 0, .int .i64 0, .int .i64 0, .int .i64 0, .int .i64 0, .int .i64 0, .int .i64 0] (hB0.call hB2).later _ rfl).alloc (.cells #[.bool false, .slice none 0 0, .int .i64 0, .bool false, .slice none 0 0, .int .i64 0, .bool false, .slice none 0 0, .int .i64 0, .bool false, .int .i64 0, .int .i64 0, .int .i64 0, .int .i64 0, .int .i64 0, .int .i64 0, .int .i64 0] 44)
  have hZ0 := Blk.made w (w2.alloc (.cells #[.bool false, .slice none 0 0, .int .i64 0, .bool false, .slice none 0 0, .int .i64 0, .bool false, .slice none 0 0, .int .i64 0, .bool false, .int .i64 0, .int .i64 0, .int .i64 0, .int .i64 0, .int .i64 0, .int .i64 0, .int .i64 0] 32)) 44 #[.bool false, .slice none 0 0, .int .i64 0, .bool false, .slice none 0 0, .int .i64 0, .bool false, .slice none 0 0, .int .i64 0, .bool false, .int .i64 0, .int .i64 0, .int .i64 0, .int .i64 0, .int .i64 0, .int .i64 0, .int .i64 0] ((hB0.call hB2).later.alloc _) (w2.heap.size + 1) (by simp)
  have hB1a := ((hB1.call hB2).alloc (.cells #[.bool false, .slice none 0 0, .int .i64 0, .bool false, .slice none 0 0, .int .i64 0, .bool false, .slice none 0 0, .int .i64 0, .bool false, .int .i64 0, .int .i64 0, .int .i64 0, .int .i64 0, .int .i64 0, .int .i64 0, .int .i64 0] 32)).alloc (.cells #[.bool false, .slice none 0 0, .int .i64 0, .bool false, .slice none 0 0, .int .i64 0, .bool false, .slice none 0 0, .int .i64 0, .bool false, .int .i64 0, .int .i64 0, .int .i64 0, .int .i64 0, .int .i64 0, .int .i64 0, .int .i64 0] 44)
  have hB1l := (hB1.call hB2).lt
  have hyo2 := (hyo.later ((Later.refl w2).alloc (.cells #[.bool false, .slice none 0 0, .int .i64 0, .bool false, .slice none 0 0, .int .i64 0, .bool false, .slice none 0 0, .int .i64 0, .bool false, .int .i64 0, .int .i64 0, .int .i64 0, .int .i64 0, .int .i64 0, .int .i64 0, .int .i64 0] 32))).later ((Later.refl _).alloc (.cells #[.bool false, .slice none 0 0, .int .i64 0, .bool false, .slice none 0 0, .int .i64 0, .bool false, .slice none 0 0, .int .i64 0, .bool false, .int .i64 0, .int .i64 0, .int .i64 0, .int .i64 0, .int .i64 0, .int .i64 0, .int .i64 0] 44))
  have hzo2 := (hzo.later ((Later.refl w2).alloc (.cells #[.bool false, .slice none 0 0, .int .i64 0, .bool false, .slice none 0 0, .int .i64 0, .bool false, .slice none 0 0, .int .i64 0, .bool false, .int .i64 0, .int .i64 0, .int .i64 0, .int .i64 0, .int .i64 0, .int .i64 0, .int .i64 0] 32))).later ((Later.refl _).alloc (.cells #[.bool false, .slice none 0 0, .int .i64 0, .bool false, .slice none 0 0, .int .i64 0, .bool false, .slice none 0 0, .int .i64 0, .bool false, .int .i64 0, .int .i64 0, .int .i64 0, .int .i64 0, .int .i64 0, .int .i64 0, .int .i64 0] 44))
  have hyp := hyo.apart (Nat.le_refl _)
  have hzp := hzo.apart (Nat.le_refl _)
  have hyq := hyo.apart (Nat.le_succ _)
  have hzq := hzo.apart (Nat.le_succ _)
  have hsz := hB0.later.size
  have hsz2 := hB2.size
  go_upto_region 2 with (first | (refine wpList_store_blk hY0 row_rules rfl rfl rfl rfl rfl rfl (by kernel_rfl) ?_; intro w3 hY hS3; go_simp) | (refine wpList_store_blk (hS3.far hZ0 (by omega) hY0.1) row_rules13 rfl rfl rfl rfl rfl rfl (by kernel_rfl) ?_; intro w4 hZ hS4; go_simp))
  have hg0 : w.heap.size ≤ w2.heap.size := hY0.1
  have hg1 : w.heap.size ≤ w2.heap.size + 1 := by omega
  have hY4 := hS4.far hY (by omega) hg1
  have hyo4 := (hyo2.sto hS3 hyp).sto hS4 hyq
  have hzo4 := (hzo2.sto hS3 hzp).sto hS4 hzq
  have hB1b := hS4.far (hS3.far hB1a (by omega) hg0) (by omega) hg1
  clear hB0 hbg hY0 hZ0 hS3 hS4 hY hyo hzo hyo2 hzo2 hyp hzp hyq hzq hsz2 hg0 hg1 hB1 hB1a hB1l
  have hyz : w2.heap.size ≠ w2.heap.size + 1 := by omega
  generalize hgy : w2.heap.size = gy at *
  generalize gy + 1 = gz at *
  go_wp2_with (refine wpList_load_blk hB1b row_draft14 rfl rfl rfl rfl ?_; go_simp)
  refine (hgd.out _ (hdo.later hB1b.later)).mono ?_
  rintro e w5 ⟨q, rfl, hq, hqo, hB5, _⟩
  unfold kd
  have pZ := Blk.made w w5 61 #[.bool false, .slice none 0 0, .bool false, .slice none 0 0] (hY4.call hB5).later _ rfl
  have hY5_l := (hY4.call hB5).lt
  have hY5_q := (hY4.call hB5).alloc (.cells #[.bool false, .slice none 0 0, .bool false, .slice none 0 0] 61)
  have hZ5_l := (hZ.call hB5).lt
  have hZ5_q := (hZ.call hB5).alloc (.cells #[.bool false, .slice none 0 0, .bool false, .slice none 0 0] 61)
  have hyo5_f := (hyo4.later hB5).apart (Nat.le_refl _)
  have hyo5_q := (hyo4.later hB5).later ((Later.refl _).alloc (.cells #[.bool false, .slice none 0 0, .bool false, .slice none 0 0] 61))
  have hzo5_f := (hzo4.later hB5).apart (Nat.le_refl _)
  have hzo5_q := (hzo4.later hB5).later ((Later.refl _).alloc (.cells #[.bool false, .slice none 0 0, .bool false, .slice none 0 0] 61))
  have hqo5_f := (hqo).off (Nat.le_refl _)
  have hqo5_q := (hqo).alloc (.cells #[.bool false, .slice none 0 0, .bool false, .slice none 0 0] 61)
  go_upto_region 5 with (first | (refine wpList_store_blk pZ row_draft14 rfl rfl rfl rfl rfl rfl (by kernel_rfl) ?_; intro w6 hQ pS; go_simp))
  have hY5 := pS.far hY5_q (by omega) pZ.1
  have hZ5 := pS.far hZ5_q (by omega) pZ.1
  have hyo5 := hyo5_q.sto pS hyo5_f
  have hzo5 := hzo5_q.sto pS hzo5_f
  have hqo5 := hqo5_q.sto pS hqo5_f
  clear pZ pS hY5_l hY5_q hZ5_l hZ5_q hyo5_f hyo5_q hzo5_f hzo5_q hqo5_f hqo5_q
  have hcm := Lib.hid (fun W (hY : y.ok W) (hQ : q.ok W) => show Calls Try.prog 25 #[.agg y.cs, .agg q.cs] W (PK (kde 0) (commitS R G).1 W) by
    have h1 : y.r.Ok := by rw [hyr.out]; exact hru
    have h2 : y.r.Bd := by rw [hyr.out]; exact hrb
    have h3 := hg.2.2.2.1
    have h4 := hg.2.2.2.2
    rw [← hq.out] at h3 h4
    have := ccommit_any y q W hY h1 h2 hQ h3 h4 (by have := hQ.1.len; have := hg.2.1; rw [← hq.out] at this; have : q.d.int.length = q.l.length := rfl; omega) (by have := hQ.2.len; have := hg.2.2.1; rw [← hq.out] at this; have : q.d.frac.length = q.f.length := rfl; omega)
    rw [hyr.out, hq.out, (commit_ok hru hg.1 (by have := hg.2.2.1; omega)).1] at this
    exact this)
  clear hB5 hB1b hY4 hZ hyo4 hzo4 hqo hgd
  generalize w5.heap.size = gq at *
  refine wp_calls_tail 9 7 8 (fun i => i == 3) ⟨by kernel_rfl, by kernel_rfl, by kernel_rfl, by kernel_rfl, by kernel_rfl, by kernel_rfl, by kernel_rfl, by kernel_rfl, by kernel_rfl⟩ rfl rfl rfl row_draft rfl rfl (by kernel_rfl) (by simp) (by simp) (z := #[.bool false, .slice none 0 0, .bool false, .slice none 0 0]) (t := 65) rfl ?_ ?_
  · intro W a K h
    go_simp
    exact h
  simp only [List.take_succ_cons, List.take_zero, List.drop_succ_cons, List.drop_zero]
  generalize hQQ : (fun (I : Inv w6) (a' : Act) => ∃ us : Array Value, _) = QQ
  have HQQ := Lib.hid hQQ
  clear hQQ
  refine QM_loadb hY5 row_rules ⟨rfl, by decide⟩ rfl rfl rfl ?_
  go_simp
  refine QM_loadb hQ row_draft14 ⟨rfl, by decide⟩ rfl rfl rfl ?_
  go_simp
  refine wpQM_step ⟨rfl, by decide⟩ (fun K hK => ?_)
  go_simp
  refine ⟨_, fun W hW => of20_any q W, hK _ ?_⟩
  clear hK K
  go_simp
  refine wpQM_call (upD (K := kde 0) kde_inj (commitS R G).1) rfl ?_ ?_
  · intro W hW
    go_simp
    exact ⟨rfl, hcm.out W (hyo5.later hW) (hqo5.later hW)⟩
  rintro u ⟨a, rfl, ha⟩
  unfold kde
  go_simp
  refine wpQM_step ⟨rfl, by decide⟩ (fun K hK => ?_)
  go_simp
  refine ⟨_, fun _ _ => rfl, hK _ ?_⟩
  clear hK K
  go_simp
  refine wpQM_step ⟨rfl, by decide⟩ (fun K hK => ?_)
  go_simp
  refine ⟨_, fun _ _ => rfl, hK _ ?_⟩
  clear hK K
  go_simp
  refine wpQM_step ⟨rfl, by decide⟩ (fun K hK => ?_)
  go_simp
  refine ⟨_, fun _ _ => rfl, hK _ ?_⟩
  clear hK K
  go_simp
  iterate 2 (refine wpQM_pass ⟨rfl, by decide⟩ ?_)
  refine wpQM_nil ?_
  rw [← HQQ.out]
  clear HQQ QQ
  refine ⟨a.cs, rfl, rfl, by kernel_rfl, ?_⟩
  rintro W ga hA ⟨hLW, hFW⟩ -
  have hLW : Later w6 W := hLW
  have hao : a.ok W := hFW a rfl ha.out
  have hZ6 := hZ5.call hLW
  have hQ6 := hQ.call hLW
  have hzo6 := hzo5.later hLW
  have hqo6 := hqo5.later hLW
  have hL6 := hZ6.later
  clear hFW hLW hY5 hZ5 hQ hzo5 hqo5 hyo5 hcm
  go_simp
  have hC := commit_ok hru hg.1 (by have := hg.2.2.1; omega)
  have hCf := commit_fits hru hg.1 (by have := hg.2.2.1; omega)
  have hN1 := decD_may hg.1 (by have := hg.2.2.1; omega)
  have hN2 := decD_trim hg.1 (by have := hg.2.2.1; omega)
  have hN3 : (decD G).l.length ≤ 5000 := by have := decD_len G; have := hg.2.1; have := hg.2.2.1; omega
  have hic := hru.ic
  have hsc := hru.sc
  have hfc := hru.fc
  have hV3 : (decD (commitS R G).1).l.length ≤ 5000 := by have := decD_len (commitS R G).1; omega
  have hda := Lib.hid (fun W (hW : a.ok W) => show Calls Try.prog 27 #[.agg a.cs] W (PQ kc (decD (commitS R G).1) W) by
    have hm := mayR_lists hC.2.1
    rw [← ha.out] at hm
    have e1 := hCf
    rw [← ha.out] at e1
    have := vdec14_any a W hW (I64_of_may hm.1) (I64_of_may hm.2) (by have := hW.1.len; have : a.d.int.length = a.l.length := rfl; omega) (by have := hW.2.len; have : a.d.frac.length = a.f.length := rfl; omega)
    rw [ha.out] at this
    exact this)
  have hdq := Lib.hid (fun W (hW : q.ok W) => show Calls Try.prog 27 #[.agg q.cs] W (PQ kc (decD G) W) by
    have h3 := hg.2.2.2.1
    have h4 := hg.2.2.2.2
    have h5 := hg.2.1
    have h6 := hg.2.2.1
    rw [← hq.out] at h3 h4 h5 h6
    have := vdec14_any q W hW h3 h4 (by have := hW.1.len; have : q.d.int.length = q.l.length := rfl; omega) (by have := hW.2.len; have : q.d.frac.length = q.f.length := rfl; omega)
    rw [hq.out] at this
    exact this)
  obtain ⟨v1, v2, v3, v4, v5⟩ := value_in hru hN1
  have hself : (decD G).s ≤ R.n.sc → ¬ cmpDc (decD G) R.lo < 0 → ¬ 0 < cmpDc (decD G) R.hi → (valueC R (decD G)).1 = decD G := fun g1 g2 g3 => congrArg Prod.fst (value_self hru hN1 hN2 g1 g2 g3)
  rw [hC.2.2.1] at hda hV3
  clear hC hCf hg hN2
  generalize (valueC R (decD G)).1 = V at *
  generalize decD G = N at *
  have hzl : z.lo.Bd := NV.Bd.mk' (D := R.lo) (congrArg Ru.lo hzr.out) hru.lo.1 (by have := hrb.lo.2; omega)
  have hzh : z.hi.Bd := NV.Bd.mk' (D := R.hi) (congrArg Ru.hi hzr.out) hru.hi.1 (by have := hrb.hi.2; omega)
  have hzl' : z.lo.D = R.lo := congrArg Ru.lo hzr.out
  have hzh' : z.hi.D = R.hi := congrArg Ru.hi hzr.out
  have hzs : z.r.n.sc = R.n.sc := congrArg (fun r => r.n.sc) hzr.out
  have hfg := Lib.hid (And.intro hzl' (And.intro hzh' hzs))
  clear hzl' hzh' hzs
  have hru := Lib.hid hru
  -- the number of what is committed
  go_wp2_with (refine wpList_load_blk hA row_draft rfl rfl rfl rfl ?_; go_simp)
  refine (as20_any a _).mono ?_
  rintro e w7 ⟨rfl, hB7⟩
  go_wp2_with fail
  refine (hda.out _ (hao.below hB7)).mono ?_
  rintro e w8 ⟨p, rfl, hp, hpo, hB8, _⟩
  unfold kc
  have pZ := Blk.made w w8 24 #[.bool false, .slice none 0 0, .int .i64 0] ((hZ6.call hB7).call hB8).later _ rfl
  have hZ8_l := ((hZ6.call hB7).call hB8).lt
  have hZ8_q := ((hZ6.call hB7).call hB8).alloc (.cells #[.bool false, .slice none 0 0, .int .i64 0] 24)
  have hQ8_l := ((hQ6.call hB7).call hB8).lt
  have hQ8_q := ((hQ6.call hB7).call hB8).alloc (.cells #[.bool false, .slice none 0 0, .int .i64 0] 24)
  have hzo8_f := ((hzo6.later hB7).later hB8).apart (Nat.le_refl _)
  have hzo8_q := ((hzo6.later hB7).later hB8).later ((Later.refl _).alloc (.cells #[.bool false, .slice none 0 0, .int .i64 0] 24))
  have hqo8_f := ((hqo6.below hB7).below hB8).off (Nat.le_refl _)
  have hqo8_q := ((hqo6.below hB7).below hB8).alloc (.cells #[.bool false, .slice none 0 0, .int .i64 0] 24)
  have hpo8_f := (hpo).off (Nat.le_refl _)
  have hpo8_q := (hpo).alloc (.cells #[.bool false, .slice none 0 0, .int .i64 0] 24)
  go_upto_region 7 with (first | (refine wpList_store_blk pZ row_dec6 rfl rfl rfl rfl rfl rfl (by kernel_rfl) ?_; intro w9 hP pS; go_simp))
  have hZ8 := pS.far hZ8_q (by omega) pZ.1
  have hQ8 := pS.far hQ8_q (by omega) pZ.1
  have hzo8 := hzo8_q.sto pS hzo8_f
  have hqo8 := hqo8_q.sto pS hqo8_f
  have hpo8 := hpo8_q.sto pS hpo8_f
  clear pZ pS hZ8_l hZ8_q hQ8_l hQ8_q hzo8_f hzo8_q hqo8_f hqo8_q hpo8_f hpo8_q
  clear hB7 hB8 hA hao hda hpo hZ6 hQ6 hzo6 hqo6
  generalize w8.heap.size = gp at *
  go_wp2_with (refine wpList_load_blk hQ8 row_draft14 rfl rfl rfl rfl ?_; go_simp)
  refine (hdq.out _ hqo8).mono ?_
  rintro e wa ⟨n, rfl, hn, hno, hBa, _⟩
  unfold kc
  have pZ := Blk.made w wa 24 #[.bool false, .slice none 0 0, .int .i64 0] (hZ8.call hBa).later _ rfl
  have hZa_l := (hZ8.call hBa).lt
  have hZa_q := (hZ8.call hBa).alloc (.cells #[.bool false, .slice none 0 0, .int .i64 0] 24)
  have hPa_l := (hP.call hBa).lt
  have hPa_q := (hP.call hBa).alloc (.cells #[.bool false, .slice none 0 0, .int .i64 0] 24)
  have hzoa_f := (hzo8.later hBa).apart (Nat.le_refl _)
  have hzoa_q := (hzo8.later hBa).later ((Later.refl _).alloc (.cells #[.bool false, .slice none 0 0, .int .i64 0] 24))
  have hpoa_f := (hpo8.below hBa).off (Nat.le_refl _)
  have hpoa_q := (hpo8.below hBa).alloc (.cells #[.bool false, .slice none 0 0, .int .i64 0] 24)
  have hnoa_f := (hno).off (Nat.le_refl _)
  have hnoa_q := (hno).alloc (.cells #[.bool false, .slice none 0 0, .int .i64 0] 24)
  go_upto_region 8 with (first | (refine wpList_store_blk pZ row_dec6 rfl rfl rfl rfl rfl rfl (by kernel_rfl) ?_; intro wb hN pS; go_simp))
  have hZa := pS.far hZa_q (by omega) pZ.1
  have hPa := pS.far hPa_q (by omega) pZ.1
  have hzoa := hzoa_q.sto pS hzoa_f
  have hpoa := hpoa_q.sto pS hpoa_f
  have hnoa := hnoa_q.sto pS hnoa_f
  clear pZ pS hZa_l hZa_q hPa_l hPa_q hzoa_f hzoa_q hpoa_f hpoa_q hnoa_f hnoa_q
  clear hBa hZ8 hQ8 hP hzo8 hqo8 hpo8 hno hdq
  generalize wa.heap.size = gn at *
  have hpb : p.Bd := NV.Bd.mk' hp.out v1 hV3
  have hnb : n.Bd := NV.Bd.mk' hn.out hN1 hN3
  have k1 := Lib.hid (fun W (h1 : n.ok W) (h2 : z.ok W) => vcmp6_any n z.lo W h1 h2.1 hnb hzl)
  have k2 := Lib.hid (fun W (h1 : n.ok W) (h2 : z.ok W) => vcmp6_any n z.hi W h1 h2.2.1 hnb hzh)
  have k3 := Lib.hid (fun W (h1 : p.ok W) (h2 : z.ok W) => vcmp6_any p z.lo W h1 h2.1 hpb hzl)
  have k4 := Lib.hid (fun W (h1 : p.ok W) (h2 : z.ok W) => vcmp6_any p z.hi W h1 h2.2.1 hpb hzh)
  have k5 := Lib.hid (fun W (h1 : p.ok W) (h2 : n.ok W) => vsame6_any p n W h1 h2)
  have f3 : 0 ≤ cmpDc p.D z.lo.D := by rw [hp.out, hfg.out.1]; omega
  have f4 : cmpDc p.D z.hi.D ≤ 0 := by rw [hp.out, hfg.out.2.1]; omega
  have f5 : n.D.s ≤ z.r.n.sc → 0 ≤ cmpDc n.D z.lo.D → cmpDc n.D z.hi.D ≤ 0 → sameDc p.D n.D = true := fun g1 g2 g3 => by
    rw [hn.out, hfg.out.1] at g2
    rw [hn.out, hfg.out.2.1] at g3
    rw [hn.out, hfg.out.2.2] at g1
    rw [hp.out, hn.out, hself g1 (by omega) (by omega)]
    exact sameDc_refl _
  clear hself v1 v2 v3 v4 v5 hfg hzl hzh hpb hnb hN1 hN3 hV3 hp hn hru hrb hic hsc hfc ha hq hyr hzr hdo hdi hdf hx hb
  generalize cmpDc n.D z.lo.D = q1 at *
  generalize cmpDc n.D z.hi.D = q2 at *
  generalize cmpDc p.D z.lo.D = q3 at *
  generalize cmpDc p.D z.hi.D = q4 at *
  generalize sameDc p.D n.D = q5 at *
  have HZ := Lib.hid (fun W (h : Later wb W) => hZa.call h)
  have HP := Lib.hid (fun W (h : Later wb W) => hPa.call h)
  have HN := Lib.hid (fun W (h : Later wb W) => hN.call h)
  have OZ := Lib.hid (fun W (h : Later wb W) => hzoa.later h)
  have OP := Lib.hid (fun W (h : Later wb W) => hpoa.later h)
  have ON := Lib.hid (fun W (h : Later wb W) => hnoa.later h)
  have s1 := Lib.hid (fun W (h : Later wb W) => (hN.call h).cell 2)
  have s2 := Lib.hid (fun W (h : Later wb W) => (hZa.call h).cell 12)
  have hLb := hZa.later
  clear hZa hPa hN hzoa hpoa hnoa
  have L : Later wb wb := Later.refl _
  go_upto_region 8 with fail
  go_wp2_with (first | (refine wpList_load_blkg (HN.out _ L) row_dec6 rfl rfl rfl rfl ?_; go_simp) | (refine wpList_load_partg ((HZ.out _ L).part 0 [.bool z.r.lo.neg, .slice z.A1 z.n1 z.c1, .int .i64 z.r.lo.s] rfl) row_dec6 rfl rfl rfl rfl ?_; go_simp) | (refine wpList_load_partg ((HZ.out _ L).part 3 [.bool z.r.hi.neg, .slice z.A2 z.n2 z.c2, .int .i64 z.r.hi.s] rfl) row_dec6 rfl rfl rfl rfl ?_; go_simp))
  refine (k1.out _ (ON.out _ L) (OZ.out _ L)).mono ?_
  rintro e wN ⟨rfl, hB⟩
  have L := L.call hB
  clear hB
  by_cases h1 : 0 ≤ q1
  · go_wp2_with (first | (refine wpList_load_blkg (HN.out _ L) row_dec6 rfl rfl rfl rfl ?_; go_simp) | (refine wpList_load_partg ((HZ.out _ L).part 0 [.bool z.r.lo.neg, .slice z.A1 z.n1 z.c1, .int .i64 z.r.lo.s] rfl) row_dec6 rfl rfl rfl rfl ?_; go_simp) | (refine wpList_load_partg ((HZ.out _ L).part 3 [.bool z.r.hi.neg, .slice z.A2 z.n2 z.c2, .int .i64 z.r.hi.s] rfl) row_dec6 rfl rfl rfl rfl ?_; go_simp))
    refine (k2.out _ (ON.out _ L) (OZ.out _ L)).mono ?_
    rintro e wN ⟨rfl, hB⟩
    have L := L.call hB
    clear hB
    by_cases h2 : q2 ≤ 0
    · have t1 : wN.cell? ⟨gn, 2, none⟩ = some (.int .i64 n.D.s) := s1.out _ L
      have t2 : wN.cell? ⟨gz, 12, none⟩ = some (.int .i64 z.r.n.sc) := s2.out _ L
      by_cases h3 : n.D.s ≤ z.r.n.sc
      · have e5 := f5 h3 h1 h2
        subst e5
        go_wp2_with (first | (refine wpList_load_blkg (HP.out _ L) row_dec6 rfl rfl rfl rfl ?_; go_simp) | (refine wpList_load_partg ((HZ.out _ L).part 0 [.bool z.r.lo.neg, .slice z.A1 z.n1 z.c1, .int .i64 z.r.lo.s] rfl) row_dec6 rfl rfl rfl rfl ?_; go_simp) | (refine wpList_load_partg ((HZ.out _ L).part 3 [.bool z.r.hi.neg, .slice z.A2 z.n2 z.c2, .int .i64 z.r.hi.s] rfl) row_dec6 rfl rfl rfl rfl ?_; go_simp))
        refine (k3.out _ (OP.out _ L) (OZ.out _ L)).mono ?_
        rintro e wN ⟨rfl, hB⟩
        have L := L.call hB
        clear hB
        go_wp2_with (first | (refine wpList_load_blkg (HP.out _ L) row_dec6 rfl rfl rfl rfl ?_; go_simp) | (refine wpList_load_partg ((HZ.out _ L).part 0 [.bool z.r.lo.neg, .slice z.A1 z.n1 z.c1, .int .i64 z.r.lo.s] rfl) row_dec6 rfl rfl rfl rfl ?_; go_simp) | (refine wpList_load_partg ((HZ.out _ L).part 3 [.bool z.r.hi.neg, .slice z.A2 z.n2 z.c2, .int .i64 z.r.hi.s] rfl) row_dec6 rfl rfl rfl rfl ?_; go_simp))
        refine (k4.out _ (OP.out _ L) (OZ.out _ L)).mono ?_
        rintro e wN ⟨rfl, hB⟩
        have L := L.call hB
        clear hB
        go_wp2_with (first | (refine wpList_load_blkg (HP.out _ L) row_dec6 rfl rfl rfl rfl ?_; go_simp) | (refine wpList_load_blkg (HN.out _ L) row_dec6 rfl rfl rfl rfl ?_; go_simp))
        refine (k5.out _ (OP.out _ L) (ON.out _ L)).mono ?_
        rintro e wN ⟨rfl, hB⟩
        have L := L.call hB
        clear hB
        go_wp2_with fail
        refine (lives20_any _).mono ?_
        rintro e wN ⟨rfl, hB⟩
        have L := L.call hB
        clear hB
        go_wp2_with fail
        go_ret
        exact ⟨rfl, hLb.call L⟩
      · have b3 : decide (n.D.s ≤ z.r.n.sc) = false := by simpa using h3
        go_wp2_with (first | (refine wpList_load_blkg (HP.out _ L) row_dec6 rfl rfl rfl rfl ?_; go_simp) | (refine wpList_load_partg ((HZ.out _ L).part 0 [.bool z.r.lo.neg, .slice z.A1 z.n1 z.c1, .int .i64 z.r.lo.s] rfl) row_dec6 rfl rfl rfl rfl ?_; go_simp) | (refine wpList_load_partg ((HZ.out _ L).part 3 [.bool z.r.hi.neg, .slice z.A2 z.n2 z.c2, .int .i64 z.r.hi.s] rfl) row_dec6 rfl rfl rfl rfl ?_; go_simp))
        refine (k3.out _ (OP.out _ L) (OZ.out _ L)).mono ?_
        rintro e wN ⟨rfl, hB⟩
        have L := L.call hB
        clear hB
        go_wp2_with (first | (refine wpList_load_blkg (HP.out _ L) row_dec6 rfl rfl rfl rfl ?_; go_simp) | (refine wpList_load_partg ((HZ.out _ L).part 0 [.bool z.r.lo.neg, .slice z.A1 z.n1 z.c1, .int .i64 z.r.lo.s] rfl) row_dec6 rfl rfl rfl rfl ?_; go_simp) | (refine wpList_load_partg ((HZ.out _ L).part 3 [.bool z.r.hi.neg, .slice z.A2 z.n2 z.c2, .int .i64 z.r.hi.s] rfl) row_dec6 rfl rfl rfl rfl ?_; go_simp))
        refine (k4.out _ (OP.out _ L) (OZ.out _ L)).mono ?_
        rintro e wN ⟨rfl, hB⟩
        have L := L.call hB
        clear hB
        go_wp2_with fail
        refine (lives20_any _).mono ?_
        rintro e wN ⟨rfl, hB⟩
        have L := L.call hB
        clear hB
        go_wp2_with fail
        go_ret
        exact ⟨rfl, hLb.call L⟩
    · have b2 : decide (q2 ≤ 0) = false := by simpa using h2
      go_wp2_with (first | (refine wpList_load_blkg (HP.out _ L) row_dec6 rfl rfl rfl rfl ?_; go_simp) | (refine wpList_load_partg ((HZ.out _ L).part 0 [.bool z.r.lo.neg, .slice z.A1 z.n1 z.c1, .int .i64 z.r.lo.s] rfl) row_dec6 rfl rfl rfl rfl ?_; go_simp) | (refine wpList_load_partg ((HZ.out _ L).part 3 [.bool z.r.hi.neg, .slice z.A2 z.n2 z.c2, .int .i64 z.r.hi.s] rfl) row_dec6 rfl rfl rfl rfl ?_; go_simp))
      refine (k3.out _ (OP.out _ L) (OZ.out _ L)).mono ?_
      rintro e wN ⟨rfl, hB⟩
      have L := L.call hB
      clear hB
      go_wp2_with (first | (refine wpList_load_blkg (HP.out _ L) row_dec6 rfl rfl rfl rfl ?_; go_simp) | (refine wpList_load_partg ((HZ.out _ L).part 0 [.bool z.r.lo.neg, .slice z.A1 z.n1 z.c1, .int .i64 z.r.lo.s] rfl) row_dec6 rfl rfl rfl rfl ?_; go_simp) | (refine wpList_load_partg ((HZ.out _ L).part 3 [.bool z.r.hi.neg, .slice z.A2 z.n2 z.c2, .int .i64 z.r.hi.s] rfl) row_dec6 rfl rfl rfl rfl ?_; go_simp))
      refine (k4.out _ (OP.out _ L) (OZ.out _ L)).mono ?_
      rintro e wN ⟨rfl, hB⟩
      have L := L.call hB
      clear hB
      go_wp2_with fail
      refine (lives20_any _).mono ?_
      rintro e wN ⟨rfl, hB⟩
      have L := L.call hB
      clear hB
      go_wp2_with fail
      go_ret
      exact ⟨rfl, hLb.call L⟩
  · have b1 : decide (0 ≤ q1) = false := by simpa using h1
    go_wp2_with (first | (refine wpList_load_blkg (HP.out _ L) row_dec6 rfl rfl rfl rfl ?_; go_simp) | (refine wpList_load_partg ((HZ.out _ L).part 0 [.bool z.r.lo.neg, .slice z.A1 z.n1 z.c1, .int .i64 z.r.lo.s] rfl) row_dec6 rfl rfl rfl rfl ?_; go_simp) | (refine wpList_load_partg ((HZ.out _ L).part 3 [.bool z.r.hi.neg, .slice z.A2 z.n2 z.c2, .int .i64 z.r.hi.s] rfl) row_dec6 rfl rfl rfl rfl ?_; go_simp))
    refine (k3.out _ (OP.out _ L) (OZ.out _ L)).mono ?_
    rintro e wN ⟨rfl, hB⟩
    have L := L.call hB
    clear hB
    go_wp2_with (first | (refine wpList_load_blkg (HP.out _ L) row_dec6 rfl rfl rfl rfl ?_; go_simp) | (refine wpList_load_partg ((HZ.out _ L).part 0 [.bool z.r.lo.neg, .slice z.A1 z.n1 z.c1, .int .i64 z.r.lo.s] rfl) row_dec6 rfl rfl rfl rfl ?_; go_simp) | (refine wpList_load_partg ((HZ.out _ L).part 3 [.bool z.r.hi.neg, .slice z.A2 z.n2 z.c2, .int .i64 z.r.hi.s] rfl) row_dec6 rfl rfl rfl rfl ?_; go_simp))
    refine (k4.out _ (OP.out _ L) (OZ.out _ L)).mono ?_
    rintro e wN ⟨rfl, hB⟩
    have L := L.call hB
    clear hB
    go_wp2_with fail
    refine (lives20_any _).mono ?_
    rintro e wN ⟨rfl, hB⟩
    have L := L.call hB
    clear hB
    go_wp2_with fail
    go_ret
    exact ⟨rfl, hLb.call L⟩

end Go.Proofs.Ytickhmlhciafgaa

