/- What is committed is done, within the limits, and stays so: the walk. No condition. -/
import Derived.Test.YtickhmlhciafgaaMa35
import Derived.Test.YtickhmlhciafgaaMa30
namespace Go.Proofs.Ytickhmlhciafgaa
open Go.RowKit
set_option linter.unusedVariables false

set_option maxRecDepth 100000 in
set_option maxHeartbeats 4000000 in
theorem valueStays_walk (w : World) (x : GV) (hx : x.ok w) (hb : x.Bd) (b1 p1 : Bool) {A1 : Option Addr} {n1 c1 : Nat} {l1 : List Int} {E1 : Option Addr} {m1 d1 : Nat} {k1 : List Int} (w1 : IL w A1 n1 c1 l1) (i1 : I64 l1) (x1 : IL w E1 m1 d1 k1) (j1 : I64 k1) :
    Calls Try.prog 8 #[.agg x.cs, .agg #[.bool b1, .slice A1 n1 c1, .bool p1, .slice E1 m1 d1]] w (RV w (.bool true)) := by
  obtain ⟨d, hd⟩ : ∃ d : DV, Hid (d = ⟨b1, A1, n1, c1, l1, p1, E1, m1, d1, k1⟩) := ⟨_, rfl⟩
  have hdo : d.ok w := by rw [hd.out]; exact ⟨w1, x1⟩
  have hdi : I64 d.l := by rw [hd.out]; exact i1
  have hdf : I64 d.f := by rw [hd.out]; exact j1
  have hcs : (#[.bool b1, .slice A1 n1 c1, .bool p1, .slice E1 m1 d1] : Array Value) = d.cs := by rw [hd.out]; rfl
  rw [hcs]
  clear hcs hd w1 x1 i1 j1
  have hgd := Lib.hid (fun W (hW : d.ok W) => vgood_any d 9 7 W hW hdi hdf (by omega) (by omega))
  have hg := goodD_ok d.d 9 7 (by omega) (by omega)
  generalize goodD d.d 9 7 = G at *
  have hbg := Lib.hid (fun W (h : x.ok W) => begin20_any x W h hb)
  have hcok := goodG_ok x.g
  have hru := hcok.ruOk
  have hrb := hcok.ruBd
  clear hcok
  generalize (goodG x.g).ru = R at *
  have hB0 := ((Blk.made w w 28 x.cs (Later.refl w) _ rfl).alloc (.cells d.cs 61))
  have hB1 := (Blk.made w (w.alloc (.cells x.cs 28)) 61 d.cs ((Later.refl w).alloc _) (w.heap.size + 1) (by simp))
  go_enter Try.func8, Try.ntmps8
  go_upto_region 1 with fail
  generalize World.alloc (World.alloc w _) _ = w1 at *
  go_wp2_with (refine wpList_load_blk hB0 row_made13 rfl rfl rfl rfl ?_; go_simp)
  refine (hbg.out _ (hx.later hB0.later)).mono ?_
  rintro e w2 ⟨y, z, rfl, hyr, hzr, hyo, hzo, hB2⟩
  have hY0 := (Blk.made w w2 32 #[.bool false, .slice none 0 0, .int .i64 0, .bool false, .slice none 0 0, .int .i64 0, .bool false, .slice none 0 0, .int .i64 0, .bool false, .int .i64 0, .int .i64 0, .int .i64 0, .int .i64 0, .int .i64 0, .int .i64 0, .int .i64 0] (hB0.call hB2).later _ rfl).alloc (.cells #[.bool false, .slice none 0 0, .int .i64 0, .bool false, .slice none 0 0, .int .i64 0, .bool false, .slice none 0 0, .int .i64 0, .bool false, .int .i64 0, .int .i64 0, .int .i64 0, .int .i64 0, .int .i64 0, .int .i64 0, .int .i64 0] 44)
  have hZ0 := Blk.made w (w2.alloc (.cells #[.bool false, .slice none 0 0, .int .i64 0, .bool false, .slice none 0 0, .int .i64 0, .bool false, .slice none 0 0, .int .i64 0, .bool false, .int .i64 0, .int .i64 0, .int .i64 0, .int .i64 0, .int .i64 0, .int .i64 0, .int .i64 0] 32)) 44 #[.bool false, .slice none 0 0, .int .i64 0, .bool false, .slice none 0 0, .int .i64 0, .bool false, .slice none 0 0, .int .i64 0, .bool false, .int .i64 0, .int .i64 0, .int .i64 0, .int .i64 0, .int .i64 0, .int .i64 0, .int .i64 0] ((hB0.call hB2).later.alloc _) (w2.heap.size + 1) (by simp)
  have hB1a := ((hB1.call hB2).alloc (.cells #[.bool false, .slice none 0 0, .int .i64 0, .bool false, .slice none 0 0, .int .i64 0, .bool false, .slice none 0 0, .int .i64 0, .bool false, .int .i64 0, .int .i64 0, .int .i64 0, .int .i64 0, .int .i64 0, .int .i64 0, .int .i64 0] 32)).alloc (.cells #[.bool false, .slice none 0 0, .int .i64 0, .bool false, .slice none 0 0, .int .i64 0, .bool false, .slice none 0 0, .int .i64 0, .bool false, .int .i64 0, .int .i64 0, .int .i64 0, .int .i64 0, .int .i64 0, .int .i64 0, .int .i64 0] 44)
  have hB1l := (hB1.call hB2).lt
  have hyo2 := (hyo.later ((Later.refl w2).alloc (.cells #[.bool false, .slice none 0 0, .int .i64 0, .bool false, .slice none 0 0, .int .i64 0, .bool false, .slice none 0 0, .int .i64 0, .bool false, .int .i64 0, .int .i64 0, .int .i64 0, .int .i64 0, .int .i64 0, .int .i64 0, .int .i64 0] 32))).later ((Later.refl _).alloc (.cells #[.bool false, .slice none 0 0, .int .i64 0, .bool false, .slice none 0 0, .int .i64 0, .bool false, .slice none 0 0, .int .i64 0, .bool false, .int .i64 0, .int .i64 0, .int .i64 0, .int .i64 0, .int .i64 0, .int .i64 0, .int .i64 0] 44))
  have hzo2 := (hzo.later ((Later.refl w2).alloc (.cells #[.bool false, .slice none 0 0, .int .i64 0, .bool false, .slice none 0 0, .int .i64 0, .bool false, .slice none 0 0, .int .i64 0, .bool false, .int .i64 0, .int .i64 0, .int .i64 0, .int .i64 0, .int .i64 0, .int .i64 0, .int .i64 0] 32))).later ((Later.refl _).alloc (.cells #[.bool false, .slice none 0 0, .int .i64 0, .bool false, .slice none 0 0, .int .i64 0, .bool false, .slice none 0 0, .int .i64 0, .bool false, .int .i64 0, .int .i64 0, .int .i64 0, .int .i64 0, .int .i64 0, .int .i64 0, .int .i64 0] 44))
  have hyp := hyo.apart (Nat.le_refl _)
  have hzp := hzo.apart (Nat.le_refl _)
  have hyq := hyo.apart (Nat.le_succ _)
  have hzq := hzo.apart (Nat.le_succ _)
  have hsz := hB0.later.size
  have hsz2 := hB2.size
  go_upto_region 2 with (first | (refine wpList_store_blk hY0 row_rules rfl rfl rfl rfl rfl rfl (by kernel_rfl) ?_; intro w3 hY hS3; go_simp) | (refine wpList_store_blk (hS3.far hZ0 (by omega) hY0.1) row_rules13 rfl rfl rfl rfl rfl rfl (by kernel_rfl) ?_; intro w4 hZ hS4; go_simp))
  have hg0 : w.heap.size ≤ w2.heap.size := hY0.1
  have hg1 : w.heap.size ≤ w2.heap.size + 1 := by omega
  have hY4 := hS4.far hY (by omega) hg1
  have hyo4 := (hyo2.sto hS3 hyp).sto hS4 hyq
  have hzo4 := (hzo2.sto hS3 hzp).sto hS4 hzq
  have hB1b := hS4.far (hS3.far hB1a (by omega) hg0) (by omega) hg1
  clear hB0 hbg hY0 hZ0 hS3 hS4 hY hyo hzo hyo2 hzo2 hyp hzp hyq hzq hsz2 hg0 hg1 hB1 hB1a hB1l
  have hyz : w2.heap.size ≠ w2.heap.size + 1 := by omega
  generalize hgy : w2.heap.size = gy at *
  generalize gy + 1 = gz at *
  go_upto_region 4 with fail
  have hC := commit_ok hru hg.1 (by have := hg.2.2.1; omega)
  have hCf := commit_fits hru hg.1 (by have := hg.2.2.1; omega)
  have hCa := commit_again hru hg.1 (by have := hg.2.2.1; omega)
  have h1 : y.r.Ok := by rw [hyr.out]; exact hru
  have h2 : y.r.Bd := by rw [hyr.out]; exact hrb
  have hic := hru.ic
  have hsc := hru.sc
  have hfc := hru.fc
  have hcm := Lib.hid (fun (q : DV) (hq : q.d = G) W (hY : y.ok W) (hQ : q.ok W) => show Calls Try.prog 25 #[.agg y.cs, .agg q.cs] W (PK (kde 0) (commitS R G).1 W) by
    have h3 := hg.2.2.2.1
    have h4 := hg.2.2.2.2
    rw [← hq] at h3 h4
    have := ccommit_any y q W hY h1 h2 hQ h3 h4 (by have := hQ.1.len; have := hg.2.1; rw [← hq] at this; have : q.d.int.length = q.l.length := rfl; omega) (by have := hQ.2.len; have := hg.2.2.1; rw [← hq] at this; have : q.d.frac.length = q.f.length := rfl; omega)
    rw [hyr.out, hq, hC.1] at this
    exact this)
  generalize hCC : (commitS R G).1 = C at *
  have hCe : commitS R C = (C, 0) := by rw [hCa]; exact Prod.ext hCC hC.1
  clear hCa
  obtain ⟨hC0, hC1, _, hC3, hC4, hC5⟩ := hC
  have hm := mayR_lists hC1
  have hcm2 := Lib.hid (fun (q : DV) (hq : q.d = C) W (hY : y.ok W) (hQ : q.ok W) => show Calls Try.prog 25 #[.agg y.cs, .agg q.cs] W (PK (kde 0) C W) by
    subst hq
    have := ccommit_any y q W hY h1 h2 hQ (I64_of_may hm.1) (I64_of_may hm.2) (by have := hQ.1.len; have : q.d.int.length = q.l.length := rfl; omega) (by have := hQ.2.len; have : q.d.frac.length = q.f.length := rfl; omega)
    rw [hyr.out, hCe] at this
    exact this)
  have hdn := Lib.hid (fun (q : DV) (hq : q.d = C) W (hY : y.ok W) (hQ : q.ok W) => show Calls Try.prog 38 #[.agg y.cs, .agg q.cs] W (RV W (.bool true)) by
    subst hq
    have := cdone_any y q W hY h1 h2 hQ (I64_of_may hm.1) (I64_of_may hm.2) (by have := hQ.1.len; have : q.d.int.length = q.l.length := rfl; omega) (by have := hQ.2.len; have : q.d.frac.length = q.f.length := rfl; omega)
    have e : doneS y.r q.d = true := by rw [hyr.out]; unfold doneS; rw [hCe]; simp [sameD_refl]
    rw [e] at this
    exact this)
  have hmy := Lib.hid (fun (q : DV) (hq : q.d = C) W (hQ : q.ok W) => show Calls Try.prog 35 #[.agg q.cs] W (RV W (.bool true)) by
    subst hq
    have := dmay_any q.b q.p W hQ.1 hQ.2 (I64_of_may hm.1) (I64_of_may hm.2)
    have e : mayD q.b q.l q.p q.f = true := hC1
    rw [e] at this
    exact this)
  have hsm := Lib.hid (fun (q s : DV) (hq : q.d = C) (hs : s.d = C) W (hQ : q.ok W) (hS : s.ok W) => show Calls Try.prog 37 #[.agg q.cs, .agg s.cs] W (RV W (.bool true)) by
    have := dsame_any q.b q.p s.b s.p W hQ.1 hQ.2 hS.1 hS.2
    have e : sameD q.d s.d = true := by rw [hq, hs]; exact sameD_refl _
    have e' : sameD ⟨q.b, q.l, q.p, q.f⟩ ⟨s.b, s.l, s.p, s.f⟩ = true := e
    rw [e'] at this
    exact this)
  have hft := Lib.hid (fun (q : DV) (hq : q.d = C) W (hQ : q.ok W) => show Calls Try.prog 36 #[.agg q.cs, .int .i64 z.r.n.ic, .int .i64 z.r.n.fc] W (RV W (.bool true)) by
    subst hq
    have e1 : z.r.n.ic = R.n.ic := by rw [hzr.out]
    have e2 : z.r.n.fc = R.n.fc := by rw [hzr.out]
    have := dfits_any q.b q.p z.r.n.ic z.r.n.fc W hQ.1 hQ.2 (by omega) (by omega)
    have e : fitsD q.d z.r.n.ic z.r.n.fc = true := by unfold fitsD; rw [e1, e2]; simp; omega
    have e' : fitsD ⟨q.b, q.l, q.p, q.f⟩ z.r.n.ic z.r.n.fc = true := e
    rw [e'] at this
    exact this)
  have hle := Lib.hid (fun (q : DV) (hq : q.d = C) W (hQ : q.ok W) => show Calls Try.prog 39 #[.agg q.cs] W (RV W (.int .i64 (lenR C))) by
    subst hq
    exact len_any q.b q.p W hQ.1 hQ.2 (by have := hQ.1.len; have : q.d.int.length = q.l.length := rfl; omega) (by have := hQ.2.len; have : q.d.frac.length = q.f.length := rfl; omega))
  have hlen : 0 < lenR C := Int.natCast_pos.2 hC5
  have hnm := Lib.hid (fun (q : DV) (hq : q.d = C) W (hQ : q.ok W) => show z.r.n.mi ≤ (q.n : Int) ∧ z.r.n.mf ≤ (q.m : Int) ∧ (q.m : Int) ≤ z.r.n.sc by
    subst hq
    have e1 : z.r.n.mi = R.n.mi := by rw [hzr.out]
    have e2 : z.r.n.mf = R.n.mf := by rw [hzr.out]
    have e3 : z.r.n.sc = R.n.sc := by rw [hzr.out]
    have := hQ.1.len
    have := hQ.2.len
    have : q.d.int.length = q.l.length := rfl
    have : q.d.frac.length = q.f.length := rfl
    omega)
  generalize lenR C = len at *
  clear hm hC0 hC1 hC3 hC4 hC5 hCf hCe hCC h1 h2 hic hsc hfc hru hrb hyr hzr hg hx hb hdi hdf
  have hdo4 := hdo.later hB1b.later
  refine wp_calls_tail 10 8 9 (fun i => i == 2 || i == 4) ⟨by kernel_rfl, by kernel_rfl, by kernel_rfl, by kernel_rfl, by kernel_rfl, by kernel_rfl, by kernel_rfl, by kernel_rfl, by kernel_rfl⟩ rfl rfl rfl row_draft rfl rfl (by kernel_rfl) (by simp) (by simp) (z := #[.bool false, .slice none 0 0, .bool false, .slice none 0 0]) (t := 65) rfl ?_ ?_
  · intro W a K h
    go_simp
    exact h
  simp only [List.take_succ_cons, List.take_zero, List.drop_succ_cons, List.drop_zero]
  generalize hQQ : (fun (I : Inv w4) (a' : Act) => ∃ us : Array Value, _) = QQ
  have HQQ := Lib.hid hQQ
  clear hQQ
  refine QM_loadb hY4 row_rules ⟨rfl, by decide⟩ rfl rfl rfl ?_
  go_simp
  refine QM_loadb hB1b row_draft14 ⟨rfl, by decide⟩ rfl rfl rfl ?_
  go_simp
  refine wpQM_call (upD (K := kd) kd_inj G) rfl ?_ ?_
  · intro W hW
    go_simp
    exact ⟨rfl, hgd.out W (hdo4.later hW)⟩
  rintro u ⟨q, rfl, hq⟩
  unfold kd
  go_simp
  refine wpQM_step ⟨rfl, by decide⟩ (fun K hK => ?_)
  go_simp
  refine ⟨_, fun W hW => of20_any q W, hK _ ?_⟩
  clear hK K
  go_simp
  refine wpQM_call (upD (K := kde 0) kde_inj C) rfl ?_ ?_
  · intro W hW
    go_simp
    exact ⟨rfl, hcm.out q hq.out W (hyo4.later hW.1) (hW.2 q rfl hq.out)⟩
  rintro u ⟨a, rfl, ha⟩
  unfold kde
  go_simp
  refine wpQM_step ⟨rfl, by decide⟩ (fun K hK => ?_)
  go_simp
  refine ⟨_, fun _ _ => rfl, hK _ ?_⟩
  clear hK K
  go_simp
  refine wpQM_step ⟨rfl, by decide⟩ (fun K hK => ?_)
  go_simp
  refine ⟨_, fun _ _ => rfl, hK _ ?_⟩
  clear hK K
  go_simp
  refine wpQM_step ⟨rfl, by decide⟩ (fun K hK => ?_)
  go_simp
  refine ⟨_, fun _ _ => rfl, hK _ ?_⟩
  clear hK K
  go_simp
  iterate 2 (refine wpQM_pass ⟨rfl, by decide⟩ ?_)
  refine wpQM_nil ?_
  rw [← HQQ.out]
  clear HQQ QQ
  refine ⟨a.cs, rfl, rfl, by kernel_rfl, ?_⟩
  rintro W ga hA0 ⟨⟨hLW, _⟩, hFW⟩ -
  have hA := hA0.base hZ.later
  clear hA0
  have hLW : Later w4 W := hLW
  have hao : a.ok W := hFW a rfl ha.out
  have hY6 := hY4.call hLW
  have hZ6 := hZ.call hLW
  have hyo6 := hyo4.later hLW
  have hzo6 := hzo4.later hLW
  clear hFW hLW hY4 hZ hyo4 hzo4 hcm hgd hdo hdo4 hB1b hq
  go_simp
  go_upto_region 5 with fail
  go_wp2_with (first | (refine wpList_load_blk hY6 row_rules rfl rfl rfl rfl ?_; go_simp) | (refine wpList_load_blk hA row_draft rfl rfl rfl rfl ?_; go_simp))
  refine (hcm2.out a ha.out W hyo6 hao).mono ?_
  rintro e w7 ⟨b, rfl, hbd, hbo, hB7, _⟩
  unfold kde
  obtain ⟨m1, m2, m3⟩ := hnm.out a ha.out W hao
  have pZ := Blk.made w w7 65 #[.bool false, .slice none 0 0, .bool false, .slice none 0 0] (hZ6.call hB7).later _ rfl
  have hY_q := (hY6.call hB7).alloc (.cells #[.bool false, .slice none 0 0, .bool false, .slice none 0 0] 65)
  have hZ_q := (hZ6.call hB7).alloc (.cells #[.bool false, .slice none 0 0, .bool false, .slice none 0 0] 65)
  have hA_q := (hA.call hB7).alloc (.cells #[.bool false, .slice none 0 0, .bool false, .slice none 0 0] 65)
  have l1 := (hY6.call hB7).lt
  have l2 := (hZ6.call hB7).lt
  have l3 := (hA.call hB7).lt
  have a_q := (hao.below hB7).alloc (.cells #[.bool false, .slice none 0 0, .bool false, .slice none 0 0] 65)
  have a_f := (hao.below hB7).off (Nat.le_refl _)
  have b_q := hbo.alloc (.cells #[.bool false, .slice none 0 0, .bool false, .slice none 0 0] 65)
  have b_f := hbo.off (Nat.le_refl _)
  have y_q := (hyo6.later hB7).later ((Later.refl _).alloc (.cells #[.bool false, .slice none 0 0, .bool false, .slice none 0 0] 65))
  have y_f := (hyo6.later hB7).apart (Nat.le_refl _)
  go_upto_region 6 with (refine wpList_store_blk pZ row_draft rfl rfl rfl rfl rfl rfl (by kernel_rfl) ?_; intro w9 hB pS; go_simp)
  have hY := pS.far hY_q (by omega) pZ.1
  have hZ := pS.far hZ_q (by omega) pZ.1
  have hA' := pS.far hA_q (by omega) pZ.1
  have oa := a_q.sto pS a_f
  have ob := b_q.sto pS b_f
  have oy := y_q.sto pS y_f
  have hLb := hZ.later
  clear pZ hY_q hZ_q hA_q l1 l2 l3 a_q a_f b_q b_f y_q y_f hY6 hZ6 hA hao hbo hyo6 hzo6 hB7 hcm2 hnm
  generalize w7.heap.size = gb at *
  have HZ := Lib.hid (fun W (h : Later w9 W) => hZ.call h)
  have HY := Lib.hid (fun W (h : Later w9 W) => hY.call h)
  have HA := Lib.hid (fun W (h : Later w9 W) => hA'.call h)
  have HB := Lib.hid (fun W (h : Later w9 W) => hB.call h)
  have OA := Lib.hid (fun W (h : Later w9 W) => oa.later h)
  have OB := Lib.hid (fun W (h : Later w9 W) => ob.later h)
  have OY := Lib.hid (fun W (h : Later w9 W) => oy.later h)
  have s0 := Lib.hid (fun W (h : Later w9 W) => show W.cell? ⟨gz, 10, none⟩ = some (.int .i64 z.r.n.ic) from (hZ.call h).cell 10)
  have s1 := Lib.hid (fun W (h : Later w9 W) => show W.cell? ⟨gz, 11, none⟩ = some (.int .i64 z.r.n.fc) from (hZ.call h).cell 11)
  have s2 := Lib.hid (fun W (h : Later w9 W) => show W.cell? ⟨gz, 12, none⟩ = some (.int .i64 z.r.n.sc) from (hZ.call h).cell 12)
  have s3 := Lib.hid (fun W (h : Later w9 W) => show W.cell? ⟨gz, 13, none⟩ = some (.int .i64 z.r.n.mi) from (hZ.call h).cell 13)
  have s4 := Lib.hid (fun W (h : Later w9 W) => show W.cell? ⟨gz, 14, none⟩ = some (.int .i64 z.r.n.mf) from (hZ.call h).cell 14)
  have s5 := Lib.hid (fun W (h : Later w9 W) => show W.cell? ⟨ga, 1, none⟩ = some (.slice a.A a.n a.c) from (hA'.call h).cell 1)
  have s6 := Lib.hid (fun W (h : Later w9 W) => show W.cell? ⟨ga, 3, none⟩ = some (.slice a.E a.m a.q) from (hA'.call h).cell 3)
  clear hZ hY hA' hB oa ob oy pS
  have L : Later w9 w9 := Later.refl _
  simp only [List.append_eq, List.cons_append, List.nil_append]
  go_wp2_with (refine wpList_load_blkg (HA.out _ L) row_draft rfl rfl rfl rfl ?_; go_simp)
  refine (hmy.out a ha.out _ (OA.out _ L)).mono ?_
  rintro e wN ⟨rfl, hB⟩
  have L := L.call hB
  clear hB
  have t0 := s0.out _ L
  have t1 := s1.out _ L
  go_wp2_with (refine wpList_load_blkg (HA.out _ L) row_draft rfl rfl rfl rfl ?_; go_simp)
  clear t0 t1
  refine (hft.out a ha.out _ (OA.out _ L)).mono ?_
  rintro e wN ⟨rfl, hB⟩
  have L := L.call hB
  clear hB
  go_wp2_with (first | (refine wpList_load_blkg (HA.out _ L) row_draft rfl rfl rfl rfl ?_; go_simp) | (refine wpList_load_blkg (HB.out _ L) row_draft rfl rfl rfl rfl ?_; go_simp))
  refine (hsm.out a b ha.out hbd.out _ (OA.out _ L) (OB.out _ L)).mono ?_
  rintro e wN ⟨rfl, hB⟩
  have L := L.call hB
  clear hB
  go_wp2_with (first | (refine wpList_load_blkg (HY.out _ L) row_rules rfl rfl rfl rfl ?_; go_simp) | (refine wpList_load_blkg (HA.out _ L) row_draft rfl rfl rfl rfl ?_; go_simp))
  refine (hdn.out a ha.out _ (OY.out _ L) (OA.out _ L)).mono ?_
  rintro e wN ⟨rfl, hB⟩
  have L := L.call hB
  clear hB
  have t2 := s2.out _ L
  have t3 := s3.out _ L
  have t4 := s4.out _ L
  have t5 := s5.out _ L
  have t6 := s6.out _ L
  go_wp2_with (refine wpList_load_blkg (HA.out _ L) row_draft rfl rfl rfl rfl ?_; go_simp)
  clear t2 t3 t4 t5 t6
  refine (hle.out a ha.out _ (OA.out _ L)).mono ?_
  rintro e wN ⟨rfl, hB⟩
  have L := L.call hB
  clear hB
  go_wp2_with fail
  refine (lives20_any _).mono ?_
  rintro e wN ⟨rfl, hB⟩
  have L := L.call hB
  clear hB
  go_wp2_with fail
  go_ret
  exact ⟨rfl, hLb.call L⟩

end Go.Proofs.Ytickhmlhciafgaa

