/- A draft, committed, is the document's, or refused; so is the first one, and what may be typed: the walk. No condition. -/
import Derived.Test.YtickhmlhciafgaaGreatMa35
import Derived.Test.YtickhmlhciafgaaGreatMa42
namespace Go.Proofs.YtickhmlhciafgaaGreat
open Go.RowKit
set_option linter.unusedVariables false

set_option maxRecDepth 100000 in
set_option maxHeartbeats 4000000 in
theorem valueCommits_walk (w : World) (x : GV) (hx : x.ok w) (hb : x.Bd) (b1 p1 : Bool) {A1 : Option Addr} {n1 c1 : Nat} {l1 : List Int} {E1 : Option Addr} {m1 d1 : Nat} {k1 : List Int} (w1 : IL w A1 n1 c1 l1) (i1 : I64 l1) (x1 : IL w E1 m1 d1 k1) (j1 : I64 k1) :
    Calls Tryz.prog 6 #[.agg x.cs, .agg #[.bool b1, .slice A1 n1 c1, .bool p1, .slice E1 m1 d1]] w (RV w (.bool true)) := by
  obtain ⟨d, hd⟩ : ∃ d : DV, Hid (d = ⟨b1, A1, n1, c1, l1, p1, E1, m1, d1, k1⟩) := ⟨_, rfl⟩
  have hdo : d.ok w := by rw [hd.out]; exact ⟨w1, x1⟩
  have hdi : I64 d.l := by rw [hd.out]; exact i1
  have hdf : I64 d.f := by rw [hd.out]; exact j1
  have hcs : (#[.bool b1, .slice A1 n1 c1, .bool p1, .slice E1 m1 d1] : Array Value) = d.cs := by rw [hd.out]; rfl
  rw [hcs]
  clear hcs hd w1 x1 i1 j1
  have hgd := Lib.hid (fun W (hW : d.ok W) => vgood_any d 9 7 W hW hdi hdf (by omega) (by omega))
  have hg := goodD_ok d.d 9 7 (by omega) (by omega)
  generalize goodD d.d 9 7 = G at *
  obtain ⟨r, hr⟩ : ∃ r : DV, Hid (r = ⟨d.b, d.A, min d.n 9, d.c, d.l.take 9, d.p, d.E, min d.m 9, d.q, d.f.take 9⟩) := ⟨_, rfl⟩
  have hro : r.ok w := by rw [hr.out]; exact ⟨hdo.1.fewc 9, hdo.2.fewc 9⟩
  have hrs : I64 r.l ∧ I64 r.f ∧ r.n ≤ 9 ∧ r.m ≤ 9 := by rw [hr.out]; exact ⟨fun y hy => hdi y (List.mem_of_mem_take hy), fun y hy => hdf y (List.mem_of_mem_take hy), Nat.min_le_right _ _, Nat.min_le_right _ _⟩
  have hfw := Lib.hid (fun W (hW : d.ok W) => show Calls Tryz.prog 31 #[.agg d.cs, .int .i64 9] W (RV W (.agg r.cs)) by
    have hr := hr.out
    subst hr
    exact vfew14_any d 9 W hW (by omega))
  clear hr
  have hbg := Lib.hid (fun W (h : x.ok W) => begin20_any x W h hb)
  have hcok := goodG_ok x.g
  have hru := hcok.ruOk
  have hrb := hcok.ruBd
  clear hcok
  generalize (goodG x.g).ru = R at *
  have hB0 := ((Blk.made w w 28 x.cs (Later.refl w) _ rfl).alloc (.cells d.cs 64))
  have hB1 := (Blk.made w (w.alloc (.cells x.cs 28)) 64 d.cs ((Later.refl w).alloc _) (w.heap.size + 1) (by simp))
  go_enter Tryz.func6, Tryz.ntmps6
  go_upto_region 1 with fail
  generalize World.alloc (World.alloc w _) _ = w1 at *
  go_wp2_with (refine wpList_load_blk hB0 row_made13 rfl rfl rfl rfl ?_; go_simp)
  refine (hbg.out _ (hx.later hB0.later)).mono ?_
  rintro e w2 ⟨y, z, rfl, hyr, hzr, hyo, hzo, hB2⟩
  have hY0 := (Blk.made w w2 32 #[.bool false, .slice none 0 0, .int .i64 0, .bool false, .slice none 0 0, .int .i64 0, .bool false, .slice none 0 0, .int .i64 0, .bool false, .int .i64 0, .int .i64 0, .int .i64 0, .int .i64 0, .int .i64 0, .int .i64 0, .int .i64 0] (hB0.call hB2).later _ rfl).alloc (.cells #[.bool false, .slice none 0 0, .int .i64 0, .bool false, .slice none 0 0, .int .i64 0, .bool false, .slice none 0 0, .int .i64 0, .bool false, .int .i64 0, .int .i64 0, .int .i64 0, .int .i64 0, .int .i64 0, .int .i64 0, .int .i64 0] 44)
  have hZ0 := Blk.made w (w2.alloc (.cells #[.bool false, .slice none 0 0, .int .i64 0, .bool false, .slice none 0 0, .int .i64 0, .bool false, .slice none 0 0, .int .i64 0, .bool false, .int .i64 0, .int .i64 0, .int .i64 0, .int .i64 0, .int .i64 0, .int .i64 0, .int .i64 0] 32)) 44 #[.bool false, .slice none 0 0, .int .i64 0, .bool false, .slice none 0 0, .int .i64 0, .bool false, .slice none 0 0, .int .i64 0, .bool false, .int .i64 0, .int .i64 0, .int .i64 0, .int .i64 0, .int .i64 0, .int .i64 0, .int .i64 0] ((hB0.call hB2).later.alloc _) (w2.heap.size + 1) (by simp)
  have hB1a := ((hB1.call hB2).alloc (.cells #[.bool false, .slice none 0 0, .int .i64 0, .bool false, .slice none 0 0, .int .i64 0, .bool false, .slice none 0 0, .int .i64 0, .bool false, .int .i64 0, .int .i64 0, .int .i64 0, .int .i64 0, .int .i64 0, .int .i64 0, .int .i64 0] 32)).alloc (.cells #[.bool false, .slice none 0 0, .int .i64 0, .bool false, .slice none 0 0, .int .i64 0, .bool false, .slice none 0 0, .int .i64 0, .bool false, .int .i64 0, .int .i64 0, .int .i64 0, .int .i64 0, .int .i64 0, .int .i64 0, .int .i64 0] 44)
  have hB1l := (hB1.call hB2).lt
  have hyo2 := (hyo.later ((Later.refl w2).alloc (.cells #[.bool false, .slice none 0 0, .int .i64 0, .bool false, .slice none 0 0, .int .i64 0, .bool false, .slice none 0 0, .int .i64 0, .bool false, .int .i64 0, .int .i64 0, .int .i64 0, .int .i64 0, .int .i64 0, .int .i64 0, .int .i64 0] 32))).later ((Later.refl _).alloc (.cells #[.bool false, .slice none 0 0, .int .i64 0, .bool false, .slice none 0 0, .int .i64 0, .bool false, .slice none 0 0, .int .i64 0, .bool false, .int .i64 0, .int .i64 0, .int .i64 0, .int .i64 0, .int .i64 0, .int .i64 0, .int .i64 0] 44))
  have hzo2 := (hzo.later ((Later.refl w2).alloc (.cells #[.bool false, .slice none 0 0, .int .i64 0, .bool false, .slice none 0 0, .int .i64 0, .bool false, .slice none 0 0, .int .i64 0, .bool false, .int .i64 0, .int .i64 0, .int .i64 0, .int .i64 0, .int .i64 0, .int .i64 0, .int .i64 0] 32))).later ((Later.refl _).alloc (.cells #[.bool false, .slice none 0 0, .int .i64 0, .bool false, .slice none 0 0, .int .i64 0, .bool false, .slice none 0 0, .int .i64 0, .bool false, .int .i64 0, .int .i64 0, .int .i64 0, .int .i64 0, .int .i64 0, .int .i64 0, .int .i64 0] 44))
  have hyp := hyo.apart (Nat.le_refl _)
  have hzp := hzo.apart (Nat.le_refl _)
  have hyq := hyo.apart (Nat.le_succ _)
  have hzq := hzo.apart (Nat.le_succ _)
  have hsz := hB0.later.size
  have hsz2 := hB2.size
  go_upto_region 2 with (first | (refine wpList_store_blk hY0 row_rules rfl rfl rfl rfl rfl rfl (by kernel_rfl) ?_; intro w3 hY hS3; go_simp) | (refine wpList_store_blk (hS3.far hZ0 (by omega) hY0.1) row_rules13 rfl rfl rfl rfl rfl rfl (by kernel_rfl) ?_; intro w4 hZ hS4; go_simp))
  have hg0 : w.heap.size ≤ w2.heap.size := hY0.1
  have hg1 : w.heap.size ≤ w2.heap.size + 1 := by omega
  have hY4 := hS4.far hY (by omega) hg1
  have hyo4 := (hyo2.sto hS3 hyp).sto hS4 hyq
  have hzo4 := (hzo2.sto hS3 hzp).sto hS4 hzq
  have hB1b := hS4.far (hS3.far hB1a (by omega) hg0) (by omega) hg1
  clear hB0 hbg hY0 hZ0 hS3 hS4 hY hyo hzo hyo2 hzo2 hyp hzp hyq hzq hsz2 hg0 hg1 hB1 hB1a hB1l
  have hyz : w2.heap.size ≠ w2.heap.size + 1 := by omega
  generalize hgy : w2.heap.size = gy at *
  generalize gy + 1 = gz at *
  go_upto_region 4 with fail
  have hdo4 := hdo.later hB1b.later
  have hro4 := hro.later hB1b.later
  refine wp_made_tail 5 (fun i => i == 2 || i == 4) (fun i => i == 1) ⟨by kernel_rfl, by kernel_rfl, by kernel_rfl, by kernel_rfl, by kernel_rfl, by kernel_rfl, by kernel_rfl, by kernel_rfl, by kernel_rfl, by kernel_rfl⟩ ?_
  simp only [List.take_succ_cons, List.take_zero, List.drop_succ_cons, List.drop_zero]
  generalize hQQ : (fun (I : Inv w4) (a' : Act) => ∀ W, I.C W → wpList _ _ _ _ _ W) = QQ
  have HQQ := Lib.hid hQQ
  clear hQQ
  iterate 2 (refine wpFree_pass rfl ?_)
  refine FR_loadb hB1b row_draft14 rfl rfl rfl rfl ?_
  go_simp
  iterate 1 (refine wpFree_pass rfl ?_)
  refine wpFree_step rfl (fun K hK => ?_)
  go_simp
  refine ⟨_, fun _ _ => rfl, hK _ ?_⟩
  clear hK K
  go_simp
  refine wpFree_nil ?_
  refine QN_loadb hB1b row_draft14 ⟨rfl, rfl⟩ rfl rfl rfl ?_
  go_simp
  refine wpQN_call (upD (K := kd) kd_inj G) ⟨rfl, rfl⟩ ?_ ?_
  · intro W hW
    go_simp
    exact ⟨rfl, hgd.out W (hdo4.later hW)⟩
  rintro u ⟨q, rfl, hq⟩
  unfold kd
  go_simp
  refine wpQN_pass rfl ?_
  refine wpQN_step ⟨rfl, rfl⟩ (fun K hK => ?_)
  go_simp
  refine ⟨_, fun W hW => hfw.out W (hdo4.later hW.1), hK _ ?_⟩
  clear hK K
  go_simp
  refine wpQN_pass rfl ?_
  refine wpQN_nil ?_
  rw [← HQQ.out]
  clear HQQ QQ
  rintro W ⟨hLW, hFW⟩
  have hLW : Later w4 W := hLW
  have hqo : q.ok W := hFW q rfl hq.out
  have hro5 := hro4.later hLW
  have hYc := hY4.call hLW
  have hZc := hZ.call hLW
  have hyoc := hyo4.later hLW
  have hzoc := hzo4.later hLW
  clear hFW hLW hY4 hZ hyo4 hzo4 hB1b hdo hdo4 hro hro4 hgd hfw
  simp only [DV.cs]
  go_wp2_with fail
  have hL := Blk.made w W 64 #[.bool q.b, .slice q.A q.n q.c, .bool q.p, .slice q.E q.m q.q, .bool r.b, .slice r.A r.n r.c, .bool r.p, .slice r.E r.m r.q, .bool false, .slice none 0 0, .bool false, .slice none 0 0] hYc.later _ rfl
  have hYd := hYc.alloc (.cells #[.bool q.b, .slice q.A q.n q.c, .bool q.p, .slice q.E q.m q.q, .bool r.b, .slice r.A r.n r.c, .bool r.p, .slice r.E r.m r.q, .bool false, .slice none 0 0, .bool false, .slice none 0 0] 64)
  have hZd := hZc.alloc (.cells #[.bool q.b, .slice q.A q.n q.c, .bool q.p, .slice q.E q.m q.q, .bool r.b, .slice r.A r.n r.c, .bool r.p, .slice r.E r.m r.q, .bool false, .slice none 0 0, .bool false, .slice none 0 0] 64)
  have hyod := hyoc.later ((Later.refl W).alloc (.cells #[.bool q.b, .slice q.A q.n q.c, .bool q.p, .slice q.E q.m q.q, .bool r.b, .slice r.A r.n r.c, .bool r.p, .slice r.E r.m r.q, .bool false, .slice none 0 0, .bool false, .slice none 0 0] 64))
  have hzod := hzoc.later ((Later.refl W).alloc (.cells #[.bool q.b, .slice q.A q.n q.c, .bool q.p, .slice q.E q.m q.q, .bool r.b, .slice r.A r.n r.c, .bool r.p, .slice r.E r.m r.q, .bool false, .slice none 0 0, .bool false, .slice none 0 0] 64))
  have hqod := hqo.alloc (.cells #[.bool q.b, .slice q.A q.n q.c, .bool q.p, .slice q.E q.m q.q, .bool r.b, .slice r.A r.n r.c, .bool r.p, .slice r.E r.m r.q, .bool false, .slice none 0 0, .bool false, .slice none 0 0] 64)
  have hrod := hro5.alloc (.cells #[.bool q.b, .slice q.A q.n q.c, .bool q.p, .slice q.E q.m q.q, .bool r.b, .slice r.A r.n r.c, .bool r.p, .slice r.E r.m r.q, .bool false, .slice none 0 0, .bool false, .slice none 0 0] 64)
  generalize World.alloc W _ = w8 at *
  clear hYc hZc hyoc hzoc hqo hro5
  generalize W.heap.size = gl at *
  have hqs : I64 q.l ∧ I64 q.f ∧ q.n ≤ 9 ∧ q.m ≤ 9 := by
    have h3 := hg.2.2.2.1
    have h4 := hg.2.2.2.2
    have h5 := hg.2.1
    have h6 := hg.2.2.1
    rw [← hq.out] at h3 h4 h5 h6
    have e1 := hqod.1.len
    have e2 := hqod.2.len
    have e3 : q.d.int.length = q.l.length := rfl
    have e4 : q.d.frac.length = q.f.length := rfl
    exact ⟨h3, h4, by omega, by omega⟩
  obtain ⟨F, hF⟩ : ∃ F : Nat → DV, ∀ i, i < 3 → w8.rangeAt gl (i * 4) (F i).cs.toList ∧ (F i).ok w8 ∧ (I64 (F i).l ∧ I64 (F i).f ∧ (F i).n ≤ 9 ∧ (F i).m ≤ 9) := by
    refine ⟨fun i => if i = 0 then q else if i = 1 then r else DV.zero, fun i hi => ?_⟩
    have hk : i = 0 ∨ i = 1 ∨ i = 2 := by omega
    rcases hk with rfl | rfl | rfl
    · exact ⟨hL.part 0 q.cs.toList rfl, hqod, hqs⟩
    · exact ⟨hL.part 4 r.cs.toList rfl, hrod, hrs⟩
    · exact ⟨hL.part 8 DV.zero.cs.toList rfl, DV.zero_ok _, ⟨fun x hx => absurd hx List.not_mem_nil, fun x hx => absurd hx List.not_mem_nil, Nat.zero_le _, Nat.zero_le _⟩⟩
  have HF := Lib.hid hF
  have hLb := hL.later
  clear hF hL hqs hrs hqod hrod hq hg
  have h1 : y.r.Ok := by rw [hyr.out]; exact hru
  have h2 : y.r.Bd := by rw [hyr.out]; exact hrb
  have h3 : z.r.Ok := by rw [hzr.out]; exact hru
  have h4 : z.r.Bd := by rw [hzr.out]; exact hrb
  have hcm := Lib.hid (fun (a : DV) (ha : I64 a.l ∧ I64 a.f ∧ a.n ≤ 9 ∧ a.m ≤ 9) W (hY : y.ok W) (hA : a.ok W) => show Calls Tryz.prog 32 #[.agg y.cs, .agg a.cs] W (PK (kde (commitS R a.d).2) (commitS R a.d).1 W) by
    have := ccommit_any y a W hY h1 h2 hA ha.1 ha.2.1 (by omega) (by omega)
    rw [hyr.out] at this
    exact this)
  have hrm := Lib.hid (fun (a : DV) (ha : I64 a.l ∧ I64 a.f ∧ a.n ≤ 9 ∧ a.m ≤ 9) W (hZ : z.ok W) (hA : a.ok W) => show Calls Tryz.prog 33 #[.agg z.cs, .agg a.cs] W (PK (kde (commitS R a.d).2) (commitS R a.d).1 W) by
    have := rcommit20_any z a W hZ h3 h4 hA ha.1 ha.2.1 (by omega) (by omega)
    rw [hzr.out] at this
    exact this)
  have hdn := Lib.hid (fun (a : DV) (ha : I64 a.l ∧ I64 a.f ∧ a.n ≤ 9 ∧ a.m ≤ 9) W (hY : y.ok W) (hA : a.ok W) => show Calls Tryz.prog 36 #[.agg y.cs, .agg a.cs] W (RV W (.bool (doneS R a.d))) by
    have := cdone_any y a W hY h1 h2 hA ha.1 ha.2.1 (by omega) (by omega)
    rw [hyr.out] at this
    exact this)
  have hst := Lib.hid (fun W (hY : y.ok W) => show Calls Tryz.prog 37 #[.agg y.cs] W (PK kd (commitS R Dr.none).1 W) by
    have := cstart_any y W hY h1 h2
    rw [hyr.out] at this
    exact this)
  have hzl : z.lims = y.lims := by unfold RuV.lims; rw [hzr.out, hyr.out]
  clear h1 h2 h3 h4 hru hrb hyr hzr hx hb hdi hdf
  go_loopw [9] (fun v wr => ∃ i : Nat, i ≤ 3 ∧ v = .int .i64 i ∧ Later w8 wr) (fun v _ => 3 - (intOf v).toNat)
  case atStart => exact ⟨0, by omega, rfl, Later.refl _⟩
  case round =>
    obtain ⟨i, hi, rfl, hL⟩ := hrel
    by_cases hlt : i < 3
    · obtain ⟨hr1, hr2, hr3⟩ := HF.out i hlt
      generalize F i = f at *
      have hi2 : (i : Int) < 3 := by omega
      have hi0 : (0 : Int) ≤ (i : Int) := by omega
      have hYr := hYd.call hL
      have hZr := hZd.call hL
      have hyr := hyod.later hL
      have hzr := hzod.later hL
      have hfr := hr2.later hL
      have hRg := Lib.hid (rangeAt_later hr1 hL)
      have hLr := hLb.call hL
      have hc1 := Lib.hid (hcm.out f hr3)
      have hd1 := Lib.hid (hrm.out f hr3)
      have hdn1 := Lib.hid (hdn.out f hr3)
      have hD : Hid (doneS R f.d = (decide ((commitS R f.d).2 = 0) && sameD (commitS R f.d).1 f.d)) := rfl
      clear hYd hZd hyod hzod hr1 hr2 hr3 HF hrm hcm hdn hst
      generalize doneS R f.d = D at *
      generalize commitS R f.d = V at *
      obtain ⟨V, ec⟩ := V
      simp only at hc1 hd1 hD
      go_upto_region 8 with fail
      refine wp_calls_tail 12 10 11 (fun i => i == 6) ⟨by kernel_rfl, by kernel_rfl, by kernel_rfl, by kernel_rfl, by kernel_rfl, by kernel_rfl, by kernel_rfl, by kernel_rfl, by kernel_rfl⟩ rfl rfl rfl row_draft rfl rfl (by kernel_rfl) (by simp) (by simp) (z := #[.bool false, .slice none 0 0, .bool false, .slice none 0 0]) (t := 70) rfl ?_ ?_
      · intro W a K h
        go_simp
        exact h
      simp only [List.take_succ_cons, List.take_zero, List.drop_succ_cons, List.drop_zero]
      generalize hQQ : (fun (I : Inv wr) (a' : Act) => ∃ us : Array Value, _) = QQ
      have HQQ := Lib.hid hQQ
      clear hQQ
      refine QM_loadb hYr row_rules ⟨rfl, by decide⟩ rfl rfl rfl ?_
      go_simp
      refine wpQM_step ⟨rfl, by decide⟩ (fun K hK => ?_)
      go_simp
      refine ⟨_, fun _ _ => rfl, hK _ ?_⟩
      clear hK K
      go_simp
      refine wpQM_step ⟨rfl, by decide⟩ (fun K hK => ?_)
      go_simp
      refine ⟨_, fun _ _ => rfl, hK _ ?_⟩
      clear hK K
      go_simp
      refine wpQM_step ⟨rfl, by decide⟩ (fun K hK => ?_)
      go_simp
      refine ⟨_, fun _ _ => rfl, hK _ ?_⟩
      clear hK K
      go_simp
      refine QM_loadR (f.cs.toList) (fun W hW => rangeAt_later hRg.out hW) row_draft14 ⟨rfl, by decide⟩ rfl rfl rfl ?_
      go_simp
      refine wpQM_step ⟨rfl, by decide⟩ (fun K hK => ?_)
      go_simp
      refine ⟨_, fun W hW => of20_any f W, hK _ ?_⟩
      clear hK K
      go_simp
      refine wpQM_call (upD (K := kde ec) kde_inj V) rfl ?_ ?_
      · intro W hW
        go_simp
        exact ⟨rfl, hc1.out W (hyr.later hW) (hfr.later hW)⟩
      rintro u ⟨a, rfl, ha⟩
      unfold kde
      go_simp
      refine wpQM_step ⟨rfl, by decide⟩ (fun K hK => ?_)
      go_simp
      refine ⟨_, fun _ _ => rfl, hK _ ?_⟩
      clear hK K
      go_simp
      refine wpQM_step ⟨rfl, by decide⟩ (fun K hK => ?_)
      go_simp
      refine ⟨_, fun _ _ => rfl, hK _ ?_⟩
      clear hK K
      go_simp
      refine wpQM_step ⟨rfl, by decide⟩ (fun K hK => ?_)
      go_simp
      refine ⟨_, fun _ _ => rfl, hK _ ?_⟩
      clear hK K
      go_simp
      iterate 2 (refine wpQM_pass ⟨rfl, by decide⟩ ?_)
      refine wpQM_nil ?_
      rw [← HQQ.out]
      clear HQQ QQ
      refine ⟨a.cs, rfl, rfl, by kernel_rfl, ?_⟩
      rintro W2 ga hA0 ⟨hLW, hFW⟩ -
      have hA := hA0.base hLr
      have hLW : Later wr W2 := hLW
      have hao : a.ok W2 := hFW a rfl ha.out
      have hYs := hYr.call hLW
      have hZs := hZr.call hLW
      have hys := hyr.later hLW
      have hzs := hzr.later hLW
      have hfs := hfr.later hLW
      have hRs := Lib.hid (rangeAt_later hRg.out hLW)
      have hLs := hLr.call hLW
      have hL2 := hL.call hLW
      clear hFW hA0 hYr hZr hyr hzr hfr hRg hLr hLW hc1 hL
      go_simp
      go_upto_region 9 with fail
      refine wp_calls_tail 11 9 10 (fun i => i == 5) ⟨by kernel_rfl, by kernel_rfl, by kernel_rfl, by kernel_rfl, by kernel_rfl, by kernel_rfl, by kernel_rfl, by kernel_rfl, by kernel_rfl⟩ rfl rfl rfl row_draft14 rfl rfl (by kernel_rfl) (by simp) (by simp) (z := #[.bool false, .slice none 0 0, .bool false, .slice none 0 0]) (t := 64) rfl ?_ ?_
      · intro W a K h
        go_simp
        exact h
      simp only [List.take_succ_cons, List.take_zero, List.drop_succ_cons, List.drop_zero]
      generalize hQQ : (fun (I : Inv W2) (a' : Act) => ∃ us : Array Value, _) = QQ
      have HQQ := Lib.hid hQQ
      clear hQQ
      refine QM_loadb hZs row_rules13 ⟨rfl, by decide⟩ rfl rfl rfl ?_
      go_simp
      refine wpQM_step ⟨rfl, by decide⟩ (fun K hK => ?_)
      go_simp
      refine ⟨_, fun _ _ => rfl, hK _ ?_⟩
      clear hK K
      go_simp
      refine wpQM_step ⟨rfl, by decide⟩ (fun K hK => ?_)
      go_simp
      refine ⟨_, fun _ _ => rfl, hK _ ?_⟩
      clear hK K
      go_simp
      refine wpQM_step ⟨rfl, by decide⟩ (fun K hK => ?_)
      go_simp
      refine ⟨_, fun _ _ => rfl, hK _ ?_⟩
      clear hK K
      go_simp
      refine QM_loadR (f.cs.toList) (fun W hW => rangeAt_later hRs.out hW) row_draft14 ⟨rfl, by decide⟩ rfl rfl rfl ?_
      go_simp
      refine wpQM_call (upD (K := kde ec) kde_inj V) rfl ?_ ?_
      · intro W hW
        go_simp
        exact ⟨rfl, hd1.out W (hzs.later hW) (hfs.later hW)⟩
      rintro u ⟨b, rfl, hbd⟩
      unfold kde
      go_simp
      refine wpQM_step ⟨rfl, by decide⟩ (fun K hK => ?_)
      go_simp
      refine ⟨_, fun _ _ => rfl, hK _ ?_⟩
      clear hK K
      go_simp
      refine wpQM_step ⟨rfl, by decide⟩ (fun K hK => ?_)
      go_simp
      refine ⟨_, fun _ _ => rfl, hK _ ?_⟩
      clear hK K
      go_simp
      refine wpQM_step ⟨rfl, by decide⟩ (fun K hK => ?_)
      go_simp
      refine ⟨_, fun _ _ => rfl, hK _ ?_⟩
      clear hK K
      go_simp
      iterate 2 (refine wpQM_pass ⟨rfl, by decide⟩ ?_)
      refine wpQM_nil ?_
      rw [← HQQ.out]
      clear HQQ QQ
      refine ⟨b.cs, rfl, rfl, by kernel_rfl, ?_⟩
      rintro W3 gb hB0 ⟨hLW, hFW⟩ -
      have hB := hB0.base hLs
      have hLW : Later W2 W3 := hLW
      have hbo : b.ok W3 := hFW b rfl hbd.out
      have hYt := hYs.call hLW
      have hyt := hys.later hLW
      have hft := hfs.later hLW
      have hRt := Lib.hid (rangeAt_later hRs.out hLW)
      have hAt := hA.call hLW
      have hat := hao.below hLW
      have hL3 := hL2.call hLW
      clear hFW hB0 hYs hZs hys hzs hfs hRs hLs hLW hd1 hL2 hao hA
      go_simp
      go_upto_region 10 with fail
      have hs1 := Lib.hid (fun W (hW : a.ok W) (hW2 : b.ok W) => show Calls Tryz.prog 34 #[.agg a.cs, .agg b.cs] W (RV W (.bool true)) by
        have := vsame14_any a b W hW hW2
        rw [ha.out, hbd.out, sameD_refl] at this
        exact this)
      have hs2 := Lib.hid (fun W (hW : f.ok W) (hW2 : b.ok W) => show Calls Tryz.prog 34 #[.agg f.cs, .agg b.cs] W (RV W (.bool (sameD V f.d))) by
        have := vsame14_any f b W hW hW2
        rw [hbd.out, sameD_comm] at this
        exact this)
      by_cases hec : ec = 0
      · subst hec
        have e1 : D = sameD V f.d := by rw [hD.out]; simp
        rw [e1] at hdn1
        clear e1 hD
        generalize sameD V f.d = E at *
        have hE : (E != E) = false := by simp
        refine wp_region_ext (by kernel_rfl) (by kernel_rfl) ?_
        repeat (first
          | (go_big_quiet_want; refine quiet_load_blk hYt row_rules rfl rfl rfl ?_; go_simp; go_big_quiet_on)
          | (go_big_quiet_want; refine quiet_load_blk hAt row_draft rfl rfl rfl ?_; go_simp; go_big_quiet_on)
          | (go_big_quiet_want; refine quiet_load_blk hB row_draft14 rfl rfl rfl ?_; go_simp; go_big_quiet_on)
          | (go_big_quiet_want; refine quiet_load_row (l := f.cs.toList) hRt.out row_draft14 rfl rfl rfl ?_; go_simp; go_big_quiet_on)
          | (go_big_quiet_step (first
            | (go_at_call 35; exact quiet_ext _ (as20_any _ _))
            | (go_at_call 27; exact quiet_ext _ (of20_any _ _))
            | (go_at_call 36; with_reducible exact quiet_ext _ (hdn1.out _ (hyt.ext _) (hft.ext _)))
            | (go_at_call 34; with_reducible exact quiet_ext _ (hs1.out _ (hat.ext _) (hbo.ext _)))
            | (go_at_call 34; with_reducible exact quiet_ext _ (hs2.out _ (hft.ext _) (hbo.ext _))))))
        refine wpQuiet_nil ?_
        rintro _ ⟨s, rfl⟩
        go_wp2_with fail
        go_roundw
        case rel => exact ⟨i + 1, by omega, by go_num, hL3.call s.h⟩
        case measure => simp [intOf]; omega
      · have e1 : D = false := by rw [hD.out]; simp [hec]
        rw [e1] at hdn1
        have hb : (ec == (0 : Int)) = false := by simpa using hec
        clear e1 hD
        refine wp_region_ext (by kernel_rfl) (by kernel_rfl) ?_
        repeat (first
          | (go_big_quiet_want; refine quiet_load_blk hYt row_rules rfl rfl rfl ?_; go_simp; go_big_quiet_on)
          | (go_big_quiet_want; refine quiet_load_blk hAt row_draft rfl rfl rfl ?_; go_simp; go_big_quiet_on)
          | (go_big_quiet_want; refine quiet_load_blk hB row_draft14 rfl rfl rfl ?_; go_simp; go_big_quiet_on)
          | (go_big_quiet_want; refine quiet_load_row (l := f.cs.toList) hRt.out row_draft14 rfl rfl rfl ?_; go_simp; go_big_quiet_on)
          | (go_big_quiet_step (first
            | (go_at_call 35; exact quiet_ext _ (as20_any _ _))
            | (go_at_call 27; exact quiet_ext _ (of20_any _ _))
            | (go_at_call 36; with_reducible exact quiet_ext _ (hdn1.out _ (hyt.ext _) (hft.ext _)))
            | (go_at_call 34; with_reducible exact quiet_ext _ (hs1.out _ (hat.ext _) (hbo.ext _)))
            | (go_at_call 34; with_reducible exact quiet_ext _ (hs2.out _ (hft.ext _) (hbo.ext _))))))
        refine wpQuiet_nil ?_
        rintro _ ⟨s, rfl⟩
        go_wp2_with fail
        go_roundw
        case rel => exact ⟨i + 1, by omega, by go_num, hL3.call s.h⟩
        case measure => simp [intOf]; omega
    · have hk : i = 3 := by omega
      subst hk
      have hYr := hYd.call hL
      have hZr := hZd.call hL
      have hyr := hyod.later hL
      have hzr := hzod.later hL
      have hz0 := Lib.hid (hrm.out DV.zero ⟨fun x hx => absurd hx List.not_mem_nil, fun x hx => absurd hx List.not_mem_nil, Nat.zero_le _, Nat.zero_le _⟩)
      have hzd : DV.zero.d = Dr.none := rfl
      rw [hzd] at hz0
      clear hrm hcm hdn hYd hZd hyod hzod HF hzd
      generalize commitS R Dr.none = C0 at *
      obtain ⟨C0, e0⟩ := C0
      simp only at hz0 hst
      go_wp2_with (refine wpList_load_blkg (hZr) row_rules13 rfl rfl rfl rfl ?_; go_simp)
      refine (hz0.out _ hzr (DV.zero_ok _)).mono ?_
      rintro e W5 ⟨s, rfl, hs, hso, hC, _⟩
      unfold kde
      have pZ := Blk.made w W5 64 #[.bool false, .slice none 0 0, .bool false, .slice none 0 0] (hYr.call hC).later _ rfl
      have hYv_l := (hYr.call hC).lt
      have hYv_q := (hYr.call hC).alloc (.cells #[.bool false, .slice none 0 0, .bool false, .slice none 0 0] 64)
      have hZv_l := (hZr.call hC).lt
      have hZv_q := (hZr.call hC).alloc (.cells #[.bool false, .slice none 0 0, .bool false, .slice none 0 0] 64)
      have hyv_f := (hyr.later hC).apart (Nat.le_refl _)
      have hyv_q := (hyr.later hC).later ((Later.refl _).alloc (.cells #[.bool false, .slice none 0 0, .bool false, .slice none 0 0] 64))
      have hsv_f := (hso).off (Nat.le_refl _)
      have hsv_q := (hso).alloc (.cells #[.bool false, .slice none 0 0, .bool false, .slice none 0 0] 64)
      go_upto_region 13 with (first | (refine wpList_store_blk pZ row_draft14 rfl rfl rfl rfl rfl rfl (by kernel_rfl) ?_; intro W6 hS pS; go_simp))
      have hYv := pS.far hYv_q (by omega) pZ.1
      have hZv := pS.far hZv_q (by omega) pZ.1
      have hyv := hyv_q.sto pS hyv_f
      have hsv := hsv_q.sto pS hsv_f
      clear pZ pS hYv_l hYv_q hZv_l hZv_q hyv_f hyv_q hsv_f hsv_q
      clear hC hYr hZr hyr hzr hso hz0 hLb hL
      generalize W5.heap.size = gs at *
      have hLz := hS.later
      refine wp_region_held (S := fun W => Blk w gy 32 y.cs W ∧ Blk w gz 44 z.cs W ∧ Blk w gs 64 s.cs W) (by kernel_rfl) ?_
      have hH : Blk w gy 32 y.cs W6.drew ∧ Blk w gz 44 z.cs W6.drew ∧ Blk w gs 64 s.cs W6.drew := ⟨hYv.drew, hZv.drew, hS.drew⟩
      have hyd := hyv.later ((Later.refl W6).drew)
      have hsd := hsv.later ((Later.refl W6).drew)
      change wpAnyH _ _ _ _ _ _ _ _ W6.drew
      generalize W6.drew = V6 at *
      refine wpAnyH_take (i := 0) (v := .agg y.cs) rfl (by kernel_rfl) (by kernel_rfl) (by kernel_rfl) (fun _ _ _ h => h) (yieldsIf_blk (fun W hW => hW.1) row_rules rfl rfl rfl rfl) hH ?_
      go_simp
      refine wpAnyH_take (i := 3) (v := .agg s.cs) rfl (by kernel_rfl) (by kernel_rfl) (by kernel_rfl) (fun _ _ _ h => h) (yieldsIf_blk (fun W hW => hW.2.2) row_draft14 rfl rfl rfl rfl) hH ?_
      go_simp
      refine wpAnyH_one (i := 1) (by kernel_rfl) rfl rfl (fun K hK => ?_)
      go_simp
      refine (hst.out _ hyd).mono ?_
      rintro e W7 ⟨u, rfl, hu, huo, hC, _⟩
      have hH := (⟨hH.1.call hC, hH.2.1.call hC, hH.2.2.call hC⟩ : Blk w gy 32 y.cs W7 ∧ Blk w gz 44 z.cs W7 ∧ Blk w gs 64 s.cs W7)
      have hsd := hsd.below hC
      refine hK.out _ _ hH ?_
      clear hK K hC hyd
      unfold kd
      go_simp
      refine wpAnyH_one (i := 2) (by kernel_rfl) rfl rfl (fun K hK => ?_)
      go_simp
      refine (as20_any u _).mono ?_
      rintro e W8 ⟨rfl, hC⟩
      have hH := (⟨hH.1.call hC, hH.2.1.call hC, hH.2.2.call hC⟩ : Blk w gy 32 y.cs W8 ∧ Blk w gz 44 z.cs W8 ∧ Blk w gs 64 s.cs W8)
      have hsd := hsd.below hC
      have huo := huo.below hC
      refine hK.out _ _ hH ?_
      clear hK K hC
      go_simp
      refine wpAnyH_one (i := 4) (by kernel_rfl) rfl rfl (fun K hK => ?_)
      go_simp
      refine (show Calls Tryz.prog 34 #[.agg u.cs, .agg s.cs] W8 (RV W8 (.bool true)) by
        have := vsame14_any u s W8 huo hsd
        rw [hu.out, hs.out, sameD_refl] at this
        exact this).mono ?_
      rintro e W9 ⟨rfl, hC⟩
      have hH := (⟨hH.1.call hC, hH.2.1.call hC, hH.2.2.call hC⟩ : Blk w gy 32 y.cs W9 ∧ Blk w gz 44 z.cs W9 ∧ Blk w gs 64 s.cs W9)
      refine hK.out _ _ hH ?_
      clear hK K hC huo hsd hu hs
      go_simp
      refine wpAnyH_take (i := 5) (v := .bool true) rfl (by kernel_rfl) (by kernel_rfl) (by kernel_rfl) (fun _ _ _ h => h) (.inl ⟨rfl, fun W hW => rfl⟩) hH ?_
      go_simp
      refine wpAnyH_take (i := 6) (v := .agg y.cs) rfl (by kernel_rfl) (by kernel_rfl) (by kernel_rfl) (fun _ _ _ h => h) (yieldsIf_blk (fun W hW => hW.1) row_rules rfl rfl rfl rfl) hH ?_
      go_simp
      refine wpAnyH_take (i := 8) (v := .agg z.cs) rfl (by kernel_rfl) (by kernel_rfl) (by kernel_rfl) (fun _ _ _ h => h) (yieldsIf_blk (fun W hW => hW.2.1) row_rules13 rfl rfl rfl rfl) hH ?_
      go_simp
      refine wpAnyH_one (i := 7) (by kernel_rfl) rfl rfl (fun K hK => ?_)
      go_simp
      refine (climits_any y _).mono ?_
      rintro e Wa ⟨rfl, hC⟩
      have hH := (⟨hH.1.call hC, hH.2.1.call hC, hH.2.2.call hC⟩ : Blk w gy 32 y.cs Wa ∧ Blk w gz 44 z.cs Wa ∧ Blk w gs 64 s.cs Wa)
      refine hK.out _ _ hH ?_
      clear hK K hC
      go_simp
      refine wpAnyH_one (i := 9) (by kernel_rfl) rfl rfl (fun K hK => ?_)
      go_simp
      refine (rlimits20_any z _).mono ?_
      rintro e Wb ⟨rfl, hC⟩
      have hH := (⟨hH.1.call hC, hH.2.1.call hC, hH.2.2.call hC⟩ : Blk w gy 32 y.cs Wb ∧ Blk w gz 44 z.cs Wb ∧ Blk w gs 64 s.cs Wb)
      refine hK.out _ _ hH ?_
      clear hK K hC
      rw [hzl]
      unfold RuV.lims
      go_simp
      refine wpAnyH_take (i := 10) (v := .bool true) rfl (by kernel_rfl) (by kernel_rfl) (by kernel_rfl) (fun _ _ _ h => h) (.inl ⟨rfl, fun W hW => by go_simp⟩) hH ?_
      go_simp
      refine wpAnyH_take (i := 11) (v := .bool true) rfl (by kernel_rfl) (by kernel_rfl) (by kernel_rfl) (fun _ _ _ h => h) (.inl ⟨rfl, fun W hW => rfl⟩) hH ?_
      go_simp
      refine wpAnyH_take (i := 12) (v := .bool true) rfl (by kernel_rfl) (by kernel_rfl) (by kernel_rfl) (fun _ _ _ h => h) (.inl ⟨rfl, fun W hW => rfl⟩) hH ?_
      go_simp
      refine wpAnyH_one (i := 13) (by kernel_rfl) rfl rfl (fun K hK => ?_)
      go_simp
      refine (lives20_any _).mono ?_
      rintro e Wc ⟨rfl, hC⟩
      have hH := (⟨hH.1.call hC, hH.2.1.call hC, hH.2.2.call hC⟩ : Blk w gy 32 y.cs Wc ∧ Blk w gz 44 z.cs Wc ∧ Blk w gs 64 s.cs Wc)
      refine hK.out _ _ hH ?_
      clear hK K hC
      go_simp
      refine wpAnyH_take (i := 14) (v := .bool true) rfl (by kernel_rfl) (by kernel_rfl) (by kernel_rfl) (fun _ _ _ h => h) (.inl ⟨rfl, fun W hW => rfl⟩) hH ?_
      go_simp
      refine wpAnyH_one (i := 15) (by kernel_rfl) rfl rfl (fun K hK => ?_)
      go_simp
      refine hK.out _ _ hH ?_
      clear hK K
      go_simp
      refine wpAnyH_done (by kernel_rfl) ?_ _
      go_wp2_with fail
      go_ret
      exact ⟨rfl, hH.1.later⟩

end Go.Proofs.YtickhmlhciafgaaGreat

