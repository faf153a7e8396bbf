/- The walks of Edges (both). No condition. -/
import Derived.Test.YtickhmlhciafgaaGreatMa38
import Derived.Test.YtickhmlhciafgaaGreatMa39
import Derived.Test.YtickhmlhciafgaaGreatMa40
import Derived.Test.YtickhmlhciafgaaGreatMa08
namespace Go.Proofs.YtickhmlhciafgaaGreat
open Go.RowKit
set_option linter.unusedVariables false

theorem vfrom14_any (x : NV) (i j : Int) (w : World) (hx : x.ok w) (hr : x.Rd 9000) (hi : -9223372036854775808 ≤ i ∧ i ≤ 9223372036854775807) (hj : -9223372036854775808 ≤ j ∧ j ≤ 9223372036854775807) :
    Calls Tryz.prog 73 #[.agg x.cs, .int .i64 i, .int .i64 j] w (PK (kde (fromS x.D i j).2) (fromS x.D i j).1 w) :=
  (rfrom_any x.D.neg x.D.s i j w hx hr.i (by have := hx.len; have := hr.n; omega) hr.s hi hj).mono fun _ _ h => h.pk
theorem value_fin {r : Ru} (hr : r.Ok) {S : Dc} (hS : mayDc S = true) (hl : S.l.length ≤ 2000) : mayDc (valueC r S).1 = true ∧ (valueC r S).1.l.length ≤ 2100 :=
  ⟨(value_in hr hS).1, value_len hr hS (by have := hr.lens.1; omega) (by have := hr.lens.2.1; omega) hl⟩
set_option maxRecDepth 100000 in
set_option maxHeartbeats 4000000 in
theorem rcommit20_any (y : RuV) (x : DV) (w : World) (hy : y.ok w) (hr : y.r.Ok) (hb : y.r.Bd) (hx : x.ok w) (hi : I64 x.l) (hf : I64 x.f) (n1 : x.n ≤ 100) (n2 : x.m ≤ 100) :
    Calls Tryz.prog 33 #[.agg y.cs, .agg x.cs] w (PK (kde (commitS y.r x.d).2) (commitS y.r x.d).1 w) := by
  have e1 := hx.1.len
  have e2 := hx.2.len
  have hXl := decD_len x.d
  have e3 : x.d.int.length = x.l.length := rfl
  have e4 : x.d.frac.length = x.f.length := rfl
  have hC : Hid (commitS y.r x.d = if mayD x.b x.l x.p x.f then (if (valueC y.r (decD x.d)).2 = 0 then fromS (valueC y.r (decD x.d)).1 y.r.n.mi y.r.n.mf else (Dr.none, (valueC y.r (decD x.d)).2)) else (Dr.none, 1)) := rfl
  have hmy := Lib.hid (fun W (hW : x.ok W) => show Calls Tryz.prog 72 #[.agg x.cs] W (RV W (.bool (mayD x.b x.l x.p x.f))) from rdmay_any x.b x.p W hW.1 hW.2)
  have hde := Lib.hid (fun W (hW : x.ok W) => vdec14_any x W hW hi hf (by omega) (by omega))
  have hVm : mayD x.b x.l x.p x.f = true → (valueC y.r (decD x.d)).2 = 0 → mayDc (valueC y.r (decD x.d)).1 = true ∧ (valueC y.r (decD x.d)).1.l.length ≤ 2100 := fun hm _ => value_fin hr (decD_may (d := x.d) hm (by omega)) (by omega)
  have hva := Lib.hid (fun (hm : mayD x.b x.l x.p x.f = true) (z : NV) (hz : z.D = decD x.d) W (hW : y.ok W) (hZ : z.ok W) => show Calls Tryz.prog 16 #[.agg y.cs, .agg z.cs] W (PQ (kce (valueC y.r (decD x.d)).2) (valueC y.r (decD x.d)).1 W) by
    have hd := decD_may (d := x.d) hm (by omega)
    rw [← hz] at hd hXl ⊢
    exact rvalue_any y z W hW hZ hb ⟨(may_bd hd).1, (may_bd hd).2, by omega⟩)
  have hB0 := (((Blk.made w w 44 y.cs (Later.refl w) _ rfl).alloc (.cells x.cs 64)).alloc (.cells #[.bool false, .slice none 0 0, .bool false, .slice none 0 0] 64))
  have hB1 := ((Blk.made w (w.alloc (.cells y.cs 44)) 64 x.cs ((Later.refl w).alloc _) (w.heap.size + 1) (by simp)).alloc (.cells #[.bool false, .slice none 0 0, .bool false, .slice none 0 0] 64))
  have hR := (Blk.made w ((w.alloc (.cells y.cs 44)).alloc (.cells x.cs 64)) 64 #[.bool false, .slice none 0 0, .bool false, .slice none 0 0] (((Later.refl w).alloc _).alloc _) (w.heap.size + 2) (by simp))
  generalize commitS y.r x.d = G at *
  generalize valueC y.r (decD x.d) = V at *
  generalize decD x.d = X at *
  obtain ⟨V, ec⟩ := V
  simp only at hC hVm hva
  go_enter Tryz.func33, Tryz.ntmps33
  go_upto_region 1 with fail
  generalize World.alloc (World.alloc (World.alloc w _) _) _ = w1 at *
  cases hmd : mayD x.b x.l x.p x.f
  · rw [hmd] at hmy hC
    rw [if_neg (by simp)] at hC
    clear hmd
    go_wp2_with (refine wpList_load_blk hB1 row_draft14 rfl rfl rfl rfl ?_; go_simp)
    refine (hmy.out _ (hx.later hB1.later)).mono ?_
    rintro e w2 ⟨rfl, hB2⟩
    have hR2 := hR.call hB2
    go_wp2_with (refine wpList_store_blk hR2 row_draft14 rfl rfl rfl rfl rfl rfl (by kernel_rfl) ?_; intro w9 hR9 hS9; go_simp)
    rw [hC.out]
    exact bodyPost_ret (results_ct hR9 row_draft14 rfl Tryz.results33 rfl rfl) rfl ⟨DV.zero, rfl, rfl, DV.zero_ok _, hS9.below hR2.later (by omega), ⟨none_newer _, none_newer _⟩⟩
  · rw [hmd] at hmy hC
    rw [if_pos rfl] at hC
    replace hva := Lib.hid (hva.out hmd)
    try replace hVm := hVm hmd
    clear hmd
    go_wp2_with (refine wpList_load_blk hB1 row_draft14 rfl rfl rfl rfl ?_; go_simp)
    refine (hmy.out _ (hx.later hB1.later)).mono ?_
    rintro e w2 ⟨rfl, hB2⟩
    have hX2 := hB0.call hB2
    have hE2 := hB1.call hB2
    have hR2 := hR.call hB2
    have hx2 := hx.later hE2.later
    have hy2 := hy.later hE2.later
    clear hB0 hB1 hR hB2
    go_upto_region 4 with fail
    refine wp_calls_tail 9 7 8 (fun i => i == 2 || i == 3) ⟨by kernel_rfl, by kernel_rfl, by kernel_rfl, by kernel_rfl, by kernel_rfl, by kernel_rfl, by kernel_rfl, by kernel_rfl, by kernel_rfl⟩ rfl rfl rfl row_dec6 rfl rfl (by kernel_rfl) (by simp) (by simp) (z := #[.bool false, .slice none 0 0, .int .i64 0]) (t := 24) rfl ?_ ?_
    · intro W a K h
      go_simp
      exact h
    simp only [List.take_succ_cons, List.take_zero, List.drop_succ_cons, List.drop_zero]
    generalize hQQ : (fun (I : Inv w2) (a' : Act) => ∃ us : Array Value, _) = QQ
    have HQQ := Lib.hid hQQ
    clear hQQ
    refine QM_loadb hX2 row_rules13 ⟨rfl, by decide⟩ rfl rfl rfl ?_
    go_simp
    refine QM_loadb hE2 row_draft14 ⟨rfl, by decide⟩ rfl rfl rfl ?_
    go_simp
    refine wpQM_call (upQ (K := kc) kc_inj X) rfl ?_ ?_
    · intro W hW
      go_simp
      exact ⟨rfl, hde.out W (hx2.later hW)⟩
    rintro u ⟨z, rfl, hz⟩
    unfold kc
    go_simp
    refine wpQM_call (upQ (K := kce ec) kce_inj V) rfl ?_ ?_
    · intro W hW
      go_simp
      exact ⟨rfl, hva.out z hz.out W (hy2.later hW.1) (hW.2 z rfl hz.out)⟩
    rintro u ⟨q, rfl, hq⟩
    unfold kce
    go_simp
    refine wpQM_step ⟨rfl, by decide⟩ (fun K hK => ?_)
    go_simp
    refine ⟨_, fun _ _ => rfl, hK _ ?_⟩
    clear hK K
    go_simp
    refine wpQM_step ⟨rfl, by decide⟩ (fun K hK => ?_)
    go_simp
    refine ⟨_, fun _ _ => rfl, hK _ ?_⟩
    clear hK K
    go_simp
    refine wpQM_step ⟨rfl, by decide⟩ (fun K hK => ?_)
    go_simp
    refine ⟨_, fun _ _ => rfl, hK _ ?_⟩
    clear hK K
    go_simp
    iterate 2 (refine wpQM_pass ⟨rfl, by decide⟩ ?_)
    refine wpQM_nil ?_
    rw [← HQQ.out]
    clear HQQ QQ
    refine ⟨q.cs, rfl, rfl, by kernel_rfl, ?_⟩
    rintro W gb hP ⟨⟨hLW, _⟩, hFW⟩ -
    have hLW : Later w2 W := hLW
    have hqo : q.ok W := hFW q rfl hq.out
    have hX3 := hX2.call hLW
    have hR3 := hR2.call hLW
    clear hFW hX2 hE2 hR2 hx2 hy2 hLW hva hde hmy hz
    go_simp
    by_cases hec : ec = 0
    · subst hec
      rw [if_pos rfl] at hC
      obtain ⟨m1, m2⟩ := hVm rfl
      have hfr := Lib.hid (fun W (hW : q.ok W) => show Calls Tryz.prog 73 #[.agg q.cs, .int .i64 y.r.n.mi, .int .i64 y.r.n.mf] W (PK (kde (fromS V y.r.n.mi y.r.n.mf).2) (fromS V y.r.n.mi y.r.n.mf).1 W) by
        have hq := hq.out
        subst hq
        have := hr.mini
        exact vfrom14_any q _ _ W hW ⟨(may_bd m1).1, (may_bd m1).2, by omega⟩ (by omega) (by omega))
      have q0 : W.cell? ⟨w.heap.size, 13, none⟩ = some (.int .i64 y.r.n.mi) := hX3.cell 13
      have q1 : W.cell? ⟨w.heap.size, 14, none⟩ = some (.int .i64 y.r.n.mf) := hX3.cell 14
      have hl3 := hR3.lt
      go_wp2_with (refine wpList_load_blkg (hP) row_dec6 rfl rfl rfl rfl ?_; go_simp)
      refine (hfr.out _ hqo).mono ?_
      rintro e w5 ⟨s, rfl, hs, hso, hB5, hsn⟩
      have hR5 := hR3.call hB5
      clear q0 q1
      unfold kde
      go_wp2_with (refine wpList_store_blk hR5 row_draft14 rfl rfl rfl rfl rfl rfl (by kernel_rfl) ?_; intro w9 hR9 hS9; go_simp)
      rw [hC.out]
      exact bodyPost_ret (results_ct hR9 row_draft14 rfl Tryz.results33 rfl rfl) rfl ⟨s, rfl, hs, hso.sto hS9 (hsn.off hl3), hS9.below hR5.later (by omega), hsn.mono hR3.later.size⟩
    · rw [if_neg hec] at hC
      have hb : (ec != (0 : Int)) = true := by simpa using hec
      go_wp2_with (refine wpList_store_blk hR3 row_draft14 rfl rfl rfl rfl rfl rfl (by kernel_rfl) ?_; intro w9 hR9 hS9; go_simp)
      rw [hC.out]
      exact bodyPost_ret (results_ct hR9 row_draft14 rfl Tryz.results33 rfl rfl) rfl ⟨DV.zero, rfl, rfl, DV.zero_ok _, hS9.below hR3.later (by omega), ⟨none_newer _, none_newer _⟩⟩
set_option maxRecDepth 100000 in
set_option maxHeartbeats 4000000 in
theorem rstep20_any (y : RuV) (x : DV) (k : Int) (w : World) (hy : y.ok w) (hr : y.r.Ok) (hb : y.r.Bd) (hx : x.ok w) (hi : I64 x.l) (hf : I64 x.f) (n1 : x.n ≤ 100) (n2 : x.m ≤ 100) (hk : -9223372036854775808 ≤ k ∧ k ≤ 9223372036854775807) :
    Calls Tryz.prog 41 #[.agg y.cs, .agg x.cs, .int .i64 k] w (PK (kde (stepS y.r x.d k).2) (stepS y.r x.d k).1 w) := by
  have e1 := hx.1.len
  have e2 := hx.2.len
  have hXl := decD_len x.d
  have e3 : x.d.int.length = x.l.length := rfl
  have e4 : x.d.frac.length = x.f.length := rfl
  have hC : Hid (stepS y.r x.d k = if mayD x.b x.l x.p x.f then (if (moveC y.r (decD x.d) k).2 = 0 then fromS (moveC y.r (decD x.d) k).1 y.r.n.mi y.r.n.mf else (Dr.none, (moveC y.r (decD x.d) k).2)) else (Dr.none, 1)) := rfl
  have hmy := Lib.hid (fun W (hW : x.ok W) => show Calls Tryz.prog 72 #[.agg x.cs] W (RV W (.bool (mayD x.b x.l x.p x.f))) from rdmay_any x.b x.p W hW.1 hW.2)
  have hde := Lib.hid (fun W (hW : x.ok W) => vdec14_any x W hW hi hf (by omega) (by omega))
  have hVm : (moveC y.r (decD x.d) k).2 = 0 → mayDc (moveC y.r (decD x.d) k).1 = true ∧ (moveC y.r (decD x.d) k).1.l.length ≤ 2100 := fun h => by
    obtain ⟨S, s1, s2, s3⟩ := move_is hr (by omega) h
    rw [s3]
    exact value_fin hr s1 s2
  have hva := Lib.hid (fun (hm : mayD x.b x.l x.p x.f = true) (z : NV) (hz : z.D = decD x.d) W (hW : y.ok W) (hZ : z.ok W) => show Calls Tryz.prog 23 #[.agg y.cs, .agg z.cs, .int .i64 k] W (PQ (kce (moveC y.r (decD x.d) k).2) (moveC y.r (decD x.d) k).1 W) by
    have hd := decD_may (d := x.d) hm (by omega)
    subst_vars
    rw [← hz] at hd hXl ⊢
    exact rmove_any y z k W hW hZ hb (by have := hr.lens.2.2; omega) ⟨(may_bd hd).1, (may_bd hd).2, by omega⟩ hk)
  have hB0 := (((Blk.made w w 44 y.cs (Later.refl w) _ rfl).alloc (.cells x.cs 64)).alloc (.cells #[.bool false, .slice none 0 0, .bool false, .slice none 0 0] 64))
  have hB1 := ((Blk.made w (w.alloc (.cells y.cs 44)) 64 x.cs ((Later.refl w).alloc _) (w.heap.size + 1) (by simp)).alloc (.cells #[.bool false, .slice none 0 0, .bool false, .slice none 0 0] 64))
  have hR := (Blk.made w ((w.alloc (.cells y.cs 44)).alloc (.cells x.cs 64)) 64 #[.bool false, .slice none 0 0, .bool false, .slice none 0 0] (((Later.refl w).alloc _).alloc _) (w.heap.size + 2) (by simp))
  generalize stepS y.r x.d k = G at *
  generalize moveC y.r (decD x.d) k = V at *
  generalize decD x.d = X at *
  obtain ⟨V, ec⟩ := V
  simp only at hC hVm hva
  go_enter Tryz.func41, Tryz.ntmps41
  go_upto_region 1 with fail
  generalize World.alloc (World.alloc (World.alloc w _) _) _ = w1 at *
  cases hmd : mayD x.b x.l x.p x.f
  · rw [hmd] at hmy hC
    rw [if_neg (by simp)] at hC
    clear hmd
    go_wp2_with (refine wpList_load_blk hB1 row_draft14 rfl rfl rfl rfl ?_; go_simp)
    refine (hmy.out _ (hx.later hB1.later)).mono ?_
    rintro e w2 ⟨rfl, hB2⟩
    have hR2 := hR.call hB2
    go_wp2_with (refine wpList_store_blk hR2 row_draft14 rfl rfl rfl rfl rfl rfl (by kernel_rfl) ?_; intro w9 hR9 hS9; go_simp)
    rw [hC.out]
    exact bodyPost_ret (results_ct hR9 row_draft14 rfl Tryz.results41 rfl rfl) rfl ⟨DV.zero, rfl, rfl, DV.zero_ok _, hS9.below hR2.later (by omega), ⟨none_newer _, none_newer _⟩⟩
  · rw [hmd] at hmy hC
    rw [if_pos rfl] at hC
    replace hva := Lib.hid (hva.out hmd)
    skip
    clear hmd
    go_wp2_with (refine wpList_load_blk hB1 row_draft14 rfl rfl rfl rfl ?_; go_simp)
    refine (hmy.out _ (hx.later hB1.later)).mono ?_
    rintro e w2 ⟨rfl, hB2⟩
    have hX2 := hB0.call hB2
    have hE2 := hB1.call hB2
    have hR2 := hR.call hB2
    have hx2 := hx.later hE2.later
    have hy2 := hy.later hE2.later
    clear hB0 hB1 hR hB2
    go_upto_region 4 with fail
    refine wp_free_tail 10 8 9 (fun i => i == 3) (fun i => i == 2 || i == 4) ⟨by kernel_rfl, by kernel_rfl, by kernel_rfl, by kernel_rfl, by kernel_rfl, by kernel_rfl, by kernel_rfl, by kernel_rfl, by kernel_rfl, by kernel_rfl, by kernel_rfl⟩ rfl rfl rfl row_dec6 rfl rfl (by kernel_rfl) (by simp) (by simp) (z := #[.bool false, .slice none 0 0, .int .i64 0]) (t := 24) rfl ?_ ?_
    · intro W a K h
      go_simp
      exact h
    simp only [List.take_succ_cons, List.take_zero, List.drop_succ_cons, List.drop_zero]
    generalize hQQ : (fun (I : Inv w2) (a' : Act) => ∃ us : Array Value, _) = QQ
    have HQQ := Lib.hid hQQ
    clear hQQ
    iterate 3 (refine wpFree_pass rfl ?_)
    refine wpFree_step rfl (fun K hK => ?_)
    go_simp
    refine ⟨_, fun _ _ => rfl, hK _ ?_⟩
    clear hK K
    go_simp
    iterate 6 (refine wpFree_pass rfl ?_)
    refine wpFree_nil ?_
    refine QF_loadb hX2 row_rules13 ⟨rfl, rfl, by decide⟩ rfl rfl rfl ?_
    go_simp
    refine QF_loadb hE2 row_draft14 ⟨rfl, rfl, by decide⟩ rfl rfl rfl ?_
    go_simp
    refine wpQF_call (upQ (K := kc) kc_inj X) ⟨rfl, rfl⟩ ?_ ?_
    · intro W hW
      go_simp
      exact ⟨rfl, hde.out W (hx2.later hW)⟩
    rintro u ⟨z, rfl, hz⟩
    unfold kc
    go_simp
    iterate 1 (refine wpQF_free rfl ?_)
    refine wpQF_call (upQ (K := kce ec) kce_inj V) ⟨rfl, rfl⟩ ?_ ?_
    · intro W hW
      go_simp
      exact ⟨rfl, hva.out z hz.out W (hy2.later hW.1) (hW.2 z rfl hz.out)⟩
    rintro u ⟨q, rfl, hq⟩
    unfold kce
    go_simp
    refine wpQF_step ⟨rfl, rfl, by decide⟩ (fun K hK => ?_)
    go_simp
    refine ⟨_, fun _ _ => rfl, hK _ ?_⟩
    clear hK K
    go_simp
    refine wpQF_step ⟨rfl, rfl, by decide⟩ (fun K hK => ?_)
    go_simp
    refine ⟨_, fun _ _ => rfl, hK _ ?_⟩
    clear hK K
    go_simp
    refine wpQF_step ⟨rfl, rfl, by decide⟩ (fun K hK => ?_)
    go_simp
    refine ⟨_, fun _ _ => rfl, hK _ ?_⟩
    clear hK K
    go_simp
    iterate 2 (refine wpQF_pass ⟨rfl, rfl, by decide⟩ ?_)
    refine wpQF_nil ?_
    rw [← HQQ.out]
    clear HQQ QQ
    refine ⟨q.cs, rfl, rfl, by kernel_rfl, ?_⟩
    rintro W gb hP ⟨⟨hLW, _⟩, hFW⟩ -
    have hLW : Later w2 W := hLW
    have hqo : q.ok W := hFW q rfl hq.out
    have hX3 := hX2.call hLW
    have hR3 := hR2.call hLW
    clear hFW hX2 hE2 hR2 hx2 hy2 hLW hva hde hmy hz
    go_simp
    by_cases hec : ec = 0
    · subst hec
      rw [if_pos rfl] at hC
      obtain ⟨m1, m2⟩ := hVm rfl
      have hfr := Lib.hid (fun W (hW : q.ok W) => show Calls Tryz.prog 73 #[.agg q.cs, .int .i64 y.r.n.mi, .int .i64 y.r.n.mf] W (PK (kde (fromS V y.r.n.mi y.r.n.mf).2) (fromS V y.r.n.mi y.r.n.mf).1 W) by
        have hq := hq.out
        subst hq
        have := hr.mini
        exact vfrom14_any q _ _ W hW ⟨(may_bd m1).1, (may_bd m1).2, by omega⟩ (by omega) (by omega))
      have q0 : W.cell? ⟨w.heap.size, 13, none⟩ = some (.int .i64 y.r.n.mi) := hX3.cell 13
      have q1 : W.cell? ⟨w.heap.size, 14, none⟩ = some (.int .i64 y.r.n.mf) := hX3.cell 14
      have hl3 := hR3.lt
      go_wp2_with (refine wpList_load_blkg (hP) row_dec6 rfl rfl rfl rfl ?_; go_simp)
      refine (hfr.out _ hqo).mono ?_
      rintro e w5 ⟨s, rfl, hs, hso, hB5, hsn⟩
      have hR5 := hR3.call hB5
      clear q0 q1
      unfold kde
      go_wp2_with (refine wpList_store_blk hR5 row_draft14 rfl rfl rfl rfl rfl rfl (by kernel_rfl) ?_; intro w9 hR9 hS9; go_simp)
      rw [hC.out]
      exact bodyPost_ret (results_ct hR9 row_draft14 rfl Tryz.results41 rfl rfl) rfl ⟨s, rfl, hs, hso.sto hS9 (hsn.off hl3), hS9.below hR5.later (by omega), hsn.mono hR3.later.size⟩
    · rw [if_neg hec] at hC
      have hb : (ec != (0 : Int)) = true := by simpa using hec
      go_wp2_with (refine wpList_store_blk hR3 row_draft14 rfl rfl rfl rfl rfl rfl (by kernel_rfl) ?_; intro w9 hR9 hS9; go_simp)
      rw [hC.out]
      exact bodyPost_ret (results_ct hR9 row_draft14 rfl Tryz.results41 rfl rfl) rfl ⟨DV.zero, rfl, rfl, DV.zero_ok _, hS9.below hR3.later (by omega), ⟨none_newer _, none_newer _⟩⟩

end Go.Proofs.YtickhmlhciafgaaGreat


namespace Go.Proofs.YtickhmlhciafgaaGreat
open Go.RowKit
set_option linter.unusedVariables false

theorem vcmp_any (x y : NV) (w : World) (hx : x.ok w) (hy : y.ok w) (bx : x.Bd) (hB : y.Bd) :
    Calls Tryz.prog 44 #[.agg x.cs, .agg y.cs] w (RV w (.int .i64 (cmpDc x.D y.D))) :=
  ccompare_any _ _ _ _ w hx hy (mayDc_iff.1 bx.may).1 (mayDc_iff.1 hB.may).1 (by have := hx.len; have := bx.len; omega) (by have := hy.len; have := hB.len; omega) (mayDc_iff.1 bx.may).2.1 (by have := (mayDc_iff.1 bx.may).2.2; omega) (mayDc_iff.1 hB.may).2.1 (by have := (mayDc_iff.1 hB.may).2.2; omega)
theorem row_limits19 : RowT Tryz.prog 86 3 := ⟨by kernel_rfl, by kernel_rfl⟩
theorem row_elimits : RowT Tryz.prog 87 3 := ⟨by kernel_rfl, by kernel_rfl⟩
def RuV.lims (y : RuV) : Array Value := #[.int .i64 y.r.n.ic, .int .i64 y.r.n.fc, .bool y.r.sg]
theorem built_elimits (y : RuV) : Tryz.prog.built 87 [(0, .int .i64 y.r.n.ic), (1, .int .i64 y.r.n.fc), (2, .bool y.r.sg)] = some y.lims := by kernel_rfl
theorem built_limits19 (y : RuV) : Tryz.prog.built 86 [(0, .int .i64 y.r.n.ic), (1, .int .i64 y.r.n.fc), (2, .bool y.r.sg)] = some y.lims := by kernel_rfl
set_option maxRecDepth 100000 in
set_option maxHeartbeats 4000000 in
theorem climits_any (y : RuV) (w : World) : Calls Tryz.prog 38 #[.agg y.cs] w (RV w (.agg y.lims)) := by
  have hB0 := ((Blk.made w w 32 y.cs (Later.refl w) _ rfl).alloc (.cells #[.int .i64 0, .int .i64 0, .bool false] 87))
  have hR := (Blk.made w (w.alloc (.cells y.cs 32)) 87 #[.int .i64 0, .int .i64 0, .bool false] ((Later.refl w).alloc _) (w.heap.size + 1) (by simp))
  have hbt := built_elimits y
  go_enter Tryz.func38, Tryz.ntmps38
  go_upto_region 1 with fail
  generalize World.alloc (World.alloc w _) _ = w1 at *
  have q0 : w1.cell? ⟨w.heap.size, 9, none⟩ = some (.bool y.r.sg) := hB0.cell 9
  have q1 : w1.cell? ⟨w.heap.size, 10, none⟩ = some (.int .i64 y.r.n.ic) := hB0.cell 10
  have q2 : w1.cell? ⟨w.heap.size, 11, none⟩ = some (.int .i64 y.r.n.fc) := hB0.cell 11
  go_wp2_with (first | (refine wpList_build_ _ _ rfl rfl ?_ hbt ?_; (exact rfl); go_simp) | (refine wpList_store_blk hR row_elimits rfl rfl rfl rfl rfl rfl (by kernel_rfl) ?_; intro w9 hR9 hS9; go_simp))
  exact bodyPost_ret (results_c hR9 row_elimits rfl Tryz.results38 rfl) rfl ⟨rfl, hS9.below hR.later (by omega)⟩
set_option maxRecDepth 100000 in
set_option maxHeartbeats 4000000 in
theorem rlimits20_any (y : RuV) (w : World) : Calls Tryz.prog 39 #[.agg y.cs] w (RV w (.agg y.lims)) := by
  have hB0 := ((Blk.made w w 44 y.cs (Later.refl w) _ rfl).alloc (.cells #[.int .i64 0, .int .i64 0, .bool false] 86))
  have hR := (Blk.made w (w.alloc (.cells y.cs 44)) 86 #[.int .i64 0, .int .i64 0, .bool false] ((Later.refl w).alloc _) (w.heap.size + 1) (by simp))
  have hbt := built_limits19 y
  go_enter Tryz.func39, Tryz.ntmps39
  go_upto_region 1 with fail
  generalize World.alloc (World.alloc w _) _ = w1 at *
  have q0 : w1.cell? ⟨w.heap.size, 9, none⟩ = some (.bool y.r.sg) := hB0.cell 9
  have q1 : w1.cell? ⟨w.heap.size, 10, none⟩ = some (.int .i64 y.r.n.ic) := hB0.cell 10
  have q2 : w1.cell? ⟨w.heap.size, 11, none⟩ = some (.int .i64 y.r.n.fc) := hB0.cell 11
  go_wp2_with (first | (refine wpList_build_ _ _ rfl rfl ?_ hbt ?_; (exact rfl); go_simp) | (refine wpList_store_blk hR row_limits19 rfl rfl rfl rfl rfl rfl (by kernel_rfl) ?_; intro w9 hR9 hS9; go_simp))
  exact bodyPost_ret (results_c hR9 row_limits19 rfl Tryz.results39 rfl) rfl ⟨rfl, hS9.below hR.later (by omega)⟩
set_option maxRecDepth 100000 in
set_option maxHeartbeats 4000000 in
theorem step1_any (y : RuV) (x : NV) (k : Int) {w0 w1 : World} {g g1 : Nat} {t1 : TypeId} (w : World) (hG : Blk w0 g 32 y.cs w) (hN : Blk w1 g1 t1 #[.int .i64 k] w) (hy : y.ok w) (hr : y.r.Bd) (hx : x.ok w) (hd : x.Rd 2000) (hk : -9223372036854775808 ≤ k ∧ k ≤ 9223372036854775807) :
    Calls Tryz.prog 75 #[.agg x.cs, .pointer (some ⟨g, 0, none⟩), .pointer (some ⟨g1, 0, none⟩)] w (RCE w (moveC y.r x.D k).1 (moveC y.r x.D k).2) := by
  have hmv := Lib.hid (fun W (hW : y.ok W) (hX : x.ok W) => show Calls Tryz.prog 22 #[.agg y.cs, .agg x.cs, .int .i64 k] W (PQ (kce (moveC y.r x.D k).2) (moveC y.r x.D k).1 W) from
    (cmove_any y x.D k W hW hX hr hd.i hd.s (by have := hX.len; have := hd.n; omega) hk).mono fun _ _ h => h.pq)
  generalize moveC y.r x.D k = V at *
  obtain ⟨V, ec⟩ := V
  simp only at hmv
  have hB0 := ((Blk.made w w 29 x.cs (Later.refl w) _ rfl).alloc (.cells #[.bool false, .slice none 0 0, .int .i64 0] 29))
  have hR := (Blk.made w (w.alloc (.cells x.cs 29)) 29 #[.bool false, .slice none 0 0, .int .i64 0] ((Later.refl w).alloc _) (w.heap.size + 1) (by simp))
  have hG1 := (hG.alloc (.cells x.cs 29)).alloc (.cells #[.bool false, .slice none 0 0, .int .i64 0] 29)
  have hN1 := (hN.alloc (.cells x.cs 29)).alloc (.cells #[.bool false, .slice none 0 0, .int .i64 0] 29)
  go_enter Tryz.func75, Tryz.ntmps75
  go_upto_region 1 with fail
  generalize World.alloc (World.alloc w _) _ = w2 at *
  have q0 : w2.cell? ⟨g1, 0, none⟩ = some (.int .i64 k) := hN1.cell 0
  go_wp2_with (first | (refine wpList_load_blk hG1 row_rules rfl rfl rfl rfl ?_; go_simp) | (refine wpList_load_blk hB0 row_dec rfl rfl rfl rfl ?_; go_simp))
  refine (hmv.out _ (hy.later hB0.later) (hx.later hB0.later)).mono ?_
  rintro e w3 ⟨z, rfl, hz, hzo, hB3, hzn⟩
  have hR3 := hR.call hB3
  have hlt := hR.lt
  unfold kce
  go_wp2_with (refine wpList_store_blk hR3 row_dec rfl rfl rfl rfl rfl rfl (by kernel_rfl) ?_; intro w9 hR9 hS9; go_simp)
  have hz := hz.out
  subst hz
  exact bodyPost_ret (results_ct hR9 row_dec rfl Tryz.results75 rfl rfl) rfl ⟨z.A, z.n, z.c, rfl, (hzo.sto hS9 (hzn.off hlt) : z.ok _), hS9.below hR3.later (by omega), fun hz a ha => by have := hzn hz a ha; have := hR.later.size; omega⟩
set_option maxRecDepth 100000 in
set_option maxHeartbeats 4000000 in
theorem cstep_any (y : RuV) (x : DV) (k : Int) (w : World) (hy : y.ok w) (hr : y.r.Ok) (hb : y.r.Bd) (hx : x.ok w) (hi : I64 x.l) (hf : I64 x.f) (n1 : x.n ≤ 100) (n2 : x.m ≤ 100) (hk : -9223372036854775808 ≤ k ∧ k ≤ 9223372036854775807) :
    Calls Tryz.prog 40 #[.agg y.cs, .agg x.cs, .int .i64 k] w (PK (kde (stepS y.r x.d k).2) (stepS y.r x.d k).1 w) := by
  have hB0 := ((((Blk.made w w 32 y.cs (Later.refl w) _ rfl).alloc (.cells x.cs 70)).alloc (.cells #[.int .i64 k] 3)).alloc (.cells #[.bool false, .slice none 0 0, .bool false, .slice none 0 0] 70))
  have hB1 := (((Blk.made w (w.alloc (.cells y.cs 32)) 70 x.cs ((Later.refl w).alloc _) (w.heap.size + 1) (by simp)).alloc (.cells #[.int .i64 k] 3)).alloc (.cells #[.bool false, .slice none 0 0, .bool false, .slice none 0 0] 70))
  have hB2 := ((Blk.made w ((w.alloc (.cells y.cs 32)).alloc (.cells x.cs 70)) 3 #[.int .i64 k] (((Later.refl w).alloc _).alloc _) (w.heap.size + 2) (by simp)).alloc (.cells #[.bool false, .slice none 0 0, .bool false, .slice none 0 0] 70))
  have hR := (Blk.made w (((w.alloc (.cells y.cs 32)).alloc (.cells x.cs 70)).alloc (.cells #[.int .i64 k] 3)) 70 #[.bool false, .slice none 0 0, .bool false, .slice none 0 0] ((((Later.refl w).alloc _).alloc _).alloc _) (w.heap.size + 3) (by simp))
  have e1 := hx.1.len
  have e2 := hx.2.len
  have hXl := decD_len x.d
  have e3 : x.d.int.length = x.l.length := rfl
  have e4 : x.d.frac.length = x.f.length := rfl
  have hch := Lib.hid (fun (gf : Nat) (tf : TypeId) W (hG : Blk w w.heap.size 32 y.cs W) (hN : Blk w (w.heap.size + 2) 3 #[.int .i64 k] W) (hF : Blk w gf tf #[.func (.func 75) #[] #[.pointer (some ⟨w.heap.size, 0, none⟩), .pointer (some ⟨w.heap.size + 2, 0, none⟩)]] W) =>
    show Calls Tryz.prog 70 #[.agg y.cs, .agg x.cs, .slice (some ⟨gf, 0, none⟩) 1 1] W (PK (kde (stepS y.r x.d k).2) (stepS y.r x.d k).1 W) from
    (changed_step y x.d ⟨w.heap.size, 0, none⟩ ⟨w.heap.size + 2, 0, none⟩ (moveC y.r (decD x.d) k) W (hx.1.later hG.later) (hx.2.later hG.later) hi hf (by omega) (by omega) hr.mini.1 hr.mini.2 (fun hm hv => by
      obtain ⟨S, s1, s2, s3⟩ := move_is hr (by omega) hv
      rw [s3]
      have := value_fin hr s1 s2
      exact ⟨this.1, by omega⟩) hF (fun A n c W' hL hm hI => by
      have hd := decD_may (d := x.d) hm (by omega)
      exact step1_any y ⟨decD x.d, A, n, c⟩ k W' (hG.call hL) (hN.call hL) (hy.later (hG.call hL).later) hb hI ⟨(may_bd hd).1, (may_bd hd).2, by show (decD x.d).l.length ≤ 2000; omega⟩ hk)).mono fun e W' h => h.pk)
  generalize stepS y.r x.d k = G at *
  obtain ⟨G, eg⟩ := G
  simp only at hch
  go_enter Tryz.func40, Tryz.ntmps40
  go_upto_region 1 with fail
  generalize World.alloc (World.alloc (World.alloc (World.alloc w _) _) _) _ = w1 at *
  have hL1 := hR.later
  go_wp2_with (first | (refine wpList_load_blk hB0 row_rules rfl rfl rfl rfl ?_; go_simp) | (refine wpList_load_blk hB1 row_draft rfl rfl rfl rfl ?_; go_simp))
  refine (hch.out _ _ _ (hB0.alloc _) (hB2.alloc _) (Blk.made w w1 _ _ hL1 _ rfl)).mono ?_
  rintro e w2 ⟨z, rfl, hz, hzo, hC2, hzn⟩
  have hR2 := (hR.alloc _).call hC2
  have hl0 := hR.lt
  have hzn := hzn.mono (b := w1.heap.size) (by simp)
  unfold kde
  go_wp2_with (refine wpList_store_blk hR2 row_draft rfl rfl rfl rfl rfl rfl (by kernel_rfl) ?_; intro w9 hR9 hS9; go_simp)
  exact bodyPost_ret (results_ct hR9 row_draft rfl Tryz.results40 rfl rfl) rfl ⟨z, rfl, hz, hzo.sto hS9 (hzn.off hl0), hS9.below hR2.later (by omega), hzn.mono hL1.size⟩

end Go.Proofs.YtickhmlhciafgaaGreat


namespace Go.Proofs.YtickhmlhciafgaaGreat
open Go.RowKit
set_option linter.unusedVariables false

def edgesS (r : Ru) (d : Dr) : Bool × Bool := (decide (cmpDc (valueC r (decD d)).1 r.lo = 0), decide (cmpDc (valueC r (decD d)).1 r.hi = 0))
theorem vdec_any (x : DV) (w : World) (hx : x.ok w) (hi : I64 x.l) (hf : I64 x.f) (n1 : x.n ≤ 10000) (n2 : x.m ≤ 10000) : Calls Tryz.prog 65 #[.agg x.cs] w (PQ kc (decD x.d) w) :=
  (ddec_any x.b x.p w hx.1 hx.2 hi hf n1 n2).mono fun _ _ h => h.pq
set_option maxRecDepth 100000 in
set_option maxHeartbeats 4000000 in
theorem cedges_any (y : RuV) (x : DV) (w : World) (hy : y.ok w) (hr : y.r.Ok) (hb : y.r.Bd) (hx : x.ok w) (hm : mayR x.d) (n1 : x.n ≤ 400) (n2 : x.m ≤ 400) :
    Calls Tryz.prog 26 #[.agg y.cs, .agg x.cs] w (RV w (.tuple #[.bool (edgesS y.r x.d).1, .bool (edgesS y.r x.d).2])) := by
  have e1 := hx.1.len
  have e2 := hx.2.len
  have hXl := decD_len x.d
  have e3 : x.d.int.length = x.l.length := rfl
  have e4 : x.d.frac.length = x.f.length := rfl
  have hml := mayR_lists hm
  have hd := decD_may hm (by omega)
  have hvf := value_fin hr hd (by omega)
  have hvc := value_code hr hd
  have hE : Hid (edgesS y.r x.d = (decide (cmpDc (valueC y.r (decD x.d)).1 y.r.lo = 0), decide (cmpDc (valueC y.r (decD x.d)).1 y.r.hi = 0))) := rfl
  have hde := Lib.hid (fun W (hW : x.ok W) => vdec_any x W hW (I64_of_may hml.1) (I64_of_may hml.2) (by omega) (by omega))
  have hva := Lib.hid (fun (z : NV) (hz : z.D = decD x.d) W (hW : y.ok W) (hZ : z.ok W) => show Calls Tryz.prog 14 #[.agg y.cs, .agg z.cs] W (PQ (kce 0) (valueC y.r (decD x.d)).1 W) by
    rw [← hvc]
    rw [← hz] at hd hXl ⊢
    exact (cvalue_any y z.D W hW hZ hb (may_bd hd).1 (may_bd hd).2 (by have := hZ.len; omega)).mono fun _ _ h => h.pq)
  have hB0 := ((Blk.made w w 32 y.cs (Later.refl w) _ rfl).alloc (.cells x.cs 70))
  have hB1 := (Blk.made w (w.alloc (.cells y.cs 32)) 70 x.cs ((Later.refl w).alloc _) (w.heap.size + 1) (by simp))
  generalize edgesS y.r x.d = G at *
  generalize (valueC y.r (decD x.d)).1 = V at *
  generalize decD x.d = X at *
  have hl := hr.lens
  go_enter Tryz.func26, Tryz.ntmps26
  go_upto_region 1 with fail
  generalize World.alloc (World.alloc w _) _ = w1 at *
  refine wp_calls_tail 9 7 8 (fun i => i == 2 || i == 3) ⟨by kernel_rfl, by kernel_rfl, by kernel_rfl, by kernel_rfl, by kernel_rfl, by kernel_rfl, by kernel_rfl, by kernel_rfl, by kernel_rfl⟩ rfl rfl rfl row_dec rfl rfl (by kernel_rfl) (by simp) (by simp) (z := #[.bool false, .slice none 0 0, .int .i64 0]) (t := 29) rfl ?_ ?_
  · intro W a K h
    go_simp
    exact h
  simp only [List.take_succ_cons, List.take_zero, List.drop_succ_cons, List.drop_zero]
  generalize hQQ : (fun (I : Inv w1) (a' : Act) => ∃ us : Array Value, _) = QQ
  have HQQ := Lib.hid hQQ
  clear hQQ
  refine QM_loadb hB0 row_rules ⟨rfl, by decide⟩ rfl rfl rfl ?_
  go_simp
  refine QM_loadb hB1 row_draft ⟨rfl, by decide⟩ rfl rfl rfl ?_
  go_simp
  refine wpQM_call (upQ (K := kc) kc_inj X) rfl ?_ ?_
  · intro W hW
    go_simp
    exact ⟨rfl, hde.out W (hx.later (hB1.call hW).later)⟩
  rintro u ⟨z, rfl, hz⟩
  unfold kc
  go_simp
  refine wpQM_call (upQ (K := kce 0) kce_inj V) rfl ?_ ?_
  · intro W hW
    go_simp
    exact ⟨rfl, hva.out z hz.out W (hy.later (hB1.call hW.1).later) (hW.2 z rfl hz.out)⟩
  rintro u ⟨q, rfl, hq⟩
  unfold kce
  go_simp
  refine wpQM_step ⟨rfl, by decide⟩ (fun K hK => ?_)
  go_simp
  refine ⟨_, fun _ _ => rfl, hK _ ?_⟩
  clear hK K
  go_simp
  refine wpQM_step ⟨rfl, by decide⟩ (fun K hK => ?_)
  go_simp
  refine ⟨_, fun _ _ => rfl, hK _ ?_⟩
  clear hK K
  go_simp
  refine wpQM_step ⟨rfl, by decide⟩ (fun K hK => ?_)
  go_simp
  refine ⟨_, fun _ _ => rfl, hK _ ?_⟩
  clear hK K
  go_simp
  iterate 2 (refine wpQM_pass ⟨rfl, by decide⟩ ?_)
  refine wpQM_nil ?_
  rw [← HQQ.out]
  clear HQQ QQ
  refine ⟨q.cs, rfl, rfl, by kernel_rfl, ?_⟩
  rintro W gb hP ⟨⟨hLW, _⟩, hFW⟩ -
  have hLW : Later w1 W := hLW
  have hqo : q.ok W := hFW q rfl hq.out
  have hX3 := hB0.call hLW
  have hy3 := hy.later hX3.later
  have hqb : q.Bd := NV.Bd.mk' hq.out hvf.1 (by omega)
  have hlb : y.lo.Bd := ⟨hr.lo.1, by show y.r.lo.l.length ≤ 5000; omega⟩
  have hhb : y.hi.Bd := ⟨hr.hi.1, by show y.r.hi.l.length ≤ 5000; omega⟩
  have k1 := Lib.hid (fun W (h1 : q.ok W) (h2 : y.ok W) => show Calls Tryz.prog 44 #[.agg q.cs, .agg #[.bool y.r.lo.neg, .slice y.A1 y.n1 y.c1, .int .i64 y.r.lo.s]] W (RV W (.int .i64 (cmpDc q.D y.lo.D))) from vcmp_any q y.lo W h1 h2.1 hqb hlb)
  have k2 := Lib.hid (fun W (h1 : q.ok W) (h2 : y.ok W) => show Calls Tryz.prog 44 #[.agg q.cs, .agg #[.bool y.r.hi.neg, .slice y.A2 y.n2 y.c2, .int .i64 y.r.hi.s]] W (RV W (.int .i64 (cmpDc q.D y.hi.D))) from vcmp_any q y.hi W h1 h2.2.1 hqb hhb)
  have f1 : cmpDc q.D y.lo.D = cmpDc V y.r.lo := by rw [hq.out]; rfl
  have f2 : cmpDc q.D y.hi.D = cmpDc V y.r.hi := by rw [hq.out]; rfl
  rw [f1] at k1
  rw [f2] at k2
  clear hFW hLW hB0 hB1 hde hva hz f1 f2 hqb hlb hhb hl hvf hvc hXl
  generalize cmpDc V y.r.lo = c1 at *
  generalize cmpDc V y.r.hi = c2 at *
  have hLb := hX3.later
  go_simp
  go_upto_region 2 with fail
  refine wp_region_ext (by kernel_rfl) (by kernel_rfl) ?_
  repeat (first
    | (go_big_quiet_want; refine quiet_load_blk hP row_dec rfl rfl rfl ?_; go_simp; go_big_quiet_on)
    | (go_big_quiet_want; refine quiet_load_of hX3 0 [.bool y.r.lo.neg, .slice y.A1 y.n1 y.c1, .int .i64 y.r.lo.s] rfl row_dec rfl rfl rfl ?_; go_simp; go_big_quiet_on)
    | (go_big_quiet_want; refine quiet_load_of hX3 3 [.bool y.r.hi.neg, .slice y.A2 y.n2 y.c2, .int .i64 y.r.hi.s] rfl row_dec rfl rfl rfl ?_; go_simp; go_big_quiet_on)
    | (go_big_quiet_step (first
      | (go_at_call 44; with_reducible exact quiet_ext _ (k1.out _ (hqo.ext _) (hy3.ext _)))
      | (go_at_call 44; with_reducible exact quiet_ext _ (k2.out _ (hqo.ext _) (hy3.ext _))))))
  refine wpQuiet_nil ?_
  rintro _ ⟨s, rfl⟩
  have g1 : (c1 == (0 : Int)) = G.1 := by rw [hE.out]; rw [Bool.eq_iff_iff]; simp
  have g2 : (c2 == (0 : Int)) = G.2 := by rw [hE.out]; rw [Bool.eq_iff_iff]; simp
  rw [g1, g2]
  go_wp2_with fail
  go_ret2
  exact ⟨rfl, hLb.call s.h⟩
set_option maxRecDepth 100000 in
set_option maxHeartbeats 4000000 in
theorem redges_any (y : RuV) (x : DV) (w : World) (hy : y.ok w) (hr : y.r.Ok) (hb : y.r.Bd) (hx : x.ok w) (hm : mayR x.d) (n1 : x.n ≤ 400) (n2 : x.m ≤ 400) :
    Calls Tryz.prog 28 #[.agg y.cs, .agg x.cs] w (RV w (.tuple #[.bool (edgesS y.r x.d).1, .bool (edgesS y.r x.d).2])) := by
  have e1 := hx.1.len
  have e2 := hx.2.len
  have hXl := decD_len x.d
  have e3 : x.d.int.length = x.l.length := rfl
  have e4 : x.d.frac.length = x.f.length := rfl
  have hml := mayR_lists hm
  have hd := decD_may hm (by omega)
  have hvf := value_fin hr hd (by omega)
  have hvc := value_code hr hd
  have hE : Hid (edgesS y.r x.d = (decide (cmpDc (valueC y.r (decD x.d)).1 y.r.lo = 0), decide (cmpDc (valueC y.r (decD x.d)).1 y.r.hi = 0))) := rfl
  have hde := Lib.hid (fun W (hW : x.ok W) => vdec14_any x W hW (I64_of_may hml.1) (I64_of_may hml.2) (by omega) (by omega))
  have hva := Lib.hid (fun (z : NV) (hz : z.D = decD x.d) W (hW : y.ok W) (hZ : z.ok W) => show Calls Tryz.prog 16 #[.agg y.cs, .agg z.cs] W (PQ (kce 0) (valueC y.r (decD x.d)).1 W) by
    rw [← hvc]
    rw [← hz] at hd hXl ⊢
    exact rvalue_any y z W hW hZ hb ⟨(may_bd hd).1, (may_bd hd).2, by omega⟩)
  have hB0 := ((Blk.made w w 44 y.cs (Later.refl w) _ rfl).alloc (.cells x.cs 64))
  have hB1 := (Blk.made w (w.alloc (.cells y.cs 44)) 64 x.cs ((Later.refl w).alloc _) (w.heap.size + 1) (by simp))
  generalize edgesS y.r x.d = G at *
  generalize (valueC y.r (decD x.d)).1 = V at *
  generalize decD x.d = X at *
  have hl := hr.lens
  go_enter Tryz.func28, Tryz.ntmps28
  go_upto_region 1 with fail
  generalize World.alloc (World.alloc w _) _ = w1 at *
  refine wp_calls_tail 9 7 8 (fun i => i == 2 || i == 3) ⟨by kernel_rfl, by kernel_rfl, by kernel_rfl, by kernel_rfl, by kernel_rfl, by kernel_rfl, by kernel_rfl, by kernel_rfl, by kernel_rfl⟩ rfl rfl rfl row_dec6 rfl rfl (by kernel_rfl) (by simp) (by simp) (z := #[.bool false, .slice none 0 0, .int .i64 0]) (t := 24) rfl ?_ ?_
  · intro W a K h
    go_simp
    exact h
  simp only [List.take_succ_cons, List.take_zero, List.drop_succ_cons, List.drop_zero]
  generalize hQQ : (fun (I : Inv w1) (a' : Act) => ∃ us : Array Value, _) = QQ
  have HQQ := Lib.hid hQQ
  clear hQQ
  refine QM_loadb hB0 row_rules13 ⟨rfl, by decide⟩ rfl rfl rfl ?_
  go_simp
  refine QM_loadb hB1 row_draft14 ⟨rfl, by decide⟩ rfl rfl rfl ?_
  go_simp
  refine wpQM_call (upQ (K := kc) kc_inj X) rfl ?_ ?_
  · intro W hW
    go_simp
    exact ⟨rfl, hde.out W (hx.later (hB1.call hW).later)⟩
  rintro u ⟨z, rfl, hz⟩
  unfold kc
  go_simp
  refine wpQM_call (upQ (K := kce 0) kce_inj V) rfl ?_ ?_
  · intro W hW
    go_simp
    exact ⟨rfl, hva.out z hz.out W (hy.later (hB1.call hW.1).later) (hW.2 z rfl hz.out)⟩
  rintro u ⟨q, rfl, hq⟩
  unfold kce
  go_simp
  refine wpQM_step ⟨rfl, by decide⟩ (fun K hK => ?_)
  go_simp
  refine ⟨_, fun _ _ => rfl, hK _ ?_⟩
  clear hK K
  go_simp
  refine wpQM_step ⟨rfl, by decide⟩ (fun K hK => ?_)
  go_simp
  refine ⟨_, fun _ _ => rfl, hK _ ?_⟩
  clear hK K
  go_simp
  refine wpQM_step ⟨rfl, by decide⟩ (fun K hK => ?_)
  go_simp
  refine ⟨_, fun _ _ => rfl, hK _ ?_⟩
  clear hK K
  go_simp
  iterate 2 (refine wpQM_pass ⟨rfl, by decide⟩ ?_)
  refine wpQM_nil ?_
  rw [← HQQ.out]
  clear HQQ QQ
  refine ⟨q.cs, rfl, rfl, by kernel_rfl, ?_⟩
  rintro W gb hP ⟨⟨hLW, _⟩, hFW⟩ -
  have hLW : Later w1 W := hLW
  have hqo : q.ok W := hFW q rfl hq.out
  have hX3 := hB0.call hLW
  have hy3 := hy.later hX3.later
  have hqb : q.Bd := NV.Bd.mk' hq.out hvf.1 (by omega)
  have hlb : y.lo.Bd := ⟨hr.lo.1, by show y.r.lo.l.length ≤ 5000; omega⟩
  have hhb : y.hi.Bd := ⟨hr.hi.1, by show y.r.hi.l.length ≤ 5000; omega⟩
  have k1 := Lib.hid (fun W (h1 : q.ok W) (h2 : y.ok W) => show Calls Tryz.prog 47 #[.agg q.cs, .agg #[.bool y.r.lo.neg, .slice y.A1 y.n1 y.c1, .int .i64 y.r.lo.s]] W (RV W (.int .i64 (cmpDc q.D y.lo.D))) from vcmp6_any q y.lo W h1 h2.1 hqb hlb)
  have k2 := Lib.hid (fun W (h1 : q.ok W) (h2 : y.ok W) => show Calls Tryz.prog 47 #[.agg q.cs, .agg #[.bool y.r.hi.neg, .slice y.A2 y.n2 y.c2, .int .i64 y.r.hi.s]] W (RV W (.int .i64 (cmpDc q.D y.hi.D))) from vcmp6_any q y.hi W h1 h2.2.1 hqb hhb)
  have f1 : cmpDc q.D y.lo.D = cmpDc V y.r.lo := by rw [hq.out]; rfl
  have f2 : cmpDc q.D y.hi.D = cmpDc V y.r.hi := by rw [hq.out]; rfl
  rw [f1] at k1
  rw [f2] at k2
  clear hFW hLW hB0 hB1 hde hva hz f1 f2 hqb hlb hhb hl hvf hvc hXl
  generalize cmpDc V y.r.lo = c1 at *
  generalize cmpDc V y.r.hi = c2 at *
  have hLb := hX3.later
  go_simp
  go_upto_region 2 with fail
  refine wp_region_ext (by kernel_rfl) (by kernel_rfl) ?_
  repeat (first
    | (go_big_quiet_want; refine quiet_load_blk hP row_dec6 rfl rfl rfl ?_; go_simp; go_big_quiet_on)
    | (go_big_quiet_want; refine quiet_load_of hX3 0 [.bool y.r.lo.neg, .slice y.A1 y.n1 y.c1, .int .i64 y.r.lo.s] rfl row_dec6 rfl rfl rfl ?_; go_simp; go_big_quiet_on)
    | (go_big_quiet_want; refine quiet_load_of hX3 3 [.bool y.r.hi.neg, .slice y.A2 y.n2 y.c2, .int .i64 y.r.hi.s] rfl row_dec6 rfl rfl rfl ?_; go_simp; go_big_quiet_on)
    | (go_big_quiet_step (first
      | (go_at_call 47; with_reducible exact quiet_ext _ (k1.out _ (hqo.ext _) (hy3.ext _)))
      | (go_at_call 47; with_reducible exact quiet_ext _ (k2.out _ (hqo.ext _) (hy3.ext _))))))
  refine wpQuiet_nil ?_
  rintro _ ⟨s, rfl⟩
  have g1 : (c1 == (0 : Int)) = G.1 := by rw [hE.out]; rw [Bool.eq_iff_iff]; simp
  have g2 : (c2 == (0 : Int)) = G.2 := by rw [hE.out]; rw [Bool.eq_iff_iff]; simp
  rw [g1, g2]
  go_wp2_with fail
  go_ret2
  exact ⟨rfl, hLb.call s.h⟩

end Go.Proofs.YtickhmlhciafgaaGreat

