/- A number, rounded, within the bounds, is the document's, or refused; each one fits, and is its own value: the walk. No condition. -/
import Derived.Test.YtickhmlhciafgaaGreatMa42
import Derived.Test.YtickhmlhciafgaaGreatMa17
import Derived.Test.YtickhmlhciafgaaGreatMa24
namespace Go.Proofs.YtickhmlhciafgaaGreat
open Go.RowKit
set_option linter.unusedVariables false

set_option maxRecDepth 100000 in
set_option maxHeartbeats 4000000 in
theorem configValues_walk (w : World) (x : GV) (hx : x.ok w) (hb : x.Bd) (b1 : Bool) {A1 : Option Addr} {n1 c1 : Nat} {l1 : List Int} {s1 : Int} (w1 : IL w A1 n1 c1 l1) (i1 : I64 l1) (x1 : -9223372036854775808 ≤ s1 ∧ s1 ≤ 9223372036854775807) :
    Calls Tryz.prog 3 #[.agg x.cs, .agg #[.bool b1, .slice A1 n1 c1, .int .i64 s1]] w (RV w (.bool true)) := by
  obtain ⟨X, hX, _, hXg⟩ := cgood_ex (A := A1) (n := n1) (c := c1) b1 s1 14 i1 x1 (by omega)
  obtain ⟨d, hd⟩ : ∃ d : NV, Hid (d = ⟨⟨b1, l1, s1⟩, A1, n1, c1⟩) := ⟨_, rfl⟩
  obtain ⟨r, hr⟩ : ∃ r : NV, Hid (r = ⟨⟨b1, l1.take 14, s1⟩, A1, min n1 14, c1⟩) := ⟨_, rfl⟩
  have hdo : d.ok w := by rw [hd.out]; exact w1
  have hro : r.ok w := by rw [hr.out]; exact w1.fewc 14
  have hrr : r.Rd 14 := by rw [hr.out]; exact ⟨fun y hy => i1 y (List.mem_of_mem_take hy), x1, by show (l1.take 14).length ≤ 14; rw [List.length_take]; omega⟩
  have hgd := Lib.hid (fun W (hW : d.ok W) => show Calls Tryz.prog 12 #[.agg d.cs, .int .i64 14] W (PQ kc X W) by
    have hd := hd.out
    subst hd
    exact (hXg.out W hW).mono fun _ _ h => h.pq)
  have hfw := Lib.hid (fun W (hW : d.ok W) => show Calls Tryz.prog 13 #[.agg d.cs, .int .i64 14] W (RV W (.agg r.cs)) by
    have hd := hd.out
    have hr := hr.out
    subst hd
    subst hr
    exact (cfew_any b1 s1 14 W hW (by omega)).mono fun _ _ h => ⟨h.1, h.2.2⟩)
  have hmX : mayDc X = true := mayDc_iff.2 ⟨hX.1, hX.2.1, by have := hX.2.2.1; omega⟩
  have hXl : X.l.length ≤ 14 := hX.2.2.2
  have hcs : (#[.bool b1, .slice A1 n1 c1, .int .i64 s1] : Array Value) = d.cs := by rw [hd.out]; rfl
  rw [hcs]
  clear hcs hd hr w1 i1 x1 hX hXg
  have hgo := Lib.hid (fun W (h : x.ok W) => rgood13_any x W h hb)
  have hrl := Lib.hid (fun W (h : x.ok W) => show Calls Tryz.prog 11 #[.agg x.cs] W (PR kr (goodG x.g).ru W) from (rrules_any x W h hb).mono fun e W' ⟨y, h1, h2, h3, h4, h5⟩ => ⟨y, h1, h2, h3, h4, h5.new⟩)
  have hcok := goodG_ok x.g
  have hru := hcok.ruOk
  have hrb := hcok.ruBd
  have hcn := Lib.hid (fun W => hcok.cnew W)
  clear hcok
  generalize (goodG x.g).ru = R at *
  generalize goodG x.g = c at *
  have hB0 := ((Blk.made w w 28 x.cs (Later.refl w) _ rfl).alloc (.cells d.cs 24))
  have hB1 := (Blk.made w (w.alloc (.cells x.cs 28)) 24 d.cs ((Later.refl w).alloc _) (w.heap.size + 1) (by simp))
  go_enter Tryz.func3, Tryz.ntmps3
  go_upto_region 1 with fail
  generalize World.alloc (World.alloc w _) _ = w1 at *
  go_wp2_with (refine wpList_load_blk hB0 row_made13 rfl rfl rfl rfl ?_; go_simp)
  refine (hgo.out _ (hx.later hB0.later)).mono ?_
  rintro e w2 ⟨rfl, hC1⟩
  go_wp2_with fail
  refine (of13_any c _).mono ?_
  rintro e w3 ⟨rfl, hC2⟩
  go_wp2_with fail
  refine (hcn.out _).mono ?_
  rintro e w4 ⟨y, rfl, hyr, hyo, hC3, _⟩
  have hyr : Hid (y.r = R) := hyr
  have pZ := Blk.made w w4 32 #[.bool false, .slice none 0 0, .int .i64 0, .bool false, .slice none 0 0, .int .i64 0, .bool false, .slice none 0 0, .int .i64 0, .bool false, .int .i64 0, .int .i64 0, .int .i64 0, .int .i64 0, .int .i64 0, .int .i64 0, .int .i64 0] (((hB0.call hC1).call hC2).call hC3).later _ rfl
  have hB0a_l := (((hB0.call hC1).call hC2).call hC3).lt
  have hB0a_q := (((hB0.call hC1).call hC2).call hC3).alloc (.cells #[.bool false, .slice none 0 0, .int .i64 0, .bool false, .slice none 0 0, .int .i64 0, .bool false, .slice none 0 0, .int .i64 0, .bool false, .int .i64 0, .int .i64 0, .int .i64 0, .int .i64 0, .int .i64 0, .int .i64 0, .int .i64 0] 32)
  have hB1a_l := (((hB1.call hC1).call hC2).call hC3).lt
  have hB1a_q := (((hB1.call hC1).call hC2).call hC3).alloc (.cells #[.bool false, .slice none 0 0, .int .i64 0, .bool false, .slice none 0 0, .int .i64 0, .bool false, .slice none 0 0, .int .i64 0, .bool false, .int .i64 0, .int .i64 0, .int .i64 0, .int .i64 0, .int .i64 0, .int .i64 0, .int .i64 0] 32)
  have hyoa_f := (hyo).apart (Nat.le_refl _)
  have hyoa_q := (hyo).later ((Later.refl _).alloc (.cells #[.bool false, .slice none 0 0, .int .i64 0, .bool false, .slice none 0 0, .int .i64 0, .bool false, .slice none 0 0, .int .i64 0, .bool false, .int .i64 0, .int .i64 0, .int .i64 0, .int .i64 0, .int .i64 0, .int .i64 0, .int .i64 0] 32))
  go_upto_region 2 with (first | (refine wpList_store_blk pZ row_rules rfl rfl rfl rfl rfl rfl (by kernel_rfl) ?_; intro w5 hYa pS; go_simp))
  have hB0a := pS.far hB0a_q (by omega) pZ.1
  have hB1a := pS.far hB1a_q (by omega) pZ.1
  have hyoa := hyoa_q.sto pS hyoa_f
  clear pZ pS hB0a_l hB0a_q hB1a_l hB1a_q hyoa_f hyoa_q
  clear hC1 hC2 hC3 hyo hgo hcn hB0 hB1
  generalize w4.heap.size = gy at *
  go_upto_region 4 with fail
  go_wp2_with (refine wpList_load_blk hB0a row_made13 rfl rfl rfl rfl ?_; go_simp)
  refine (hrl.out _ (hx.later hB0a.later)).mono ?_
  rintro e w6 ⟨z, rfl, hzr, hzo, hC4, _⟩
  unfold kr
  have pZ := Blk.made w w6 44 #[.bool false, .slice none 0 0, .int .i64 0, .bool false, .slice none 0 0, .int .i64 0, .bool false, .slice none 0 0, .int .i64 0, .bool false, .int .i64 0, .int .i64 0, .int .i64 0, .int .i64 0, .int .i64 0, .int .i64 0, .int .i64 0] (hB0a.call hC4).later _ rfl
  have hB0b_l := (hB0a.call hC4).lt
  have hB0b_q := (hB0a.call hC4).alloc (.cells #[.bool false, .slice none 0 0, .int .i64 0, .bool false, .slice none 0 0, .int .i64 0, .bool false, .slice none 0 0, .int .i64 0, .bool false, .int .i64 0, .int .i64 0, .int .i64 0, .int .i64 0, .int .i64 0, .int .i64 0, .int .i64 0] 44)
  have hB1b_l := (hB1a.call hC4).lt
  have hB1b_q := (hB1a.call hC4).alloc (.cells #[.bool false, .slice none 0 0, .int .i64 0, .bool false, .slice none 0 0, .int .i64 0, .bool false, .slice none 0 0, .int .i64 0, .bool false, .int .i64 0, .int .i64 0, .int .i64 0, .int .i64 0, .int .i64 0, .int .i64 0, .int .i64 0] 44)
  have hYb_l := (hYa.call hC4).lt
  have hYb_q := (hYa.call hC4).alloc (.cells #[.bool false, .slice none 0 0, .int .i64 0, .bool false, .slice none 0 0, .int .i64 0, .bool false, .slice none 0 0, .int .i64 0, .bool false, .int .i64 0, .int .i64 0, .int .i64 0, .int .i64 0, .int .i64 0, .int .i64 0, .int .i64 0] 44)
  have hyob_f := (hyoa.later hC4).apart (Nat.le_refl _)
  have hyob_q := (hyoa.later hC4).later ((Later.refl _).alloc (.cells #[.bool false, .slice none 0 0, .int .i64 0, .bool false, .slice none 0 0, .int .i64 0, .bool false, .slice none 0 0, .int .i64 0, .bool false, .int .i64 0, .int .i64 0, .int .i64 0, .int .i64 0, .int .i64 0, .int .i64 0, .int .i64 0] 44))
  have hzob_f := (hzo).apart (Nat.le_refl _)
  have hzob_q := (hzo).later ((Later.refl _).alloc (.cells #[.bool false, .slice none 0 0, .int .i64 0, .bool false, .slice none 0 0, .int .i64 0, .bool false, .slice none 0 0, .int .i64 0, .bool false, .int .i64 0, .int .i64 0, .int .i64 0, .int .i64 0, .int .i64 0, .int .i64 0, .int .i64 0] 44))
  go_upto_region 5 with (first | (refine wpList_store_blk pZ row_rules13 rfl rfl rfl rfl rfl rfl (by kernel_rfl) ?_; intro w7 hZb pS; go_simp))
  have hB0b := pS.far hB0b_q (by omega) pZ.1
  have hB1b := pS.far hB1b_q (by omega) pZ.1
  have hYb := pS.far hYb_q (by omega) pZ.1
  have hyob := hyob_q.sto pS hyob_f
  have hzob := hzob_q.sto pS hzob_f
  clear pZ pS hB0b_l hB0b_q hB1b_l hB1b_q hYb_l hYb_q hyob_f hyob_q hzob_f hzob_q
  clear hC4 hyoa hzo hrl hYa hB0a hB1a
  generalize w6.heap.size = gz at *
  have hdo7 := hdo.later hB1b.later
  refine wp_made_tail 4 (fun i => i == 2) (fun i => i == 1) ⟨by kernel_rfl, by kernel_rfl, by kernel_rfl, by kernel_rfl, by kernel_rfl, by kernel_rfl, by kernel_rfl, by kernel_rfl, by kernel_rfl, by kernel_rfl⟩ ?_
  simp only [List.take_succ_cons, List.take_zero, List.drop_succ_cons, List.drop_zero]
  generalize hQQ : (fun (I : Inv w7) (a' : Act) => ∀ W, I.C W → wpList _ _ _ _ _ W) = QQ
  have HQQ := Lib.hid hQQ
  clear hQQ
  iterate 2 (refine wpFree_pass rfl ?_)
  refine FR_loadb hB1b row_dec6 rfl rfl rfl rfl ?_
  go_simp
  iterate 1 (refine wpFree_pass rfl ?_)
  refine wpFree_nil ?_
  refine QN_loadb hB1b row_dec6 ⟨rfl, rfl⟩ rfl rfl rfl ?_
  go_simp
  refine wpQN_call (upQ (K := kc) kc_inj X) ⟨rfl, rfl⟩ ?_ ?_
  · intro W hW
    go_simp
    exact ⟨rfl, hgd.out W (hdo7.later hW)⟩
  rintro u ⟨p, rfl, hp⟩
  unfold kc
  go_simp
  refine wpQN_pass rfl ?_
  refine wpQN_step ⟨rfl, rfl⟩ (fun K hK => ?_)
  go_simp
  refine ⟨_, fun W hW => hfw.out W (hdo7.later hW.1), hK _ ?_⟩
  clear hK K
  go_simp
  refine wpQN_nil ?_
  rw [← HQQ.out]
  clear HQQ QQ
  rintro W ⟨hLW, hFW⟩
  have hLW : Later w7 W := hLW
  have hpo : p.ok W := hFW p rfl hp.out
  have hro7 := hro.later (hB1b.call hLW).later
  have hYc := hYb.call hLW
  have hZc := hZb.call hLW
  have hyoc := hyob.later hLW
  have hzoc := hzob.later hLW
  clear hFW hLW hYb hZb hyob hzob hB0b hB1b hdo hdo7 hro hgd hfw
  simp only [NV.cs]
  go_wp2_with fail
  have hL := Blk.made w W 24 #[.bool p.D.neg, .slice p.A p.n p.c, .int .i64 p.D.s, .bool r.D.neg, .slice r.A r.n r.c, .int .i64 r.D.s] hYc.later _ rfl
  have hYd := hYc.alloc (.cells #[.bool p.D.neg, .slice p.A p.n p.c, .int .i64 p.D.s, .bool r.D.neg, .slice r.A r.n r.c, .int .i64 r.D.s] 24)
  have hZd := hZc.alloc (.cells #[.bool p.D.neg, .slice p.A p.n p.c, .int .i64 p.D.s, .bool r.D.neg, .slice r.A r.n r.c, .int .i64 r.D.s] 24)
  have hyod := hyoc.later ((Later.refl W).alloc (.cells #[.bool p.D.neg, .slice p.A p.n p.c, .int .i64 p.D.s, .bool r.D.neg, .slice r.A r.n r.c, .int .i64 r.D.s] 24))
  have hzod := hzoc.later ((Later.refl W).alloc (.cells #[.bool p.D.neg, .slice p.A p.n p.c, .int .i64 p.D.s, .bool r.D.neg, .slice r.A r.n r.c, .int .i64 r.D.s] 24))
  have hpod := hpo.alloc (.cells #[.bool p.D.neg, .slice p.A p.n p.c, .int .i64 p.D.s, .bool r.D.neg, .slice r.A r.n r.c, .int .i64 r.D.s] 24)
  have hrod := hro7.alloc (.cells #[.bool p.D.neg, .slice p.A p.n p.c, .int .i64 p.D.s, .bool r.D.neg, .slice r.A r.n r.c, .int .i64 r.D.s] 24)
  generalize World.alloc W _ = w8 at *
  clear hYc hZc hyoc hzoc hpo hro7
  generalize W.heap.size = gl at *
  have hpr : p.Rd 14 := by have e := hp.out; rw [← e] at hmX hXl; exact ⟨(may_bd hmX).1, (may_bd hmX).2, hXl⟩
  obtain ⟨F, hF⟩ : ∃ F : Nat → NV, ∀ i, i < 2 → w8.rangeAt gl (i * 3) (F i).cs.toList ∧ (F i).ok w8 ∧ (F i).Rd 14 := by
    refine ⟨fun i => if i = 0 then p else r, fun i hi => ?_⟩
    have hk : i = 0 ∨ i = 1 := by omega
    rcases hk with rfl | rfl
    · exact ⟨hL.part 0 p.cs.toList rfl, hpod, hpr⟩
    · exact ⟨hL.part 3 r.cs.toList rfl, hrod, hrr⟩
  have HF := Lib.hid hF
  have hLb := hL.later
  clear hF hL hpr hrr hpod hrod hp hmX hXl
  have h1 : y.r.Ok := by rw [hyr.out]; exact hru
  have h2 : y.r.Bd := by rw [hyr.out]; exact hrb
  have h3 : z.r.Ok := by rw [hzr.out]; exact hru
  have h4 : z.r.Bd := by rw [hzr.out]; exact hrb
  have hcv := Lib.hid (fun (a : NV) (ha : a.Rd 5000) W (hY : y.ok W) (hA : a.ok W) => show Calls Tryz.prog 14 #[.agg y.cs, .agg a.cs] W (PQ (kce (valueC R a.D).2) (valueC R a.D).1 W) by
    have := vvalue_any y a W hY hA h2 ha
    rw [hyr.out] at this
    exact this)
  have hrv := Lib.hid (fun (a : NV) (ha : a.Rd 3000) W (hZ : z.ok W) (hA : a.ok W) => show Calls Tryz.prog 16 #[.agg z.cs, .agg a.cs] W (PQ (kce (valueC R a.D).2) (valueC R a.D).1 W) by
    have := rvalue_any z a W hZ hA h4 ha
    rw [hzr.out] at this
    exact this)
  have hft := Lib.hid (fun (a : NV) (ha : a.Rd 5000) W (hA : a.ok W) => show Calls Tryz.prog 19 #[.agg y.cs, .agg a.cs] W (RV W (.bool (mayDc a.D && fitsC R.n a.D))) by
    have := vfits_any y a W hA ha
    rw [hyr.out] at this
    exact this)
  have hru := Lib.hid hru
  clear h1 h2 h3 h4 hrb hyr hzr hx hb
  go_loopw [9] (fun v wr => ∃ i : Nat, i ≤ 2 ∧ v = .int .i64 i ∧ Later w8 wr) (fun v _ => 2 - (intOf v).toNat)
  case atStart => exact ⟨0, by omega, rfl, Later.refl _⟩
  case round =>
    obtain ⟨i, hi, rfl, hL⟩ := hrel
    by_cases hlt : i < 2
    · obtain ⟨hr1, hr2, hr3⟩ := HF.out i hlt
      generalize F i = f at *
      have hi2 : (i : Int) < 2 := by omega
      have hi0 : (0 : Int) ≤ (i : Int) := by omega
      have hYr := hYd.call hL
      have hZr := hZd.call hL
      have hyr := hyod.later hL
      have hzr := hzod.later hL
      have hfr := hr2.later hL
      have hRg := Lib.hid (rangeAt_later hr1 hL)
      have hLr := hLb.call hL
      have hc1 := Lib.hid (hcv.out f ⟨hr3.i, hr3.s, by have := hr3.n; omega⟩)
      have hd1 := Lib.hid (hrv.out f ⟨hr3.i, hr3.s, by have := hr3.n; omega⟩)
      have hvr := value_rd hru.out (d := f.D) (by have := hr3.n; omega)
      have hvo := value_own hru.out (d := f.D)
      clear hYd hZd hyod hzod hr1 hr2 hr3 HF hrv
      generalize valueC R f.D = V at *
      obtain ⟨V, ec⟩ := V
      simp only at hc1 hd1 hvr hvo
      go_upto_region 9 with fail
      refine wp_calls_tail 12 10 11 (fun i => i == 6) ⟨by kernel_rfl, by kernel_rfl, by kernel_rfl, by kernel_rfl, by kernel_rfl, by kernel_rfl, by kernel_rfl, by kernel_rfl, by kernel_rfl⟩ rfl rfl rfl row_dec rfl rfl (by kernel_rfl) (by simp) (by simp) (z := #[.bool false, .slice none 0 0, .int .i64 0]) (t := 29) rfl ?_ ?_
      · intro W a K h
        go_simp
        exact h
      simp only [List.take_succ_cons, List.take_zero, List.drop_succ_cons, List.drop_zero]
      generalize hQQ : (fun (I : Inv wr) (a' : Act) => ∃ us : Array Value, _) = QQ
      have HQQ := Lib.hid hQQ
      clear hQQ
      refine QM_loadb hYr row_rules ⟨rfl, by decide⟩ rfl rfl rfl ?_
      go_simp
      refine wpQM_step ⟨rfl, by decide⟩ (fun K hK => ?_)
      go_simp
      refine ⟨_, fun _ _ => rfl, hK _ ?_⟩
      clear hK K
      go_simp
      refine wpQM_step ⟨rfl, by decide⟩ (fun K hK => ?_)
      go_simp
      refine ⟨_, fun _ _ => rfl, hK _ ?_⟩
      clear hK K
      go_simp
      refine wpQM_step ⟨rfl, by decide⟩ (fun K hK => ?_)
      go_simp
      refine ⟨_, fun _ _ => rfl, hK _ ?_⟩
      clear hK K
      go_simp
      refine QM_loadR (f.cs.toList) (fun W hW => rangeAt_later hRg.out hW) row_dec6 ⟨rfl, by decide⟩ rfl rfl rfl ?_
      go_simp
      refine wpQM_step ⟨rfl, by decide⟩ (fun K hK => ?_)
      go_simp
      refine ⟨_, fun W hW => vdec13_any _ W, hK _ ?_⟩
      clear hK K
      go_simp
      refine wpQM_call (upQ (K := kce ec) kce_inj V) rfl ?_ ?_
      · intro W hW
        go_simp
        exact ⟨rfl, hc1.out W (hyr.later hW) (hfr.later hW)⟩
      rintro u ⟨a, rfl, ha⟩
      unfold kce
      go_simp
      refine wpQM_step ⟨rfl, by decide⟩ (fun K hK => ?_)
      go_simp
      refine ⟨_, fun _ _ => rfl, hK _ ?_⟩
      clear hK K
      go_simp
      refine wpQM_step ⟨rfl, by decide⟩ (fun K hK => ?_)
      go_simp
      refine ⟨_, fun _ _ => rfl, hK _ ?_⟩
      clear hK K
      go_simp
      refine wpQM_step ⟨rfl, by decide⟩ (fun K hK => ?_)
      go_simp
      refine ⟨_, fun _ _ => rfl, hK _ ?_⟩
      clear hK K
      go_simp
      iterate 2 (refine wpQM_pass ⟨rfl, by decide⟩ ?_)
      refine wpQM_nil ?_
      rw [← HQQ.out]
      clear HQQ QQ
      refine ⟨a.cs, rfl, rfl, by kernel_rfl, ?_⟩
      rintro W2 ga hA0 ⟨hLW, hFW⟩ -
      have hA := hA0.base hLr
      have hLW : Later wr W2 := hLW
      have hao : a.ok W2 := hFW a rfl ha.out
      have hYs := hYr.call hLW
      have hZs := hZr.call hLW
      have hys := hyr.later hLW
      have hzs := hzr.later hLW
      have hfs := hfr.later hLW
      have hRs := Lib.hid (rangeAt_later hRg.out hLW)
      have hLs := hLr.call hLW
      have hL2 := hL.call hLW
      clear hFW hA0 hYr hZr hyr hzr hfr hRg hLr hLW hc1 hL
      go_simp
      go_upto_region 10 with fail
      refine wp_calls_tail 11 9 10 (fun i => i == 5) ⟨by kernel_rfl, by kernel_rfl, by kernel_rfl, by kernel_rfl, by kernel_rfl, by kernel_rfl, by kernel_rfl, by kernel_rfl, by kernel_rfl⟩ rfl rfl rfl row_dec6 rfl rfl (by kernel_rfl) (by simp) (by simp) (z := #[.bool false, .slice none 0 0, .int .i64 0]) (t := 24) rfl ?_ ?_
      · intro W a K h
        go_simp
        exact h
      simp only [List.take_succ_cons, List.take_zero, List.drop_succ_cons, List.drop_zero]
      generalize hQQ : (fun (I : Inv W2) (a' : Act) => ∃ us : Array Value, _) = QQ
      have HQQ := Lib.hid hQQ
      clear hQQ
      refine QM_loadb hZs row_rules13 ⟨rfl, by decide⟩ rfl rfl rfl ?_
      go_simp
      refine wpQM_step ⟨rfl, by decide⟩ (fun K hK => ?_)
      go_simp
      refine ⟨_, fun _ _ => rfl, hK _ ?_⟩
      clear hK K
      go_simp
      refine wpQM_step ⟨rfl, by decide⟩ (fun K hK => ?_)
      go_simp
      refine ⟨_, fun _ _ => rfl, hK _ ?_⟩
      clear hK K
      go_simp
      refine wpQM_step ⟨rfl, by decide⟩ (fun K hK => ?_)
      go_simp
      refine ⟨_, fun _ _ => rfl, hK _ ?_⟩
      clear hK K
      go_simp
      refine QM_loadR (f.cs.toList) (fun W hW => rangeAt_later hRs.out hW) row_dec6 ⟨rfl, by decide⟩ rfl rfl rfl ?_
      go_simp
      refine wpQM_call (upQ (K := kce ec) kce_inj V) rfl ?_ ?_
      · intro W hW
        go_simp
        exact ⟨rfl, hd1.out W (hzs.later hW) (hfs.later hW)⟩
      rintro u ⟨b, rfl, hbd⟩
      unfold kce
      go_simp
      refine wpQM_step ⟨rfl, by decide⟩ (fun K hK => ?_)
      go_simp
      refine ⟨_, fun _ _ => rfl, hK _ ?_⟩
      clear hK K
      go_simp
      refine wpQM_step ⟨rfl, by decide⟩ (fun K hK => ?_)
      go_simp
      refine ⟨_, fun _ _ => rfl, hK _ ?_⟩
      clear hK K
      go_simp
      refine wpQM_step ⟨rfl, by decide⟩ (fun K hK => ?_)
      go_simp
      refine ⟨_, fun _ _ => rfl, hK _ ?_⟩
      clear hK K
      go_simp
      iterate 2 (refine wpQM_pass ⟨rfl, by decide⟩ ?_)
      refine wpQM_nil ?_
      rw [← HQQ.out]
      clear HQQ QQ
      refine ⟨b.cs, rfl, rfl, by kernel_rfl, ?_⟩
      rintro W3 gb hB0 ⟨hLW, hFW⟩ -
      have hB := hB0.base hLs
      have hLW : Later W2 W3 := hLW
      have hbo : b.ok W3 := hFW b rfl hbd.out
      have hYt := hYs.call hLW
      have hyt := hys.later hLW
      have hAt := hA.call hLW
      have hat := hao.below hLW
      have hLt := hLs.call hLW
      have hL3 := hL2.call hLW
      clear hFW hB0 hYs hZs hys hzs hfs hRs hLs hLW hd1 hL2 hao hA
      go_simp
      go_upto_region 11 with fail
      have hs1 := Lib.hid (fun W (hW : a.ok W) (hW2 : b.ok W) => show Calls Tryz.prog 17 #[.agg a.cs, .agg b.cs] W (RV W (.bool true)) by
        have := vsame6_any a b W hW hW2
        rw [ha.out, hbd.out, sameDc_refl] at this
        exact this)
      have har : a.Rd 5000 := by have e := ha.out; rw [← e] at hvr; exact ⟨(may_bd hvr.1).1, (may_bd hvr.1).2, by omega⟩
      have hc2 := Lib.hid (hcv.out a har)
      have hf2 := Lib.hid (hft.out a har)
      have e1 : valueC R a.D = valueC R V := by rw [ha.out]
      have e2 : (mayDc a.D && fitsC R.n a.D) = (mayDc V && fitsC R.n V) := by rw [ha.out]
      rw [e1] at hc2
      rw [e2] at hf2
      clear e1 e2 har hcv hft hvr
      refine wp_region_ext (by kernel_rfl) (by kernel_rfl) ?_
      repeat (first
        | (go_big_quiet_want; refine quiet_load_blk hAt row_dec rfl rfl rfl ?_; go_simp; go_big_quiet_on)
        | (go_big_quiet_want; refine quiet_load_blk hB row_dec6 rfl rfl rfl ?_; go_simp; go_big_quiet_on)
        | (go_big_quiet_step (first
          | (go_at_call 18; exact quiet_ext _ (vas13_any _ _))
          | (go_at_call 17; with_reducible exact quiet_ext _ (hs1.out _ (hat.ext _) (hbo.ext _))))))
      refine wpQuiet_nil ?_
      rintro _ ⟨s, rfl⟩
      have hYu := hYt.call s.h
      have hyu := hyt.ext s
      have hAu := hAt.call s.h
      have hBu := hB.call s.h
      have hau := hat.ext s
      have hbu := hbo.ext s
      have hL4 := hL3.call s.h
      generalize s.world = W4 at *
      clear hYt hyt hAt hB hat hbo hLt hL3 hs1
      obtain ⟨U, eu, hU⟩ : ∃ U eu, Hid (valueC R V = (U, eu)) := ⟨_, _, rfl⟩
      rw [hU.out] at hc2 hvo
      simp only at hc2 hvo
      go_wp2_with (first | (refine wpList_load_blkg (hYu) row_rules rfl rfl rfl rfl ?_; go_simp) | (refine wpList_load_blkg (hAu) row_dec rfl rfl rfl rfl ?_; go_simp))
      refine (hc2.out _ hyu hau).mono ?_
      rintro e W5 ⟨q, rfl, hq, hqo, hC, _⟩
      unfold kce
      have pZ := Blk.made w W5 29 #[.bool false, .slice none 0 0, .int .i64 0] (hYu.call hC).later _ rfl
      have hYv_l := (hYu.call hC).lt
      have hYv_q := (hYu.call hC).alloc (.cells #[.bool false, .slice none 0 0, .int .i64 0] 29)
      have hAv_l := (hAu.call hC).lt
      have hAv_q := (hAu.call hC).alloc (.cells #[.bool false, .slice none 0 0, .int .i64 0] 29)
      have hBv_l := (hBu.call hC).lt
      have hBv_q := (hBu.call hC).alloc (.cells #[.bool false, .slice none 0 0, .int .i64 0] 29)
      have hav_f := (hau.below hC).off (Nat.le_refl _)
      have hav_q := (hau.below hC).alloc (.cells #[.bool false, .slice none 0 0, .int .i64 0] 29)
      have hbv_f := (hbu.below hC).off (Nat.le_refl _)
      have hbv_q := (hbu.below hC).alloc (.cells #[.bool false, .slice none 0 0, .int .i64 0] 29)
      have hqv_f := (hqo).off (Nat.le_refl _)
      have hqv_q := (hqo).alloc (.cells #[.bool false, .slice none 0 0, .int .i64 0] 29)
      go_upto_region 14 with (first | (refine wpList_store_blk pZ row_dec rfl rfl rfl rfl rfl rfl (by kernel_rfl) ?_; intro W6 hQ pS; go_simp))
      have hYv := pS.far hYv_q (by omega) pZ.1
      have hAv := pS.far hAv_q (by omega) pZ.1
      have hBv := pS.far hBv_q (by omega) pZ.1
      have hav := hav_q.sto pS hav_f
      have hbv := hbv_q.sto pS hbv_f
      have hqv := hqv_q.sto pS hqv_f
      have hLq : Later W4 W6 := pS.later ((show Later W4 W5 from hC).alloc _) (show W4.heap.size ≤ W5.heap.size from hC.size)
      clear pZ pS hYv_l hYv_q hAv_l hAv_q hBv_l hBv_q hav_f hav_q hbv_f hbv_q hqv_f hqv_q
      clear hC hYu hyu hAu hBu hau hbu hqo hc2
      have hL5 := hL4.call hLq
      generalize W5.heap.size = gq at *
      by_cases hec : ec = 0
      · subst hec
        obtain ⟨o1, o2, o3⟩ := hvo rfl
        have o4 : U = V ∧ eu = 0 := by simpa using o3
        obtain ⟨rfl, rfl⟩ := o4
        rw [o1, o2] at hf2
        have hs2 := Lib.hid (fun W (hW : q.ok W) (hW2 : b.ok W) => show Calls Tryz.prog 17 #[.agg q.cs, .agg b.cs] W (RV W (.bool true)) by
          have := vsame6_any q b W hW hW2
          rw [hq.out, hbd.out, sameDc_refl] at this
          exact this)
        clear o1 o2 o3 hvo
        have hf2 := Lib.hid (fun W (hW : a.ok W) => show Calls Tryz.prog 19 #[.agg y.cs, .agg a.cs] W (RV W (.bool true)) from hf2.out W hW)
        refine wp_region_ext (by kernel_rfl) (by kernel_rfl) ?_
        repeat (first
          | (go_big_quiet_want; refine quiet_load_blk hYv row_rules rfl rfl rfl ?_; go_simp; go_big_quiet_on)
          | (go_big_quiet_want; refine quiet_load_blk hAv row_dec rfl rfl rfl ?_; go_simp; go_big_quiet_on)
          | (go_big_quiet_want; refine quiet_load_blk hQ row_dec rfl rfl rfl ?_; go_simp; go_big_quiet_on)
          | (go_big_quiet_want; refine quiet_load_blk hBv row_dec6 rfl rfl rfl ?_; go_simp; go_big_quiet_on)
          | (go_big_quiet_step (first
            | (go_at_call 19; with_reducible exact quiet_ext _ (hf2.out _ (hav.ext _)))
            | (go_at_call 18; exact quiet_ext _ (vas13_any _ _))
            | (go_at_call 17; with_reducible exact quiet_ext _ (hs2.out _ (hqv.ext _) (hbv.ext _))))))
        refine wpQuiet_nil ?_
        rintro _ ⟨s, rfl⟩
        go_wp2_with fail
        go_roundw
        case rel => exact ⟨i + 1, by omega, by go_num, hL5.call s.h⟩
        case measure => simp [intOf]; omega
      · have hb : (ec == (0 : Int)) = false := by simpa using hec
        refine wp_region_ext (by kernel_rfl) (by kernel_rfl) ?_
        repeat (first
          | (go_big_quiet_step (first
            | (go_at_call 18; exact quiet_ext _ (vas13_any _ _)))))
        refine wpQuiet_nil ?_
        rintro _ ⟨s, rfl⟩
        go_wp2_with fail
        go_roundw
        case rel => exact ⟨i + 1, by omega, by go_num, hL5.call s.h⟩
        case measure => simp [intOf]; omega
    · have hk : i = 2 := by omega
      subst hk
      have hLz := hLb.call hL
      go_wp2_with fail
      refine (lives13_any _).mono ?_
      rintro e wN ⟨rfl, hN⟩
      go_wp2_with fail
      go_ret
      exact ⟨rfl, hLz.call hN⟩

end Go.Proofs.YtickhmlhciafgaaGreat

