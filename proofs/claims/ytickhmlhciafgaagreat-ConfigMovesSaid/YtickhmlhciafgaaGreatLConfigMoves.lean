/- A number some steps farther is the document's, or refused: the walk. No condition. -/
import Derived.Test.YtickhmlhciafgaaGreatMa42
import Derived.Test.YtickhmlhciafgaaGreatMa24
namespace Go.Proofs.YtickhmlhciafgaaGreat
open Go.RowKit
set_option linter.unusedVariables false

set_option maxRecDepth 100000 in
set_option maxHeartbeats 4000000 in
theorem configMoves_walk (w : World) (x : GV) (hx : x.ok w) (hb : x.Bd) (b1 : Bool) {A1 : Option Addr} {n1 c1 : Nat} {l1 : List Int} {s1 : Int} (w1 : IL w A1 n1 c1 l1) (i1 : I64 l1) (x1 : -9223372036854775808 ≤ s1 ∧ s1 ≤ 9223372036854775807) {k : Int} (hk : -9223372036854775808 ≤ k ∧ k ≤ 9223372036854775807) :
    Calls Tryz.prog 4 #[.agg x.cs, .agg #[.bool b1, .slice A1 n1 c1, .int .i64 s1], .int .i64 k] w (RV w (.bool true)) := by
  obtain ⟨X, hX, _, hXg⟩ := cgood_ex (A := A1) (n := n1) (c := c1) b1 s1 14 i1 x1 (by omega)
  obtain ⟨d, hd⟩ : ∃ d : NV, Hid (d = ⟨⟨b1, l1, s1⟩, A1, n1, c1⟩) := ⟨_, rfl⟩
  obtain ⟨r, hr⟩ : ∃ r : NV, Hid (r = ⟨⟨b1, l1.take 14, s1⟩, A1, min n1 14, c1⟩) := ⟨_, rfl⟩
  have hdo : d.ok w := by rw [hd.out]; exact w1
  have hro : r.ok w := by rw [hr.out]; exact w1.fewc 14
  have hrr : r.Rd 14 := by rw [hr.out]; exact ⟨fun y hy => i1 y (List.mem_of_mem_take hy), x1, by show (l1.take 14).length ≤ 14; rw [List.length_take]; omega⟩
  have hgd := Lib.hid (fun W (hW : d.ok W) => show Calls Tryz.prog 12 #[.agg d.cs, .int .i64 14] W (PQ kc X W) by
    have hd := hd.out
    subst hd
    exact (hXg.out W hW).mono fun _ _ h => h.pq)
  have hfw := Lib.hid (fun W (hW : d.ok W) => show Calls Tryz.prog 13 #[.agg d.cs, .int .i64 14] W (RV W (.agg r.cs)) by
    have hd := hd.out
    have hr := hr.out
    subst hd
    subst hr
    exact (cfew_any b1 s1 14 W hW (by omega)).mono fun _ _ h => ⟨h.1, h.2.2⟩)
  have hmX : mayDc X = true := mayDc_iff.2 ⟨hX.1, hX.2.1, by have := hX.2.2.1; omega⟩
  have hXl : X.l.length ≤ 14 := hX.2.2.2
  have hcs : (#[.bool b1, .slice A1 n1 c1, .int .i64 s1] : Array Value) = d.cs := by rw [hd.out]; rfl
  rw [hcs]
  clear hcs hd hr w1 i1 x1 hX hXg
  have hgo := Lib.hid (fun W (h : x.ok W) => rgood13_any x W h hb)
  have hrl := Lib.hid (fun W (h : x.ok W) => show Calls Tryz.prog 11 #[.agg x.cs] W (PR kr (goodG x.g).ru W) from (rrules_any x W h hb).mono fun e W' ⟨y, h1, h2, h3, h4, h5⟩ => ⟨y, h1, h2, h3, h4, h5.new⟩)
  have hcok := goodG_ok x.g
  have hru := hcok.ruOk
  have hrb := hcok.ruBd
  have hcn := Lib.hid (fun W => hcok.cnew W)
  clear hcok
  generalize (goodG x.g).ru = R at *
  generalize goodG x.g = c at *
  have hB0 := ((Blk.made w w 28 x.cs (Later.refl w) _ rfl).alloc (.cells d.cs 24))
  have hB1 := (Blk.made w (w.alloc (.cells x.cs 28)) 24 d.cs ((Later.refl w).alloc _) (w.heap.size + 1) (by simp))
  go_enter Tryz.func4, Tryz.ntmps4
  go_upto_region 1 with fail
  generalize World.alloc (World.alloc w _) _ = w1 at *
  go_wp2_with (refine wpList_load_blk hB0 row_made13 rfl rfl rfl rfl ?_; go_simp)
  refine (hgo.out _ (hx.later hB0.later)).mono ?_
  rintro e w2 ⟨rfl, hC1⟩
  go_wp2_with fail
  refine (of13_any c _).mono ?_
  rintro e w3 ⟨rfl, hC2⟩
  go_wp2_with fail
  refine (hcn.out _).mono ?_
  rintro e w4 ⟨y, rfl, hyr, hyo, hC3, _⟩
  have hyr : Hid (y.r = R) := hyr
  have pZ := Blk.made w w4 32 #[.bool false, .slice none 0 0, .int .i64 0, .bool false, .slice none 0 0, .int .i64 0, .bool false, .slice none 0 0, .int .i64 0, .bool false, .int .i64 0, .int .i64 0, .int .i64 0, .int .i64 0, .int .i64 0, .int .i64 0, .int .i64 0] (((hB0.call hC1).call hC2).call hC3).later _ rfl
  have hB0a_l := (((hB0.call hC1).call hC2).call hC3).lt
  have hB0a_q := (((hB0.call hC1).call hC2).call hC3).alloc (.cells #[.bool false, .slice none 0 0, .int .i64 0, .bool false, .slice none 0 0, .int .i64 0, .bool false, .slice none 0 0, .int .i64 0, .bool false, .int .i64 0, .int .i64 0, .int .i64 0, .int .i64 0, .int .i64 0, .int .i64 0, .int .i64 0] 32)
  have hB1a_l := (((hB1.call hC1).call hC2).call hC3).lt
  have hB1a_q := (((hB1.call hC1).call hC2).call hC3).alloc (.cells #[.bool false, .slice none 0 0, .int .i64 0, .bool false, .slice none 0 0, .int .i64 0, .bool false, .slice none 0 0, .int .i64 0, .bool false, .int .i64 0, .int .i64 0, .int .i64 0, .int .i64 0, .int .i64 0, .int .i64 0, .int .i64 0] 32)
  have hyoa_f := (hyo).apart (Nat.le_refl _)
  have hyoa_q := (hyo).later ((Later.refl _).alloc (.cells #[.bool false, .slice none 0 0, .int .i64 0, .bool false, .slice none 0 0, .int .i64 0, .bool false, .slice none 0 0, .int .i64 0, .bool false, .int .i64 0, .int .i64 0, .int .i64 0, .int .i64 0, .int .i64 0, .int .i64 0, .int .i64 0] 32))
  go_upto_region 2 with (first | (refine wpList_store_blk pZ row_rules rfl rfl rfl rfl rfl rfl (by kernel_rfl) ?_; intro w5 hYa pS; go_simp))
  have hB0a := pS.far hB0a_q (by omega) pZ.1
  have hB1a := pS.far hB1a_q (by omega) pZ.1
  have hyoa := hyoa_q.sto pS hyoa_f
  clear pZ pS hB0a_l hB0a_q hB1a_l hB1a_q hyoa_f hyoa_q
  clear hC1 hC2 hC3 hyo hgo hcn hB0 hB1
  generalize w4.heap.size = gy at *
  go_upto_region 4 with fail
  go_wp2_with (refine wpList_load_blk hB0a row_made13 rfl rfl rfl rfl ?_; go_simp)
  refine (hrl.out _ (hx.later hB0a.later)).mono ?_
  rintro e w6 ⟨z, rfl, hzr, hzo, hC4, _⟩
  unfold kr
  have pZ := Blk.made w w6 44 #[.bool false, .slice none 0 0, .int .i64 0, .bool false, .slice none 0 0, .int .i64 0, .bool false, .slice none 0 0, .int .i64 0, .bool false, .int .i64 0, .int .i64 0, .int .i64 0, .int .i64 0, .int .i64 0, .int .i64 0, .int .i64 0] (hB0a.call hC4).later _ rfl
  have hB0b_l := (hB0a.call hC4).lt
  have hB0b_q := (hB0a.call hC4).alloc (.cells #[.bool false, .slice none 0 0, .int .i64 0, .bool false, .slice none 0 0, .int .i64 0, .bool false, .slice none 0 0, .int .i64 0, .bool false, .int .i64 0, .int .i64 0, .int .i64 0, .int .i64 0, .int .i64 0, .int .i64 0, .int .i64 0] 44)
  have hB1b_l := (hB1a.call hC4).lt
  have hB1b_q := (hB1a.call hC4).alloc (.cells #[.bool false, .slice none 0 0, .int .i64 0, .bool false, .slice none 0 0, .int .i64 0, .bool false, .slice none 0 0, .int .i64 0, .bool false, .int .i64 0, .int .i64 0, .int .i64 0, .int .i64 0, .int .i64 0, .int .i64 0, .int .i64 0] 44)
  have hYb_l := (hYa.call hC4).lt
  have hYb_q := (hYa.call hC4).alloc (.cells #[.bool false, .slice none 0 0, .int .i64 0, .bool false, .slice none 0 0, .int .i64 0, .bool false, .slice none 0 0, .int .i64 0, .bool false, .int .i64 0, .int .i64 0, .int .i64 0, .int .i64 0, .int .i64 0, .int .i64 0, .int .i64 0] 44)
  have hyob_f := (hyoa.later hC4).apart (Nat.le_refl _)
  have hyob_q := (hyoa.later hC4).later ((Later.refl _).alloc (.cells #[.bool false, .slice none 0 0, .int .i64 0, .bool false, .slice none 0 0, .int .i64 0, .bool false, .slice none 0 0, .int .i64 0, .bool false, .int .i64 0, .int .i64 0, .int .i64 0, .int .i64 0, .int .i64 0, .int .i64 0, .int .i64 0] 44))
  have hzob_f := (hzo).apart (Nat.le_refl _)
  have hzob_q := (hzo).later ((Later.refl _).alloc (.cells #[.bool false, .slice none 0 0, .int .i64 0, .bool false, .slice none 0 0, .int .i64 0, .bool false, .slice none 0 0, .int .i64 0, .bool false, .int .i64 0, .int .i64 0, .int .i64 0, .int .i64 0, .int .i64 0, .int .i64 0, .int .i64 0] 44))
  go_upto_region 5 with (first | (refine wpList_store_blk pZ row_rules13 rfl rfl rfl rfl rfl rfl (by kernel_rfl) ?_; intro w7 hZb pS; go_simp))
  have hB0b := pS.far hB0b_q (by omega) pZ.1
  have hB1b := pS.far hB1b_q (by omega) pZ.1
  have hYb := pS.far hYb_q (by omega) pZ.1
  have hyob := hyob_q.sto pS hyob_f
  have hzob := hzob_q.sto pS hzob_f
  clear pZ pS hB0b_l hB0b_q hB1b_l hB1b_q hYb_l hYb_q hyob_f hyob_q hzob_f hzob_q
  clear hC4 hyoa hzo hrl hYa hB0a hB1a
  generalize w6.heap.size = gz at *
  go_wp2_with (refine wpList_load_blk hB1b row_dec6 rfl rfl rfl rfl ?_; go_simp)
  refine (hgd.out _ (hdo.later hB1b.later)).mono ?_
  rintro e w8 ⟨p, rfl, hp, hpo, hC5, _⟩
  unfold kc
  have pZ := Blk.made w w8 24 #[.bool false, .slice none 0 0, .int .i64 0] (hB1b.call hC5).later _ rfl
  have hB1c_l := (hB1b.call hC5).lt
  have hB1c_q := (hB1b.call hC5).alloc (.cells #[.bool false, .slice none 0 0, .int .i64 0] 24)
  have hYc_l := (hYb.call hC5).lt
  have hYc_q := (hYb.call hC5).alloc (.cells #[.bool false, .slice none 0 0, .int .i64 0] 24)
  have hZc_l := (hZb.call hC5).lt
  have hZc_q := (hZb.call hC5).alloc (.cells #[.bool false, .slice none 0 0, .int .i64 0] 24)
  have hyoc_f := (hyob.later hC5).apart (Nat.le_refl _)
  have hyoc_q := (hyob.later hC5).later ((Later.refl _).alloc (.cells #[.bool false, .slice none 0 0, .int .i64 0] 24))
  have hzoc_f := (hzob.later hC5).apart (Nat.le_refl _)
  have hzoc_q := (hzob.later hC5).later ((Later.refl _).alloc (.cells #[.bool false, .slice none 0 0, .int .i64 0] 24))
  have hpoc_f := (hpo).off (Nat.le_refl _)
  have hpoc_q := (hpo).alloc (.cells #[.bool false, .slice none 0 0, .int .i64 0] 24)
  go_upto_region 6 with (first | (refine wpList_store_blk pZ row_dec6 rfl rfl rfl rfl rfl rfl (by kernel_rfl) ?_; intro w9 hPc pS; go_simp))
  have hB1c := pS.far hB1c_q (by omega) pZ.1
  have hYc := pS.far hYc_q (by omega) pZ.1
  have hZc := pS.far hZc_q (by omega) pZ.1
  have hyoc := hyoc_q.sto pS hyoc_f
  have hzoc := hzoc_q.sto pS hzoc_f
  have hpoc := hpoc_q.sto pS hpoc_f
  clear pZ pS hB1c_l hB1c_q hYc_l hYc_q hZc_l hZc_q hyoc_f hyoc_q hzoc_f hzoc_q hpoc_f hpoc_q
  clear hC5 hB0b hB1b hYb hZb hyob hzob hpo hgd
  generalize w8.heap.size = gp at *
  go_wp2_with (refine wpList_load_blk hB1c row_dec6 rfl rfl rfl rfl ?_; go_simp)
  refine (hfw.out _ (hdo.later hB1c.later)).mono ?_
  rintro e wa ⟨rfl, hC6⟩
  have pZ := Blk.made w wa 24 #[.bool false, .slice none 0 0, .int .i64 0] (hYc.call hC6).later _ rfl
  have hYd_l := (hYc.call hC6).lt
  have hYd_q := (hYc.call hC6).alloc (.cells #[.bool false, .slice none 0 0, .int .i64 0] 24)
  have hZd_l := (hZc.call hC6).lt
  have hZd_q := (hZc.call hC6).alloc (.cells #[.bool false, .slice none 0 0, .int .i64 0] 24)
  have hPd_l := (hPc.call hC6).lt
  have hPd_q := (hPc.call hC6).alloc (.cells #[.bool false, .slice none 0 0, .int .i64 0] 24)
  have hyod_f := (hyoc.later hC6).apart (Nat.le_refl _)
  have hyod_q := (hyoc.later hC6).later ((Later.refl _).alloc (.cells #[.bool false, .slice none 0 0, .int .i64 0] 24))
  have hzod_f := (hzoc.later hC6).apart (Nat.le_refl _)
  have hzod_q := (hzoc.later hC6).later ((Later.refl _).alloc (.cells #[.bool false, .slice none 0 0, .int .i64 0] 24))
  have hpod_f := (hpoc.below hC6).off (Nat.le_refl _)
  have hpod_q := (hpoc.below hC6).alloc (.cells #[.bool false, .slice none 0 0, .int .i64 0] 24)
  have hrod_f := (hro.later (hYc.call hC6).later).off (Nat.le_refl _)
  have hrod_q := (hro.later (hYc.call hC6).later).alloc (.cells #[.bool false, .slice none 0 0, .int .i64 0] 24)
  go_upto_region 7 with (first | (refine wpList_store_blk pZ row_dec6 rfl rfl rfl rfl rfl rfl (by kernel_rfl) ?_; intro wb hQd pS; go_simp))
  have hYd := pS.far hYd_q (by omega) pZ.1
  have hZd := pS.far hZd_q (by omega) pZ.1
  have hPd := pS.far hPd_q (by omega) pZ.1
  have hyod := hyod_q.sto pS hyod_f
  have hzod := hzod_q.sto pS hzod_f
  have hpod := hpod_q.sto pS hpod_f
  have hrod := hrod_q.sto pS hrod_f
  clear pZ pS hYd_l hYd_q hZd_l hZd_q hPd_l hPd_q hyod_f hyod_q hzod_f hzod_q hpod_f hpod_q hrod_f hrod_q
  clear hC6 hB1c hYc hZc hPc hyoc hzoc hpoc hfw hdo hro
  generalize wa.heap.size = gq at *
  obtain ⟨v, hv, lv, uv⟩ : ∃ v, Hid (around k 2001 = v) ∧ 0 ≤ v ∧ v < 2001 := ⟨_, rfl, (around_bd _ _ (by omega)).1, (around_bd _ _ (by omega)).2⟩
  have hwr : IntKind.i64.wrap (v - 1000) = v - 1000 := IntWalk.i64_in _ (by omega)
  go_wp2_with fail
  refine (around_still wb hk (by omega) hv.out).mono ?_
  rintro e wN ⟨rfl, hNN⟩
  have hNN := hNN.symm
  subst hNN
  go_upto_region 8 with fail
  generalize hj : v - 1000 = j at *
  clear hwr
  have hjb : -9223372036854775808 ≤ j ∧ j ≤ 9223372036854775807 := by omega
  clear hv lv uv hj
  have h1 : y.r.Ok := by rw [hyr.out]; exact hru
  have h2 : y.r.Bd := by rw [hyr.out]; exact hrb
  have h3 : z.r.Ok := by rw [hzr.out]; exact hru
  have h4 : z.r.Bd := by rw [hzr.out]; exact hrb
  have hcm := Lib.hid (fun (a : NV) (ha : a.Rd 1000) (m : Int) (hm : -9223372036854775808 ≤ m ∧ m ≤ 9223372036854775807) W (hY : y.ok W) (hA : a.ok W) => show Calls Tryz.prog 22 #[.agg y.cs, .agg a.cs, .int .i64 m] W (PQ (kce (moveC R a.D m).2) (moveC R a.D m).1 W) by
    have := (cmove_any y a.D m W hY hA h2 ha.i ha.s (by have := hA.len; have := ha.n; omega) hm).mono fun _ _ h => h.pq
    rw [hyr.out] at this
    exact this)
  have hrm := Lib.hid (fun (a : NV) (ha : a.Rd 1000) (m : Int) (hm : -9223372036854775808 ≤ m ∧ m ≤ 9223372036854775807) W (hZ : z.ok W) (hA : a.ok W) => show Calls Tryz.prog 23 #[.agg z.cs, .agg a.cs, .int .i64 m] W (PQ (kce (moveC R a.D m).2) (moveC R a.D m).1 W) by
    have := rmove_any z a m W hZ hA h4 (by have := h3.lens.2.2; omega) ha hm
    rw [hzr.out] at this
    exact this)
  have hpr : p.Rd 1000 := by have e := hp.out; rw [← e] at hmX hXl; exact ⟨(may_bd hmX).1, (may_bd hmX).2, by omega⟩
  have hrr2 : r.Rd 1000 := ⟨hrr.i, hrr.s, by have := hrr.n; omega⟩
  have c1 := Lib.hid (hcm.out p hpr j hjb)
  have c2 := Lib.hid (hcm.out r hrr2 k hk)
  have d1 := Lib.hid (hrm.out p hpr j hjb)
  have d2 := Lib.hid (hrm.out r hrr2 k hk)
  clear hcm hrm hpr hrr hrr2 h1 h2 h3 h4 hru hrb hyr hzr hmX hXl hp hx hb hjb hk
  generalize moveC R p.D j = V at *
  generalize moveC R r.D k = U at *
  obtain ⟨V, ec⟩ := V
  obtain ⟨U, eu⟩ := U
  simp only at c1 c2 d1 d2
  refine wp_calls_tail 10 8 9 (fun i => i == 4) ⟨by kernel_rfl, by kernel_rfl, by kernel_rfl, by kernel_rfl, by kernel_rfl, by kernel_rfl, by kernel_rfl, by kernel_rfl, by kernel_rfl⟩ rfl rfl rfl row_dec rfl rfl (by kernel_rfl) (by simp) (by simp) (z := #[.bool false, .slice none 0 0, .int .i64 0]) (t := 29) rfl ?_ ?_
  · intro W a K h
    go_simp
    exact h
  simp only [List.take_succ_cons, List.take_zero, List.drop_succ_cons, List.drop_zero]
  generalize hQQ : (fun (I : Inv wb) (a' : Act) => ∃ us : Array Value, _) = QQ
  have HQQ := Lib.hid hQQ
  clear hQQ
  refine QM_loadb hYd row_rules ⟨rfl, by decide⟩ rfl rfl rfl ?_
  go_simp
  refine QM_loadb hPd row_dec6 ⟨rfl, by decide⟩ rfl rfl rfl ?_
  go_simp
  refine wpQM_step ⟨rfl, by decide⟩ (fun K hK => ?_)
  go_simp
  refine ⟨_, fun W hW => vdec13_any _ W, hK _ ?_⟩
  clear hK K
  go_simp
  refine wpQM_step ⟨rfl, by decide⟩ (fun K hK => ?_)
  go_simp
  refine ⟨_, fun _ _ => rfl, hK _ ?_⟩
  clear hK K
  go_simp
  refine wpQM_call (upQ (K := kce ec) kce_inj V) rfl ?_ ?_
  · intro W hW
    go_simp
    exact ⟨rfl, c1.out W (hyod.later hW) (hpod.later hW)⟩
  rintro u ⟨a, rfl, ha⟩
  unfold kce
  go_simp
  refine wpQM_step ⟨rfl, by decide⟩ (fun K hK => ?_)
  go_simp
  refine ⟨_, fun _ _ => rfl, hK _ ?_⟩
  clear hK K
  go_simp
  refine wpQM_step ⟨rfl, by decide⟩ (fun K hK => ?_)
  go_simp
  refine ⟨_, fun _ _ => rfl, hK _ ?_⟩
  clear hK K
  go_simp
  refine wpQM_step ⟨rfl, by decide⟩ (fun K hK => ?_)
  go_simp
  refine ⟨_, fun _ _ => rfl, hK _ ?_⟩
  clear hK K
  go_simp
  iterate 2 (refine wpQM_pass ⟨rfl, by decide⟩ ?_)
  refine wpQM_nil ?_
  rw [← HQQ.out]
  clear HQQ QQ
  refine ⟨a.cs, rfl, rfl, by kernel_rfl, ?_⟩
  rintro W ga hA0 ⟨hLW, hFW⟩ -
  have hA := hA0.base hYd.later
  have hLW : Later wb W := hLW
  have hao : a.ok W := hFW a rfl ha.out
  have hYe := hYd.call hLW
  have hZe := hZd.call hLW
  have hPe := hPd.call hLW
  have hQe := hQd.call hLW
  have hyoe := hyod.later hLW
  have hzoe := hzod.later hLW
  have hpoe := hpod.later hLW
  have hroe := hrod.later hLW
  clear hFW hA0 hYd hZd hPd hQd hyod hzod hpod hrod hLW c1
  go_simp
  go_wp2_with (first | (refine wpList_load_blkg (hZe) row_rules13 rfl rfl rfl rfl ?_; go_simp) | (refine wpList_load_blkg (hPe) row_dec6 rfl rfl rfl rfl ?_; go_simp))
  refine (d1.out _ hzoe hpoe).mono ?_
  rintro e wd ⟨b, rfl, hbd, hbo, hC8, _⟩
  unfold kce
  have pZ := Blk.made w wd 24 #[.bool false, .slice none 0 0, .int .i64 0] (hYe.call hC8).later _ rfl
  have hYf_l := (hYe.call hC8).lt
  have hYf_q := (hYe.call hC8).alloc (.cells #[.bool false, .slice none 0 0, .int .i64 0] 24)
  have hZf_l := (hZe.call hC8).lt
  have hZf_q := (hZe.call hC8).alloc (.cells #[.bool false, .slice none 0 0, .int .i64 0] 24)
  have hQf_l := (hQe.call hC8).lt
  have hQf_q := (hQe.call hC8).alloc (.cells #[.bool false, .slice none 0 0, .int .i64 0] 24)
  have hAf_l := (hA.call hC8).lt
  have hAf_q := (hA.call hC8).alloc (.cells #[.bool false, .slice none 0 0, .int .i64 0] 24)
  have hyof_f := (hyoe.later hC8).apart (Nat.le_refl _)
  have hyof_q := (hyoe.later hC8).later ((Later.refl _).alloc (.cells #[.bool false, .slice none 0 0, .int .i64 0] 24))
  have hzof_f := (hzoe.later hC8).apart (Nat.le_refl _)
  have hzof_q := (hzoe.later hC8).later ((Later.refl _).alloc (.cells #[.bool false, .slice none 0 0, .int .i64 0] 24))
  have hrof_f := (hroe.below hC8).off (Nat.le_refl _)
  have hrof_q := (hroe.below hC8).alloc (.cells #[.bool false, .slice none 0 0, .int .i64 0] 24)
  have haof_f := (hao.below hC8).off (Nat.le_refl _)
  have haof_q := (hao.below hC8).alloc (.cells #[.bool false, .slice none 0 0, .int .i64 0] 24)
  have hbof_f := (hbo).off (Nat.le_refl _)
  have hbof_q := (hbo).alloc (.cells #[.bool false, .slice none 0 0, .int .i64 0] 24)
  go_upto_region 10 with (first | (refine wpList_store_blk pZ row_dec6 rfl rfl rfl rfl rfl rfl (by kernel_rfl) ?_; intro we hBf pS; go_simp))
  have hYf := pS.far hYf_q (by omega) pZ.1
  have hZf := pS.far hZf_q (by omega) pZ.1
  have hQf := pS.far hQf_q (by omega) pZ.1
  have hAf := pS.far hAf_q (by omega) pZ.1
  have hyof := hyof_q.sto pS hyof_f
  have hzof := hzof_q.sto pS hzof_f
  have hrof := hrof_q.sto pS hrof_f
  have haof := haof_q.sto pS haof_f
  have hbof := hbof_q.sto pS hbof_f
  clear pZ pS hYf_l hYf_q hZf_l hZf_q hQf_l hQf_q hAf_l hAf_q hyof_f hyof_q hzof_f hzof_q hrof_f hrof_q haof_f haof_q hbof_f hbof_q
  clear hC8 hYe hZe hPe hQe hyoe hzoe hpoe hroe hao hA hbo d1
  generalize wd.heap.size = gb at *
  refine wp_calls_tail 10 8 9 (fun i => i == 4) ⟨by kernel_rfl, by kernel_rfl, by kernel_rfl, by kernel_rfl, by kernel_rfl, by kernel_rfl, by kernel_rfl, by kernel_rfl, by kernel_rfl⟩ rfl rfl rfl row_dec rfl rfl (by kernel_rfl) (by simp) (by simp) (z := #[.bool false, .slice none 0 0, .int .i64 0]) (t := 29) rfl ?_ ?_
  · intro W a K h
    go_simp
    exact h
  simp only [List.take_succ_cons, List.take_zero, List.drop_succ_cons, List.drop_zero]
  generalize hQQ : (fun (I : Inv we) (a' : Act) => ∃ us : Array Value, _) = QQ
  have HQQ := Lib.hid hQQ
  clear hQQ
  refine QM_loadb hYf row_rules ⟨rfl, by decide⟩ rfl rfl rfl ?_
  go_simp
  refine QM_loadb hQf row_dec6 ⟨rfl, by decide⟩ rfl rfl rfl ?_
  go_simp
  refine wpQM_step ⟨rfl, by decide⟩ (fun K hK => ?_)
  go_simp
  refine ⟨_, fun W hW => vdec13_any _ W, hK _ ?_⟩
  clear hK K
  go_simp
  refine wpQM_step ⟨rfl, by decide⟩ (fun K hK => ?_)
  go_simp
  refine ⟨_, fun _ _ => rfl, hK _ ?_⟩
  clear hK K
  go_simp
  refine wpQM_call (upQ (K := kce eu) kce_inj U) rfl ?_ ?_
  · intro W hW
    go_simp
    exact ⟨rfl, c2.out W (hyof.later hW) (hrof.later hW)⟩
  rintro u ⟨s, rfl, hs⟩
  unfold kce
  go_simp
  refine wpQM_step ⟨rfl, by decide⟩ (fun K hK => ?_)
  go_simp
  refine ⟨_, fun _ _ => rfl, hK _ ?_⟩
  clear hK K
  go_simp
  refine wpQM_step ⟨rfl, by decide⟩ (fun K hK => ?_)
  go_simp
  refine ⟨_, fun _ _ => rfl, hK _ ?_⟩
  clear hK K
  go_simp
  refine wpQM_step ⟨rfl, by decide⟩ (fun K hK => ?_)
  go_simp
  refine ⟨_, fun _ _ => rfl, hK _ ?_⟩
  clear hK K
  go_simp
  iterate 2 (refine wpQM_pass ⟨rfl, by decide⟩ ?_)
  refine wpQM_nil ?_
  rw [← HQQ.out]
  clear HQQ QQ
  refine ⟨s.cs, rfl, rfl, by kernel_rfl, ?_⟩
  rintro W2 gs hS0 ⟨hLW, hFW⟩ -
  have hS := hS0.base hYf.later
  have hLW : Later we W2 := hLW
  have hso : s.ok W2 := hFW s rfl hs.out
  have hZg := hZf.call hLW
  have hQg := hQf.call hLW
  have hAg := hAf.call hLW
  have hBg := hBf.call hLW
  have hzog := hzof.later hLW
  have hrog := hrof.later hLW
  have haog := haof.later hLW
  have hbog := hbof.later hLW
  clear hFW hS0 hYf hZf hQf hAf hBf hyof hzof hrof haof hbof hLW c2
  go_simp
  go_wp2_with (first | (refine wpList_load_blkg (hZg) row_rules13 rfl rfl rfl rfl ?_; go_simp) | (refine wpList_load_blkg (hQg) row_dec6 rfl rfl rfl rfl ?_; go_simp))
  refine (d2.out _ hzog hrog).mono ?_
  rintro e wf ⟨t, rfl, ht, hto, hC9, _⟩
  unfold kce
  have pZ := Blk.made w wf 24 #[.bool false, .slice none 0 0, .int .i64 0] (hAg.call hC9).later _ rfl
  have hAh_l := (hAg.call hC9).lt
  have hAh_q := (hAg.call hC9).alloc (.cells #[.bool false, .slice none 0 0, .int .i64 0] 24)
  have hBh_l := (hBg.call hC9).lt
  have hBh_q := (hBg.call hC9).alloc (.cells #[.bool false, .slice none 0 0, .int .i64 0] 24)
  have hSh_l := (hS.call hC9).lt
  have hSh_q := (hS.call hC9).alloc (.cells #[.bool false, .slice none 0 0, .int .i64 0] 24)
  have haoh_f := (haog.below hC9).off (Nat.le_refl _)
  have haoh_q := (haog.below hC9).alloc (.cells #[.bool false, .slice none 0 0, .int .i64 0] 24)
  have hboh_f := (hbog.below hC9).off (Nat.le_refl _)
  have hboh_q := (hbog.below hC9).alloc (.cells #[.bool false, .slice none 0 0, .int .i64 0] 24)
  have hsoh_f := (hso.below hC9).off (Nat.le_refl _)
  have hsoh_q := (hso.below hC9).alloc (.cells #[.bool false, .slice none 0 0, .int .i64 0] 24)
  have htoh_f := (hto).off (Nat.le_refl _)
  have htoh_q := (hto).alloc (.cells #[.bool false, .slice none 0 0, .int .i64 0] 24)
  go_upto_region 12 with (first | (refine wpList_store_blk pZ row_dec6 rfl rfl rfl rfl rfl rfl (by kernel_rfl) ?_; intro wg hTh pS; go_simp))
  have hAh := pS.far hAh_q (by omega) pZ.1
  have hBh := pS.far hBh_q (by omega) pZ.1
  have hSh := pS.far hSh_q (by omega) pZ.1
  have haoh := haoh_q.sto pS haoh_f
  have hboh := hboh_q.sto pS hboh_f
  have hsoh := hsoh_q.sto pS hsoh_f
  have htoh := htoh_q.sto pS htoh_f
  clear pZ pS hAh_l hAh_q hBh_l hBh_q hSh_l hSh_q haoh_f haoh_q hboh_f hboh_q hsoh_f hsoh_q htoh_f htoh_q
  clear hC9 hZg hQg hAg hBg hzog hrog haog hbog hso hto hS d2
  generalize wf.heap.size = gt at *
  have hs1 := Lib.hid (fun W (hW : a.ok W) (hW2 : b.ok W) => show Calls Tryz.prog 17 #[.agg a.cs, .agg b.cs] W (RV W (.bool true)) by
    have := vsame6_any a b W hW hW2
    rw [ha.out, hbd.out, sameDc_refl] at this
    exact this)
  have hs2 := Lib.hid (fun W (hW : s.ok W) (hW2 : t.ok W) => show Calls Tryz.prog 17 #[.agg s.cs, .agg t.cs] W (RV W (.bool true)) by
    have := vsame6_any s t W hW hW2
    rw [hs.out, ht.out, sameDc_refl] at this
    exact this)
  have t1 : (ec == ec) = true := beq_self_eq_true ec
  have t2 : (eu == eu) = true := beq_self_eq_true eu
  have hLb := hTh.later
  clear ha hbd hs ht
  refine wp_region_ext (by kernel_rfl) (by kernel_rfl) ?_
  repeat (first
    | (go_big_quiet_want; refine quiet_load_blk hAh row_dec rfl rfl rfl ?_; go_simp; go_big_quiet_on)
    | (go_big_quiet_want; refine quiet_load_blk hBh row_dec6 rfl rfl rfl ?_; go_simp; go_big_quiet_on)
    | (go_big_quiet_want; refine quiet_load_blk hSh row_dec rfl rfl rfl ?_; go_simp; go_big_quiet_on)
    | (go_big_quiet_want; refine quiet_load_blk hTh row_dec6 rfl rfl rfl ?_; go_simp; go_big_quiet_on)
    | (go_big_quiet_step (first
      | (go_at_call 18; exact quiet_ext _ (vas13_any _ _))
      | (go_at_call 17; with_reducible exact quiet_ext _ (hs1.out _ (haoh.ext _) (hboh.ext _)))
      | (go_at_call 17; with_reducible exact quiet_ext _ (hs2.out _ (hsoh.ext _) (htoh.ext _)))
      | (go_at_call 20; exact quiet_ext _ (lives13_any _)))))
  refine wpQuiet_nil ?_
  rintro _ ⟨q, rfl⟩
  go_wp2_with fail
  go_ret
  exact ⟨rfl, hLb.call q.h⟩

end Go.Proofs.YtickhmlhciafgaaGreat

