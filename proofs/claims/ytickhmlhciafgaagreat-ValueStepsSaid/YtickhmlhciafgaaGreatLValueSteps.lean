/- A draft some steps farther is the document's, or refused: the walk. No condition. -/
import Derived.Test.YtickhmlhciafgaaGreatMa35
import Derived.Test.YtickhmlhciafgaaGreatMa42
namespace Go.Proofs.YtickhmlhciafgaaGreat
open Go.RowKit
set_option linter.unusedVariables false

set_option maxRecDepth 100000 in
set_option maxHeartbeats 4000000 in
theorem valueSteps_walk (w : World) (x : GV) (hx : x.ok w) (hb : x.Bd) (b1 p1 : Bool) {A1 : Option Addr} {n1 c1 : Nat} {l1 : List Int} {E1 : Option Addr} {m1 d1 : Nat} {k1 : List Int} (w1 : IL w A1 n1 c1 l1) (i1 : I64 l1) (x1 : IL w E1 m1 d1 k1) (j1 : I64 k1) {k : Int} (hk : -9223372036854775808 ≤ k ∧ k ≤ 9223372036854775807) :
    Calls Tryz.prog 7 #[.agg x.cs, .agg #[.bool b1, .slice A1 n1 c1, .bool p1, .slice E1 m1 d1], .int .i64 k] w (RV w (.bool true)) := by
  obtain ⟨d, hd⟩ : ∃ d : DV, Hid (d = ⟨b1, A1, n1, c1, l1, p1, E1, m1, d1, k1⟩) := ⟨_, rfl⟩
  have hdo : d.ok w := by rw [hd.out]; exact ⟨w1, x1⟩
  have hdi : I64 d.l := by rw [hd.out]; exact i1
  have hdf : I64 d.f := by rw [hd.out]; exact j1
  have hcs : (#[.bool b1, .slice A1 n1 c1, .bool p1, .slice E1 m1 d1] : Array Value) = d.cs := by rw [hd.out]; rfl
  rw [hcs]
  clear hcs hd w1 x1 i1 j1
  have hgd := Lib.hid (fun W (hW : d.ok W) => vgood_any d 9 7 W hW hdi hdf (by omega) (by omega))
  have hg := goodD_ok d.d 9 7 (by omega) (by omega)
  generalize goodD d.d 9 7 = G at *
  obtain ⟨r, hr⟩ : ∃ r : DV, Hid (r = ⟨d.b, d.A, min d.n 9, d.c, d.l.take 9, d.p, d.E, min d.m 9, d.q, d.f.take 9⟩) := ⟨_, rfl⟩
  have hro : r.ok w := by rw [hr.out]; exact ⟨hdo.1.fewc 9, hdo.2.fewc 9⟩
  have hrs : I64 r.l ∧ I64 r.f ∧ r.n ≤ 9 ∧ r.m ≤ 9 := by rw [hr.out]; exact ⟨fun y hy => hdi y (List.mem_of_mem_take hy), fun y hy => hdf y (List.mem_of_mem_take hy), Nat.min_le_right _ _, Nat.min_le_right _ _⟩
  have hfw := Lib.hid (fun W (hW : d.ok W) => show Calls Tryz.prog 31 #[.agg d.cs, .int .i64 9] W (RV W (.agg r.cs)) by
    have hr := hr.out
    subst hr
    exact vfew14_any d 9 W hW (by omega))
  clear hr
  have hbg := Lib.hid (fun W (h : x.ok W) => begin20_any x W h hb)
  have hcok := goodG_ok x.g
  have hru := hcok.ruOk
  have hrb := hcok.ruBd
  clear hcok
  generalize (goodG x.g).ru = R at *
  have hB0 := ((Blk.made w w 28 x.cs (Later.refl w) _ rfl).alloc (.cells d.cs 64))
  have hB1 := (Blk.made w (w.alloc (.cells x.cs 28)) 64 d.cs ((Later.refl w).alloc _) (w.heap.size + 1) (by simp))
  go_enter Tryz.func7, Tryz.ntmps7
  go_upto_region 1 with fail
  generalize World.alloc (World.alloc w _) _ = w1 at *
  go_wp2_with (refine wpList_load_blk hB0 row_made13 rfl rfl rfl rfl ?_; go_simp)
  refine (hbg.out _ (hx.later hB0.later)).mono ?_
  rintro e w2 ⟨y, z, rfl, hyr, hzr, hyo, hzo, hB2⟩
  have hY0 := (Blk.made w w2 32 #[.bool false, .slice none 0 0, .int .i64 0, .bool false, .slice none 0 0, .int .i64 0, .bool false, .slice none 0 0, .int .i64 0, .bool false, .int .i64 0, .int .i64 0, .int .i64 0, .int .i64 0, .int .i64 0, .int .i64 0, .int .i64 0] (hB0.call hB2).later _ rfl).alloc (.cells #[.bool false, .slice none 0 0, .int .i64 0, .bool false, .slice none 0 0, .int .i64 0, .bool false, .slice none 0 0, .int .i64 0, .bool false, .int .i64 0, .int .i64 0, .int .i64 0, .int .i64 0, .int .i64 0, .int .i64 0, .int .i64 0] 44)
  have hZ0 := Blk.made w (w2.alloc (.cells #[.bool false, .slice none 0 0, .int .i64 0, .bool false, .slice none 0 0, .int .i64 0, .bool false, .slice none 0 0, .int .i64 0, .bool false, .int .i64 0, .int .i64 0, .int .i64 0, .int .i64 0, .int .i64 0, .int .i64 0, .int .i64 0] 32)) 44 #[.bool false, .slice none 0 0, .int .i64 0, .bool false, .slice none 0 0, .int .i64 0, .bool false, .slice none 0 0, .int .i64 0, .bool false, .int .i64 0, .int .i64 0, .int .i64 0, .int .i64 0, .int .i64 0, .int .i64 0, .int .i64 0] ((hB0.call hB2).later.alloc _) (w2.heap.size + 1) (by simp)
  have hB1a := ((hB1.call hB2).alloc (.cells #[.bool false, .slice none 0 0, .int .i64 0, .bool false, .slice none 0 0, .int .i64 0, .bool false, .slice none 0 0, .int .i64 0, .bool false, .int .i64 0, .int .i64 0, .int .i64 0, .int .i64 0, .int .i64 0, .int .i64 0, .int .i64 0] 32)).alloc (.cells #[.bool false, .slice none 0 0, .int .i64 0, .bool false, .slice none 0 0, .int .i64 0, .bool false, .slice none 0 0, .int .i64 0, .bool false, .int .i64 0, .int .i64 0, .int .i64 0, .int .i64 0, .int .i64 0, .int .i64 0, .int .i64 0] 44)
  have hB1l := (hB1.call hB2).lt
  have hyo2 := (hyo.later ((Later.refl w2).alloc (.cells #[.bool false, .slice none 0 0, .int .i64 0, .bool false, .slice none 0 0, .int .i64 0, .bool false, .slice none 0 0, .int .i64 0, .bool false, .int .i64 0, .int .i64 0, .int .i64 0, .int .i64 0, .int .i64 0, .int .i64 0, .int .i64 0] 32))).later ((Later.refl _).alloc (.cells #[.bool false, .slice none 0 0, .int .i64 0, .bool false, .slice none 0 0, .int .i64 0, .bool false, .slice none 0 0, .int .i64 0, .bool false, .int .i64 0, .int .i64 0, .int .i64 0, .int .i64 0, .int .i64 0, .int .i64 0, .int .i64 0] 44))
  have hzo2 := (hzo.later ((Later.refl w2).alloc (.cells #[.bool false, .slice none 0 0, .int .i64 0, .bool false, .slice none 0 0, .int .i64 0, .bool false, .slice none 0 0, .int .i64 0, .bool false, .int .i64 0, .int .i64 0, .int .i64 0, .int .i64 0, .int .i64 0, .int .i64 0, .int .i64 0] 32))).later ((Later.refl _).alloc (.cells #[.bool false, .slice none 0 0, .int .i64 0, .bool false, .slice none 0 0, .int .i64 0, .bool false, .slice none 0 0, .int .i64 0, .bool false, .int .i64 0, .int .i64 0, .int .i64 0, .int .i64 0, .int .i64 0, .int .i64 0, .int .i64 0] 44))
  have hyp := hyo.apart (Nat.le_refl _)
  have hzp := hzo.apart (Nat.le_refl _)
  have hyq := hyo.apart (Nat.le_succ _)
  have hzq := hzo.apart (Nat.le_succ _)
  have hsz := hB0.later.size
  have hsz2 := hB2.size
  go_upto_region 2 with (first | (refine wpList_store_blk hY0 row_rules rfl rfl rfl rfl rfl rfl (by kernel_rfl) ?_; intro w3 hY hS3; go_simp) | (refine wpList_store_blk (hS3.far hZ0 (by omega) hY0.1) row_rules13 rfl rfl rfl rfl rfl rfl (by kernel_rfl) ?_; intro w4 hZ hS4; go_simp))
  have hg0 : w.heap.size ≤ w2.heap.size := hY0.1
  have hg1 : w.heap.size ≤ w2.heap.size + 1 := by omega
  have hY4 := hS4.far hY (by omega) hg1
  have hyo4 := (hyo2.sto hS3 hyp).sto hS4 hyq
  have hzo4 := (hzo2.sto hS3 hzp).sto hS4 hzq
  have hB1b := hS4.far (hS3.far hB1a (by omega) hg0) (by omega) hg1
  clear hB0 hbg hY0 hZ0 hS3 hS4 hY hyo hzo hyo2 hzo2 hyp hzp hyq hzq hsz2 hg0 hg1 hB1 hB1a hB1l
  have hyz : w2.heap.size ≠ w2.heap.size + 1 := by omega
  generalize hgy : w2.heap.size = gy at *
  generalize gy + 1 = gz at *
  go_upto_region 4 with fail
  obtain ⟨v, hv, lv, uv⟩ : ∃ v, Hid (around k 2001 = v) ∧ 0 ≤ v ∧ v < 2001 := ⟨_, rfl, (around_bd _ _ (by omega)).1, (around_bd _ _ (by omega)).2⟩
  have hwr : IntKind.i64.wrap (v - 1000) = v - 1000 := IntWalk.i64_in _ (by omega)
  go_wp2_with fail
  refine (around_still w4 hk (by omega) hv.out).mono ?_
  rintro e wN ⟨rfl, hNN⟩
  have hNN := hNN.symm
  subst hNN
  go_upto_region 5 with fail
  generalize hj : v - 1000 = j at *
  clear hwr
  have hjb : -1000 ≤ j ∧ j ≤ 1000 := by omega
  clear hv lv uv hj
  have hdo4 := hdo.later hB1b.later
  have hro4 := hro.later hB1b.later
  refine wp_made_tail 8 (fun i => i == 2 || i == 4 || i == 6) (fun i => i == 1 || i == 5 || i == 7) ⟨by kernel_rfl, by kernel_rfl, by kernel_rfl, by kernel_rfl, by kernel_rfl, by kernel_rfl, by kernel_rfl, by kernel_rfl, by kernel_rfl, by kernel_rfl⟩ ?_
  simp only [List.take_succ_cons, List.take_zero, List.drop_succ_cons, List.drop_zero]
  generalize hQQ : (fun (I : Inv w4) (a' : Act) => ∀ W, I.C W → wpList _ _ _ _ _ W) = QQ
  have HQQ := Lib.hid hQQ
  clear hQQ
  iterate 2 (refine wpFree_pass rfl ?_)
  refine FR_loadb hB1b row_draft14 rfl rfl rfl rfl ?_
  go_simp
  iterate 1 (refine wpFree_pass rfl ?_)
  refine FR_loadb hB1b row_draft14 rfl rfl rfl rfl ?_
  go_simp
  iterate 1 (refine wpFree_pass rfl ?_)
  refine FR_loadb hB1b row_draft14 rfl rfl rfl rfl ?_
  go_simp
  iterate 1 (refine wpFree_pass rfl ?_)
  refine wpFree_nil ?_
  refine QN_loadb hB1b row_draft14 ⟨rfl, rfl⟩ rfl rfl rfl ?_
  go_simp
  refine wpQN_call (upD (K := kd) kd_inj G) ⟨rfl, rfl⟩ ?_ ?_
  · intro W hW
    go_simp
    exact ⟨rfl, hgd.out W (hdo4.later hW)⟩
  rintro u ⟨q, rfl, hq⟩
  unfold kd
  go_simp
  refine wpQN_pass rfl ?_
  refine wpQN_step ⟨rfl, rfl⟩ (fun K hK => ?_)
  go_simp
  refine ⟨_, fun W hW => hfw.out W (hdo4.later hW.1), hK _ ?_⟩
  clear hK K
  go_simp
  refine wpQN_pass rfl ?_
  refine wpQN_call (upD (K := kd) kd_inj G) ⟨rfl, rfl⟩ ?_ ?_
  · intro W hW
    go_simp
    exact ⟨rfl, hgd.out W (hdo4.later hW.1)⟩
  rintro u ⟨q2, rfl, hq2⟩
  unfold kd
  go_simp
  refine wpQN_pass rfl ?_
  refine wpQN_call (upD (K := kd) kd_inj G) ⟨rfl, rfl⟩ ?_ ?_
  · intro W hW
    go_simp
    exact ⟨rfl, hgd.out W (hdo4.later hW.1.1)⟩
  rintro u ⟨q3, rfl, hq3⟩
  unfold kd
  go_simp
  refine wpQN_nil ?_
  rw [← HQQ.out]
  clear HQQ QQ
  rintro W ⟨⟨⟨hLW, hFW⟩, hFW2⟩, hFW3⟩
  have hLW : Later w4 W := hLW
  have hqo : q.ok W := hFW q rfl hq.out
  have hqo2 : q2.ok W := hFW2 q2 rfl hq2.out
  have hqo3 : q3.ok W := hFW3 q3 rfl hq3.out
  have hro5 := hro4.later hLW
  have hYc := hY4.call hLW
  have hZc := hZ.call hLW
  have hyoc := hyo4.later hLW
  have hzoc := hzo4.later hLW
  clear hFW hFW2 hFW3 hLW hY4 hZ hyo4 hzo4 hB1b hdo hdo4 hro hro4 hgd hfw
  simp only [DV.cs]
  go_upto_region 6 with fail
  have hL := Blk.made w W 64 #[.bool q.b, .slice q.A q.n q.c, .bool q.p, .slice q.E q.m q.q, .bool r.b, .slice r.A r.n r.c, .bool r.p, .slice r.E r.m r.q, .bool q2.b, .slice q2.A q2.n q2.c, .bool q2.p, .slice q2.E q2.m q2.q, .bool q3.b, .slice q3.A q3.n q3.c, .bool q3.p, .slice q3.E q3.m q3.q] hYc.later _ rfl
  have hYd := hYc.alloc (.cells #[.bool q.b, .slice q.A q.n q.c, .bool q.p, .slice q.E q.m q.q, .bool r.b, .slice r.A r.n r.c, .bool r.p, .slice r.E r.m r.q, .bool q2.b, .slice q2.A q2.n q2.c, .bool q2.p, .slice q2.E q2.m q2.q, .bool q3.b, .slice q3.A q3.n q3.c, .bool q3.p, .slice q3.E q3.m q3.q] 64)
  have hZd := hZc.alloc (.cells #[.bool q.b, .slice q.A q.n q.c, .bool q.p, .slice q.E q.m q.q, .bool r.b, .slice r.A r.n r.c, .bool r.p, .slice r.E r.m r.q, .bool q2.b, .slice q2.A q2.n q2.c, .bool q2.p, .slice q2.E q2.m q2.q, .bool q3.b, .slice q3.A q3.n q3.c, .bool q3.p, .slice q3.E q3.m q3.q] 64)
  have hyod := hyoc.later ((Later.refl W).alloc (.cells #[.bool q.b, .slice q.A q.n q.c, .bool q.p, .slice q.E q.m q.q, .bool r.b, .slice r.A r.n r.c, .bool r.p, .slice r.E r.m r.q, .bool q2.b, .slice q2.A q2.n q2.c, .bool q2.p, .slice q2.E q2.m q2.q, .bool q3.b, .slice q3.A q3.n q3.c, .bool q3.p, .slice q3.E q3.m q3.q] 64))
  have hzod := hzoc.later ((Later.refl W).alloc (.cells #[.bool q.b, .slice q.A q.n q.c, .bool q.p, .slice q.E q.m q.q, .bool r.b, .slice r.A r.n r.c, .bool r.p, .slice r.E r.m r.q, .bool q2.b, .slice q2.A q2.n q2.c, .bool q2.p, .slice q2.E q2.m q2.q, .bool q3.b, .slice q3.A q3.n q3.c, .bool q3.p, .slice q3.E q3.m q3.q] 64))
  have hqod := hqo.alloc (.cells #[.bool q.b, .slice q.A q.n q.c, .bool q.p, .slice q.E q.m q.q, .bool r.b, .slice r.A r.n r.c, .bool r.p, .slice r.E r.m r.q, .bool q2.b, .slice q2.A q2.n q2.c, .bool q2.p, .slice q2.E q2.m q2.q, .bool q3.b, .slice q3.A q3.n q3.c, .bool q3.p, .slice q3.E q3.m q3.q] 64)
  have hqod2 := hqo2.alloc (.cells #[.bool q.b, .slice q.A q.n q.c, .bool q.p, .slice q.E q.m q.q, .bool r.b, .slice r.A r.n r.c, .bool r.p, .slice r.E r.m r.q, .bool q2.b, .slice q2.A q2.n q2.c, .bool q2.p, .slice q2.E q2.m q2.q, .bool q3.b, .slice q3.A q3.n q3.c, .bool q3.p, .slice q3.E q3.m q3.q] 64)
  have hqod3 := hqo3.alloc (.cells #[.bool q.b, .slice q.A q.n q.c, .bool q.p, .slice q.E q.m q.q, .bool r.b, .slice r.A r.n r.c, .bool r.p, .slice r.E r.m r.q, .bool q2.b, .slice q2.A q2.n q2.c, .bool q2.p, .slice q2.E q2.m q2.q, .bool q3.b, .slice q3.A q3.n q3.c, .bool q3.p, .slice q3.E q3.m q3.q] 64)
  have hrod := hro5.alloc (.cells #[.bool q.b, .slice q.A q.n q.c, .bool q.p, .slice q.E q.m q.q, .bool r.b, .slice r.A r.n r.c, .bool r.p, .slice r.E r.m r.q, .bool q2.b, .slice q2.A q2.n q2.c, .bool q2.p, .slice q2.E q2.m q2.q, .bool q3.b, .slice q3.A q3.n q3.c, .bool q3.p, .slice q3.E q3.m q3.q] 64)
  generalize World.alloc W _ = w8 at *
  clear hYc hZc hyoc hzoc hqo hqo2 hqo3 hro5
  generalize W.heap.size = gl at *
  go_wp2_with fail
  have hN := Blk.made w w8 3 #[.int .i64 j, .int .i64 j, .int .i64 k, .int .i64 (j.tmod 3)] hYd.later _ rfl
  have hL := hL.alloc (.cells #[.int .i64 j, .int .i64 j, .int .i64 k, .int .i64 (j.tmod 3)] 3)
  have hYd := hYd.alloc (.cells #[.int .i64 j, .int .i64 j, .int .i64 k, .int .i64 (j.tmod 3)] 3)
  have hZd := hZd.alloc (.cells #[.int .i64 j, .int .i64 j, .int .i64 k, .int .i64 (j.tmod 3)] 3)
  have hyod := hyod.later ((Later.refl w8).alloc (.cells #[.int .i64 j, .int .i64 j, .int .i64 k, .int .i64 (j.tmod 3)] 3))
  have hzod := hzod.later ((Later.refl w8).alloc (.cells #[.int .i64 j, .int .i64 j, .int .i64 k, .int .i64 (j.tmod 3)] 3))
  have hqod := hqod.alloc (.cells #[.int .i64 j, .int .i64 j, .int .i64 k, .int .i64 (j.tmod 3)] 3)
  have hqod2 := hqod2.alloc (.cells #[.int .i64 j, .int .i64 j, .int .i64 k, .int .i64 (j.tmod 3)] 3)
  have hqod3 := hqod3.alloc (.cells #[.int .i64 j, .int .i64 j, .int .i64 k, .int .i64 (j.tmod 3)] 3)
  have hrod := hrod.alloc (.cells #[.int .i64 j, .int .i64 j, .int .i64 k, .int .i64 (j.tmod 3)] 3)
  generalize World.alloc w8 _ = w9 at *
  generalize w8.heap.size = gn at *
  have hqs : ∀ q : DV, q.d = G → q.ok w9 → I64 q.l ∧ I64 q.f ∧ q.n ≤ 9 ∧ q.m ≤ 9 := fun q hq hqod => by
    have h3 := hg.2.2.2.1
    have h4 := hg.2.2.2.2
    have h5 := hg.2.1
    have h6 := hg.2.2.1
    rw [← hq] at h3 h4 h5 h6
    have e1 := hqod.1.len
    have e2 := hqod.2.len
    have e3 : q.d.int.length = q.l.length := rfl
    have e4 : q.d.frac.length = q.f.length := rfl
    exact ⟨h3, h4, by omega, by omega⟩
  have hm3 := Int.tmod_lt_of_pos j (show (0 : Int) < 3 by decide)
  have hm4 : -3 < j.tmod 3 := by
    have h5 := Int.neg_tmod j 3
    have h6 := Int.tmod_lt_of_pos (-j) (show (0 : Int) < 3 by decide)
    omega
  obtain ⟨F, M, hF⟩ : ∃ (F : Nat → DV) (M : Nat → Int), ∀ i, i < 4 → w9.rangeAt gl (i * 4) (F i).cs.toList ∧ (F i).ok w9 ∧ (I64 (F i).l ∧ I64 (F i).f ∧ (F i).n ≤ 9 ∧ (F i).m ≤ 9) ∧ w9.cell? ⟨gn, i, none⟩ = some (.int .i64 (M i)) ∧ (-9223372036854775808 ≤ M i ∧ M i ≤ 9223372036854775807) := by
    refine ⟨fun i => if i = 0 then q else if i = 1 then r else if i = 2 then q2 else q3, fun i => if i = 0 then j else if i = 1 then j else if i = 2 then k else j.tmod 3, fun i hi => ?_⟩
    have hk4 : i = 0 ∨ i = 1 ∨ i = 2 ∨ i = 3 := by omega
    rcases hk4 with rfl | rfl | rfl | rfl
    · exact ⟨hL.part 0 q.cs.toList rfl, hqod, hqs q hq.out hqod, hN.cell 0, by show _ ≤ j ∧ j ≤ _; omega⟩
    · exact ⟨hL.part 4 r.cs.toList rfl, hrod, hrs, hN.cell 1, by show _ ≤ j ∧ j ≤ _; omega⟩
    · exact ⟨hL.part 8 q2.cs.toList rfl, hqod2, hqs q2 hq2.out hqod2, hN.cell 2, hk⟩
    · exact ⟨hL.part 12 q3.cs.toList rfl, hqod3, hqs q3 hq3.out hqod3, hN.cell 3, by show _ ≤ j.tmod 3 ∧ j.tmod 3 ≤ _; omega⟩
  have HF := Lib.hid hF
  have hLb := hL.later
  clear hF hL hN hqs hrs hqod hqod2 hqod3 hrod hq hq2 hq3 hg hm3 hm4 hjb
  have h1 : y.r.Ok := by rw [hyr.out]; exact hru
  have h2 : y.r.Bd := by rw [hyr.out]; exact hrb
  have h3 : z.r.Ok := by rw [hzr.out]; exact hru
  have h4 : z.r.Bd := by rw [hzr.out]; exact hrb
  have hcm := Lib.hid (fun (a : DV) (ha : I64 a.l ∧ I64 a.f ∧ a.n ≤ 9 ∧ a.m ≤ 9) (m : Int) (hm : -9223372036854775808 ≤ m ∧ m ≤ 9223372036854775807) W (hY : y.ok W) (hA : a.ok W) => show Calls Tryz.prog 40 #[.agg y.cs, .agg a.cs, .int .i64 m] W (PK (kde (stepS R a.d m).2) (stepS R a.d m).1 W) by
    have := cstep_any y a m W hY h1 h2 hA ha.1 ha.2.1 (by omega) (by omega) hm
    rw [hyr.out] at this
    exact this)
  have hrm := Lib.hid (fun (a : DV) (ha : I64 a.l ∧ I64 a.f ∧ a.n ≤ 9 ∧ a.m ≤ 9) (m : Int) (hm : -9223372036854775808 ≤ m ∧ m ≤ 9223372036854775807) W (hZ : z.ok W) (hA : a.ok W) => show Calls Tryz.prog 41 #[.agg z.cs, .agg a.cs, .int .i64 m] W (PK (kde (stepS R a.d m).2) (stepS R a.d m).1 W) by
    have := rstep20_any z a m W hZ h3 h4 hA ha.1 ha.2.1 (by omega) (by omega) hm
    rw [hzr.out] at this
    exact this)
  have hdn := Lib.hid (fun (V : Dr) (hV : mayR V ∧ V.frac.length ≤ 64 ∧ V.int.length ≤ 64 ∧ commitS R V = (V, 0)) (a : DV) (ha : a.d = V) W (hY : y.ok W) (hA : a.ok W) => show Calls Tryz.prog 36 #[.agg y.cs, .agg a.cs] W (RV W (.bool true)) by
    subst ha
    have hml := mayR_lists hV.1
    have e1 := hA.1.len
    have e2 := hA.2.len
    have e3 : a.d.int.length = a.l.length := rfl
    have e4 : a.d.frac.length = a.f.length := rfl
    have := cdone_any y a W hY h1 h2 hA (I64_of_may hml.1) (I64_of_may hml.2) (by omega) (by omega)
    have e : doneS y.r a.d = true := by rw [hyr.out]; unfold doneS; rw [hV.2.2.2]; simp [sameD_refl]
    rw [e] at this
    exact this)
  have hru := Lib.hid hru
  clear h1 h2 h3 h4 hrb hyr hzr hx hb hdi hdf
  go_loopw [13] (fun v wr => ∃ i : Nat, i ≤ 4 ∧ v = .int .i64 i ∧ Later w9 wr) (fun v _ => 4 - (intOf v).toNat)
  case atStart => exact ⟨0, by omega, rfl, Later.refl _⟩
  case round =>
    obtain ⟨i, hi, rfl, hL⟩ := hrel
    by_cases hlt : i < 4
    · obtain ⟨hr1, hr2, hr3, hr4, hr5⟩ := HF.out i hlt
      generalize F i = f at *
      generalize M i = m at *
      have hi2 : (i : Int) < 4 := by omega
      have hi0 : (0 : Int) ≤ (i : Int) := by omega
      have hYr := hYd.call hL
      have hZr := hZd.call hL
      have hyr := hyod.later hL
      have hzr := hzod.later hL
      have hfr := hr2.later hL
      have hRg := Lib.hid (rangeAt_later hr1 hL)
      have hNr := Lib.hid (Later.cell hL hr4)
      have hLr := hLb.call hL
      have hc1 := Lib.hid (hcm.out f hr3 m hr5)
      have hd1 := Lib.hid (hrm.out f hr3 m hr5)
      have e3 : f.d.int.length = f.l.length := rfl
      have e4 : f.d.frac.length = f.f.length := rfl
      have hsd := step_done hru.out (d := f.d) (k := m) (by have := decD_len f.d; have := hr2.1.len; have := hr2.2.len; have := hr3.2.2.1; have := hr3.2.2.2; omega)
      clear hYd hZd hyod hzod hr1 hr2 hr3 hr4 hr5 HF hrm hcm e3 e4
      generalize stepS R f.d m = V at *
      obtain ⟨V, ec⟩ := V
      simp only at hc1 hd1 hsd
      go_upto_region 10 with fail
      refine wp_calls_tail 16 14 15 (fun i => i == 10) ⟨by kernel_rfl, by kernel_rfl, by kernel_rfl, by kernel_rfl, by kernel_rfl, by kernel_rfl, by kernel_rfl, by kernel_rfl, by kernel_rfl⟩ rfl rfl rfl row_draft rfl rfl (by kernel_rfl) (by simp) (by simp) (z := #[.bool false, .slice none 0 0, .bool false, .slice none 0 0]) (t := 70) rfl ?_ ?_
      · intro W a K h
        go_simp
        exact h
      simp only [List.take_succ_cons, List.take_zero, List.drop_succ_cons, List.drop_zero]
      generalize hQQ : (fun (I : Inv wr) (a' : Act) => ∃ us : Array Value, _) = QQ
      have HQQ := Lib.hid hQQ
      clear hQQ
      refine QM_loadb hYr row_rules ⟨rfl, by decide⟩ rfl rfl rfl ?_
      go_simp
      refine wpQM_step ⟨rfl, by decide⟩ (fun K hK => ?_)
      go_simp
      refine ⟨_, fun _ _ => rfl, hK _ ?_⟩
      clear hK K
      go_simp
      refine wpQM_step ⟨rfl, by decide⟩ (fun K hK => ?_)
      go_simp
      refine ⟨_, fun _ _ => rfl, hK _ ?_⟩
      clear hK K
      go_simp
      refine wpQM_step ⟨rfl, by decide⟩ (fun K hK => ?_)
      go_simp
      refine ⟨_, fun _ _ => rfl, hK _ ?_⟩
      clear hK K
      go_simp
      refine QM_loadR (f.cs.toList) (fun W hW => rangeAt_later hRg.out hW) row_draft14 ⟨rfl, by decide⟩ rfl rfl rfl ?_
      go_simp
      refine wpQM_step ⟨rfl, by decide⟩ (fun K hK => ?_)
      go_simp
      refine ⟨_, fun W hW => of20_any f W, hK _ ?_⟩
      clear hK K
      go_simp
      refine wpQM_step ⟨rfl, by decide⟩ (fun K hK => ?_)
      go_simp
      refine ⟨_, fun _ _ => rfl, hK _ ?_⟩
      clear hK K
      go_simp
      refine wpQM_step ⟨rfl, by decide⟩ (fun K hK => ?_)
      go_simp
      refine ⟨_, fun _ _ => rfl, hK _ ?_⟩
      clear hK K
      go_simp
      refine wpQM_step ⟨rfl, by decide⟩ (fun K hK => ?_)
      go_simp
      refine ⟨_, fun _ _ => rfl, hK _ ?_⟩
      clear hK K
      go_simp
      refine wpQM_step ⟨rfl, by decide⟩ (fun K hK => ?_)
      refine ⟨.int .i64 m, fun W hW => ?_, hK _ ?_⟩
      · have qc := Later.cell hW hNr.out
        go_simp
      clear hK K
      go_simp
      refine wpQM_call (upD (K := kde ec) kde_inj V) rfl ?_ ?_
      · intro W hW
        go_simp
        exact ⟨rfl, hc1.out W (hyr.later hW) (hfr.later hW)⟩
      rintro u ⟨a, rfl, ha⟩
      unfold kde
      go_simp
      refine wpQM_step ⟨rfl, by decide⟩ (fun K hK => ?_)
      go_simp
      refine ⟨_, fun _ _ => rfl, hK _ ?_⟩
      clear hK K
      go_simp
      refine wpQM_step ⟨rfl, by decide⟩ (fun K hK => ?_)
      go_simp
      refine ⟨_, fun _ _ => rfl, hK _ ?_⟩
      clear hK K
      go_simp
      refine wpQM_step ⟨rfl, by decide⟩ (fun K hK => ?_)
      go_simp
      refine ⟨_, fun _ _ => rfl, hK _ ?_⟩
      clear hK K
      go_simp
      iterate 2 (refine wpQM_pass ⟨rfl, by decide⟩ ?_)
      refine wpQM_nil ?_
      rw [← HQQ.out]
      clear HQQ QQ
      refine ⟨a.cs, rfl, rfl, by kernel_rfl, ?_⟩
      rintro W2 ga hA0 ⟨hLW, hFW⟩ -
      have hA := hA0.base hLr
      have hLW : Later wr W2 := hLW
      have hao : a.ok W2 := hFW a rfl ha.out
      have hYs := hYr.call hLW
      have hZs := hZr.call hLW
      have hys := hyr.later hLW
      have hzs := hzr.later hLW
      have hfs := hfr.later hLW
      have hRs := Lib.hid (rangeAt_later hRg.out hLW)
      have hNs := Lib.hid (Later.cell hLW hNr.out)
      have hLs := hLr.call hLW
      have hL2 := hL.call hLW
      clear hFW hA0 hYr hZr hyr hzr hfr hRg hNr hLr hLW hc1 hL
      go_simp
      go_upto_region 11 with fail
      refine wp_calls_tail 15 13 14 (fun i => i == 9) ⟨by kernel_rfl, by kernel_rfl, by kernel_rfl, by kernel_rfl, by kernel_rfl, by kernel_rfl, by kernel_rfl, by kernel_rfl, by kernel_rfl⟩ rfl rfl rfl row_draft14 rfl rfl (by kernel_rfl) (by simp) (by simp) (z := #[.bool false, .slice none 0 0, .bool false, .slice none 0 0]) (t := 64) rfl ?_ ?_
      · intro W a K h
        go_simp
        exact h
      simp only [List.take_succ_cons, List.take_zero, List.drop_succ_cons, List.drop_zero]
      generalize hQQ : (fun (I : Inv W2) (a' : Act) => ∃ us : Array Value, _) = QQ
      have HQQ := Lib.hid hQQ
      clear hQQ
      refine QM_loadb hZs row_rules13 ⟨rfl, by decide⟩ rfl rfl rfl ?_
      go_simp
      refine wpQM_step ⟨rfl, by decide⟩ (fun K hK => ?_)
      go_simp
      refine ⟨_, fun _ _ => rfl, hK _ ?_⟩
      clear hK K
      go_simp
      refine wpQM_step ⟨rfl, by decide⟩ (fun K hK => ?_)
      go_simp
      refine ⟨_, fun _ _ => rfl, hK _ ?_⟩
      clear hK K
      go_simp
      refine wpQM_step ⟨rfl, by decide⟩ (fun K hK => ?_)
      go_simp
      refine ⟨_, fun _ _ => rfl, hK _ ?_⟩
      clear hK K
      go_simp
      refine QM_loadR (f.cs.toList) (fun W hW => rangeAt_later hRs.out hW) row_draft14 ⟨rfl, by decide⟩ rfl rfl rfl ?_
      go_simp
      refine wpQM_step ⟨rfl, by decide⟩ (fun K hK => ?_)
      go_simp
      refine ⟨_, fun _ _ => rfl, hK _ ?_⟩
      clear hK K
      go_simp
      refine wpQM_step ⟨rfl, by decide⟩ (fun K hK => ?_)
      go_simp
      refine ⟨_, fun _ _ => rfl, hK _ ?_⟩
      clear hK K
      go_simp
      refine wpQM_step ⟨rfl, by decide⟩ (fun K hK => ?_)
      go_simp
      refine ⟨_, fun _ _ => rfl, hK _ ?_⟩
      clear hK K
      go_simp
      refine wpQM_step ⟨rfl, by decide⟩ (fun K hK => ?_)
      refine ⟨.int .i64 m, fun W hW => ?_, hK _ ?_⟩
      · have qc := Later.cell hW hNs.out
        go_simp
      clear hK K
      go_simp
      refine wpQM_call (upD (K := kde ec) kde_inj V) rfl ?_ ?_
      · intro W hW
        go_simp
        exact ⟨rfl, hd1.out W (hzs.later hW) (hfs.later hW)⟩
      rintro u ⟨b, rfl, hbd⟩
      unfold kde
      go_simp
      refine wpQM_step ⟨rfl, by decide⟩ (fun K hK => ?_)
      go_simp
      refine ⟨_, fun _ _ => rfl, hK _ ?_⟩
      clear hK K
      go_simp
      refine wpQM_step ⟨rfl, by decide⟩ (fun K hK => ?_)
      go_simp
      refine ⟨_, fun _ _ => rfl, hK _ ?_⟩
      clear hK K
      go_simp
      refine wpQM_step ⟨rfl, by decide⟩ (fun K hK => ?_)
      go_simp
      refine ⟨_, fun _ _ => rfl, hK _ ?_⟩
      clear hK K
      go_simp
      iterate 2 (refine wpQM_pass ⟨rfl, by decide⟩ ?_)
      refine wpQM_nil ?_
      rw [← HQQ.out]
      clear HQQ QQ
      refine ⟨b.cs, rfl, rfl, by kernel_rfl, ?_⟩
      rintro W3 gb hB0 ⟨hLW, hFW⟩ -
      have hB := hB0.base hLs
      have hLW : Later W2 W3 := hLW
      have hbo : b.ok W3 := hFW b rfl hbd.out
      have hYt := hYs.call hLW
      have hyt := hys.later hLW
      have hAt := hA.call hLW
      have hat := hao.below hLW
      have hL3 := hL2.call hLW
      clear hFW hB0 hYs hZs hys hzs hfs hRs hNs hLs hLW hd1 hL2 hao hA
      go_simp
      go_upto_region 12 with fail
      have hs1 := Lib.hid (fun W (hW : a.ok W) (hW2 : b.ok W) => show Calls Tryz.prog 34 #[.agg a.cs, .agg b.cs] W (RV W (.bool true)) by
        have := vsame14_any a b W hW hW2
        rw [ha.out, hbd.out, sameD_refl] at this
        exact this)
      by_cases hec : ec = 0
      · subst hec
        have hdn1 := Lib.hid (hdn.out V (hsd rfl) a ha.out)
        clear hsd hdn
        refine wp_region_ext (by kernel_rfl) (by kernel_rfl) ?_
        repeat (first
          | (go_big_quiet_want; refine quiet_load_blk hYt row_rules rfl rfl rfl ?_; go_simp; go_big_quiet_on)
          | (go_big_quiet_want; refine quiet_load_blk hAt row_draft rfl rfl rfl ?_; go_simp; go_big_quiet_on)
          | (go_big_quiet_want; refine quiet_load_blk hB row_draft14 rfl rfl rfl ?_; go_simp; go_big_quiet_on)
          | (go_big_quiet_step (first
            | (go_at_call 35; exact quiet_ext _ (as20_any _ _))
            | (go_at_call 36; with_reducible exact quiet_ext _ (hdn1.out _ (hyt.ext _) (hat.ext _)))
            | (go_at_call 34; with_reducible exact quiet_ext _ (hs1.out _ (hat.ext _) (hbo.ext _))))))
        refine wpQuiet_nil ?_
        rintro _ ⟨s, rfl⟩
        go_wp2_with fail
        go_roundw
        case rel => exact ⟨i + 1, by omega, by go_num, hL3.call s.h⟩
        case measure => simp [intOf]; omega
      · have hb : (ec == (0 : Int)) = false := by simpa using hec
        clear hsd hdn
        refine wp_region_ext (by kernel_rfl) (by kernel_rfl) ?_
        repeat (first
          | (go_big_quiet_want; refine quiet_load_blk hYt row_rules rfl rfl rfl ?_; go_simp; go_big_quiet_on)
          | (go_big_quiet_want; refine quiet_load_blk hAt row_draft rfl rfl rfl ?_; go_simp; go_big_quiet_on)
          | (go_big_quiet_want; refine quiet_load_blk hB row_draft14 rfl rfl rfl ?_; go_simp; go_big_quiet_on)
          | (go_big_quiet_step (first
            | (go_at_call 35; exact quiet_ext _ (as20_any _ _))
            | (go_at_call 34; with_reducible exact quiet_ext _ (hs1.out _ (hat.ext _) (hbo.ext _))))))
        refine wpQuiet_nil ?_
        rintro _ ⟨s, rfl⟩
        go_wp2_with fail
        go_roundw
        case rel => exact ⟨i + 1, by omega, by go_num, hL3.call s.h⟩
        case measure => simp [intOf]; omega
    · have hk4 : i = 4 := by omega
      subst hk4
      have hLz := hLb.call hL
      go_wp2_with fail
      refine (lives20_any _).mono ?_
      rintro e wN ⟨rfl, hN⟩
      go_wp2_with fail
      go_ret
      exact ⟨rfl, hLz.call hN⟩

end Go.Proofs.YtickhmlhciafgaaGreat

