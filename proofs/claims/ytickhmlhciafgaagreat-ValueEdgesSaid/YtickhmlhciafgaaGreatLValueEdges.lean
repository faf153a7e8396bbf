/- Whether a draft's value is the least, and the greatest one, is the document's; that of the least, and of the greatest number's draft is: the walk. No condition. -/
import Derived.Test.YtickhmlhciafgaaGreatMa35
import Derived.Test.YtickhmlhciafgaaGreatMa41
import Derived.Test.YtickhmlhciafgaaGreatMa32
namespace Go.Proofs.YtickhmlhciafgaaGreat
open Go.RowKit
set_option linter.unusedVariables false

/-- A bound's draft. -/
theorem from_edge {r : Ru} (hr : r.Ok) {x : Dc} (hm : mayDc x = true) (ht : trimDc x = x) (hs : x.s ≤ r.n.sc) (hl : x.l.length ≤ 128) :
    (fromS x 0 0).2 = 0 ∧ mayR (fromS x 0 0).1 ∧ decD (fromS x 0 0).1 = x ∧ (fromS x 0 0).1.int.length ≤ 400 ∧ (fromS x 0 0).1.frac.length ≤ 400 := by
  obtain ⟨f1, f2, f3, _⟩ := from_ok hm (i := 0) (j := 0) (by omega) (by omega)
  rw [ht] at f3
  have h1 := hr.sc
  have h2 := hr.fc
  have h3 := (mayDc_iff.1 hm).2.1
  refine ⟨f1, f2, f3, ?_⟩
  have e2 := parts_len x.l x.s.toNat
  have e3 := parts_len1 x.l x.s.toNat
  unfold fromS
  rw [if_pos hm, if_pos (by omega), ht]
  show (fromD _ _ 0 0).int.length ≤ _ ∧ (fromD _ _ 0 0).frac.length ≤ _
  generalize partsS x.l x.s.toNat = P at *
  unfold fromD
  split
  · exact ⟨by show 1 ≤ 400; omega, by show 0 ≤ 400; omega⟩
  · have e4 := wideL_len P.1 0
    refine ⟨?_, ?_⟩
    · show (wideL P.1 0).length ≤ _
      omega
    · show (P.2 ++ List.replicate (0 - P.2.length) (0 : Int)).length ≤ _
      rw [List.length_append, List.length_replicate]
      omega
theorem vfrom_any (x : NV) (i j : Int) (w : World) (hx : x.ok w) (hr : x.Rd 9000) (hi : -9223372036854775808 ≤ i ∧ i ≤ 9223372036854775807) (hj : -9223372036854775808 ≤ j ∧ j ≤ 9223372036854775807) :
    Calls Tryz.prog 29 #[.agg x.cs, .int .i64 i, .int .i64 j] w (PK (kde (fromS x.D i j).2) (fromS x.D i j).1 w) :=
  (dfrom_any x.D.neg x.D.s i j w hx hr.i (by have := hx.len; have := hr.n; omega) hr.s hi hj).mono fun _ _ h => h.pk
set_option maxRecDepth 100000 in
set_option maxHeartbeats 4000000 in
theorem valueEdges_walk (w : World) (x : GV) (hx : x.ok w) (hb : x.Bd) (b1 p1 : Bool) {A1 : Option Addr} {n1 c1 : Nat} {l1 : List Int} {E1 : Option Addr} {m1 d1 : Nat} {k1 : List Int} (w1 : IL w A1 n1 c1 l1) (i1 : I64 l1) (x1 : IL w E1 m1 d1 k1) (j1 : I64 k1) :
    Calls Tryz.prog 5 #[.agg x.cs, .agg #[.bool b1, .slice A1 n1 c1, .bool p1, .slice E1 m1 d1]] w (RV w (.bool true)) := by
  obtain ⟨d, hd⟩ : ∃ d : DV, Hid (d = ⟨b1, A1, n1, c1, l1, p1, E1, m1, d1, k1⟩) := ⟨_, rfl⟩
  have hdo : d.ok w := by rw [hd.out]; exact ⟨w1, x1⟩
  have hdi : I64 d.l := by rw [hd.out]; exact i1
  have hdf : I64 d.f := by rw [hd.out]; exact j1
  have hcs : (#[.bool b1, .slice A1 n1 c1, .bool p1, .slice E1 m1 d1] : Array Value) = d.cs := by rw [hd.out]; rfl
  rw [hcs]
  clear hcs hd w1 x1 i1 j1
  have hgd := Lib.hid (fun W (hW : d.ok W) => vgood_any d 9 7 W hW hdi hdf (by omega) (by omega))
  have hg := goodD_ok d.d 9 7 (by omega) (by omega)
  generalize goodD d.d 9 7 = G at *
  have hbg := Lib.hid (fun W (h : x.ok W) => begin20_any x W h hb)
  have hcok := goodG_ok x.g
  have hru := hcok.ruOk
  have hrb := hcok.ruBd
  clear hcok
  generalize (goodG x.g).ru = R at *
  have hB0 := ((Blk.made w w 28 x.cs (Later.refl w) _ rfl).alloc (.cells d.cs 64))
  have hB1 := (Blk.made w (w.alloc (.cells x.cs 28)) 64 d.cs ((Later.refl w).alloc _) (w.heap.size + 1) (by simp))
  go_enter Tryz.func5, Tryz.ntmps5
  go_upto_region 1 with fail
  generalize World.alloc (World.alloc w _) _ = w1 at *
  go_wp2_with (refine wpList_load_blk hB0 row_made13 rfl rfl rfl rfl ?_; go_simp)
  refine (hbg.out _ (hx.later hB0.later)).mono ?_
  rintro e w2 ⟨y, z, rfl, hyr, hzr, hyo, hzo, hB2⟩
  have hY0 := (Blk.made w w2 32 #[.bool false, .slice none 0 0, .int .i64 0, .bool false, .slice none 0 0, .int .i64 0, .bool false, .slice none 0 0, .int .i64 0, .bool false, .int .i64 0, .int .i64 0, .int .i64 0, .int .i64 0, .int .i64 0, .int .i64 0, .int .i64 0] (hB0.call hB2).later _ rfl).alloc (.cells #[.bool false, .slice none 0 0, .int .i64 0, .bool false, .slice none 0 0, .int .i64 0, .bool false, .slice none 0 0, .int .i64 0, .bool false, .int .i64 0, .int .i64 0, .int .i64 0, .int .i64 0, .int .i64 0, .int .i64 0, .int .i64 0] 44)
  have hZ0 := Blk.made w (w2.alloc (.cells #[.bool false, .slice none 0 0, .int .i64 0, .bool false, .slice none 0 0, .int .i64 0, .bool false, .slice none 0 0, .int .i64 0, .bool false, .int .i64 0, .int .i64 0, .int .i64 0, .int .i64 0, .int .i64 0, .int .i64 0, .int .i64 0] 32)) 44 #[.bool false, .slice none 0 0, .int .i64 0, .bool false, .slice none 0 0, .int .i64 0, .bool false, .slice none 0 0, .int .i64 0, .bool false, .int .i64 0, .int .i64 0, .int .i64 0, .int .i64 0, .int .i64 0, .int .i64 0, .int .i64 0] ((hB0.call hB2).later.alloc _) (w2.heap.size + 1) (by simp)
  have hB1a := ((hB1.call hB2).alloc (.cells #[.bool false, .slice none 0 0, .int .i64 0, .bool false, .slice none 0 0, .int .i64 0, .bool false, .slice none 0 0, .int .i64 0, .bool false, .int .i64 0, .int .i64 0, .int .i64 0, .int .i64 0, .int .i64 0, .int .i64 0, .int .i64 0] 32)).alloc (.cells #[.bool false, .slice none 0 0, .int .i64 0, .bool false, .slice none 0 0, .int .i64 0, .bool false, .slice none 0 0, .int .i64 0, .bool false, .int .i64 0, .int .i64 0, .int .i64 0, .int .i64 0, .int .i64 0, .int .i64 0, .int .i64 0] 44)
  have hB1l := (hB1.call hB2).lt
  have hyo2 := (hyo.later ((Later.refl w2).alloc (.cells #[.bool false, .slice none 0 0, .int .i64 0, .bool false, .slice none 0 0, .int .i64 0, .bool false, .slice none 0 0, .int .i64 0, .bool false, .int .i64 0, .int .i64 0, .int .i64 0, .int .i64 0, .int .i64 0, .int .i64 0, .int .i64 0] 32))).later ((Later.refl _).alloc (.cells #[.bool false, .slice none 0 0, .int .i64 0, .bool false, .slice none 0 0, .int .i64 0, .bool false, .slice none 0 0, .int .i64 0, .bool false, .int .i64 0, .int .i64 0, .int .i64 0, .int .i64 0, .int .i64 0, .int .i64 0, .int .i64 0] 44))
  have hzo2 := (hzo.later ((Later.refl w2).alloc (.cells #[.bool false, .slice none 0 0, .int .i64 0, .bool false, .slice none 0 0, .int .i64 0, .bool false, .slice none 0 0, .int .i64 0, .bool false, .int .i64 0, .int .i64 0, .int .i64 0, .int .i64 0, .int .i64 0, .int .i64 0, .int .i64 0] 32))).later ((Later.refl _).alloc (.cells #[.bool false, .slice none 0 0, .int .i64 0, .bool false, .slice none 0 0, .int .i64 0, .bool false, .slice none 0 0, .int .i64 0, .bool false, .int .i64 0, .int .i64 0, .int .i64 0, .int .i64 0, .int .i64 0, .int .i64 0, .int .i64 0] 44))
  have hyp := hyo.apart (Nat.le_refl _)
  have hzp := hzo.apart (Nat.le_refl _)
  have hyq := hyo.apart (Nat.le_succ _)
  have hzq := hzo.apart (Nat.le_succ _)
  have hsz := hB0.later.size
  have hsz2 := hB2.size
  go_upto_region 2 with (first | (refine wpList_store_blk hY0 row_rules rfl rfl rfl rfl rfl rfl (by kernel_rfl) ?_; intro w3 hY hS3; go_simp) | (refine wpList_store_blk (hS3.far hZ0 (by omega) hY0.1) row_rules13 rfl rfl rfl rfl rfl rfl (by kernel_rfl) ?_; intro w4 hZ hS4; go_simp))
  have hg0 : w.heap.size ≤ w2.heap.size := hY0.1
  have hg1 : w.heap.size ≤ w2.heap.size + 1 := by omega
  have hY4 := hS4.far hY (by omega) hg1
  have hyo4 := (hyo2.sto hS3 hyp).sto hS4 hyq
  have hzo4 := (hzo2.sto hS3 hzp).sto hS4 hzq
  have hB1b := hS4.far (hS3.far hB1a (by omega) hg0) (by omega) hg1
  clear hB0 hbg hY0 hZ0 hS3 hS4 hY hyo hzo hyo2 hzo2 hyp hzp hyq hzq hsz2 hg0 hg1 hB1 hB1a hB1l
  have hyz : w2.heap.size ≠ w2.heap.size + 1 := by omega
  generalize hgy : w2.heap.size = gy at *
  generalize gy + 1 = gz at *
  go_wp2_with (refine wpList_load_blk hB1b row_draft14 rfl rfl rfl rfl ?_; go_simp)
  refine (hgd.out _ (hdo.later hB1b.later)).mono ?_
  rintro e w5 ⟨q, rfl, hq, hqo, hB5, _⟩
  unfold kd
  have pZ := Blk.made w w5 64 #[.bool false, .slice none 0 0, .bool false, .slice none 0 0] (hY4.call hB5).later _ rfl
  have hY5_l := (hY4.call hB5).lt
  have hY5_q := (hY4.call hB5).alloc (.cells #[.bool false, .slice none 0 0, .bool false, .slice none 0 0] 64)
  have hZ5_l := (hZ.call hB5).lt
  have hZ5_q := (hZ.call hB5).alloc (.cells #[.bool false, .slice none 0 0, .bool false, .slice none 0 0] 64)
  have hyo5_f := (hyo4.later hB5).apart (Nat.le_refl _)
  have hyo5_q := (hyo4.later hB5).later ((Later.refl _).alloc (.cells #[.bool false, .slice none 0 0, .bool false, .slice none 0 0] 64))
  have hzo5_f := (hzo4.later hB5).apart (Nat.le_refl _)
  have hzo5_q := (hzo4.later hB5).later ((Later.refl _).alloc (.cells #[.bool false, .slice none 0 0, .bool false, .slice none 0 0] 64))
  have hqo5_f := (hqo).off (Nat.le_refl _)
  have hqo5_q := (hqo).alloc (.cells #[.bool false, .slice none 0 0, .bool false, .slice none 0 0] 64)
  go_upto_region 5 with (first | (refine wpList_store_blk pZ row_draft14 rfl rfl rfl rfl rfl rfl (by kernel_rfl) ?_; intro w6 hQ pS; go_simp))
  have hY5 := pS.far hY5_q (by omega) pZ.1
  have hZ5 := pS.far hZ5_q (by omega) pZ.1
  have hyo5 := hyo5_q.sto pS hyo5_f
  have hzo5 := hzo5_q.sto pS hzo5_f
  have hqo5 := hqo5_q.sto pS hqo5_f
  clear pZ pS hY5_l hY5_q hZ5_l hZ5_q hyo5_f hyo5_q hzo5_f hzo5_q hqo5_f hqo5_q
  have h1 : y.r.Ok := by rw [hyr.out]; exact hru
  have h2 : y.r.Bd := by rw [hyr.out]; exact hrb
  have h3 : z.r.Ok := by rw [hzr.out]; exact hru
  have h4 : z.r.Bd := by rw [hzr.out]; exact hrb
  have hlo := from_edge hru hru.lo.1 hru.lo.2.1 (lo_scale hru) hru.lens.1
  have hhi := from_edge hru hru.hi.1 hru.hi.2.1 (hi_scale hru) hru.lens.2.1
  have hle1 : (edgesS R (fromS R.lo 0 0).1).1 = true := by unfold edgesS; rw [hlo.2.2.1, value_lo hru]; simp [cmpDc_self]
  have hle2 : (edgesS R (fromS R.hi 0 0).1).2 = true := by unfold edgesS; rw [hhi.2.2.1, value_hi hru]; simp [cmpDc_self]
  have hce := Lib.hid (fun W (hW : y.ok W) (hQ : q.ok W) => show Calls Tryz.prog 26 #[.agg y.cs, .agg q.cs] W (RV W (.tuple #[.bool (edgesS R G).1, .bool (edgesS R G).2])) by
    have hm : mayR q.d := by rw [hq.out]; exact hg.1
    have := cedges_any y q W hW h1 h2 hQ hm (by have := hQ.1.len; have := hg.2.1; rw [← hq.out] at this; have : q.d.int.length = q.l.length := rfl; omega) (by have := hQ.2.len; have := hg.2.2.1; rw [← hq.out] at this; have : q.d.frac.length = q.f.length := rfl; omega)
    rw [hyr.out, hq.out] at this
    exact this)
  have hre := Lib.hid (fun W (hW : z.ok W) (hQ : q.ok W) => show Calls Tryz.prog 28 #[.agg z.cs, .agg q.cs] W (RV W (.tuple #[.bool (edgesS R G).1, .bool (edgesS R G).2])) by
    have hm : mayR q.d := by rw [hq.out]; exact hg.1
    have := redges_any z q W hW h3 h4 hQ hm (by have := hQ.1.len; have := hg.2.1; rw [← hq.out] at this; have : q.d.int.length = q.l.length := rfl; omega) (by have := hQ.2.len; have := hg.2.2.1; rw [← hq.out] at this; have : q.d.frac.length = q.f.length := rfl; omega)
    rw [hzr.out, hq.out] at this
    exact this)
  have hfl := Lib.hid (fun W (hW : y.ok W) => show Calls Tryz.prog 29 #[.agg #[.bool y.r.lo.neg, .slice y.A1 y.n1 y.c1, .int .i64 y.r.lo.s], .int .i64 0, .int .i64 0] W (PK (kde 0) (fromS R.lo 0 0).1 W) by
    have e : y.r.lo = R.lo := congrArg Ru.lo hyr.out
    have := vfrom_any y.lo 0 0 W hW.1 ⟨(may_bd h1.lo.1).1, (may_bd h1.lo.1).2, by have := h1.lens.1; show y.r.lo.l.length ≤ 9000; omega⟩ (by omega) (by omega)
    have e' : y.lo.D = R.lo := e
    rw [e', hlo.1] at this
    exact this)
  have hfh := Lib.hid (fun W (hW : y.ok W) => show Calls Tryz.prog 29 #[.agg #[.bool y.r.hi.neg, .slice y.A2 y.n2 y.c2, .int .i64 y.r.hi.s], .int .i64 0, .int .i64 0] W (PK (kde 0) (fromS R.hi 0 0).1 W) by
    have e : y.r.hi = R.hi := congrArg Ru.hi hyr.out
    have := vfrom_any y.hi 0 0 W hW.2.1 ⟨(may_bd h1.hi.1).1, (may_bd h1.hi.1).2, by have := h1.lens.2.1; show y.r.hi.l.length ≤ 9000; omega⟩ (by omega) (by omega)
    have e' : y.hi.D = R.hi := e
    rw [e', hhi.1] at this
    exact this)
  have hel := Lib.hid (fun (a : DV) (ha : a.d = (fromS R.lo 0 0).1) W (hW : y.ok W) (hA : a.ok W) => show Calls Tryz.prog 26 #[.agg y.cs, .agg a.cs] W (fun e w' => ∃ b, e = .returned (.tuple #[.bool true, .bool b]) ∧ Below W.heap.size W w') by
    have hm : mayR a.d := by rw [ha]; exact hlo.2.1
    have := cedges_any y a W hW h1 h2 hA hm (by have := hA.1.len; have := hlo.2.2.2.1; rw [← ha] at this; have : a.d.int.length = a.l.length := rfl; omega) (by have := hA.2.len; have := hlo.2.2.2.2; rw [← ha] at this; have : a.d.frac.length = a.f.length := rfl; omega)
    rw [hyr.out, ha, hle1] at this
    exact this.mono fun e w' h => ⟨_, h⟩)
  have heh := Lib.hid (fun (a : DV) (ha : a.d = (fromS R.hi 0 0).1) W (hW : y.ok W) (hA : a.ok W) => show Calls Tryz.prog 26 #[.agg y.cs, .agg a.cs] W (fun e w' => ∃ b, e = .returned (.tuple #[.bool b, .bool true]) ∧ Below W.heap.size W w') by
    have hm : mayR a.d := by rw [ha]; exact hhi.2.1
    have := cedges_any y a W hW h1 h2 hA hm (by have := hA.1.len; have := hhi.2.2.2.1; rw [← ha] at this; have : a.d.int.length = a.l.length := rfl; omega) (by have := hA.2.len; have := hhi.2.2.2.2; rw [← ha] at this; have : a.d.frac.length = a.f.length := rfl; omega)
    rw [hyr.out, ha, hle2] at this
    exact this.mono fun e w' h => ⟨_, h⟩)
  clear hle1 hle2 hlo hhi h1 h2 h3 h4 hg hru hrb hyr hzr hq hgd hdo hdi hdf hb hx hB5 hB1b hY4 hZ hyo4 hzo4 hqo
  generalize edgesS R G = E at *
  obtain ⟨E1, E2⟩ := E
  simp only at hce hre
  generalize (fromS R.lo 0 0).1 = FL at *
  generalize (fromS R.hi 0 0).1 = FH at *
  generalize w5.heap.size = gq at *
  have hLb := hQ.later
  refine wp_region_ext (by kernel_rfl) (by kernel_rfl) ?_
  repeat (first
    | (go_big_quiet_want; refine quiet_load_blk hY5 row_rules rfl rfl rfl ?_; go_simp; go_big_quiet_on)
    | (go_big_quiet_want; refine quiet_load_blk hQ row_draft14 rfl rfl rfl ?_; go_simp; go_big_quiet_on)
    | (go_big_quiet_step (first
      | (go_at_call 27; exact quiet_ext _ (of20_any _ _))
      | (go_at_call 26; exact quiet_ext _ (hce.out _ (hyo5.ext _) (hqo5.ext _))))))
  refine wpQuiet_nil ?_
  rintro _ ⟨s, rfl⟩
  have hY6 := hY5.call s.h
  have hZ6 := hZ5.call s.h
  have hQ6 := hQ.call s.h
  have hyo6 := hyo5.ext s
  have hzo6 := hzo5.ext s
  have hqo6 := hqo5.ext s
  generalize s.world = w7 at *
  clear hY5 hZ5 hQ hyo5 hzo5 hqo5 hce
  go_wp2_with (first | (refine wpList_load_blkg (hZ6) row_rules13 rfl rfl rfl rfl ?_; go_simp) | (refine wpList_load_blkg (hQ6) row_draft14 rfl rfl rfl rfl ?_; go_simp))
  refine (hre.out _ hzo6 hqo6).mono ?_
  rintro e w8 ⟨rfl, hB8⟩
  have hY8 := hY6.call hB8
  have hyo8 := hyo6.below hB8
  clear hre hZ6 hQ6 hzo6 hqo6 hY6 hyo6
  go_wp2_with (refine wpList_load_partg ((hY8).part 0 [.bool y.r.lo.neg, .slice y.A1 y.n1 y.c1, .int .i64 y.r.lo.s] rfl) row_dec rfl rfl rfl rfl ?_; go_simp)
  refine (hfl.out _ hyo8).mono ?_
  rintro e w9 ⟨a, rfl, ha, hao, hB9, _⟩
  unfold kde
  have pZ := Blk.made w w9 70 #[.bool false, .slice none 0 0, .bool false, .slice none 0 0] (hY8.call hB9).later _ rfl
  have hY9_l := (hY8.call hB9).lt
  have hY9_q := (hY8.call hB9).alloc (.cells #[.bool false, .slice none 0 0, .bool false, .slice none 0 0] 70)
  have hyo9_f := (hyo8.below hB9).apart (Nat.le_refl _)
  have hyo9_q := (hyo8.below hB9).later ((Later.refl _).alloc (.cells #[.bool false, .slice none 0 0, .bool false, .slice none 0 0] 70))
  have hao9_f := (hao).off (Nat.le_refl _)
  have hao9_q := (hao).alloc (.cells #[.bool false, .slice none 0 0, .bool false, .slice none 0 0] 70)
  go_upto_region 8 with (first | (refine wpList_store_blk pZ row_draft rfl rfl rfl rfl rfl rfl (by kernel_rfl) ?_; intro wa hA pS; go_simp))
  have hY9 := pS.far hY9_q (by omega) pZ.1
  have hyo9 := hyo9_q.sto pS hyo9_f
  have hao9 := hao9_q.sto pS hao9_f
  clear pZ pS hY9_l hY9_q hyo9_f hyo9_q hao9_f hao9_q
  clear hB8 hB9 hY8 hyo8 hao hfl
  generalize w9.heap.size = ga at *
  go_wp2_with (first | (refine wpList_load_blkg (hY9) row_rules rfl rfl rfl rfl ?_; go_simp) | (refine wpList_load_blkg (hA) row_draft rfl rfl rfl rfl ?_; go_simp))
  refine (hel.out a ha.out _ hyo9 hao9).mono ?_
  rintro e wb ⟨b2, rfl, hBb⟩
  have hYb := hY9.call hBb
  have hyob := hyo9.below hBb
  clear hY9 hyo9 hA hao9 hel ha hBb
  go_wp2_with (refine wpList_load_partg ((hYb).part 3 [.bool y.r.hi.neg, .slice y.A2 y.n2 y.c2, .int .i64 y.r.hi.s] rfl) row_dec rfl rfl rfl rfl ?_; go_simp)
  refine (hfh.out _ hyob).mono ?_
  rintro e wc ⟨b, rfl, hbd, hbo, hBc, _⟩
  unfold kde
  have pZ := Blk.made w wc 70 #[.bool false, .slice none 0 0, .bool false, .slice none 0 0] (hYb.call hBc).later _ rfl
  have hYc_l := (hYb.call hBc).lt
  have hYc_q := (hYb.call hBc).alloc (.cells #[.bool false, .slice none 0 0, .bool false, .slice none 0 0] 70)
  have hyoc_f := (hyob.below hBc).apart (Nat.le_refl _)
  have hyoc_q := (hyob.below hBc).later ((Later.refl _).alloc (.cells #[.bool false, .slice none 0 0, .bool false, .slice none 0 0] 70))
  have hboc_f := (hbo).off (Nat.le_refl _)
  have hboc_q := (hbo).alloc (.cells #[.bool false, .slice none 0 0, .bool false, .slice none 0 0] 70)
  go_upto_region 10 with (first | (refine wpList_store_blk pZ row_draft rfl rfl rfl rfl rfl rfl (by kernel_rfl) ?_; intro we hE pS; go_simp))
  have hYc := pS.far hYc_q (by omega) pZ.1
  have hyoc := hyoc_q.sto pS hyoc_f
  have hboc := hboc_q.sto pS hboc_f
  clear pZ pS hYc_l hYc_q hyoc_f hyoc_q hboc_f hboc_q
  clear hBc hYb hyob hbo hfh
  generalize wc.heap.size = gb at *
  go_wp2_with (first | (refine wpList_load_blkg (hYc) row_rules rfl rfl rfl rfl ?_; go_simp) | (refine wpList_load_blkg (hE) row_draft rfl rfl rfl rfl ?_; go_simp))
  refine (heh.out b hbd.out _ hyoc hboc).mono ?_
  rintro e wf ⟨b3, rfl, hBf⟩
  have hLf := hYc.later.call hBf
  have t1 : (E1 == E1) = true := beq_self_eq_true E1
  have t2 : (E2 == E2) = true := beq_self_eq_true E2
  go_wp2_with fail
  refine (lives20_any _).mono ?_
  rintro e wg ⟨rfl, hBg⟩
  go_wp2_with fail
  go_ret
  exact ⟨rfl, hLf.call hBg⟩

end Go.Proofs.YtickhmlhciafgaaGreat

