/- Each value is no less than the least one, and no greater than the greatest one; a greater number's is no less: the walk. No condition. -/
import Derived.Test.YtickhmlhciafgaaMa24
import Derived.Test.YtickhmlhciafgaaMa10
import Derived.Test.YtickhmlhciafgaaMa27
namespace Go.Proofs.Ytickhmlhciafgaa
open Go.RowKit

set_option maxRecDepth 100000 in
set_option maxHeartbeats 4000000 in
theorem configBounds_walk (w : World) (x : GV) (hx : x.ok w) (hb : x.Bd) (b1 : Bool) {A1 : Option Addr} {n1 c1 : Nat} {l1 : List Int} {s1 : Int} (hI1 : IL w A1 n1 c1 l1) (i1 : I64 l1) (hs1 : -9223372036854775808 ≤ s1 ∧ s1 ≤ 9223372036854775807) (b2 : Bool) {A2 : Option Addr} {n2 c2 : Nat} {l2 : List Int} {s2 : Int} (hI2 : IL w A2 n2 c2 l2) (i2 : I64 l2) (hs2 : -9223372036854775808 ≤ s2 ∧ s2 ≤ 9223372036854775807) :
    Calls Try.prog 4 #[.agg x.cs, .agg #[.bool b1, .slice A1 n1 c1, .int .i64 s1], .agg #[.bool b2, .slice A2 n2 c2, .int .i64 s2]] w (RV w (.bool true)) := by
  obtain ⟨X, hX, hXe, hX1⟩ := cgood_ex (A := A1) (n := n1) (c := c1) b1 s1 14 i1 hs1 (by omega)
  obtain ⟨Y, hY, hYe, hY1⟩ := cgood_ex (A := A2) (n := n2) (c := c2) b2 s2 14 i2 hs2 (by omega)
  clear hXe hYe
  have hX0 := (((Blk.made w w 28 x.cs (Later.refl w) (w.heap.size) (by simp)).alloc (.cells #[.bool b1, .slice A1 n1 c1, .int .i64 s1] 24)).alloc (.cells #[.bool b2, .slice A2 n2 c2, .int .i64 s2] 24))
  have hB1x := ((Blk.made w (w.alloc (.cells x.cs 28)) 24 #[.bool b1, .slice A1 n1 c1, .int .i64 s1] ((Later.refl w).alloc _) (w.heap.size + 1) (by simp)).alloc (.cells #[.bool b2, .slice A2 n2 c2, .int .i64 s2] 24))
  have hB2x := (Blk.made w ((w.alloc (.cells x.cs 28)).alloc (.cells #[.bool b1, .slice A1 n1 c1, .int .i64 s1] 24)) 24 #[.bool b2, .slice A2 n2 c2, .int .i64 s2] (((Later.refl w).alloc _).alloc _) (w.heap.size + 2) (by simp))
  go_enter Try.func4, Try.ntmps4
  go_upto_region 1 with fail
  generalize World.alloc (World.alloc (World.alloc w _) _) _ = w0 at *
  have hgo := Lib.hid (fun W (h : x.ok W) => rgood13_any x W h hb)
  have hcok := goodG_ok x.g
  have hru := hcok.ruOk
  have hcb := hcok.ruBd
  have hcn := Lib.hid (fun W => hcok.cnew W)
  generalize (goodG x.g).ru = R at *
  generalize goodG x.g = c at *
  go_wp2_with (refine wpList_load_blk hX0 row_made13 rfl rfl rfl rfl ?_; go_simp)
  refine (hgo.out _ (hx.later hX0.later)).mono ?_
  rintro e w1 ⟨rfl, hB1⟩
  go_wp2_with fail
  refine (of13_any c w1).mono ?_
  rintro e w2 ⟨rfl, hB2⟩
  go_wp2_with fail
  refine (hcn.out _).mono ?_
  rintro e w3 ⟨y, rfl, hyr, hyok, hB3, hyf⟩
  have hL3 := ((hX0.call hB1).call hB2).call hB3
  have hY0 := Blk.made w w3 32 #[.bool false, .slice none 0 0, .int .i64 0, .bool false, .slice none 0 0, .int .i64 0, .bool false, .slice none 0 0, .int .i64 0, .bool false, .int .i64 0, .int .i64 0, .int .i64 0, .int .i64 0, .int .i64 0, .int .i64 0, .int .i64 0] hL3.later _ rfl
  have hyok1 := hyok.later ((Later.refl w3).alloc (.cells #[.bool false, .slice none 0 0, .int .i64 0, .bool false, .slice none 0 0, .int .i64 0, .bool false, .slice none 0 0, .int .i64 0, .bool false, .int .i64 0, .int .i64 0, .int .i64 0, .int .i64 0, .int .i64 0, .int .i64 0, .int .i64 0] 32))
  have hB1xn := (((hB1x.call hB1).call hB2).call hB3).alloc (.cells #[.bool false, .slice none 0 0, .int .i64 0, .bool false, .slice none 0 0, .int .i64 0, .bool false, .slice none 0 0, .int .i64 0, .bool false, .int .i64 0, .int .i64 0, .int .i64 0, .int .i64 0, .int .i64 0, .int .i64 0, .int .i64 0] 32)
  have lhB1x := ((hB1x.call hB1).call hB2).call hB3
  have hB2xn := (((hB2x.call hB1).call hB2).call hB3).alloc (.cells #[.bool false, .slice none 0 0, .int .i64 0, .bool false, .slice none 0 0, .int .i64 0, .bool false, .slice none 0 0, .int .i64 0, .bool false, .int .i64 0, .int .i64 0, .int .i64 0, .int .i64 0, .int .i64 0, .int .i64 0, .int .i64 0] 32)
  have lhB2x := ((hB2x.call hB1).call hB2).call hB3
  have hX0n := hL3.alloc (.cells #[.bool false, .slice none 0 0, .int .i64 0, .bool false, .slice none 0 0, .int .i64 0, .bool false, .slice none 0 0, .int .i64 0, .bool false, .int .i64 0, .int .i64 0, .int .i64 0, .int .i64 0, .int .i64 0, .int .i64 0, .int .i64 0] 32)
  have hlt3 := hL3.lt
  go_upto_region 2 with (refine wpList_store_blk hY0 row_rules rfl rfl rfl rfl rfl rfl (by kernel_rfl) ?_; intro w4 hY hS4; go_simp)
  have hyok4 := hyok1.sto hS4 (hyok.apart (Nat.le_refl _))
  have hX0a := hS4.far hX0n (by omega) hY0.1
  have hB1xa := hS4.far hB1xn (by have := lhB1x.lt; omega) hY0.1
  have hB2xa := hS4.far hB2xn (by have := lhB2x.lt; omega) hY0.1
  clear hgo hcn hcok hX0 hX0n hL3 hY0 hyok hyok1 hyf hlt3 hS4 hB1x hB1xn lhB1x hB2x hB2xn lhB2x
  generalize w3.heap.size = gy at *
  go_upto_region 4 with fail
  have hL4 := hX0a.later
  obtain ⟨⟨p0, p1, p2⟩, _⟩ := hB1xa.cells3
  go_wp2_with fail
  refine (hX1.out _ (hI1.later hL4)).mono ?_
  rintro e w5 ⟨A5, n5, c5, rfl, hI5, hB5, _⟩
  have hP := Blk.made w w5 24 #[.bool X.neg, .slice A5 n5 c5, .int .i64 X.s] (hY.call hB5).later _ rfl
  have hI5' := hI5.alloc (.cells #[.bool X.neg, .slice A5 n5 c5, .int .i64 X.s] 24)
  have hY5 := (hY.call hB5).alloc (.cells #[.bool X.neg, .slice A5 n5 c5, .int .i64 X.s] 24)
  have hE5 := (hB2xa.call hB5).alloc (.cells #[.bool X.neg, .slice A5 n5 c5, .int .i64 X.s] 24)
  have hy5 := (hyok4.later hB5).later ((Later.refl w5).alloc (.cells #[.bool X.neg, .slice A5 n5 c5, .int .i64 X.s] 24))
  clear p0 p1 p2 hY hB1xa hB2xa hX0a hyok4 hI5 hX1
  go_upto_region 5 with fail
  generalize World.alloc w5 _ = w6 at *
  clear hB5
  generalize w5.heap.size = gp at *
  obtain ⟨⟨p0, p1, p2⟩, _⟩ := hE5.cells3
  go_wp2_with fail
  refine (hY1.out _ (hI2.later hE5.later)).mono ?_
  rintro e w7 ⟨A7, n7, c7, rfl, hI7, hB7, _⟩
  have hQ := Blk.made w w7 24 #[.bool Y.neg, .slice A7 n7 c7, .int .i64 Y.s] (hY5.call hB7).later _ rfl
  have hI7' := hI7.alloc (.cells #[.bool Y.neg, .slice A7 n7 c7, .int .i64 Y.s] 24)
  have hI5'' := (hI5'.below hB7).alloc (.cells #[.bool Y.neg, .slice A7 n7 c7, .int .i64 Y.s] 24)
  have hY7 := (hY5.call hB7).alloc (.cells #[.bool Y.neg, .slice A7 n7 c7, .int .i64 Y.s] 24)
  have hP7 := (hP.call hB7).alloc (.cells #[.bool Y.neg, .slice A7 n7 c7, .int .i64 Y.s] 24)
  have hy7 := (hy5.later hB7).later ((Later.refl w7).alloc (.cells #[.bool Y.neg, .slice A7 n7 c7, .int .i64 Y.s] 24))
  clear p0 p1 p2 hY5 hP hE5 hy5 hI7 hI5' hY1
  go_upto_region 6 with fail
  generalize World.alloc w7 _ = wb at *
  clear hB7
  generalize w7.heap.size = gq at *
  have hruB := hcb
  rw [← hyr] at hru hruB
  have hmX : mayDc X = true := mayDc_iff.2 ⟨hX.1, hX.2.1, by have := hX.2.2.1; omega⟩
  have hmY : mayDc Y = true := mayDc_iff.2 ⟨hY.1, hY.2.1, by have := hY.2.2.1; omega⟩
  obtain ⟨V, hvV⟩ : ∃ V, Hid ((valueC y.r X).1 = V) := ⟨_, rfl⟩
  have hcX : Hid (∀ (A : Option Addr) (n c : Nat) W, y.ok W → IL W A n c X.l → Calls Try.prog 20 #[.agg y.cs, .agg #[.bool X.neg, .slice A n c, .int .i64 X.s]] W (RCE W V 0)) := fun A n c W hW hI => by
    have := cvalue_any y X W hW hI hruB (I64_of_may hX.1) (by have := hX.2.1; have := hX.2.2.1; omega) (by have := hI.len; have := hX.2.2.2; omega)
    rw [value_code hru hmX, hvV.out] at this
    exact this
  obtain ⟨U, hvU⟩ : ∃ U, Hid ((valueC y.r Y).1 = U) := ⟨_, rfl⟩
  have hcY : Hid (∀ (A : Option Addr) (n c : Nat) W, y.ok W → IL W A n c Y.l → Calls Try.prog 20 #[.agg y.cs, .agg #[.bool Y.neg, .slice A n c, .int .i64 Y.s]] W (RCE W U 0)) := fun A n c W hW hI => by
    have := cvalue_any y Y W hW hI hruB (I64_of_may hY.1) (by have := hY.2.1; have := hY.2.2.1; omega) (by have := hI.len; have := hY.2.2.2; omega)
    rw [value_code hru hmY, hvU.out] at this
    exact this
  have hvX := Lib.hid (hcX.out A5 n5 c5)
  have hvY := Lib.hid (hcY.out A7 n7 c7)
  refine wp_call_tail 9 7 8 3 ⟨by kernel_rfl, by kernel_rfl, by kernel_rfl, by kernel_rfl, by kernel_rfl, by kernel_rfl, by kernel_rfl, by kernel_rfl, by kernel_rfl⟩ rfl rfl rfl rfl row_dec rfl rfl (by kernel_rfl) (by simp) (by simp) (z := #[.bool false, .slice none 0 0, .int .i64 0]) (t := 29) rfl ?_ (VC V 0) (FC V 0) (apC V 0) FC.f1 FC.f2 FC.f4 ?_
  · intro W a K h
    go_simp
    exact h
  simp only [List.take_succ_cons, List.take_zero, List.drop_succ_cons, List.drop_zero]
  generalize hQQ : (fun (u : Value) (a' : Act) => ∃ us : Array Value, a'.eval _ = .agg us ∧ us.size = 3 ∧ us.all (·.oneCell') = true ∧ ∀ (W : World) (b : Nat), Blk wb b 29 us W → FC V 0 u W → apC V 0 u b → wpList _ _ _ _ _ W) = QQ
  have HQQ := Lib.hid hQQ
  clear hQQ
  refine QC_loadb hY7 row_rules (by decide) rfl rfl rfl ?_
  go_simp
  refine QC_loadb hP7 row_dec6 (by decide) rfl rfl rfl ?_
  go_simp
  refine wpQC_step (by decide) (fun K hK => ?_)
  go_simp
  apply Exists.intro
  refine ⟨fun _ => ?_, hK _ ?_⟩
  · exact dec13_any _ _ _ _ _ _
  clear hK K
  go_simp
  refine wpQC_call rfl ?_ ?_
  · intro s
    go_simp
    exact ⟨rfl, RCE.up (hvX.out _ (hy7.later s.h) (hI5''.below s.h))⟩
  rintro u ⟨A9, n9, c9, rfl⟩
  unfold tupC
  go_simp
  iterate 3 (refine wpQV_step (by decide) (fun K hK => ?_); go_simp; refine hK _ ?_; clear hK K)
  refine wpQV_pass (by decide) ?_
  refine wpQV_pass (by decide) ?_
  refine wpQV_nil ?_
  rw [← HQQ.out]
  refine ⟨#[.bool V.neg, .slice A9 n9 c9, .int .i64 V.s], rfl, rfl, by kernel_rfl, ?_⟩
  rintro wd gv hV1 ⟨A9', n9', c9', hu9, hI9⟩ _
  obtain ⟨rfl, rfl, rfl⟩ := tupC_inj hu9
  clear hu9 HQQ
  go_simp
  have hY8 := hY7.call hV1.later
  have hP8 := hP7.call hV1.later
  have hQ8 := hQ.call hV1.later
  have hy8 := hy7.later hV1.later
  have hIX := hI5''.below hV1.later
  have hIY := hI7'.below hV1.later
  go_upto_region 7 with fail
  refine wp_call_tail 9 7 8 3 ⟨by kernel_rfl, by kernel_rfl, by kernel_rfl, by kernel_rfl, by kernel_rfl, by kernel_rfl, by kernel_rfl, by kernel_rfl, by kernel_rfl⟩ rfl rfl rfl rfl row_dec rfl rfl (by kernel_rfl) (by simp) (by simp) (z := #[.bool false, .slice none 0 0, .int .i64 0]) (t := 29) rfl ?_ (VC U 0) (FC U 0) (apC U 0) FC.f1 FC.f2 FC.f4 ?_
  · intro W a K h
    go_simp
    exact h
  simp only [List.take_succ_cons, List.take_zero, List.drop_succ_cons, List.drop_zero]
  generalize hQQ : (fun (u : Value) (a' : Act) => ∃ us : Array Value, a'.eval _ = .agg us ∧ us.size = 3 ∧ us.all (·.oneCell') = true ∧ ∀ (W : World) (b : Nat), Blk wd b 29 us W → FC U 0 u W → apC U 0 u b → wpList _ _ _ _ _ W) = QQ
  have HQQ := Lib.hid hQQ
  clear hQQ
  refine QC_loadb hY8 row_rules (by decide) rfl rfl rfl ?_
  go_simp
  refine QC_loadb hQ8 row_dec6 (by decide) rfl rfl rfl ?_
  go_simp
  refine wpQC_step (by decide) (fun K hK => ?_)
  go_simp
  apply Exists.intro
  refine ⟨fun _ => ?_, hK _ ?_⟩
  · exact dec13_any _ _ _ _ _ _
  clear hK K
  go_simp
  refine wpQC_call rfl ?_ ?_
  · intro s
    go_simp
    exact ⟨rfl, RCE.up (hvY.out _ (hy8.later s.h) (hIY.below s.h))⟩
  rintro u ⟨B9, m9, d9, rfl⟩
  unfold tupC
  go_simp
  iterate 3 (refine wpQV_step (by decide) (fun K hK => ?_); go_simp; refine hK _ ?_; clear hK K)
  refine wpQV_pass (by decide) ?_
  refine wpQV_pass (by decide) ?_
  refine wpQV_nil ?_
  rw [← HQQ.out]
  refine ⟨#[.bool U.neg, .slice B9 m9 d9, .int .i64 U.s], rfl, rfl, by kernel_rfl, ?_⟩
  rintro we gu hU1 ⟨B9', m9', d9', hu9, hI8⟩ _
  obtain ⟨rfl, rfl, rfl⟩ := tupC_inj hu9
  clear hu9 HQQ
  go_simp
  have hY9 := hY8.call hU1.later
  have hP9 := hP8.call hU1.later
  have hQ9 := hQ8.call hU1.later
  have hV9 := hV1.call hU1.later
  obtain ⟨y1, y2, y3⟩ := hy8.later hU1.later
  have hIX9 := hIX.below hU1.later
  have hIY9 := hIY.below hU1.later
  have hIV9 := hI9.below hU1.later
  obtain ⟨v1, v2, v3, v4, _⟩ := value_in hru hmX
  obtain ⟨u1, u2, u3, u4, _⟩ := value_in hru hmY
  have vl := value_len hru hmX hruB.lo.2 hruB.hi.2 (by have := hX.2.2.2; omega)
  have ul := value_len hru hmY hruB.lo.2 hruB.hi.2 (by have := hY.2.2.2; omega)
  have hmo := value_mono hru hmX hmY
  rw [hvV.out] at v1 v2 v3 v4 vl hmo
  rw [hvU.out] at u1 u2 u3 u4 ul hmo
  have lX := hX.2.2.2
  have lY := hY.2.2.2
  have llo := hruB.lo.2
  have lhi := hruB.hi.2
  have hk1 := Lib.hid (fun W (h1 : IL W A9 n9 c9 V.l) (h2 : IL W y.A1 y.n1 y.c1 y.r.lo.l) => show Calls Try.prog 21 #[.agg #[.bool V.neg, .slice A9 n9 c9, .int .i64 V.s], .agg #[.bool y.r.lo.neg, .slice y.A1 y.n1 y.c1, .int .i64 y.r.lo.s]] W (RV W (.int .i64 (cmpDc V y.r.lo))) from
    rccompare_any _ _ _ _ W h1 h2 (mayDc_iff.1 v1).1 (mayDc_iff.1 hru.lo.1).1 (by have := h1.len; omega) (by have := h2.len; omega) (mayDc_iff.1 v1).2.1 (by have := (mayDc_iff.1 v1).2.2; omega) (mayDc_iff.1 hru.lo.1).2.1 (by have := (mayDc_iff.1 hru.lo.1).2.2; omega))
  have hk2 := Lib.hid (fun W (h1 : IL W A9 n9 c9 V.l) (h2 : IL W y.A2 y.n2 y.c2 y.r.hi.l) => show Calls Try.prog 21 #[.agg #[.bool V.neg, .slice A9 n9 c9, .int .i64 V.s], .agg #[.bool y.r.hi.neg, .slice y.A2 y.n2 y.c2, .int .i64 y.r.hi.s]] W (RV W (.int .i64 (cmpDc V y.r.hi))) from
    rccompare_any _ _ _ _ W h1 h2 (mayDc_iff.1 v1).1 (mayDc_iff.1 hru.hi.1).1 (by have := h1.len; omega) (by have := h2.len; omega) (mayDc_iff.1 v1).2.1 (by have := (mayDc_iff.1 v1).2.2; omega) (mayDc_iff.1 hru.hi.1).2.1 (by have := (mayDc_iff.1 hru.hi.1).2.2; omega))
  have hk3 := Lib.hid (fun W (h1 : IL W A5 n5 c5 X.l) (h2 : IL W A7 n7 c7 Y.l) => show Calls Try.prog 21 #[.agg #[.bool X.neg, .slice A5 n5 c5, .int .i64 X.s], .agg #[.bool Y.neg, .slice A7 n7 c7, .int .i64 Y.s]] W (RV W (.int .i64 (cmpDc X Y))) from
    rccompare_any _ _ _ _ W h1 h2 (mayDc_iff.1 hmX).1 (mayDc_iff.1 hmY).1 (by have := h1.len; omega) (by have := h2.len; omega) (mayDc_iff.1 hmX).2.1 (by have := (mayDc_iff.1 hmX).2.2; omega) (mayDc_iff.1 hmY).2.1 (by have := (mayDc_iff.1 hmY).2.2; omega))
  have hk4 := Lib.hid (fun W (h1 : IL W A9 n9 c9 V.l) (h2 : IL W B9 m9 d9 U.l) => show Calls Try.prog 21 #[.agg #[.bool V.neg, .slice A9 n9 c9, .int .i64 V.s], .agg #[.bool U.neg, .slice B9 m9 d9, .int .i64 U.s]] W (RV W (.int .i64 (cmpDc V U))) from
    rccompare_any _ _ _ _ W h1 h2 (mayDc_iff.1 v1).1 (mayDc_iff.1 u1).1 (by have := h1.len; omega) (by have := h2.len; omega) (mayDc_iff.1 v1).2.1 (by have := (mayDc_iff.1 v1).2.2; omega) (mayDc_iff.1 u1).2.1 (by have := (mayDc_iff.1 u1).2.2; omega))
  have g1 : 0 ≤ cmpDc V y.r.lo := by omega
  have g2 : cmpDc V y.r.hi ≤ 0 := by omega
  have g4 : ¬ 0 < cmpDc X Y → cmpDc V U ≤ 0 := fun h => by have := hmo h; omega
  clear v1 v2 v3 v4 u1 u2 u3 u4 vl ul hmo hru hruB hvV hvU hmX hmY lX lY llo lhi hX hY hcX hcY hvX hvY hcb hyr
  generalize cmpDc V y.r.lo = q1 at *
  generalize cmpDc V y.r.hi = q2 at *
  generalize cmpDc X Y = q3 at *
  generalize cmpDc V U = q4 at *
  go_upto_region 10 with fail
  refine wp_region_ext (by kernel_rfl) (by kernel_rfl) ?_
  repeat (first
    | (go_big_quiet_want; refine quiet_load_blk hV9 row_dec rfl rfl rfl ?_; go_simp; go_big_quiet_on)
    | (go_big_quiet_want; refine quiet_load_of hY9 0 [.bool y.r.lo.neg, .slice y.A1 y.n1 y.c1, .int .i64 y.r.lo.s] rfl row_dec rfl rfl rfl ?_; go_simp; go_big_quiet_on)
    | (go_big_quiet_want; refine quiet_load_of hY9 3 [.bool y.r.hi.neg, .slice y.A2 y.n2 y.c2, .int .i64 y.r.hi.s] rfl row_dec rfl rfl rfl ?_; go_simp; go_big_quiet_on)
    | (go_big_quiet_step (first
      | (go_at_call 22; exact quiet_ext _ (as13_any _ _ _ _ _ _))
      | (go_at_call 21; with_reducible exact quiet_ext _ (hk1.out _ (hIV9.ext _) (y1.ext _)))
      | (go_at_call 21; exact quiet_ext _ (hk2.out _ (hIV9.ext _) (y2.ext _))))))
  refine wpQuiet_nil ?_
  rintro _ ⟨s, rfl⟩
  have hP10 := hP9.call s.h
  have hQ10 := hQ9.call s.h
  have hV10 := hV9.call s.h
  have hU10 := hU1.call s.h
  have hIX10 := hIX9.ext s
  have hIY10 := hIY9.ext s
  have hIV10 := hIV9.ext s
  have hIU10 := hI8.ext s
  generalize s.world = wf at *
  go_upto_region 11 with fail
  by_cases h3 : 0 < q3
  all_goals
    try have g4 := g4 h3
    refine wp_region_ext (by kernel_rfl) (by kernel_rfl) ?_
    repeat (first
      | (go_big_quiet_want; refine quiet_load_blk hV10 row_dec rfl rfl rfl ?_; go_simp; go_big_quiet_on)
      | (go_big_quiet_want; refine quiet_load_blk hU10 row_dec rfl rfl rfl ?_; go_simp; go_big_quiet_on)
      | (go_big_quiet_want; refine quiet_load_blk hP10 row_dec6 rfl rfl rfl ?_; go_simp; go_big_quiet_on)
      | (go_big_quiet_want; refine quiet_load_blk hQ10 row_dec6 rfl rfl rfl ?_; go_simp; go_big_quiet_on)
      | (go_big_quiet_step (first
        | (go_at_call 22; exact quiet_ext _ (as13_any _ _ _ _ _ _))
        | (go_at_call 21; with_reducible exact quiet_ext _ (hk3.out _ (hIX10.ext _) (hIY10.ext _)))
        | (go_at_call 21; exact quiet_ext _ (hk4.out _ (hIV10.ext _) (hIU10.ext _)))
        | (go_at_call 19; exact quiet_ext _ (lives13_any _)))))
    refine wpQuiet_nil ?_
    rintro _ ⟨s, rfl⟩
    go_wp2_with fail
    go_ret
    exact ⟨rfl, hP10.later.call s.h⟩

end Go.Proofs.Ytickhmlhciafgaa

