/- There may be a sign just if the least number is below 0: the walk. No condition. -/
import Derived.Test.YtickhmlhciafgaaMa24
import Derived.Test.YtickhmlhciafgaaMa10
namespace Go.Proofs.Ytickhmlhciafgaa
open Go.RowKit

set_option maxRecDepth 100000 in
set_option maxHeartbeats 4000000 in
theorem configSigned_walk (w : World) (x : GV) (hx : x.ok w) (hb : x.Bd) : Calls Try.prog 5 #[.agg x.cs] w (RV w (.bool true)) := by
  have hX0 := (Blk.made w w 28 x.cs (Later.refl w) (w.heap.size) (by simp))
  go_enter Try.func5, Try.ntmps5
  go_upto_region 1 with fail
  generalize World.alloc w _ = w0 at *
  have hgo := Lib.hid (fun W (h : x.ok W) => rgood13_any x W h hb)
  have hcok := goodG_ok x.g
  have hru := hcok.ruOk
  have hcb := hcok.ruBd
  have hcn := Lib.hid (fun W => hcok.cnew W)
  generalize (goodG x.g).ru = R at *
  generalize goodG x.g = c at *
  go_wp2_with (refine wpList_load_blk hX0 row_made13 rfl rfl rfl rfl ?_; go_simp)
  refine (hgo.out _ (hx.later hX0.later)).mono ?_
  rintro e w1 ⟨rfl, hB1⟩
  go_wp2_with fail
  refine (of13_any c w1).mono ?_
  rintro e w2 ⟨rfl, hB2⟩
  go_wp2_with fail
  refine (hcn.out _).mono ?_
  rintro e w3 ⟨y, rfl, hyr, hyok, hB3, hyf⟩
  have hL3 := ((hX0.call hB1).call hB2).call hB3
  have hY0 := Blk.made w w3 32 #[.bool false, .slice none 0 0, .int .i64 0, .bool false, .slice none 0 0, .int .i64 0, .bool false, .slice none 0 0, .int .i64 0, .bool false, .int .i64 0, .int .i64 0, .int .i64 0, .int .i64 0, .int .i64 0, .int .i64 0, .int .i64 0] hL3.later _ rfl
  have hyok1 := hyok.later ((Later.refl w3).alloc (.cells #[.bool false, .slice none 0 0, .int .i64 0, .bool false, .slice none 0 0, .int .i64 0, .bool false, .slice none 0 0, .int .i64 0, .bool false, .int .i64 0, .int .i64 0, .int .i64 0, .int .i64 0, .int .i64 0, .int .i64 0, .int .i64 0] 32))
  have hX0n := hL3.alloc (.cells #[.bool false, .slice none 0 0, .int .i64 0, .bool false, .slice none 0 0, .int .i64 0, .bool false, .slice none 0 0, .int .i64 0, .bool false, .int .i64 0, .int .i64 0, .int .i64 0, .int .i64 0, .int .i64 0, .int .i64 0, .int .i64 0] 32)
  have hlt3 := hL3.lt
  go_upto_region 2 with (refine wpList_store_blk hY0 row_rules rfl rfl rfl rfl rfl rfl (by kernel_rfl) ?_; intro w4 hY hS4; go_simp)
  have hyok4 := hyok1.sto hS4 (hyok.apart (Nat.le_refl _))
  have hX0a := hS4.far hX0n (by omega) hY0.1
  clear hgo hcn hcok hX0 hX0n hL3 hY0 hyok hyok1 hyf hlt3 hS4 
  generalize w3.heap.size = gy at *
  have hruB := hcb
  rw [← hyr] at hru hruB
  have hv := Lib.hid (value_lo hru)
  obtain ⟨sg, hsg⟩ : ∃ s, Hid (y.r.sg = s) := ⟨_, rfl⟩
  have hng : Hid (y.r.lo.neg = sg) := by rw [Hid, ← hru.sg]; exact hsg.out
  have hq : decide (cmpDc y.r.lo Dc.zero < 0) = sg := by
    rw [← hng.out]
    have := neg_iff hru.lo.1 hru.lo.2.1
    cases h : y.r.lo.neg
    · exact decide_eq_false (fun g => by rw [this.1 g] at h; cases h)
    · exact decide_eq_true (this.2 h)
  have hva := Lib.hid (fun W (hW : y.ok W) => show Calls Try.prog 20 #[.agg y.cs, .agg #[.bool y.r.lo.neg, .slice y.A1 y.n1 y.c1, .int .i64 y.r.lo.s]] W (RCE W y.r.lo 0) by
    have := cvalue_any y y.r.lo W hW hW.1 hruB (may_bd hru.lo.1).1 (may_bd hru.lo.1).2 (by have := hW.1.len; have := hruB.lo.2; omega)
    rw [hv.out] at this
    exact this)
  have hcm := Lib.hid (fun W (hW : IL W y.A1 y.n1 y.c1 y.r.lo.l) => show Calls Try.prog 21 #[.agg #[.bool y.r.lo.neg, .slice y.A1 y.n1 y.c1, .int .i64 y.r.lo.s], .agg #[.bool false, .slice none 0 0, .int .i64 0]] W (RV W (.int .i64 (cmpDc y.r.lo Dc.zero))) from
    rccompare_any _ _ _ _ W hW (IL.nil W) (mayDc_iff.1 hru.lo.1).1 rfl (by have := hW.len; have := hruB.lo.2; omega) (by omega) (mayDc_iff.1 hru.lo.1).2.1 (by have := (mayDc_iff.1 hru.lo.1).2.2; omega) (by omega) (by omega))
  generalize cmpDc y.r.lo Dc.zero = q at *
  clear hcb hru hruB hv hyr hX0a
  go_wp2_with (first | (refine wpList_load_blk hY row_rules rfl rfl rfl rfl ?_; go_simp) | (refine wpList_load_part (hY.part 0 [.bool y.r.lo.neg, .slice y.A1 y.n1 y.c1, .int .i64 y.r.lo.s] rfl) row_dec rfl rfl rfl rfl ?_; go_simp))
  refine (hva.out _ hyok4).mono ?_
  rintro e w5 ⟨A5, n5, c5, rfl, hI5, hB5, _⟩
  rw [hng.out]
  have hP := Blk.made w w5 29 #[.bool sg, .slice A5 n5 c5, .int .i64 y.r.lo.s] (hY.call hB5).later _ rfl
  have hY6 := (hY.call hB5).alloc (.cells #[.bool sg, .slice A5 n5 c5, .int .i64 y.r.lo.s] 29)
  have hy6 := (hyok4.later hB5).later ((Later.refl w5).alloc (.cells #[.bool sg, .slice A5 n5 c5, .int .i64 y.r.lo.s] 29))
  clear hY hyok4 hva
  go_upto_region 5 with fail
  generalize World.alloc w5 _ = w6 at *
  generalize w5.heap.size = gp at *
  have k9 : w6.cell? ⟨gy, 9, none⟩ = some (.bool sg) := by rw [← hsg.out]; exact hY6.cell 9
  have k0 : w6.cell? ⟨gp, 0, none⟩ = some (.bool sg) := hP.cell 0
  have k9' := fun s : Ext w6 => Ext.cell k9 s
  have k0' := fun s : Ext w6 => Ext.cell k0 s
  refine wp_region_ext (by kernel_rfl) (by kernel_rfl) ?_
  repeat (first
    | (go_big_quiet_want; refine quiet_load_of hY6 0 [.bool y.r.lo.neg, .slice y.A1 y.n1 y.c1, .int .i64 y.r.lo.s] rfl row_dec rfl rfl rfl ?_; go_simp; go_big_quiet_on)
    | (go_big_quiet_step (first
      | (go_at_call 22; exact quiet_ext _ (as13_any _ _ _ _ _ _))
      | (go_at_call 21; exact quiet_ext _ (hcm.out _ (hy6.1.ext _)))
      | (go_at_call 19; exact quiet_ext _ (lives13_any _)))))
  refine wpQuiet_nil ?_
  rintro _ ⟨s, rfl⟩
  go_wp2_with fail
  go_ret
  exact ⟨rfl, hY6.later.call s.h⟩

end Go.Proofs.Ytickhmlhciafgaa

