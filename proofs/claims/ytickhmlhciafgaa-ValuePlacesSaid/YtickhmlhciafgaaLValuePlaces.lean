/- A draft's state has caret and anchor behind all atoms: the walk. No condition. -/
import Derived.Test.YtickhmlhciafgaaMa35
namespace Go.Proofs.Ytickhmlhciafgaa
open Go.RowKit
set_option linter.unusedVariables false

set_option maxRecDepth 100000 in
set_option maxHeartbeats 4000000 in
theorem valuePlaces_walk (w : World) (b0 p0 : Bool) {A0 : Option Addr} {n0 c0 : Nat} {l0 : List Int} {E0 : Option Addr} {m0 d0 : Nat} {k0 : List Int} (w0 : IL w A0 n0 c0 l0) (i0 : I64 l0) (x0 : IL w E0 m0 d0 k0) (j0 : I64 k0) :
    Calls Try.prog 7 #[.agg #[.bool b0, .slice A0 n0 c0, .bool p0, .slice E0 m0 d0]] w (RV w (.bool true)) := by
  obtain ⟨x, hx⟩ : ∃ x : DV, Hid (x = ⟨b0, A0, n0, c0, l0, p0, E0, m0, d0, k0⟩) := ⟨_, rfl⟩
  have hxo : x.ok w := by rw [hx.out]; exact ⟨w0, x0⟩
  have hxi : I64 x.l := by rw [hx.out]; exact i0
  have hxf : I64 x.f := by rw [hx.out]; exact j0
  have hcs : (#[.bool b0, .slice A0 n0 c0, .bool p0, .slice E0 m0 d0] : Array Value) = x.cs := by rw [hx.out]; rfl
  rw [hcs]
  clear hcs hx w0 x0 i0 j0
  have hgd := Lib.hid (fun W (hW : x.ok W) => vgood_any x 9 7 W hW hxi hxf (by omega) (by omega))
  have hg := goodD_ok x.d 9 7 (by omega) (by omega)
  generalize goodD x.d 9 7 = G at *
  have hB0 := (Blk.made w w 61 x.cs (Later.refl w) _ rfl)
  go_enter Try.func7, Try.ntmps7
  go_upto_region 1 with fail
  generalize World.alloc w _ = w1 at *
  go_wp2_with (refine wpList_load_blk hB0 row_draft14 rfl rfl rfl rfl ?_; go_simp)
  refine (hgd.out _ (hxo.later hB0.later)).mono ?_
  rintro e w2 ⟨z, rfl, hz, hzo, hB2, hzn⟩
  have hZ0 := Blk.made w w2 61 #[.bool false, .slice none 0 0, .bool false, .slice none 0 0] (hB0.call hB2).later _ rfl
  have hzo2 := hzo.alloc (.cells #[.bool false, .slice none 0 0, .bool false, .slice none 0 0] 61)
  have hzf := hzo.off (Nat.le_refl _)
  unfold kd
  go_upto_region 2 with (refine wpList_store_blk hZ0 row_draft14 rfl rfl rfl rfl rfl rfl (by kernel_rfl) ?_; intro w3 hZ hS3; go_simp)
  have hzo3 := hzo2.sto hS3 hzf
  clear hZ0 hS3 hzo2 hzo hzf hB0 hgd hzn hB2
  generalize w2.heap.size = gz at *
  have hn1 : z.n ≤ 9 := by have := hzo3.1.len; have := hg.2.1; rw [← hz.out] at this; have : z.d.int.length = z.l.length := rfl; omega
  have hn2 : z.m ≤ 7 := by have := hzo3.2.len; have := hg.2.2.1; rw [← hz.out] at this; have : z.d.frac.length = z.f.length := rfl; omega
  have hfit : z.fit := ⟨by have := hg.2.2.2.1; rw [← hz.out] at this; exact this, by have := hg.2.2.2.2; rw [← hz.out] at this; exact this, by omega, by omega⟩
  have hms : Hid (mayS ⟨z.d, lenR z.d, lenR z.d⟩ = true) := by
    have hm := hg.1
    rw [← hz.out] at hm
    exact place_may hm
  clear hg hz
  have hof := Lib.hid (fun W => of20_any z W)
  have hpl := Lib.hid (fun W (hW : z.ok W) => cplace_any z W hW (by omega) (by omega))
  have hrp := Lib.hid (fun W (hW : z.ok W) => rplace_any z W hW (by omega) (by omega))
  have hmy := Lib.hid (fun W (hW : z.ok W) => show Calls Try.prog 34 #[.agg (SV.cs ⟨z, lenR z.d, lenR z.d⟩)] W (RV W (.bool true)) by
    have := emay_any ⟨z, lenR z.d, lenR z.d⟩ W hW hfit
    have e : mayS (SV.s ⟨z, lenR z.d, lenR z.d⟩) = true := hms.out
    rw [e] at this
    exact this)
  have has := Lib.hid (fun W => as20_any z W)
  have hsm := Lib.hid (fun W (hW : z.ok W) => vsame14_refl z W hW)
  have hlr : I6 (lenR z.d) := (lenR_bd hzo3 hn1 hn2)
  clear hms hfit
  generalize lenR z.d = k at *
  go_wp2_with (refine wpList_load_blk hZ row_draft14 rfl rfl rfl rfl ?_; go_simp)
  refine (hof.out _).mono ?_
  rintro e w4 ⟨rfl, hB4⟩
  go_wp2_with fail
  refine (hpl.out _ (hzo3.below hB4)).mono ?_
  rintro e w5 ⟨rfl, hB5⟩
  have hZ5 := ((hZ.call hB4).call hB5).alloc (.cells #[.bool false, .slice none 0 0, .bool false, .slice none 0 0, .int .i64 0, .int .i64 0] 74)
  have hS0 := Blk.made w w5 74 #[.bool false, .slice none 0 0, .bool false, .slice none 0 0, .int .i64 0, .int .i64 0] ((hZ.call hB4).call hB5).later _ rfl
  have hzo5 := ((hzo3.below hB4).below hB5).alloc (.cells #[.bool false, .slice none 0 0, .bool false, .slice none 0 0, .int .i64 0, .int .i64 0] 74)
  have hzf := ((hzo3.below hB4).below hB5).off (Nat.le_refl _)
  have l5 := ((hZ.call hB4).call hB5).lt
  go_upto_region 3 with (refine wpList_store_blk hS0 row_state rfl rfl rfl rfl rfl rfl (by kernel_rfl) ?_; intro w6 hS hS6; go_simp)
  have hZ6 := hS6.far hZ5 (by omega) hS0.1
  have hzo6 := hzo5.sto hS6 hzf
  clear hZ5 hS0 hzo5 hzf hS6 hzo3 hZ hof hpl
  generalize w5.heap.size = gs at *
  go_wp2_with (refine wpList_load_blk hZ6 row_draft14 rfl rfl rfl rfl ?_; go_simp)
  refine (hrp.out _ hzo6).mono ?_
  rintro e w7 ⟨rfl, hB7⟩
  have hS7 := (hS.call hB7).alloc (.cells #[.bool false, .slice none 0 0, .bool false, .slice none 0 0, .int .i64 0, .int .i64 0] 77)
  have hT0 := Blk.made w w7 77 #[.bool false, .slice none 0 0, .bool false, .slice none 0 0, .int .i64 0, .int .i64 0] (hS.call hB7).later _ rfl
  have hzo7 := (hzo6.below hB7).alloc (.cells #[.bool false, .slice none 0 0, .bool false, .slice none 0 0, .int .i64 0, .int .i64 0] 77)
  have hzf := (hzo6.below hB7).off (Nat.le_refl _)
  have l7 := (hS.call hB7).lt
  go_upto_region 4 with (refine wpList_store_blk hT0 row_state19 rfl rfl rfl rfl rfl rfl (by kernel_rfl) ?_; intro w8 hT hS8; go_simp)
  have hS8' := hS8.far hS7 (by omega) hT0.1
  have hzo8 := hzo7.sto hS8 hzf
  clear hS7 hT0 hzo7 hzf hS8 hzo6 hZ6 hS hrp
  generalize w7.heap.size = gt at *
  refine wp_region_ext (by kernel_rfl) (by kernel_rfl) ?_
  have q1 : ∀ s : Ext w8, s.world.cell? ⟨gs, 4, none⟩ = some (.int .i64 k) := fun s => Ext.cell (hS8'.cell 4) s
  have q2 : ∀ s : Ext w8, s.world.cell? ⟨gs, 5, none⟩ = some (.int .i64 k) := fun s => Ext.cell (hS8'.cell 5) s
  have q3 : ∀ s : Ext w8, s.world.cell? ⟨gt, 4, none⟩ = some (.int .i64 k) := fun s => Ext.cell (hT.cell 4) s
  have q4 : ∀ s : Ext w8, s.world.cell? ⟨gt, 5, none⟩ = some (.int .i64 k) := fun s => Ext.cell (hT.cell 5) s
  repeat (first
    | (go_big_quiet_want; refine quiet_load_of hS8' 0 [.bool z.b, .slice z.A z.n z.c, .bool z.p, .slice z.E z.m z.q] rfl row_draft rfl rfl rfl ?_; go_simp; go_big_quiet_on)
    | (go_big_quiet_want; refine quiet_load_of hT 0 [.bool z.b, .slice z.A z.n z.c, .bool z.p, .slice z.E z.m z.q] rfl row_draft14 rfl rfl rfl ?_; go_simp; go_big_quiet_on)
    | (go_big_quiet_want; refine quiet_load_blk hS8' row_state rfl rfl rfl ?_; go_simp; go_big_quiet_on)
    | (go_big_quiet_step (first
      | (go_at_call 28; exact quiet_ext _ (has.out _))
      | (go_at_call 33; exact quiet_ext _ (hsm.out _ (hzo8.ext _)))
      | (go_at_call 34; exact quiet_ext _ (hmy.out _ (hzo8.ext _)))
      | (go_at_call 30; exact quiet_ext _ (lives20_any _)))))
  refine wpQuiet_nil ?_
  rintro _ ⟨s, rfl⟩
  go_wp2_with fail
  go_ret
  exact ⟨rfl, hT.later.call s.h⟩

end Go.Proofs.Ytickhmlhciafgaa

