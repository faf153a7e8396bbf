/- What the laws of layer 20 share: good drafts, and what is the same. No condition. -/
import Derived.Test.YtickhmlhciafgaaGreatMa34
import Derived.Test.YtickhmlhciafgaaGreatMa10
namespace Go.Proofs.YtickhmlhciafgaaGreat
open Go.RowKit
set_option linter.unusedVariables false

def SV.cs (x : SV) : Array Value := #[.bool x.v.b, .slice x.v.A x.v.n x.v.c, .bool x.v.p, .slice x.v.E x.v.m x.v.q, .int .i64 x.c, .int .i64 x.a]
def n20 : Cn := ⟨3, 3, 1, 2, 1, 5, 1⟩
def c20 : Cm := ⟨n20, { data := #[48] }, { data := #[57, 57] }, { data := #[49] }, ⟨false, [0], 0⟩, ⟨false, [9, 9], 0⟩, ⟨false, [1], 0⟩⟩
theorem c20_ok : c20.Ok :=
  ⟨⟨by decide, by decide, by decide, by decide, by decide, by decide, by decide⟩,
    ⟨by decide, by kernel_rfl, by decide, by decide, by kernel_rfl⟩, ⟨by decide, by kernel_rfl, by decide, by decide, by kernel_rfl⟩, ⟨by decide, by kernel_rfl, by decide, by decide, by kernel_rfl⟩,
    by decide +kernel, by decide +kernel⟩
theorem v20_1 : commitS c20.ru ⟨false, [7], true, [2, 5]⟩ = (⟨false, [0, 7], true, [3]⟩, 0) := by kernel_rfl
theorem v20_2 : commitS c20.ru Dr.none = (⟨false, [0, 0], true, [0]⟩, 0) := by kernel_rfl
theorem t20_1 : bs (textD ⟨false, [0, 7], true, [3]⟩) = { data := #[48, 55, 46, 51] } := by rfl
theorem t20_2 : bs (textD ⟨false, [0, 0], true, [0]⟩) = { data := #[48, 48, 46, 48] } := by rfl
theorem built20_n : Tryz.prog.built 30 [(0, .int .i64 3), (1, .int .i64 3), (2, .int .i64 1), (3, .int .i64 2), (4, .int .i64 1), (5, .int .i64 5), (6, .int .i64 1)] = some #[.int .i64 3, .int .i64 3, .int .i64 1, .int .i64 2, .int .i64 1, .int .i64 5, .int .i64 1] := by kernel_rfl
theorem built20_c : Tryz.prog.built 38 [(0, .string { data := #[48] }), (1, .string { data := #[57, 57] }), (2, .string { data := #[49] }), (3, .agg #[.int .i64 3, .int .i64 3, .int .i64 1, .int .i64 2, .int .i64 1, .int .i64 5, .int .i64 1])] = some c20.cs := by kernel_rfl
theorem IL.one2 (w : World) (e : TypeId) (x y : Int) (b : Nat) (hb : b = w.heap.size) : IL (w.alloc (.cells #[.int .i64 x, .int .i64 y] e)) (some ⟨b, 0, none⟩) 2 2 [x, y] := by
  subst hb; exact VL.lit w e 2 [.int .i64 x, .int .i64 y] rfl (by omega)
theorem text20 {D : Dr} {s : ByteArray} (hs : bs (textD D) = s) (h1 : I64 D.int) (h2 : I64 D.frac) (h3 : D.int.length ≤ 10000) (h4 : D.frac.length ≤ 10000) (z : DV) (hz : z.d = D) (W : World) (hW : z.ok W) :
    Calls Tryz.prog 69 #[.agg z.cs] W (RV W (.string s)) := by
  subst hz
  have := dtext_any z.b z.p W hW.1 hW.2 h1 h2 (by have := hW.1.len; have : z.d.int.length = z.l.length := rfl; omega) (by have := hW.2.len; have : z.d.frac.length = z.f.length := rfl; omega)
  rw [← hs]
  exact this
set_option maxRecDepth 100000 in
set_option maxHeartbeats 4000000 in
theorem lives20_any (w : World) : Calls Tryz.prog 30 #[] w (RV w (.bool true)) := by
  have hcn := Lib.hid (fun W => c20_ok.cnew W)
  have hbd := Lib.hid c20_ok.ruBd
  have hok := Lib.hid c20_ok.ruOk
  have hb1 := built20_n
  have hb2 := built20_c
  have v1 := Lib.hid v20_1
  have v2 := Lib.hid v20_2
  have ht1 := Lib.hid (fun z hz W hW => text20 t20_1 (I64_lit rfl) (I64_lit rfl) (by decide) (by decide) z hz W hW)
  have ht2 := Lib.hid (fun z hz W hW => text20 t20_2 (I64_lit rfl) (I64_lit rfl) (by decide) (by decide) z hz W hW)
  generalize c20.ru = R at *
  generalize c20.cs = CC at *
  go_enter Tryz.func30, Tryz.ntmps30
  go_wp2_with (first | (refine wpList_build_ _ _ rfl rfl ?_ hb1 ?_; (exact rfl); go_simp) | (refine wpList_build_ _ _ rfl rfl ?_ hb2 ?_; (exact rfl); go_simp))
  refine (hcn.out _).mono ?_
  rintro e w1 ⟨y, rfl, hyr, hyok, hB1, hyf⟩
  have hbd : y.r.Bd := by rw [hyr]; exact hbd.out
  have hrk : y.r.Ok := by rw [hyr]; exact hok.out
  have hcm := Lib.hid (fun (A E : Option Addr) W (hW : y.ok W) (h1 : IL W A 1 1 [7]) (h2 : IL W E 2 2 [2, 5]) => show Calls Tryz.prog 32 #[.agg y.cs, .agg #[.bool false, .slice A 1 1, .bool true, .slice E 2 2]] W (PK (kde 0) ⟨false, [0, 7], true, [3]⟩ W) by
    have := ccommit_any y ⟨false, A, 1, 1, [7], true, E, 2, 2, [2, 5]⟩ W hW hrk hbd ⟨h1, h2⟩ (I64_lit rfl) (I64_lit rfl) (show 1 ≤ 1000 by decide) (show 2 ≤ 1000 by decide)
    rw [hyr] at this
    have e : commitS R (DV.d ⟨false, A, 1, 1, [7], true, E, 2, 2, [2, 5]⟩) = (⟨false, [0, 7], true, [3]⟩, 0) := v1.out
    rw [e] at this
    exact this)
  have hst := Lib.hid (fun W (hW : y.ok W) => show Calls Tryz.prog 37 #[.agg y.cs] W (PK kd ⟨false, [0, 0], true, [0]⟩ W) by
    have := cstart_any y W hW hrk hbd
    rw [hyr, v2.out] at this
    exact this)
  clear hb1 hb2 hcn hbd hrk hok v1 v2 hyr
  have hL1 : Later w w1 := hB1
  have hY0 := Blk.made w w1 32 #[.bool false, .slice none 0 0, .int .i64 0, .bool false, .slice none 0 0, .int .i64 0, .bool false, .slice none 0 0, .int .i64 0, .bool false, .int .i64 0, .int .i64 0, .int .i64 0, .int .i64 0, .int .i64 0, .int .i64 0, .int .i64 0] hL1 _ rfl
  go_upto_region 2 with (refine wpList_store_blk hY0 row_rules rfl rfl rfl rfl rfl rfl (by kernel_rfl) ?_; intro w2 hY hS2; go_simp)
  have hy2 := (hyok.later ((Later.refl w1).alloc (.cells #[.bool false, .slice none 0 0, .int .i64 0, .bool false, .slice none 0 0, .int .i64 0, .bool false, .slice none 0 0, .int .i64 0, .bool false, .int .i64 0, .int .i64 0, .int .i64 0, .int .i64 0, .int .i64 0, .int .i64 0, .int .i64 0] 32))).sto hS2 (hyok.apart (Nat.le_refl _))
  clear hY0 hS2 hyok hyf hL1 hB1
  generalize w1.heap.size = gy at *
  go_upto_region 4 with fail
  have hY' := fun o => hY.alloc o
  have hY2 := fun o o' => (hY.alloc o).alloc o'
  go_wp2_with (first | (refine wpList_load_blk hY row_rules rfl rfl rfl rfl ?_; go_simp))
  have hE := (hy2.later ((Later.refl w2).alloc (.cells #[.int .i64 7] 3))).later ((Later.refl _).alloc (.cells #[.int .i64 2, .int .i64 5] 3))
  have hY3 := (hY.alloc (.cells #[.int .i64 7] 3)).alloc (.cells #[.int .i64 2, .int .i64 5] 3)
  refine (hcm.out _ _ _ hE ((IL.one1 w2 3 7 _ rfl).alloc _) (IL.one2 (w2.alloc (.cells #[.int .i64 7] 3)) 3 2 5 _ (by simp))).mono ?_
  clear hY' hY2
  generalize World.alloc (World.alloc w2 _) _ = w3 at *
  rintro e w4 ⟨z, rfl, hz, hzo, hB4, hzn⟩
  have hY4 := (hY3.call hB4).alloc (.cells #[.bool false, .slice none 0 0, .bool false, .slice none 0 0] 70)
  have hyo4 := (hE.later hB4).later ((Later.refl w4).alloc (.cells #[.bool false, .slice none 0 0, .bool false, .slice none 0 0] 70))
  have hZ0 := Blk.made w w4 70 #[.bool false, .slice none 0 0, .bool false, .slice none 0 0] (hY3.call hB4).later _ rfl
  have hzo4 := hzo.alloc (.cells #[.bool false, .slice none 0 0, .bool false, .slice none 0 0] 70)
  have hzf := hzo.off (Nat.le_refl _)
  have hl4 := (hY3.call hB4).lt
  unfold kde
  go_upto_region 5 with (refine wpList_store_blk hZ0 row_draft rfl rfl rfl rfl rfl rfl (by kernel_rfl) ?_; intro w5 hZ hS5; go_simp)
  have hY5 := hS5.far hY4 (by omega) hZ0.1
  have hyo5 := hyo4.sto hS5 (((hE.later hB4)).apart (Nat.le_refl _))
  have hzo5 := hzo4.sto hS5 hzf
  clear hZ0 hS5 hY4 hyo4 hzo4 hY hY3 hE
  generalize w4.heap.size = gz at *
  go_wp2_with (first | (refine wpList_load_blkg hZ row_draft rfl rfl rfl rfl ?_; go_simp) | (refine wpList_load_blkg hY5 row_rules rfl rfl rfl rfl ?_; go_simp))
  refine (ht1.out z hz.out _ hzo5).mono ?_
  rintro e w6 ⟨rfl, hB6⟩
  have hY6 := hY5.call hB6
  go_wp2_with (first | (refine wpList_load_blkg hY6 row_rules rfl rfl rfl rfl ?_; go_simp))
  refine (hst.out _ (hyo5.later hB6)).mono ?_
  rintro e w7 ⟨q, rfl, hq, hqo, hB7, hqn⟩
  unfold kd
  go_wp2_with fail
  refine (ht2.out q hq.out _ hqo).mono ?_
  rintro e w8 ⟨rfl, hB8⟩
  go_wp2_with fail
  go_ret
  exact ⟨rfl, ((hY6.call hB7).call hB8).later⟩

end Go.Proofs.YtickhmlhciafgaaGreat


namespace Go.Proofs.YtickhmlhciafgaaGreat
open Go.RowKit
set_option linter.unusedVariables false

def goodD (d : Dr) (q r : Nat) : Dr := ⟨d.neg, goodL d.int q, d.sep, if d.sep then goodL d.frac r else []⟩
theorem goodL_I64 (l : List Int) (q : Nat) : I64 (goodL l q) := I64_of_may (mayL_good l q)
theorem goodD_ok (d : Dr) (q r : Nat) (hq : q ≤ 100) (hr : r ≤ 100) : mayR (goodD d q r) ∧ (goodD d q r).int.length ≤ q ∧ (goodD d q r).frac.length ≤ r ∧ I64 (goodD d q r).int ∧ I64 (goodD d q r).frac := by
  have h1 := goodL_len d.int q
  have h2 := goodL_len d.frac r
  refine ⟨?_, by show (goodL d.int q).length ≤ q; omega, ?_, goodL_I64 _ _, ?_⟩
  · unfold mayR mayD goodD
    cases d.sep <;> simp [mayL_good]
  · show (if d.sep then goodL d.frac r else []).length ≤ r
    split
    · omega
    · exact Nat.zero_le _
  · show I64 (if d.sep then goodL d.frac r else [])
    split
    · exact goodL_I64 _ _
    · exact fun x hx => absurd hx List.not_mem_nil
theorem vgood_any (x : DV) (q r : Nat) (w : World) (hx : x.ok w) (hi : I64 x.l) (hf : I64 x.f) (hq : q ≤ 100) (hr : r ≤ 100) :
    Calls Tryz.prog 25 #[.agg x.cs, .int .i64 (q : Int), .int .i64 (r : Int)] w (PK kd (goodD x.d q r) w) :=
  (dgoodn_any x.b x.p q r w hx.1 hx.2 hi hf (by omega) (by omega)).mono fun _ _ h => h.pk
theorem vsame14_any (x y : DV) (w : World) (hx : x.ok w) (hy : y.ok w) : Calls Tryz.prog 34 #[.agg x.cs, .agg y.cs] w (RV w (.bool (sameD x.d y.d))) :=
  rdsame_any _ _ _ _ w hx.1 hx.2 hy.1 hy.2
theorem vsame14_refl (x : DV) (w : World) (hx : x.ok w) : Calls Tryz.prog 34 #[.agg x.cs, .agg x.cs] w (RV w (.bool true)) := by
  have := vsame14_any x x w hx hx
  rw [sameD_refl] at this
  exact this
theorem DV.ok.ext {x : DV} {w : World} (h : x.ok w) (s : Ext w) : x.ok s.world := h.below s.h
theorem NV.ok.ext {x : NV} {w : World} (h : x.ok w) (s : Ext w) : x.ok s.world := h.below s.h
theorem RuV.ok.ext {x : RuV} {w : World} (h : x.ok w) (s : Ext w) : x.ok s.world := h.below s.h
theorem Blk.base {w w1 W : World} {g : Nat} {t : TypeId} {cs : Array Value} (h : Blk w1 g t cs W) (hl : Later w w1) : Blk w g t cs W := ⟨Nat.le_trans hl.size h.1, h.2.1, hl.call h.2.2⟩
theorem place_may {d : Dr} (h : mayR d) : mayS ⟨d, lenR d, lenR d⟩ = true :=
  mayS_iff.2 ⟨h, ⟨Int.natCast_nonneg _, Int.le_refl _⟩, ⟨Int.natCast_nonneg _, Int.le_refl _⟩⟩
theorem lenR_bd {x : DV} {W : World} (h : x.ok W) (h1 : x.n ≤ 9) (h2 : x.m ≤ 7) : I6 (lenR x.d) := by
  have e1 := h.1.len
  have e2 := h.2.len
  have e3 : lenR x.d = (((atomsD x.l x.p x.f).length : Nat) : Int) := rfl
  have e4 : (atomsD x.l x.p x.f).length ≤ x.l.length + 1 + x.f.length := by
    unfold atomsD
    cases x.p <;> simp <;> omega
  unfold I6
  omega
/-- Decimals in memory: which is greater, whether they are the same. -/
structure NV.Bd (x : NV) : Prop where
  may : mayDc x.D = true
  len : x.D.l.length ≤ 5000
theorem NV.Bd.mk' {x : NV} {D : Dc} (h : x.D = D) (hm : mayDc D = true) (hl : D.l.length ≤ 5000) : x.Bd := by subst h; exact ⟨hm, hl⟩
def RuV.lo (y : RuV) : NV := ⟨y.r.lo, y.A1, y.n1, y.c1⟩
def RuV.hi (y : RuV) : NV := ⟨y.r.hi, y.A2, y.n2, y.c2⟩
def RuV.st (y : RuV) : NV := ⟨y.r.st, y.A3, y.n3, y.c3⟩
theorem vcmp6_any (x y : NV) (w : World) (hx : x.ok w) (hy : y.ok w) (bx : x.Bd) (hB : y.Bd) :
    Calls Tryz.prog 47 #[.agg x.cs, .agg y.cs] w (RV w (.int .i64 (cmpDc x.D y.D))) :=
  rccompare_any _ _ _ _ w hx hy (mayDc_iff.1 bx.may).1 (mayDc_iff.1 hB.may).1 (by have := hx.len; have := bx.len; omega) (by have := hy.len; have := hB.len; omega) (mayDc_iff.1 bx.may).2.1 (by have := (mayDc_iff.1 bx.may).2.2; omega) (mayDc_iff.1 hB.may).2.1 (by have := (mayDc_iff.1 hB.may).2.2; omega)
theorem vsame6_any (x y : NV) (w : World) (hx : x.ok w) (hy : y.ok w) : Calls Tryz.prog 17 #[.agg x.cs, .agg y.cs] w (RV w (.bool (sameDc x.D y.D))) :=
  csame_any _ _ _ _ w hx hy
theorem vdec14_any (x : DV) (w : World) (hx : x.ok w) (hi : I64 x.l) (hf : I64 x.f) (n1 : x.n ≤ 10000) (n2 : x.m ≤ 10000) : Calls Tryz.prog 66 #[.agg x.cs] w (PQ kc (decD x.d) w) :=
  (rdec_any x.b x.p w hx.1 hx.2 hi hf n1 n2).mono fun _ _ h => h.pq

end Go.Proofs.YtickhmlhciafgaaGreat

