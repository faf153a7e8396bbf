/- The example of layer 13 lives. No condition. -/
import Derived.Test.YtjinbhnpcdlkiaaGreatDoorMa28
import Derived.Test.YtjinbhnpcdlkiaaGreatDoorMa26
import Derived.Test.YtjinbhnpcdlkiaaGreatDoorMa09
import Derived.Test.YtjinbhnpcdlkiaaGreatDoorMa10
import Derived.Test.YtjinbhnpcdlkiaaGreatDoorMa17
namespace Go.Proofs.YtjinbhnpcdlkiaaGreatDoor
open Go.RowKit
set_option linter.unusedVariables false

/-- A configuration with one of its limits, or texts, another one. -/
def changedC (c : Cm) (k v : Int) (t : ByteArray) : Cm :=
  if k = 0 then { c with n := { c.n with ic := v } } else if k = 1 then { c with n := { c.n with fc := v } } else if k = 2 then { c with n := { c.n with sc := v } } else if k = 3 then { c with n := { c.n with mi := v } } else if k = 4 then { c with n := { c.n with mf := v } } else if k = 5 then { c with n := { c.n with md := v } } else if k = 6 then { c with n := { c.n with hs := v } } else if k = 7 then { c with m := t } else if k = 8 then { c with x := t } else { c with s := t }
def Cm.sized (c : Cm) (B : Nat) : Prop := c.m.size ≤ B ∧ c.x.size ≤ B ∧ c.s.size ≤ B
theorem changedC_sized {c : Cm} {k v : Int} {t : ByteArray} {B : Nat} (h : c.sized B) (ht : t.size ≤ B) : (changedC c k v t).sized B := by
  unfold changedC
  obtain ⟨h1, h2, h3⟩ := h
  repeat' split
  all_goals exact ⟨by assumption, by assumption, by assumption⟩
set_option maxRecDepth 100000 in
set_option maxHeartbeats 4000000 in
theorem changed_any (c : Cm) (k v : Int) (t : ByteArray) (w : World) (hk0 : -9223372036854775808 ≤ k) (hk1 : k ≤ 9223372036854775807) :
    Calls Tryz.prog 6 #[.agg c.cs, .int .i64 k, .int .i64 v, .string t] w (RV w (.agg (changedC c (around k 10) v t).cs)) := by
  have har := Lib.hid (fun W => around_any k 10 W hk0 hk1 (by omega) (by omega))
  have hab := around_bd k 10 (by omega)
  have hC := (Blk.made w w 25 #[.string c.m, .string c.x, .string c.s, .int .i64 c.n.ic, .int .i64 c.n.fc, .int .i64 c.n.sc, .int .i64 c.n.mi, .int .i64 c.n.mf, .int .i64 c.n.md, .int .i64 c.n.hs] (Later.refl w) _ rfl).alloc (.cells #[.string { data := #[] }, .string { data := #[] }, .string { data := #[] }, .int .i64 0, .int .i64 0, .int .i64 0, .int .i64 0, .int .i64 0, .int .i64 0, .int .i64 0] 25)
  have hR := (Blk.made w (w.alloc (.cells #[.string c.m, .string c.x, .string c.s, .int .i64 c.n.ic, .int .i64 c.n.fc, .int .i64 c.n.sc, .int .i64 c.n.mi, .int .i64 c.n.mf, .int .i64 c.n.md, .int .i64 c.n.hs] 25)) 25 #[.string { data := #[] }, .string { data := #[] }, .string { data := #[] }, .int .i64 0, .int .i64 0, .int .i64 0, .int .i64 0, .int .i64 0, .int .i64 0, .int .i64 0] ((Later.refl w).alloc _) (w.heap.size + 1) (by simp))
  unfold Cm.cs
  generalize around k 10 = q at *
  go_enter Tryz.func6, Tryz.ntmps6
  go_upto_region 1 with fail
  generalize World.alloc (World.alloc w _) _ = w1 at *
  go_wp2_with fail
  refine (har.out _).mono ?_
  rintro e w2 ⟨rfl, rfl⟩
  have hcs : q = 0 ∨ q = 1 ∨ q = 2 ∨ q = 3 ∨ q = 4 ∨ q = 5 ∨ q = 6 ∨ q = 7 ∨ q = 8 ∨ q = 9 := by omega
  clear hab har
  rcases hcs with rfl | rfl | rfl | rfl | rfl | rfl | rfl | rfl | rfl | rfl
  · as_aux_lemma =>
    have c0 := hC.cell 3
    have f0 := hC.free 3
    have hC2 := hC.set_ 3 (.int .i64 v)
    have hR2 := (Sto.set w1 ⟨w.heap.size, 3, none⟩ (.int .i64 v)).far hR (by show w.heap.size + 1 ≠ w.heap.size; omega) (Nat.le_refl _)
    go_upto_region 21 with fail
    go_wp2_with (first | (refine wpList_load_blk hC2 row_conf13 rfl rfl rfl rfl ?_; go_simp) | (refine wpList_store_blk hR2 row_conf13 rfl rfl rfl rfl rfl rfl (by kernel_rfl) ?_; intro w3 hR3 hS3; go_simp))
    exact bodyPost_ret (results_c hR3 row_conf13 rfl Tryz.results6 rfl) rfl ⟨rfl, hS3.below (hC2.later) (by omega)⟩
  · as_aux_lemma =>
    have c0 := hC.cell 4
    have f0 := hC.free 4
    have hC2 := hC.set_ 4 (.int .i64 v)
    have hR2 := (Sto.set w1 ⟨w.heap.size, 4, none⟩ (.int .i64 v)).far hR (by show w.heap.size + 1 ≠ w.heap.size; omega) (Nat.le_refl _)
    go_upto_region 21 with fail
    go_wp2_with (first | (refine wpList_load_blk hC2 row_conf13 rfl rfl rfl rfl ?_; go_simp) | (refine wpList_store_blk hR2 row_conf13 rfl rfl rfl rfl rfl rfl (by kernel_rfl) ?_; intro w3 hR3 hS3; go_simp))
    exact bodyPost_ret (results_c hR3 row_conf13 rfl Tryz.results6 rfl) rfl ⟨rfl, hS3.below (hC2.later) (by omega)⟩
  · as_aux_lemma =>
    have c0 := hC.cell 5
    have f0 := hC.free 5
    have hC2 := hC.set_ 5 (.int .i64 v)
    have hR2 := (Sto.set w1 ⟨w.heap.size, 5, none⟩ (.int .i64 v)).far hR (by show w.heap.size + 1 ≠ w.heap.size; omega) (Nat.le_refl _)
    go_upto_region 21 with fail
    go_wp2_with (first | (refine wpList_load_blk hC2 row_conf13 rfl rfl rfl rfl ?_; go_simp) | (refine wpList_store_blk hR2 row_conf13 rfl rfl rfl rfl rfl rfl (by kernel_rfl) ?_; intro w3 hR3 hS3; go_simp))
    exact bodyPost_ret (results_c hR3 row_conf13 rfl Tryz.results6 rfl) rfl ⟨rfl, hS3.below (hC2.later) (by omega)⟩
  · as_aux_lemma =>
    have c0 := hC.cell 6
    have f0 := hC.free 6
    have hC2 := hC.set_ 6 (.int .i64 v)
    have hR2 := (Sto.set w1 ⟨w.heap.size, 6, none⟩ (.int .i64 v)).far hR (by show w.heap.size + 1 ≠ w.heap.size; omega) (Nat.le_refl _)
    go_upto_region 21 with fail
    go_wp2_with (first | (refine wpList_load_blk hC2 row_conf13 rfl rfl rfl rfl ?_; go_simp) | (refine wpList_store_blk hR2 row_conf13 rfl rfl rfl rfl rfl rfl (by kernel_rfl) ?_; intro w3 hR3 hS3; go_simp))
    exact bodyPost_ret (results_c hR3 row_conf13 rfl Tryz.results6 rfl) rfl ⟨rfl, hS3.below (hC2.later) (by omega)⟩
  · as_aux_lemma =>
    have c0 := hC.cell 7
    have f0 := hC.free 7
    have hC2 := hC.set_ 7 (.int .i64 v)
    have hR2 := (Sto.set w1 ⟨w.heap.size, 7, none⟩ (.int .i64 v)).far hR (by show w.heap.size + 1 ≠ w.heap.size; omega) (Nat.le_refl _)
    go_upto_region 21 with fail
    go_wp2_with (first | (refine wpList_load_blk hC2 row_conf13 rfl rfl rfl rfl ?_; go_simp) | (refine wpList_store_blk hR2 row_conf13 rfl rfl rfl rfl rfl rfl (by kernel_rfl) ?_; intro w3 hR3 hS3; go_simp))
    exact bodyPost_ret (results_c hR3 row_conf13 rfl Tryz.results6 rfl) rfl ⟨rfl, hS3.below (hC2.later) (by omega)⟩
  · as_aux_lemma =>
    have c0 := hC.cell 8
    have f0 := hC.free 8
    have hC2 := hC.set_ 8 (.int .i64 v)
    have hR2 := (Sto.set w1 ⟨w.heap.size, 8, none⟩ (.int .i64 v)).far hR (by show w.heap.size + 1 ≠ w.heap.size; omega) (Nat.le_refl _)
    go_upto_region 21 with fail
    go_wp2_with (first | (refine wpList_load_blk hC2 row_conf13 rfl rfl rfl rfl ?_; go_simp) | (refine wpList_store_blk hR2 row_conf13 rfl rfl rfl rfl rfl rfl (by kernel_rfl) ?_; intro w3 hR3 hS3; go_simp))
    exact bodyPost_ret (results_c hR3 row_conf13 rfl Tryz.results6 rfl) rfl ⟨rfl, hS3.below (hC2.later) (by omega)⟩
  · as_aux_lemma =>
    have c0 := hC.cell 9
    have f0 := hC.free 9
    have hC2 := hC.set_ 9 (.int .i64 v)
    have hR2 := (Sto.set w1 ⟨w.heap.size, 9, none⟩ (.int .i64 v)).far hR (by show w.heap.size + 1 ≠ w.heap.size; omega) (Nat.le_refl _)
    go_upto_region 21 with fail
    go_wp2_with (first | (refine wpList_load_blk hC2 row_conf13 rfl rfl rfl rfl ?_; go_simp) | (refine wpList_store_blk hR2 row_conf13 rfl rfl rfl rfl rfl rfl (by kernel_rfl) ?_; intro w3 hR3 hS3; go_simp))
    exact bodyPost_ret (results_c hR3 row_conf13 rfl Tryz.results6 rfl) rfl ⟨rfl, hS3.below (hC2.later) (by omega)⟩
  · as_aux_lemma =>
    have c0 := hC.cell 0
    have f0 := hC.free 0
    have hC2 := hC.set_ 0 (.string t)
    have hR2 := (Sto.set w1 ⟨w.heap.size, 0, none⟩ (.string t)).far hR (by show w.heap.size + 1 ≠ w.heap.size; omega) (Nat.le_refl _)
    go_upto_region 21 with fail
    go_wp2_with (first | (refine wpList_load_blk hC2 row_conf13 rfl rfl rfl rfl ?_; go_simp) | (refine wpList_store_blk hR2 row_conf13 rfl rfl rfl rfl rfl rfl (by kernel_rfl) ?_; intro w3 hR3 hS3; go_simp))
    exact bodyPost_ret (results_c hR3 row_conf13 rfl Tryz.results6 rfl) rfl ⟨rfl, hS3.below (hC2.later) (by omega)⟩
  · as_aux_lemma =>
    have c0 := hC.cell 1
    have f0 := hC.free 1
    have hC2 := hC.set_ 1 (.string t)
    have hR2 := (Sto.set w1 ⟨w.heap.size, 1, none⟩ (.string t)).far hR (by show w.heap.size + 1 ≠ w.heap.size; omega) (Nat.le_refl _)
    go_upto_region 21 with fail
    go_wp2_with (first | (refine wpList_load_blk hC2 row_conf13 rfl rfl rfl rfl ?_; go_simp) | (refine wpList_store_blk hR2 row_conf13 rfl rfl rfl rfl rfl rfl (by kernel_rfl) ?_; intro w3 hR3 hS3; go_simp))
    exact bodyPost_ret (results_c hR3 row_conf13 rfl Tryz.results6 rfl) rfl ⟨rfl, hS3.below (hC2.later) (by omega)⟩
  · as_aux_lemma =>
    have c0 := hC.cell 2
    have f0 := hC.free 2
    have hC2 := hC.set_ 2 (.string t)
    have hR2 := (Sto.set w1 ⟨w.heap.size, 2, none⟩ (.string t)).far hR (by show w.heap.size + 1 ≠ w.heap.size; omega) (Nat.le_refl _)
    go_upto_region 21 with fail
    go_wp2_with (first | (refine wpList_load_blk hC2 row_conf13 rfl rfl rfl rfl ?_; go_simp) | (refine wpList_store_blk hR2 row_conf13 rfl rfl rfl rfl rfl rfl (by kernel_rfl) ?_; intro w3 hR3 hS3; go_simp))
    exact bodyPost_ret (results_c hR3 row_conf13 rfl Tryz.results6 rfl) rfl ⟨rfl, hS3.below (hC2.later) (by omega)⟩

end Go.Proofs.YtjinbhnpcdlkiaaGreatDoor


namespace Go.Proofs.YtjinbhnpcdlkiaaGreatDoor
open Go.RowKit

theorem cmpDc_zero_iff {x y : Dc} (hx : mayDc x = true) (hy : mayDc y = true) (tx : trimDc x = x) (ty : trimDc y = y) : cmpDc x y = 0 ↔ x = y := by
  have ex := trimDc_canon (mayDc_iff.1 hx).1 (mayDc_iff.1 hx).2.1
  have ey := trimDc_canon (mayDc_iff.1 hy).1 (mayDc_iff.1 hy).2.1
  rw [tx] at ex
  rw [ty] at ey
  exact cmpDc_eq_zero ex ey
theorem cmpDc_trim2 {x y : Dc} (hx : mayDc x = true) (_hy : mayDc y = true) : cmpDc (trimDc x) y = cmpDc x y := cmpDc_trimL (mayDc_iff.1 hx).1 (mayDc_iff.1 hx).2.1
/-- A decimal that is trim is below 0 just if it bears the sign. -/
theorem neg_iff {x : Dc} (hx : mayDc x = true) (tx : trimDc x = x) : cmpDc x Dc.zero < 0 ↔ x.neg = true := by
  have hc := trimDc_canonic (mayDc_iff.1 hx).1 (mayDc_iff.1 hx).2.1
  rw [tx] at hc
  have e0 : Dc.zero.at_ x.s.toNat = 0 := by simp [Dc.at_, Dc.zero, Dc.z, val]
  have e1 : x.at_ x.s.toNat = x.z := by simp [Dc.at_]
  rw [cmpDc_at _ _ x.s.toNat (Nat.le_refl _) (Nat.zero_le _), e0, e1]
  have hv : 0 ≤ val x.l := (val_bd (mayDc_iff.1 hx).1).1
  cases hn : x.neg
  · have : x.z = val x.l := by simp [Dc.z, hn]
    unfold cmpI
    rw [this]
    constructor
    · intro h; split at h <;> (try split at h) <;> omega
    · intro h; cases h
  · have := canonic_neg hc hn
    unfold cmpI
    rw [if_pos this]
    simp
theorem fits_scale {n : Cn} {d : Dc} (h : fitsC n d = true) (h0 : 0 ≤ (trimDc d).s) : (trimDc d).s ≤ n.sc := by
  unfold fitsC at h
  simp only [Bool.and_eq_true, decide_eq_true_eq] at h
  have := parts_len (trimDc d).l (trimDc d).s.toNat
  omega
/-- The number, rounded. -/
def rndR (r : Ru) (d : Dc) : Dc := scaled r.n.sc.toNat (roundZ r.n.md d r.n.sc.toNat)
theorem rndR_may {r : Ru} (hr : r.Ok) (d : Dc) : mayDc (rndR r d) = true := scaled_may _ (by have := hr.sc; have := hr.fc; omega) _
theorem value_eq {r : Ru} (hr : r.Ok) {d : Dc} (hd : mayDc d = true) :
    valueC r d = if cmpDc (rndR r d) r.lo < 0 then (r.lo, 0) else if 0 < cmpDc (rndR r d) r.hi then (r.hi, 0) else (trimDc (rndR r d), 0) := by
  have h1 := hr.sc
  have h2 := hr.fc
  have e : roundDc d r.n.sc r.n.md = (rndR r d, 0) := by
    have := roundDc_in hd r.n.sc.toNat (by omega) r.n.md hr.md
    rw [Int.toNat_of_nonneg h1.1] at this
    exact this
  unfold valueC
  rw [e]
  simp only [if_true]
  unfold clampDc
  rw [rndR_may hr, hr.lo.1, hr.hi.1]
  simp only [Bool.and_self, if_true]
  rw [if_neg hr.row, hr.lo.2.1, hr.hi.2.1]
theorem value_code {r : Ru} (hr : r.Ok) {d : Dc} (hd : mayDc d = true) : (valueC r d).2 = 0 := by
  rw [value_eq hr hd]
  split
  · rfl
  · split <;> rfl
/-- What is within the bounds, and of the scale, is its own value. -/
theorem value_self {r : Ru} (hr : r.Ok) {d : Dc} (hd : mayDc d = true) (td : trimDc d = d) (hs : d.s ≤ r.n.sc) (h1 : ¬ cmpDc d r.lo < 0) (h2 : ¬ 0 < cmpDc d r.hi) : valueC r d = (d, 0) := by
  have hsc := hr.sc
  have hz : cmpDc (rndR r d) d = 0 := round_cmp_same hd r.n.md r.n.sc.toNat (by rw [td]; omega)
  have hm := rndR_may hr d
  have ht : trimDc (rndR r d) = d := by
    refine (cmpDc_zero_iff (mayDc_trim hm) hd (trimDc_idem (mayDc_iff.1 hm).1 (mayDc_iff.1 hm).2.1) td).1 ?_
    rw [cmpDc_trim2 hm hd]; exact hz
  have e1 : cmpDc (rndR r d) r.lo = cmpDc d r.lo := by rw [← cmpDc_trim2 hm hr.lo.1, ht]
  have e2 : cmpDc (rndR r d) r.hi = cmpDc d r.hi := by rw [← cmpDc_trim2 hm hr.hi.1, ht]
  rw [value_eq hr hd, e1, e2, if_neg h1, if_neg h2, ht]
theorem lo_scale {r : Ru} (hr : r.Ok) : r.lo.s ≤ r.n.sc := by
  have := fits_scale hr.lo.2.2 (by rw [hr.lo.2.1]; exact (mayDc_iff.1 hr.lo.1).2.1)
  rwa [hr.lo.2.1] at this
theorem hi_scale {r : Ru} (hr : r.Ok) : r.hi.s ≤ r.n.sc := by
  have := fits_scale hr.hi.2.2 (by rw [hr.hi.2.1]; exact (mayDc_iff.1 hr.hi.1).2.1)
  rwa [hr.hi.2.1] at this
theorem value_lo {r : Ru} (hr : r.Ok) : valueC r r.lo = (r.lo, 0) :=
  value_self hr hr.lo.1 hr.lo.2.1 (lo_scale hr) (by rw [cmpDc_self]; omega) hr.row
theorem value_hi {r : Ru} (hr : r.Ok) : valueC r r.hi = (r.hi, 0) :=
  value_self hr hr.hi.1 hr.hi.2.1 (hi_scale hr) (by have := hr.row; rw [cmpDc_swap]; omega) (by rw [cmpDc_self]; omega)
/-- A value: may be, trim, within the bounds, of the scale. -/
theorem value_in {r : Ru} (hr : r.Ok) {d : Dc} (hd : mayDc d = true) :
    mayDc (valueC r d).1 = true ∧ trimDc (valueC r d).1 = (valueC r d).1 ∧ ¬ cmpDc (valueC r d).1 r.lo < 0 ∧ ¬ 0 < cmpDc (valueC r d).1 r.hi ∧ (valueC r d).1.s ≤ r.n.sc := by
  have hm := rndR_may hr d
  have hrow := hr.row
  rw [value_eq hr hd]
  split
  · exact ⟨hr.lo.1, hr.lo.2.1, by rw [cmpDc_self]; omega, hr.row, lo_scale hr⟩
  · rename_i h1
    split
    · exact ⟨hr.hi.1, hr.hi.2.1, by show ¬ cmpDc r.hi r.lo < 0; rw [cmpDc_swap]; omega, by rw [cmpDc_self]; omega, hi_scale hr⟩
    · rename_i h2
      refine ⟨mayDc_trim hm, trimDc_idem (mayDc_iff.1 hm).1 (mayDc_iff.1 hm).2.1, ?_, ?_, ?_⟩
      · show ¬ cmpDc (trimDc (rndR r d)) r.lo < 0
        rw [cmpDc_trim2 hm hr.lo.1]; exact h1
      · show ¬ 0 < cmpDc (trimDc (rndR r d)) r.hi
        rw [cmpDc_trim2 hm hr.hi.1]; exact h2
      · have := (scaled_trim r.n.sc.toNat (by have := hr.sc; have := hr.fc; omega) (roundZ r.n.md d r.n.sc.toNat)).2
        have := hr.sc
        show (trimDc (rndR r d)).s ≤ r.n.sc
        unfold rndR
        omega
/-- A greater number's value is no less. -/
theorem value_mono {r : Ru} (hr : r.Ok) {x y : Dc} (hx : mayDc x = true) (hy : mayDc y = true) (h : ¬ 0 < cmpDc x y) : ¬ 0 < cmpDc (valueC r x).1 (valueC r y).1 := by
  have hmx := rndR_may hr x
  have hmy := rndR_may hr y
  have hmono : cmpDc (rndR r x) (rndR r y) ≤ 0 := ((round_mono hx hy r.n.md r.n.sc.toNat).1).resolve_left h
  obtain ⟨a1, a2, a3, a4, _⟩ := value_in hr hx
  obtain ⟨b1, b2, b3, b4, _⟩ := value_in hr hy
  rw [value_eq hr hx] at a3 a4 ⊢
  rw [value_eq hr hy] at b3 b4 ⊢
  have hrow := hr.row
  by_cases h1 : cmpDc (rndR r x) r.lo < 0
  · rw [if_pos h1]
    simp only
    rw [cmpDc_swap]
    omega
  · rw [if_neg h1] at a3 a4 ⊢
    by_cases g1 : 0 < cmpDc (rndR r y) r.hi ∧ ¬ cmpDc (rndR r y) r.lo < 0
    · rw [if_neg g1.2, if_pos g1.1]
      exact a4
    · by_cases h2 : 0 < cmpDc (rndR r x) r.hi
      · rw [if_pos h2]
        -- then y's number is above hi too
        have k1 : cmpDc r.hi (rndR r x) ≤ 0 := by rw [cmpDc_swap]; omega
        have k2 := cmpDc_trans k1 hmono
        by_cases g2 : cmpDc (rndR r y) r.lo < 0
        · have k3 : cmpDc r.hi r.lo ≤ 0 := cmpDc_trans k2 (by omega)
          rw [if_pos g2]
          simp only
          omega
        · rw [if_neg g2]
          have g3 : ¬ 0 < cmpDc (rndR r y) r.hi := fun g => g1 ⟨g, g2⟩
          rw [if_neg g3]
          simp only
          have k4 : cmpDc (trimDc (rndR r y)) r.hi = -cmpDc r.hi (trimDc (rndR r y)) := by rw [← cmpDc_swap]
          rw [cmpDc_trim2 hmy hr.hi.1] at k4
          have k5 : cmpDc (rndR r y) r.hi = -cmpDc r.hi (rndR r y) := by rw [← cmpDc_swap]
          omega
      · rw [if_neg h2]
        by_cases g2 : cmpDc (rndR r y) r.lo < 0
        · have k2 := cmpDc_trans hmono (show cmpDc (rndR r y) r.lo ≤ 0 by omega)
          rw [if_pos g2]
          show ¬ 0 < cmpDc (trimDc (rndR r x)) r.lo
          rw [cmpDc_trim2 hmx hr.lo.1]
          omega
        · rw [if_neg g2, if_neg (fun g => g1 ⟨g, g2⟩)]
          show ¬ 0 < cmpDc (trimDc (rndR r x)) (trimDc (rndR r y))
          rw [cmpDc_trim (mayDc_iff.1 hmx).1 (mayDc_iff.1 hmx).2.1 (mayDc_iff.1 hmy).1 (mayDc_iff.1 hmy).2.1]
          omega

end Go.Proofs.YtjinbhnpcdlkiaaGreatDoor


namespace Go.Proofs.YtjinbhnpcdlkiaaGreatDoor
open Go.RowKit

theorem as13_any (b : Bool) (A : Option Addr) (n c : Nat) (s : Int) (w : World) : Calls Tryz.prog 30 #[.agg #[.bool b, .slice A n c, .int .i64 s]] w (RV w (.agg #[.bool b, .slice A n c, .int .i64 s])) := by
  have hX := (Blk.made w w 36 #[.bool b, .slice A n c, .int .i64 s] (Later.refl w) _ rfl).alloc (.cells #[.bool false, .slice none 0 0, .int .i64 0] 28)
  have hR := (Blk.made w (w.alloc (.cells #[.bool b, .slice A n c, .int .i64 s] 36)) 28 #[.bool false, .slice none 0 0, .int .i64 0] ((Later.refl w).alloc _) (w.heap.size + 1) (by simp))
  go_enter Tryz.func30, Tryz.ntmps30
  go_upto_region 1 with fail
  generalize World.alloc (World.alloc w _) _ = w1 at *
  go_wp2_with (first | (refine wpList_load_blk hX row_dec rfl rfl rfl rfl ?_; go_simp) | (refine wpList_store_blk hR row_dec6 rfl rfl rfl rfl rfl rfl (by kernel_rfl) ?_; intro w9 hR9 hS9; go_simp))
  exact bodyPost_ret (results_c hR9 row_dec6 rfl Tryz.results30 rfl) rfl ⟨rfl, hS9.below hR.later (by omega)⟩
def n13 : Cn := ⟨3, 2, 1, 0, 0, 6, 1⟩
def c13 : Cm := ⟨n13, { data := #[48] }, { data := #[57, 57, 46, 53] }, { data := #[48, 46, 53] }, ⟨false, [0], 0⟩, ⟨false, [9, 9, 5], 1⟩, ⟨false, [0, 5], 1⟩⟩
theorem c13_ok : c13.Ok :=
  ⟨⟨by decide, by decide, by decide, by decide, by decide, by decide, by decide⟩,
    ⟨by decide, by kernel_rfl, by decide, by decide, by kernel_rfl⟩, ⟨by decide, by kernel_rfl, by decide, by decide, by kernel_rfl⟩, ⟨by decide, by kernel_rfl, by decide, by decide, by kernel_rfl⟩,
    by decide +kernel, by decide +kernel⟩
theorem v13_1 : valueC c13.ru ⟨false, [7, 2, 5], 2⟩ = (⟨false, [7, 2], 1⟩, 0) := by kernel_rfl
theorem v13_2 : moveC c13.ru ⟨false, [7], 0⟩ (-3) = (⟨false, [5, 5], 1⟩, 0) := by kernel_rfl

end Go.Proofs.YtjinbhnpcdlkiaaGreatDoor


namespace Go.Proofs.YtjinbhnpcdlkiaaGreatDoor
open Go.RowKit
set_option linter.unusedVariables false

set_option maxRecDepth 100000 in
set_option maxHeartbeats 4000000 in
theorem like_any (x y : RuV) (w : World) (hx : x.ok w) (hy : y.ok w) (h : x.r = y.r) :
    Calls Tryz.prog 12 #[.agg x.cs, .agg y.cs] w (RV w (.bool true)) := by
  obtain ⟨r, A1, n1, c1, A2, n2, c2, A3, n3, c3⟩ := x
  obtain ⟨r2, B1, m1, d1, B2, m2, d2, B3, m3, d3⟩ := y
  obtain rfl : r = r2 := h
  obtain ⟨x1, x2, x3⟩ := hx
  obtain ⟨y1, y2, y3⟩ := hy
  unfold RuV.cs
  simp only at x1 x2 x3 y1 y2 y3 ⊢
  have hs1 := Lib.hid (fun W (h1 : IL W A1 n1 c1 r.lo.l) (h2 : IL W B1 m1 d1 r.lo.l) => show Calls Tryz.prog 29 #[.agg #[.bool r.lo.neg, .slice A1 n1 c1, .int .i64 r.lo.s], .agg #[.bool r.lo.neg, .slice B1 m1 d1, .int .i64 r.lo.s]] W (RV W (.bool true)) by
    have := csame_any r.lo.neg r.lo.neg r.lo.s r.lo.s W h1 h2; rwa [show sameDc ⟨r.lo.neg, r.lo.l, r.lo.s⟩ ⟨r.lo.neg, r.lo.l, r.lo.s⟩ = true from sameDc_refl _] at this)
  have hs2 := Lib.hid (fun W (h1 : IL W A2 n2 c2 r.hi.l) (h2 : IL W B2 m2 d2 r.hi.l) => show Calls Tryz.prog 29 #[.agg #[.bool r.hi.neg, .slice A2 n2 c2, .int .i64 r.hi.s], .agg #[.bool r.hi.neg, .slice B2 m2 d2, .int .i64 r.hi.s]] W (RV W (.bool true)) by
    have := csame_any r.hi.neg r.hi.neg r.hi.s r.hi.s W h1 h2; rwa [show sameDc ⟨r.hi.neg, r.hi.l, r.hi.s⟩ ⟨r.hi.neg, r.hi.l, r.hi.s⟩ = true from sameDc_refl _] at this)
  have hs3 := Lib.hid (fun W (h1 : IL W A3 n3 c3 r.st.l) (h2 : IL W B3 m3 d3 r.st.l) => show Calls Tryz.prog 29 #[.agg #[.bool r.st.neg, .slice A3 n3 c3, .int .i64 r.st.s], .agg #[.bool r.st.neg, .slice B3 m3 d3, .int .i64 r.st.s]] W (RV W (.bool true)) by
    have := csame_any r.st.neg r.st.neg r.st.s r.st.s W h1 h2; rwa [show sameDc ⟨r.st.neg, r.st.l, r.st.s⟩ ⟨r.st.neg, r.st.l, r.st.s⟩ = true from sameDc_refl _] at this)
  have hX := (Blk.made w w 39 #[.bool r.lo.neg, .slice A1 n1 c1, .int .i64 r.lo.s, .bool r.hi.neg, .slice A2 n2 c2, .int .i64 r.hi.s, .bool r.st.neg, .slice A3 n3 c3, .int .i64 r.st.s, .bool r.sg, .int .i64 r.n.ic, .int .i64 r.n.fc, .int .i64 r.n.sc, .int .i64 r.n.mi, .int .i64 r.n.mf, .int .i64 r.n.md, .int .i64 r.n.hs] (Later.refl w) _ rfl).alloc (.cells #[.bool r.lo.neg, .slice B1 m1 d1, .int .i64 r.lo.s, .bool r.hi.neg, .slice B2 m2 d2, .int .i64 r.hi.s, .bool r.st.neg, .slice B3 m3 d3, .int .i64 r.st.s, .bool r.sg, .int .i64 r.n.ic, .int .i64 r.n.fc, .int .i64 r.n.sc, .int .i64 r.n.mi, .int .i64 r.n.mf, .int .i64 r.n.md, .int .i64 r.n.hs] 48)
  have hY := (Blk.made w (w.alloc (.cells #[.bool r.lo.neg, .slice A1 n1 c1, .int .i64 r.lo.s, .bool r.hi.neg, .slice A2 n2 c2, .int .i64 r.hi.s, .bool r.st.neg, .slice A3 n3 c3, .int .i64 r.st.s, .bool r.sg, .int .i64 r.n.ic, .int .i64 r.n.fc, .int .i64 r.n.sc, .int .i64 r.n.mi, .int .i64 r.n.mf, .int .i64 r.n.md, .int .i64 r.n.hs] 39)) 48 #[.bool r.lo.neg, .slice B1 m1 d1, .int .i64 r.lo.s, .bool r.hi.neg, .slice B2 m2 d2, .int .i64 r.hi.s, .bool r.st.neg, .slice B3 m3 d3, .int .i64 r.st.s, .bool r.sg, .int .i64 r.n.ic, .int .i64 r.n.fc, .int .i64 r.n.sc, .int .i64 r.n.mi, .int .i64 r.n.mf, .int .i64 r.n.md, .int .i64 r.n.hs] ((Later.refl w).alloc _) (w.heap.size + 1) (by simp))
  go_enter Tryz.func12, Tryz.ntmps12
  go_upto_region 1 with fail
  have hL : Later w (World.alloc (World.alloc w (.cells #[.bool r.lo.neg, .slice A1 n1 c1, .int .i64 r.lo.s, .bool r.hi.neg, .slice A2 n2 c2, .int .i64 r.hi.s, .bool r.st.neg, .slice A3 n3 c3, .int .i64 r.st.s, .bool r.sg, .int .i64 r.n.ic, .int .i64 r.n.fc, .int .i64 r.n.sc, .int .i64 r.n.mi, .int .i64 r.n.mf, .int .i64 r.n.md, .int .i64 r.n.hs] 39)) (.cells #[.bool r.lo.neg, .slice B1 m1 d1, .int .i64 r.lo.s, .bool r.hi.neg, .slice B2 m2 d2, .int .i64 r.hi.s, .bool r.st.neg, .slice B3 m3 d3, .int .i64 r.st.s, .bool r.sg, .int .i64 r.n.ic, .int .i64 r.n.fc, .int .i64 r.n.sc, .int .i64 r.n.mi, .int .i64 r.n.mf, .int .i64 r.n.md, .int .i64 r.n.hs] 48)) := hX.later
  generalize World.alloc (World.alloc w _) _ = w1 at *
  have k9 := fun s : Ext w1 => Ext.cell (show w1.cell? ⟨w.heap.size, 9, none⟩ = some (.bool r.sg) from hX.cell 9) s
  have k9' := fun s : Ext w1 => Ext.cell (show w1.cell? ⟨w.heap.size + 1, 9, none⟩ = some (.bool r.sg) from hY.cell 9) s
  refine wp_region_ext (by kernel_rfl) (by kernel_rfl) ?_
  repeat (first
    | (go_big_quiet_want; refine quiet_load_of hX 10 [.int .i64 r.n.ic, .int .i64 r.n.fc, .int .i64 r.n.sc, .int .i64 r.n.mi, .int .i64 r.n.mf, .int .i64 r.n.md, .int .i64 r.n.hs] rfl row_limits rfl rfl rfl ?_; go_simp; go_big_quiet_on)
    | (go_big_quiet_want; refine quiet_load_of hX 0 [.bool r.lo.neg, .slice A1 n1 c1, .int .i64 r.lo.s] rfl row_dec rfl rfl rfl ?_; go_simp; go_big_quiet_on)
    | (go_big_quiet_want; refine quiet_load_of hX 3 [.bool r.hi.neg, .slice A2 n2 c2, .int .i64 r.hi.s] rfl row_dec rfl rfl rfl ?_; go_simp; go_big_quiet_on)
    | (go_big_quiet_want; refine quiet_load_of hX 6 [.bool r.st.neg, .slice A3 n3 c3, .int .i64 r.st.s] rfl row_dec rfl rfl rfl ?_; go_simp; go_big_quiet_on)
    | (go_big_quiet_want; refine quiet_load_of hY 10 [.int .i64 r.n.ic, .int .i64 r.n.fc, .int .i64 r.n.sc, .int .i64 r.n.mi, .int .i64 r.n.mf, .int .i64 r.n.md, .int .i64 r.n.hs] rfl row_limits13 rfl rfl rfl ?_; go_simp; go_big_quiet_on)
    | (go_big_quiet_want; refine quiet_load_of hY 0 [.bool r.lo.neg, .slice B1 m1 d1, .int .i64 r.lo.s] rfl row_dec6 rfl rfl rfl ?_; go_simp; go_big_quiet_on)
    | (go_big_quiet_want; refine quiet_load_of hY 3 [.bool r.hi.neg, .slice B2 m2 d2, .int .i64 r.hi.s] rfl row_dec6 rfl rfl rfl ?_; go_simp; go_big_quiet_on)
    | (go_big_quiet_want; refine quiet_load_of hY 6 [.bool r.st.neg, .slice B3 m3 d3, .int .i64 r.st.s] rfl row_dec6 rfl rfl rfl ?_; go_simp; go_big_quiet_on)
    | (go_big_quiet_step (first
      | (go_at_call 30; exact quiet_ext _ (as13_any _ _ _ _ _ _))
      | (go_at_call 29; with_reducible exact quiet_ext _ (hs1.out _ ((x1.later hL).ext _) ((y1.later hL).ext _)))
      | (go_at_call 29; with_reducible exact quiet_ext _ (hs2.out _ ((x2.later hL).ext _) ((y2.later hL).ext _)))
      | (go_at_call 29; exact quiet_ext _ (hs3.out _ ((x3.later hL).ext _) ((y3.later hL).ext _))))))
  refine wpQuiet_nil ?_
  rintro _ ⟨s, rfl⟩
  go_wp2_with fail
  go_ret
  exact ⟨rfl, hX.later.call s.h⟩

end Go.Proofs.YtjinbhnpcdlkiaaGreatDoor


namespace Go.Proofs.YtjinbhnpcdlkiaaGreatDoor
open Go.RowKit

theorem lives13_p1 : bs (printL ⟨false, [7, 2], 1⟩) = { data := #[55, 46, 50] } := by rfl
theorem lives13_p2 : bs (printL ⟨false, [5, 5], 1⟩) = { data := #[53, 46, 53] } := by rfl
theorem built13_n : Tryz.prog.built 37 [(0, .int .i64 3), (1, .int .i64 2), (2, .int .i64 1), (5, .int .i64 6), (6, .int .i64 1)] = some #[.int .i64 3, .int .i64 2, .int .i64 1, .int .i64 0, .int .i64 0, .int .i64 6, .int .i64 1] := by kernel_rfl
theorem built13_c : Tryz.prog.built 45 [(0, .string { data := #[48] }), (1, .string { data := #[57, 57, 46, 53] }), (2, .string { data := #[48, 46, 53] }), (3, .agg #[.int .i64 3, .int .i64 2, .int .i64 1, .int .i64 0, .int .i64 0, .int .i64 6, .int .i64 1])] = some c13.cs := by kernel_rfl
set_option maxRecDepth 100000 in
set_option maxHeartbeats 4000000 in
theorem lives13_any (w : World) : Calls Tryz.prog 15 #[] w (RV w (.bool true)) := by
  have hcn := Lib.hid (fun W => c13_ok.cnew W)
  have hbd := Lib.hid c13_ok.ruBd
  have hb1 := built13_n
  have hb2 := built13_c
  have v1 := Lib.hid v13_1
  have v2 := Lib.hid v13_2
  generalize c13.ru = R at *
  generalize c13.cs = CC at *
  go_enter Tryz.func15, Tryz.ntmps15
  go_wp2_with (first | (refine wpList_build_ _ _ rfl rfl ?_ hb1 ?_; (exact rfl); go_simp) | (refine wpList_build_ _ _ rfl rfl ?_ hb2 ?_; (exact rfl); go_simp))
  refine (hcn.out _).mono ?_
  rintro e w1 ⟨y, rfl, hyr, hyok, hB1, hyf⟩
  have v1 : Hid (valueC y.r ⟨false, [7, 2, 5], 2⟩ = (⟨false, [7, 2], 1⟩, 0)) := by rw [Hid, hyr]; exact v1.out
  have v2 : Hid (moveC y.r ⟨false, [7], 0⟩ (-3) = (⟨false, [5, 5], 1⟩, 0)) := by rw [Hid, hyr]; exact v2.out
  have hbd : Hid y.r.Bd := by rw [Hid, hyr]; exact hbd.out
  have hva := Lib.hid (fun (A : Option Addr) (n c : Nat) W (hW : y.ok W) (hI : IL W A n c [7, 2, 5]) => show Calls Tryz.prog 31 #[.agg y.cs, .agg #[.bool false, .slice A n c, .int .i64 2]] W (RCE W ⟨false, [7, 2], 1⟩ 0) by
    have e1 := hI.len
    simp at e1
    have := cvalue_any y ⟨false, [7, 2, 5], 2⟩ W hW hI hbd.out (I64_lit rfl) ⟨by decide, by decide⟩ (by omega)
    rw [v1.out] at this
    exact this)
  have hmo := Lib.hid (fun (A : Option Addr) (n c : Nat) W (hW : y.ok W) (hI : IL W A n c [7]) => show Calls Tryz.prog 32 #[.agg y.cs, .agg #[.bool false, .slice A n c, .int .i64 0], .int .i64 (-3)] W (RCE W ⟨false, [5, 5], 1⟩ 0) by
    have e1 := hI.len
    simp at e1
    have := cmove_any y ⟨false, [7], 0⟩ (-3) W hW hI hbd.out (I64_lit rfl) ⟨by decide, by decide⟩ (by omega) (by omega)
    rw [v2.out] at this
    exact this)
  have hp1 := Lib.hid (fun (A : Option Addr) (n c : Nat) W (h1 : IL W A n c [7, 2]) => show Calls Tryz.prog 33 #[.agg #[.bool false, .slice A n c, .int .i64 1]] W (RV W (.string { data := #[55, 46, 50] })) by
    have e1 := h1.len
    simp at e1
    have := cprint_any false 1 W h1 (I64_lit rfl) (by omega) (by omega)
    rw [lives13_p1] at this
    exact this)
  have hp2 := Lib.hid (fun (A : Option Addr) (n c : Nat) W (h1 : IL W A n c [5, 5]) => show Calls Tryz.prog 33 #[.agg #[.bool false, .slice A n c, .int .i64 1]] W (RV W (.string { data := #[53, 46, 53] })) by
    have e1 := h1.len
    simp at e1
    have := cprint_any false 1 W h1 (I64_lit rfl) (by omega) (by omega)
    rw [lives13_p2] at this
    exact this)
  clear hb1 hb2 hcn hbd v1 v2 hyr
  have hL1 : Later w w1 := hB1
  have hY0 := Blk.made w w1 39 #[.bool false, .slice none 0 0, .int .i64 0, .bool false, .slice none 0 0, .int .i64 0, .bool false, .slice none 0 0, .int .i64 0, .bool false, .int .i64 0, .int .i64 0, .int .i64 0, .int .i64 0, .int .i64 0, .int .i64 0, .int .i64 0] hL1 _ rfl
  go_upto_region 2 with (refine wpList_store_blk hY0 row_rules rfl rfl rfl rfl rfl rfl (by kernel_rfl) ?_; intro w2 hY hS2; go_simp)
  have hy2 := (hyok.later ((Later.refl w1).alloc (.cells #[.bool false, .slice none 0 0, .int .i64 0, .bool false, .slice none 0 0, .int .i64 0, .bool false, .slice none 0 0, .int .i64 0, .bool false, .int .i64 0, .int .i64 0, .int .i64 0, .int .i64 0, .int .i64 0, .int .i64 0, .int .i64 0] 39))).sto hS2 (hyok.apart (Nat.le_refl _))
  clear hY0 hS2 hyok hyf hL1 hB1
  generalize w1.heap.size = gy at *
  have hY' := fun o => hY.alloc o
  go_wp2_with (first | (refine wpList_load_blk hY row_rules rfl rfl rfl rfl ?_; go_simp))
  refine (hva.out _ _ _ _ (hy2.later ((Later.refl w2).alloc _)) (IL.one3 w2 3 7 2 5 _ rfl)).mono ?_
  rintro e w3 ⟨A3, n3, c3, rfl, hI3, hB3, _⟩
  have hY3 := ((hY.alloc (.cells #[.int .i64 7, .int .i64 2, .int .i64 5] 3)).call hB3).alloc (.cells #[.bool false, .slice A3 n3 c3, .int .i64 1] 36)
  have hy3 := ((hy2.later ((Later.refl w2).alloc (.cells #[.int .i64 7, .int .i64 2, .int .i64 5] 3))).later hB3).later ((Later.refl w3).alloc (.cells #[.bool false, .slice A3 n3 c3, .int .i64 1] 36))
  have hP3 := Blk.made w w3 36 #[.bool false, .slice A3 n3 c3, .int .i64 1] ((hY.alloc (.cells #[.int .i64 7, .int .i64 2, .int .i64 5] 3)).call hB3).later _ rfl
  have hI3' := hI3.alloc (.cells #[.bool false, .slice A3 n3 c3, .int .i64 1] 36)
  clear hY' hY hy2 hva hI3
  go_upto_region 5 with fail
  generalize World.alloc w3 _ = w4 at *
  clear hB3
  generalize w3.heap.size = g3 at *
  go_wp2_with (first | (refine wpList_load_blk hY3 row_rules rfl rfl rfl rfl ?_; go_simp))
  refine (hmo.out _ _ _ _ (hy3.later ((Later.refl w4).alloc _)) (IL.one1 w4 3 7 _ rfl)).mono ?_
  rintro e w5 ⟨A5, n5, c5, rfl, hI5, hB5, _⟩
  have hP5 := ((hP3.alloc (.cells #[.int .i64 7] 3)).call hB5).alloc (.cells #[.bool false, .slice A5 n5 c5, .int .i64 1] 36)
  have hI3b := ((hI3'.alloc (.cells #[.int .i64 7] 3)).below hB5).alloc (.cells #[.bool false, .slice A5 n5 c5, .int .i64 1] 36)
  have hQ5 := Blk.made w w5 36 #[.bool false, .slice A5 n5 c5, .int .i64 1] ((hP3.alloc (.cells #[.int .i64 7] 3)).call hB5).later _ rfl
  have hI5' := hI5.alloc (.cells #[.bool false, .slice A5 n5 c5, .int .i64 1] 36)
  clear hY3 hy3 hmo hI3' hP3 hI5
  go_upto_region 6 with fail
  generalize World.alloc w5 _ = w6 at *
  clear hB5
  generalize w5.heap.size = g5 at *
  obtain ⟨⟨p0, p1, p2⟩, _⟩ := hP5.cells3
  go_wp2_with fail
  refine (hp1.out _ _ _ _ hI3b).mono ?_
  rintro e w7 ⟨rfl, hB7⟩
  have hQ7 := hQ5.call hB7
  have hI7 := hI5'.below hB7
  clear p0 p1 p2 hP5 hQ5 hI3b hI5' hp1
  obtain ⟨⟨p0, p1, p2⟩, _⟩ := hQ7.cells3
  go_wp2_with fail
  refine (hp2.out _ _ _ _ hI7).mono ?_
  rintro e w8 ⟨rfl, hB8⟩
  go_wp2_with fail
  go_ret
  exact ⟨rfl, (hQ7.call hB8).later⟩

end Go.Proofs.YtjinbhnpcdlkiaaGreatDoor

