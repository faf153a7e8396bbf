/- The walk of the document's rounding. No condition. -/
import Derived.Test.YtickhmlhciafgaaGreatMa36
import Derived.Test.YtickhmlhciafgaaGreatMa11
import Derived.Test.YtickhmlhciafgaaGreatMa13
namespace Go.Proofs.YtickhmlhciafgaaGreat
open Go.RowKit

set_option maxRecDepth 100000 in
set_option maxHeartbeats 8000000 in
theorem rrto_any {A : Option Addr} {n c : Nat} {l : List Int} (b : Bool) (s k m : Int) (w : World) (h : IL w A n c l) (_hl : I64 l) (hs : -9223372036854775808 ≤ s ∧ s ≤ 9223372036854775807) (hk : -9223372036854775808 ≤ k ∧ k ≤ 9223372036854775807)
    (hm : -9223372036854775808 ≤ m ∧ m ≤ 9223372036854775807) (hn : n ≤ 3000) :
    Calls Tryz.prog 53 #[.agg #[.bool b, .slice A n c, .int .i64 s], .int .i64 k, .int .i64 m] w (RCE w (roundDc ⟨b, l, s⟩ k m).1 (roundDc ⟨b, l, s⟩ k m).2) := by
  have m1 := Lib.hid (fun W hW => rcmay_any (A := A) (n := n) (c := c) (l := l) b s W hW hs)
  have hAD : Hid (roundDc ⟨b, l, s⟩ k m = if mayDc ⟨b, l, s⟩ && decide (0 ≤ m) && decide (m ≤ 6) then (if k < 0 ∨ 1000 < k then (Dc.zero, 3) else (scaled k.toNat (roundZ m ⟨b, l, s⟩ k.toNat), 0)) else (Dc.zero, 1)) := rfl
  have el := h.len
  have hX0 := (Blk.made w w 24 #[.bool b, .slice A n c, .int .i64 s] (Later.refl w) _ rfl).alloc (.cells #[.bool false, .slice none 0 0, .int .i64 0] 24)
  have hR0 := Blk.made w (w.alloc (.cells #[.bool b, .slice A n c, .int .i64 s] 24)) 24 #[.bool false, .slice none 0 0, .int .i64 0] ((Later.refl w).alloc _) (w.heap.size + 1) (by simp)
  generalize roundDc ⟨b, l, s⟩ k m = D at *
  cases hm1 : mayDc ⟨b, l, s⟩
  · rw [hm1] at m1
    have HD : Hid (D = (Dc.zero, 1)) := by rw [Hid, hAD.out, hm1]; rfl
    clear hm1 hAD
    go_enter Tryz.func53, Tryz.ntmps53
    go_wp2_with fail
    refine (m1.out _ ((h.alloc _).alloc _)).mono ?_
    rintro e w1 ⟨rfl, hB1⟩
    have hR := hR0.call hB1
    obtain ⟨⟨r0, r1, r2⟩, ⟨r3, r4, r5⟩⟩ := hR.cells3
    go_wp2_with fail
    rw [HD.out]
    obtain ⟨⟨z0, z1, z2⟩, _⟩ := (hR.store3 (.bool false) (.slice none 0 0) (.int .i64 0)).cells3
    exact bodyPost_ret (v := .tuple #[.agg #[.bool false, .slice none 0 0, .int .i64 0], .int .i64 1]) (by generalize World.setCell (World.setCell (World.setCell _ _ _) _ _) _ _ = W3 at z0 z1 z2 ⊢; simp [results, Tryz.results53, go_sem, z0, z1, z2]) rfl
      ⟨none, 0, 0, rfl, IL.nil _, below_set3 hR.later (by omega) _ _ _, none_new _⟩
  · rw [hm1] at m1
    by_cases hmm : 0 ≤ m ∧ m ≤ 6
    · have hm0 : ¬ m < 0 := by omega
      have hm6 : ¬ 6 < m := by omega
      by_cases hkk : k < 0 ∨ 1000 < k
      · have HD : Hid (D = (Dc.zero, 3)) := by
          rw [Hid, hAD.out, hm1, if_pos hkk, if_pos]
          simp
          omega
        clear hAD hm1
        go_enter Tryz.func53, Tryz.ntmps53
        go_wp2_with fail
        refine (m1.out _ ((h.alloc _).alloc _)).mono ?_
        rintro e w1 ⟨rfl, hB1⟩
        have hR := hR0.call hB1
        obtain ⟨⟨r0, r1, r2⟩, ⟨r3, r4, r5⟩⟩ := hR.cells3
        rcases hkk with hkk | hkk
        · go_wp2_with fail
          rw [HD.out]
          obtain ⟨⟨z0, z1, z2⟩, _⟩ := (hR.store3 (.bool false) (.slice none 0 0) (.int .i64 0)).cells3
          exact bodyPost_ret (v := .tuple #[.agg #[.bool false, .slice none 0 0, .int .i64 0], .int .i64 3]) (by generalize World.setCell (World.setCell (World.setCell _ _ _) _ _) _ _ = W3 at z0 z1 z2 ⊢; simp [results, Tryz.results53, go_sem, z0, z1, z2]) rfl
            ⟨none, 0, 0, rfl, IL.nil _, below_set3 hR.later (by omega) _ _ _, none_new _⟩
        · have hk0 : ¬ k < 0 := by omega
          go_wp2_with fail
          rw [HD.out]
          obtain ⟨⟨z0, z1, z2⟩, _⟩ := (hR.store3 (.bool false) (.slice none 0 0) (.int .i64 0)).cells3
          exact bodyPost_ret (v := .tuple #[.agg #[.bool false, .slice none 0 0, .int .i64 0], .int .i64 3]) (by generalize World.setCell (World.setCell (World.setCell _ _ _) _ _) _ _ = W3 at z0 z1 z2 ⊢; simp [results, Tryz.results53, go_sem, z0, z1, z2]) rfl
            ⟨none, 0, 0, rfl, IL.nil _, below_set3 hR.later (by omega) _ _ _, none_new _⟩
      · obtain ⟨K, rfl⟩ := Int.eq_ofNat_of_zero_le (show 0 ≤ k by omega)
        have hK : K ≤ 1000 := by omega
        have HD : Hid (D = (scaled K (roundZ m ⟨b, l, s⟩ K), 0)) := by
          rw [Hid, hAD.out, hm1, if_neg hkk, if_pos]
          · simp
          · simp; omega
        obtain ⟨hml, hs0, hs1⟩ := mayDc_iff.1 hm1
        simp only at hml hs0 hs1
        have hk0 : ¬ ((K : Int) < 0) := by omega
        have hk1 : ¬ (1000 < (K : Int)) := by omega
        have hnear := Lib.hid (fun W hW => near_any (A := A) (n := n) (c := c) (l := l) b s K W hW hml hs0 hs1 hK (by omega))
        have hlc := low_cmp (d := ⟨b, l, s⟩) hml K
        have hrl := round_low (d := ⟨b, l, s⟩) K m
        have hru := round_up (d := ⟨b, l, s⟩) K m
        have hfc := far_cmp (d := ⟨b, l, s⟩) hm1 K hK
        have hlo := low_odd (d := ⟨b, l, s⟩) hml K
        have hll := low_len (d := ⟨b, l, s⟩) hml (M := 3000) (by simp only; omega) K
        have hul := up_len (d := ⟨b, l, s⟩) hml (M := 3000) (by simp only; omega) K
        have hup := upper_eq ⟨b, l, s⟩ K hK
        have hac := align_canon K hK (upZ ⟨b, l, s⟩ K)
        have hsl := scaled_may K hK (lowZ ⟨b, l, s⟩ K)
        have hsu := scaled_may K hK (upZ ⟨b, l, s⟩ K)
        have hdl : (scaled K (lowZ ⟨b, l, s⟩ K)).l = digs (lowZ ⟨b, l, s⟩ K) := rfl
        have hdu : (scaled K (upZ ⟨b, l, s⟩ K)).l = digs (upZ ⟨b, l, s⟩ K) := rfl
        have hls : (scaled K (lowZ ⟨b, l, s⟩ K)).s = (K : Int) := rfl
        have hus : (scaled K (upZ ⟨b, l, s⟩ K)).s = (K : Int) := rfl
        rw [← hdl] at hlo hll
        rw [← hdu] at hul
        simp only at hlc hrl hru hfc hup hlo
        generalize lowZ ⟨b, l, s⟩ K = lo at *
        generalize upZ ⟨b, l, s⟩ K = up at *
        generalize val l * 10 ^ (max s.toNat K - s.toNat) % 10 ^ (max s.toNat K - K) = rr at *
        generalize (val l * 10 ^ (max s.toNat K - s.toNat) / 10 ^ (max s.toNat K - K) % 2 == 1) = ob at *
        have hccb0 := cmpI_bd (2 * rr) (10 ^ (max s.toNat K - K))
        generalize cmpI (2 * rr) (10 ^ (max s.toNat K - K)) = cc at *
        have hcl : (canon K up).l.length ≤ 4002 := by
          have hv := val_bd (mayL_digs up)
          have hp := pow_le hul
          rw [val_digs] at hv
          rw [hdu] at hp
          have e2 : ((up.natAbs : Nat) : Int) < ((10 ^ (3000 + K + 1) : Nat) : Int) := by push_cast; omega
          have e3 : up.natAbs < 10 ^ (3000 + K + 1) := by exact_mod_cast e2
          exact Nat.le_trans (canon_len e3) (by omega)
        have hcs := (canonic K up).lo
        have hcs2 := (canonic K up).hi
        have hcm := (canonic K up).may
        have hLm := (mayDc_iff.1 hsl).1
        have hUm := (mayDc_iff.1 hsu).1
        have hol : (oneDc b K).l.length ≤ 10 := by simp [oneDc]
        have hos : 0 ≤ (oneDc b K).s ∧ (oneDc b K).s ≤ 1000 := by simp [oneDc]; omega
        generalize hLg : scaled K lo = L at *
        generalize hUg : scaled K up = U at *
        generalize canon K up = Sm at *
        have hone := Lib.hid (fun W => one_any b K W)
        generalize oneDc b K = O at *
        have hadd1 := Lib.hid (fun A n c A2 n2 c2 W (h1 : IL W A n c L.l) (h2 : IL W A2 n2 c2 O.l) => show Calls Tryz.prog 64 #[.agg #[.bool L.neg, .slice A n c, .int .i64 L.s], .agg #[.bool O.neg, .slice A2 n2 c2, .int .i64 O.s]] W (RCE W Sm 0) by
          have := rcadd_any L.neg O.neg L.s O.s W h1 h2 (by have := h1.len; omega) (by have := h2.len; omega) (by omega) (by omega)
          rw [show (⟨L.neg, L.l, L.s⟩ : Dc) = L from rfl, show (⟨O.neg, O.l, O.s⟩ : Dc) = O from rfl, hup] at this
          exact this)
        have halg := Lib.hid (fun A n c W (h1 : IL W A n c Sm.l) => show Calls Tryz.prog 94 #[.agg #[.bool Sm.neg, .slice A n c, .int .i64 Sm.s], .int .i64 (K : Int)] W (RCE W U 0) by
          have := rcalign_any Sm.neg Sm.s (K : Int) W h1 (I64_of_may hcm) (by omega) (by omega) (by have := h1.len; omega)
          rw [show (⟨Sm.neg, Sm.l, Sm.s⟩ : Dc) = Sm from rfl, hac] at this
          exact this)
        obtain ⟨Fr, hFrl, hFrm, hFrs, hFre, hadd2⟩ : ∃ Fr : Dc, Fr.l.length ≤ 6000 ∧ mayL Fr.l = true ∧ (0 ≤ Fr.s ∧ Fr.s ≤ 1000) ∧ (addDc ⟨b, l, s⟩ (minusDc L)).1 = Fr ∧ Hid (∀ A n c A2 n2 c2 W, IL W A n c l → IL W A2 n2 c2 L.l → Calls Tryz.prog 64 #[.agg #[.bool b, .slice A n c, .int .i64 s], .agg #[.bool (!L.neg), .slice A2 n2 c2, .int .i64 L.s]] W (RCE W Fr 0)) := by
          refine ⟨(addDc ⟨b, l, s⟩ (minusDc L)).1, ?_, mayL_add _ _, add_s _ _, rfl, fun A n c A2 n2 c2 W h1 h2 => ?_⟩
          · have := add_len (a := ⟨b, l, s⟩) (b := minusDc L) hml hLm (M := 4000) (N := 1000) (by simp only; omega) (by show L.l.length ≤ _; omega) (by simp only; omega) (by show L.s.toNat ≤ _; omega)
            omega
          · have := rcadd_any b (!L.neg) s L.s W h1 h2 (by have := h1.len; omega) (by have := h2.len; omega) hs (by omega)
            rw [show (⟨!L.neg, L.l, L.s⟩ : Dc) = minusDc L from rfl] at this
            have e : addDc ⟨b, l, s⟩ (minusDc L) = ((addDc ⟨b, l, s⟩ (minusDc L)).1, 0) := by
              unfold addDc; rw [hm1, mayDc_minus, hsl]; rfl
            rw [e] at this
            exact this
        obtain ⟨Tt, hTtl, hTtm, hTts, hTte, hadd3⟩ : ∃ Tt : Dc, Tt.l.length ≤ 6000 ∧ mayL Tt.l = true ∧ (0 ≤ Tt.s ∧ Tt.s ≤ 1000) ∧ (addDc U (minusDc ⟨b, l, s⟩)).1 = Tt ∧ Hid (∀ A n c A2 n2 c2 W, IL W A n c U.l → IL W A2 n2 c2 l → Calls Tryz.prog 64 #[.agg #[.bool U.neg, .slice A n c, .int .i64 U.s], .agg #[.bool (!b), .slice A2 n2 c2, .int .i64 s]] W (RCE W Tt 0)) := by
          refine ⟨(addDc U (minusDc ⟨b, l, s⟩)).1, ?_, mayL_add _ _, add_s _ _, rfl, fun A n c A2 n2 c2 W h1 h2 => ?_⟩
          · have := add_len (a := U) (b := minusDc ⟨b, l, s⟩) hUm hml (M := 4001) (N := 1000) (by omega) (by show l.length ≤ _; omega) (by omega) (by show s.toNat ≤ _; omega)
            omega
          · have := rcadd_any U.neg (!b) U.s s W h1 h2 (by have := h1.len; omega) (by have := h2.len; omega) (by omega) hs
            rw [show (⟨!b, l, s⟩ : Dc) = minusDc ⟨b, l, s⟩ from rfl] at this
            have e : addDc U (minusDc ⟨b, l, s⟩) = ((addDc U (minusDc ⟨b, l, s⟩)).1, 0) := by
              unfold addDc; rw [mayDc_minus, hm1, hsu]; rfl
            rw [e] at this
            exact this
        rw [hFre, hTte] at hfc
        have hcmp2 := Lib.hid (fun A n c A2 n2 c2 W (h1 : IL W A n c Fr.l) (h2 : IL W A2 n2 c2 Tt.l) => show Calls Tryz.prog 47 #[.agg #[.bool false, .slice A n c, .int .i64 Fr.s], .agg #[.bool false, .slice A2 n2 c2, .int .i64 Tt.s]] W (RV W (.int .i64 cc)) by
          have := rccompare_any false false Fr.s Tt.s W h1 h2 hFrm hTtm (by have := h1.len; omega) (by have := h2.len; omega) hFrs.1 (by omega) hTts.1 (by omega)
          rw [show (⟨false, Fr.l, Fr.s⟩ : Dc) = absDc Fr from rfl, show (⟨false, Tt.l, Tt.s⟩ : Dc) = absDc Tt from rfl, hfc] at this
          exact this)
        have hc1 := Lib.hid (fun A2 n2 c2 W (h1 : IL W A2 n2 c2 L.l) (h2 : IL W A n c l) => show Calls Tryz.prog 47 #[.agg #[.bool L.neg, .slice A2 n2 c2, .int .i64 L.s], .agg #[.bool b, .slice A n c, .int .i64 s]] W (RV W (.int .i64 (cmpDc L ⟨b, l, s⟩))) from
          rccompare_any L.neg b L.s s W h1 h2 hLm hml (by have := h1.len; omega) (by omega) (by omega) (by omega) hs0 (by omega))
        generalize cmpDc L ⟨b, l, s⟩ = c1 at *
        have hdg : ∀ i, 0 ≤ L.l.getD i 0 ∧ L.l.getD i 0 ≤ 9 := fun i => mayL_getD hLm i
        have hob : Hid ((if 0 < L.l.length then (L.l.getD (L.l.length - 1) 0 % 2 == 1) else false) = ob) := by
          rw [Hid, ← hlo]
          unfold digL
          simp only [Nat.sub_zero]
          split <;> rfl
        have hccb : -1 ≤ cc ∧ cc ≤ 1 := hccb0
        generalize hrd : roundZ m ⟨b, l, s⟩ K = rz at *
        clear hfc hup hac hsl hsu hcl hcs hcs2 hcm hLm hUm hul hml hs0 hs1 hkk hAD hm1 hFre hTte hFrl hTtl hFrm hTtm hFrs hTts hlo hdl hdu hls hus hol hos hccb0
        have hx0 : DB w w.heap.size 24 A n c ⟨b, l, s⟩ _ := ⟨hX0, (h.alloc _).alloc _⟩
        clear hX0
        by_cases hrr : rr = 0
        · have hc0 : c1 = 0 := hlc.2 hrr
          have HD2 : Hid (D = (L, 0)) := by rw [Hid, HD.out, hrl hrr, hLg]
          subst hc0
          clear hlc hrl hru hrr HD hLg hUg hob hdg hrd
          go_enter Tryz.func53, Tryz.ntmps53
          have qx0 := hx0.c0
          have qx1 := hx0.c1
          have qx2 := hx0.c2
          go_wp2_with fail
          refine (m1.out _ hx0.il).mono ?_
          rintro e w1 ⟨rfl, hB1⟩
          clear qx0 qx1 qx2
          have hx1 := hx0.call hB1
          have hr1 := hR0.call hB1
          clear hx0 hR0
          have hRg := hr1.lt
          have qx0 := hx1.c0
          have qx1 := hx1.c1
          have qx2 := hx1.c2
          go_wp2_with fail
          refine (hnear.out _ hx1.il).mono ?_
          rintro e w2 ⟨A2, n2, c2, rfl, hI2, hB2, hN2⟩
          clear qx0 qx1 qx2
          have hx2 := hx1.call hB2
          have hr2 := hr1.call hB2
          clear hx1 hr1
          have hl2 := DB.made w w2 24 hx2.later hI2 _ rfl
          have ql0 := hl2.c0
          have ql1 := hl2.c1
          have ql2 := hl2.c2
          have qx0 := fun o => (hx2.alloc o).c0
          have qx1 := fun o => (hx2.alloc o).c1
          have qx2 := fun o => (hx2.alloc o).c2
          go_wp2_with fail
          refine (hc1.out _ _ _ _ (hI2.alloc _) (hx2.alloc _).il).mono ?_
          rintro e w3 ⟨rfl, hB3⟩
          clear ql0 ql1 ql2 qx0 qx1 qx2
          have hx3 := (hx2.alloc _).call hB3
          have hr3 := (hr2.alloc _).call hB3
          have hl3 := hl2.call hB3
          clear hx2 hr2 hl2
          have ql0 := hl3.c0
          have ql1 := hl3.c1
          have ql2 := hl3.c2
          have hRg1 := hN2
          obtain ⟨⟨r0, r1, r2⟩, ⟨r3, r4, r5⟩⟩ := hr3.cells3
          go_wp2_with fail
          rw [HD2.out]
          obtain ⟨⟨z0, z1, z2⟩, _⟩ := (hr3.store3 (.bool L.neg) (.slice A2 n2 c2) (.int .i64 L.s)).cells3
          exact bodyPost_ret (v := .tuple #[.agg #[.bool L.neg, .slice A2 n2 c2, .int .i64 L.s], .int .i64 0]) (by generalize World.setCell (World.setCell (World.setCell _ _ _) _ _) _ _ = W3 at z0 z1 z2 ⊢; simp [results, Tryz.results53, go_sem, z0, z1, z2]) rfl
            ⟨A2, n2, c2, rfl, hl3.il.set3 (g := w.heap.size + 1) (fun hz a ha => by have := hN2 hz a ha; omega) _ _ _, below_set3 hr3.later (by omega) _ _ _, fun hz a ha => by have := hN2 hz a ha; omega⟩
        · have hc0 : (c1 == (0 : Int)) = false := by simpa using fun q => hrr (hlc.1 q)
          have hc00 : ¬ c1 = 0 := fun q => hrr (hlc.1 q)
          have HD2 : Hid (D = (if awayB m b ob cc then U else L, 0)) := by
            rw [Hid, HD.out, hru hrr]
            split <;> simp [hLg, hUg]
          clear hlc hrl hru hrr HD hLg hUg hrd
          go_enter Tryz.func53, Tryz.ntmps53
          have qx0 := hx0.c0
          have qx1 := hx0.c1
          have qx2 := hx0.c2
          go_wp2_with fail
          refine (m1.out _ hx0.il).mono ?_
          rintro e w1 ⟨rfl, hB1⟩
          clear qx0 qx1 qx2
          have hx1 := hx0.call hB1
          have hr1 := hR0.call hB1
          clear hx0 hR0
          have hRg := hr1.lt
          have qx0 := hx1.c0
          have qx1 := hx1.c1
          have qx2 := hx1.c2
          go_wp2_with fail
          refine (hnear.out _ hx1.il).mono ?_
          rintro e w2 ⟨A2, n2, c2, rfl, hI2, hB2, hN2⟩
          clear qx0 qx1 qx2
          have hx2 := hx1.call hB2
          have hr2 := hr1.call hB2
          clear hx1 hr1
          have hl2 := DB.made w w2 24 hx2.later hI2 _ rfl
          have ql0 := hl2.c0
          have ql1 := hl2.c1
          have ql2 := hl2.c2
          have qx0 := fun o => (hx2.alloc o).c0
          have qx1 := fun o => (hx2.alloc o).c1
          have qx2 := fun o => (hx2.alloc o).c2
          go_wp2_with fail
          refine (hc1.out _ _ _ _ (hI2.alloc _) (hx2.alloc _).il).mono ?_
          rintro e w3 ⟨rfl, hB3⟩
          clear ql0 ql1 ql2 qx0 qx1 qx2
          have hx3 := (hx2.alloc _).call hB3
          have hr3 := (hr2.alloc _).call hB3
          have hl3 := hl2.call hB3
          clear hx2 hr2 hl2
          have hL3 : Later w w3 := hx3.later
          have HSl : Hid (∀ W, Later w3 W → ((W.cell? ⟨w.heap.size, 0, none⟩ = some (.bool b) ∧ W.cell? ⟨w.heap.size, 1, none⟩ = some (.slice A n c) ∧ W.cell? ⟨w.heap.size, 2, none⟩ = some (.int .i64 s)) ∧ (W.cell? ⟨w2.heap.size, 0, none⟩ = some (.bool L.neg) ∧ W.cell? ⟨w2.heap.size, 1, none⟩ = some (.slice A2 n2 c2) ∧ W.cell? ⟨w2.heap.size, 2, none⟩ = some (.int .i64 L.s))) ∧ Later w3 W) := fun W hW => ⟨⟨(hx3.call hW).at_.1, (hl3.call hW).at_.1⟩, hW⟩
          have hli := Lib.hid (fun W (hW : Later w3 W) => (hl3.call hW).il)
          have hxi := Lib.hid (fun W (hW : Later w3 W) => (hx3.call hW).il)
          go_upto_region 9 with fail
          go_cut [10, 11] (fun sP sC W => ∃ (g : Nat) (A1 : Option Addr) (n1 c1 : Nat), sP = .pointer (some ⟨g, 0, none⟩) ∧ sC = .int .i64 (0 : Int) ∧ DB w3 g 24 A1 n1 c1 Sm W)
          case first =>
            go_region_held3 (fun W => ((W.cell? ⟨w.heap.size, 0, none⟩ = some (.bool b) ∧ W.cell? ⟨w.heap.size, 1, none⟩ = some (.slice A n c) ∧ W.cell? ⟨w.heap.size, 2, none⟩ = some (.int .i64 s)) ∧ (W.cell? ⟨w2.heap.size, 0, none⟩ = some (.bool L.neg) ∧ W.cell? ⟨w2.heap.size, 1, none⟩ = some (.slice A2 n2 c2) ∧ W.cell? ⟨w2.heap.size, 2, none⟩ = some (.int .i64 L.s))) ∧ Later w3 W)
              ((refine HSl.out _ ?_; repeat (first | exact And.right (by assumption) | exact Later.refl _ | refine Later.drew ?_ | refine Later.alloc ?_ _ | refine Later.setCell ?_ (by first | exact Nat.le_refl _ | exact hL1.size | exact hL2.size) _ | refine Later.call ?_ hB1 | refine Later.call ?_ hB2)))
              (first
                | (go_at_call 64; have _t := hB1; refine (hadd1.out _ _ _ _ _ _ _ (hli.out _ (And.right (by assumption))) (by first | exact hI7 | exact hI7.alloc _)).mono ?_; rintro e wc2 ⟨A1, n1, c1, rfl, hI1, hB2, hN1⟩; have hL2 : Later w3 wc2 := Later.call (And.right (by assumption)) hB2; first | (have kb := kb.call hB2; have kl := kb.lt; obtain ⟨⟨z0, z1, z2⟩, ⟨z3, z4, z5⟩⟩ := kb.cells3) | (have hC : Below (wc1.alloc (.cells #[.bool false, .slice none 0 0, .int .i64 0] 24)).heap.size (wc1.alloc (.cells #[.bool false, .slice none 0 0, .int .i64 0] 24)) wc2 := (by with_reducible exact hB2); have kb := (Blk.made w3 wc1 24 _ hL1 _ rfl).call hC; have kl := kb.lt; obtain ⟨⟨z0, z1, z2⟩, ⟨z3, z4, z5⟩⟩ := kb.cells3) | skip)
                | (go_at_call 93; refine (hone.out _).mono ?_; rintro e wc1 ⟨A7, n7, c7, rfl, hI7, hB1, _⟩; have hL1 : Later w3 wc1 := Later.call (And.right (by assumption)) hB1; first | (have hC : Below ((w3.alloc (.cells #[.bool false, .slice none 0 0, .int .i64 0] 24)).drew).heap.size ((w3.alloc (.cells #[.bool false, .slice none 0 0, .int .i64 0] 24)).drew) wc1 := (by with_reducible exact hB1); have kb := (Blk.made w3 w3 24 _ (Later.refl w3) _ rfl).drew.call hC; have kl := kb.lt; obtain ⟨⟨z0, z1, z2⟩, ⟨z3, z4, z5⟩⟩ := kb.cells3) | skip))
            all_goals
              go_wp2_with fail
              go_meet
              first
              | (have _k := kb; exact ⟨_, A1, n1, c1, rfl, rfl, DB.store kb hI1 (fun hz a ha => by have := hN1 hz a ha; (try simp at this); omega)⟩)
              | exact ⟨_, A1, n1, c1, rfl, rfl, DB.made w3 wc2 _ hL2 hI1 _ rfl⟩
          case rest =>
            obtain ⟨g4, A4, n4, c4, rfl, rfl, hs4⟩ := hcut
            obtain ⟨w4, hw4⟩ : ∃ wm, wm = wc := ⟨_, rfl⟩
            rw [← hw4] at hs4
            rw [← hw4]
            clear hw4
            have hL4 : Later w3 w4 := hs4.later
            have hs4 := hs4.from_ hL3
            have hx4 := hx3.call hL4
            have hr4 := hr3.call hL4
            have hl4 := hl3.call hL4
            clear hx3 hr3 hl3
            have hgz4 := hr4.lt
            have qs0 := hs4.c0
            have qs1 := hs4.c1
            have qs2 := hs4.c2
            go_wp2_with fail
            refine (halg.out _ _ _ _ hs4.il).mono ?_
            rintro e w5 ⟨A5, n5, c5, rfl, hI5, hB5, hN5⟩
            clear qs0 qs1 qs2
            have hx5 := hx4.call hB5
            have hr5 := hr4.call hB5
            have hl5 := hl4.call hB5
            have hs5 := hs4.call hB5
            clear hx4 hr4 hl4 hs4
            have hL5 : Later w3 w5 := below_from hL4 hB5
            clear hs5
            have hu5 := DB.made w w5 24 hx5.later hI5 _ rfl
            go_upto_region 11 with fail
            have hL6 : Later w3 (w5.alloc (.cells #[.bool U.neg, .slice A5 n5 c5, .int .i64 U.s] 24)) := hL5.alloc _
            have hx_w6 := hx5.alloc (.cells #[.bool U.neg, .slice A5 n5 c5, .int .i64 U.s] 24)
            clear hx5
            have hr_w6 := hr5.alloc (.cells #[.bool U.neg, .slice A5 n5 c5, .int .i64 U.s] 24)
            clear hr5
            have hl_w6 := hl5.alloc (.cells #[.bool U.neg, .slice A5 n5 c5, .int .i64 U.s] 24)
            clear hl5
            generalize hgw : World.alloc w5 _ = w6 at *
            clear hgw
            have hu6 := hu5
            have hx6 := hx_w6
            have hr6 := hr_w6
            have hl6 := hl_w6
            clear hu5 hx_w6 hr_w6 hl_w6
            have HS6 : Hid (∀ W, Later w6 W → ((W.cell? ⟨w.heap.size, 0, none⟩ = some (.bool b) ∧ W.cell? ⟨w.heap.size, 1, none⟩ = some (.slice A n c) ∧ W.cell? ⟨w.heap.size, 2, none⟩ = some (.int .i64 s)) ∧ (W.cell? ⟨w2.heap.size, 0, none⟩ = some (.bool L.neg) ∧ W.cell? ⟨w2.heap.size, 1, none⟩ = some (.slice A2 n2 c2) ∧ W.cell? ⟨w2.heap.size, 2, none⟩ = some (.int .i64 L.s)) ∧ (W.cell? ⟨w5.heap.size, 0, none⟩ = some (.bool U.neg) ∧ W.cell? ⟨w5.heap.size, 1, none⟩ = some (.slice A5 n5 c5) ∧ W.cell? ⟨w5.heap.size, 2, none⟩ = some (.int .i64 U.s))) ∧ Later w6 W) := fun W hW => ⟨⟨(hx6.call hW).at_.1, (hl6.call hW).at_.1, (hu6.call hW).at_.1⟩, hW⟩
            have hli6 := Lib.hid (fun W (hW : Later w6 W) => (hl6.call hW).il)
            have hxi6 := Lib.hid (fun W (hW : Later w6 W) => (hx6.call hW).il)
            have hui6 := Lib.hid (fun W (hW : Later w6 W) => (hu6.call hW).il)
            clear HSl hli hxi
            go_upto_region 11 with fail
            go_cut [14, 15] (fun sP sC W => ∃ (g : Nat) (A1 : Option Addr) (n1 c1 : Nat), sP = .pointer (some ⟨g, 0, none⟩) ∧ sC = .int .i64 (0 : Int) ∧ DB w6 g 24 A1 n1 c1 Fr W ∧ (0 < n1 → ∀ a, A1 = some a → w6.heap.size ≤ a.block ∧ a.block ≠ g))
            case first =>
              go_region_held3 (fun W => ((W.cell? ⟨w.heap.size, 0, none⟩ = some (.bool b) ∧ W.cell? ⟨w.heap.size, 1, none⟩ = some (.slice A n c) ∧ W.cell? ⟨w.heap.size, 2, none⟩ = some (.int .i64 s)) ∧ (W.cell? ⟨w2.heap.size, 0, none⟩ = some (.bool L.neg) ∧ W.cell? ⟨w2.heap.size, 1, none⟩ = some (.slice A2 n2 c2) ∧ W.cell? ⟨w2.heap.size, 2, none⟩ = some (.int .i64 L.s)) ∧ (W.cell? ⟨w5.heap.size, 0, none⟩ = some (.bool U.neg) ∧ W.cell? ⟨w5.heap.size, 1, none⟩ = some (.slice A5 n5 c5) ∧ W.cell? ⟨w5.heap.size, 2, none⟩ = some (.int .i64 U.s))) ∧ Later w6 W)
                ((refine HS6.out _ ?_; repeat (first | exact And.right (by assumption) | exact Later.refl _ | refine Later.drew ?_ | refine Later.alloc ?_ _ | refine Later.setCell ?_ (by first | exact Nat.le_refl _ | exact hL1.size | exact hL2.size) _ | refine Later.call ?_ hB1 | refine Later.call ?_ hB2)))
                (first
                  | (go_at_call 64; have _t := hB1; refine (hadd2.out _ _ _ _ _ _ _ (hxi6.out _ (And.right (by assumption))) (hli6.out _ (And.right (by assumption)))).mono ?_; rintro e wc2 ⟨A1, n1, c1, rfl, hI1, hB2, hN1⟩; have hL2 : Later w6 wc2 := Later.call (And.right (by assumption)) hB2; first | (have kb := kb.call hB2; have kl := kb.lt; obtain ⟨⟨z0, z1, z2⟩, ⟨z3, z4, z5⟩⟩ := kb.cells3) | (have hC : Below (wc1.alloc (.cells #[.bool false, .slice none 0 0, .int .i64 0] 24)).heap.size (wc1.alloc (.cells #[.bool false, .slice none 0 0, .int .i64 0] 24)) wc2 := (by with_reducible exact hB2); have kb := (Blk.made w6 wc1 24 _ hL1 _ rfl).call hC; have kl := kb.lt; obtain ⟨⟨z0, z1, z2⟩, ⟨z3, z4, z5⟩⟩ := kb.cells3) | skip)
                  | (go_at_call 95; refine (rminus_any _ _ _).mono ?_; rintro e wc1 ⟨rfl, hB1⟩; have hL1 : Later w6 wc1 := Later.call (And.right (by assumption)) hB1; first | (have hC : Below ((w6.alloc (.cells #[.bool false, .slice none 0 0, .int .i64 0] 24)).drew).heap.size ((w6.alloc (.cells #[.bool false, .slice none 0 0, .int .i64 0] 24)).drew) wc1 := (by with_reducible exact hB1); have kb := (Blk.made w6 w6 24 _ (Later.refl w6) _ rfl).drew.call hC; have kl := kb.lt; obtain ⟨⟨z0, z1, z2⟩, ⟨z3, z4, z5⟩⟩ := kb.cells3) | skip))
              all_goals
                go_wp2_with fail
                go_meet
                first
                | (have _k := kb; exact ⟨_, A1, n1, c1, rfl, rfl, DB.store kb hI1 (fun hz a ha => by have := hN1 hz a ha; (try simp at this); omega), fun hz a ha => by have q1 := hN1 hz a ha; have q2 := hL1.size; have q3 := kb.1; (try simp at q1); (try simp at q2); exact ⟨by omega, by omega⟩⟩)
                | exact ⟨_, A1, n1, c1, rfl, rfl, DB.made w6 wc2 _ hL2 hI1 _ rfl, fun hz a ha => by have q1 := hN1 hz a ha; have q2 := hL1.size; have q4 := hI1.block_lt hz a ha; (try simp at q1); (try simp at q2); exact ⟨by omega, by omega⟩⟩
            case rest =>
              obtain ⟨g7, A7, n7, c7, rfl, rfl, hf7, hq7⟩ := hcut
              obtain ⟨w7, hw7⟩ : ∃ wm, wm = wc := ⟨_, rfl⟩
              rw [← hw7] at hf7
              rw [← hw7]
              clear hw7
              have hL7 : Later w6 w7 := hf7.later
              have HS7 : Hid (∀ W, Later w7 W → ((W.cell? ⟨w.heap.size, 0, none⟩ = some (.bool b) ∧ W.cell? ⟨w.heap.size, 1, none⟩ = some (.slice A n c) ∧ W.cell? ⟨w.heap.size, 2, none⟩ = some (.int .i64 s)) ∧ (W.cell? ⟨w2.heap.size, 0, none⟩ = some (.bool L.neg) ∧ W.cell? ⟨w2.heap.size, 1, none⟩ = some (.slice A2 n2 c2) ∧ W.cell? ⟨w2.heap.size, 2, none⟩ = some (.int .i64 L.s)) ∧ (W.cell? ⟨w5.heap.size, 0, none⟩ = some (.bool U.neg) ∧ W.cell? ⟨w5.heap.size, 1, none⟩ = some (.slice A5 n5 c5) ∧ W.cell? ⟨w5.heap.size, 2, none⟩ = some (.int .i64 U.s))) ∧ Later w7 W) := fun W hW => ⟨(HS6.out W (below_from hL7 hW)).1, hW⟩
              go_upto_region 12 with fail
              go_cut [16, 17] (fun sP sC W => ∃ (g : Nat) (A1 : Option Addr) (n1 c1 : Nat), sP = .pointer (some ⟨g, 0, none⟩) ∧ sC = .int .i64 (0 : Int) ∧ DB w7 g 24 A1 n1 c1 Tt W ∧ (0 < n1 → ∀ a, A1 = some a → w7.heap.size ≤ a.block ∧ a.block ≠ g))
              case first =>
                go_region_held3 (fun W => ((W.cell? ⟨w.heap.size, 0, none⟩ = some (.bool b) ∧ W.cell? ⟨w.heap.size, 1, none⟩ = some (.slice A n c) ∧ W.cell? ⟨w.heap.size, 2, none⟩ = some (.int .i64 s)) ∧ (W.cell? ⟨w2.heap.size, 0, none⟩ = some (.bool L.neg) ∧ W.cell? ⟨w2.heap.size, 1, none⟩ = some (.slice A2 n2 c2) ∧ W.cell? ⟨w2.heap.size, 2, none⟩ = some (.int .i64 L.s)) ∧ (W.cell? ⟨w5.heap.size, 0, none⟩ = some (.bool U.neg) ∧ W.cell? ⟨w5.heap.size, 1, none⟩ = some (.slice A5 n5 c5) ∧ W.cell? ⟨w5.heap.size, 2, none⟩ = some (.int .i64 U.s))) ∧ Later w7 W)
                  ((refine HS7.out _ ?_; repeat (first | exact And.right (by assumption) | exact Later.refl _ | refine Later.drew ?_ | refine Later.alloc ?_ _ | refine Later.setCell ?_ (by first | exact Nat.le_refl _ | exact hL1.size | exact hL2.size) _ | refine Later.call ?_ hB1 | refine Later.call ?_ hB2)))
                  (first
                    | (go_at_call 64; have _t := hB1; refine (hadd3.out _ _ _ _ _ _ _ (hui6.out _ (below_from hL7 (And.right (by assumption)))) (hxi6.out _ (below_from hL7 (And.right (by assumption))))).mono ?_; rintro e wc2 ⟨A1, n1, c1, rfl, hI1, hB2, hN1⟩; have hL2 : Later w7 wc2 := Later.call (And.right (by assumption)) hB2; first | (have kb := kb.call hB2; have kl := kb.lt; obtain ⟨⟨z0, z1, z2⟩, ⟨z3, z4, z5⟩⟩ := kb.cells3) | (have hC : Below (wc1.alloc (.cells #[.bool false, .slice none 0 0, .int .i64 0] 24)).heap.size (wc1.alloc (.cells #[.bool false, .slice none 0 0, .int .i64 0] 24)) wc2 := (by with_reducible exact hB2); have kb := (Blk.made w7 wc1 24 _ hL1 _ rfl).call hC; have kl := kb.lt; obtain ⟨⟨z0, z1, z2⟩, ⟨z3, z4, z5⟩⟩ := kb.cells3) | skip)
                    | (go_at_call 95; refine (rminus_any _ _ _).mono ?_; rintro e wc1 ⟨rfl, hB1⟩; have hL1 : Later w7 wc1 := Later.call (And.right (by assumption)) hB1; first | (have hC : Below ((w7.alloc (.cells #[.bool false, .slice none 0 0, .int .i64 0] 24)).drew).heap.size ((w7.alloc (.cells #[.bool false, .slice none 0 0, .int .i64 0] 24)).drew) wc1 := (by with_reducible exact hB1); have kb := (Blk.made w7 w7 24 _ (Later.refl w7) _ rfl).drew.call hC; have kl := kb.lt; obtain ⟨⟨z0, z1, z2⟩, ⟨z3, z4, z5⟩⟩ := kb.cells3) | skip))
                all_goals
                  go_wp2_with fail
                  go_meet
                  first
                  | (have _k := kb; exact ⟨_, A1, n1, c1, rfl, rfl, DB.store kb hI1 (fun hz a ha => by have := hN1 hz a ha; (try simp at this); omega), fun hz a ha => by have q1 := hN1 hz a ha; have q2 := hL1.size; have q3 := kb.1; (try simp at q1); (try simp at q2); exact ⟨by omega, by omega⟩⟩)
                  | exact ⟨_, A1, n1, c1, rfl, rfl, DB.made w7 wc2 _ hL2 hI1 _ rfl, fun hz a ha => by have q1 := hN1 hz a ha; have q2 := hL1.size; have q4 := hI1.block_lt hz a ha; (try simp at q1); (try simp at q2); exact ⟨by omega, by omega⟩⟩
              case rest =>
                obtain ⟨g8, A8, n8, c8, rfl, rfl, ht8, hq8⟩ := hcut
                obtain ⟨w8, hw8⟩ : ∃ wm, wm = wc := ⟨_, rfl⟩
                rw [← hw8] at ht8
                rw [← hw8]
                clear hw8
                have hL8 : Later w7 w8 := ht8.later
                have hL68 := below_from hL7 hL8
                have hf8 := hf7.call hL8
                have hx8 := hx6.call hL68
                have hr8 := hr6.call hL68
                have hl8 := hl6.call hL68
                have hu8 := hu6.call hL68
                have hg7 : w6.heap.size ≤ g7 := hf7.1.1
                have hg7b : g7 < w7.heap.size := hf7.1.lt
                have hg8 : w7.heap.size ≤ g8 := ht8.1.1
                have hs6 := hx6.later.size
                have hs67 := hL7.size
                have gx := hx6.1.lt
                have gr := hr6.lt
                have gl := hl6.1.lt
                have gu := hu6.1.lt
                have al := hl6.2
                have au := hu6.2
                have af := hf7.2
                have il8 := hl8.2
                have iu8 := hu8.2
                have if8 := hf8.2
                have it8 := ht8.2
                clear HS6 HS7 hxi6 hli6 hui6 hx6 hr6 hl6 hu6 hf7
                have hne1 : ¬ g7 = g8 := by omega
                have hne2 : ¬ g8 = g7 := by omega
                have hx9 : Blk w w.heap.size 24 #[.bool b, .slice A n c, .int .i64 s] ((w8.setCell ⟨g7, 0, none⟩ (.bool false)).setCell ⟨g8, 0, none⟩ (.bool false)) := (hx8.1.far (by simp only; omega) (by simp only; omega) _).far (by simp only; omega) (by simp only; omega) _
                have hr9 : Blk w (w.heap.size + 1) 24 #[.bool false, .slice none 0 0, .int .i64 0] ((w8.setCell ⟨g7, 0, none⟩ (.bool false)).setCell ⟨g8, 0, none⟩ (.bool false)) := (hr8.far (by simp only; omega) (by simp only; omega) _).far (by simp only; omega) (by simp only; omega) _
                have hl9 : DB w w2.heap.size 24 A2 n2 c2 L ((w8.setCell ⟨g7, 0, none⟩ (.bool false)).setCell ⟨g8, 0, none⟩ (.bool false)) := ⟨(hl8.1.far (by simp only; omega) (by simp only; omega) _).far (by simp only; omega) (by simp only; omega) _, (il8.set_ (al.apart hg7) _).set_ (al.apart (by simp only; omega)) _⟩
                have hu9 : DB w w5.heap.size 24 A5 n5 c5 U ((w8.setCell ⟨g7, 0, none⟩ (.bool false)).setCell ⟨g8, 0, none⟩ (.bool false)) := ⟨(hu8.1.far (by simp only; omega) (by simp only; omega) _).far (by simp only; omega) (by simp only; omega) _, (iu8.set_ (au.apart hg7) _).set_ (au.apart (by simp only; omega)) _⟩
                have hf9 : Blk w6 g7 24 #[.bool false, .slice A7 n7 c7, .int .i64 Fr.s] ((w8.setCell ⟨g7, 0, none⟩ (.bool false)).setCell ⟨g8, 0, none⟩ (.bool false)) := (hf8.1.set_ 0 (.bool false)).far (by simp only; omega) (by simp only; omega) _
                have ht9 : Blk w6 g8 24 #[.bool false, .slice A8 n8 c8, .int .i64 Tt.s] ((w8.setCell ⟨g7, 0, none⟩ (.bool false)).setCell ⟨g8, 0, none⟩ (.bool false)) := ((ht8.from_ hL7).1.far (by simp only; omega) (by simp only; omega) _).set_ 0 (.bool false)
                have if9 : IL ((w8.setCell ⟨g7, 0, none⟩ (.bool false)).setCell ⟨g8, 0, none⟩ (.bool false)) A7 n7 c7 Fr.l := (if8.set_ (fun hz a ha => (hq7 hz a ha).2) _).set_ (af.apart hg8) _
                have it9 : IL ((w8.setCell ⟨g7, 0, none⟩ (.bool false)).setCell ⟨g8, 0, none⟩ (.bool false)) A8 n8 c8 Tt.l := (it8.set_ (fun hz a ha => by have := (hq8 hz a ha).1; simp only; omega) _).set_ (fun hz a ha => (hq8 hz a ha).2) _
                obtain ⟨⟨x0, x1, x2⟩, ⟨x3, x4, x5⟩⟩ := hf8.1.cells3
                obtain ⟨⟨y0, y1, y2⟩, ⟨y3, y4, y5⟩⟩ := ht8.1.cells3
                clear hf8 ht8 hx8 hr8 hl8 hu8 hq7 hq8 af il8 iu8 if8 it8
                go_upto_region 15 with fail
                clear x0 x1 x2 x3 x4 x5 y0 y1 y2 y3 y4 y5
                generalize World.setCell (World.setCell w8 _ _) _ _ = w9 at *
                obtain ⟨⟨x0, x1, x2⟩, _⟩ := hf9.cells3
                obtain ⟨⟨y0, y1, y2⟩, _⟩ := ht9.cells3
                clear hf9 ht9 hL68 hg7 hg7b hg8 hs6 hs67 gx gr gl gu al au
                go_wp2_with fail
                refine (hcmp2.out _ _ _ _ _ _ _ if9 it9).mono ?_
                rintro e w10 ⟨rfl, hB10⟩
                have hx10 := hx9.call hB10
                have hr10 := hr9.call hB10
                have hl10 := hl9.call hB10
                have hu10 := hu9.call hB10
                clear x0 x1 x2 y0 y1 y2 if9 it9 hx9 hr9 hl9 hu9
                go_upto_region 16 with fail
                clear hB10 hL7 hL8 hL3 hL4 hL5 hL6 hc0 hc00
                have k1 := hl10.c1
                go_cut [19] (fun s W => s = .bool ob ∧ W = w10)
                case first =>
                  have hln := hl10.len
                  rw [hln] at hob
                  rcases Nat.eq_zero_or_pos n2 with hz | hz
                  · have hob2 : ob = false := by rw [← hob.out, if_neg (by omega)]
                    subst hob2
                    subst hz
                    go_wp2_with fail
                    go_meet
                    exact ⟨rfl, rfl⟩
                  · obtain ⟨bb, off, e, hc⟩ := hl10.il.at_ (k := n2 - 1) (by omega)
                    subst e
                    have hdd := hdg (n2 - 1)
                    have hob2 : Hid (ob = (L.l.getD (n2 - 1) 0 % 2 == 1)) := by rw [Hid, ← hob.out, if_pos hz]
                    generalize L.l.getD (n2 - 1) 0 = dg at *
                    have hwm : (if (n2 : Int) - 1 < 0 then (0 : Int) else (n2 : Int) - 1) = (n2 : Int) - 1 := if_neg (by omega)
                    have hle2 := hl10.il.le
                    have hcap2 := hl10.il.cap
                    clear hob hdg hln
                    go_wp2_with fail
                    go_meet
                    exact ⟨by rw [hob2.out], rfl⟩
                case rest =>
                  obtain ⟨rfl, hwc⟩ := hcut
                  subst hwc
                  have hfinL : ∀ W : World, W = ((wc.setCell ⟨w.heap.size + 1, 0, none⟩ (.bool L.neg)).setCell ⟨w.heap.size + 1, 1, none⟩ (.slice A2 n2 c2)).setCell ⟨w.heap.size + 1, 2, none⟩ (.int .i64 L.s) →
                      (W.cell? ⟨w.heap.size + 1, 0, none⟩ = some (.bool L.neg) ∧ W.cell? ⟨w.heap.size + 1, 1, none⟩ = some (.slice A2 n2 c2) ∧ W.cell? ⟨w.heap.size + 1, 2, none⟩ = some (.int .i64 L.s)) ∧ RCE w L 0 (.returned (.tuple #[.agg #[.bool L.neg, .slice A2 n2 c2, .int .i64 L.s], .int .i64 0])) W := by
                    rintro W rfl
                    exact ⟨(hr10.store3 _ _ _).cells3.1, A2, n2, c2, rfl, hl10.il.set3 (fun hz a ha => by have := hN2 hz a ha; omega) _ _ _, below_set3 hr10.later (by omega) _ _ _, fun hz a ha => by have := hN2 hz a ha; omega⟩
                  have hfinU : ∀ W : World, W = ((wc.setCell ⟨w.heap.size + 1, 0, none⟩ (.bool U.neg)).setCell ⟨w.heap.size + 1, 1, none⟩ (.slice A5 n5 c5)).setCell ⟨w.heap.size + 1, 2, none⟩ (.int .i64 U.s) →
                      (W.cell? ⟨w.heap.size + 1, 0, none⟩ = some (.bool U.neg) ∧ W.cell? ⟨w.heap.size + 1, 1, none⟩ = some (.slice A5 n5 c5) ∧ W.cell? ⟨w.heap.size + 1, 2, none⟩ = some (.int .i64 U.s)) ∧ RCE w U 0 (.returned (.tuple #[.agg #[.bool U.neg, .slice A5 n5 c5, .int .i64 U.s], .int .i64 0])) W := by
                    rintro W rfl
                    exact ⟨(hr10.store3 _ _ _).cells3.1, A5, n5, c5, rfl, hu10.il.set3 (fun hz a ha => by have := hN5 hz a ha; omega) _ _ _, below_set3 hr10.later (by omega) _ _ _, fun hz a ha => by have := hN5 hz a ha; omega⟩
                  have HFL := Lib.hid hfinL
                  have HFU := Lib.hid hfinU
                  have gR := hr10.lt
                  obtain ⟨⟨r0, r1, r2⟩, ⟨r3, r4, r5⟩⟩ := hr10.cells3
                  have l0 := hl10.c0
                  have l2 := hl10.c2
                  have u0 := hu10.c0
                  have u1 := hu10.c1
                  have u2 := hu10.c2
                  have x0 := hx10.cells3.1.1
                  clear hfinL hfinU hr10 hl10 hu10 hx10 hob hdg hN2 hN5
                  have hcc3 : cc = -1 ∨ cc = 0 ∨ cc = 1 := by omega
                  clear hccb hm hm0 hm6
                  rcases seven hmm with rfl | rfl | rfl | rfl | rfl | rfl | rfl
                  · have HD3 : Hid (D = (L, 0)) := HD2.out
                    go_wp2_with fail
                    (rw [HD3.out]; obtain ⟨⟨z0, z1, z2⟩, hrc⟩ := HFL.out _ rfl; exact bodyPost_ret (v := .tuple #[.agg #[.bool L.neg, .slice A2 n2 c2, .int .i64 L.s], .int .i64 0]) (by generalize World.setCell (World.setCell (World.setCell _ _ _) _ _) _ _ = W3 at z0 z1 z2 ⊢; simp [results, Tryz.results53, go_sem, z0, z1, z2]) rfl hrc)
                  · have HD3 : Hid (D = (U, 0)) := HD2.out
                    go_wp2_with fail
                    (rw [HD3.out]; obtain ⟨⟨z0, z1, z2⟩, hrc⟩ := HFU.out _ rfl; exact bodyPost_ret (v := .tuple #[.agg #[.bool U.neg, .slice A5 n5 c5, .int .i64 U.s], .int .i64 0]) (by generalize World.setCell (World.setCell (World.setCell _ _ _) _ _) _ _ = W3 at z0 z1 z2 ⊢; simp [results, Tryz.results53, go_sem, z0, z1, z2]) rfl hrc)
                  · cases b
                    · have HD3 : Hid (D = (L, 0)) := HD2.out
                      go_wp2_with fail
                      (rw [HD3.out]; obtain ⟨⟨z0, z1, z2⟩, hrc⟩ := HFL.out _ rfl; exact bodyPost_ret (v := .tuple #[.agg #[.bool L.neg, .slice A2 n2 c2, .int .i64 L.s], .int .i64 0]) (by generalize World.setCell (World.setCell (World.setCell _ _ _) _ _) _ _ = W3 at z0 z1 z2 ⊢; simp [results, Tryz.results53, go_sem, z0, z1, z2]) rfl hrc)
                    · have HD3 : Hid (D = (U, 0)) := HD2.out
                      go_wp2_with fail
                      (rw [HD3.out]; obtain ⟨⟨z0, z1, z2⟩, hrc⟩ := HFU.out _ rfl; exact bodyPost_ret (v := .tuple #[.agg #[.bool U.neg, .slice A5 n5 c5, .int .i64 U.s], .int .i64 0]) (by generalize World.setCell (World.setCell (World.setCell _ _ _) _ _) _ _ = W3 at z0 z1 z2 ⊢; simp [results, Tryz.results53, go_sem, z0, z1, z2]) rfl hrc)
                  · cases b
                    · have HD3 : Hid (D = (U, 0)) := HD2.out
                      go_wp2_with fail
                      (rw [HD3.out]; obtain ⟨⟨z0, z1, z2⟩, hrc⟩ := HFU.out _ rfl; exact bodyPost_ret (v := .tuple #[.agg #[.bool U.neg, .slice A5 n5 c5, .int .i64 U.s], .int .i64 0]) (by generalize World.setCell (World.setCell (World.setCell _ _ _) _ _) _ _ = W3 at z0 z1 z2 ⊢; simp [results, Tryz.results53, go_sem, z0, z1, z2]) rfl hrc)
                    · have HD3 : Hid (D = (L, 0)) := HD2.out
                      go_wp2_with fail
                      (rw [HD3.out]; obtain ⟨⟨z0, z1, z2⟩, hrc⟩ := HFL.out _ rfl; exact bodyPost_ret (v := .tuple #[.agg #[.bool L.neg, .slice A2 n2 c2, .int .i64 L.s], .int .i64 0]) (by generalize World.setCell (World.setCell (World.setCell _ _ _) _ _) _ _ = W3 at z0 z1 z2 ⊢; simp [results, Tryz.results53, go_sem, z0, z1, z2]) rfl hrc)
                  · rcases hcc3 with rfl | rfl | rfl
                    · have HD3 : Hid (D = (L, 0)) := HD2.out
                      go_wp2_with fail
                      (rw [HD3.out]; obtain ⟨⟨z0, z1, z2⟩, hrc⟩ := HFL.out _ rfl; exact bodyPost_ret (v := .tuple #[.agg #[.bool L.neg, .slice A2 n2 c2, .int .i64 L.s], .int .i64 0]) (by generalize World.setCell (World.setCell (World.setCell _ _ _) _ _) _ _ = W3 at z0 z1 z2 ⊢; simp [results, Tryz.results53, go_sem, z0, z1, z2]) rfl hrc)
                    · have HD3 : Hid (D = (L, 0)) := HD2.out
                      go_wp2_with fail
                      (rw [HD3.out]; obtain ⟨⟨z0, z1, z2⟩, hrc⟩ := HFL.out _ rfl; exact bodyPost_ret (v := .tuple #[.agg #[.bool L.neg, .slice A2 n2 c2, .int .i64 L.s], .int .i64 0]) (by generalize World.setCell (World.setCell (World.setCell _ _ _) _ _) _ _ = W3 at z0 z1 z2 ⊢; simp [results, Tryz.results53, go_sem, z0, z1, z2]) rfl hrc)
                    · have HD3 : Hid (D = (U, 0)) := HD2.out
                      go_wp2_with fail
                      (rw [HD3.out]; obtain ⟨⟨z0, z1, z2⟩, hrc⟩ := HFU.out _ rfl; exact bodyPost_ret (v := .tuple #[.agg #[.bool U.neg, .slice A5 n5 c5, .int .i64 U.s], .int .i64 0]) (by generalize World.setCell (World.setCell (World.setCell _ _ _) _ _) _ _ = W3 at z0 z1 z2 ⊢; simp [results, Tryz.results53, go_sem, z0, z1, z2]) rfl hrc)
                  · rcases hcc3 with rfl | rfl | rfl
                    · have HD3 : Hid (D = (L, 0)) := HD2.out
                      go_wp2_with fail
                      (rw [HD3.out]; obtain ⟨⟨z0, z1, z2⟩, hrc⟩ := HFL.out _ rfl; exact bodyPost_ret (v := .tuple #[.agg #[.bool L.neg, .slice A2 n2 c2, .int .i64 L.s], .int .i64 0]) (by generalize World.setCell (World.setCell (World.setCell _ _ _) _ _) _ _ = W3 at z0 z1 z2 ⊢; simp [results, Tryz.results53, go_sem, z0, z1, z2]) rfl hrc)
                    · have HD3 : Hid (D = (U, 0)) := HD2.out
                      go_wp2_with fail
                      (rw [HD3.out]; obtain ⟨⟨z0, z1, z2⟩, hrc⟩ := HFU.out _ rfl; exact bodyPost_ret (v := .tuple #[.agg #[.bool U.neg, .slice A5 n5 c5, .int .i64 U.s], .int .i64 0]) (by generalize World.setCell (World.setCell (World.setCell _ _ _) _ _) _ _ = W3 at z0 z1 z2 ⊢; simp [results, Tryz.results53, go_sem, z0, z1, z2]) rfl hrc)
                    · have HD3 : Hid (D = (U, 0)) := HD2.out
                      go_wp2_with fail
                      (rw [HD3.out]; obtain ⟨⟨z0, z1, z2⟩, hrc⟩ := HFU.out _ rfl; exact bodyPost_ret (v := .tuple #[.agg #[.bool U.neg, .slice A5 n5 c5, .int .i64 U.s], .int .i64 0]) (by generalize World.setCell (World.setCell (World.setCell _ _ _) _ _) _ _ = W3 at z0 z1 z2 ⊢; simp [results, Tryz.results53, go_sem, z0, z1, z2]) rfl hrc)
                  · rcases hcc3 with rfl | rfl | rfl
                    · have HD3 : Hid (D = (L, 0)) := HD2.out
                      go_wp2_with fail
                      (rw [HD3.out]; obtain ⟨⟨z0, z1, z2⟩, hrc⟩ := HFL.out _ rfl; exact bodyPost_ret (v := .tuple #[.agg #[.bool L.neg, .slice A2 n2 c2, .int .i64 L.s], .int .i64 0]) (by generalize World.setCell (World.setCell (World.setCell _ _ _) _ _) _ _ = W3 at z0 z1 z2 ⊢; simp [results, Tryz.results53, go_sem, z0, z1, z2]) rfl hrc)
                    · cases ob
                      · have HD3 : Hid (D = (L, 0)) := HD2.out
                        go_wp2_with fail
                        (rw [HD3.out]; obtain ⟨⟨z0, z1, z2⟩, hrc⟩ := HFL.out _ rfl; exact bodyPost_ret (v := .tuple #[.agg #[.bool L.neg, .slice A2 n2 c2, .int .i64 L.s], .int .i64 0]) (by generalize World.setCell (World.setCell (World.setCell _ _ _) _ _) _ _ = W3 at z0 z1 z2 ⊢; simp [results, Tryz.results53, go_sem, z0, z1, z2]) rfl hrc)
                      · have HD3 : Hid (D = (U, 0)) := HD2.out
                        go_wp2_with fail
                        (rw [HD3.out]; obtain ⟨⟨z0, z1, z2⟩, hrc⟩ := HFU.out _ rfl; exact bodyPost_ret (v := .tuple #[.agg #[.bool U.neg, .slice A5 n5 c5, .int .i64 U.s], .int .i64 0]) (by generalize World.setCell (World.setCell (World.setCell _ _ _) _ _) _ _ = W3 at z0 z1 z2 ⊢; simp [results, Tryz.results53, go_sem, z0, z1, z2]) rfl hrc)
                    · have HD3 : Hid (D = (U, 0)) := HD2.out
                      go_wp2_with fail
                      (rw [HD3.out]; obtain ⟨⟨z0, z1, z2⟩, hrc⟩ := HFU.out _ rfl; exact bodyPost_ret (v := .tuple #[.agg #[.bool U.neg, .slice A5 n5 c5, .int .i64 U.s], .int .i64 0]) (by generalize World.setCell (World.setCell (World.setCell _ _ _) _ _) _ _ = W3 at z0 z1 z2 ⊢; simp [results, Tryz.results53, go_sem, z0, z1, z2]) rfl hrc)
    · have HD : Hid (D = (Dc.zero, 1)) := by
        rw [Hid, hAD.out, if_neg]
        simp
        omega
      clear hm1 hAD
      go_enter Tryz.func53, Tryz.ntmps53
      go_wp2_with fail
      refine (m1.out _ ((h.alloc _).alloc _)).mono ?_
      rintro e w1 ⟨rfl, hB1⟩
      have hR := hR0.call hB1
      obtain ⟨⟨r0, r1, r2⟩, ⟨r3, r4, r5⟩⟩ := hR.cells3
      have hmq : m < 0 ∨ (¬ m < 0 ∧ 6 < m) := by omega
      rcases hmq with hmq | ⟨hmq, hmp⟩
      · go_wp2_with fail
        rw [HD.out]
        obtain ⟨⟨z0, z1, z2⟩, _⟩ := (hR.store3 (.bool false) (.slice none 0 0) (.int .i64 0)).cells3
        exact bodyPost_ret (v := .tuple #[.agg #[.bool false, .slice none 0 0, .int .i64 0], .int .i64 1]) (by generalize World.setCell (World.setCell (World.setCell _ _ _) _ _) _ _ = W3 at z0 z1 z2 ⊢; simp [results, Tryz.results53, go_sem, z0, z1, z2]) rfl
          ⟨none, 0, 0, rfl, IL.nil _, below_set3 hR.later (by omega) _ _ _, none_new _⟩
      · go_wp2_with fail
        rw [HD.out]
        obtain ⟨⟨z0, z1, z2⟩, _⟩ := (hR.store3 (.bool false) (.slice none 0 0) (.int .i64 0)).cells3
        exact bodyPost_ret (v := .tuple #[.agg #[.bool false, .slice none 0 0, .int .i64 0], .int .i64 1]) (by generalize World.setCell (World.setCell (World.setCell _ _ _) _ _) _ _ = W3 at z0 z1 z2 ⊢; simp [results, Tryz.results53, go_sem, z0, z1, z2]) rfl
          ⟨none, 0, 0, rfl, IL.nil _, below_set3 hR.later (by omega) _ _ _, none_new _⟩

end Go.Proofs.YtickhmlhciafgaaGreat

