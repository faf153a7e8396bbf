/- Drafts some steps farther (plain). No condition. -/
import Derived.Test.YtickhmlhciafgaaGreatMa35
import Derived.Test.YtickhmlhciafgaaGreatMa37
import Derived.Test.YtickhmlhciafgaaGreatMa14
import Derived.Test.YtickhmlhciafgaaGreatMa13
import Derived.Test.YtickhmlhciafgaaGreatMa32
import Derived.Test.YtickhmlhciafgaaGreatMa23
namespace Go.Proofs.YtickhmlhciafgaaGreat
open Go.RowKit
set_option linter.unusedVariables false

/-- A number that reads as it is. -/
structure NV.Rd (x : NV) (M : Nat) : Prop where
  i : I64 x.D.l
  s : -9223372036854775808 ≤ x.D.s ∧ x.D.s ≤ 9223372036854775807
  n : x.D.l.length ≤ M
theorem NV.Bd.rd {x : NV} (h : x.Bd) : x.Rd 5000 := ⟨(may_bd h.may).1, (may_bd h.may).2, h.len⟩
set_option maxRecDepth 100000 in
set_option maxHeartbeats 4000000 in
theorem rvalue_any (y : RuV) (x : NV) (w : World) (hy : y.ok w) (hx : x.ok w) (hb : y.r.Bd) (hr : x.Rd 3000) :
    Calls Tryz.prog 16 #[.agg y.cs, .agg x.cs] w (PQ (kce (valueC y.r x.D).2) (valueC y.r x.D).1 w) := by
  have hV : Hid (valueC y.r x.D = if (roundDc x.D y.r.n.sc y.r.n.md).2 = 0 then clampDc (roundDc x.D y.r.n.sc y.r.n.md).1 y.r.lo y.r.hi else (Dc.zero, (roundDc x.D y.r.n.sc y.r.n.md).2)) := rfl
  have hto := Lib.hid (fun W (hW : x.ok W) => show Calls Tryz.prog 53 #[.agg x.cs, .int .i64 y.r.n.sc, .int .i64 y.r.n.md] W (PQ (kce (roundDc x.D y.r.n.sc y.r.n.md).2) (roundDc x.D y.r.n.sc y.r.n.md).1 W) from
    (rrto_any x.D.neg x.D.s y.r.n.sc y.r.n.md W hW hr.i hr.s (by have := hb.sc; omega) (by have := hb.md; omega) (by have := hW.len; have := hr.n; omega)).mono fun _ _ h => h.pq)
  have hro := round_ok (D := x.D) (m := y.r.n.md) hb.sc
  obtain ⟨iL, sL⟩ := may_bd hb.lo.1
  obtain ⟨iH, sH⟩ := may_bd hb.hi.1
  have hxn := hr.n
  have hB0 := (((Blk.made w w 44 y.cs (Later.refl w) _ rfl).alloc (.cells x.cs 24)).alloc (.cells #[.bool false, .slice none 0 0, .int .i64 0] 24))
  have hB1 := ((Blk.made w (w.alloc (.cells y.cs 44)) 24 x.cs ((Later.refl w).alloc _) (w.heap.size + 1) (by simp)).alloc (.cells #[.bool false, .slice none 0 0, .int .i64 0] 24))
  have hR := (Blk.made w ((w.alloc (.cells y.cs 44)).alloc (.cells x.cs 24)) 24 #[.bool false, .slice none 0 0, .int .i64 0] (((Later.refl w).alloc _).alloc _) (w.heap.size + 2) (by simp))
  generalize valueC y.r x.D = V at *
  generalize roundDc x.D y.r.n.sc y.r.n.md = G at *
  obtain ⟨G, ec⟩ := G
  simp only at hV hto hro
  go_enter Tryz.func16, Tryz.ntmps16
  go_upto_region 1 with fail
  generalize World.alloc (World.alloc (World.alloc w _) _) _ = w1 at *
  have q0 : w1.cell? ⟨w.heap.size, 12, none⟩ = some (.int .i64 y.r.n.sc) := hB0.cell 12
  have q1 : w1.cell? ⟨w.heap.size, 15, none⟩ = some (.int .i64 y.r.n.md) := hB0.cell 15
  go_wp2_with (refine wpList_load_blk hB1 row_dec6 rfl rfl rfl rfl ?_; go_simp)
  refine (hto.out _ (hx.later hB1.later)).mono ?_
  rintro e w2 ⟨z, rfl, hz, hzo, hB2, _⟩
  clear q0 q1
  unfold kce
  have pZ := Blk.made w w2 24 #[.bool false, .slice none 0 0, .int .i64 0] (hB0.call hB2).later _ rfl
  have hX2_l := (hB0.call hB2).lt
  have hX2_q := (hB0.call hB2).alloc (.cells #[.bool false, .slice none 0 0, .int .i64 0] 24)
  have hR2_l := (hR.call hB2).lt
  have hR2_q := (hR.call hB2).alloc (.cells #[.bool false, .slice none 0 0, .int .i64 0] 24)
  have hzo2_f := (hzo).off (Nat.le_refl _)
  have hzo2_q := (hzo).alloc (.cells #[.bool false, .slice none 0 0, .int .i64 0] 24)
  have hy2_f := (hy.later (hB0.call hB2).later).apart (Nat.le_refl _)
  have hy2_q := (hy.later (hB0.call hB2).later).later ((Later.refl _).alloc (.cells #[.bool false, .slice none 0 0, .int .i64 0] 24))
  go_upto_region 2 with (first | (refine wpList_store_blk pZ row_dec6 rfl rfl rfl rfl rfl rfl (by kernel_rfl) ?_; intro w3 hZ pS; go_simp))
  have hX2 := pS.far hX2_q (by omega) pZ.1
  have hR2 := pS.far hR2_q (by omega) pZ.1
  have hzo2 := hzo2_q.sto pS hzo2_f
  have hy2 := hy2_q.sto pS hy2_f
  clear pZ pS hX2_l hX2_q hR2_l hR2_q hzo2_f hzo2_q hy2_f hy2_q
  have hlR : w.heap.size + 2 < w2.heap.size := (hR.call hB2).lt
  clear hB0 hB1 hR hto hzo
  by_cases hec : ec = 0
  · subst hec
    have HV : Hid (V = clampDc G y.r.lo y.r.hi) := by rw [Hid, hV.out, if_pos rfl]
    obtain ⟨hq1, hq2⟩ := hro rfl
    obtain ⟨iQ, sQ⟩ := may_bd hq1
    have hcl := Lib.hid (fun W (h1 : z.ok W) (h2 : y.ok W) => show Calls Tryz.prog 54 #[.agg z.cs, .agg #[.bool y.r.lo.neg, .slice y.A1 y.n1 y.c1, .int .i64 y.r.lo.s], .agg #[.bool y.r.hi.neg, .slice y.A2 y.n2 y.c2, .int .i64 y.r.hi.s]] W (PQ (kce (clampDc G y.r.lo y.r.hi).2) (clampDc G y.r.lo y.r.hi).1 W) by
      have hz := hz.out
      subst hz
      exact (rcclamp_any z.D y.r.lo y.r.hi W h1 h2.1 h2.2.1 iQ iL iH sQ sL sH (by have := h1.len; omega) (by have := h2.1.len; have := hb.lo.2; omega) (by have := h2.2.1.len; have := hb.hi.2; omega)).mono fun _ _ h => h.pq)
    clear hV hro
    go_wp2_with (first | (refine wpList_load_blkg (hZ) row_dec6 rfl rfl rfl rfl ?_; go_simp) | (refine wpList_load_partg ((hX2).part 0 [.bool y.r.lo.neg, .slice y.A1 y.n1 y.c1, .int .i64 y.r.lo.s] rfl) row_dec6 rfl rfl rfl rfl ?_; go_simp) | (refine wpList_load_partg ((hX2).part 3 [.bool y.r.hi.neg, .slice y.A2 y.n2 y.c2, .int .i64 y.r.hi.s] rfl) row_dec6 rfl rfl rfl rfl ?_; go_simp))
    refine (hcl.out _ hzo2 hy2).mono ?_
    rintro e w4 ⟨q, rfl, hq, hqo, hB4, hqn⟩
    have hR4 := hR2.call hB4
    have hs4 := hR2.lt
    unfold kce
    go_wp2_with (refine wpList_store_blk hR4 row_dec6 rfl rfl rfl rfl rfl rfl (by kernel_rfl) ?_; intro w9 hR9 hS9; go_simp)
    rw [HV.out]
    exact bodyPost_ret (results_ct hR9 row_dec6 rfl Tryz.results16 rfl rfl) rfl ⟨q, rfl, hq, hqo.sto hS9 (hqn.off hs4), hS9.below hR4.later (by omega), fun hz a ha => by have := hqn hz a ha; have := hR2.later.size; omega⟩
  · have HV : Hid (V = (Dc.zero, ec)) := by rw [Hid, hV.out, if_neg hec]
    have hb : (ec != (0 : Int)) = true := by simpa using hec
    go_wp2_with (refine wpList_store_blk hR2 row_dec6 rfl rfl rfl rfl rfl rfl (by kernel_rfl) ?_; intro w9 hR9 hS9; go_simp)
    rw [HV.out]
    exact bodyPost_ret (results_ct hR9 row_dec6 rfl Tryz.results16 rfl rfl) rfl ⟨⟨Dc.zero, none, 0, 0⟩, rfl, rfl, IL.nil _, hS9.below hR2.later (by omega), none_new _⟩
set_option maxRecDepth 100000 in
set_option maxHeartbeats 4000000 in
theorem rmove_any (y : RuV) (x : NV) (k : Int) (w : World) (hy : y.ok w) (hx : x.ok w) (hb : y.r.Bd) (hst : y.r.st.l.length ≤ 500) (hr : x.Rd 1000) (hk : -9223372036854775808 ≤ k ∧ k ≤ 9223372036854775807) :
    Calls Tryz.prog 23 #[.agg y.cs, .agg x.cs, .int .i64 k] w (PQ (kce (moveC y.r x.D k).2) (moveC y.r x.D k).1 w) := by
  have hM : Hid (moveC y.r x.D k = if mayDc x.D then (if (timesDc y.r.st k).2 = 0 then valueC y.r (addDc x.D (timesDc y.r.st k).1).1 else (Dc.zero, (timesDc y.r.st k).2)) else (Dc.zero, 1)) := rfl
  have hmay := Lib.hid (fun W (hW : x.ok W) => show Calls Tryz.prog 62 #[.agg x.cs] W (RV W (.bool (mayDc x.D))) from rcmay_any x.D.neg x.D.s W hW hr.s)
  have hti := Lib.hid (fun W (hW : y.ok W) => show Calls Tryz.prog 63 #[.agg #[.bool y.r.st.neg, .slice y.A3 y.n3 y.c3, .int .i64 y.r.st.s], .int .i64 k] W (PQ (kce (timesDc y.r.st k).2) (timesDc y.r.st k).1 W) from
    (rctimes_any _ _ k W hW.2.2 (by have := hW.2.2.len; have := hb.st.2; omega) (may_bd hb.st.1).2 hk).mono fun _ _ h => h.pq)
  have htm := timesDc_may hb.st.1 k
  have htl := times_len (mayDc_iff.1 hb.st.1).1 hst k
  have hxn := hr.n
  have hva := Lib.hid (fun (z : NV) W (hW : y.ok W) (hZ : z.ok W) (hz : z.Rd 3000) => rvalue_any y z W hW hZ hb hz)
  have hB0 := (((Blk.made w w 44 y.cs (Later.refl w) _ rfl).alloc (.cells x.cs 24)).alloc (.cells #[.bool false, .slice none 0 0, .int .i64 0] 24))
  have hB1 := ((Blk.made w (w.alloc (.cells y.cs 44)) 24 x.cs ((Later.refl w).alloc _) (w.heap.size + 1) (by simp)).alloc (.cells #[.bool false, .slice none 0 0, .int .i64 0] 24))
  have hR := (Blk.made w ((w.alloc (.cells y.cs 44)).alloc (.cells x.cs 24)) 24 #[.bool false, .slice none 0 0, .int .i64 0] (((Later.refl w).alloc _).alloc _) (w.heap.size + 2) (by simp))
  generalize hMM : moveC y.r x.D k = MM at *
  clear hMM
  obtain ⟨T, ec, hT⟩ : ∃ T ec, timesDc y.r.st k = (T, ec) := ⟨_, _, rfl⟩
  rw [hT] at hM hti htm htl
  clear hT
  simp only at hM hti htm htl
  go_enter Tryz.func23, Tryz.ntmps23
  go_upto_region 1 with fail
  generalize World.alloc (World.alloc (World.alloc w _) _) _ = w1 at *
  cases hmd : mayDc x.D
  · rw [hmd] at hmay hM
    rw [if_neg (by simp)] at hM
    clear hmd
    go_wp2_with (refine wpList_load_blk hB1 row_dec6 rfl rfl rfl rfl ?_; go_simp)
    refine (hmay.out _ (hx.later hB1.later)).mono ?_
    rintro e w2 ⟨rfl, hB2⟩
    have hR2 := hR.call hB2
    go_wp2_with (refine wpList_store_blk hR2 row_dec6 rfl rfl rfl rfl rfl rfl (by kernel_rfl) ?_; intro w9 hR9 hS9; go_simp)
    rw [hM.out]
    exact bodyPost_ret (results_ct hR9 row_dec6 rfl Tryz.results23 rfl rfl) rfl ⟨⟨Dc.zero, none, 0, 0⟩, rfl, rfl, IL.nil _, hS9.below hR2.later (by omega), none_new _⟩
  · rw [hmd] at hmay hM
    rw [if_pos rfl] at hM
    have hmD := Lib.hid hmd
    clear hmd
    go_wp2_with (refine wpList_load_blk hB1 row_dec6 rfl rfl rfl rfl ?_; go_simp)
    refine (hmay.out _ (hx.later hB1.later)).mono ?_
    rintro e w2 ⟨rfl, hB2⟩
    have hX2 := hB0.call hB2
    have hE2 := hB1.call hB2
    have hR2 := hR.call hB2
    clear hB0 hB1 hR
    go_wp2_with (refine wpList_load_partg ((hX2).part 6 [.bool y.r.st.neg, .slice y.A3 y.n3 y.c3, .int .i64 y.r.st.s] rfl) row_dec6 rfl rfl rfl rfl ?_; go_simp)
    refine (hti.out _ (hy.later hX2.later)).mono ?_
    rintro e w3 ⟨z, rfl, hz, hzo, hB3, _⟩
    unfold kce
    have pZ := Blk.made w w3 24 #[.bool false, .slice none 0 0, .int .i64 0] (hX2.call hB3).later _ rfl
    have hX3_l := (hX2.call hB3).lt
    have hX3_q := (hX2.call hB3).alloc (.cells #[.bool false, .slice none 0 0, .int .i64 0] 24)
    have hE3_l := (hE2.call hB3).lt
    have hE3_q := (hE2.call hB3).alloc (.cells #[.bool false, .slice none 0 0, .int .i64 0] 24)
    have hR3_l := (hR2.call hB3).lt
    have hR3_q := (hR2.call hB3).alloc (.cells #[.bool false, .slice none 0 0, .int .i64 0] 24)
    have hz3_f := (hzo).off (Nat.le_refl _)
    have hz3_q := (hzo).alloc (.cells #[.bool false, .slice none 0 0, .int .i64 0] 24)
    go_upto_region 5 with (first | (refine wpList_store_blk pZ row_dec6 rfl rfl rfl rfl rfl rfl (by kernel_rfl) ?_; intro w4 hF pS; go_simp))
    have hX3 := pS.far hX3_q (by omega) pZ.1
    have hE3 := pS.far hE3_q (by omega) pZ.1
    have hR3 := pS.far hR3_q (by omega) pZ.1
    have hz3 := hz3_q.sto pS hz3_f
    clear pZ pS hX3_l hX3_q hE3_l hE3_q hR3_l hR3_q hz3_f hz3_q
    have hl2 : w.heap.size + 2 < w3.heap.size := (hR2.call hB3).lt
    clear hX2 hE2 hR2 hzo hti
    by_cases hec : ec = 0
    · subst hec
      rw [if_pos rfl] at hM
      have had := Lib.hid (fun W (h1 : x.ok W) (h2 : z.ok W) => show Calls Tryz.prog 64 #[.agg x.cs, .agg z.cs] W (PQ (kce (addDc x.D T).2) (addDc x.D T).1 W) by
        have hz := hz.out
        subst hz
        exact (rcadd_any _ _ _ _ W h1 h2 (by have := h1.len; omega) (by have := h2.len; omega) hr.s (may_bd htm).2).mono fun _ _ h => h.pq)
      have hal := add_len (M := 1000) (N := 1000) (mayDc_iff.1 hmD.out).1 (mayDc_iff.1 htm).1 (by omega) (by omega) (by have := (mayDc_iff.1 hmD.out).2; omega) (by have := (mayDc_iff.1 htm).2; omega)
      have ham : mayDc (addDc x.D T).1 = true := addDc_may _ _
      generalize addDc x.D T = S at *
      obtain ⟨S, es⟩ := S
      simp only at had hal ham hM
      go_wp2_with (first | (refine wpList_load_blkg (hE3) row_dec6 rfl rfl rfl rfl ?_; go_simp) | (refine wpList_load_blkg (hF) row_dec6 rfl rfl rfl rfl ?_; go_simp))
      refine (had.out _ (hx.later hE3.later) hz3).mono ?_
      rintro e w5 ⟨q, rfl, hq, hqo, hB5, _⟩
      unfold kce
      have pZ := Blk.made w w5 24 #[.bool false, .slice none 0 0, .int .i64 0] (hX3.call hB5).later _ rfl
      have hX5_l := (hX3.call hB5).lt
      have hX5_q := (hX3.call hB5).alloc (.cells #[.bool false, .slice none 0 0, .int .i64 0] 24)
      have hR5_l := (hR3.call hB5).lt
      have hR5_q := (hR3.call hB5).alloc (.cells #[.bool false, .slice none 0 0, .int .i64 0] 24)
      have hq5_f := (hqo).off (Nat.le_refl _)
      have hq5_q := (hqo).alloc (.cells #[.bool false, .slice none 0 0, .int .i64 0] 24)
      go_upto_region 8 with (first | (refine wpList_store_blk pZ row_dec6 rfl rfl rfl rfl rfl rfl (by kernel_rfl) ?_; intro w6 hG pS; go_simp))
      have hX5 := pS.far hX5_q (by omega) pZ.1
      have hR5 := pS.far hR5_q (by omega) pZ.1
      have hq5 := hq5_q.sto pS hq5_f
      clear pZ pS hX5_l hX5_q hR5_l hR5_q hq5_f hq5_q
      have hl5 : w.heap.size + 2 < w5.heap.size := (hR3.call hB5).lt
      clear hX3 hE3 hR3 hqo hF
      have hva2 := Lib.hid (fun W (hW : y.ok W) (hZ : q.ok W) => show Calls Tryz.prog 16 #[.agg y.cs, .agg q.cs] W (PQ (kce (valueC y.r S).2) (valueC y.r S).1 W) by
        have hq := hq.out
        subst hq
        exact hva.out q W hW hZ ⟨(may_bd ham).1, (may_bd ham).2, by omega⟩)
      go_wp2_with (first | (refine wpList_load_blkg (hX5) row_rules13 rfl rfl rfl rfl ?_; go_simp) | (refine wpList_load_blkg (hG) row_dec6 rfl rfl rfl rfl ?_; go_simp))
      refine (hva2.out _ (hy.later hX5.later) hq5).mono ?_
      rintro e w7 ⟨s, rfl, hs, hso, hB7, hsn⟩
      have hR7 := hR5.call hB7
      have hl6 := hR5.lt
      unfold kce
      go_wp2_with (refine wpList_store_blk hR7 row_dec6 rfl rfl rfl rfl rfl rfl (by kernel_rfl) ?_; intro w9 hR9 hS9; go_simp)
      rw [hM.out]
      exact bodyPost_ret (results_ct hR9 row_dec6 rfl Tryz.results23 rfl rfl) rfl ⟨s, rfl, hs, hso.sto hS9 (hsn.off hl6), hS9.below hR7.later (by omega), fun hz a ha => by have := hsn hz a ha; have := hR5.later.size; omega⟩
    · rw [if_neg hec] at hM
      have hb : (ec != (0 : Int)) = true := by simpa using hec
      go_wp2_with (refine wpList_store_blk hR3 row_dec6 rfl rfl rfl rfl rfl rfl (by kernel_rfl) ?_; intro w9 hR9 hS9; go_simp)
      rw [hM.out]
      exact bodyPost_ret (results_ct hR9 row_dec6 rfl Tryz.results23 rfl rfl) rfl ⟨⟨Dc.zero, none, 0, 0⟩, rfl, rfl, IL.nil _, hS9.below hR3.later (by omega), none_new _⟩

end Go.Proofs.YtickhmlhciafgaaGreat


namespace Go.Proofs.YtickhmlhciafgaaGreat
open Go.RowKit
set_option linter.unusedVariables false

theorem fit_len {n : Cn} {x : Dc} (hm : mayDc x = true) (ht : trimDc x = x) (hf : fitsC n x = true) (hi : 0 ≤ n.ic ∧ n.ic ≤ 64) (hs : n.sc ≤ 64) : x.l.length ≤ 128 := by
  obtain ⟨q, hq⟩ : ∃ q : Nat, n.ic = q := ⟨n.ic.toNat, by omega⟩
  obtain ⟨h1, h2⟩ := (fits_iff hm ht q hq).1 hf
  obtain ⟨m1, m2, _⟩ := mayDc_iff.1 hm
  have e : x = canon x.s.toNat x.z := by rw [← trimDc_canon m1 m2, ht]
  have h3 : x.z.natAbs < 10 ^ (q + x.s.toNat) := by
    have : ((x.z.natAbs : Nat) : Int) < ((10 ^ (q + x.s.toNat) : Nat) : Int) := by simpa using h1
    exact Int.ofNat_lt.1 this
  have := canon_len (s := x.s.toNat) h3
  rw [← e] at this
  omega
theorem Ru.Ok.lens {r : Ru} (h : r.Ok) : r.lo.l.length ≤ 128 ∧ r.hi.l.length ≤ 128 ∧ r.st.l.length ≤ 128 := by
  have h1 := h.ic
  have h2 := h.sc
  have h3 := h.fc
  exact ⟨fit_len h.lo.1 h.lo.2.1 h.lo.2.2 (by omega) (by omega), fit_len h.hi.1 h.hi.2.1 h.hi.2.2 (by omega) (by omega), fit_len h.st.1 h.st.2.1 h.st.2.2 (by omega) (by omega)⟩
/-- What a move comes to: a value. -/
theorem move_is {r : Ru} (hr : r.Ok) {d : Dc} (hd : d.l.length ≤ 200) {k : Int} (h : (moveC r d k).2 = 0) : ∃ S, mayDc S = true ∧ S.l.length ≤ 2000 ∧ moveC r d k = valueC r S := by
  unfold moveC at h ⊢
  split at h
  · rename_i hm
    split at h
    · rename_i h2
      have ht := timesDc_may hr.st.1 k
      have hl := times_len (mayDc_iff.1 hr.st.1).1 (Nat.le_trans hr.lens.2.2 (show 128 ≤ 196 by decide)) k
      have := add_len (M := 200) (N := 1000) (mayDc_iff.1 hm).1 (mayDc_iff.1 ht).1 hd hl (by have := (mayDc_iff.1 hm).2; omega) (by have := (mayDc_iff.1 ht).2; omega)
      refine ⟨_, addDc_may d (timesDc r.st k).1, by omega, ?_⟩
      rw [if_pos hm, if_pos h2]
    · rename_i h2; exact absurd h h2
  · simp at h
/-- A number within the bounds, of the scale: its draft is done. -/
theorem from_done {r : Ru} (hr : r.Ok) {V : Dc} (v1 : mayDc V = true) (v2 : trimDc V = V) (v3 : ¬ cmpDc V r.lo < 0) (v4 : ¬ 0 < cmpDc V r.hi) (v5 : V.s ≤ r.n.sc) :
    (fromS V r.n.mi r.n.mf).2 = 0 ∧ mayR (fromS V r.n.mi r.n.mf).1 ∧ (fromS V r.n.mi r.n.mf).1.frac.length ≤ 64 ∧ (fromS V r.n.mi r.n.mf).1.int.length ≤ 64 ∧ commitS r (fromS V r.n.mi r.n.mf).1 = fromS V r.n.mi r.n.mf := by
  obtain ⟨m1, m2⟩ := hr.mini
  obtain ⟨f1, f2, f3, _⟩ := from_ok v1 m1 m2
  have hfit := fits_mid hr v1 v2 v3 v4 v5
  have n1 := hr.mi
  have n2 := hr.mf
  have n3 := hr.ic
  have n4 := hr.sc
  have n5 := hr.fc
  have hlen : ((fromS V r.n.mi r.n.mf).1.int.length : Int) ≤ r.n.ic ∧ ((fromS V r.n.mi r.n.mf).1.frac.length : Int) ≤ r.n.sc := by
    unfold fitsC at hfit
    rw [v2, Bool.and_eq_true, decide_eq_true_eq, decide_eq_true_eq] at hfit
    unfold fromS
    rw [if_pos v1, if_pos ⟨m1.1, m1.2, m2.1, m2.2⟩, v2]
    show ((fromD _ _ r.n.mi.toNat r.n.mf.toNat).int.length : Int) ≤ _ ∧ ((fromD _ _ r.n.mi.toNat r.n.mf.toNat).frac.length : Int) ≤ _
    generalize partsS V.l V.s.toNat = P at *
    unfold fromD
    split
    · exact ⟨by show ((1 : Nat) : Int) ≤ _; omega, by show ((0 : Nat) : Int) ≤ _; omega⟩
    · have e4 := wideL_len P.1 r.n.mi.toNat
      refine ⟨?_, ?_⟩
      · show ((wideL P.1 r.n.mi.toNat).length : Int) ≤ _
        omega
      · show ((P.2 ++ List.replicate (r.n.mf.toNat - P.2.length) (0 : Int)).length : Int) ≤ _
        rw [List.length_append, List.length_replicate]
        omega
  have f2' : mayR (fromS V r.n.mi r.n.mf).1 := f2
  rw [v2] at f3
  refine ⟨f1, f2, by omega, by omega, ?_⟩
  rw [commit_eq hr f2' (by omega), f3, value_self hr v1 v2 v5 v3 v4]
theorem step_done {r : Ru} (hr : r.Ok) {d : Dr} (hl : (decD d).l.length ≤ 200) {k : Int} (h : (stepS r d k).2 = 0) :
    mayR (stepS r d k).1 ∧ (stepS r d k).1.frac.length ≤ 64 ∧ (stepS r d k).1.int.length ≤ 64 ∧ commitS r (stepS r d k).1 = stepS r d k := by
  unfold stepS changedS changeS at h ⊢
  split at h
  · rename_i hm
    split at h
    · rename_i h2
      obtain ⟨S, s1, _, s3⟩ := move_is hr hl h2
      obtain ⟨v1, v2, v3, v4, v5⟩ := value_in hr s1
      have := from_done hr v1 v2 v3 v4 v5
      rw [if_pos hm, if_pos h2, s3]
      exact this.2
    · rename_i h2; exact absurd h h2
  · simp at h

end Go.Proofs.YtickhmlhciafgaaGreat

