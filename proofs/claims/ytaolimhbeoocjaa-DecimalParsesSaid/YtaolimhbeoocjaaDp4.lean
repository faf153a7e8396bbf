/- The walk of the program's parsing of a decimal. No condition. -/
import Derived.Test.YtaolimhbeoocjaaDp3
namespace Go.Proofs.Ytaolimhbeoocjaa
open Go.RowKit

theorem cutprefix_lite (s : ByteArray) (w : World) :
    Calls Try.prog 40 #[.string s, .string ⟨#[45]⟩] w fun e w' => e = .returned (.tuple #[.string (bs (bodyB s.data.toList)), .bool (negB s.data.toList)]) ∧ w = w' := by
  have hp := Lib.hid (fun W => hasprefix_any s W)
  have hb : Hid (bodyB s.data.toList = if negB s.data.toList then s.data.toList.drop 1 else s.data.toList) := rfl
  have hz : negB s.data.toList = true → 0 < s.size := fun h => by
    rcases Nat.eq_zero_or_pos s.size with h0 | h0
    · rw [(neg_nil h0).1] at h; cases h
    · exact h0
  have he : Hid (s.extract 1 s.size = bs (s.data.toList.drop 1)) := by
    have e := bs_extract s.data.toList 1 s.size
    rw [bs_back] at e
    have hl : s.data.toList.length = s.size := Array.length_toList
    rw [Hid, e, List.take_of_length_le (by rw [List.length_drop]; omega)]
  have hs0 : Hid (bs s.data.toList = s) := bs_back s
  generalize bodyB s.data.toList = B at *
  generalize hn : negB s.data.toList = nb at *
  clear hn
  cases nb
  · have HB : Hid (bs B = s) := by rw [Hid, hb.out]; exact hs0.out
    go_enter Try.func40, Try.ntmps40
    go_wp2_with fail
    refine (hp.out _).mono ?_
    rintro e _ ⟨rfl, rfl⟩
    go_wp2_with fail
    go_ret2
    exact ⟨by rw [HB.out]; rfl, rfl⟩
  · have HB : Hid (bs B = s.extract 1 s.size) := by rw [Hid, hb.out, he.out]; rfl
    have h1 := hz rfl
    have h2 : (1 : Int) ≤ (s.size : Int) := by omega
    have h3 : 1 ≤ s.size := h1
    go_enter Try.func40, Try.ntmps40
    go_wp2_with fail
    refine (hp.out _).mono ?_
    rintro e _ ⟨rfl, rfl⟩
    go_wp2_with fail
    go_ret2
    exact ⟨by rw [HB.out]; rfl, rfl⟩
theorem cutprefix_any (s : ByteArray) (w : World) :
    Calls Try.prog 23 #[.string s, .string ⟨#[45]⟩] w fun e w' => e = .returned (.tuple #[.string (bs (bodyB s.data.toList)), .bool (negB s.data.toList)]) ∧ w = w' := by
  have hp := Lib.hid (fun W => cutprefix_lite s W)
  generalize bs (bodyB s.data.toList) = B at *
  generalize negB s.data.toList = nb at *
  go_enter Try.func23, Try.ntmps23
  go_wp2_with fail
  refine (hp.out _).mono ?_
  rintro e _ ⟨rfl, rfl⟩
  go_wp2_with fail
  go_ret2
  exact ⟨rfl, rfl⟩
set_option maxHeartbeats 1000000 in
theorem cut_lite (s : ByteArray) (w : World) (hs : s.size ≤ 1000000) :
    Calls Try.prog 41 #[.string s, .string ⟨#[46]⟩] w fun e w' => e = .returned (.tuple #[.string (bs (wholeB s.data.toList)), .string (bs (restB s.data.toList)), .bool (pointB s.data.toList)]) ∧ ∃ k, w' = w.drewN k := by
  have hl : s.data.toList.length = s.size := Array.length_toList
  have hi := Lib.hid (fun W => index_one s 46 W)
  have hx : Hid (Lib.indexByte s.data.toList 46 = if pointB s.data.toList then ((wholeB s.data.toList).length : Int) else -1) := index_point _
  cases hpt : pointB s.data.toList
  · have e1 : Hid (bs (wholeB s.data.toList) = s) := by rw [Hid, whole_no hpt]; exact bs_back s
    have e2 : Hid (bs (restB s.data.toList) = { data := #[] }) := by rw [Hid, rest_no hpt]; rfl
    rw [hpt] at hx
    rw [hx.out] at hi
    simp only [Bool.false_eq_true, if_false] at hi
    clear hl hx hpt
    generalize bs (wholeB s.data.toList) = U at *
    generalize bs (restB s.data.toList) = V at *
    go_enter Try.func41, Try.ntmps41
    go_wp2_with fail
    refine (hi.out _).mono ?_
    rintro e _ ⟨rfl, rfl⟩
    go_wp2_with fail
    go_ret3
    exact ⟨by rw [e1.out, e2.out]; rfl, 0, rfl⟩
  · have hwl := whole_len hpt
    have e1 : Hid (bs (wholeB s.data.toList) = s.extract 0 (wholeB s.data.toList).length) := by
      have e := bs_extract s.data.toList 0 (wholeB s.data.toList).length
      rw [bs_back] at e
      rw [Hid, e, List.drop_zero, Nat.sub_zero]
      congr 1
      exact (List.prefix_iff_eq_take.1 (List.takeWhile_prefix _))
    have e2 : Hid (bs (restB s.data.toList) = s.extract ((wholeB s.data.toList).length + 1) s.size) := by
      have e := bs_extract s.data.toList ((wholeB s.data.toList).length + 1) s.size
      rw [bs_back] at e
      rw [Hid, e, List.take_of_length_le (by rw [List.length_drop]; omega)]
      rfl
    rw [hpt] at hx
    rw [hx.out] at hi
    simp only [if_true] at hi
    generalize bs (wholeB s.data.toList) = U at *
    generalize bs (restB s.data.toList) = V at *
    generalize (wholeB s.data.toList).length = n at *
    have hn : n + 1 ≤ s.size := by omega
    have b0 : n ≤ 1000000 := by omega
    have b1 : (0 : Int) ≤ (n : Int) := by omega
    have b2 : (n : Int) ≤ (s.size : Int) := by omega
    have b3 : (0 : Int) ≤ (n : Int) + 1 := by omega
    have b4 : (n : Int) + 1 ≤ (s.size : Int) := by omega
    clear hl hx hpt hwl
    go_enter Try.func41, Try.ntmps41
    go_wp2_with fail
    refine (hi.out _).mono ?_
    rintro e _ ⟨rfl, rfl⟩
    go_wp2_with fail
    go_region
    all_goals
      go_wp2_with fail
      go_ret3
      exact ⟨by rw [e1.out, e2.out]; rfl, 1, rfl⟩
theorem cut_any (s : ByteArray) (w : World) (hs : s.size ≤ 1000000) :
    Calls Try.prog 24 #[.string s, .string ⟨#[46]⟩] w (RV w (.tuple #[.string (bs (wholeB s.data.toList)), .string (bs (restB s.data.toList)), .bool (pointB s.data.toList)])) := by
  have hp := Lib.hid (fun W => cut_lite s W hs)
  generalize bs (wholeB s.data.toList) = U at *
  generalize bs (restB s.data.toList) = V at *
  generalize pointB s.data.toList = nb at *
  go_enter Try.func24, Try.ntmps24
  go_wp2_with fail
  refine (hp.out _).mono ?_
  rintro e w' ⟨rfl, k, rfl⟩
  go_wp2_with fail
  go_ret3
  exact ⟨rfl, below_drewN _ _ k⟩
set_option maxHeartbeats 4000000 in
theorem cparse_any (s : ByteArray) (w : World) (hs : s.size ≤ 100000) :
    Calls Try.prog 10 #[.string s] w (RCE w (parseS s.data.toList).1 (parseS s.data.toList).2) := by
  have hl : s.data.toList.length = s.size := Array.length_toList
  have hcp := Lib.hid (fun W => cutprefix_any s W)
  have hbl : (bodyB s.data.toList).length ≤ s.size := by unfold bodyB; split <;> simp <;> omega
  obtain ⟨D, hD⟩ : ∃ D, parseS s.data.toList = D := ⟨_, rfl⟩
  have HD0 : Hid (D = parseB (negB s.data.toList) (bodyB s.data.toList)) := hD.symm
  rw [hD]
  clear hD
  generalize negB s.data.toList = nb at *
  generalize bodyB s.data.toList = p at *
  have hct := Lib.hid (fun W => cut_any (bs p) W (by rw [bs_size]; omega))
  rw [bs_list] at hct
  have hdw := Lib.hid (fun W => digits_any (bs (wholeB p)) W)
  have hdr := Lib.hid (fun W => digits_any (bs (restB p)) W)
  rw [bs_list] at hdw hdr
  have hwl : (wholeB p).length ≤ p.length := (List.takeWhile_prefix _).length_le
  have hrl : (restB p).length ≤ p.length := by unfold restB; rw [List.length_drop]; omega
  have hpa := Lib.hid (fun W => parse_any (bs (wholeB p ++ restB p)) W (by rw [bs_size, List.length_append]; omega))
  rw [bs_list] at hpa
  have hcat : Hid (bs (wholeB p) ++ bs (restB p) = bs (wholeB p ++ restB p)) := bs_append _ _
  have hzr : Hid ((bs (restB p)).size = (restB p).length) := bs_size _
  have hR0 := Blk.made w w 32 #[.bool false, .slice none 0 0, .int .i64 0] (Later.refl w) _ rfl
  have hnr : pointB p = false → restB p = [] := rest_no
  obtain ⟨NR, hNR⟩ : ∃ x, x = (restB p).length := ⟨_, rfl⟩
  by_cases hg : (isDs (wholeB p) && (!pointB p || isDs (restB p))) = true
  case neg =>
    have HD : Hid (D = (Dc.zero, 2)) := by rw [Hid, HD0.out]; unfold parseB; rw [if_neg hg]
    clear HD0 hpa hcat hzr hNR hwl hrl hbl hl hnr
    generalize isDs (wholeB p) = dw at *
    generalize isDs (restB p) = dr at *
    generalize pointB p = pt at *
    generalize bs (wholeB p) = U at *
    generalize bs (restB p) = V at *
    generalize bs p = Q at *
    cases dw
    · clear hg hdr
      go_enter Try.func10, Try.ntmps10
      go_wp2_with fail
      refine (hcp.out _).mono ?_
      rintro e _ ⟨rfl, rfl⟩
      go_wp2_with fail
      refine (hct.out _).mono ?_
      rintro e w2 ⟨rfl, hB2⟩
      go_wp2_with fail
      refine (hdw.out _).mono ?_
      rintro e w3 ⟨rfl, hB3⟩
      have hR := (hR0.call hB2).call hB3
      obtain ⟨⟨r0, r1, r2⟩, ⟨r3, r4, r5⟩⟩ := hR.cells3
      go_wp2_with fail
      rw [HD.out]
      obtain ⟨⟨z0, z1, z2⟩, _⟩ := (hR.store3 (.bool false) (.slice none 0 0) (.int .i64 0)).cells3
      exact bodyPost_ret (v := .tuple #[.agg #[.bool false, .slice none 0 0, .int .i64 0], .int .i64 2]) (by generalize World.setCell (World.setCell (World.setCell _ _ _) _ _) _ _ = W3 at z0 z1 z2 ⊢; simp [results, Try.results10, go_sem, z0, z1, z2]) rfl
        ⟨none, 0, 0, rfl, IL.nil _, below_set3 hR.later (Nat.le_refl _) _ _ _, none_new _⟩
    · have hpt : pt = true := by cases pt <;> simp at hg ⊢
      have hdf : dr = false := by rw [hpt] at hg; cases dr <;> simp at hg ⊢
      subst hpt hdf
      clear hg
      go_enter Try.func10, Try.ntmps10
      go_wp2_with fail
      refine (hcp.out _).mono ?_
      rintro e _ ⟨rfl, rfl⟩
      go_wp2_with fail
      refine (hct.out _).mono ?_
      rintro e w2 ⟨rfl, hB2⟩
      go_wp2_with fail
      refine (hdw.out _).mono ?_
      rintro e w3 ⟨rfl, hB3⟩
      go_wp2_with fail
      refine (hdr.out _).mono ?_
      rintro e w4 ⟨rfl, hB4⟩
      have hR := ((hR0.call hB2).call hB3).call hB4
      obtain ⟨⟨r0, r1, r2⟩, ⟨r3, r4, r5⟩⟩ := hR.cells3
      go_wp2_with fail
      rw [HD.out]
      obtain ⟨⟨z0, z1, z2⟩, _⟩ := (hR.store3 (.bool false) (.slice none 0 0) (.int .i64 0)).cells3
      exact bodyPost_ret (v := .tuple #[.agg #[.bool false, .slice none 0 0, .int .i64 0], .int .i64 2]) (by generalize World.setCell (World.setCell (World.setCell _ _ _) _ _) _ _ = W3 at z0 z1 z2 ⊢; simp [results, Try.results10, go_sem, z0, z1, z2]) rfl
        ⟨none, 0, 0, rfl, IL.nil _, below_set3 hR.later (Nat.le_refl _) _ _ _, none_new _⟩
  case pos =>
  have HDp : Hid (D = if NR ≤ 1000 then (⟨nb, digsOf (wholeB p ++ restB p), (NR : Int)⟩, 0) else (Dc.zero, 3)) := by rw [Hid, HD0.out, hNR]; unfold parseB; rw [if_pos hg]
  have hall : (wholeB p ++ restB p).all isB = true := by
    simp only [Bool.and_eq_true, Bool.or_eq_true, isDs, Bool.not_eq_true'] at hg
    rw [List.all_append, hg.1.2]
    rcases hg.2 with q | q
    · rw [hnr q]; rfl
    · rw [q.2]; rfl
  rw [parse_good hall] at hpa
  rw [show ((wholeB p ++ restB p).map fun c => (c.toNat : Int) - 48) = digsOf (wholeB p ++ restB p) from rfl] at hpa
  simp only at hpa
  have hdw1 : isDs (wholeB p) = true := by rw [Bool.and_eq_true] at hg; exact hg.1
  have hdr1 : pointB p = true → isDs (restB p) = true := fun h => by rw [h, Bool.and_eq_true] at hg; simpa using hg.2
  rw [hdw1] at hdw
  have hzR : (bs (restB p)).size = NR := by rw [hzr.out, hNR]
  have hzW : (bs (wholeB p)).size + NR ≤ 200000 := by rw [bs_size, hNR]; omega
  have hNRb : NR ≤ 100000 := by omega
  clear HD0 hg hall hwl hrl hbl hl hnr hzr hNR
  generalize digsOf (wholeB p ++ restB p) = Z at *
  generalize bs (wholeB p ++ restB p) = UV at *
  generalize hpt : pointB p = pt at *
  clear hpt
  have hcs : pt = true → Hid (∀ W, Calls Try.prog 25 #[.string (bs (restB p))] W (RV W (.bool true))) := fun h => by
    rw [hdr1 h] at hdr; exact hdr
  clear hdr hdr1 hdw1
  generalize bs (wholeB p) = U at *
  generalize bs (restB p) = V at *
  generalize bs p = Q at *
  cases pt
  · by_cases h1 : NR ≤ 1000
    · have HD : Hid (D = (⟨nb, Z, (NR : Int)⟩, 0)) := by rw [Hid, HDp.out, if_pos h1]
      have h2 : ¬ (1000 : Int) < (NR : Int) := by omega
      clear HDp
      go_enter Try.func10, Try.ntmps10
      go_wp2_with fail
      refine (hcp.out _).mono ?_
      rintro e _ ⟨rfl, rfl⟩
      go_wp2_with fail
      refine (hct.out _).mono ?_
      rintro e w2 ⟨rfl, hB2⟩
      go_wp2_with fail
      refine (hdw.out _).mono ?_
      rintro e w3 ⟨rfl, hB3⟩
      have hR := (hR0.call hB2).call hB3
      go_wp2_with fail
      rw [hcat.out]
      refine (hpa.out _).mono ?_
      rintro e w5 ⟨A, n, c, rfl, hO, hB5⟩
      have hR5 := hR.call hB5
      obtain ⟨⟨r0, r1, r2⟩, ⟨r3, r4, r5⟩⟩ := hR5.cells3
      have hap : 0 < n → ∀ a, A = some a → w.heap.size + 1 ≤ a.block := hO.newer hR.lt
      go_wp2_with fail
      rw [HD.out]
      obtain ⟨⟨z0, z1, z2⟩, _⟩ := (hR5.store3 (.bool nb) (.slice A n c) (.int .i64 (NR : Int))).cells3
      exact bodyPost_ret (v := .tuple #[.agg #[.bool nb, .slice A n c, .int .i64 (NR : Int)], .int .i64 0]) (by generalize World.setCell (World.setCell (World.setCell _ _ _) _ _) _ _ = W3 at z0 z1 z2 ⊢; simp [results, Try.results10, go_sem, z0, z1, z2]) rfl
        ⟨A, n, c, rfl, hO.il.set3 (fun hz a ha => by have := hap hz a ha; omega) _ _ _, below_set3 hR5.later (Nat.le_refl _) _ _ _, fun hz a ha => by have := hap hz a ha; omega⟩
    · have HD : Hid (D = (Dc.zero, 3)) := by rw [Hid, HDp.out, if_neg h1]
      have h2 : (1000 : Int) < (NR : Int) := by omega
      clear HDp
      go_enter Try.func10, Try.ntmps10
      go_wp2_with fail
      refine (hcp.out _).mono ?_
      rintro e _ ⟨rfl, rfl⟩
      go_wp2_with fail
      refine (hct.out _).mono ?_
      rintro e w2 ⟨rfl, hB2⟩
      go_wp2_with fail
      refine (hdw.out _).mono ?_
      rintro e w3 ⟨rfl, hB3⟩
      have hR := (hR0.call hB2).call hB3
      obtain ⟨⟨r0, r1, r2⟩, ⟨r3, r4, r5⟩⟩ := hR.cells3
      go_wp2_with fail
      rw [HD.out]
      obtain ⟨⟨z0, z1, z2⟩, _⟩ := (hR.store3 (.bool false) (.slice none 0 0) (.int .i64 0)).cells3
      exact bodyPost_ret (v := .tuple #[.agg #[.bool false, .slice none 0 0, .int .i64 0], .int .i64 3]) (by generalize World.setCell (World.setCell (World.setCell _ _ _) _ _) _ _ = W3 at z0 z1 z2 ⊢; simp [results, Try.results10, go_sem, z0, z1, z2]) rfl
        ⟨none, 0, 0, rfl, IL.nil _, below_set3 hR.later (Nat.le_refl _) _ _ _, none_new _⟩
  · have hdr := hcs rfl
    by_cases h1 : NR ≤ 1000
    · have HD : Hid (D = (⟨nb, Z, (NR : Int)⟩, 0)) := by rw [Hid, HDp.out, if_pos h1]
      have h2 : ¬ (1000 : Int) < (NR : Int) := by omega
      clear HDp
      go_enter Try.func10, Try.ntmps10
      go_wp2_with fail
      refine (hcp.out _).mono ?_
      rintro e _ ⟨rfl, rfl⟩
      go_wp2_with fail
      refine (hct.out _).mono ?_
      rintro e w2 ⟨rfl, hB2⟩
      go_wp2_with fail
      refine (hdw.out _).mono ?_
      rintro e w3 ⟨rfl, hB3⟩
      go_wp2_with fail
      refine (hdr.out _).mono ?_
      rintro e w4 ⟨rfl, hB4⟩
      have hR := ((hR0.call hB2).call hB3).call hB4
      go_wp2_with fail
      rw [hcat.out]
      refine (hpa.out _).mono ?_
      rintro e w5 ⟨A, n, c, rfl, hO, hB5⟩
      have hR5 := hR.call hB5
      obtain ⟨⟨r0, r1, r2⟩, ⟨r3, r4, r5⟩⟩ := hR5.cells3
      have hap : 0 < n → ∀ a, A = some a → w.heap.size + 1 ≤ a.block := hO.newer hR.lt
      go_wp2_with fail
      rw [HD.out]
      obtain ⟨⟨z0, z1, z2⟩, _⟩ := (hR5.store3 (.bool nb) (.slice A n c) (.int .i64 (NR : Int))).cells3
      exact bodyPost_ret (v := .tuple #[.agg #[.bool nb, .slice A n c, .int .i64 (NR : Int)], .int .i64 0]) (by generalize World.setCell (World.setCell (World.setCell _ _ _) _ _) _ _ = W3 at z0 z1 z2 ⊢; simp [results, Try.results10, go_sem, z0, z1, z2]) rfl
        ⟨A, n, c, rfl, hO.il.set3 (fun hz a ha => by have := hap hz a ha; omega) _ _ _, below_set3 hR5.later (Nat.le_refl _) _ _ _, fun hz a ha => by have := hap hz a ha; omega⟩
    · have HD : Hid (D = (Dc.zero, 3)) := by rw [Hid, HDp.out, if_neg h1]
      have h2 : (1000 : Int) < (NR : Int) := by omega
      clear HDp
      go_enter Try.func10, Try.ntmps10
      go_wp2_with fail
      refine (hcp.out _).mono ?_
      rintro e _ ⟨rfl, rfl⟩
      go_wp2_with fail
      refine (hct.out _).mono ?_
      rintro e w2 ⟨rfl, hB2⟩
      go_wp2_with fail
      refine (hdw.out _).mono ?_
      rintro e w3 ⟨rfl, hB3⟩
      go_wp2_with fail
      refine (hdr.out _).mono ?_
      rintro e w4 ⟨rfl, hB4⟩
      have hR := ((hR0.call hB2).call hB3).call hB4
      obtain ⟨⟨r0, r1, r2⟩, ⟨r3, r4, r5⟩⟩ := hR.cells3
      go_wp2_with fail
      rw [HD.out]
      obtain ⟨⟨z0, z1, z2⟩, _⟩ := (hR.store3 (.bool false) (.slice none 0 0) (.int .i64 0)).cells3
      exact bodyPost_ret (v := .tuple #[.agg #[.bool false, .slice none 0 0, .int .i64 0], .int .i64 3]) (by generalize World.setCell (World.setCell (World.setCell _ _ _) _ _) _ _ = W3 at z0 z1 z2 ⊢; simp [results, Try.results10, go_sem, z0, z1, z2]) rfl
        ⟨none, 0, 0, rfl, IL.nil _, below_set3 hR.later (Nat.le_refl _) _ _ _, none_new _⟩
end Go.Proofs.Ytaolimhbeoocjaa
