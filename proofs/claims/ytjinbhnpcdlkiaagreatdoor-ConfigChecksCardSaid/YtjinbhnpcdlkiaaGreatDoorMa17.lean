/- The walk of the document's parts of a decimal. No condition. -/
import Derived.Test.YtjinbhnpcdlkiaaGreatDoorMa16
import Derived.Test.YtjinbhnpcdlkiaaGreatDoorMa14
import Derived.Test.YtjinbhnpcdlkiaaGreatDoorMa07
import Derived.Deep.DeepCutAuto
namespace Go.Proofs.YtjinbhnpcdlkiaaGreatDoor
open Go.RowKit

set_option maxRecDepth 100000 in
theorem cutprefix_lite (s : ByteArray) (w : World) :
    Calls Tryz.prog 81 #[.string s, .string ⟨#[45]⟩] w fun e w' => e = .returned (.tuple #[.string (bs (bodyB s.data.toList)), .bool (negB s.data.toList)]) ∧ w = w' := by
  have hp := Lib.hid (fun W => hasprefix_any s W)
  have hb : Hid (bodyB s.data.toList = if negB s.data.toList then s.data.toList.drop 1 else s.data.toList) := rfl
  have hz : negB s.data.toList = true → 0 < s.size := fun h => by
    rcases Nat.eq_zero_or_pos s.size with h0 | h0
    · rw [(neg_nil h0).1] at h; cases h
    · exact h0
  have he : Hid (s.extract 1 s.size = bs (s.data.toList.drop 1)) := by
    have e := bs_extract s.data.toList 1 s.size
    rw [bs_back] at e
    have hl : s.data.toList.length = s.size := Array.length_toList
    rw [Hid, e, List.take_of_length_le (by rw [List.length_drop]; omega)]
  have hs0 : Hid (bs s.data.toList = s) := bs_back s
  generalize bodyB s.data.toList = B at *
  generalize hn : negB s.data.toList = nb at *
  clear hn
  cases nb
  · have HB : Hid (bs B = s) := by rw [Hid, hb.out]; exact hs0.out
    go_enter Tryz.func81, Tryz.ntmps81
    go_wp2_with fail
    refine (hp.out _).mono ?_
    rintro e _ ⟨rfl, rfl⟩
    go_wp2_with fail
    go_ret2
    exact ⟨by rw [HB.out]; rfl, rfl⟩
  · have HB : Hid (bs B = s.extract 1 s.size) := by rw [Hid, hb.out, he.out]; rfl
    have h1 := hz rfl
    have h2 : (1 : Int) ≤ (s.size : Int) := by omega
    have h3 : 1 ≤ s.size := h1
    go_enter Tryz.func81, Tryz.ntmps81
    go_wp2_with fail
    refine (hp.out _).mono ?_
    rintro e _ ⟨rfl, rfl⟩
    go_wp2_with fail
    go_ret2
    exact ⟨by rw [HB.out]; rfl, rfl⟩
set_option maxRecDepth 100000 in
theorem cutprefix_any (s : ByteArray) (w : World) :
    Calls Tryz.prog 61 #[.string s, .string ⟨#[45]⟩] w fun e w' => e = .returned (.tuple #[.string (bs (bodyB s.data.toList)), .bool (negB s.data.toList)]) ∧ w = w' := by
  have hp := Lib.hid (fun W => cutprefix_lite s W)
  generalize bs (bodyB s.data.toList) = B at *
  generalize negB s.data.toList = nb at *
  go_enter Tryz.func61, Tryz.ntmps61
  go_wp2_with fail
  refine (hp.out _).mono ?_
  rintro e _ ⟨rfl, rfl⟩
  go_wp2_with fail
  go_ret2
  exact ⟨rfl, rfl⟩
set_option maxRecDepth 100000 in
set_option maxHeartbeats 1000000 in
theorem cut_lite (s : ByteArray) (w : World) (hs : s.size ≤ 1000000) :
    Calls Tryz.prog 82 #[.string s, .string ⟨#[46]⟩] w fun e w' => e = .returned (.tuple #[.string (bs (wholeB s.data.toList)), .string (bs (restB s.data.toList)), .bool (pointB s.data.toList)]) ∧ ∃ k, w' = w.drewN k := by
  have hl : s.data.toList.length = s.size := Array.length_toList
  have hi := Lib.hid (fun W => index_one s 46 W)
  have hx : Hid (Lib.indexByte s.data.toList 46 = if pointB s.data.toList then ((wholeB s.data.toList).length : Int) else -1) := index_point _
  cases hpt : pointB s.data.toList
  · have e1 : Hid (bs (wholeB s.data.toList) = s) := by rw [Hid, whole_no hpt]; exact bs_back s
    have e2 : Hid (bs (restB s.data.toList) = { data := #[] }) := by rw [Hid, rest_no hpt]; rfl
    rw [hpt] at hx
    rw [hx.out] at hi
    simp only [Bool.false_eq_true, if_false] at hi
    clear hl hx hpt
    generalize bs (wholeB s.data.toList) = U at *
    generalize bs (restB s.data.toList) = V at *
    go_enter Tryz.func82, Tryz.ntmps82
    go_wp2_with fail
    refine (hi.out _).mono ?_
    rintro e _ ⟨rfl, rfl⟩
    go_wp2_with fail
    go_ret3
    exact ⟨by rw [e1.out, e2.out]; rfl, 0, rfl⟩
  · have hwl := whole_len hpt
    have e1 : Hid (bs (wholeB s.data.toList) = s.extract 0 (wholeB s.data.toList).length) := by
      have e := bs_extract s.data.toList 0 (wholeB s.data.toList).length
      rw [bs_back] at e
      rw [Hid, e, List.drop_zero, Nat.sub_zero]
      congr 1
      exact (List.prefix_iff_eq_take.1 (List.takeWhile_prefix _))
    have e2 : Hid (bs (restB s.data.toList) = s.extract ((wholeB s.data.toList).length + 1) s.size) := by
      have e := bs_extract s.data.toList ((wholeB s.data.toList).length + 1) s.size
      rw [bs_back] at e
      rw [Hid, e, List.take_of_length_le (by rw [List.length_drop]; omega)]
      rfl
    rw [hpt] at hx
    rw [hx.out] at hi
    simp only [if_true] at hi
    generalize bs (wholeB s.data.toList) = U at *
    generalize bs (restB s.data.toList) = V at *
    generalize (wholeB s.data.toList).length = n at *
    have hn : n + 1 ≤ s.size := by omega
    have b0 : n ≤ 1000000 := by omega
    have b1 : (0 : Int) ≤ (n : Int) := by omega
    have b2 : (n : Int) ≤ (s.size : Int) := by omega
    have b3 : (0 : Int) ≤ (n : Int) + 1 := by omega
    have b4 : (n : Int) + 1 ≤ (s.size : Int) := by omega
    clear hl hx hpt hwl
    go_enter Tryz.func82, Tryz.ntmps82
    go_wp2_with fail
    refine (hi.out _).mono ?_
    rintro e _ ⟨rfl, rfl⟩
    go_wp2_with fail
    go_region
    all_goals
      go_wp2_with fail
      go_ret3
      exact ⟨by rw [e1.out, e2.out]; rfl, 1, rfl⟩
set_option maxRecDepth 100000 in
theorem cut_any (s : ByteArray) (w : World) (hs : s.size ≤ 1000000) :
    Calls Tryz.prog 62 #[.string s, .string ⟨#[46]⟩] w (RV w (.tuple #[.string (bs (wholeB s.data.toList)), .string (bs (restB s.data.toList)), .bool (pointB s.data.toList)])) := by
  have hp := Lib.hid (fun W => cut_lite s W hs)
  generalize bs (wholeB s.data.toList) = U at *
  generalize bs (restB s.data.toList) = V at *
  generalize pointB s.data.toList = nb at *
  go_enter Tryz.func62, Tryz.ntmps62
  go_wp2_with fail
  refine (hp.out _).mono ?_
  rintro e w' ⟨rfl, k, rfl⟩
  go_wp2_with fail
  go_ret3
  exact ⟨rfl, below_drewN _ _ k⟩
set_option maxRecDepth 100000 in
set_option maxHeartbeats 4000000 in
theorem cparse_any (s : ByteArray) (w : World) (hs : s.size ≤ 100000) :
    Calls Tryz.prog 40 #[.string s] w (RCE w (parseS s.data.toList).1 (parseS s.data.toList).2) := by
  have hl : s.data.toList.length = s.size := Array.length_toList
  have hcp := Lib.hid (fun W => cutprefix_any s W)
  have hbl : (bodyB s.data.toList).length ≤ s.size := by unfold bodyB; split <;> simp <;> omega
  obtain ⟨D, hD⟩ : ∃ D, parseS s.data.toList = D := ⟨_, rfl⟩
  have HD0 : Hid (D = parseB (negB s.data.toList) (bodyB s.data.toList)) := hD.symm
  rw [hD]
  clear hD
  generalize negB s.data.toList = nb at *
  generalize bodyB s.data.toList = p at *
  have hct := Lib.hid (fun W => cut_any (bs p) W (by rw [bs_size]; omega))
  rw [bs_list] at hct
  have hdw := Lib.hid (fun W => digits_any (bs (wholeB p)) W)
  have hdr := Lib.hid (fun W => digits_any (bs (restB p)) W)
  rw [bs_list] at hdw hdr
  have hwl : (wholeB p).length ≤ p.length := (List.takeWhile_prefix _).length_le
  have hrl : (restB p).length ≤ p.length := by unfold restB; rw [List.length_drop]; omega
  have hpa := Lib.hid (fun W => parse_any (bs (wholeB p ++ restB p)) W (by rw [bs_size, List.length_append]; omega))
  rw [bs_list] at hpa
  have hcat : Hid (bs (wholeB p) ++ bs (restB p) = bs (wholeB p ++ restB p)) := bs_append _ _
  have hzr : Hid ((bs (restB p)).size = (restB p).length) := bs_size _
  have hR0 := Blk.made w w 36 #[.bool false, .slice none 0 0, .int .i64 0] (Later.refl w) _ rfl
  have hnr : pointB p = false → restB p = [] := rest_no
  obtain ⟨NR, hNR⟩ : ∃ x, x = (restB p).length := ⟨_, rfl⟩
  by_cases hg : (isDs (wholeB p) && (!pointB p || isDs (restB p))) = true
  case neg =>
    have HD : Hid (D = (Dc.zero, 2)) := by rw [Hid, HD0.out]; unfold parseB; rw [if_neg hg]
    clear HD0 hpa hcat hzr hNR hwl hrl hbl hl hnr
    generalize isDs (wholeB p) = dw at *
    generalize isDs (restB p) = dr at *
    generalize pointB p = pt at *
    generalize bs (wholeB p) = U at *
    generalize bs (restB p) = V at *
    generalize bs p = Q at *
    cases dw
    · clear hg hdr
      go_enter Tryz.func40, Tryz.ntmps40
      go_wp2_with fail
      refine (hcp.out _).mono ?_
      rintro e _ ⟨rfl, rfl⟩
      go_wp2_with fail
      refine (hct.out _).mono ?_
      rintro e w2 ⟨rfl, hB2⟩
      go_wp2_with fail
      refine (hdw.out _).mono ?_
      rintro e w3 ⟨rfl, hB3⟩
      have hR := (hR0.call hB2).call hB3
      obtain ⟨⟨r0, r1, r2⟩, ⟨r3, r4, r5⟩⟩ := hR.cells3
      go_wp2_with fail
      rw [HD.out]
      obtain ⟨⟨z0, z1, z2⟩, _⟩ := (hR.store3 (.bool false) (.slice none 0 0) (.int .i64 0)).cells3
      exact bodyPost_ret (v := .tuple #[.agg #[.bool false, .slice none 0 0, .int .i64 0], .int .i64 2]) (by generalize World.setCell (World.setCell (World.setCell _ _ _) _ _) _ _ = W3 at z0 z1 z2 ⊢; simp [results, Tryz.results40, go_sem, z0, z1, z2]) rfl
        ⟨none, 0, 0, rfl, IL.nil _, below_set3 hR.later (Nat.le_refl _) _ _ _, none_new _⟩
    · have hpt : pt = true := by cases pt <;> simp at hg ⊢
      have hdf : dr = false := by rw [hpt] at hg; cases dr <;> simp at hg ⊢
      subst hpt hdf
      clear hg
      go_enter Tryz.func40, Tryz.ntmps40
      go_wp2_with fail
      refine (hcp.out _).mono ?_
      rintro e _ ⟨rfl, rfl⟩
      go_wp2_with fail
      refine (hct.out _).mono ?_
      rintro e w2 ⟨rfl, hB2⟩
      go_wp2_with fail
      refine (hdw.out _).mono ?_
      rintro e w3 ⟨rfl, hB3⟩
      go_wp2_with fail
      refine (hdr.out _).mono ?_
      rintro e w4 ⟨rfl, hB4⟩
      have hR := ((hR0.call hB2).call hB3).call hB4
      obtain ⟨⟨r0, r1, r2⟩, ⟨r3, r4, r5⟩⟩ := hR.cells3
      go_wp2_with fail
      rw [HD.out]
      obtain ⟨⟨z0, z1, z2⟩, _⟩ := (hR.store3 (.bool false) (.slice none 0 0) (.int .i64 0)).cells3
      exact bodyPost_ret (v := .tuple #[.agg #[.bool false, .slice none 0 0, .int .i64 0], .int .i64 2]) (by generalize World.setCell (World.setCell (World.setCell _ _ _) _ _) _ _ = W3 at z0 z1 z2 ⊢; simp [results, Tryz.results40, go_sem, z0, z1, z2]) rfl
        ⟨none, 0, 0, rfl, IL.nil _, below_set3 hR.later (Nat.le_refl _) _ _ _, none_new _⟩
  case pos =>
  have HDp : Hid (D = if NR ≤ 1000 then (⟨nb, digsOf (wholeB p ++ restB p), (NR : Int)⟩, 0) else (Dc.zero, 3)) := by rw [Hid, HD0.out, hNR]; unfold parseB; rw [if_pos hg]
  have hall : (wholeB p ++ restB p).all isB = true := by
    simp only [Bool.and_eq_true, Bool.or_eq_true, isDs, Bool.not_eq_true'] at hg
    rw [List.all_append, hg.1.2]
    rcases hg.2 with q | q
    · rw [hnr q]; rfl
    · rw [q.2]; rfl
  rw [parse_good hall] at hpa
  rw [show ((wholeB p ++ restB p).map fun c => (c.toNat : Int) - 48) = digsOf (wholeB p ++ restB p) from rfl] at hpa
  simp only at hpa
  have hdw1 : isDs (wholeB p) = true := by rw [Bool.and_eq_true] at hg; exact hg.1
  have hdr1 : pointB p = true → isDs (restB p) = true := fun h => by rw [h, Bool.and_eq_true] at hg; simpa using hg.2
  rw [hdw1] at hdw
  have hzR : (bs (restB p)).size = NR := by rw [hzr.out, hNR]
  have hzW : (bs (wholeB p)).size + NR ≤ 200000 := by rw [bs_size, hNR]; omega
  have hNRb : NR ≤ 100000 := by omega
  clear HD0 hg hall hwl hrl hbl hl hnr hzr hNR
  generalize digsOf (wholeB p ++ restB p) = Z at *
  generalize bs (wholeB p ++ restB p) = UV at *
  generalize hpt : pointB p = pt at *
  clear hpt
  have hcs : pt = true → Hid (∀ W, Calls Tryz.prog 63 #[.string (bs (restB p))] W (RV W (.bool true))) := fun h => by
    rw [hdr1 h] at hdr; exact hdr
  clear hdr hdr1 hdw1
  generalize bs (wholeB p) = U at *
  generalize bs (restB p) = V at *
  generalize bs p = Q at *
  cases pt
  · by_cases h1 : NR ≤ 1000
    · have HD : Hid (D = (⟨nb, Z, (NR : Int)⟩, 0)) := by rw [Hid, HDp.out, if_pos h1]
      have h2 : ¬ (1000 : Int) < (NR : Int) := by omega
      clear HDp
      go_enter Tryz.func40, Tryz.ntmps40
      go_wp2_with fail
      refine (hcp.out _).mono ?_
      rintro e _ ⟨rfl, rfl⟩
      go_wp2_with fail
      refine (hct.out _).mono ?_
      rintro e w2 ⟨rfl, hB2⟩
      go_wp2_with fail
      refine (hdw.out _).mono ?_
      rintro e w3 ⟨rfl, hB3⟩
      have hR := (hR0.call hB2).call hB3
      go_wp2_with fail
      rw [hcat.out]
      refine (hpa.out _).mono ?_
      rintro e w5 ⟨A, n, c, rfl, hO, hB5⟩
      have hR5 := hR.call hB5
      obtain ⟨⟨r0, r1, r2⟩, ⟨r3, r4, r5⟩⟩ := hR5.cells3
      have hap : 0 < n → ∀ a, A = some a → w.heap.size + 1 ≤ a.block := hO.newer hR.lt
      go_wp2_with fail
      rw [HD.out]
      obtain ⟨⟨z0, z1, z2⟩, _⟩ := (hR5.store3 (.bool nb) (.slice A n c) (.int .i64 (NR : Int))).cells3
      exact bodyPost_ret (v := .tuple #[.agg #[.bool nb, .slice A n c, .int .i64 (NR : Int)], .int .i64 0]) (by generalize World.setCell (World.setCell (World.setCell _ _ _) _ _) _ _ = W3 at z0 z1 z2 ⊢; simp [results, Tryz.results40, go_sem, z0, z1, z2]) rfl
        ⟨A, n, c, rfl, hO.il.set3 (fun hz a ha => by have := hap hz a ha; omega) _ _ _, below_set3 hR5.later (Nat.le_refl _) _ _ _, fun hz a ha => by have := hap hz a ha; omega⟩
    · have HD : Hid (D = (Dc.zero, 3)) := by rw [Hid, HDp.out, if_neg h1]
      have h2 : (1000 : Int) < (NR : Int) := by omega
      clear HDp
      go_enter Tryz.func40, Tryz.ntmps40
      go_wp2_with fail
      refine (hcp.out _).mono ?_
      rintro e _ ⟨rfl, rfl⟩
      go_wp2_with fail
      refine (hct.out _).mono ?_
      rintro e w2 ⟨rfl, hB2⟩
      go_wp2_with fail
      refine (hdw.out _).mono ?_
      rintro e w3 ⟨rfl, hB3⟩
      have hR := (hR0.call hB2).call hB3
      obtain ⟨⟨r0, r1, r2⟩, ⟨r3, r4, r5⟩⟩ := hR.cells3
      go_wp2_with fail
      rw [HD.out]
      obtain ⟨⟨z0, z1, z2⟩, _⟩ := (hR.store3 (.bool false) (.slice none 0 0) (.int .i64 0)).cells3
      exact bodyPost_ret (v := .tuple #[.agg #[.bool false, .slice none 0 0, .int .i64 0], .int .i64 3]) (by generalize World.setCell (World.setCell (World.setCell _ _ _) _ _) _ _ = W3 at z0 z1 z2 ⊢; simp [results, Tryz.results40, go_sem, z0, z1, z2]) rfl
        ⟨none, 0, 0, rfl, IL.nil _, below_set3 hR.later (Nat.le_refl _) _ _ _, none_new _⟩
  · have hdr := hcs rfl
    by_cases h1 : NR ≤ 1000
    · have HD : Hid (D = (⟨nb, Z, (NR : Int)⟩, 0)) := by rw [Hid, HDp.out, if_pos h1]
      have h2 : ¬ (1000 : Int) < (NR : Int) := by omega
      clear HDp
      go_enter Tryz.func40, Tryz.ntmps40
      go_wp2_with fail
      refine (hcp.out _).mono ?_
      rintro e _ ⟨rfl, rfl⟩
      go_wp2_with fail
      refine (hct.out _).mono ?_
      rintro e w2 ⟨rfl, hB2⟩
      go_wp2_with fail
      refine (hdw.out _).mono ?_
      rintro e w3 ⟨rfl, hB3⟩
      go_wp2_with fail
      refine (hdr.out _).mono ?_
      rintro e w4 ⟨rfl, hB4⟩
      have hR := ((hR0.call hB2).call hB3).call hB4
      go_wp2_with fail
      rw [hcat.out]
      refine (hpa.out _).mono ?_
      rintro e w5 ⟨A, n, c, rfl, hO, hB5⟩
      have hR5 := hR.call hB5
      obtain ⟨⟨r0, r1, r2⟩, ⟨r3, r4, r5⟩⟩ := hR5.cells3
      have hap : 0 < n → ∀ a, A = some a → w.heap.size + 1 ≤ a.block := hO.newer hR.lt
      go_wp2_with fail
      rw [HD.out]
      obtain ⟨⟨z0, z1, z2⟩, _⟩ := (hR5.store3 (.bool nb) (.slice A n c) (.int .i64 (NR : Int))).cells3
      exact bodyPost_ret (v := .tuple #[.agg #[.bool nb, .slice A n c, .int .i64 (NR : Int)], .int .i64 0]) (by generalize World.setCell (World.setCell (World.setCell _ _ _) _ _) _ _ = W3 at z0 z1 z2 ⊢; simp [results, Tryz.results40, go_sem, z0, z1, z2]) rfl
        ⟨A, n, c, rfl, hO.il.set3 (fun hz a ha => by have := hap hz a ha; omega) _ _ _, below_set3 hR5.later (Nat.le_refl _) _ _ _, fun hz a ha => by have := hap hz a ha; omega⟩
    · have HD : Hid (D = (Dc.zero, 3)) := by rw [Hid, HDp.out, if_neg h1]
      have h2 : (1000 : Int) < (NR : Int) := by omega
      clear HDp
      go_enter Tryz.func40, Tryz.ntmps40
      go_wp2_with fail
      refine (hcp.out _).mono ?_
      rintro e _ ⟨rfl, rfl⟩
      go_wp2_with fail
      refine (hct.out _).mono ?_
      rintro e w2 ⟨rfl, hB2⟩
      go_wp2_with fail
      refine (hdw.out _).mono ?_
      rintro e w3 ⟨rfl, hB3⟩
      go_wp2_with fail
      refine (hdr.out _).mono ?_
      rintro e w4 ⟨rfl, hB4⟩
      have hR := ((hR0.call hB2).call hB3).call hB4
      obtain ⟨⟨r0, r1, r2⟩, ⟨r3, r4, r5⟩⟩ := hR.cells3
      go_wp2_with fail
      rw [HD.out]
      obtain ⟨⟨z0, z1, z2⟩, _⟩ := (hR.store3 (.bool false) (.slice none 0 0) (.int .i64 0)).cells3
      exact bodyPost_ret (v := .tuple #[.agg #[.bool false, .slice none 0 0, .int .i64 0], .int .i64 3]) (by generalize World.setCell (World.setCell (World.setCell _ _ _) _ _) _ _ = W3 at z0 z1 z2 ⊢; simp [results, Tryz.results40, go_sem, z0, z1, z2]) rfl
        ⟨none, 0, 0, rfl, IL.nil _, below_set3 hR.later (Nat.le_refl _) _ _ _, none_new _⟩
end Go.Proofs.YtjinbhnpcdlkiaaGreatDoor


namespace Go.Proofs.YtjinbhnpcdlkiaaGreatDoor
open Go.RowKit

set_option maxRecDepth 100000 in
set_option maxHeartbeats 4000000 in
theorem cfits_any (x : RuV) {A : Option Addr} {n c : Nat} (D : Dc) (w : World) (hd : IL w A n c D.l) (iD : I64 D.l) (sD : -9223372036854775808 ≤ D.s ∧ D.s ≤ 9223372036854775807) (nD : n ≤ 5000) :
    Calls Tryz.prog 41 #[.agg #[.bool x.r.lo.neg, .slice x.A1 x.n1 x.c1, .int .i64 x.r.lo.s, .bool x.r.hi.neg, .slice x.A2 x.n2 x.c2, .int .i64 x.r.hi.s, .bool x.r.st.neg, .slice x.A3 x.n3 x.c3, .int .i64 x.r.st.s, .bool x.r.sg, .int .i64 x.r.n.ic, .int .i64 x.r.n.fc, .int .i64 x.r.n.sc, .int .i64 x.r.n.mi, .int .i64 x.r.n.mf, .int .i64 x.r.n.md, .int .i64 x.r.n.hs], .agg #[.bool D.neg, .slice A n c, .int .i64 D.s]] w (RV w (.bool (mayDc D && fitsC x.r.n D))) := by
  have hm := Lib.hid (fun W (hW : IL W A n c D.l) => show Calls Tryz.prog 54 #[.agg #[.bool D.neg, .slice A n c, .int .i64 D.s]] W (RV W (.bool (mayDc D))) from cmay_any D.neg D.s W hW iD sD)
  have hX := (Blk.made w w 39 #[.bool x.r.lo.neg, .slice x.A1 x.n1 x.c1, .int .i64 x.r.lo.s, .bool x.r.hi.neg, .slice x.A2 x.n2 x.c2, .int .i64 x.r.hi.s, .bool x.r.st.neg, .slice x.A3 x.n3 x.c3, .int .i64 x.r.st.s, .bool x.r.sg, .int .i64 x.r.n.ic, .int .i64 x.r.n.fc, .int .i64 x.r.n.sc, .int .i64 x.r.n.mi, .int .i64 x.r.n.mf, .int .i64 x.r.n.md, .int .i64 x.r.n.hs] (Later.refl w) _ rfl).alloc (.cells #[.bool D.neg, .slice A n c, .int .i64 D.s] 36)
  have hE := (Blk.made w (w.alloc (.cells #[.bool x.r.lo.neg, .slice x.A1 x.n1 x.c1, .int .i64 x.r.lo.s, .bool x.r.hi.neg, .slice x.A2 x.n2 x.c2, .int .i64 x.r.hi.s, .bool x.r.st.neg, .slice x.A3 x.n3 x.c3, .int .i64 x.r.st.s, .bool x.r.sg, .int .i64 x.r.n.ic, .int .i64 x.r.n.fc, .int .i64 x.r.n.sc, .int .i64 x.r.n.mi, .int .i64 x.r.n.mf, .int .i64 x.r.n.md, .int .i64 x.r.n.hs] 39)) 36 #[.bool D.neg, .slice A n c, .int .i64 D.s] ((Later.refl w).alloc _) (w.heap.size + 1) (by simp))
  have hlD := hd.len
  cases hmd : mayDc D
  · rw [hmd] at hm
    rw [Bool.false_and]
    go_enter Tryz.func41, Tryz.ntmps41
    go_upto_region 1 with fail
    generalize World.alloc (World.alloc w _) _ = w1 at *
    obtain ⟨⟨d0, d1, d2⟩, _⟩ := hE.cells3
    have hL1 := hE.later
    go_wp2_with fail
    refine (hm.out _ (hd.later hL1)).mono ?_
    rintro e w2 ⟨rfl, hB⟩
    go_wp2_with fail
    go_ret
    exact ⟨rfl, below_from hL1 hB⟩
  · rw [hmd] at hm
    rw [Bool.true_and]
    obtain ⟨h1, h2, h3⟩ := mayDc_iff.1 hmd
    obtain ⟨q, hq, hqs, hql⟩ : ∃ q : Nat, (trimDc D).s = q ∧ q ≤ 1000 ∧ (trimDc D).l.length ≤ D.l.length := by
      have e1 := mayDc_trim hmd
      obtain ⟨g1, g2, g3⟩ := mayDc_iff.1 e1
      obtain ⟨q, hq⟩ := Int.eq_ofNat_of_zero_le g2
      exact ⟨q, hq, by omega, trimDc_len D⟩
    have iT : I64 (trimDc D).l := I64_of_may (mayDc_iff.1 (mayDc_trim hmd)).1
    have htr := Lib.hid (fun W (hW : IL W A n c D.l) => show Calls Tryz.prog 42 #[.agg #[.bool D.neg, .slice A n c, .int .i64 D.s]] W (RC W (trimDc D)) from dtrim_any D.neg D.s W hW iD (by omega) (by omega) (by omega))
    have hf : Hid (fitsC x.r.n D = (decide (((partsS (trimDc D).l (trimDc D).s.toNat).1.length : Int) ≤ x.r.n.ic) && decide (((partsS (trimDc D).l (trimDc D).s.toNat).2.length : Int) ≤ x.r.n.sc))) := rfl
    generalize fitsC x.r.n D = fb at *
    generalize trimDc D = T at *
    have hpa := Lib.hid (fun (A : Option Addr) (n c : Nat) W (hW : IL W A n c T.l) => show Calls Tryz.prog 65 #[.agg #[.bool T.neg, .slice A n c, .int .i64 T.s]] W (RP W (partsS T.l q).1 (partsS T.l q).2) by
      have := parts_any T.neg q W hW iT (by have := hW.len; omega) (by omega)
      rw [← hq] at this
      exact this)
    rw [hq] at hf
    rw [Int.toNat_natCast] at hf
    generalize partsS T.l q = PP at *
    obtain ⟨P1, P2⟩ := PP
    simp only at hf hpa
    clear hq
    go_enter Tryz.func41, Tryz.ntmps41
    go_upto_region 1 with fail
    generalize World.alloc (World.alloc w _) _ = w1 at *
    obtain ⟨⟨d0, d1, d2⟩, _⟩ := hE.cells3
    have hL1 := hE.later
    go_wp2_with fail
    refine (hm.out _ (hd.later hL1)).mono ?_
    rintro e w2 ⟨rfl, hB⟩
    have hE2 := hE.call hB
    have hX2 := hX.call hB
    clear d0 d1 d2 hE hX
    obtain ⟨⟨d0, d1, d2⟩, _⟩ := hE2.cells3
    go_wp2_with fail
    refine (htr.out _ (hd.later hE2.later)).mono ?_
    rintro e w3 ⟨A3, n3, c3, rfl, hI3, hB3, _⟩
    go_wp2_with fail
    refine (hpa.out _ _ _ _ hI3).mono ?_
    rintro e w4 ⟨A4, n4, c4, A5, n5, c5, rfl, hI4, hI5, hB4⟩
    have hX4 := (hX2.call hB3).call hB4
    obtain ⟨k0, k1, k2, k3, k4, k5, k6, k7, k8, k9, k10, k11, k12, k13, k14, k15, k16⟩ := blk_cells17 x hX4
    have e4 := Lib.hid hI4.len
    have e5 := Lib.hid hI5.len
    rw [e4.out, e5.out] at hf
    have hL4 := hX4.later
    clear d0 d1 d2 hE2 hX2 hX4
    by_cases g1 : (n4 : Int) ≤ x.r.n.ic
    · have G1 := Lib.hid (decide_eq_true g1)
      go_wp2_with fail
      go_ret
      refine ⟨?_, hL4⟩
      rw [hf.out, G1.out, Bool.true_and]
      rfl
    · have G1 := Lib.hid (decide_eq_false g1)
      go_wp2_with fail
      go_ret
      refine ⟨?_, hL4⟩
      rw [hf.out, G1.out, Bool.false_and]
      rfl
/-- What the number of a text that fits hands back. -/
def RNum (w : World) (T : Dc) (e : Ending) (w' : World) : Prop :=
  ∃ A n c, e = .returned (.tuple #[.agg #[.bool T.neg, .slice A n c, .int .i64 T.s], .nilIface]) ∧ IL w' A n c T.l ∧ Below w.heap.size w w' ∧ (0 < n → ∀ a, A = some a → w.heap.size ≤ a.block)
set_option maxRecDepth 100000 in
set_option maxHeartbeats 4000000 in
theorem number_ok (x : RuV) (wh s : ByteArray) (D : Dc) (w : World) (hs : s.size ≤ 2000) (hp : parseS s.data.toList = (D, 0)) (hD : mayDc D = true) (hl : D.l.length ≤ 5000) (hf : fitsC x.r.n D = true) :
    Calls Tryz.prog 20 #[.agg #[.bool x.r.lo.neg, .slice x.A1 x.n1 x.c1, .int .i64 x.r.lo.s, .bool x.r.hi.neg, .slice x.A2 x.n2 x.c2, .int .i64 x.r.hi.s, .bool x.r.st.neg, .slice x.A3 x.n3 x.c3, .int .i64 x.r.st.s, .bool x.r.sg, .int .i64 x.r.n.ic, .int .i64 x.r.n.fc, .int .i64 x.r.n.sc, .int .i64 x.r.n.mi, .int .i64 x.r.n.mf, .int .i64 x.r.n.md, .int .i64 x.r.n.hs], .string wh, .string s] w (RNum w (trimDc D)) := by
  obtain ⟨h1, h2, h3⟩ := mayDc_iff.1 hD
  obtain ⟨iD, sD⟩ := may_bd hD
  have hpa := Lib.hid (fun W => show Calls Tryz.prog 40 #[.string s] W (RCE W D 0) by
    have := cparse_any s W (by omega)
    rw [hp] at this
    exact this)
  have hft := Lib.hid (fun (A : Option Addr) (n c : Nat) W (hW : IL W A n c D.l) => show Calls Tryz.prog 41 #[.agg #[.bool x.r.lo.neg, .slice x.A1 x.n1 x.c1, .int .i64 x.r.lo.s, .bool x.r.hi.neg, .slice x.A2 x.n2 x.c2, .int .i64 x.r.hi.s, .bool x.r.st.neg, .slice x.A3 x.n3 x.c3, .int .i64 x.r.st.s, .bool x.r.sg, .int .i64 x.r.n.ic, .int .i64 x.r.n.fc, .int .i64 x.r.n.sc, .int .i64 x.r.n.mi, .int .i64 x.r.n.mf, .int .i64 x.r.n.md, .int .i64 x.r.n.hs], .agg #[.bool D.neg, .slice A n c, .int .i64 D.s]] W (RV W (.bool true)) by
    have := cfits_any x D W hW iD sD (by have := hW.len; omega)
    rw [hD, hf] at this
    exact this)
  have htr := Lib.hid (fun (A : Option Addr) (n c : Nat) W (hW : IL W A n c D.l) => show Calls Tryz.prog 42 #[.agg #[.bool D.neg, .slice A n c, .int .i64 D.s]] W (RC W (trimDc D)) from dtrim_any D.neg D.s W hW iD (by have := hW.len; omega) h2 (by omega))
  have hX := (Blk.made w w 39 #[.bool x.r.lo.neg, .slice x.A1 x.n1 x.c1, .int .i64 x.r.lo.s, .bool x.r.hi.neg, .slice x.A2 x.n2 x.c2, .int .i64 x.r.hi.s, .bool x.r.st.neg, .slice x.A3 x.n3 x.c3, .int .i64 x.r.st.s, .bool x.r.sg, .int .i64 x.r.n.ic, .int .i64 x.r.n.fc, .int .i64 x.r.n.sc, .int .i64 x.r.n.mi, .int .i64 x.r.n.mf, .int .i64 x.r.n.md, .int .i64 x.r.n.hs] (Later.refl w) _ rfl).alloc (.cells #[.bool false, .slice none 0 0, .int .i64 0] 36)
  have hR := (Blk.made w (w.alloc (.cells #[.bool x.r.lo.neg, .slice x.A1 x.n1 x.c1, .int .i64 x.r.lo.s, .bool x.r.hi.neg, .slice x.A2 x.n2 x.c2, .int .i64 x.r.hi.s, .bool x.r.st.neg, .slice x.A3 x.n3 x.c3, .int .i64 x.r.st.s, .bool x.r.sg, .int .i64 x.r.n.ic, .int .i64 x.r.n.fc, .int .i64 x.r.n.sc, .int .i64 x.r.n.mi, .int .i64 x.r.n.mf, .int .i64 x.r.n.md, .int .i64 x.r.n.hs] 39)) 36 #[.bool false, .slice none 0 0, .int .i64 0] ((Later.refl w).alloc _) (w.heap.size + 1) (by simp))
  generalize trimDc D = T at *
  clear hp hf
  go_enter Tryz.func20, Tryz.ntmps20
  go_upto_region 1 with fail
  generalize World.alloc (World.alloc w _) _ = w1 at *
  go_wp2_with fail
  refine (hpa.out _).mono ?_
  rintro e w2 ⟨A2, n2, c2, rfl, hI2, hB2, _⟩
  have hX2 := (hX.call hB2).alloc (.cells #[.bool D.neg, .slice A2 n2 c2, .int .i64 D.s] 36)
  have hR2 := (hR.call hB2).alloc (.cells #[.bool D.neg, .slice A2 n2 c2, .int .i64 D.s] 36)
  have hE2 := Blk.made w w2 36 #[.bool D.neg, .slice A2 n2 c2, .int .i64 D.s] (hR.call hB2).later _ rfl
  have hI2' := hI2.alloc (.cells #[.bool D.neg, .slice A2 n2 c2, .int .i64 D.s] 36)
  go_upto_region 2 with fail
  generalize World.alloc w2 _ = w3 at *
  obtain ⟨k0, k1, k2, k3, k4, k5, k6, k7, k8, k9, k10, k11, k12, k13, k14, k15, k16⟩ := blk_cells17 x hX2
  obtain ⟨⟨d0, d1, d2⟩, _⟩ := hE2.cells3
  clear hX hR hI2
  go_wp2_with fail
  refine (hft.out _ _ _ _ hI2').mono ?_
  rintro e w4 ⟨rfl, hB4⟩
  have hR4 := hR2.call hB4
  have hE4 := hE2.call hB4
  clear k0 k1 k2 k3 k4 k5 k6 k7 k8 k9 k10 k11 k12 k13 k14 k15 k16 d0 d1 d2 hX2 hR2 hE2
  obtain ⟨⟨d0, d1, d2⟩, _⟩ := hE4.cells3
  go_wp2_with fail
  refine (htr.out _ _ _ _ (hI2'.below hB4)).mono ?_
  rintro e w5 ⟨A5, n5, c5, rfl, hI5, hB5, hN5⟩
  have hR5 := hR4.call hB5
  have hlt := hR4.lt
  obtain ⟨⟨r0, r1, r2⟩, ⟨r3, r4, r5⟩⟩ := hR5.cells3
  clear d0 d1 d2
  go_wp2_with fail
  obtain ⟨⟨z0, z1, z2⟩, _⟩ := (hR5.store3 (.bool T.neg) (.slice A5 n5 c5) (.int .i64 T.s)).cells3
  exact bodyPost_ret (v := .tuple #[.agg #[.bool T.neg, .slice A5 n5 c5, .int .i64 T.s], .nilIface]) (by generalize World.setCell (World.setCell (World.setCell _ _ _) _ _) _ _ = W3 at z0 z1 z2 ⊢; simp [results, Tryz.results20, go_sem, z0, z1, z2]) rfl
    ⟨A5, n5, c5, rfl, hI5.set3 (fun hz a ha => by have := hN5 hz a ha; omega) _ _ _, below_set3 hR5.later (by omega) _ _ _, fun hz a ha => by have := hN5 hz a ha; omega⟩

end Go.Proofs.YtjinbhnpcdlkiaaGreatDoor


namespace Go.Proofs.YtjinbhnpcdlkiaaGreatDoor
open Go.RowKit

set_option maxHeartbeats 1000000 in
theorem rparts_any {A : Option Addr} {n c : Nat} {l : List Int} (b : Bool) (s : Nat) (w : World) (h : IL w A n c l) (hn : n ≤ 1000000) (hs : s ≤ 1000000) :
    Calls Tryz.prog 45 #[.agg #[.bool b, .slice A n c, .int .i64 (s : Int)]] w (RP w (partsS l s).1 (partsS l s).2) := by
  have hlen := h.len
  have hwl := wideL_len l s
  have HP : Hid (partsS l s = (trimL ((wideL l s).take ((wideL l s).length - s)), (wideL l s).drop ((wideL l s).length - s))) := rfl
  have HW : Hid (wideL l s = List.replicate (s - n) 0 ++ l) := by rw [Hid, wideL, hlen]
  generalize partsS l s = P at *
  generalize wideL l s = y at *
  obtain ⟨a, ha⟩ : ∃ a, y.length = a + s := ⟨y.length - s, by omega⟩
  have hr1 : Hid (P = (trimL (y.take a), y.drop a)) := by rw [Hid, HP.out, ha, Nat.add_sub_cancel]
  have ha1 : a + s ≤ 1000000 := by omega
  have htr := Lib.hid (fun A n c W hW hn => rtrim_any A n c (y.take a) W hW hn)
  have HA := Lib.hid ha
  have HL := Lib.hid hlen
  have hXw := Blk.made w w 28 #[.bool b, .slice A n c, .int .i64 (s : Int)] (Later.refl w) _ rfl
  have hle := h.le
  have hcap := h.cap
  clear HP ha hwl hlen
  go_enter Tryz.func45, Tryz.ntmps45
  go_wp2_with fail
  go_loopw [4, 5] (fun v x wr => ∃ (j : Nat) (A' : Option Addr) (c' : Nat), v = .slice A' j c' ∧ x = .int .i64 ((n + j : Nat) : Int) ∧ j ≤ s - n ∧ OL wr (w.heap.size + 1) A' j c' (List.replicate j 0) ∧ Below (w.heap.size + 1) (w.alloc (.cells #[.bool b, .slice A n c, .int .i64 (s : Int)] 28)) wr)
    (fun _ x _ => s - (intOf x).toNat)
  case atStart => exact ⟨0, none, 0, rfl, rfl, Nat.zero_le _, OL.nil _ _, Below.refl _ _⟩
  case round =>
    obtain ⟨j, A', c', rfl, rfl, hj, hO, hB⟩ := hrel
    have hX : Blk w w.heap.size 28 #[.bool b, .slice A n c, .int .i64 (s : Int)] wr := hXw.under (Nat.lt_succ_self _) hB
    obtain ⟨⟨q0, q1, q2⟩, ⟨f0, f1, f2⟩⟩ := hX.cells3
    have hsz : w.heap.size + 1 ≤ wr.heap.size := hX.lt
    by_cases hlt : n + j < s
    · go_wp2_with (first
        | (at_builtin; refine wpList_append_OL (w.heap.size + 1) rfl _ _ rfl rfl rfl (hO.alloc _) (IL.one _ _ _) (by simp; omega) (by omega) ?_; intro A2 c2 w2 hO2 hB2 hg2))
      go_roundw
      case rel => exact ⟨j + 1, A2, c2, rfl, by first | rfl | go_num | (congr 1; omega), by omega, by rw [List.replicate_succ']; exact hO2, (hB.alloc hsz _).trans hB2⟩
      case measure => simp [intOf]; omega
    · have hjn : j = s - n := by omega
      have hy : Hid (y = List.replicate j 0 ++ l) := by rw [Hid, HW.out, hjn]
      clear hjn
      have hIl : IL wr A n c l := h.later hX.later
      have HX := Lib.hid hX
      clear hX
      go_upto_region 8 with (first
        | (at_builtin; refine wpList_append_OL (w.heap.size + 1) rfl (.tmp 19) (.tmp 21) rfl rfl rfl hO hIl hsz (by omega) ?_; intro A2 c2 w2 hO2 hB2 hg2; have hX2 := HX.out.under (Nat.lt_succ_self _) hB2; obtain ⟨⟨q0', q1', q2'⟩, _⟩ := hX2.cells3))
      have hjn : j + n = a + s := by have := HA.out; rw [hy.out] at this; simp at this; have := HL.out; omega
      rw [← hy.out] at hO2
      have hc2 := hO2.il.cap
      have hle2 := hO2.il.le
      have hI := hO2.il
      have HX2 := Lib.hid hX2
      clear hX2 hO2 hg2 hO
      have hwr : (j : Int) + (n : Int) - (s : Int) = (a : Int) := by omega
      by_cases hca : c2 = a
      all_goals
        go_wp2_with fail
        go_region_with (go_at_call 46; refine (htr.out _ _ _ _ ((hI.drew).takew (by omega) (by omega) (fun _ => rfl)) (by omega)).mono ?_; rintro e w3 ⟨A3, n3, c3, rfl, hO3, hB3⟩)
        all_goals
          clear hwr
          go_wp2_with fail
          go_ret2
          rw [hr1.out]
          have hb3 := HX2.out.later.drew.call hB3
          exact ⟨_, _, _, _, _, _, rfl, hO3.il, (hI.drew.below hB3).dropw (k := a) (by omega) (by omega) (by omega) (fun hk => by first | rfl | (exfalso; omega)), hb3⟩

end Go.Proofs.YtjinbhnpcdlkiaaGreatDoor

