/- What the laws of rounding share: decimals as each side has them, roundings of good decimals, and what lives. No condition. -/
import Derived.Test.YtickhmlhciafgaaGreatMa12
import Derived.Test.YtickhmlhciafgaaGreatMa02
import Derived.Test.YtickhmlhciafgaaGreatMa08
import Derived.Test.YtickhmlhciafgaaGreatMa10
import Derived.Test.YtickhmlhciafgaaGreatMa09
import Derived.Test.YtickhmlhciafgaaGreatMa11
namespace Go.Proofs.YtickhmlhciafgaaGreat
open Go.RowKit

theorem Later.under {w W W' : World} (h : Later w W) (hb : Below w.heap.size W W') : Later w W' := Below.trans h hb
/-- An append of noughts in a region that draws. -/
theorem step_append_zeros {ops : Array Oper} {o : Oper} {a : Act} {w : World} {K : Act → World → Prop} {Q : Exit → Act → World → Prop} {E : Prop} {A : Option Addr} {n c k : Nat} {l : List Int}
    (B : Nat) (hg : o.guard = none) (s x : Operand)
    (hop : o.op = .call { callee := .builtin .append, args := #[s, x], argTypes := #[22, 3] }) (hs : a.eval s = .slice A n c) (hx : a.eval x = .int .i64 (k : Int))
    (h1 : OL w B A n c l) (hB : B ≤ w.heap.size) (hn : n + k ≤ 1000000000)
    (h : ∀ A' c' w', OL w' B A' (n + k) c' (l ++ List.replicate k 0) → Below B w w' → K (a.put o.dst (.slice A' (n + k) c')) w') :
    if Region.wanted o (yielded ops a.tmps) = true then Oper.wp Tryz.prog o a w K Q else E := by
  have hw : Region.wanted o (yielded ops a.tmps) = true := by simp [Region.wanted, hg]
  rw [if_pos hw]
  obtain ⟨A', c', w', hr, h3, h4⟩ := run_append_zeros_OL o.type k hB h1 hn
  unfold Oper.wp
  simp [execOp, hop, resolve, invoke, builtin, hs, hx, hr, Result.andThen]
  exact h A' c' w' h3 h4
theorem shiftL_back (l : List Int) {less : Nat} (h : 0 < less) : shiftL l (-(less : Int)) = l.take (l.length - less) := by
  unfold shiftL
  rw [if_pos (by omega)]
  congr 2
  omega

set_option maxRecDepth 100000 in
set_option maxHeartbeats 8000000 in
theorem rto_any {A : Option Addr} {n c : Nat} {l : List Int} (b : Bool) (s k m : Int) (w : World) (h : IL w A n c l) (hl : I64 l) (hs : -9223372036854775808 ≤ s ∧ s ≤ 9223372036854775807) (hk : -9223372036854775808 ≤ k ∧ k ≤ 9223372036854775807)
    (hm : -9223372036854775808 ≤ m ∧ m ≤ 9223372036854775807) (hn : n ≤ 10000) :
    Calls Tryz.prog 51 #[.agg #[.bool b, .slice A n c, .int .i64 s], .int .i64 k, .int .i64 m] w (RCE w (roundDc ⟨b, l, s⟩ k m).1 (roundDc ⟨b, l, s⟩ k m).2) := by
  have m1 := Lib.hid (fun W hW => cmay_any (A := A) (n := n) (c := c) (l := l) b s W hW hl hs)
  have hAD : Hid (roundDc ⟨b, l, s⟩ k m = if mayDc ⟨b, l, s⟩ && decide (0 ≤ m) && decide (m ≤ 6) then (if k < 0 ∨ 1000 < k then (Dc.zero, 3) else (scaled k.toNat (roundZ m ⟨b, l, s⟩ k.toNat), 0)) else (Dc.zero, 1)) := rfl
  have el := h.len
  have hX0 := (Blk.made w w 29 #[.bool b, .slice A n c, .int .i64 s] (Later.refl w) _ rfl).alloc (.cells #[.bool false, .slice none 0 0, .int .i64 0] 29)
  have hR0 := Blk.made w (w.alloc (.cells #[.bool b, .slice A n c, .int .i64 s] 29)) 29 #[.bool false, .slice none 0 0, .int .i64 0] ((Later.refl w).alloc _) (w.heap.size + 1) (by simp)
  generalize roundDc ⟨b, l, s⟩ k m = D at *
  cases hm1 : mayDc ⟨b, l, s⟩
  · rw [hm1] at m1
    have HD : Hid (D = (Dc.zero, 1)) := by rw [Hid, hAD.out, hm1]; rfl
    clear hm1 hAD
    go_enter Tryz.func51, Tryz.ntmps51
    go_wp2_with fail
    refine (m1.out _ ((h.alloc _).alloc _)).mono ?_
    rintro e w1 ⟨rfl, hB1⟩
    have hR := hR0.call hB1
    obtain ⟨⟨r0, r1, r2⟩, ⟨r3, r4, r5⟩⟩ := hR.cells3
    go_wp2_with fail
    rw [HD.out]
    obtain ⟨⟨z0, z1, z2⟩, _⟩ := (hR.store3 (.bool false) (.slice none 0 0) (.int .i64 0)).cells3
    exact bodyPost_ret (v := .tuple #[.agg #[.bool false, .slice none 0 0, .int .i64 0], .int .i64 1]) (by generalize World.setCell (World.setCell (World.setCell _ _ _) _ _) _ _ = W3 at z0 z1 z2 ⊢; simp [results, Tryz.results51, go_sem, z0, z1, z2]) rfl
      ⟨none, 0, 0, rfl, IL.nil _, below_set3 hR.later (by omega) _ _ _, none_new _⟩
  · rw [hm1] at m1
    have nm := Lib.hid (fun W => name_any m W)
    by_cases hmm : 0 ≤ m ∧ m ≤ 6
    · obtain ⟨nb, hnb, hne⟩ : ∃ nb, nameB m = nb ∧ nb.toList.isEmpty = false := by
        refine ⟨_, rfl, ?_⟩
        rcases seven hmm with rfl | rfl | rfl | rfl | rfl | rfl | rfl <;> decide +kernel
      rw [hnb] at nm
      clear hnb
      go_enter Tryz.func51, Tryz.ntmps51
      go_wp2_with fail
      refine (m1.out _ ((h.alloc _).alloc _)).mono ?_
      rintro e w1 ⟨rfl, hB1⟩
      go_wp2_with fail
      refine (nm.out _).mono ?_
      rintro e w2 ⟨rfl, hB2⟩
      have hR := (hR0.call hB1).call hB2
      have hX := (hX0.call hB1).call hB2
      have hI := h.later hX.later
      clear hR0 hX0 m1 nm hB1 hB2
      by_cases hkk : k < 0 ∨ 1000 < k
      · have HD : Hid (D = (Dc.zero, 3)) := by
          rw [Hid, hAD.out, hm1, if_pos hkk, if_pos]
          simp
          omega
        clear hAD hm1
        obtain ⟨⟨r0, r1, r2⟩, ⟨r3, r4, r5⟩⟩ := hR.cells3
        rcases hkk with hkk | hkk
        · go_wp2_with fail
          rw [HD.out]
          obtain ⟨⟨z0, z1, z2⟩, _⟩ := (hR.store3 (.bool false) (.slice none 0 0) (.int .i64 0)).cells3
          exact bodyPost_ret (v := .tuple #[.agg #[.bool false, .slice none 0 0, .int .i64 0], .int .i64 3]) (by generalize World.setCell (World.setCell (World.setCell _ _ _) _ _) _ _ = W3 at z0 z1 z2 ⊢; simp [results, Tryz.results51, go_sem, z0, z1, z2]) rfl
            ⟨none, 0, 0, rfl, IL.nil _, below_set3 hR.later (by omega) _ _ _, none_new _⟩
        · have hk0 : ¬ k < 0 := by omega
          go_wp2_with fail
          rw [HD.out]
          obtain ⟨⟨z0, z1, z2⟩, _⟩ := (hR.store3 (.bool false) (.slice none 0 0) (.int .i64 0)).cells3
          exact bodyPost_ret (v := .tuple #[.agg #[.bool false, .slice none 0 0, .int .i64 0], .int .i64 3]) (by generalize World.setCell (World.setCell (World.setCell _ _ _) _ _) _ _ = W3 at z0 z1 z2 ⊢; simp [results, Tryz.results51, go_sem, z0, z1, z2]) rfl
            ⟨none, 0, 0, rfl, IL.nil _, below_set3 hR.later (by omega) _ _ _, none_new _⟩
      · obtain ⟨K, rfl⟩ := Int.eq_ofNat_of_zero_le (show 0 ≤ k by omega)
        have hK : K ≤ 1000 := by omega
        have HD : Hid (D = (scaled K (roundZ m ⟨b, l, s⟩ K), 0)) := by
          rw [Hid, hAD.out, hm1, if_neg hkk, if_pos]
          · simp
          · simp; omega
        obtain ⟨hml, hs0, hs1⟩ := mayDc_iff.1 hm1
        simp only at hml hs0 hs1
        have hal := Lib.hid (fun W hW => calign_any (A := A) (n := n) (c := c) (l := l) b s (K : Int) W hW hl hs (by omega) hn)
        have hcan := trimDc_canonic (d := ⟨b, l, s⟩) hml hs0
        clear hkk hAD
        by_cases hT : (trimDc ⟨b, l, s⟩).s ≤ (K : Int)
        · have hkeep := round_keep (d := ⟨b, l, s⟩) hml hs0 m K hT
          rw [align_to hm1 K hK hT, ← hkeep] at hal
          generalize scaled K (roundZ m ⟨b, l, s⟩ K) = E at *
          clear hkeep hm1 hT hcan
          obtain ⟨⟨q0, q1, q2⟩, _⟩ := hX.cells3
          go_wp2_with fail
          refine (hal.out _ hI).mono ?_
          rintro e w3 ⟨A3, n3, c3, rfl, hI3, hB3, hN3⟩
          have hR3 := (hR.call hB3).alloc (.cells #[.bool E.neg, .slice A3 n3 c3, .int .i64 E.s] 29)
          obtain ⟨⟨r0, r1, r2⟩, ⟨r3, r4, r5⟩⟩ := hR3.cells3
          have hgl := hR.lt
          have hI3' := hI3.alloc (.cells #[.bool E.neg, .slice A3 n3 c3, .int .i64 E.s] 29)
          have hLw := hR.later.size
          go_wp2_with fail
          rw [HD.out]
          obtain ⟨⟨z0, z1, z2⟩, _⟩ := (hR3.store3 (.bool E.neg) (.slice A3 n3 c3) (.int .i64 E.s)).cells3
          exact bodyPost_ret (v := .tuple #[.agg #[.bool E.neg, .slice A3 n3 c3, .int .i64 E.s], .int .i64 0]) (by generalize World.setCell (World.setCell (World.setCell _ _ _) _ _) _ _ = W3 at z0 z1 z2 ⊢; simp [results, Tryz.results51, go_sem, z0, z1, z2]) rfl
            ⟨A3, n3, c3, rfl, hI3'.set3 (g := w.heap.size + 1) (fun hz a ha => by have := hN3 hz a ha; omega) _ _ _, below_set3 hR3.later (by omega) _ _ _, fun hz a ha => by have := hN3 hz a ha; omega⟩
        · obtain ⟨T, hTe⟩ : ∃ T, trimDc ⟨b, l, s⟩ = T := ⟨_, rfl⟩
          rw [hTe] at hT hcan
          have hThi := hcan.hi
          have hTlo := hcan.lo
          have hTm := hcan.may
          have hTlen : T.l.length ≤ 10000 := by rw [← hTe]; have := trimDc_len ⟨b, l, s⟩; simp only at this; omega
          simp only at hThi
          obtain ⟨l1, hless⟩ : ∃ l1 : Nat, T.s = (K : Int) + ((l1 : Int) + 1) := ⟨(T.s - K - 1).toNat, by omega⟩
          have hlb : K + l1 ≤ 999 := by omega
          have hrd := round_steps (d := ⟨b, l, s⟩) hml hs0 m K (l1 + 1) (by rw [hTe, hless]; omega) (by omega)
          rw [hTe, Nat.add_sub_cancel] at hrd
          obtain ⟨Z, hZ⟩ : ∃ Z : Dc, Hid (∀ W, IL W A n c l → Calls Tryz.prog 87 #[.agg #[.bool b, .slice A n c, .int .i64 s], .int .i64 (K : Int)] W (RCE W Z 3)) := by
            refine ⟨Dc.zero, fun W hW => ?_⟩
            have := hal.out W hW
            have e : alignDc ⟨b, l, s⟩ (K : Int) = (Dc.zero, 3) := by
              unfold alignDc
              rw [if_pos hm1, if_pos (by rw [hTe]; exact .inl (by omega))]
            rw [e] at this
            exact this
          have htr := Lib.hid (fun W hW => dtrim_any (A := A) (n := n) (c := c) (l := l) b s W hW hl (by omega) hs0 (by omega))
          rw [hTe] at htr
          have hsh := Lib.hid (fun A n c W (hW : IL W A n c T.l) => show Calls Tryz.prog 88 #[.slice A n c, .int .i64 (-((l1 : Int) + 1))] W (RLE W (T.l.take (T.l.length - (l1 + 1))) 0) by
            have := shift_any A n c T.l (-((l1 : Int) + 1)) W hW (I64_of_may hTm) (by have := hW.len; omega) (by omega)
            have e := shiftL_back T.l (less := l1 + 1) (by omega)
            rw [Int.natCast_add, Int.natCast_one] at e
            unfold shiftR at this
            rw [if_pos hTm, if_neg (by omega), e] at this
            exact this)
          have hkm := mayL_take hTm (T.l.length - (l1 + 1))
          have hrm := mayL_drop hTm (T.l.length - (l1 + 1))
          have hkl : Hid ((T.l.take (T.l.length - (l1 + 1))).length = T.l.length - (l1 + 1)) := by rw [Hid, List.length_take]; omega
          have hrl : Hid (T.l.drop (T.l.take (T.l.length - (l1 + 1))).length = T.l.drop (T.l.length - (l1 + 1))) := by rw [hkl.out]; rfl
          have hkq : (T.l.take (T.l.length - (l1 + 1))).length ≤ T.l.length := by rw [hkl.out]; omega
          generalize T.l.take (T.l.length - (l1 + 1)) = kept at *
          generalize T.l.drop (T.l.length - (l1 + 1)) = rest at *
          have hcm := Lib.hid (fun A n c A2 n2 c2 W (h1 : IL W A n c rest) (h2 : IL W A2 n2 c2 (5 :: List.replicate l1 0)) (hn : n ≤ 100000) => compare_any A n c _ A2 n2 c2 _ W h1 h2 (I64_of_may hrm) (I64_of_may (mayL_five _)) (by omega) (by have := h2.len; simp at this; omega))
          generalize cmpL rest (5 :: List.replicate l1 0) = cc at *
          have hod := Lib.hid (fun A n c W (h1 : IL W A n c kept) => odd_any A n c kept W h1 hkm)
          have haw := Lib.hid (fun W => away_any m T.neg (digL kept 0 % 2 == 1) cc W hmm)
          generalize (digL kept 0 % 2 == 1) = ob at *
          have HD2 := Lib.hid (HD.out)
          rw [hrd] at HD2
          have hTne : 0 < T.l.length := by
            rcases Nat.eq_zero_or_pos T.l.length with h0 | h0
            · exfalso
              apply hcan.last (by omega)
              unfold Dc.z
              rw [List.eq_nil_of_length_eq_zero h0]
              cases T.neg <;> rfl
            · exact h0
          clear hrd HD hm1 hal hcan
          generalize awayB m T.neg ob cc = aw at *
          obtain ⟨⟨q0, q1, q2⟩, _⟩ := hX.cells3
          have hRl := hR.later.size
          have hRg := hR.lt
          go_wp2_with fail
          refine (hZ.out _ hI).mono ?_
          rintro e w3 ⟨A3, n3, c3, rfl, hI3, hB3, _⟩
          have hX3 := (hX.call hB3).alloc (.cells #[.bool Z.neg, .slice A3 n3 c3, .int .i64 Z.s] 29)
          have hR3 := (hR.call hB3).alloc (.cells #[.bool Z.neg, .slice A3 n3 c3, .int .i64 Z.s] 29)
          have hI3' := (hI.below hB3).alloc (.cells #[.bool Z.neg, .slice A3 n3 c3, .int .i64 Z.s] 29)
          clear q0 q1 q2
          obtain ⟨⟨q0, q1, q2⟩, _⟩ := hX3.cells3
          go_wp2_with fail
          refine (htr.out _ hI3').mono ?_
          rintro e w4 ⟨A4, n4, c4, rfl, hI4, hB4, hN4⟩
          clear q0 q1 q2
          have hX4 := hX3.call hB4
          have hR4 := hR3.call hB4
          have hRl3 := hR3.lt
          obtain ⟨⟨q0, q1, q2⟩, ⟨q3, q4, q5⟩⟩ := hX4.cells3
          go_upto_region 9 with fail
          clear q0 q1 q2 q3 q4 q5
          have hXb := hX4.store3 (.bool T.neg) (.slice A4 n4 c4) (.int .i64 ((K : Int) + ((l1 : Int) + 1)))
          have hRb := hR4.far3 (g' := w.heap.size) (by omega) (Nat.le_refl _) (.bool T.neg) (.slice A4 n4 c4) (.int .i64 ((K : Int) + ((l1 : Int) + 1)))
          have hTb := hI4.set3 (g := w.heap.size) (fun hz a ha => by have := hN4 hz a ha; omega) (.bool T.neg) (.slice A4 n4 c4) (.int .i64 ((K : Int) + ((l1 : Int) + 1)))
          generalize World.setCell (World.setCell (World.setCell w4 _ _) _ _) _ _ = wb at *
          obtain ⟨⟨x0, x1, x2⟩, _⟩ := hXb.cells3
          have e4 := hTb.len
          clear hX3 hR3 hX4 hR4 hI3 hI3' hI4 hB3 hB4 hR hX hI
          have hsub : (K : Int) + ((l1 : Int) + 1) - (K : Int) = (l1 : Int) + 1 := by omega
          go_wp2_with fail
          refine (hsh.out _ _ _ _ hTb).mono ?_
          rintro e w5 ⟨A5, n5, c5, rfl, hO5, hB5⟩
          have hX5 := hXb.call hB5
          have hR5 := hRb.call hB5
          have hT5 := hTb.below hB5
          have hK5 := hO5.il
          have e5 := hK5.len
          have h54 : n5 ≤ n4 := by omega
          have hc4 := hT5.cap
          have hl4 := hT5.le
          have hrst := hT5.drop h54 (A4.map (·.add n5)) (fun _ => rfl)
          have hne : ¬ c4 = n5 := by have := hkl.out; omega
          have hr2 : Hid (T.l.drop n5 = rest) := by rw [Hid, ← hrl.out, e5]
          rw [hr2.out] at hrst
          clear x0 x1 x2 hXb hRb hTb hO5 hB5
          go_upto_region 11 with fail
          have HS : Hid (∀ W, Later w5 W → (W.cell? ⟨w.heap.size, 0, none⟩ = some (.bool T.neg) ∧ W.cell? ⟨w.heap.size, 1, none⟩ = some (.slice A4 n4 c4) ∧ W.cell? ⟨w.heap.size, 2, none⟩ = some (.int .i64 ((K : Int) + ((l1 : Int) + 1)))) ∧ Later w5 W) := fun W hW => ⟨(hX5.call hW).cells3.1, hW⟩
          have hb1 : (0 : Int) ≤ (n5 : Int) := by omega
          have hb2 : (n5 : Int) ≤ (n4 : Int) := by omega
          have hb3 : (n4 : Int) ≤ (c4 : Int) := by omega
          have hn45 : n4 - n5 ≤ 100000 := by omega
          go_cut [13] (fun s W => s = .int .i64 cc ∧ Later w5 W)
          case first =>
            have hw1 : IntKind.i64.wrap ((l1 : Int) + 1 - 1) = (l1 : Int) := by rw [Int.add_sub_cancel]; exact IntWalk.i64_in _ (by omega)
            have hw2 : IntKind.i64.wrap (l1 : Int) = (l1 : Int) := IntWalk.i64_in _ (by omega)
            go_region_held3 (fun W => (W.cell? ⟨w.heap.size, 0, none⟩ = some (.bool T.neg) ∧ W.cell? ⟨w.heap.size, 1, none⟩ = some (.slice A4 n4 c4) ∧ W.cell? ⟨w.heap.size, 2, none⟩ = some (.int .i64 ((K : Int) + ((l1 : Int) + 1)))) ∧ Later w5 W)
              ((refine HS.out _ ?_; repeat (first | exact And.right (by assumption) | exact Later.refl _ | refine Later.drew ?_ | refine Later.alloc ?_ _ | refine Later.under ?_ hB8 | refine Later.call ?_ hB9)))
              (first
                | (refine step_append_zeros w5.heap.size (by rfl) (.tmp 60) (.tmp 62) (by rfl) (by rfl) (by rfl) (OL.drew (OL.full (IL.one _ _ _) (fun q => by cases q) _ (fun _ => ⟨_, rfl, Nat.le_refl _⟩))) (by simp) (by omega) ?_; intro A8 c8 w8 hO8 hB8)
                | (go_at_call 79; refine (hcm.out _ _ _ _ _ _ _ (hrst.later (And.right (by assumption))) hO8.il hn45).mono ?_; rintro e w9 ⟨rfl, hB9⟩))
            all_goals
              go_wp2_with fail
              go_meet
              exact ⟨rfl, And.right (by assumption)⟩
          case rest =>
            obtain ⟨rfl, hLc⟩ := hcut
            obtain ⟨wd, hwd⟩ : ∃ wd, wd = wc := ⟨_, rfl⟩
            rw [← hwd] at hLc
            rw [← hwd]
            clear hwd HS hrst hcm hb1 hb2 hb3 hrl hr2 hn45 hne hsub hT5
            have hX6 := hX5.call hLc
            have hR6 := hR5.call hLc
            have hK6 := hK5.later hLc
            have hod' := Lib.hid (fun s : Ext wd => show Calls Tryz.prog 90 #[.slice A5 n5 c5] s.world (RV s.world (.bool ob)) from
              (hod.out _ _ _ _ (hK6.ext s)).mono fun e w' (h : e = _ ∧ _ = w') => ⟨h.1, by rw [← h.2]; exact Below.refl _ _⟩)
            have haw' := Lib.hid (fun s : Ext wd => show Calls Tryz.prog 89 #[.int .i64 m, .bool T.neg, .bool ob, .int .i64 cc] s.world (RV s.world (.bool aw)) from
              (haw.out _).mono fun e w' (h : e = _ ∧ _ = w') => ⟨h.1, by rw [← h.2]; exact Below.refl _ _⟩)
            have K0 : ∀ s : Ext wd, s.world.cell? ⟨w.heap.size, 0, none⟩ = some (.bool T.neg) := fun s => Ext.cell hX6.cells3.1.1 s
            clear hX5 hR5 hK5
            go_upto_region 12 with fail
            refine wp_region_ext (by kernel_rfl) (by kernel_rfl) ?_
            repeat (go_big_quiet_step (first
              | (go_at_call 90; exact quiet_ext _ (hod'.out _))
              | (go_at_call 89; exact quiet_ext _ (haw'.out _))))
            refine wpQuiet_nil ?_
            rintro _ ⟨s6, rfl⟩
            clear K0 hod' haw' hod haw
            have hX7 := hX6.call s6.h
            have hR7 := hR6.call s6.h
            have hK7 := hK6.below s6.h
            clear hX6 hR6 hK6
            generalize s6.world = w7 at *
            have hfin := Lib.hid (fun (kf : List Int) (A : Option Addr) (n c : Nat) W (hW : IL W A n c kf) (hm : mayL kf = true) (hn : n ≤ 10000) => show Calls Tryz.prog 87 #[.agg #[.bool T.neg, .slice A n c, .int .i64 (K : Int)], .int .i64 (K : Int)] W (RCE W (scaled K (if T.neg then -val kf else val kf)) 0) by
              have := calign_any T.neg (K : Int) (K : Int) W hW (I64_of_may hm) (by omega) (by omega) hn
              rw [align_self T.neg hm K hK] at this
              exact this)
            have hXg := hX7.lt
            have hRg7 := hR7.lt
            obtain ⟨⟨x0, x1, x2⟩, _⟩ := hX7.cells3
            cases aw
            · have HD3 : Hid (D = (scaled K (if T.neg then -val kept else val kept), 0)) := by
                rw [Hid, HD2.out]; simp
              have hf := Lib.hid (hfin.out kept A5 n5 c5 w7 hK7 hkm (by omega))
              generalize scaled K (if T.neg then -val kept else val kept) = E at *
              clear hfin HD2 hX7
              go_wp2_with fail
              refine hf.out.mono ?_
              rintro e w8 ⟨A8, n8, c8, rfl, hI8, hB8, hN8⟩
              have hR8 := hR7.call hB8
              obtain ⟨⟨r0, r1, r2⟩, ⟨r3, r4, r5⟩⟩ := hR8.cells3
              go_wp2_with fail
              rw [HD3.out]
              obtain ⟨⟨z0, z1, z2⟩, _⟩ := (hR8.store3 (.bool E.neg) (.slice A8 n8 c8) (.int .i64 E.s)).cells3
              exact bodyPost_ret (v := .tuple #[.agg #[.bool E.neg, .slice A8 n8 c8, .int .i64 E.s], .int .i64 0]) (by generalize World.setCell (World.setCell (World.setCell _ _ _) _ _) _ _ = W3 at z0 z1 z2 ⊢; simp [results, Tryz.results51, go_sem, z0, z1, z2]) rfl
                ⟨A8, n8, c8, rfl, hI8.set3 (g := w.heap.size + 1) (fun hz a ha => by have := hN8 hz a ha; omega) _ _ _, below_set3 hR8.later (by omega) _ _ _, fun hz a ha => by have := hN8 hz a ha; omega⟩
            · have hv := val_bd hkm
              have h1m : mayL [(1 : Int)] = true := rfl
              have hsum := Lib.hid (fun A n c W (hW : LL W A n c [kept, [1]]) => show Calls Tryz.prog 91 #[.slice A n c] W (RLE W (ofN (val kept + 1).toNat) 0) by
                have := sum_any A n c [kept, [1]] W hW (by simp) (fun q hq => by
                  rcases List.mem_cons.1 hq with rfl | hq
                  · exact ⟨by omega, I64_of_may hkm⟩
                  · rcases List.mem_cons.1 hq with rfl | hq
                    · exact ⟨by simp, I64_of_may h1m⟩
                    · cases hq)
                rw [sumR_two hkm h1m] at this
                exact this)
              have hol : (ofN (val kept + 1).toNat).length ≤ 10000 := by
                exact ofN_sum_len (M := 9999) hkm h1m (by have := hkl.out; omega) (by simp)
              have HD3 : Hid (D = (scaled K (if T.neg then -val (ofN (val kept + 1).toNat) else val (ofN (val kept + 1).toNat)), 0)) := by
                rw [Hid, HD2.out, val_ofN, Int.toNat_of_nonneg (by omega)]; simp
              have hom := mayL_ofN (val kept + 1).toNat
              generalize ofN (val kept + 1).toNat = kf at *
              have hf := Lib.hid (fun A n c W hW hn => hfin.out kf A n c W hW hom hn)
              generalize scaled K (if T.neg then -val kf else val kf) = E at *
              clear hfin HD2 hv
              go_wp2_with fail
              refine (hsum.out _ _ _ _ (LL.pair (hK7.alloc _) (IL.one _ _ _) _ _ (by simp))).mono ?_
              rintro e w8 ⟨A8, n8, c8, rfl, hO8, hB8⟩
              have hX8 := ((hX7.alloc _).alloc _).call hB8
              have hR8 := ((hR7.alloc _).alloc _).call hB8
              clear x0 x1 x2 hX7 hR7
              obtain ⟨⟨x0, x1, x2⟩, _⟩ := hX8.cells3
              go_wp2_with fail
              refine (hf.out _ _ _ _ hO8.il (by have := hO8.len; omega)).mono ?_
              rintro e w9 ⟨A9, n9, c9, rfl, hI9, hB9, hN9⟩
              have hR9 := hR8.call hB9
              have hg8 := hR8.lt
              obtain ⟨⟨r0, r1, r2⟩, ⟨r3, r4, r5⟩⟩ := hR9.cells3
              go_wp2_with fail
              rw [HD3.out]
              obtain ⟨⟨z0, z1, z2⟩, _⟩ := (hR9.store3 (.bool E.neg) (.slice A9 n9 c9) (.int .i64 E.s)).cells3
              exact bodyPost_ret (v := .tuple #[.agg #[.bool E.neg, .slice A9 n9 c9, .int .i64 E.s], .int .i64 0]) (by generalize World.setCell (World.setCell (World.setCell _ _ _) _ _) _ _ = W3 at z0 z1 z2 ⊢; simp [results, Tryz.results51, go_sem, z0, z1, z2]) rfl
                ⟨A9, n9, c9, rfl, hI9.set3 (g := w.heap.size + 1) (fun hz a ha => by have := hN9 hz a ha; omega) _ _ _, below_set3 hR9.later (by omega) _ _ _, fun hz a ha => by have := hN9 hz a ha; omega⟩
    · have HD : Hid (D = (Dc.zero, 1)) := by
        rw [Hid, hAD.out, if_neg]
        simp
        omega
      have hnb : nameB m = { data := #[] } := by
        unfold nameB
        rw [if_neg (by omega), if_neg (by omega), if_neg (by omega), if_neg (by omega), if_neg (by omega), if_neg (by omega), if_neg (by omega)]
      rw [hnb] at nm
      clear hm1 hAD hnb hmm
      go_enter Tryz.func51, Tryz.ntmps51
      go_wp2_with fail
      refine (m1.out _ ((h.alloc _).alloc _)).mono ?_
      rintro e w1 ⟨rfl, hB1⟩
      go_wp2_with fail
      refine (nm.out _).mono ?_
      rintro e w2 ⟨rfl, hB2⟩
      have hR := (hR0.call hB1).call hB2
      obtain ⟨⟨r0, r1, r2⟩, ⟨r3, r4, r5⟩⟩ := hR.cells3
      go_wp2_with fail
      rw [HD.out]
      obtain ⟨⟨z0, z1, z2⟩, _⟩ := (hR.store3 (.bool false) (.slice none 0 0) (.int .i64 0)).cells3
      exact bodyPost_ret (v := .tuple #[.agg #[.bool false, .slice none 0 0, .int .i64 0], .int .i64 1]) (by generalize World.setCell (World.setCell (World.setCell _ _ _) _ _) _ _ = W3 at z0 z1 z2 ⊢; simp [results, Tryz.results51, go_sem, z0, z1, z2]) rfl
        ⟨none, 0, 0, rfl, IL.nil _, below_set3 hR.later (by omega) _ _ _, none_new _⟩

end Go.Proofs.YtickhmlhciafgaaGreat


namespace Go.Proofs.YtickhmlhciafgaaGreat
open Go.RowKit

set_option maxHeartbeats 8000000 in
theorem rcadd_any {A : Option Addr} {n c : Nat} {l : List Int} {A2 : Option Addr} {n2 c2 : Nat} {l2 : List Int} (b b2 : Bool) (s s2 : Int) (w : World) (h : IL w A n c l) (h2 : IL w A2 n2 c2 l2)
    (hn : n ≤ 10000) (hn2 : n2 ≤ 10000) (hs : -9223372036854775808 ≤ s ∧ s ≤ 9223372036854775807) (hs2 : -9223372036854775808 ≤ s2 ∧ s2 ≤ 9223372036854775807) :
    Calls Tryz.prog 64 #[.agg #[.bool b, .slice A n c, .int .i64 s], .agg #[.bool b2, .slice A2 n2 c2, .int .i64 s2]] w (RCE w (addDc ⟨b, l, s⟩ ⟨b2, l2, s2⟩).1 (addDc ⟨b, l, s⟩ ⟨b2, l2, s2⟩).2) := by
  have m1 := Lib.hid (fun W hW => rcmay_any (A := A) (n := n) (c := c) (l := l) b s W hW hs)
  have m2 := Lib.hid (fun W hW => rcmay_any (A := A2) (n := n2) (c := c2) (l := l2) b2 s2 W hW hs2)
  have hAD : Hid (addDc ⟨b, l, s⟩ ⟨b2, l2, s2⟩ = if mayDc ⟨b, l, s⟩ && mayDc ⟨b2, l2, s2⟩ then (canon (max s.toNat s2.toNat) (Dc.at_ ⟨b, l, s⟩ (max s.toNat s2.toNat) + Dc.at_ ⟨b2, l2, s2⟩ (max s.toNat s2.toNat)), 0) else (Dc.zero, 1)) := rfl
  have el := h.len
  have el2 := h2.len
  have hX0 := ((Blk.made w w 24 #[.bool b, .slice A n c, .int .i64 s] (Later.refl w) _ rfl).alloc (.cells #[.bool b2, .slice A2 n2 c2, .int .i64 s2] 24)).alloc (.cells #[.bool false, .slice none 0 0, .int .i64 0] 24)
  have hY0 := (Blk.made w (w.alloc (.cells #[.bool b, .slice A n c, .int .i64 s] 24)) 24 #[.bool b2, .slice A2 n2 c2, .int .i64 s2] ((Later.refl w).alloc _) (w.heap.size + 1) (by simp)).alloc (.cells #[.bool false, .slice none 0 0, .int .i64 0] 24)
  have hR0 := Blk.made w ((w.alloc (.cells #[.bool b, .slice A n c, .int .i64 s] 24)).alloc (.cells #[.bool b2, .slice A2 n2 c2, .int .i64 s2] 24)) 24 #[.bool false, .slice none 0 0, .int .i64 0] (((Later.refl w).alloc _).alloc _) (w.heap.size + 2) (by simp)
  generalize addDc ⟨b, l, s⟩ ⟨b2, l2, s2⟩ = D at *
  cases hm1 : mayDc ⟨b, l, s⟩
  · rw [hm1] at m1
    have HD : Hid (D = (Dc.zero, 1)) := by rw [Hid, hAD.out, hm1]; rfl
    clear hm1 hAD
    generalize mayDc ⟨b2, l2, s2⟩ = m at *
    go_enter Tryz.func64, Tryz.ntmps64
    go_wp2_with fail
    refine (m1.out _ (((h.alloc _).alloc _).alloc _)).mono ?_
    rintro e w1 ⟨rfl, hB1⟩
    have hX1 := hX0.call hB1
    have hY1 := hY0.call hB1
    have hR1 := hR0.call hB1
    obtain ⟨⟨q0, q1, q2⟩, _⟩ := hY1.cells3
    go_wp2_with fail
    refine (m2.out _ (h2.later hY1.later)).mono ?_
    rintro e w2 ⟨rfl, hB2⟩
    have hX2 := hX1.call hB2
    have hY2 := hY1.call hB2
    have hR2 := hR1.call hB2
    obtain ⟨⟨r0, r1, r2⟩, ⟨r3, r4, r5⟩⟩ := hR2.cells3
    go_wp2_with fail
    rw [HD.out]
    obtain ⟨⟨z0, z1, z2⟩, _⟩ := (hR2.store3 (.bool false) (.slice none 0 0) (.int .i64 0)).cells3
    exact bodyPost_ret (v := .tuple #[.agg #[.bool false, .slice none 0 0, .int .i64 0], .int .i64 1]) (by generalize World.setCell (World.setCell (World.setCell _ _ _) _ _) _ _ = W3 at z0 z1 z2 ⊢; simp [results, Tryz.results64, go_sem, z0, z1, z2]) rfl
      ⟨none, 0, 0, rfl, IL.nil _, below_set3 hR2.later (by omega) _ _ _, none_new _⟩
  · rw [hm1] at m1
    cases hm2 : mayDc ⟨b2, l2, s2⟩
    · rw [hm2] at m2
      have HD : Hid (D = (Dc.zero, 1)) := by rw [Hid, hAD.out, hm1, hm2]; rfl
      clear hm1 hm2 hAD
      go_enter Tryz.func64, Tryz.ntmps64
      go_wp2_with fail
      refine (m1.out _ (((h.alloc _).alloc _).alloc _)).mono ?_
      rintro e w1 ⟨rfl, hB1⟩
      have hX1 := hX0.call hB1
      have hY1 := hY0.call hB1
      have hR1 := hR0.call hB1
      obtain ⟨⟨q0, q1, q2⟩, _⟩ := hY1.cells3
      go_wp2_with fail
      refine (m2.out _ (h2.later hY1.later)).mono ?_
      rintro e w2 ⟨rfl, hB2⟩
      have hX2 := hX1.call hB2
      have hY2 := hY1.call hB2
      have hR2 := hR1.call hB2
      obtain ⟨⟨r0, r1, r2⟩, ⟨r3, r4, r5⟩⟩ := hR2.cells3
      go_wp2_with fail
      rw [HD.out]
      obtain ⟨⟨z0, z1, z2⟩, _⟩ := (hR2.store3 (.bool false) (.slice none 0 0) (.int .i64 0)).cells3
      exact bodyPost_ret (v := .tuple #[.agg #[.bool false, .slice none 0 0, .int .i64 0], .int .i64 1]) (by generalize World.setCell (World.setCell (World.setCell _ _ _) _ _) _ _ = W3 at z0 z1 z2 ⊢; simp [results, Tryz.results64, go_sem, z0, z1, z2]) rfl
        ⟨none, 0, 0, rfl, IL.nil _, below_set3 hR2.later (by omega) _ _ _, none_new _⟩
    · rw [hm2] at m2
      obtain ⟨hml, hs0, hs1'⟩ := mayDc_iff.1 hm1
      obtain ⟨hml2, ht0, ht1⟩ := mayDc_iff.1 hm2
      simp only at hml hs0 hs1' hml2 ht0 ht1
      obtain ⟨sx, rfl⟩ := Int.eq_ofNat_of_zero_le hs0
      obtain ⟨sy, rfl⟩ := Int.eq_ofNat_of_zero_le ht0
      obtain ⟨N, hN⟩ : ∃ N, N = max sx sy := ⟨_, rfl⟩
      have HD : Hid (D = (canon N (Dc.at_ ⟨b, l, sx⟩ N + Dc.at_ ⟨b2, l2, sy⟩ N), 0)) := by rw [Hid, hAD.out, hm1, hm2, hN]; rfl
      have hmax : (if (sx : Int) < (sy : Int) then (sy : Int) else (sx : Int)) = (N : Int) := by split <;> omega
      have hmax2 : (if sx < sy then (sy : Int) else (sx : Int)) = (N : Int) := by split <;> omega
      have hsx : sx ≤ N := by omega
      have hsy : sy ≤ N := by omega
      have hNb : N ≤ 1000 := by omega
      have hs1 := Lib.hid (fun W (hW : IL W A n c l) => show Calls Tryz.prog 82 #[.slice A n c, .int .i64 ((N : Int) - (sx : Int))] W (RO W (zerosB l (N - sx))) by
        have := rshift_any A n c l ((N : Int) - (sx : Int)) W hW (by omega) (by omega) (by omega)
        rw [shiftL_zeros l N sx hsx] at this
        exact this)
      have hs2 := Lib.hid (fun W (hW : IL W A2 n2 c2 l2) => show Calls Tryz.prog 82 #[.slice A2 n2 c2, .int .i64 ((N : Int) - (sy : Int))] W (RO W (zerosB l2 (N - sy))) by
        have := rshift_any A2 n2 c2 l2 ((N : Int) - (sy : Int)) W hW (by omega) (by omega) (by omega)
        rw [shiftL_zeros l2 N sy hsy] at this
        exact this)
      have as_ := fun hbb => add_same (a := ⟨b, l, (sx : Int)⟩) (b := ⟨b2, l2, (sy : Int)⟩) hml hml2 hbb N
      have ad_ := fun hbb => add_diff (a := ⟨b, l, (sx : Int)⟩) (b := ⟨b2, l2, (sy : Int)⟩) hml hml2 hbb N
      simp only [Int.toNat_natCast] at as_ ad_
      have mx := mayL_zerosB hml (N - sx)
      have my := mayL_zerosB hml2 (N - sy)
      have lx : (zerosB l (N - sx)).length ≤ 11000 := by rw [zerosB_len]; omega
      have ly : (zerosB l2 (N - sy)).length ≤ 11000 := by rw [zerosB_len]; omega
      generalize canon N (Dc.at_ ⟨b, l, (sx : Int)⟩ N + Dc.at_ ⟨b2, l2, (sy : Int)⟩ N) = R at *
      generalize zerosB l (N - sx) = x at *
      generalize zerosB l2 (N - sy) = y at *
      clear hm1 hm2 hAD hN
      by_cases hbb : b = b2
      · have has := as_ hbb
        have hbq : (b == b2) = true := by simpa using hbb
        have hop := Lib.hid (fun A n c A2 n2 c2 W hW hW2 hn hn2 => add_any A n c x A2 n2 c2 y W hW hW2 mx my hn hn2)
        have hvl := ofN_sum_len mx my lx ly
        have htr := Lib.hid (fun A n c W hW hn => rdtrim_any (A := A) (n := n) (c := c) (l := ofN (val x + val y).toNat) b (N : Int) W hW (I64_of_may (mayL_ofN _)) hn (by omega) (by omega))
        rw [has] at htr
        generalize ofN (val x + val y).toNat = v at *
        clear as_ ad_ hbb has
        go_enter Tryz.func64, Tryz.ntmps64
        go_wp2_with fail
        refine (m1.out _ (((h.alloc _).alloc _).alloc _)).mono ?_
        rintro e w1 ⟨rfl, hB1⟩
        have hX1 := hX0.call hB1
        have hY1 := hY0.call hB1
        have hR1 := hR0.call hB1
        obtain ⟨⟨q0, q1, q2⟩, _⟩ := hY1.cells3
        go_wp2_with fail
        refine (m2.out _ (h2.later hY1.later)).mono ?_
        rintro e w2 ⟨rfl, hB2⟩
        have hX2 := hX1.call hB2
        have hY2 := hY1.call hB2
        have hR2 := hR1.call hB2
        obtain ⟨⟨q0, q1, q2⟩, _⟩ := hX2.cells3
        obtain ⟨⟨r0, r1, r2⟩, _⟩ := hY2.cells3
        go_wp2_with fail
        refine (hs1.out _ (h.later hX2.later)).mono ?_
        rintro e w3 ⟨A3, n3, c3, rfl, hO3, hB3⟩
        have hX3 := hX2.call hB3
        have hY3 := hY2.call hB3
        have hR3 := hR2.call hB3
        obtain ⟨⟨q0, q1, q2⟩, _⟩ := hX3.cells3
        obtain ⟨⟨r0, r1, r2⟩, _⟩ := hY3.cells3
        go_wp2_with fail
        refine (hs2.out _ (h2.later hX3.later)).mono ?_
        rintro e w4 ⟨A4, n4, c4, rfl, hO4, hB4⟩
        have hX4 := hX3.call hB4
        have hY4 := hY3.call hB4
        have hR4 := hR3.call hB4
        have hI3 := hO3.il.below hB4
        have hI4 := hO4.il
        have hn3 : n3 ≤ 11000 := by rw [← hO3.len]; exact lx
        have hn4 : n4 ≤ 11000 := by rw [← hO4.len]; exact ly
        obtain ⟨⟨q0, q1, q2⟩, _⟩ := hX4.cells3
        obtain ⟨⟨r0, r1, r2⟩, _⟩ := hY4.cells3
        go_upto_region 9 with fail
        have HB := Lib.hid hX4
        have HR := Lib.hid hR4
        go_region_held3 (fun W => W.cell? ⟨w.heap.size, 0, none⟩ = some (.bool b) ∧ Blk w (w.heap.size) 24 #[.bool b, .slice A n c, .int .i64 (sx : Int)] W)
          ((refine blk_s3 ?_; repeat (first | exact HB.out | exact And.right (by assumption) | refine Blk.drew ?_ | refine Blk.call ?_ hB9 | refine Blk.call ?_ hB8 | refine Blk.far ?_ (by simp <;> omega) (by simp <;> omega) _)))
          (first
            | (go_at_call 104; refine (hop.out _ _ _ _ _ _ _ (hI3.drew) (hI4.drew) (by omega) (by omega)).mono ?_; rintro e w8 ⟨A8, n8, c8, rfl, hO8, hB8⟩; have hR8 := HR.out.drew.call hB8)
            | (go_at_call 80; refine (htr.out _ _ _ _ hO8.il (by have := hO8.len; omega)).mono ?_; rintro e w9 ⟨A9, n9, c9, rfl, hI9, hB9, hN9⟩; have hR9 := hR8.call hB9; have hlt := hR8.lt; obtain ⟨⟨y0, y1, y2⟩, ⟨y3, y4, y5⟩⟩ := hR9.cells3))
        all_goals
          go_wp2_with fail
          rw [HD.out]
          obtain ⟨⟨z0, z1, z2⟩, _⟩ := (hR9.store3 (.bool R.neg) (.slice A9 n9 c9) (.int .i64 R.s)).cells3
          exact bodyPost_ret (v := .tuple #[.agg #[.bool R.neg, .slice A9 n9 c9, .int .i64 R.s], .int .i64 0]) (by generalize World.setCell (World.setCell (World.setCell _ _ _) _ _) _ _ = W3 at z0 z1 z2 ⊢; simp [results, Tryz.results64, go_sem, z0, z1, z2]) rfl
            ⟨A9, n9, c9, rfl, hI9.set3 (fun hz a ha => by have := hN9 hz a ha; omega) _ _ _, below_set3 hR9.later (by omega) _ _ _, fun hz a ha => by have := hN9 hz a ha; omega⟩
      · have had0 := ad_ hbb
        have hbq : (b == b2) = false := by simpa using hbb
        have hcm := Lib.hid (fun A n c A2 n2 c2 W hW hW2 hn hn2 => rcompare_any A n c x A2 n2 c2 y W hW hW2 hn hn2)
        clear as_ ad_ hbb
        by_cases hlt : val x < val y
        · have had := had0
          clear had0
          rw [if_pos hlt] at had
          have hop := Lib.hid (fun A n c A2 n2 c2 W hW hW2 hn hn2 => less_any A n c y A2 n2 c2 x W hW hW2 my mx hn hn2 (by omega))
          have hvl := ofN_diff_len my mx ly
          have htr := Lib.hid (fun A n c W hW hn => rdtrim_any (A := A) (n := n) (c := c) (l := ofN (val y - val x).toNat) b2 (N : Int) W hW (I64_of_may (mayL_ofN _)) hn (by omega) (by omega))
          rw [had] at htr
          have hcn : cmpL x y < 0 := (cmpL_ltz mx my).2 hlt
          clear hlt had
          generalize ofN (val y - val x).toNat = v at *
          generalize cmpL x y = cc at *
          go_enter Tryz.func64, Tryz.ntmps64
          go_wp2_with fail
          refine (m1.out _ (((h.alloc _).alloc _).alloc _)).mono ?_
          rintro e w1 ⟨rfl, hB1⟩
          have hX1 := hX0.call hB1
          have hY1 := hY0.call hB1
          have hR1 := hR0.call hB1
          obtain ⟨⟨q0, q1, q2⟩, _⟩ := hY1.cells3
          go_wp2_with fail
          refine (m2.out _ (h2.later hY1.later)).mono ?_
          rintro e w2 ⟨rfl, hB2⟩
          have hX2 := hX1.call hB2
          have hY2 := hY1.call hB2
          have hR2 := hR1.call hB2
          obtain ⟨⟨q0, q1, q2⟩, _⟩ := hX2.cells3
          obtain ⟨⟨r0, r1, r2⟩, _⟩ := hY2.cells3
          go_wp2_with fail
          refine (hs1.out _ (h.later hX2.later)).mono ?_
          rintro e w3 ⟨A3, n3, c3, rfl, hO3, hB3⟩
          have hX3 := hX2.call hB3
          have hY3 := hY2.call hB3
          have hR3 := hR2.call hB3
          obtain ⟨⟨q0, q1, q2⟩, _⟩ := hX3.cells3
          obtain ⟨⟨r0, r1, r2⟩, _⟩ := hY3.cells3
          go_wp2_with fail
          refine (hs2.out _ (h2.later hX3.later)).mono ?_
          rintro e w4 ⟨A4, n4, c4, rfl, hO4, hB4⟩
          have hX4 := hX3.call hB4
          have hY4 := hY3.call hB4
          have hR4 := hR3.call hB4
          have hI3 := hO3.il.below hB4
          have hI4 := hO4.il
          have hn3 : n3 ≤ 11000 := by rw [← hO3.len]; exact lx
          have hn4 : n4 ≤ 11000 := by rw [← hO4.len]; exact ly
          obtain ⟨⟨q0, q1, q2⟩, _⟩ := hX4.cells3
          obtain ⟨⟨r0, r1, r2⟩, _⟩ := hY4.cells3
          go_wp2_with fail
          refine (hcm.out _ _ _ _ _ _ _ hI3 hI4 (by omega) (by omega)).mono ?_
          rintro e w5 ⟨rfl, hB5⟩
          have hX5 := hX4.call hB5
          have hY5 := hY4.call hB5
          have hR5 := hR4.call hB5
          have hI35 := hI3.below hB5
          have hI45 := hI4.below hB5
          obtain ⟨⟨q0, q1, q2⟩, _⟩ := hX5.cells3
          obtain ⟨⟨r0, r1, r2⟩, _⟩ := hY5.cells3
          go_upto_region 11 with fail
          have HB := Lib.hid hY5
          have HR := Lib.hid hR5
          go_region_held3 (fun W => W.cell? ⟨w.heap.size + 1, 0, none⟩ = some (.bool b2) ∧ Blk w (w.heap.size + 1) 24 #[.bool b2, .slice A2 n2 c2, .int .i64 (sy : Int)] W)
            ((refine blk_s3 ?_; repeat (first | exact HB.out | exact And.right (by assumption) | refine Blk.drew ?_ | refine Blk.call ?_ hB9 | refine Blk.call ?_ hB8 | refine Blk.far ?_ (by simp <;> omega) (by simp <;> omega) _)))
            (first
              | (go_at_call 105; refine (hop.out _ _ _ _ _ _ _ (hI45.drew) (hI35.drew) (by omega) (by omega)).mono ?_; rintro e w8 ⟨A8, n8, c8, rfl, hO8, hB8⟩; have hR8 := HR.out.drew.call hB8)
              | (go_at_call 80; refine (htr.out _ _ _ _ hO8.il (by have := hO8.len; omega)).mono ?_; rintro e w9 ⟨A9, n9, c9, rfl, hI9, hB9, hN9⟩; have hR9 := hR8.call hB9; have hlt := hR8.lt; obtain ⟨⟨y0, y1, y2⟩, ⟨y3, y4, y5⟩⟩ := hR9.cells3))
          all_goals
            go_wp2_with fail
            rw [HD.out]
            obtain ⟨⟨z0, z1, z2⟩, _⟩ := (hR9.store3 (.bool R.neg) (.slice A9 n9 c9) (.int .i64 R.s)).cells3
            exact bodyPost_ret (v := .tuple #[.agg #[.bool R.neg, .slice A9 n9 c9, .int .i64 R.s], .int .i64 0]) (by generalize World.setCell (World.setCell (World.setCell _ _ _) _ _) _ _ = W3 at z0 z1 z2 ⊢; simp [results, Tryz.results64, go_sem, z0, z1, z2]) rfl
              ⟨A9, n9, c9, rfl, hI9.set3 (fun hz a ha => by have := hN9 hz a ha; omega) _ _ _, below_set3 hR9.later (by omega) _ _ _, fun hz a ha => by have := hN9 hz a ha; omega⟩
        · have had := had0
          clear had0
          rw [if_neg hlt] at had
          have hop := Lib.hid (fun A n c A2 n2 c2 W hW hW2 hn hn2 => less_any A n c x A2 n2 c2 y W hW hW2 mx my hn hn2 (by omega))
          have hvl := ofN_diff_len mx my lx
          have htr := Lib.hid (fun A n c W hW hn => rdtrim_any (A := A) (n := n) (c := c) (l := ofN (val x - val y).toNat) b (N : Int) W hW (I64_of_may (mayL_ofN _)) hn (by omega) (by omega))
          rw [had] at htr
          have hcn : ¬ cmpL x y < 0 := fun q => hlt ((cmpL_ltz mx my).1 q)
          clear hlt had
          generalize ofN (val x - val y).toNat = v at *
          generalize cmpL x y = cc at *
          go_enter Tryz.func64, Tryz.ntmps64
          go_wp2_with fail
          refine (m1.out _ (((h.alloc _).alloc _).alloc _)).mono ?_
          rintro e w1 ⟨rfl, hB1⟩
          have hX1 := hX0.call hB1
          have hY1 := hY0.call hB1
          have hR1 := hR0.call hB1
          obtain ⟨⟨q0, q1, q2⟩, _⟩ := hY1.cells3
          go_wp2_with fail
          refine (m2.out _ (h2.later hY1.later)).mono ?_
          rintro e w2 ⟨rfl, hB2⟩
          have hX2 := hX1.call hB2
          have hY2 := hY1.call hB2
          have hR2 := hR1.call hB2
          obtain ⟨⟨q0, q1, q2⟩, _⟩ := hX2.cells3
          obtain ⟨⟨r0, r1, r2⟩, _⟩ := hY2.cells3
          go_wp2_with fail
          refine (hs1.out _ (h.later hX2.later)).mono ?_
          rintro e w3 ⟨A3, n3, c3, rfl, hO3, hB3⟩
          have hX3 := hX2.call hB3
          have hY3 := hY2.call hB3
          have hR3 := hR2.call hB3
          obtain ⟨⟨q0, q1, q2⟩, _⟩ := hX3.cells3
          obtain ⟨⟨r0, r1, r2⟩, _⟩ := hY3.cells3
          go_wp2_with fail
          refine (hs2.out _ (h2.later hX3.later)).mono ?_
          rintro e w4 ⟨A4, n4, c4, rfl, hO4, hB4⟩
          have hX4 := hX3.call hB4
          have hY4 := hY3.call hB4
          have hR4 := hR3.call hB4
          have hI3 := hO3.il.below hB4
          have hI4 := hO4.il
          have hn3 : n3 ≤ 11000 := by rw [← hO3.len]; exact lx
          have hn4 : n4 ≤ 11000 := by rw [← hO4.len]; exact ly
          obtain ⟨⟨q0, q1, q2⟩, _⟩ := hX4.cells3
          obtain ⟨⟨r0, r1, r2⟩, _⟩ := hY4.cells3
          go_wp2_with fail
          refine (hcm.out _ _ _ _ _ _ _ hI3 hI4 (by omega) (by omega)).mono ?_
          rintro e w5 ⟨rfl, hB5⟩
          have hX5 := hX4.call hB5
          have hY5 := hY4.call hB5
          have hR5 := hR4.call hB5
          have hI35 := hI3.below hB5
          have hI45 := hI4.below hB5
          obtain ⟨⟨q0, q1, q2⟩, _⟩ := hX5.cells3
          obtain ⟨⟨r0, r1, r2⟩, _⟩ := hY5.cells3
          go_upto_region 12 with fail
          have HB := Lib.hid hX5
          have HR := Lib.hid hR5
          go_region_held3 (fun W => W.cell? ⟨w.heap.size, 0, none⟩ = some (.bool b) ∧ Blk w (w.heap.size) 24 #[.bool b, .slice A n c, .int .i64 (sx : Int)] W)
            ((refine blk_s3 ?_; repeat (first | exact HB.out | exact And.right (by assumption) | refine Blk.drew ?_ | refine Blk.call ?_ hB9 | refine Blk.call ?_ hB8 | refine Blk.far ?_ (by simp <;> omega) (by simp <;> omega) _)))
            (first
              | (go_at_call 105; refine (hop.out _ _ _ _ _ _ _ (hI35.drew) (hI45.drew) (by omega) (by omega)).mono ?_; rintro e w8 ⟨A8, n8, c8, rfl, hO8, hB8⟩; have hR8 := HR.out.drew.call hB8)
              | (go_at_call 80; refine (htr.out _ _ _ _ hO8.il (by have := hO8.len; omega)).mono ?_; rintro e w9 ⟨A9, n9, c9, rfl, hI9, hB9, hN9⟩; have hR9 := hR8.call hB9; have hlt := hR8.lt; obtain ⟨⟨y0, y1, y2⟩, ⟨y3, y4, y5⟩⟩ := hR9.cells3))
          all_goals
            go_wp2_with fail
            rw [HD.out]
            obtain ⟨⟨z0, z1, z2⟩, _⟩ := (hR9.store3 (.bool R.neg) (.slice A9 n9 c9) (.int .i64 R.s)).cells3
            exact bodyPost_ret (v := .tuple #[.agg #[.bool R.neg, .slice A9 n9 c9, .int .i64 R.s], .int .i64 0]) (by generalize World.setCell (World.setCell (World.setCell _ _ _) _ _) _ _ = W3 at z0 z1 z2 ⊢; simp [results, Tryz.results64, go_sem, z0, z1, z2]) rfl
              ⟨A9, n9, c9, rfl, hI9.set3 (fun hz a ha => by have := hN9 hz a ha; omega) _ _ _, below_set3 hR9.later (by omega) _ _ _, fun hz a ha => by have := hN9 hz a ha; omega⟩

end Go.Proofs.YtickhmlhciafgaaGreat


namespace Go.Proofs.YtickhmlhciafgaaGreat
open Go.RowKit

theorem rminus_any {A : Option Addr} {n c : Nat} (b : Bool) (s : Int) (w : World) :
    Calls Tryz.prog 95 #[.agg #[.bool b, .slice A n c, .int .i64 s]] w (RV w (.agg #[.bool (!b), .slice A n c, .int .i64 s])) := by
  go_enter Tryz.func95, Tryz.ntmps95
  go_wp2
  exact bodyPost_ret (v := .agg #[.bool (!b), .slice A n c, .int .i64 s]) (by simp [results, Tryz.results95, go_sem]) rfl ⟨rfl, ((Below.refl _ _).alloc (Nat.le_refl _) _).alloc (by simp) _⟩

set_option maxHeartbeats 4000000 in
theorem rcalign_any {A : Option Addr} {n c : Nat} {l : List Int} (b : Bool) (s k : Int) (w : World) (h : IL w A n c l) (hl : I64 l) (hs : -9223372036854775808 ≤ s ∧ s ≤ 9223372036854775807) (hk : -9223372036854775808 ≤ k ∧ k ≤ 9223372036854775807) (hn : n ≤ 10000) :
    Calls Tryz.prog 94 #[.agg #[.bool b, .slice A n c, .int .i64 s], .int .i64 k] w (RCE w (alignDc ⟨b, l, s⟩ k).1 (alignDc ⟨b, l, s⟩ k).2) := by
  have hmay := Lib.hid (fun W hW => rcmay_any (A := A) (n := n) (c := c) (l := l) b s W hW hs)
  have hAL : Hid (alignDc ⟨b, l, s⟩ k = if mayDc ⟨b, l, s⟩ then (if k < (trimDc ⟨b, l, s⟩).s ∨ 1000 < k then (Dc.zero, 3) else (⟨(trimDc ⟨b, l, s⟩).neg, trimL (zerosB (trimDc ⟨b, l, s⟩).l (k - (trimDc ⟨b, l, s⟩).s).toNat), k⟩, 0)) else (Dc.zero, 1)) := rfl
  have hR0 := Blk.made w (w.alloc (.cells #[.bool b, .slice A n c, .int .i64 s] 24)) 24 #[.bool false, .slice none 0 0, .int .i64 0] ((Later.refl w).alloc _) (w.heap.size + 1) (by simp)
  have hX0 := (Blk.made w w 24 #[.bool b, .slice A n c, .int .i64 s] (Later.refl w) _ rfl).alloc (.cells #[.bool false, .slice none 0 0, .int .i64 0] 24)
  have el := h.len
  generalize alignDc ⟨b, l, s⟩ k = D at *
  cases hmd : mayDc ⟨b, l, s⟩
  · rw [hmd] at hmay
    have HD : Hid (D = (Dc.zero, 1)) := by rw [Hid, hAL.out, hmd]; rfl
    clear hmd
    go_enter Tryz.func94, Tryz.ntmps94
    go_wp2_with fail
    refine (hmay.out _ ((h.alloc _).alloc _)).mono ?_
    rintro e w1 ⟨rfl, hB1⟩
    have hR := hR0.call hB1
    obtain ⟨⟨r0, r1, r2⟩, ⟨r3, r4, r5⟩⟩ := hR.cells3
    go_wp2_with fail
    rw [HD.out]
    obtain ⟨⟨z0, z1, z2⟩, _⟩ := (hR.store3 (.bool false) (.slice none 0 0) (.int .i64 0)).cells3
    exact bodyPost_ret (v := .tuple #[.agg #[.bool false, .slice none 0 0, .int .i64 0], .int .i64 1]) (by generalize World.setCell (World.setCell (World.setCell _ _ _) _ _) _ _ = W3 at z0 z1 z2 ⊢; simp [results, Tryz.results94, go_sem, z0, z1, z2]) rfl
      ⟨none, 0, 0, rfl, IL.nil _, below_set3 hR.later (Nat.le_succ _) _ _ _, none_new _⟩
  · rw [hmd] at hmay
    obtain ⟨hml, hs0, hs1⟩ := mayDc_iff.1 hmd
    simp only at hml hs0 hs1
    obtain ⟨X, sx, ex, esx, bx1, bx2, mx, lx, _⟩ := trimDc_parts (d := ⟨b, l, s⟩) hml hs0 hs1
    have htr := Lib.hid (fun W hW => rdtrim_any (A := A) (n := n) (c := c) (l := l) b s W hW hl (by omega) hs0 (by omega))
    rw [ex] at htr
    have HD : Hid (D = if k < (sx : Int) ∨ 1000 < k then (Dc.zero, 3) else (⟨X.neg, trimL (zerosB X.l (k - (sx : Int)).toNat), k⟩, 0)) := by rw [Hid, hAL.out, hmd, if_pos rfl, ex, esx]
    clear hmd ex hAL
    obtain ⟨xb, xl, xs⟩ := X
    simp only at esx mx lx HD
    subst esx
    have hxl : xl.length ≤ 10000 := by omega
    by_cases hkk : k < (sx : Int) ∨ 1000 < k
    · have HD2 : Hid (D = (Dc.zero, 3)) := by rw [Hid, HD.out, if_pos hkk]
      rcases hkk with hkk | hkk
      all_goals
        go_enter Tryz.func94, Tryz.ntmps94
        go_wp2_with fail
        refine (hmay.out _ ((h.alloc _).alloc _)).mono ?_
        rintro e w1 ⟨rfl, hB1⟩
        have hR1 := hR0.call hB1
        have hX1 := hX0.call hB1
        obtain ⟨⟨q0, q1, q2⟩, _⟩ := hX1.cells3
        go_wp2_with fail
        refine (htr.out _ (h.later hX1.later)).mono ?_
        rintro e w2 ⟨A2, n2, c2, rfl, hI2, hB2, hN2⟩
        have hR := (hR1.call hB2).alloc (.cells #[.bool xb, .slice A2 n2 c2, .int .i64 (sx : Int)] 24)
        obtain ⟨⟨r0, r1, r2⟩, ⟨r3, r4, r5⟩⟩ := hR.cells3
        go_wp2_with fail
        rw [HD2.out]
        obtain ⟨⟨z0, z1, z2⟩, _⟩ := (hR.store3 (.bool false) (.slice none 0 0) (.int .i64 0)).cells3
        exact bodyPost_ret (v := .tuple #[.agg #[.bool false, .slice none 0 0, .int .i64 0], .int .i64 3]) (by generalize World.setCell (World.setCell (World.setCell _ _ _) _ _) _ _ = W3 at z0 z1 z2 ⊢; simp [results, Tryz.results94, go_sem, z0, z1, z2]) rfl
          ⟨none, 0, 0, rfl, IL.nil _, below_set3 hR.later (Nat.le_succ _) _ _ _, none_new _⟩
    · have HD2 : Hid (D = (⟨xb, trimL (zerosB xl (k - (sx : Int)).toNat), k⟩, 0)) := by rw [Hid, HD.out, if_neg hkk]
      obtain ⟨k', rfl⟩ := Int.eq_ofNat_of_zero_le (show 0 ≤ k by omega)
      have e1 : ((k' : Int) - (sx : Int)).toNat = k' - sx := by omega
      rw [e1] at HD2
      have hsk : sx ≤ k' := by omega
      have hk2 : k' ≤ 1000 := by omega
      have hsh := Lib.hid (fun A n c W (hW : IL W A n c xl) (hn : n ≤ 1000000) => show Calls Tryz.prog 82 #[.slice A n c, .int .i64 ((k' : Int) - (sx : Int))] W (RO W (zerosB xl (k' - sx))) by
        have := rshift_any A n c xl ((k' : Int) - (sx : Int)) W hW hn (by omega) (by omega)
        rw [shiftL_zeros xl k' sx hsk] at this
        exact this)
      have hzl : (zerosB xl (k' - sx)).length ≤ 100000 := by rw [zerosB_len]; omega
      have hdt := Lib.hid (fun A n c W (hW : IL W A n c (zerosB xl (k' - sx))) (hn : n ≤ 100000000) => rtrim_any A n c (zerosB xl (k' - sx)) W hW hn)
      have hwr1 : IntKind.i64.wrap ((k' : Int) - (sx : Int)) = (k' : Int) - (sx : Int) := IntWalk.i64_in _ (by omega)
      generalize zerosB xl (k' - sx) = y at *
      have h0k : ¬ (k' : Int) < (sx : Int) := by omega
      have h1k : ¬ 1000 < (k' : Int) := by omega
      clear e1 HD hkk
      go_enter Tryz.func94, Tryz.ntmps94
      go_wp2_with fail
      refine (hmay.out _ ((h.alloc _).alloc _)).mono ?_
      rintro e w1 ⟨rfl, hB1⟩
      have hR1 := hR0.call hB1
      have hX1 := hX0.call hB1
      obtain ⟨⟨q0, q1, q2⟩, _⟩ := hX1.cells3
      go_wp2_with fail
      refine (htr.out _ (h.later hX1.later)).mono ?_
      rintro e w2 ⟨A2, n2, c2, rfl, hI2, hB2, hN2⟩
      have hg2 : w.heap.size + 1 < w2.heap.size := (hR1.call hB2).lt
      have hR := (hR1.call hB2).alloc (.cells #[.bool xb, .slice A2 n2 c2, .int .i64 (sx : Int)] 24)
      have hT := Blk.made w w2 24 #[.bool xb, .slice A2 n2 c2, .int .i64 (sx : Int)] (hR1.call hB2).later _ rfl
      have hn2 : n2 ≤ 10000 := by rw [← hI2.len]; exact hxl
      go_upto_region 7 with fail
      have hI2' := hI2.alloc (.cells #[.bool xb, .slice A2 n2 c2, .int .i64 (sx : Int)] 24)
      obtain ⟨wb, hwb⟩ : ∃ wb, wb = w2.alloc (.cells #[.bool xb, .slice A2 n2 c2, .int .i64 (sx : Int)] 24) := ⟨_, rfl⟩
      rw [← hwb] at hR hT hI2'
      rw [← hwb]
      clear hwb
      have HS : Hid (∀ W, Blk w w2.heap.size 24 #[.bool xb, .slice A2 n2 c2, .int .i64 (sx : Int)] W → (W.cell? ⟨w2.heap.size, 0, none⟩ = some (.bool xb) ∧ W.cell? ⟨w2.heap.size, 1, none⟩ = some (.slice A2 n2 c2) ∧ W.cell? ⟨w2.heap.size, 2, none⟩ = some (.int .i64 (sx : Int))) ∧ Blk w w2.heap.size 24 #[.bool xb, .slice A2 n2 c2, .int .i64 (sx : Int)] W) := fun W hW => ⟨hW.cells3.1, hW⟩
      have HR := Lib.hid hR
      have HT := Lib.hid hT
      clear hR hT hX0 hR0 hR1 hX1
      go_region_held3 (fun W => (W.cell? ⟨w2.heap.size, 0, none⟩ = some (.bool xb) ∧ W.cell? ⟨w2.heap.size, 1, none⟩ = some (.slice A2 n2 c2) ∧ W.cell? ⟨w2.heap.size, 2, none⟩ = some (.int .i64 (sx : Int))) ∧ Blk w w2.heap.size 24 #[.bool xb, .slice A2 n2 c2, .int .i64 (sx : Int)] W)
        ((refine HS.out _ ?_; repeat (first | exact HT.out | exact And.right (by assumption) | refine Blk.drew ?_ | refine Blk.call ?_ hB4 | refine Blk.call ?_ hB3 | refine Blk.far ?_ (Nat.ne_of_gt hg2) (Nat.le_succ _) _)))
        (first
          | (go_at_call 82; refine (hsh.out _ _ _ _ hI2'.drew (by omega)).mono ?_; rintro e w3 ⟨A3, n3, c3, rfl, hO3, hB3⟩; have hR3 := HR.out.drew.call hB3)
          | (go_at_call 118; refine (hdt.out _ _ _ _ hO3.il (by have := hO3.len; omega)).mono ?_; rintro e w4 ⟨A4, n4, c4, rfl, hO4, hB4⟩; have hR4 := hR3.call hB4; have hlt := hR3.lt; obtain ⟨⟨y0, y1, y2⟩, ⟨y3, y4, y5⟩⟩ := hR4.cells3))
      all_goals
        clear hwr1
        go_wp2_with fail
        have hnew : 0 < n4 → ∀ a, A4 = some a → w.heap.size + 1 < a.block := fun hz a ha => by
          have := hO4.newc (Nat.le_refl _) hz a ha
          omega
        rw [HD2.out]
        obtain ⟨⟨z0, z1, z2⟩, _⟩ := (hR4.store3 (.bool xb) (.slice A4 n4 c4) (.int .i64 (k' : Int))).cells3
        exact bodyPost_ret (v := .tuple #[.agg #[.bool xb, .slice A4 n4 c4, .int .i64 (k' : Int)], .int .i64 0]) (by generalize World.setCell (World.setCell (World.setCell _ _ _) _ _) _ _ = W3 at z0 z1 z2 ⊢; simp [results, Tryz.results94, go_sem, z0, z1, z2]) rfl
          ⟨A4, n4, c4, rfl, hO4.il.set3 (fun hz a ha => by have := hnew hz a ha; omega) _ _ _, below_set3 hR4.later (Nat.le_succ _) _ _ _, fun hz a ha => by have := hnew hz a ha; omega⟩

end Go.Proofs.YtickhmlhciafgaaGreat


namespace Go.Proofs.YtickhmlhciafgaaGreat
open Go.RowKit

theorem blk_c3 {w0 W : World} {g : Nat} {t : TypeId} {a b c : Value} (h : Blk w0 g t #[a, b, c] W) : (W.cell? ⟨g, 0, none⟩ = some a ∧ W.cell? ⟨g, 1, none⟩ = some b ∧ W.cell? ⟨g, 2, none⟩ = some c) ∧ Blk w0 g t #[a, b, c] W := ⟨h.cells3.1, h⟩

set_option maxHeartbeats 4000000 in
theorem rctimes_any {A : Option Addr} {n c : Nat} {l : List Int} (b : Bool) (s k : Int) (w : World) (h : IL w A n c l) (hn : n ≤ 10000) (hs : -9223372036854775808 ≤ s ∧ s ≤ 9223372036854775807) (hk : -9223372036854775808 ≤ k ∧ k ≤ 9223372036854775807) :
    Calls Tryz.prog 63 #[.agg #[.bool b, .slice A n c, .int .i64 s], .int .i64 k] w (RCE w (timesDc ⟨b, l, s⟩ k).1 (timesDc ⟨b, l, s⟩ k).2) := by
  have hmay := Lib.hid (fun W hW => rcmay_any (A := A) (n := n) (c := c) (l := l) b s W hW hs)
  have hTD : Hid (timesDc ⟨b, l, s⟩ k = if mayDc ⟨b, l, s⟩ then (if k < -1000 ∨ 1000 < k then (Dc.zero, 3) else (canon s.toNat (k * Dc.z ⟨b, l, s⟩), 0)) else (Dc.zero, 1)) := rfl
  have hX0 := (Blk.made w w 24 #[.bool b, .slice A n c, .int .i64 s] (Later.refl w) _ rfl).alloc (.cells #[.bool false, .slice none 0 0, .int .i64 0] 24)
  have hR0 := Blk.made w (w.alloc (.cells #[.bool b, .slice A n c, .int .i64 s] 24)) 24 #[.bool false, .slice none 0 0, .int .i64 0] ((Later.refl w).alloc _) (w.heap.size + 1) (by simp)
  have el := h.len
  generalize timesDc ⟨b, l, s⟩ k = D at *
  cases hmd : mayDc ⟨b, l, s⟩
  · rw [hmd] at hmay
    have HD : Hid (D = (Dc.zero, 1)) := by rw [Hid, hTD.out, hmd]; rfl
    clear hmd
    go_enter Tryz.func63, Tryz.ntmps63
    go_wp2_with fail
    refine (hmay.out _ ((h.alloc _).alloc _)).mono ?_
    rintro e w1 ⟨rfl, hB1⟩
    have hR := hR0.call hB1
    have hX := hX0.call hB1
    obtain ⟨⟨r0, r1, r2⟩, ⟨r3, r4, r5⟩⟩ := hR.cells3
    go_wp2_with fail
    rw [HD.out]
    obtain ⟨⟨z0, z1, z2⟩, _⟩ := (hR.store3 (.bool false) (.slice none 0 0) (.int .i64 0)).cells3
    exact bodyPost_ret (v := .tuple #[.agg #[.bool false, .slice none 0 0, .int .i64 0], .int .i64 1]) (by generalize World.setCell (World.setCell (World.setCell _ _ _) _ _) _ _ = W3 at z0 z1 z2 ⊢; simp [results, Tryz.results63, go_sem, z0, z1, z2]) rfl
      ⟨none, 0, 0, rfl, IL.nil _, below_set3 hR.later (Nat.le_succ _) _ _ _, none_new _⟩
  · rw [hmd] at hmay
    obtain ⟨hml, hs0, hs1⟩ := mayDc_iff.1 hmd
    simp only at hml hs0 hs1
    by_cases hk0 : k < -1000 ∨ 1000 < k
    · have HD : Hid (D = (Dc.zero, 3)) := by rw [Hid, hTD.out, hmd, if_pos rfl, if_pos hk0]
      clear hmd
      rcases hk0 with hk0 | hk0
      all_goals
        go_enter Tryz.func63, Tryz.ntmps63
        go_wp2_with fail
        refine (hmay.out _ ((h.alloc _).alloc _)).mono ?_
        rintro e w1 ⟨rfl, hB1⟩
        have hR := hR0.call hB1
        have hX := hX0.call hB1
        obtain ⟨⟨r0, r1, r2⟩, ⟨r3, r4, r5⟩⟩ := hR.cells3
        go_wp2_with fail
        rw [HD.out]
        obtain ⟨⟨z0, z1, z2⟩, _⟩ := (hR.store3 (.bool false) (.slice none 0 0) (.int .i64 0)).cells3
        exact bodyPost_ret (v := .tuple #[.agg #[.bool false, .slice none 0 0, .int .i64 0], .int .i64 3]) (by generalize World.setCell (World.setCell (World.setCell _ _ _) _ _) _ _ = W3 at z0 z1 z2 ⊢; simp [results, Tryz.results63, go_sem, z0, z1, z2]) rfl
          ⟨none, 0, 0, rfl, IL.nil _, below_set3 hR.later (Nat.le_succ _) _ _ _, none_new _⟩
    · obtain ⟨s', rfl⟩ := Int.eq_ofNat_of_zero_le hs0
      have HD0 : D = (canon s' (k * Dc.z ⟨b, l, s'⟩), 0) := by rw [hTD.out, hmd, if_pos rfl, if_neg hk0]; rfl
      have heq := times_eq (d := ⟨b, l, (s' : Int)⟩) hml k s' rfl
      simp only at heq
      have hk1 : ¬ k < -1000 := by omega
      have hk2 : ¬ 1000 < k := by omega
      clear hk0
      by_cases hneg : k < 0
      · rw [if_pos (show k < -k by omega), show decide (k < 0) = true from by simp; omega, Bool.bne_true] at heq
        have hti := Lib.hid (fun A n c W (hW : IL W A n c l) (hn : n ≤ 100000) => rtimes_any A n c l (-k) W hW hml hn (by omega) (by omega))
        have hvl := ofN_times_len (M := 10000) hml (by omega) (k := -k) (by omega) (by omega)
        have htr := Lib.hid (fun A n c W hW hn => rdtrim_any (A := A) (n := n) (c := c) (l := ofN ((-k) * val l).toNat) (!b) (s' : Int) W hW (I64_of_may (mayL_ofN _)) hn (by omega) (by omega))
        rw [heq] at htr
        generalize canon s' (k * Dc.z ⟨b, l, (s' : Int)⟩) = R at *
        generalize ofN ((-k) * val l).toNat = v at *
        have HD := Lib.hid HD0
        clear HD0 heq hmd hTD
        have hwr : IntKind.i64.wrap (-k) = -k := IntWalk.i64_in _ (by omega)
        go_enter Tryz.func63, Tryz.ntmps63
        go_wp2_with fail
        refine (hmay.out _ ((h.alloc _).alloc _)).mono ?_
        rintro e w1 ⟨rfl, hB1⟩
        have hR := hR0.call hB1
        have hX := hX0.call hB1
        obtain ⟨⟨q0, q1, q2⟩, _⟩ := hX.cells3
        go_upto_region 7 with fail
        have HX := Lib.hid hX
        have HR := Lib.hid hR
        go_region_held3 (fun W => (W.cell? ⟨w.heap.size, 0, none⟩ = some (.bool b) ∧ W.cell? ⟨w.heap.size, 1, none⟩ = some (.slice A n c) ∧ W.cell? ⟨w.heap.size, 2, none⟩ = some (.int .i64 (s' : Int))) ∧ Blk w w.heap.size 24 #[.bool b, .slice A n c, .int .i64 (s' : Int)] W)
          ((refine blk_c3 ?_; repeat (first | exact HX.out | exact And.right (by assumption) | refine Blk.drew ?_ | refine Blk.call ?_ hB9 | refine Blk.call ?_ hB8 | refine Blk.far ?_ (by simp <;> omega) (by simp <;> omega) _)))
          (first
            | (go_at_call 103; refine (hti.out _ _ _ _ (h.later HX.out.later.drew) (by omega)).mono ?_; rintro e w8 ⟨A8, n8, c8, rfl, hO8, hB8⟩; have hR8 := HR.out.drew.call hB8)
            | (go_at_call 80; refine (htr.out _ _ _ _ hO8.il (by have := hO8.len; omega)).mono ?_; rintro e w9 ⟨A9, n9, c9, rfl, hI9, hB9, hN9⟩; have hR9 := hR8.call hB9; have hlt := hR8.lt; obtain ⟨⟨y0, y1, y2⟩, ⟨y3, y4, y5⟩⟩ := hR9.cells3))
        all_goals
          go_wp2_with fail
          rw [HD.out]
          obtain ⟨⟨z0, z1, z2⟩, _⟩ := (hR9.store3 (.bool R.neg) (.slice A9 n9 c9) (.int .i64 R.s)).cells3
          exact bodyPost_ret (v := .tuple #[.agg #[.bool R.neg, .slice A9 n9 c9, .int .i64 R.s], .int .i64 0]) (by generalize World.setCell (World.setCell (World.setCell _ _ _) _ _) _ _ = W3 at z0 z1 z2 ⊢; simp [results, Tryz.results63, go_sem, z0, z1, z2]) rfl
            ⟨A9, n9, c9, rfl, hI9.set3 (fun hz a ha => by have := hN9 hz a ha; omega) _ _ _, below_set3 hR9.later (Nat.le_succ _) _ _ _, fun hz a ha => by have := hN9 hz a ha; omega⟩
      · rw [if_neg (show ¬ k < -k by omega), show decide (k < 0) = false from by simp; omega, Bool.bne_false] at heq
        have hti := Lib.hid (fun A n c W (hW : IL W A n c l) (hn : n ≤ 100000) => rtimes_any A n c l (k) W hW hml hn (by omega) (by omega))
        have hvl := ofN_times_len (M := 10000) hml (by omega) (k := k) (by omega) (by omega)
        have htr := Lib.hid (fun A n c W hW hn => rdtrim_any (A := A) (n := n) (c := c) (l := ofN ((k) * val l).toNat) (b) (s' : Int) W hW (I64_of_may (mayL_ofN _)) hn (by omega) (by omega))
        rw [heq] at htr
        generalize canon s' (k * Dc.z ⟨b, l, (s' : Int)⟩) = R at *
        generalize ofN ((k) * val l).toNat = v at *
        have HD := Lib.hid HD0
        clear HD0 heq hmd hTD
        go_enter Tryz.func63, Tryz.ntmps63
        go_wp2_with fail
        refine (hmay.out _ ((h.alloc _).alloc _)).mono ?_
        rintro e w1 ⟨rfl, hB1⟩
        have hR := hR0.call hB1
        have hX := hX0.call hB1
        obtain ⟨⟨q0, q1, q2⟩, _⟩ := hX.cells3
        go_upto_region 8 with fail
        have HX := Lib.hid hX
        have HR := Lib.hid hR
        go_region_held3 (fun W => (W.cell? ⟨w.heap.size, 0, none⟩ = some (.bool b) ∧ W.cell? ⟨w.heap.size, 1, none⟩ = some (.slice A n c) ∧ W.cell? ⟨w.heap.size, 2, none⟩ = some (.int .i64 (s' : Int))) ∧ Blk w w.heap.size 24 #[.bool b, .slice A n c, .int .i64 (s' : Int)] W)
          ((refine blk_c3 ?_; repeat (first | exact HX.out | exact And.right (by assumption) | refine Blk.drew ?_ | refine Blk.call ?_ hB9 | refine Blk.call ?_ hB8 | refine Blk.far ?_ (by simp <;> omega) (by simp <;> omega) _)))
          (first
            | (go_at_call 103; refine (hti.out _ _ _ _ (h.later HX.out.later.drew) (by omega)).mono ?_; rintro e w8 ⟨A8, n8, c8, rfl, hO8, hB8⟩; have hR8 := HR.out.drew.call hB8)
            | (go_at_call 80; refine (htr.out _ _ _ _ hO8.il (by have := hO8.len; omega)).mono ?_; rintro e w9 ⟨A9, n9, c9, rfl, hI9, hB9, hN9⟩; have hR9 := hR8.call hB9; have hlt := hR8.lt; obtain ⟨⟨y0, y1, y2⟩, ⟨y3, y4, y5⟩⟩ := hR9.cells3))
        all_goals
          go_wp2_with fail
          rw [HD.out]
          obtain ⟨⟨z0, z1, z2⟩, _⟩ := (hR9.store3 (.bool R.neg) (.slice A9 n9 c9) (.int .i64 R.s)).cells3
          exact bodyPost_ret (v := .tuple #[.agg #[.bool R.neg, .slice A9 n9 c9, .int .i64 R.s], .int .i64 0]) (by generalize World.setCell (World.setCell (World.setCell _ _ _) _ _) _ _ = W3 at z0 z1 z2 ⊢; simp [results, Tryz.results63, go_sem, z0, z1, z2]) rfl
            ⟨A9, n9, c9, rfl, hI9.set3 (fun hz a ha => by have := hN9 hz a ha; omega) _ _ _, below_set3 hR9.later (Nat.le_succ _) _ _ _, fun hz a ha => by have := hN9 hz a ha; omega⟩

end Go.Proofs.YtickhmlhciafgaaGreat


namespace Go.Proofs.YtickhmlhciafgaaGreat
open Go.RowKit

theorem IL.lir1 (w : World) (e : TypeId) (x : Int) (b : Nat) (hb : b = w.heap.size) : IL (w.alloc (.cells #[.int .i64 x] e)) (some ⟨b, 0, none⟩) 1 1 [x] := by
  subst hb; exact VL.lit w e 1 [.int .i64 x] rfl (by omega)
theorem IL.lir2 (w : World) (e : TypeId) (x y : Int) (b : Nat) (hb : b = w.heap.size) : IL (w.alloc (.cells #[.int .i64 x, .int .i64 y] e)) (some ⟨b, 0, none⟩) 2 2 [x, y] := by
  subst hb; exact VL.lit w e 2 [.int .i64 x, .int .i64 y] rfl (by omega)
theorem I64_small7 {l : List Int} (h : l.all (fun x => decide (-1000 ≤ x) && decide (x ≤ 1000)) = true) : I64 l := fun x hx => by
  have := List.all_eq_true.1 h x hx
  simp at this
  omega
theorem GoodDc.dc {X : Dc} {q : Nat} (h : GoodDc X q) : mayDc X = true := mayDc_iff.2 ⟨h.1, h.2.1, by have := h.2.2.1; omega⟩
theorem good_round {X : Dc} {q : Nat} (h : GoodDc X q) (m : Int) {k : Nat} (hk : k ≤ 9) : GoodDc (scaled k (roundZ m X k)) (q + k + 1) :=
  ⟨mayL_digs _, by simp [scaled], by simp [scaled]; omega, round_len h.1 h.2.2.2 m k⟩
theorem GoodDc.minus {X : Dc} {q : Nat} (h : GoodDc X q) : GoodDc (minusDc X) q := h
theorem good_add {a b : Dc} {M : Nat} (ha : GoodDc a M) (hb : GoodDc b M) : GoodDc (addDc a b).1 (M + 10) := by
  have hs := add_s a b
  have h1 := ha.2.1
  have h2 := ha.2.2.1
  have h3 := hb.2.1
  have h4 := hb.2.2.1
  have hl := add_len ha.1 hb.1 ha.2.2.2 hb.2.2.2 (N := 9) (by omega) (by omega)
  refine ⟨mayL_add a b, hs.1, ?_, by omega⟩
  rw [addDc_at ha.dc hb.dc 9 (by omega) (by omega)]
  exact (canonic 9 _).hi
theorem good_times {d : Dc} {M : Nat} (h : GoodDc d M) (k : Int) (h1 : -1000 ≤ k) (h2 : k ≤ 1000) : GoodDc (timesDc d k).1 (M + 4) := by
  have h0 := h.2.1
  have h9 := h.2.2.1
  refine ⟨mayL_times k, (times_s (by omega) k).1, ?_, times_len h.1 h.2.2.2 k⟩
  unfold timesDc
  rw [if_pos h.dc, if_neg (by omega)]
  have := (canonic d.s.toNat (k * d.z)).hi
  simp only
  omega
theorem good_abs {d : Dc} {M : Nat} (h : GoodDc d M) : GoodDc (absDc d) M := h
theorem good_one (b : Bool) {k : Nat} (hk : k ≤ 9) : GoodDc (oneDc b k) 1 := ⟨rfl, by simp [oneDc], by simp [oneDc]; omega, by simp [oneDc]⟩
/-- A good decimal, rounded. -/
theorem to_good {X : Dc} {q : Nat} (hX : GoodDc X q) (hq : q ≤ 10000) {k : Nat} (hk : k ≤ 9) {m : Int} (hm : 0 ≤ m ∧ m ≤ 6) {A : Option Addr} {n c : Nat} (W : World) (h : IL W A n c X.l) :
    Calls Tryz.prog 51 #[.agg #[.bool X.neg, .slice A n c, .int .i64 X.s], .int .i64 (k : Int), .int .i64 m] W (RCE W (scaled k (roundZ m X k)) 0) := by
  have h2 := hX.2.1
  have h3 := hX.2.2.1
  have h4 := hX.2.2.2
  have hl := h.len
  have := rto_any X.neg X.s (k : Int) m W h (I64_of_may hX.1) (by omega) (by omega) (by omega) (by omega)
  rw [show (⟨X.neg, X.l, X.s⟩ : Dc) = X from rfl, roundDc_in hX.dc k (by omega) m hm] at this
  exact this
theorem lives7_even : roundDc ⟨true, [2, 5], 1⟩ 0 6 = (⟨true, [2], 0⟩, 0) := by rfl
theorem lives7_up : roundDc ⟨true, [2, 5], 1⟩ 0 5 = (⟨true, [3], 0⟩, 0) := by rfl

end Go.Proofs.YtickhmlhciafgaaGreat

