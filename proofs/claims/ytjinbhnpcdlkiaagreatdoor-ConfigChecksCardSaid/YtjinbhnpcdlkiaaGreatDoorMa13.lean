/- What the laws of rounding share: decimals as each side has them, roundings of good decimals, and what lives. No condition. -/
import Derived.Test.YtjinbhnpcdlkiaaGreatDoorMa12
import Derived.Test.YtjinbhnpcdlkiaaGreatDoorMa02
import Derived.Test.YtjinbhnpcdlkiaaGreatDoorMa08
import Derived.Test.YtjinbhnpcdlkiaaGreatDoorMa10
import Derived.Test.YtjinbhnpcdlkiaaGreatDoorMa09
import Derived.Test.YtjinbhnpcdlkiaaGreatDoorMa11
namespace Go.Proofs.YtjinbhnpcdlkiaaGreatDoor
open Go.RowKit

theorem Later.under {w W W' : World} (h : Later w W) (hb : Below w.heap.size W W') : Later w W' := Below.trans h hb
/-- An append of noughts in a region that draws. -/
theorem step_append_zeros {ops : Array Oper} {o : Oper} {a : Act} {w : World} {K : Act → World → Prop} {Q : Exit → Act → World → Prop} {E : Prop} {A : Option Addr} {n c k : Nat} {l : List Int}
    (B : Nat) (hg : o.guard = none) (s x : Operand)
    (hop : o.op = .call { callee := .builtin .append, args := #[s, x], argTypes := #[26, 3] }) (hs : a.eval s = .slice A n c) (hx : a.eval x = .int .i64 (k : Int))
    (h1 : OL w B A n c l) (hB : B ≤ w.heap.size) (hn : n + k ≤ 1000000000)
    (h : ∀ A' c' w', OL w' B A' (n + k) c' (l ++ List.replicate k 0) → Below B w w' → K (a.put o.dst (.slice A' (n + k) c')) w') :
    if Region.wanted o (yielded ops a.tmps) = true then Oper.wp Tryz.prog o a w K Q else E := by
  have hw : Region.wanted o (yielded ops a.tmps) = true := by simp [Region.wanted, hg]
  rw [if_pos hw]
  obtain ⟨A', c', w', hr, h3, h4⟩ := run_append_zeros_OL o.type k hB h1 hn
  unfold Oper.wp
  simp [execOp, hop, resolve, invoke, builtin, hs, hx, hr, Result.andThen]
  exact h A' c' w' h3 h4
theorem shiftL_back (l : List Int) {less : Nat} (h : 0 < less) : shiftL l (-(less : Int)) = l.take (l.length - less) := by
  unfold shiftL
  rw [if_pos (by omega)]
  congr 2
  omega

set_option maxRecDepth 100000 in
set_option maxHeartbeats 8000000 in
theorem rto_any {A : Option Addr} {n c : Nat} {l : List Int} (b : Bool) (s k m : Int) (w : World) (h : IL w A n c l) (hl : I64 l) (hs : -9223372036854775808 ≤ s ∧ s ≤ 9223372036854775807) (hk : -9223372036854775808 ≤ k ∧ k ≤ 9223372036854775807)
    (hm : -9223372036854775808 ≤ m ∧ m ≤ 9223372036854775807) (hn : n ≤ 10000) :
    Calls Tryz.prog 52 #[.agg #[.bool b, .slice A n c, .int .i64 s], .int .i64 k, .int .i64 m] w (RCE w (roundDc ⟨b, l, s⟩ k m).1 (roundDc ⟨b, l, s⟩ k m).2) := by
  have m1 := Lib.hid (fun W hW => cmay_any (A := A) (n := n) (c := c) (l := l) b s W hW hl hs)
  have hAD : Hid (roundDc ⟨b, l, s⟩ k m = if mayDc ⟨b, l, s⟩ && decide (0 ≤ m) && decide (m ≤ 6) then (if k < 0 ∨ 1000 < k then (Dc.zero, 3) else (scaled k.toNat (roundZ m ⟨b, l, s⟩ k.toNat), 0)) else (Dc.zero, 1)) := rfl
  have el := h.len
  have hX0 := (Blk.made w w 36 #[.bool b, .slice A n c, .int .i64 s] (Later.refl w) _ rfl).alloc (.cells #[.bool false, .slice none 0 0, .int .i64 0] 36)
  have hR0 := Blk.made w (w.alloc (.cells #[.bool b, .slice A n c, .int .i64 s] 36)) 36 #[.bool false, .slice none 0 0, .int .i64 0] ((Later.refl w).alloc _) (w.heap.size + 1) (by simp)
  generalize roundDc ⟨b, l, s⟩ k m = D at *
  cases hm1 : mayDc ⟨b, l, s⟩
  · rw [hm1] at m1
    have HD : Hid (D = (Dc.zero, 1)) := by rw [Hid, hAD.out, hm1]; rfl
    clear hm1 hAD
    go_enter Tryz.func52, Tryz.ntmps52
    go_wp2_with fail
    refine (m1.out _ ((h.alloc _).alloc _)).mono ?_
    rintro e w1 ⟨rfl, hB1⟩
    have hR := hR0.call hB1
    obtain ⟨⟨r0, r1, r2⟩, ⟨r3, r4, r5⟩⟩ := hR.cells3
    go_wp2_with fail
    rw [HD.out]
    obtain ⟨⟨z0, z1, z2⟩, _⟩ := (hR.store3 (.bool false) (.slice none 0 0) (.int .i64 0)).cells3
    exact bodyPost_ret (v := .tuple #[.agg #[.bool false, .slice none 0 0, .int .i64 0], .int .i64 1]) (by generalize World.setCell (World.setCell (World.setCell _ _ _) _ _) _ _ = W3 at z0 z1 z2 ⊢; simp [results, Tryz.results52, go_sem, z0, z1, z2]) rfl
      ⟨none, 0, 0, rfl, IL.nil _, below_set3 hR.later (by omega) _ _ _, none_new _⟩
  · rw [hm1] at m1
    have nm := Lib.hid (fun W => name_any m W)
    by_cases hmm : 0 ≤ m ∧ m ≤ 6
    · obtain ⟨nb, hnb, hne⟩ : ∃ nb, nameB m = nb ∧ nb.toList.isEmpty = false := by
        refine ⟨_, rfl, ?_⟩
        rcases seven hmm with rfl | rfl | rfl | rfl | rfl | rfl | rfl <;> decide +kernel
      rw [hnb] at nm
      clear hnb
      go_enter Tryz.func52, Tryz.ntmps52
      go_wp2_with fail
      refine (m1.out _ ((h.alloc _).alloc _)).mono ?_
      rintro e w1 ⟨rfl, hB1⟩
      go_wp2_with fail
      refine (nm.out _).mono ?_
      rintro e w2 ⟨rfl, hB2⟩
      have hR := (hR0.call hB1).call hB2
      have hX := (hX0.call hB1).call hB2
      have hI := h.later hX.later
      clear hR0 hX0 m1 nm hB1 hB2
      by_cases hkk : k < 0 ∨ 1000 < k
      · have HD : Hid (D = (Dc.zero, 3)) := by
          rw [Hid, hAD.out, hm1, if_pos hkk, if_pos]
          simp
          omega
        clear hAD hm1
        obtain ⟨⟨r0, r1, r2⟩, ⟨r3, r4, r5⟩⟩ := hR.cells3
        rcases hkk with hkk | hkk
        · go_wp2_with fail
          rw [HD.out]
          obtain ⟨⟨z0, z1, z2⟩, _⟩ := (hR.store3 (.bool false) (.slice none 0 0) (.int .i64 0)).cells3
          exact bodyPost_ret (v := .tuple #[.agg #[.bool false, .slice none 0 0, .int .i64 0], .int .i64 3]) (by generalize World.setCell (World.setCell (World.setCell _ _ _) _ _) _ _ = W3 at z0 z1 z2 ⊢; simp [results, Tryz.results52, go_sem, z0, z1, z2]) rfl
            ⟨none, 0, 0, rfl, IL.nil _, below_set3 hR.later (by omega) _ _ _, none_new _⟩
        · have hk0 : ¬ k < 0 := by omega
          go_wp2_with fail
          rw [HD.out]
          obtain ⟨⟨z0, z1, z2⟩, _⟩ := (hR.store3 (.bool false) (.slice none 0 0) (.int .i64 0)).cells3
          exact bodyPost_ret (v := .tuple #[.agg #[.bool false, .slice none 0 0, .int .i64 0], .int .i64 3]) (by generalize World.setCell (World.setCell (World.setCell _ _ _) _ _) _ _ = W3 at z0 z1 z2 ⊢; simp [results, Tryz.results52, go_sem, z0, z1, z2]) rfl
            ⟨none, 0, 0, rfl, IL.nil _, below_set3 hR.later (by omega) _ _ _, none_new _⟩
      · obtain ⟨K, rfl⟩ := Int.eq_ofNat_of_zero_le (show 0 ≤ k by omega)
        have hK : K ≤ 1000 := by omega
        have HD : Hid (D = (scaled K (roundZ m ⟨b, l, s⟩ K), 0)) := by
          rw [Hid, hAD.out, hm1, if_neg hkk, if_pos]
          · simp
          · simp; omega
        obtain ⟨hml, hs0, hs1⟩ := mayDc_iff.1 hm1
        simp only at hml hs0 hs1
        have hal := Lib.hid (fun W hW => calign_any (A := A) (n := n) (c := c) (l := l) b s (K : Int) W hW hl hs (by omega) hn)
        have hcan := trimDc_canonic (d := ⟨b, l, s⟩) hml hs0
        clear hkk hAD
        by_cases hT : (trimDc ⟨b, l, s⟩).s ≤ (K : Int)
        · have hkeep := round_keep (d := ⟨b, l, s⟩) hml hs0 m K hT
          rw [align_to hm1 K hK hT, ← hkeep] at hal
          generalize scaled K (roundZ m ⟨b, l, s⟩ K) = E at *
          clear hkeep hm1 hT hcan
          obtain ⟨⟨q0, q1, q2⟩, _⟩ := hX.cells3
          go_wp2_with fail
          refine (hal.out _ hI).mono ?_
          rintro e w3 ⟨A3, n3, c3, rfl, hI3, hB3, hN3⟩
          have hR3 := (hR.call hB3).alloc (.cells #[.bool E.neg, .slice A3 n3 c3, .int .i64 E.s] 36)
          obtain ⟨⟨r0, r1, r2⟩, ⟨r3, r4, r5⟩⟩ := hR3.cells3
          have hgl := hR.lt
          have hI3' := hI3.alloc (.cells #[.bool E.neg, .slice A3 n3 c3, .int .i64 E.s] 36)
          have hLw := hR.later.size
          go_wp2_with fail
          rw [HD.out]
          obtain ⟨⟨z0, z1, z2⟩, _⟩ := (hR3.store3 (.bool E.neg) (.slice A3 n3 c3) (.int .i64 E.s)).cells3
          exact bodyPost_ret (v := .tuple #[.agg #[.bool E.neg, .slice A3 n3 c3, .int .i64 E.s], .int .i64 0]) (by generalize World.setCell (World.setCell (World.setCell _ _ _) _ _) _ _ = W3 at z0 z1 z2 ⊢; simp [results, Tryz.results52, go_sem, z0, z1, z2]) rfl
            ⟨A3, n3, c3, rfl, hI3'.set3 (g := w.heap.size + 1) (fun hz a ha => by have := hN3 hz a ha; omega) _ _ _, below_set3 hR3.later (by omega) _ _ _, fun hz a ha => by have := hN3 hz a ha; omega⟩
        · obtain ⟨T, hTe⟩ : ∃ T, trimDc ⟨b, l, s⟩ = T := ⟨_, rfl⟩
          rw [hTe] at hT hcan
          have hThi := hcan.hi
          have hTlo := hcan.lo
          have hTm := hcan.may
          have hTlen : T.l.length ≤ 10000 := by rw [← hTe]; have := trimDc_len ⟨b, l, s⟩; simp only at this; omega
          simp only at hThi
          obtain ⟨l1, hless⟩ : ∃ l1 : Nat, T.s = (K : Int) + ((l1 : Int) + 1) := ⟨(T.s - K - 1).toNat, by omega⟩
          have hlb : K + l1 ≤ 999 := by omega
          have hrd := round_steps (d := ⟨b, l, s⟩) hml hs0 m K (l1 + 1) (by rw [hTe, hless]; omega) (by omega)
          rw [hTe, Nat.add_sub_cancel] at hrd
          obtain ⟨Z, hZ⟩ : ∃ Z : Dc, Hid (∀ W, IL W A n c l → Calls Tryz.prog 74 #[.agg #[.bool b, .slice A n c, .int .i64 s], .int .i64 (K : Int)] W (RCE W Z 3)) := by
            refine ⟨Dc.zero, fun W hW => ?_⟩
            have := hal.out W hW
            have e : alignDc ⟨b, l, s⟩ (K : Int) = (Dc.zero, 3) := by
              unfold alignDc
              rw [if_pos hm1, if_pos (by rw [hTe]; exact .inl (by omega))]
            rw [e] at this
            exact this
          have htr := Lib.hid (fun W hW => dtrim_any (A := A) (n := n) (c := c) (l := l) b s W hW hl (by omega) hs0 (by omega))
          rw [hTe] at htr
          have hsh := Lib.hid (fun A n c W (hW : IL W A n c T.l) => show Calls Tryz.prog 67 #[.slice A n c, .int .i64 (-((l1 : Int) + 1))] W (RLE W (T.l.take (T.l.length - (l1 + 1))) 0) by
            have := shift_any A n c T.l (-((l1 : Int) + 1)) W hW (I64_of_may hTm) (by have := hW.len; omega) (by omega)
            have e := shiftL_back T.l (less := l1 + 1) (by omega)
            rw [Int.natCast_add, Int.natCast_one] at e
            unfold shiftR at this
            rw [if_pos hTm, if_neg (by omega), e] at this
            exact this)
          have hkm := mayL_take hTm (T.l.length - (l1 + 1))
          have hrm := mayL_drop hTm (T.l.length - (l1 + 1))
          have hkl : Hid ((T.l.take (T.l.length - (l1 + 1))).length = T.l.length - (l1 + 1)) := by rw [Hid, List.length_take]; omega
          have hrl : Hid (T.l.drop (T.l.take (T.l.length - (l1 + 1))).length = T.l.drop (T.l.length - (l1 + 1))) := by rw [hkl.out]; rfl
          have hkq : (T.l.take (T.l.length - (l1 + 1))).length ≤ T.l.length := by rw [hkl.out]; omega
          generalize T.l.take (T.l.length - (l1 + 1)) = kept at *
          generalize T.l.drop (T.l.length - (l1 + 1)) = rest at *
          have hcm := Lib.hid (fun A n c A2 n2 c2 W (h1 : IL W A n c rest) (h2 : IL W A2 n2 c2 (5 :: List.replicate l1 0)) (hn : n ≤ 100000) => compare_any A n c _ A2 n2 c2 _ W h1 h2 (I64_of_may hrm) (I64_of_may (mayL_five _)) (by omega) (by have := h2.len; simp at this; omega))
          generalize cmpL rest (5 :: List.replicate l1 0) = cc at *
          have hod := Lib.hid (fun A n c W (h1 : IL W A n c kept) => odd_any A n c kept W h1 hkm)
          have haw := Lib.hid (fun W => away_any m T.neg (digL kept 0 % 2 == 1) cc W hmm)
          generalize (digL kept 0 % 2 == 1) = ob at *
          have HD2 := Lib.hid (HD.out)
          rw [hrd] at HD2
          have hTne : 0 < T.l.length := by
            rcases Nat.eq_zero_or_pos T.l.length with h0 | h0
            · exfalso
              apply hcan.last (by omega)
              unfold Dc.z
              rw [List.eq_nil_of_length_eq_zero h0]
              cases T.neg <;> rfl
            · exact h0
          clear hrd HD hm1 hal hcan
          generalize awayB m T.neg ob cc = aw at *
          obtain ⟨⟨q0, q1, q2⟩, _⟩ := hX.cells3
          have hRl := hR.later.size
          have hRg := hR.lt
          go_wp2_with fail
          refine (hZ.out _ hI).mono ?_
          rintro e w3 ⟨A3, n3, c3, rfl, hI3, hB3, _⟩
          have hX3 := (hX.call hB3).alloc (.cells #[.bool Z.neg, .slice A3 n3 c3, .int .i64 Z.s] 36)
          have hR3 := (hR.call hB3).alloc (.cells #[.bool Z.neg, .slice A3 n3 c3, .int .i64 Z.s] 36)
          have hI3' := (hI.below hB3).alloc (.cells #[.bool Z.neg, .slice A3 n3 c3, .int .i64 Z.s] 36)
          clear q0 q1 q2
          obtain ⟨⟨q0, q1, q2⟩, _⟩ := hX3.cells3
          go_wp2_with fail
          refine (htr.out _ hI3').mono ?_
          rintro e w4 ⟨A4, n4, c4, rfl, hI4, hB4, hN4⟩
          clear q0 q1 q2
          have hX4 := hX3.call hB4
          have hR4 := hR3.call hB4
          have hRl3 := hR3.lt
          obtain ⟨⟨q0, q1, q2⟩, ⟨q3, q4, q5⟩⟩ := hX4.cells3
          go_upto_region 9 with fail
          clear q0 q1 q2 q3 q4 q5
          have hXb := hX4.store3 (.bool T.neg) (.slice A4 n4 c4) (.int .i64 ((K : Int) + ((l1 : Int) + 1)))
          have hRb := hR4.far3 (g' := w.heap.size) (by omega) (Nat.le_refl _) (.bool T.neg) (.slice A4 n4 c4) (.int .i64 ((K : Int) + ((l1 : Int) + 1)))
          have hTb := hI4.set3 (g := w.heap.size) (fun hz a ha => by have := hN4 hz a ha; omega) (.bool T.neg) (.slice A4 n4 c4) (.int .i64 ((K : Int) + ((l1 : Int) + 1)))
          generalize World.setCell (World.setCell (World.setCell w4 _ _) _ _) _ _ = wb at *
          obtain ⟨⟨x0, x1, x2⟩, _⟩ := hXb.cells3
          have e4 := hTb.len
          clear hX3 hR3 hX4 hR4 hI3 hI3' hI4 hB3 hB4 hR hX hI
          have hsub : (K : Int) + ((l1 : Int) + 1) - (K : Int) = (l1 : Int) + 1 := by omega
          go_wp2_with fail
          refine (hsh.out _ _ _ _ hTb).mono ?_
          rintro e w5 ⟨A5, n5, c5, rfl, hO5, hB5⟩
          have hX5 := hXb.call hB5
          have hR5 := hRb.call hB5
          have hT5 := hTb.below hB5
          have hK5 := hO5.il
          have e5 := hK5.len
          have h54 : n5 ≤ n4 := by omega
          have hc4 := hT5.cap
          have hl4 := hT5.le
          have hrst := hT5.drop h54 (A4.map (·.add n5)) (fun _ => rfl)
          have hne : ¬ c4 = n5 := by have := hkl.out; omega
          have hr2 : Hid (T.l.drop n5 = rest) := by rw [Hid, ← hrl.out, e5]
          rw [hr2.out] at hrst
          clear x0 x1 x2 hXb hRb hTb hO5 hB5
          go_upto_region 11 with fail
          have HS : Hid (∀ W, Later w5 W → (W.cell? ⟨w.heap.size, 0, none⟩ = some (.bool T.neg) ∧ W.cell? ⟨w.heap.size, 1, none⟩ = some (.slice A4 n4 c4) ∧ W.cell? ⟨w.heap.size, 2, none⟩ = some (.int .i64 ((K : Int) + ((l1 : Int) + 1)))) ∧ Later w5 W) := fun W hW => ⟨(hX5.call hW).cells3.1, hW⟩
          have hb1 : (0 : Int) ≤ (n5 : Int) := by omega
          have hb2 : (n5 : Int) ≤ (n4 : Int) := by omega
          have hb3 : (n4 : Int) ≤ (c4 : Int) := by omega
          have hn45 : n4 - n5 ≤ 100000 := by omega
          go_cut [13] (fun s W => s = .int .i64 cc ∧ Later w5 W)
          case first =>
            have hw1 : IntKind.i64.wrap ((l1 : Int) + 1 - 1) = (l1 : Int) := by rw [Int.add_sub_cancel]; exact IntWalk.i64_in _ (by omega)
            have hw2 : IntKind.i64.wrap (l1 : Int) = (l1 : Int) := IntWalk.i64_in _ (by omega)
            go_region_held3 (fun W => (W.cell? ⟨w.heap.size, 0, none⟩ = some (.bool T.neg) ∧ W.cell? ⟨w.heap.size, 1, none⟩ = some (.slice A4 n4 c4) ∧ W.cell? ⟨w.heap.size, 2, none⟩ = some (.int .i64 ((K : Int) + ((l1 : Int) + 1)))) ∧ Later w5 W)
              ((refine HS.out _ ?_; repeat (first | exact And.right (by assumption) | exact Later.refl _ | refine Later.drew ?_ | refine Later.alloc ?_ _ | refine Later.under ?_ hB8 | refine Later.call ?_ hB9)))
              (first
                | (refine step_append_zeros w5.heap.size (by rfl) (.tmp 60) (.tmp 62) (by rfl) (by rfl) (by rfl) (OL.drew (OL.full (IL.one _ _ _) (fun q => by cases q) _ (fun _ => ⟨_, rfl, Nat.le_refl _⟩))) (by simp) (by omega) ?_; intro A8 c8 w8 hO8 hB8)
                | (go_at_call 44; refine (hcm.out _ _ _ _ _ _ _ (hrst.later (And.right (by assumption))) hO8.il hn45).mono ?_; rintro e w9 ⟨rfl, hB9⟩))
            all_goals
              go_wp2_with fail
              go_meet
              exact ⟨rfl, And.right (by assumption)⟩
          case rest =>
            obtain ⟨rfl, hLc⟩ := hcut
            obtain ⟨wd, hwd⟩ : ∃ wd, wd = wc := ⟨_, rfl⟩
            rw [← hwd] at hLc
            rw [← hwd]
            clear hwd HS hrst hcm hb1 hb2 hb3 hrl hr2 hn45 hne hsub hT5
            have hX6 := hX5.call hLc
            have hR6 := hR5.call hLc
            have hK6 := hK5.later hLc
            have hod' := Lib.hid (fun s : Ext wd => show Calls Tryz.prog 76 #[.slice A5 n5 c5] s.world (RV s.world (.bool ob)) from
              (hod.out _ _ _ _ (hK6.ext s)).mono fun e w' (h : e = _ ∧ _ = w') => ⟨h.1, by rw [← h.2]; exact Below.refl _ _⟩)
            have haw' := Lib.hid (fun s : Ext wd => show Calls Tryz.prog 75 #[.int .i64 m, .bool T.neg, .bool ob, .int .i64 cc] s.world (RV s.world (.bool aw)) from
              (haw.out _).mono fun e w' (h : e = _ ∧ _ = w') => ⟨h.1, by rw [← h.2]; exact Below.refl _ _⟩)
            have K0 : ∀ s : Ext wd, s.world.cell? ⟨w.heap.size, 0, none⟩ = some (.bool T.neg) := fun s => Ext.cell hX6.cells3.1.1 s
            clear hX5 hR5 hK5
            go_upto_region 12 with fail
            refine wp_region_ext (by kernel_rfl) (by kernel_rfl) ?_
            repeat (go_big_quiet_step (first
              | (go_at_call 76; exact quiet_ext _ (hod'.out _))
              | (go_at_call 75; exact quiet_ext _ (haw'.out _))))
            refine wpQuiet_nil ?_
            rintro _ ⟨s6, rfl⟩
            clear K0 hod' haw' hod haw
            have hX7 := hX6.call s6.h
            have hR7 := hR6.call s6.h
            have hK7 := hK6.below s6.h
            clear hX6 hR6 hK6
            generalize s6.world = w7 at *
            have hfin := Lib.hid (fun (kf : List Int) (A : Option Addr) (n c : Nat) W (hW : IL W A n c kf) (hm : mayL kf = true) (hn : n ≤ 10000) => show Calls Tryz.prog 74 #[.agg #[.bool T.neg, .slice A n c, .int .i64 (K : Int)], .int .i64 (K : Int)] W (RCE W (scaled K (if T.neg then -val kf else val kf)) 0) by
              have := calign_any T.neg (K : Int) (K : Int) W hW (I64_of_may hm) (by omega) (by omega) hn
              rw [align_self T.neg hm K hK] at this
              exact this)
            have hXg := hX7.lt
            have hRg7 := hR7.lt
            obtain ⟨⟨x0, x1, x2⟩, _⟩ := hX7.cells3
            cases aw
            · have HD3 : Hid (D = (scaled K (if T.neg then -val kept else val kept), 0)) := by
                rw [Hid, HD2.out]; simp
              have hf := Lib.hid (hfin.out kept A5 n5 c5 w7 hK7 hkm (by omega))
              generalize scaled K (if T.neg then -val kept else val kept) = E at *
              clear hfin HD2 hX7
              go_wp2_with fail
              refine hf.out.mono ?_
              rintro e w8 ⟨A8, n8, c8, rfl, hI8, hB8, hN8⟩
              have hR8 := hR7.call hB8
              obtain ⟨⟨r0, r1, r2⟩, ⟨r3, r4, r5⟩⟩ := hR8.cells3
              go_wp2_with fail
              rw [HD3.out]
              obtain ⟨⟨z0, z1, z2⟩, _⟩ := (hR8.store3 (.bool E.neg) (.slice A8 n8 c8) (.int .i64 E.s)).cells3
              exact bodyPost_ret (v := .tuple #[.agg #[.bool E.neg, .slice A8 n8 c8, .int .i64 E.s], .int .i64 0]) (by generalize World.setCell (World.setCell (World.setCell _ _ _) _ _) _ _ = W3 at z0 z1 z2 ⊢; simp [results, Tryz.results52, go_sem, z0, z1, z2]) rfl
                ⟨A8, n8, c8, rfl, hI8.set3 (g := w.heap.size + 1) (fun hz a ha => by have := hN8 hz a ha; omega) _ _ _, below_set3 hR8.later (by omega) _ _ _, fun hz a ha => by have := hN8 hz a ha; omega⟩
            · have hv := val_bd hkm
              have h1m : mayL [(1 : Int)] = true := rfl
              have hsum := Lib.hid (fun A n c W (hW : LL W A n c [kept, [1]]) => show Calls Tryz.prog 77 #[.slice A n c] W (RLE W (ofN (val kept + 1).toNat) 0) by
                have := sum_any A n c [kept, [1]] W hW (by simp) (fun q hq => by
                  rcases List.mem_cons.1 hq with rfl | hq
                  · exact ⟨by omega, I64_of_may hkm⟩
                  · rcases List.mem_cons.1 hq with rfl | hq
                    · exact ⟨by simp, I64_of_may h1m⟩
                    · cases hq)
                rw [sumR_two hkm h1m] at this
                exact this)
              have hol : (ofN (val kept + 1).toNat).length ≤ 10000 := by
                exact ofN_sum_len (M := 9999) hkm h1m (by have := hkl.out; omega) (by simp)
              have HD3 : Hid (D = (scaled K (if T.neg then -val (ofN (val kept + 1).toNat) else val (ofN (val kept + 1).toNat)), 0)) := by
                rw [Hid, HD2.out, val_ofN, Int.toNat_of_nonneg (by omega)]; simp
              have hom := mayL_ofN (val kept + 1).toNat
              generalize ofN (val kept + 1).toNat = kf at *
              have hf := Lib.hid (fun A n c W hW hn => hfin.out kf A n c W hW hom hn)
              generalize scaled K (if T.neg then -val kf else val kf) = E at *
              clear hfin HD2 hv
              go_wp2_with fail
              refine (hsum.out _ _ _ _ (LL.pair (hK7.alloc _) (IL.one _ _ _) _ _ (by simp))).mono ?_
              rintro e w8 ⟨A8, n8, c8, rfl, hO8, hB8⟩
              have hX8 := ((hX7.alloc _).alloc _).call hB8
              have hR8 := ((hR7.alloc _).alloc _).call hB8
              clear x0 x1 x2 hX7 hR7
              obtain ⟨⟨x0, x1, x2⟩, _⟩ := hX8.cells3
              go_wp2_with fail
              refine (hf.out _ _ _ _ hO8.il (by have := hO8.len; omega)).mono ?_
              rintro e w9 ⟨A9, n9, c9, rfl, hI9, hB9, hN9⟩
              have hR9 := hR8.call hB9
              have hg8 := hR8.lt
              obtain ⟨⟨r0, r1, r2⟩, ⟨r3, r4, r5⟩⟩ := hR9.cells3
              go_wp2_with fail
              rw [HD3.out]
              obtain ⟨⟨z0, z1, z2⟩, _⟩ := (hR9.store3 (.bool E.neg) (.slice A9 n9 c9) (.int .i64 E.s)).cells3
              exact bodyPost_ret (v := .tuple #[.agg #[.bool E.neg, .slice A9 n9 c9, .int .i64 E.s], .int .i64 0]) (by generalize World.setCell (World.setCell (World.setCell _ _ _) _ _) _ _ = W3 at z0 z1 z2 ⊢; simp [results, Tryz.results52, go_sem, z0, z1, z2]) rfl
                ⟨A9, n9, c9, rfl, hI9.set3 (g := w.heap.size + 1) (fun hz a ha => by have := hN9 hz a ha; omega) _ _ _, below_set3 hR9.later (by omega) _ _ _, fun hz a ha => by have := hN9 hz a ha; omega⟩
    · have HD : Hid (D = (Dc.zero, 1)) := by
        rw [Hid, hAD.out, if_neg]
        simp
        omega
      have hnb : nameB m = { data := #[] } := by
        unfold nameB
        rw [if_neg (by omega), if_neg (by omega), if_neg (by omega), if_neg (by omega), if_neg (by omega), if_neg (by omega), if_neg (by omega)]
      rw [hnb] at nm
      clear hm1 hAD hnb hmm
      go_enter Tryz.func52, Tryz.ntmps52
      go_wp2_with fail
      refine (m1.out _ ((h.alloc _).alloc _)).mono ?_
      rintro e w1 ⟨rfl, hB1⟩
      go_wp2_with fail
      refine (nm.out _).mono ?_
      rintro e w2 ⟨rfl, hB2⟩
      have hR := (hR0.call hB1).call hB2
      obtain ⟨⟨r0, r1, r2⟩, ⟨r3, r4, r5⟩⟩ := hR.cells3
      go_wp2_with fail
      rw [HD.out]
      obtain ⟨⟨z0, z1, z2⟩, _⟩ := (hR.store3 (.bool false) (.slice none 0 0) (.int .i64 0)).cells3
      exact bodyPost_ret (v := .tuple #[.agg #[.bool false, .slice none 0 0, .int .i64 0], .int .i64 1]) (by generalize World.setCell (World.setCell (World.setCell _ _ _) _ _) _ _ = W3 at z0 z1 z2 ⊢; simp [results, Tryz.results52, go_sem, z0, z1, z2]) rfl
        ⟨none, 0, 0, rfl, IL.nil _, below_set3 hR.later (by omega) _ _ _, none_new _⟩

end Go.Proofs.YtjinbhnpcdlkiaaGreatDoor


namespace Go.Proofs.YtjinbhnpcdlkiaaGreatDoor
open Go.RowKit

end Go.Proofs.YtjinbhnpcdlkiaaGreatDoor


namespace Go.Proofs.YtjinbhnpcdlkiaaGreatDoor
open Go.RowKit

end Go.Proofs.YtjinbhnpcdlkiaaGreatDoor


namespace Go.Proofs.YtjinbhnpcdlkiaaGreatDoor
open Go.RowKit

theorem blk_c3 {w0 W : World} {g : Nat} {t : TypeId} {a b c : Value} (h : Blk w0 g t #[a, b, c] W) : (W.cell? ⟨g, 0, none⟩ = some a ∧ W.cell? ⟨g, 1, none⟩ = some b ∧ W.cell? ⟨g, 2, none⟩ = some c) ∧ Blk w0 g t #[a, b, c] W := ⟨h.cells3.1, h⟩

end Go.Proofs.YtjinbhnpcdlkiaaGreatDoor


namespace Go.Proofs.YtjinbhnpcdlkiaaGreatDoor
open Go.RowKit

theorem IL.lir1 (w : World) (e : TypeId) (x : Int) (b : Nat) (hb : b = w.heap.size) : IL (w.alloc (.cells #[.int .i64 x] e)) (some ⟨b, 0, none⟩) 1 1 [x] := by
  subst hb; exact VL.lit w e 1 [.int .i64 x] rfl (by omega)
theorem IL.lir2 (w : World) (e : TypeId) (x y : Int) (b : Nat) (hb : b = w.heap.size) : IL (w.alloc (.cells #[.int .i64 x, .int .i64 y] e)) (some ⟨b, 0, none⟩) 2 2 [x, y] := by
  subst hb; exact VL.lit w e 2 [.int .i64 x, .int .i64 y] rfl (by omega)
theorem I64_small7 {l : List Int} (h : l.all (fun x => decide (-1000 ≤ x) && decide (x ≤ 1000)) = true) : I64 l := fun x hx => by
  have := List.all_eq_true.1 h x hx
  simp at this
  omega
theorem GoodDc.dc {X : Dc} {q : Nat} (h : GoodDc X q) : mayDc X = true := mayDc_iff.2 ⟨h.1, h.2.1, by have := h.2.2.1; omega⟩
theorem good_round {X : Dc} {q : Nat} (h : GoodDc X q) (m : Int) {k : Nat} (hk : k ≤ 9) : GoodDc (scaled k (roundZ m X k)) (q + k + 1) :=
  ⟨mayL_digs _, by simp [scaled], by simp [scaled]; omega, round_len h.1 h.2.2.2 m k⟩
theorem GoodDc.minus {X : Dc} {q : Nat} (h : GoodDc X q) : GoodDc (minusDc X) q := h
theorem good_add {a b : Dc} {M : Nat} (ha : GoodDc a M) (hb : GoodDc b M) : GoodDc (addDc a b).1 (M + 10) := by
  have hs := add_s a b
  have h1 := ha.2.1
  have h2 := ha.2.2.1
  have h3 := hb.2.1
  have h4 := hb.2.2.1
  have hl := add_len ha.1 hb.1 ha.2.2.2 hb.2.2.2 (N := 9) (by omega) (by omega)
  refine ⟨mayL_add a b, hs.1, ?_, by omega⟩
  rw [addDc_at ha.dc hb.dc 9 (by omega) (by omega)]
  exact (canonic 9 _).hi
theorem good_times {d : Dc} {M : Nat} (h : GoodDc d M) (k : Int) (h1 : -1000 ≤ k) (h2 : k ≤ 1000) : GoodDc (timesDc d k).1 (M + 4) := by
  have h0 := h.2.1
  have h9 := h.2.2.1
  refine ⟨mayL_times k, (times_s (by omega) k).1, ?_, times_len h.1 h.2.2.2 k⟩
  unfold timesDc
  rw [if_pos h.dc, if_neg (by omega)]
  have := (canonic d.s.toNat (k * d.z)).hi
  simp only
  omega
theorem good_abs {d : Dc} {M : Nat} (h : GoodDc d M) : GoodDc (absDc d) M := h
theorem good_one (b : Bool) {k : Nat} (hk : k ≤ 9) : GoodDc (oneDc b k) 1 := ⟨rfl, by simp [oneDc], by simp [oneDc]; omega, by simp [oneDc]⟩
/-- A good decimal, rounded. -/
theorem to_good {X : Dc} {q : Nat} (hX : GoodDc X q) (hq : q ≤ 10000) {k : Nat} (hk : k ≤ 9) {m : Int} (hm : 0 ≤ m ∧ m ≤ 6) {A : Option Addr} {n c : Nat} (W : World) (h : IL W A n c X.l) :
    Calls Tryz.prog 52 #[.agg #[.bool X.neg, .slice A n c, .int .i64 X.s], .int .i64 (k : Int), .int .i64 m] W (RCE W (scaled k (roundZ m X k)) 0) := by
  have h2 := hX.2.1
  have h3 := hX.2.2.1
  have h4 := hX.2.2.2
  have hl := h.len
  have := rto_any X.neg X.s (k : Int) m W h (I64_of_may hX.1) (by omega) (by omega) (by omega) (by omega)
  rw [show (⟨X.neg, X.l, X.s⟩ : Dc) = X from rfl, roundDc_in hX.dc k (by omega) m hm] at this
  exact this
theorem lives7_even : roundDc ⟨true, [2, 5], 1⟩ 0 6 = (⟨true, [2], 0⟩, 0) := by rfl
theorem lives7_up : roundDc ⟨true, [2, 5], 1⟩ 0 5 = (⟨true, [3], 0⟩, 0) := by rfl

end Go.Proofs.YtjinbhnpcdlkiaaGreatDoor

