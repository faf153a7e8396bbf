/- The walks of the document's aligning, of multiples, of signs turned; decimals as the law has them. No condition. -/
import Derived.Test.YtnndiikogaoeiaaDe8
import Derived.Test.YtnndiikogaoeiaaDe10
import Derived.Test.YtnndiikogaoeiaaDe6
namespace Go.Proofs.Ytnndiikogaoeiaa
open Go.RowKit

theorem rminus_any {A : Option Addr} {n c : Nat} (b : Bool) (s : Int) (w : World) :
    Calls Try.prog 29 #[.agg #[.bool b, .slice A n c, .int .i64 s]] w (RV w (.agg #[.bool (!b), .slice A n c, .int .i64 s])) := by
  go_enter Try.func29, Try.ntmps29
  go_wp2
  exact bodyPost_ret (v := .agg #[.bool (!b), .slice A n c, .int .i64 s]) (by simp [results, Try.results29, go_sem]) rfl ⟨rfl, ((Below.refl _ _).alloc (Nat.le_refl _) _).alloc (by simp) _⟩

set_option maxHeartbeats 4000000 in
theorem rcalign_any {A : Option Addr} {n c : Nat} {l : List Int} (b : Bool) (s k : Int) (w : World) (h : IL w A n c l) (hl : I64 l) (hs : -9223372036854775808 ≤ s ∧ s ≤ 9223372036854775807) (hk : -9223372036854775808 ≤ k ∧ k ≤ 9223372036854775807) (hn : n ≤ 10000) :
    Calls Try.prog 49 #[.agg #[.bool b, .slice A n c, .int .i64 s], .int .i64 k] w (RCE w (alignDc ⟨b, l, s⟩ k).1 (alignDc ⟨b, l, s⟩ k).2) := by
  have hmay := Lib.hid (fun W hW => rcmay_any (A := A) (n := n) (c := c) (l := l) b s W hW hs)
  have hAL : Hid (alignDc ⟨b, l, s⟩ k = if mayDc ⟨b, l, s⟩ then (if k < (trimDc ⟨b, l, s⟩).s ∨ 1000 < k then (Dc.zero, 3) else (⟨(trimDc ⟨b, l, s⟩).neg, trimL (zerosB (trimDc ⟨b, l, s⟩).l (k - (trimDc ⟨b, l, s⟩).s).toNat), k⟩, 0)) else (Dc.zero, 1)) := rfl
  have hR0 := Blk.made w (w.alloc (.cells #[.bool b, .slice A n c, .int .i64 s] 24)) 24 #[.bool false, .slice none 0 0, .int .i64 0] ((Later.refl w).alloc _) (w.heap.size + 1) (by simp)
  have hX0 := (Blk.made w w 24 #[.bool b, .slice A n c, .int .i64 s] (Later.refl w) _ rfl).alloc (.cells #[.bool false, .slice none 0 0, .int .i64 0] 24)
  have el := h.len
  generalize alignDc ⟨b, l, s⟩ k = D at *
  cases hmd : mayDc ⟨b, l, s⟩
  · rw [hmd] at hmay
    have HD : Hid (D = (Dc.zero, 1)) := by rw [Hid, hAL.out, hmd]; rfl
    clear hmd
    go_enter Try.func49, Try.ntmps49
    go_wp2_with fail
    refine (hmay.out _ ((h.alloc _).alloc _)).mono ?_
    rintro e w1 ⟨rfl, hB1⟩
    have hR := hR0.call hB1
    obtain ⟨⟨r0, r1, r2⟩, ⟨r3, r4, r5⟩⟩ := hR.cells3
    go_wp2_with fail
    rw [HD.out]
    obtain ⟨⟨z0, z1, z2⟩, _⟩ := (hR.store3 (.bool false) (.slice none 0 0) (.int .i64 0)).cells3
    exact bodyPost_ret (v := .tuple #[.agg #[.bool false, .slice none 0 0, .int .i64 0], .int .i64 1]) (by generalize World.setCell (World.setCell (World.setCell _ _ _) _ _) _ _ = W3 at z0 z1 z2 ⊢; simp [results, Try.results49, go_sem, z0, z1, z2]) rfl
      ⟨none, 0, 0, rfl, IL.nil _, below_set3 hR.later (Nat.le_succ _) _ _ _, none_new _⟩
  · rw [hmd] at hmay
    obtain ⟨hml, hs0, hs1⟩ := mayDc_iff.1 hmd
    simp only at hml hs0 hs1
    obtain ⟨X, sx, ex, esx, bx1, bx2, mx, lx, _⟩ := trimDc_parts (d := ⟨b, l, s⟩) hml hs0 hs1
    have htr := Lib.hid (fun W hW => rdtrim_any (A := A) (n := n) (c := c) (l := l) b s W hW hl (by omega) hs0 (by omega))
    rw [ex] at htr
    have HD : Hid (D = if k < (sx : Int) ∨ 1000 < k then (Dc.zero, 3) else (⟨X.neg, trimL (zerosB X.l (k - (sx : Int)).toNat), k⟩, 0)) := by rw [Hid, hAL.out, hmd, if_pos rfl, ex, esx]
    clear hmd ex hAL
    obtain ⟨xb, xl, xs⟩ := X
    simp only at esx mx lx HD
    subst esx
    have hxl : xl.length ≤ 10000 := by omega
    by_cases hkk : k < (sx : Int) ∨ 1000 < k
    · have HD2 : Hid (D = (Dc.zero, 3)) := by rw [Hid, HD.out, if_pos hkk]
      rcases hkk with hkk | hkk
      all_goals
        go_enter Try.func49, Try.ntmps49
        go_wp2_with fail
        refine (hmay.out _ ((h.alloc _).alloc _)).mono ?_
        rintro e w1 ⟨rfl, hB1⟩
        have hR1 := hR0.call hB1
        have hX1 := hX0.call hB1
        obtain ⟨⟨q0, q1, q2⟩, _⟩ := hX1.cells3
        go_wp2_with fail
        refine (htr.out _ (h.later hX1.later)).mono ?_
        rintro e w2 ⟨A2, n2, c2, rfl, hI2, hB2, hN2⟩
        have hR := (hR1.call hB2).alloc (.cells #[.bool xb, .slice A2 n2 c2, .int .i64 (sx : Int)] 24)
        obtain ⟨⟨r0, r1, r2⟩, ⟨r3, r4, r5⟩⟩ := hR.cells3
        go_wp2_with fail
        rw [HD2.out]
        obtain ⟨⟨z0, z1, z2⟩, _⟩ := (hR.store3 (.bool false) (.slice none 0 0) (.int .i64 0)).cells3
        exact bodyPost_ret (v := .tuple #[.agg #[.bool false, .slice none 0 0, .int .i64 0], .int .i64 3]) (by generalize World.setCell (World.setCell (World.setCell _ _ _) _ _) _ _ = W3 at z0 z1 z2 ⊢; simp [results, Try.results49, go_sem, z0, z1, z2]) rfl
          ⟨none, 0, 0, rfl, IL.nil _, below_set3 hR.later (Nat.le_succ _) _ _ _, none_new _⟩
    · have HD2 : Hid (D = (⟨xb, trimL (zerosB xl (k - (sx : Int)).toNat), k⟩, 0)) := by rw [Hid, HD.out, if_neg hkk]
      obtain ⟨k', rfl⟩ := Int.eq_ofNat_of_zero_le (show 0 ≤ k by omega)
      have e1 : ((k' : Int) - (sx : Int)).toNat = k' - sx := by omega
      rw [e1] at HD2
      have hsk : sx ≤ k' := by omega
      have hk2 : k' ≤ 1000 := by omega
      have hsh := Lib.hid (fun A n c W (hW : IL W A n c xl) (hn : n ≤ 1000000) => show Calls Try.prog 66 #[.slice A n c, .int .i64 ((k' : Int) - (sx : Int))] W (RO W (zerosB xl (k' - sx))) by
        have := rshift_any A n c xl ((k' : Int) - (sx : Int)) W hW hn (by omega) (by omega)
        rw [shiftL_zeros xl k' sx hsk] at this
        exact this)
      have hzl : (zerosB xl (k' - sx)).length ≤ 100000 := by rw [zerosB_len]; omega
      have hdt := Lib.hid (fun A n c W (hW : IL W A n c (zerosB xl (k' - sx))) (hn : n ≤ 100000000) => rtrim_any A n c (zerosB xl (k' - sx)) W hW hn)
      have hwr1 : IntKind.i64.wrap ((k' : Int) - (sx : Int)) = (k' : Int) - (sx : Int) := IntWalk.i64_in _ (by omega)
      generalize zerosB xl (k' - sx) = y at *
      have h0k : ¬ (k' : Int) < (sx : Int) := by omega
      have h1k : ¬ 1000 < (k' : Int) := by omega
      clear e1 HD hkk
      go_enter Try.func49, Try.ntmps49
      go_wp2_with fail
      refine (hmay.out _ ((h.alloc _).alloc _)).mono ?_
      rintro e w1 ⟨rfl, hB1⟩
      have hR1 := hR0.call hB1
      have hX1 := hX0.call hB1
      obtain ⟨⟨q0, q1, q2⟩, _⟩ := hX1.cells3
      go_wp2_with fail
      refine (htr.out _ (h.later hX1.later)).mono ?_
      rintro e w2 ⟨A2, n2, c2, rfl, hI2, hB2, hN2⟩
      have hg2 : w.heap.size + 1 < w2.heap.size := (hR1.call hB2).lt
      have hR := (hR1.call hB2).alloc (.cells #[.bool xb, .slice A2 n2 c2, .int .i64 (sx : Int)] 24)
      have hT := Blk.made w w2 24 #[.bool xb, .slice A2 n2 c2, .int .i64 (sx : Int)] (hR1.call hB2).later _ rfl
      have hn2 : n2 ≤ 10000 := by rw [← hI2.len]; exact hxl
      go_upto_region 7 with fail
      have hI2' := hI2.alloc (.cells #[.bool xb, .slice A2 n2 c2, .int .i64 (sx : Int)] 24)
      obtain ⟨wb, hwb⟩ : ∃ wb, wb = w2.alloc (.cells #[.bool xb, .slice A2 n2 c2, .int .i64 (sx : Int)] 24) := ⟨_, rfl⟩
      rw [← hwb] at hR hT hI2'
      rw [← hwb]
      clear hwb
      have HS : Hid (∀ W, Blk w w2.heap.size 24 #[.bool xb, .slice A2 n2 c2, .int .i64 (sx : Int)] W → (W.cell? ⟨w2.heap.size, 0, none⟩ = some (.bool xb) ∧ W.cell? ⟨w2.heap.size, 1, none⟩ = some (.slice A2 n2 c2) ∧ W.cell? ⟨w2.heap.size, 2, none⟩ = some (.int .i64 (sx : Int))) ∧ Blk w w2.heap.size 24 #[.bool xb, .slice A2 n2 c2, .int .i64 (sx : Int)] W) := fun W hW => ⟨hW.cells3.1, hW⟩
      have HR := Lib.hid hR
      have HT := Lib.hid hT
      clear hR hT hX0 hR0 hR1 hX1
      go_region_held3 (fun W => (W.cell? ⟨w2.heap.size, 0, none⟩ = some (.bool xb) ∧ W.cell? ⟨w2.heap.size, 1, none⟩ = some (.slice A2 n2 c2) ∧ W.cell? ⟨w2.heap.size, 2, none⟩ = some (.int .i64 (sx : Int))) ∧ Blk w w2.heap.size 24 #[.bool xb, .slice A2 n2 c2, .int .i64 (sx : Int)] W)
        ((refine HS.out _ ?_; repeat (first | exact HT.out | exact And.right (by assumption) | refine Blk.drew ?_ | refine Blk.call ?_ hB4 | refine Blk.call ?_ hB3 | refine Blk.far ?_ (Nat.ne_of_gt hg2) (Nat.le_succ _) _)))
        (first
          | (go_at_call 66; refine (hsh.out _ _ _ _ hI2'.drew (by omega)).mono ?_; rintro e w3 ⟨A3, n3, c3, rfl, hO3, hB3⟩; have hR3 := HR.out.drew.call hB3)
          | (go_at_call 72; refine (hdt.out _ _ _ _ hO3.il (by have := hO3.len; omega)).mono ?_; rintro e w4 ⟨A4, n4, c4, rfl, hO4, hB4⟩; have hR4 := hR3.call hB4; have hlt := hR3.lt; obtain ⟨⟨y0, y1, y2⟩, ⟨y3, y4, y5⟩⟩ := hR4.cells3))
      all_goals
        clear hwr1
        go_wp2_with fail
        have hnew : 0 < n4 → ∀ a, A4 = some a → w.heap.size + 1 < a.block := fun hz a ha => by
          have := hO4.newc (Nat.le_refl _) hz a ha
          omega
        rw [HD2.out]
        obtain ⟨⟨z0, z1, z2⟩, _⟩ := (hR4.store3 (.bool xb) (.slice A4 n4 c4) (.int .i64 (k' : Int))).cells3
        exact bodyPost_ret (v := .tuple #[.agg #[.bool xb, .slice A4 n4 c4, .int .i64 (k' : Int)], .int .i64 0]) (by generalize World.setCell (World.setCell (World.setCell _ _ _) _ _) _ _ = W3 at z0 z1 z2 ⊢; simp [results, Try.results49, go_sem, z0, z1, z2]) rfl
          ⟨A4, n4, c4, rfl, hO4.il.set3 (fun hz a ha => by have := hnew hz a ha; omega) _ _ _, below_set3 hR4.later (Nat.le_succ _) _ _ _, fun hz a ha => by have := hnew hz a ha; omega⟩

end Go.Proofs.Ytnndiikogaoeiaa
