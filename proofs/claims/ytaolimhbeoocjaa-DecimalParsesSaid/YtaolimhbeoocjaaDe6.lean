/- The walk of the document's comparing of decimals. No condition. -/
import Derived.Test.YtaolimhbeoocjaaDe5
import Derived.Test.YtaolimhbeoocjaaCanon2
namespace Go.Proofs.Ytaolimhbeoocjaa
open Go.RowKit

theorem shiftL_zeros (l : List Int) (N s : Nat) (h : s ≤ N) : shiftL l ((N : Int) - (s : Int)) = zerosB l (N - s) := by
  unfold shiftL zerosB
  rw [if_neg (by omega)]
  congr 2
  omega

theorem cmpI_bd (a b : Int) : -1 ≤ cmpI a b ∧ cmpI a b ≤ 1 := by unfold cmpI; split <;> (try split) <;> omega

set_option maxHeartbeats 4000000 in
theorem rccompare_any {A : Option Addr} {n c : Nat} {l : List Int} {A2 : Option Addr} {n2 c2 : Nat} {l2 : List Int} (b b2 : Bool) (s s2 : Int) (w : World) (h : IL w A n c l) (h2 : IL w A2 n2 c2 l2) (hm : mayL l = true) (hm2 : mayL l2 = true)
    (hn : n ≤ 10000) (hn2 : n2 ≤ 10000) (hs0 : 0 ≤ s) (hs1 : s ≤ 10000) (ht0 : 0 ≤ s2) (ht1 : s2 ≤ 10000) :
    Calls Try.prog 19 #[.agg #[.bool b, .slice A n c, .int .i64 s], .agg #[.bool b2, .slice A2 n2 c2, .int .i64 s2]] w (RV w (.int .i64 (cmpDc ⟨b, l, s⟩ ⟨b2, l2, s2⟩))) := by
  have hx := Lib.hid (fun W hW => rdtrim_any (A := A) (n := n) (c := c) (l := l) b s W hW (I64_of_may hm) (by omega) hs0 (by omega))
  have hy := Lib.hid (fun W hW => rdtrim_any (A := A2) (n := n2) (c := c2) (l := l2) b2 s2 W hW (I64_of_may hm2) (by omega) ht0 (by omega))
  have cx := trimDc_canonic (d := ⟨b, l, s⟩) hm hs0
  have cy := trimDc_canonic (d := ⟨b2, l2, s2⟩) hm2 ht0
  have lx := trimDc_len ⟨b, l, s⟩
  have ly := trimDc_len ⟨b2, l2, s2⟩
  have hfin := cmpDc_trim (a := ⟨b, l, s⟩) (b := ⟨b2, l2, s2⟩) hm hs0 hm2 ht0
  have el := h.len
  have el2 := h2.len
  rw [← hfin]
  clear hfin
  generalize trimDc ⟨b, l, s⟩ = X at *
  generalize trimDc ⟨b2, l2, s2⟩ = Y at *
  obtain ⟨xb, xl, xs⟩ := X
  obtain ⟨yb, yl, ys⟩ := Y
  have ex1 := cx.lo
  have ex2 := cx.hi
  have ey1 := cy.lo
  have ey2 := cy.hi
  simp only at ex1 ex2 ey1 ey2 lx ly
  obtain ⟨sx, rfl⟩ := Int.eq_ofNat_of_zero_le ex1
  obtain ⟨sy, rfl⟩ := Int.eq_ofNat_of_zero_le ey1
  obtain ⟨N, hN⟩ : ∃ N, N = max sx sy := ⟨_, rfl⟩
  have hsx : sx ≤ N := by omega
  have hsy : sy ≤ N := by omega
  have hNb : N ≤ 10000 := by omega
  have hmax : (if (sx : Int) < (sy : Int) then (sy : Int) else (sx : Int)) = (N : Int) := by split <;> omega
  have hmax2 : (if sx < sy then (sy : Int) else (sx : Int)) = (N : Int) := by split <;> omega
  have hres := Lib.hid (signC_cmp cx cy N hsx hsy)
  have hmx := cx.may
  have hmy := cy.may
  have hxl : xl.length ≤ 10000 := by omega
  have hyl : yl.length ≤ 10000 := by omega
  have hP := (Blk.made w (w.alloc (.cells #[.bool b, .slice A n c, .int .i64 s] 24)) 24 #[.bool b2, .slice A2 n2 c2, .int .i64 s2] ((Later.refl w).alloc _) (w.heap.size + 1) (by simp))
  simp only [Int.toNat_natCast] at hres
  clear cx cy hN ex1 ex2 ey1 ey2 lx ly el el2
  cases xb <;> cases yb
  case false.true =>
    go_enter Try.func19, Try.ntmps19
    go_wp2_with fail
    refine (hx.out _ ((h.alloc _).alloc _)).mono ?_
    rintro e w1 ⟨A1, n1, c1, rfl, hI1, hB1, hN1⟩
    have hP1 := hP.call hB1
    have q0 := fun o => (hP1.alloc o).cells3.1.1
    have q1 := fun o => (hP1.alloc o).cells3.1.2.1
    have q2 := fun o => (hP1.alloc o).cells3.1.2.2
    have hF := Blk.made w w1 24 #[.bool false, .slice A1 n1 c1, .int .i64 (sx : Int)] hP1.later _ rfl
    go_wp2_with fail
    refine (hy.out _ ((h2.later hP1.later).alloc _)).mono ?_
    rintro e w2 ⟨A3, n3, c3, rfl, hI3, hB3, hN3⟩
    have hF2 := hF.call hB3
    have r0 := fun o => (hF2.alloc o).cells3.1.1
    have r1 := fun o => (hF2.alloc o).cells3.1.2.1
    have r2 := fun o => (hF2.alloc o).cells3.1.2.2
    go_wp2_with fail
    go_ret
    exact ⟨ret_int (by rw [← hres.out]; rfl), hF2.later.alloc _⟩
  case true.false =>
    go_enter Try.func19, Try.ntmps19
    go_wp2_with fail
    refine (hx.out _ ((h.alloc _).alloc _)).mono ?_
    rintro e w1 ⟨A1, n1, c1, rfl, hI1, hB1, hN1⟩
    have hP1 := hP.call hB1
    have q0 := fun o => (hP1.alloc o).cells3.1.1
    have q1 := fun o => (hP1.alloc o).cells3.1.2.1
    have q2 := fun o => (hP1.alloc o).cells3.1.2.2
    have hF := Blk.made w w1 24 #[.bool true, .slice A1 n1 c1, .int .i64 (sx : Int)] hP1.later _ rfl
    go_wp2_with fail
    refine (hy.out _ ((h2.later hP1.later).alloc _)).mono ?_
    rintro e w2 ⟨A3, n3, c3, rfl, hI3, hB3, hN3⟩
    have hF2 := hF.call hB3
    have r0 := fun o => (hF2.alloc o).cells3.1.1
    have r1 := fun o => (hF2.alloc o).cells3.1.2.1
    have r2 := fun o => (hF2.alloc o).cells3.1.2.2
    go_wp2_with fail
    go_ret
    exact ⟨ret_int (by rw [← hres.out]; rfl), hF2.later.alloc _⟩
  case false.false =>
    go_enter Try.func19, Try.ntmps19
    go_wp2_with fail
    refine (hx.out _ ((h.alloc _).alloc _)).mono ?_
    rintro e w1 ⟨A1, n1, c1, rfl, hI1, hB1, hN1⟩
    have hP1 := hP.call hB1
    have q0 := fun o => (hP1.alloc o).cells3.1.1
    have q1 := fun o => (hP1.alloc o).cells3.1.2.1
    have q2 := fun o => (hP1.alloc o).cells3.1.2.2
    have hF := Blk.made w w1 24 #[.bool false, .slice A1 n1 c1, .int .i64 (sx : Int)] hP1.later _ rfl
    go_wp2_with fail
    refine (hy.out _ ((h2.later hP1.later).alloc _)).mono ?_
    rintro e w2 ⟨A3, n3, c3, rfl, hI3, hB3, hN3⟩
    have hF2 := hF.call hB3
    have hG := Blk.made w w2 24 #[.bool false, .slice A3 n3 c3, .int .i64 (sy : Int)] hF2.later _ rfl
    have hI1' := (hI1.alloc _).below hB3
    have r0 := fun o => (hF2.alloc o).cells3.1.1
    have r1 := fun o => (hF2.alloc o).cells3.1.2.1
    have r2 := fun o => (hF2.alloc o).cells3.1.2.2
    have hn1 : n1 ≤ 10000 := by rw [← hI1.len]; exact hxl
    have hn3 : n3 ≤ 10000 := by rw [← hI3.len]; exact hyl
    go_upto_region 8 with fail
    obtain ⟨wb, hwb⟩ : ∃ wb, wb = w2.alloc (.cells #[.bool false, .slice A3 n3 c3, .int .i64 (sy : Int)] 24) := ⟨_, rfl⟩
    have hF3 := hF2.alloc (.cells #[.bool false, .slice A3 n3 c3, .int .i64 (sy : Int)] 24)
    have hI1b := hI1'.alloc (.cells #[.bool false, .slice A3 n3 c3, .int .i64 (sy : Int)] 24)
    have hI3b := hI3.alloc (.cells #[.bool false, .slice A3 n3 c3, .int .i64 (sy : Int)] 24)
    rw [← hwb] at hG hF3 hI1b hI3b
    rw [← hwb]
    clear hwb
    have HS : Hid (∀ W, Later wb W → (W.cell? ⟨w1.heap.size, 1, none⟩ = some (.slice A1 n1 c1) ∧ W.cell? ⟨w1.heap.size, 2, none⟩ = some (.int .i64 (sx : Int)) ∧ W.cell? ⟨w2.heap.size, 1, none⟩ = some (.slice A3 n3 c3) ∧ W.cell? ⟨w2.heap.size, 2, none⟩ = some (.int .i64 (sy : Int))) ∧ Later wb W) :=
      fun W hW => ⟨⟨(hF3.call hW).cells3.1.2.1, (hF3.call hW).cells3.1.2.2, (hG.call hW).cells3.1.2.1, (hG.call hW).cells3.1.2.2⟩, hW⟩
    have hs1 := Lib.hid (fun W (hW : IL W A1 n1 c1 xl) => show Calls Try.prog 34 #[.slice A1 n1 c1, .int .i64 ((N : Int) - (sx : Int))] W (RO W (zerosB xl (N - sx))) by
      have := rshift_any A1 n1 c1 xl ((N : Int) - (sx : Int)) W hW (by omega) (by omega) (by omega)
      rw [shiftL_zeros xl N sx hsx] at this
      exact this)
    have hs2 := Lib.hid (fun W (hW : IL W A3 n3 c3 yl) => show Calls Try.prog 34 #[.slice A3 n3 c3, .int .i64 ((N : Int) - (sy : Int))] W (RO W (zerosB yl (N - sy))) by
      have := rshift_any A3 n3 c3 yl ((N : Int) - (sy : Int)) W hW (by omega) (by omega) (by omega)
      rw [shiftL_zeros yl N sy hsy] at this
      exact this)
    have lx : (zerosB xl (N - sx)).length ≤ 100000 := by unfold zerosB; simp; omega
    have ly : (zerosB yl (N - sy)).length ≤ 100000 := by unfold zerosB; simp; omega
    have hcm := Lib.hid (fun A n c A2 n2 c2 W hW hW2 hn hn2 => rcompare_any A n c (zerosB xl (N - sx)) A2 n2 c2 (zerosB yl (N - sy)) W hW hW2 hn hn2)
    have hcb : -1 ≤ cmpL (zerosB xl (N - sx)) (zerosB yl (N - sy)) ∧ cmpL (zerosB xl (N - sx)) (zerosB yl (N - sy)) ≤ 1 := by rw [cmpL_val (mayL_zerosB hmx _) (mayL_zerosB hmy _)]; exact cmpI_bd _ _
    obtain ⟨hcb1, hcb2⟩ := hcb
    generalize zerosB xl (N - sx) = zx at *
    generalize zerosB yl (N - sy) = zy at *
    have hwr1 : IntKind.i64.wrap ((N : Int) - (sx : Int)) = (N : Int) - (sx : Int) := IntWalk.i64_in _ (by omega)
    have hwr2 : IntKind.i64.wrap ((N : Int) - (sy : Int)) = (N : Int) - (sy : Int) := IntWalk.i64_in _ (by omega)
    have hLw : Later w wb := hG.later
    have HG := Lib.hid hG
    have HF3 := Lib.hid hF3
    clear hG hF3 hF hF2 hP hP1 hmax hmax2
    go_region_held3 (fun W => (W.cell? ⟨w1.heap.size, 1, none⟩ = some (.slice A1 n1 c1) ∧ W.cell? ⟨w1.heap.size, 2, none⟩ = some (.int .i64 (sx : Int)) ∧ W.cell? ⟨w2.heap.size, 1, none⟩ = some (.slice A3 n3 c3) ∧ W.cell? ⟨w2.heap.size, 2, none⟩ = some (.int .i64 (sy : Int))) ∧ Later wb W)
      ((refine HS.out _ ?_; repeat (first | exact And.right (by assumption) | exact Later.refl _ | refine Later.drew ?_ | refine Later.call ?_ hB7 | refine Later.call ?_ hB6 | refine Later.call ?_ hB5)))
      (first
        | (go_at_call 34; (with_reducible refine (hs1.out _ (hI1b.later (And.right (by assumption)))).mono ?_); rintro e w5 ⟨A5, n5, c5, rfl, hO5, hB5⟩)
        | (go_at_call 34; (with_reducible refine (hs2.out _ (hI3b.later (And.right (by assumption)))).mono ?_); rintro e w6 ⟨A6, n6, c6, rfl, hO6, hB6⟩)
        | (go_at_call 33; refine (hcm.out _ _ _ _ _ _ _ (hO5.il.below hB6) hO6.il (by have := hO5.len; omega) (by have := hO6.len; omega)).mono ?_; rintro e w7 ⟨rfl, hB7⟩))
    all_goals
      clear hwr1 hwr2
      have hL7 : Later wb w7 := Later.call (Later.call (Later.call (Later.drew (Later.refl wb)) hB5) hB6) hB7
      obtain ⟨⟨t0, t1, t2⟩, _⟩ := (HF3.out.call hL7).cells3
      go_wp2_with fail
      go_ret
      exact ⟨ret_int (by rw [← hres.out]; rfl), below_from hLw hL7⟩
  case true.true =>
    go_enter Try.func19, Try.ntmps19
    go_wp2_with fail
    refine (hx.out _ ((h.alloc _).alloc _)).mono ?_
    rintro e w1 ⟨A1, n1, c1, rfl, hI1, hB1, hN1⟩
    have hP1 := hP.call hB1
    have q0 := fun o => (hP1.alloc o).cells3.1.1
    have q1 := fun o => (hP1.alloc o).cells3.1.2.1
    have q2 := fun o => (hP1.alloc o).cells3.1.2.2
    have hF := Blk.made w w1 24 #[.bool true, .slice A1 n1 c1, .int .i64 (sx : Int)] hP1.later _ rfl
    go_wp2_with fail
    refine (hy.out _ ((h2.later hP1.later).alloc _)).mono ?_
    rintro e w2 ⟨A3, n3, c3, rfl, hI3, hB3, hN3⟩
    have hF2 := hF.call hB3
    have hG := Blk.made w w2 24 #[.bool true, .slice A3 n3 c3, .int .i64 (sy : Int)] hF2.later _ rfl
    have hI1' := (hI1.alloc _).below hB3
    have r0 := fun o => (hF2.alloc o).cells3.1.1
    have r1 := fun o => (hF2.alloc o).cells3.1.2.1
    have r2 := fun o => (hF2.alloc o).cells3.1.2.2
    have hn1 : n1 ≤ 10000 := by rw [← hI1.len]; exact hxl
    have hn3 : n3 ≤ 10000 := by rw [← hI3.len]; exact hyl
    go_upto_region 8 with fail
    obtain ⟨wb, hwb⟩ : ∃ wb, wb = w2.alloc (.cells #[.bool true, .slice A3 n3 c3, .int .i64 (sy : Int)] 24) := ⟨_, rfl⟩
    have hF3 := hF2.alloc (.cells #[.bool true, .slice A3 n3 c3, .int .i64 (sy : Int)] 24)
    have hI1b := hI1'.alloc (.cells #[.bool true, .slice A3 n3 c3, .int .i64 (sy : Int)] 24)
    have hI3b := hI3.alloc (.cells #[.bool true, .slice A3 n3 c3, .int .i64 (sy : Int)] 24)
    rw [← hwb] at hG hF3 hI1b hI3b
    rw [← hwb]
    clear hwb
    have HS : Hid (∀ W, Later wb W → (W.cell? ⟨w1.heap.size, 1, none⟩ = some (.slice A1 n1 c1) ∧ W.cell? ⟨w1.heap.size, 2, none⟩ = some (.int .i64 (sx : Int)) ∧ W.cell? ⟨w2.heap.size, 1, none⟩ = some (.slice A3 n3 c3) ∧ W.cell? ⟨w2.heap.size, 2, none⟩ = some (.int .i64 (sy : Int))) ∧ Later wb W) :=
      fun W hW => ⟨⟨(hF3.call hW).cells3.1.2.1, (hF3.call hW).cells3.1.2.2, (hG.call hW).cells3.1.2.1, (hG.call hW).cells3.1.2.2⟩, hW⟩
    have hs1 := Lib.hid (fun W (hW : IL W A1 n1 c1 xl) => show Calls Try.prog 34 #[.slice A1 n1 c1, .int .i64 ((N : Int) - (sx : Int))] W (RO W (zerosB xl (N - sx))) by
      have := rshift_any A1 n1 c1 xl ((N : Int) - (sx : Int)) W hW (by omega) (by omega) (by omega)
      rw [shiftL_zeros xl N sx hsx] at this
      exact this)
    have hs2 := Lib.hid (fun W (hW : IL W A3 n3 c3 yl) => show Calls Try.prog 34 #[.slice A3 n3 c3, .int .i64 ((N : Int) - (sy : Int))] W (RO W (zerosB yl (N - sy))) by
      have := rshift_any A3 n3 c3 yl ((N : Int) - (sy : Int)) W hW (by omega) (by omega) (by omega)
      rw [shiftL_zeros yl N sy hsy] at this
      exact this)
    have lx : (zerosB xl (N - sx)).length ≤ 100000 := by unfold zerosB; simp; omega
    have ly : (zerosB yl (N - sy)).length ≤ 100000 := by unfold zerosB; simp; omega
    have hcm := Lib.hid (fun A n c A2 n2 c2 W hW hW2 hn hn2 => rcompare_any A n c (zerosB xl (N - sx)) A2 n2 c2 (zerosB yl (N - sy)) W hW hW2 hn hn2)
    have hcb : -1 ≤ cmpL (zerosB xl (N - sx)) (zerosB yl (N - sy)) ∧ cmpL (zerosB xl (N - sx)) (zerosB yl (N - sy)) ≤ 1 := by rw [cmpL_val (mayL_zerosB hmx _) (mayL_zerosB hmy _)]; exact cmpI_bd _ _
    obtain ⟨hcb1, hcb2⟩ := hcb
    generalize zerosB xl (N - sx) = zx at *
    generalize zerosB yl (N - sy) = zy at *
    have hwr1 : IntKind.i64.wrap ((N : Int) - (sx : Int)) = (N : Int) - (sx : Int) := IntWalk.i64_in _ (by omega)
    have hwr2 : IntKind.i64.wrap ((N : Int) - (sy : Int)) = (N : Int) - (sy : Int) := IntWalk.i64_in _ (by omega)
    have hLw : Later w wb := hG.later
    have HG := Lib.hid hG
    have HF3 := Lib.hid hF3
    clear hG hF3 hF hF2 hP hP1 hmax hmax2
    go_region_held3 (fun W => (W.cell? ⟨w1.heap.size, 1, none⟩ = some (.slice A1 n1 c1) ∧ W.cell? ⟨w1.heap.size, 2, none⟩ = some (.int .i64 (sx : Int)) ∧ W.cell? ⟨w2.heap.size, 1, none⟩ = some (.slice A3 n3 c3) ∧ W.cell? ⟨w2.heap.size, 2, none⟩ = some (.int .i64 (sy : Int))) ∧ Later wb W)
      ((refine HS.out _ ?_; repeat (first | exact And.right (by assumption) | exact Later.refl _ | refine Later.drew ?_ | refine Later.call ?_ hB7 | refine Later.call ?_ hB6 | refine Later.call ?_ hB5)))
      (first
        | (go_at_call 34; (with_reducible refine (hs1.out _ (hI1b.later (And.right (by assumption)))).mono ?_); rintro e w5 ⟨A5, n5, c5, rfl, hO5, hB5⟩)
        | (go_at_call 34; (with_reducible refine (hs2.out _ (hI3b.later (And.right (by assumption)))).mono ?_); rintro e w6 ⟨A6, n6, c6, rfl, hO6, hB6⟩)
        | (go_at_call 33; refine (hcm.out _ _ _ _ _ _ _ (hO5.il.below hB6) hO6.il (by have := hO5.len; omega) (by have := hO6.len; omega)).mono ?_; rintro e w7 ⟨rfl, hB7⟩))
    all_goals
      clear hwr1 hwr2
      have hL7 : Later wb w7 := Later.call (Later.call (Later.call (Later.drew (Later.refl wb)) hB5) hB6) hB7
      obtain ⟨⟨t0, t1, t2⟩, _⟩ := (HF3.out.call hL7).cells3
      go_wp2_with fail
      go_ret
      exact ⟨ret_int (by rw [← hres.out]; rfl), below_from hLw hL7⟩

end Go.Proofs.Ytaolimhbeoocjaa
