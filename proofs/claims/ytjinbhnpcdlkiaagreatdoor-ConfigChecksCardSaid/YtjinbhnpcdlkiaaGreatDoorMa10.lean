/- What the laws of layer 6 say of decimals, by what they are worth. No program in sight. No condition. -/
import Derived.Test.YtjinbhnpcdlkiaaGreatDoorMa09
import Derived.Test.YtjinbhnpcdlkiaaGreatDoorMa07
import Derived.Test.YtjinbhnpcdlkiaaGreatDoorMa01
namespace Go.Proofs.YtjinbhnpcdlkiaaGreatDoor
open Go.RowKit

theorem IL.one1 (w : World) (e : TypeId) (x : Int) (b : Nat) (hb : b = w.heap.size) : IL (w.alloc (.cells #[.int .i64 x] e)) (some ⟨b, 0, none⟩) 1 1 [x] := by
  subst hb; exact VL.lit w e 1 [.int .i64 x] rfl (by omega)
theorem IL.one3 (w : World) (e : TypeId) (x y z : Int) (b : Nat) (hb : b = w.heap.size) : IL (w.alloc (.cells #[.int .i64 x, .int .i64 y, .int .i64 z] e)) (some ⟨b, 0, none⟩) 3 3 [x, y, z] := by
  subst hb; exact VL.lit w e 3 [.int .i64 x, .int .i64 y, .int .i64 z] rfl (by omega)
theorem I64_lit {l : List Int} (h : l.all (fun x => decide (-1000 ≤ x) && decide (x ≤ 1000)) = true) : I64 l := fun x hx => by
  have := List.all_eq_true.1 h x hx
  simp at this
  omega
theorem lives6_add : addDc ⟨false, [5], 1⟩ ⟨true, [1, 2, 5], 2⟩ = (⟨true, [7, 5], 2⟩, 0) := by rfl
theorem lives6_p1 : bs (printL ⟨true, [7, 5], 2⟩) = { data := #[45, 48, 46, 55, 53] } := by rfl
theorem lives6_p2 : bs (printL ⟨false, [7], 2⟩) = { data := #[48, 46, 48, 55] } := by rfl

end Go.Proofs.YtjinbhnpcdlkiaaGreatDoor


namespace Go.Proofs.YtjinbhnpcdlkiaaGreatDoor
open Go.RowKit

set_option maxHeartbeats 2000000 in
theorem cgood_any {A : Option Addr} {n c : Nat} {l : List Int} (b : Bool) (s : Int) (q : Nat) (w : World) (h : IL w A n c l) (hl : I64 l) (hs : -9223372036854775808 ≤ s ∧ s ≤ 9223372036854775807) (hq : q ≤ 100000) :
    Calls Tryz.prog 16 #[.agg #[.bool b, .slice A n c, .int .i64 s], .int .i64 (q : Int)] w (RC w ⟨b, goodL l q, around s 10⟩) := by
  have gg := Lib.hid (fun W hW => goodo_any A n c q l W hW hl hq)
  have ga := Lib.hid (fun W => around_any s 10 W hs.1 hs.2 (by omega) (by omega))
  generalize hD : (⟨b, goodL l q, around s 10⟩ : Dc) = D
  have HD := Lib.hid hD
  clear hD
  generalize goodL l q = y at *
  generalize around s 10 = z at *
  have hX := (Blk.made w w 28 #[.bool b, .slice A n c, .int .i64 s] (Later.refl w) _ rfl).alloc (.cells #[.bool false, .slice none 0 0, .int .i64 0] 28)
  have hR := Blk.made w (w.alloc (.cells #[.bool b, .slice A n c, .int .i64 s] 28)) 28 #[.bool false, .slice none 0 0, .int .i64 0] ((Later.refl w).alloc _) (w.heap.size + 1) (by simp)
  go_enter Tryz.func16, Tryz.ntmps16
  go_upto_region 1 with fail
  obtain ⟨wb, hwb⟩ : ∃ wb, wb = (w.alloc (.cells #[.bool b, .slice A n c, .int .i64 s] 28)).alloc (.cells #[.bool false, .slice none 0 0, .int .i64 0] 28) := ⟨_, rfl⟩
  rw [← hwb] at hX hR
  rw [← hwb]
  clear hwb
  have HS : Hid (∀ W, Blk w w.heap.size 28 #[.bool b, .slice A n c, .int .i64 s] W → ((W.cell? ⟨w.heap.size, 0, none⟩ = some (.bool b) ∧ W.cell? ⟨w.heap.size, 1, none⟩ = some (.slice A n c) ∧ W.cell? ⟨w.heap.size, 2, none⟩ = some (.int .i64 s)) ∧ Blk w w.heap.size 28 #[.bool b, .slice A n c, .int .i64 s] W)) :=
    fun W hW => ⟨hW.cells3.1, hW⟩
  have HX := Lib.hid hX
  have HR := Lib.hid hR
  clear hX hR
  go_region_held3 (fun W => (W.cell? ⟨w.heap.size, 0, none⟩ = some (.bool b) ∧ W.cell? ⟨w.heap.size, 1, none⟩ = some (.slice A n c) ∧ W.cell? ⟨w.heap.size, 2, none⟩ = some (.int .i64 s)) ∧ Blk w w.heap.size 28 #[.bool b, .slice A n c, .int .i64 s] W)
    ((refine HS.out _ ?_; repeat (first | exact HX.out | exact And.right (by assumption) | refine Blk.drew ?_ | refine Blk.call ?_ hB | refine Blk.far ?_ (by simp) (by simp) _)))
    (first
      | (go_at_call 34; refine (gg.out _ (h.later (Blk.later (g := w.heap.size) (And.right (by assumption))))).mono ?_; rintro e w1 ⟨A1, n1, c1, rfl, hI, hB⟩; have hR1 := HR.out.drew.call hB; obtain ⟨⟨y0, y1, y2⟩, ⟨y3, y4, y5⟩⟩ := hR1.cells3)
      | (go_at_call 7; refine (ga.out _).mono ?_; rintro e w1 ⟨rfl, rfl⟩))
  all_goals
    go_wp2_with fail
    have hlt := HR.out.lt
    have hnew : 0 < n1 → ∀ a, A1 = some a → w.heap.size + 1 < a.block := fun hz a ha => by
      obtain ⟨a', ha', hb'⟩ := hI.new hz
      subst ha
      obtain rfl := Option.some.inj ha'
      simp at hb'
      omega
    rw [← HD.out]
    obtain ⟨⟨z0, z1, z2⟩, _⟩ := (hR1.store3 (.bool b) (.slice A1 n1 c1) (.int .i64 z)).cells3
    exact bodyPost_ret (v := .agg #[.bool b, .slice A1 n1 c1, .int .i64 z]) (by generalize World.setCell (World.setCell (World.setCell _ _ _) _ _) _ _ = W3 at z0 z1 z2 ⊢; simp [results, Tryz.results16, go_sem, z0, z1, z2]) rfl
      ⟨A1, n1, c1, rfl, hI.il.set3 (fun hz a ha => by have := hnew hz a ha; omega) _ _ _, below_set3 hR1.later (Nat.le_succ _) _ _ _, fun hz a ha => by have := hnew hz a ha; omega⟩

end Go.Proofs.YtjinbhnpcdlkiaaGreatDoor


namespace Go.Proofs.YtjinbhnpcdlkiaaGreatDoor
open Go.RowKit

theorem shiftL_zeros (l : List Int) (N s : Nat) (h : s ≤ N) : shiftL l ((N : Int) - (s : Int)) = zerosB l (N - s) := by
  unfold shiftL zerosB
  rw [if_neg (by omega)]
  congr 2
  omega

theorem cmpI_bd (a b : Int) : -1 ≤ cmpI a b ∧ cmpI a b ≤ 1 := by unfold cmpI; split <;> (try split) <;> omega

set_option maxHeartbeats 4000000 in
theorem rccompare_any {A : Option Addr} {n c : Nat} {l : List Int} {A2 : Option Addr} {n2 c2 : Nat} {l2 : List Int} (b b2 : Bool) (s s2 : Int) (w : World) (h : IL w A n c l) (h2 : IL w A2 n2 c2 l2) (hm : mayL l = true) (hm2 : mayL l2 = true)
    (hn : n ≤ 10000) (hn2 : n2 ≤ 10000) (hs0 : 0 ≤ s) (hs1 : s ≤ 10000) (ht0 : 0 ≤ s2) (ht1 : s2 ≤ 10000) :
    Calls Tryz.prog 17 #[.agg #[.bool b, .slice A n c, .int .i64 s], .agg #[.bool b2, .slice A2 n2 c2, .int .i64 s2]] w (RV w (.int .i64 (cmpDc ⟨b, l, s⟩ ⟨b2, l2, s2⟩))) := by
  have hx := Lib.hid (fun W hW => rdtrim_any (A := A) (n := n) (c := c) (l := l) b s W hW (I64_of_may hm) (by omega) hs0 (by omega))
  have hy := Lib.hid (fun W hW => rdtrim_any (A := A2) (n := n2) (c := c2) (l := l2) b2 s2 W hW (I64_of_may hm2) (by omega) ht0 (by omega))
  have cx := trimDc_canonic (d := ⟨b, l, s⟩) hm hs0
  have cy := trimDc_canonic (d := ⟨b2, l2, s2⟩) hm2 ht0
  have lx := trimDc_len ⟨b, l, s⟩
  have ly := trimDc_len ⟨b2, l2, s2⟩
  have hfin := cmpDc_trim (a := ⟨b, l, s⟩) (b := ⟨b2, l2, s2⟩) hm hs0 hm2 ht0
  have el := h.len
  have el2 := h2.len
  rw [← hfin]
  clear hfin
  generalize trimDc ⟨b, l, s⟩ = X at *
  generalize trimDc ⟨b2, l2, s2⟩ = Y at *
  obtain ⟨xb, xl, xs⟩ := X
  obtain ⟨yb, yl, ys⟩ := Y
  have ex1 := cx.lo
  have ex2 := cx.hi
  have ey1 := cy.lo
  have ey2 := cy.hi
  simp only at ex1 ex2 ey1 ey2 lx ly
  obtain ⟨sx, rfl⟩ := Int.eq_ofNat_of_zero_le ex1
  obtain ⟨sy, rfl⟩ := Int.eq_ofNat_of_zero_le ey1
  obtain ⟨N, hN⟩ : ∃ N, N = max sx sy := ⟨_, rfl⟩
  have hsx : sx ≤ N := by omega
  have hsy : sy ≤ N := by omega
  have hNb : N ≤ 10000 := by omega
  have hmax : (if (sx : Int) < (sy : Int) then (sy : Int) else (sx : Int)) = (N : Int) := by split <;> omega
  have hmax2 : (if sx < sy then (sy : Int) else (sx : Int)) = (N : Int) := by split <;> omega
  have hres := Lib.hid (signC_cmp cx cy N hsx hsy)
  have hmx := cx.may
  have hmy := cy.may
  have hxl : xl.length ≤ 10000 := by omega
  have hyl : yl.length ≤ 10000 := by omega
  have hP := (Blk.made w (w.alloc (.cells #[.bool b, .slice A n c, .int .i64 s] 28)) 28 #[.bool b2, .slice A2 n2 c2, .int .i64 s2] ((Later.refl w).alloc _) (w.heap.size + 1) (by simp))
  simp only [Int.toNat_natCast] at hres
  clear cx cy hN ex1 ex2 ey1 ey2 lx ly el el2
  cases xb <;> cases yb
  case false.true =>
    go_enter Tryz.func17, Tryz.ntmps17
    go_wp2_with fail
    refine (hx.out _ ((h.alloc _).alloc _)).mono ?_
    rintro e w1 ⟨A1, n1, c1, rfl, hI1, hB1, hN1⟩
    have hP1 := hP.call hB1
    have q0 := fun o => (hP1.alloc o).cells3.1.1
    have q1 := fun o => (hP1.alloc o).cells3.1.2.1
    have q2 := fun o => (hP1.alloc o).cells3.1.2.2
    have hF := Blk.made w w1 28 #[.bool false, .slice A1 n1 c1, .int .i64 (sx : Int)] hP1.later _ rfl
    go_wp2_with fail
    refine (hy.out _ ((h2.later hP1.later).alloc _)).mono ?_
    rintro e w2 ⟨A3, n3, c3, rfl, hI3, hB3, hN3⟩
    have hF2 := hF.call hB3
    have r0 := fun o => (hF2.alloc o).cells3.1.1
    have r1 := fun o => (hF2.alloc o).cells3.1.2.1
    have r2 := fun o => (hF2.alloc o).cells3.1.2.2
    go_wp2_with fail
    go_ret
    exact ⟨ret_int (by rw [← hres.out]; rfl), hF2.later.alloc _⟩
  case true.false =>
    go_enter Tryz.func17, Tryz.ntmps17
    go_wp2_with fail
    refine (hx.out _ ((h.alloc _).alloc _)).mono ?_
    rintro e w1 ⟨A1, n1, c1, rfl, hI1, hB1, hN1⟩
    have hP1 := hP.call hB1
    have q0 := fun o => (hP1.alloc o).cells3.1.1
    have q1 := fun o => (hP1.alloc o).cells3.1.2.1
    have q2 := fun o => (hP1.alloc o).cells3.1.2.2
    have hF := Blk.made w w1 28 #[.bool true, .slice A1 n1 c1, .int .i64 (sx : Int)] hP1.later _ rfl
    go_wp2_with fail
    refine (hy.out _ ((h2.later hP1.later).alloc _)).mono ?_
    rintro e w2 ⟨A3, n3, c3, rfl, hI3, hB3, hN3⟩
    have hF2 := hF.call hB3
    have r0 := fun o => (hF2.alloc o).cells3.1.1
    have r1 := fun o => (hF2.alloc o).cells3.1.2.1
    have r2 := fun o => (hF2.alloc o).cells3.1.2.2
    go_wp2_with fail
    go_ret
    exact ⟨ret_int (by rw [← hres.out]; rfl), hF2.later.alloc _⟩
  case false.false =>
    go_enter Tryz.func17, Tryz.ntmps17
    go_wp2_with fail
    refine (hx.out _ ((h.alloc _).alloc _)).mono ?_
    rintro e w1 ⟨A1, n1, c1, rfl, hI1, hB1, hN1⟩
    have hP1 := hP.call hB1
    have q0 := fun o => (hP1.alloc o).cells3.1.1
    have q1 := fun o => (hP1.alloc o).cells3.1.2.1
    have q2 := fun o => (hP1.alloc o).cells3.1.2.2
    have hF := Blk.made w w1 28 #[.bool false, .slice A1 n1 c1, .int .i64 (sx : Int)] hP1.later _ rfl
    go_wp2_with fail
    refine (hy.out _ ((h2.later hP1.later).alloc _)).mono ?_
    rintro e w2 ⟨A3, n3, c3, rfl, hI3, hB3, hN3⟩
    have hF2 := hF.call hB3
    have hG := Blk.made w w2 28 #[.bool false, .slice A3 n3 c3, .int .i64 (sy : Int)] hF2.later _ rfl
    have hI1' := (hI1.alloc _).below hB3
    have r0 := fun o => (hF2.alloc o).cells3.1.1
    have r1 := fun o => (hF2.alloc o).cells3.1.2.1
    have r2 := fun o => (hF2.alloc o).cells3.1.2.2
    have hn1 : n1 ≤ 10000 := by rw [← hI1.len]; exact hxl
    have hn3 : n3 ≤ 10000 := by rw [← hI3.len]; exact hyl
    go_upto_region 8 with fail
    obtain ⟨wb, hwb⟩ : ∃ wb, wb = w2.alloc (.cells #[.bool false, .slice A3 n3 c3, .int .i64 (sy : Int)] 28) := ⟨_, rfl⟩
    have hF3 := hF2.alloc (.cells #[.bool false, .slice A3 n3 c3, .int .i64 (sy : Int)] 28)
    have hI1b := hI1'.alloc (.cells #[.bool false, .slice A3 n3 c3, .int .i64 (sy : Int)] 28)
    have hI3b := hI3.alloc (.cells #[.bool false, .slice A3 n3 c3, .int .i64 (sy : Int)] 28)
    rw [← hwb] at hG hF3 hI1b hI3b
    rw [← hwb]
    clear hwb
    have HS : Hid (∀ W, Later wb W → (W.cell? ⟨w1.heap.size, 1, none⟩ = some (.slice A1 n1 c1) ∧ W.cell? ⟨w1.heap.size, 2, none⟩ = some (.int .i64 (sx : Int)) ∧ W.cell? ⟨w2.heap.size, 1, none⟩ = some (.slice A3 n3 c3) ∧ W.cell? ⟨w2.heap.size, 2, none⟩ = some (.int .i64 (sy : Int))) ∧ Later wb W) :=
      fun W hW => ⟨⟨(hF3.call hW).cells3.1.2.1, (hF3.call hW).cells3.1.2.2, (hG.call hW).cells3.1.2.1, (hG.call hW).cells3.1.2.2⟩, hW⟩
    have hs1 := Lib.hid (fun W (hW : IL W A1 n1 c1 xl) => show Calls Tryz.prog 36 #[.slice A1 n1 c1, .int .i64 ((N : Int) - (sx : Int))] W (RO W (zerosB xl (N - sx))) by
      have := rshift_any A1 n1 c1 xl ((N : Int) - (sx : Int)) W hW (by omega) (by omega) (by omega)
      rw [shiftL_zeros xl N sx hsx] at this
      exact this)
    have hs2 := Lib.hid (fun W (hW : IL W A3 n3 c3 yl) => show Calls Tryz.prog 36 #[.slice A3 n3 c3, .int .i64 ((N : Int) - (sy : Int))] W (RO W (zerosB yl (N - sy))) by
      have := rshift_any A3 n3 c3 yl ((N : Int) - (sy : Int)) W hW (by omega) (by omega) (by omega)
      rw [shiftL_zeros yl N sy hsy] at this
      exact this)
    have lx : (zerosB xl (N - sx)).length ≤ 100000 := by unfold zerosB; simp; omega
    have ly : (zerosB yl (N - sy)).length ≤ 100000 := by unfold zerosB; simp; omega
    have hcm := Lib.hid (fun A n c A2 n2 c2 W hW hW2 hn hn2 => rcompare_any A n c (zerosB xl (N - sx)) A2 n2 c2 (zerosB yl (N - sy)) W hW hW2 hn hn2)
    have hcb : -1 ≤ cmpL (zerosB xl (N - sx)) (zerosB yl (N - sy)) ∧ cmpL (zerosB xl (N - sx)) (zerosB yl (N - sy)) ≤ 1 := by rw [cmpL_val (mayL_zerosB hmx _) (mayL_zerosB hmy _)]; exact cmpI_bd _ _
    obtain ⟨hcb1, hcb2⟩ := hcb
    generalize zerosB xl (N - sx) = zx at *
    generalize zerosB yl (N - sy) = zy at *
    have hwr1 : IntKind.i64.wrap ((N : Int) - (sx : Int)) = (N : Int) - (sx : Int) := IntWalk.i64_in _ (by omega)
    have hwr2 : IntKind.i64.wrap ((N : Int) - (sy : Int)) = (N : Int) - (sy : Int) := IntWalk.i64_in _ (by omega)
    have hLw : Later w wb := hG.later
    have HG := Lib.hid hG
    have HF3 := Lib.hid hF3
    clear hG hF3 hF hF2 hP hP1 hmax hmax2
    go_region_held3 (fun W => (W.cell? ⟨w1.heap.size, 1, none⟩ = some (.slice A1 n1 c1) ∧ W.cell? ⟨w1.heap.size, 2, none⟩ = some (.int .i64 (sx : Int)) ∧ W.cell? ⟨w2.heap.size, 1, none⟩ = some (.slice A3 n3 c3) ∧ W.cell? ⟨w2.heap.size, 2, none⟩ = some (.int .i64 (sy : Int))) ∧ Later wb W)
      ((refine HS.out _ ?_; repeat (first | exact And.right (by assumption) | exact Later.refl _ | refine Later.drew ?_ | refine Later.call ?_ hB7 | refine Later.call ?_ hB6 | refine Later.call ?_ hB5)))
      (first
        | (go_at_call 36; (with_reducible refine (hs1.out _ (hI1b.later (And.right (by assumption)))).mono ?_); rintro e w5 ⟨A5, n5, c5, rfl, hO5, hB5⟩)
        | (go_at_call 36; (with_reducible refine (hs2.out _ (hI3b.later (And.right (by assumption)))).mono ?_); rintro e w6 ⟨A6, n6, c6, rfl, hO6, hB6⟩)
        | (go_at_call 35; refine (hcm.out _ _ _ _ _ _ _ (hO5.il.below hB6) hO6.il (by have := hO5.len; omega) (by have := hO6.len; omega)).mono ?_; rintro e w7 ⟨rfl, hB7⟩))
    all_goals
      clear hwr1 hwr2
      have hL7 : Later wb w7 := Later.call (Later.call (Later.call (Later.drew (Later.refl wb)) hB5) hB6) hB7
      obtain ⟨⟨t0, t1, t2⟩, _⟩ := (HF3.out.call hL7).cells3
      go_wp2_with fail
      go_ret
      exact ⟨ret_int (by rw [← hres.out]; rfl), below_from hLw hL7⟩
  case true.true =>
    go_enter Tryz.func17, Tryz.ntmps17
    go_wp2_with fail
    refine (hx.out _ ((h.alloc _).alloc _)).mono ?_
    rintro e w1 ⟨A1, n1, c1, rfl, hI1, hB1, hN1⟩
    have hP1 := hP.call hB1
    have q0 := fun o => (hP1.alloc o).cells3.1.1
    have q1 := fun o => (hP1.alloc o).cells3.1.2.1
    have q2 := fun o => (hP1.alloc o).cells3.1.2.2
    have hF := Blk.made w w1 28 #[.bool true, .slice A1 n1 c1, .int .i64 (sx : Int)] hP1.later _ rfl
    go_wp2_with fail
    refine (hy.out _ ((h2.later hP1.later).alloc _)).mono ?_
    rintro e w2 ⟨A3, n3, c3, rfl, hI3, hB3, hN3⟩
    have hF2 := hF.call hB3
    have hG := Blk.made w w2 28 #[.bool true, .slice A3 n3 c3, .int .i64 (sy : Int)] hF2.later _ rfl
    have hI1' := (hI1.alloc _).below hB3
    have r0 := fun o => (hF2.alloc o).cells3.1.1
    have r1 := fun o => (hF2.alloc o).cells3.1.2.1
    have r2 := fun o => (hF2.alloc o).cells3.1.2.2
    have hn1 : n1 ≤ 10000 := by rw [← hI1.len]; exact hxl
    have hn3 : n3 ≤ 10000 := by rw [← hI3.len]; exact hyl
    go_upto_region 8 with fail
    obtain ⟨wb, hwb⟩ : ∃ wb, wb = w2.alloc (.cells #[.bool true, .slice A3 n3 c3, .int .i64 (sy : Int)] 28) := ⟨_, rfl⟩
    have hF3 := hF2.alloc (.cells #[.bool true, .slice A3 n3 c3, .int .i64 (sy : Int)] 28)
    have hI1b := hI1'.alloc (.cells #[.bool true, .slice A3 n3 c3, .int .i64 (sy : Int)] 28)
    have hI3b := hI3.alloc (.cells #[.bool true, .slice A3 n3 c3, .int .i64 (sy : Int)] 28)
    rw [← hwb] at hG hF3 hI1b hI3b
    rw [← hwb]
    clear hwb
    have HS : Hid (∀ W, Later wb W → (W.cell? ⟨w1.heap.size, 1, none⟩ = some (.slice A1 n1 c1) ∧ W.cell? ⟨w1.heap.size, 2, none⟩ = some (.int .i64 (sx : Int)) ∧ W.cell? ⟨w2.heap.size, 1, none⟩ = some (.slice A3 n3 c3) ∧ W.cell? ⟨w2.heap.size, 2, none⟩ = some (.int .i64 (sy : Int))) ∧ Later wb W) :=
      fun W hW => ⟨⟨(hF3.call hW).cells3.1.2.1, (hF3.call hW).cells3.1.2.2, (hG.call hW).cells3.1.2.1, (hG.call hW).cells3.1.2.2⟩, hW⟩
    have hs1 := Lib.hid (fun W (hW : IL W A1 n1 c1 xl) => show Calls Tryz.prog 36 #[.slice A1 n1 c1, .int .i64 ((N : Int) - (sx : Int))] W (RO W (zerosB xl (N - sx))) by
      have := rshift_any A1 n1 c1 xl ((N : Int) - (sx : Int)) W hW (by omega) (by omega) (by omega)
      rw [shiftL_zeros xl N sx hsx] at this
      exact this)
    have hs2 := Lib.hid (fun W (hW : IL W A3 n3 c3 yl) => show Calls Tryz.prog 36 #[.slice A3 n3 c3, .int .i64 ((N : Int) - (sy : Int))] W (RO W (zerosB yl (N - sy))) by
      have := rshift_any A3 n3 c3 yl ((N : Int) - (sy : Int)) W hW (by omega) (by omega) (by omega)
      rw [shiftL_zeros yl N sy hsy] at this
      exact this)
    have lx : (zerosB xl (N - sx)).length ≤ 100000 := by unfold zerosB; simp; omega
    have ly : (zerosB yl (N - sy)).length ≤ 100000 := by unfold zerosB; simp; omega
    have hcm := Lib.hid (fun A n c A2 n2 c2 W hW hW2 hn hn2 => rcompare_any A n c (zerosB xl (N - sx)) A2 n2 c2 (zerosB yl (N - sy)) W hW hW2 hn hn2)
    have hcb : -1 ≤ cmpL (zerosB xl (N - sx)) (zerosB yl (N - sy)) ∧ cmpL (zerosB xl (N - sx)) (zerosB yl (N - sy)) ≤ 1 := by rw [cmpL_val (mayL_zerosB hmx _) (mayL_zerosB hmy _)]; exact cmpI_bd _ _
    obtain ⟨hcb1, hcb2⟩ := hcb
    generalize zerosB xl (N - sx) = zx at *
    generalize zerosB yl (N - sy) = zy at *
    have hwr1 : IntKind.i64.wrap ((N : Int) - (sx : Int)) = (N : Int) - (sx : Int) := IntWalk.i64_in _ (by omega)
    have hwr2 : IntKind.i64.wrap ((N : Int) - (sy : Int)) = (N : Int) - (sy : Int) := IntWalk.i64_in _ (by omega)
    have hLw : Later w wb := hG.later
    have HG := Lib.hid hG
    have HF3 := Lib.hid hF3
    clear hG hF3 hF hF2 hP hP1 hmax hmax2
    go_region_held3 (fun W => (W.cell? ⟨w1.heap.size, 1, none⟩ = some (.slice A1 n1 c1) ∧ W.cell? ⟨w1.heap.size, 2, none⟩ = some (.int .i64 (sx : Int)) ∧ W.cell? ⟨w2.heap.size, 1, none⟩ = some (.slice A3 n3 c3) ∧ W.cell? ⟨w2.heap.size, 2, none⟩ = some (.int .i64 (sy : Int))) ∧ Later wb W)
      ((refine HS.out _ ?_; repeat (first | exact And.right (by assumption) | exact Later.refl _ | refine Later.drew ?_ | refine Later.call ?_ hB7 | refine Later.call ?_ hB6 | refine Later.call ?_ hB5)))
      (first
        | (go_at_call 36; (with_reducible refine (hs1.out _ (hI1b.later (And.right (by assumption)))).mono ?_); rintro e w5 ⟨A5, n5, c5, rfl, hO5, hB5⟩)
        | (go_at_call 36; (with_reducible refine (hs2.out _ (hI3b.later (And.right (by assumption)))).mono ?_); rintro e w6 ⟨A6, n6, c6, rfl, hO6, hB6⟩)
        | (go_at_call 35; refine (hcm.out _ _ _ _ _ _ _ (hO5.il.below hB6) hO6.il (by have := hO5.len; omega) (by have := hO6.len; omega)).mono ?_; rintro e w7 ⟨rfl, hB7⟩))
    all_goals
      clear hwr1 hwr2
      have hL7 : Later wb w7 := Later.call (Later.call (Later.call (Later.drew (Later.refl wb)) hB5) hB6) hB7
      obtain ⟨⟨t0, t1, t2⟩, _⟩ := (HF3.out.call hL7).cells3
      go_wp2_with fail
      go_ret
      exact ⟨ret_int (by rw [← hres.out]; rfl), below_from hLw hL7⟩

end Go.Proofs.YtjinbhnpcdlkiaaGreatDoor


namespace Go.Proofs.YtjinbhnpcdlkiaaGreatDoor
open Go.RowKit

/-- A made decimal. -/
def GoodDc (X : Dc) (q : Nat) : Prop := mayL X.l = true ∧ 0 ≤ X.s ∧ X.s ≤ 9 ∧ X.l.length ≤ q
theorem cgood_ex {A : Option Addr} {n c : Nat} {l : List Int} (b : Bool) (s : Int) (q : Nat) (hl : I64 l) (hs : -9223372036854775808 ≤ s ∧ s ≤ 9223372036854775807) (hq : q ≤ 1000) :
    ∃ X : Dc, GoodDc X q ∧ Hid (X = ⟨b, goodL l q, around s 10⟩) ∧ Hid (∀ W, IL W A n c l → Calls Tryz.prog 16 #[.agg #[.bool b, .slice A n c, .int .i64 s], .int .i64 (q : Int)] W (RC W X)) := by
  refine ⟨⟨b, goodL l q, around s 10⟩, ⟨mayL_good _ _, ?_, ?_, ?_⟩, rfl, fun W hW => cgood_any b s q W hW hl hs (by omega)⟩
  · exact (around_bd s 10 (by omega)).1
  · have := (around_bd s 10 (by omega)).2
    simp only
    omega
  · simp only
    rw [goodL_len]; omega
theorem cmpDc_trans {x y z : Dc} (h1 : cmpDc x y ≤ 0) (h2 : cmpDc y z ≤ 0) : cmpDc x z ≤ 0 := by
  rw [cmpDc_at x y (max x.s.toNat (max y.s.toNat z.s.toNat)) (by omega) (by omega)] at h1
  rw [cmpDc_at y z (max x.s.toNat (max y.s.toNat z.s.toNat)) (by omega) (by omega)] at h2
  rw [cmpDc_at x z (max x.s.toNat (max y.s.toNat z.s.toNat)) (by omega) (by omega)]
  unfold cmpI at *
  split at h1
  · split at h2
    · rw [if_pos (by omega)]; omega
    · split at h2
      · omega
      · rw [if_pos (by omega)]; omega
  · split at h1
    · omega
    · split at h2
      · rw [if_pos (by omega)]; omega
      · split at h2
        · omega
        · rw [if_neg (by omega), if_neg (by omega)]; omega
theorem cmpDc_bd (x y : Dc) : -1 ≤ cmpDc x y ∧ cmpDc x y ≤ 1 := cmpI_bd _ _

/-- A decimal's value in memory: three cells of a block, and its digits. -/
def DcAt (g : Nat) (A : Option Addr) (n c : Nat) (X : Dc) (W : World) : Prop :=
  (W.cell? ⟨g, 0, none⟩ = some (.bool X.neg) ∧ W.cell? ⟨g, 1, none⟩ = some (.slice A n c) ∧ W.cell? ⟨g, 2, none⟩ = some (.int .i64 X.s)) ∧ IL W A n c X.l
theorem DcAt.later {g : Nat} {A : Option Addr} {n c : Nat} {X : Dc} {W W' : World} (h : DcAt g A n c X W) (hL : Later W W') : DcAt g A n c X W' :=
  ⟨⟨hL.cell h.1.1, hL.cell h.1.2.1, hL.cell h.1.2.2⟩, h.2.later hL⟩
theorem Blk.dc {w0 W : World} {g : Nat} {t : TypeId} {A : Option Addr} {n c : Nat} {X : Dc} (h : Blk w0 g t #[.bool X.neg, .slice A n c, .int .i64 X.s] W) (hI : IL W A n c X.l) : DcAt g A n c X W := ⟨h.cells3.1, hI⟩
theorem DcAt.k0 {g : Nat} {A : Option Addr} {n c : Nat} {X : Dc} {W : World} (h : DcAt g A n c X W) (s : Ext W) : s.world.cell? ⟨g, 0, none⟩ = some (.bool X.neg) := Ext.cell h.1.1 s
theorem DcAt.k1 {g : Nat} {A : Option Addr} {n c : Nat} {X : Dc} {W : World} (h : DcAt g A n c X W) (s : Ext W) : s.world.cell? ⟨g, 1, none⟩ = some (.slice A n c) := Ext.cell h.1.2.1 s
theorem DcAt.k2 {g : Nat} {A : Option Addr} {n c : Nat} {X : Dc} {W : World} (h : DcAt g A n c X W) (s : Ext W) : s.world.cell? ⟨g, 2, none⟩ = some (.int .i64 X.s) := Ext.cell h.1.2.2 s
theorem DcAt.il {g : Nat} {A : Option Addr} {n c : Nat} {X : Dc} {W : World} (h : DcAt g A n c X W) (s : Ext W) : IL s.world A n c X.l := h.2.ext s

/-- Both comparings of made decimals, in later worlds. -/
theorem ccompare_at {g : Nat} {A : Option Addr} {n c : Nat} {X : Dc} {g2 : Nat} {A2 : Option Addr} {n2 c2 : Nat} {Y : Dc} {W : World} (h : DcAt g A n c X W) (h2 : DcAt g2 A2 n2 c2 Y W) {q q2 : Nat} (hX : GoodDc X q) (hY : GoodDc Y q2) (hq : q ≤ 10000) (hq2 : q2 ≤ 10000) (s : Ext W) :
    Calls Tryz.prog 21 #[.agg #[.bool X.neg, .slice A n c, .int .i64 X.s], .agg #[.bool Y.neg, .slice A2 n2 c2, .int .i64 Y.s]] s.world (RV s.world (.int .i64 (cmpDc X Y))) :=
  ccompare_any X.neg Y.neg X.s Y.s s.world (h.il s) (h2.il s) hX.1 hY.1 (by have := h.2.len; have := hX.2.2.2; omega) (by have := h2.2.len; have := hY.2.2.2; omega) hX.2.1 (by have := hX.2.2.1; omega) hY.2.1 (by have := hY.2.2.1; omega)
theorem rccompare_at {g : Nat} {A : Option Addr} {n c : Nat} {X : Dc} {g2 : Nat} {A2 : Option Addr} {n2 c2 : Nat} {Y : Dc} {W : World} (h : DcAt g A n c X W) (h2 : DcAt g2 A2 n2 c2 Y W) {q q2 : Nat} (hX : GoodDc X q) (hY : GoodDc Y q2) (hq : q ≤ 10000) (hq2 : q2 ≤ 10000) (s : Ext W) :
    Calls Tryz.prog 17 #[.agg #[.bool X.neg, .slice A n c, .int .i64 X.s], .agg #[.bool Y.neg, .slice A2 n2 c2, .int .i64 Y.s]] s.world (RV s.world (.int .i64 (cmpDc X Y))) :=
  rccompare_any X.neg Y.neg X.s Y.s s.world (h.il s) (h2.il s) hX.1 hY.1 (by have := h.2.len; have := hX.2.2.2; omega) (by have := h2.2.len; have := hY.2.2.2; omega) hX.2.1 (by have := hX.2.2.1; omega) hY.2.1 (by have := hY.2.2.1; omega)

end Go.Proofs.YtjinbhnpcdlkiaaGreatDoor


namespace Go.Proofs.YtjinbhnpcdlkiaaGreatDoor

theorem canon_up_to {M N : Nat} (h : M ≤ N) (v : Int) : canon M v = canon N (v * 10 ^ (N - M)) := by
  have := canon_shift M (N - M) v
  rw [show M + (N - M) = N from by omega] at this
  exact this.symm
theorem at_up {d : Dc} {M N : Nat} (hd : d.s.toNat ≤ M) (h : M ≤ N) : d.at_ M * 10 ^ (N - M) = d.at_ N := by
  have := at_mul d M (N - M) hd
  rw [show M + (N - M) = N from by omega] at this
  exact this.symm
theorem add_at (a b : Dc) (N : Nat) (ha : a.s.toNat ≤ N) (hb : b.s.toNat ≤ N) :
    canon (max a.s.toNat b.s.toNat) (a.at_ (max a.s.toNat b.s.toNat) + b.at_ (max a.s.toNat b.s.toNat)) = canon N (a.at_ N + b.at_ N) := by
  rw [canon_up_to (M := max a.s.toNat b.s.toNat) (N := N) (by omega), Int.add_mul, at_up (by omega) (by omega), at_up (by omega) (by omega)]
theorem mayDc_canon (s : Nat) (hs : s ≤ 1000) (z : Int) : mayDc (canon s z) = true := by
  have h := canonic s z
  exact mayDc_iff.2 ⟨h.may, h.lo, by have := h.hi; omega⟩
theorem addDc_at {a b : Dc} (ha : mayDc a = true) (hb : mayDc b = true) (N : Nat) (h1 : a.s.toNat ≤ N) (h2 : b.s.toNat ≤ N) : addDc a b = (canon N (a.at_ N + b.at_ N), 0) := by
  unfold addDc
  rw [ha, hb, add_at a b N h1 h2]
  rfl
theorem mayDc_minus (d : Dc) : mayDc (minusDc d) = mayDc d := rfl
theorem minus_at (d : Dc) (N : Nat) : (minusDc d).at_ N = -(d.at_ N) := by
  unfold Dc.at_ minusDc Dc.z
  cases d.neg <;> simp [Int.neg_mul]
theorem canon_at_self {s : Nat} (z : Int) : (canon s z).at_ s = z := by
  have := canon_at_eq s s z (Nat.le_refl _)
  simpa using this
theorem add_back {x y : Dc} (hx : mayDc x = true) (hy : mayDc y = true) : addDc (addDc x y).1 (minusDc y) = (trimDc x, 0) := by
  obtain ⟨hxl, hx0, hx1⟩ := mayDc_iff.1 hx
  obtain ⟨hyl, hy0, hy1⟩ := mayDc_iff.1 hy
  have e := addDc_at hx hy (max x.s.toNat y.s.toNat) (by omega) (by omega)
  have hl := canon_le (max x.s.toNat y.s.toNat) (x.at_ (max x.s.toNat y.s.toNat) + y.at_ (max x.s.toNat y.s.toNat))
  rw [e]
  rw [addDc_at (N := max x.s.toNat y.s.toNat) (mayDc_canon _ (by omega) _) (by rw [mayDc_minus]; exact hy) hl (by show y.s.toNat ≤ _; omega), canon_at_self, minus_at, show ∀ p q : Int, p + q + -q = p from fun p q => by omega,
    canon_at _ _ (by omega), trimDc_canon hxl hx0]
theorem times_none {x : Dc} (hx : mayDc x = true) (k : Int) (h1 : -1000 ≤ k) (h2 : k ≤ 1000) : addDc (timesDc x k).1 (timesDc x (-k)).1 = (Dc.zero, 0) := by
  obtain ⟨hxl, hx0, hx1⟩ := mayDc_iff.1 hx
  have e1 : (timesDc x k).1 = canon x.s.toNat (k * x.z) := by unfold timesDc; rw [if_pos hx, if_neg (by omega)]
  have e2 : (timesDc x (-k)).1 = canon x.s.toNat (-(k * x.z)) := by unfold timesDc; rw [if_pos hx, if_neg (by omega), Int.neg_mul]
  rw [e1, e2, addDc_at (N := x.s.toNat) (mayDc_canon _ (by omega) _) (mayDc_canon _ (by omega) _) (canon_le _ _) (canon_le _ _), canon_at_self, canon_at_self, show k * x.z + -(k * x.z) = 0 from by omega, canon_zero]
theorem times_ok {x : Dc} (hx : mayDc x = true) (k : Int) (h1 : -1000 ≤ k) (h2 : k ≤ 1000) : (timesDc x k).2 = 0 := by
  unfold timesDc; rw [if_pos hx, if_neg (by omega)]
theorem align_back {x : Dc} {s : Int} (hs0 : (alignDc x s).2 = 0) : (alignDc x s).1.s = s ∧ cmpDc (alignDc x s).1 x = 0 := by
  unfold alignDc at hs0 ⊢
  by_cases hx : mayDc x = true
  · rw [if_pos hx] at hs0 ⊢
    by_cases hr : s < (trimDc x).s ∨ 1000 < s
    · rw [if_pos hr] at hs0; simp at hs0
    · rw [if_neg hr]
      obtain ⟨hxl, hx0, hx1⟩ := mayDc_iff.1 hx
      have hc := trimDc_canonic hxl hx0
      have hlo := hc.lo
      refine ⟨rfl, ?_⟩
      obtain ⟨k, rfl⟩ : ∃ k : Nat, s = (k : Int) := ⟨s.toNat, by omega⟩
      simp only
      rw [align_scaled hc k (by omega)]
      have hz : (scaled k ((trimDc x).at_ k)).z = (trimDc x).at_ k := by
        unfold scaled Dc.z
        simp only [val_digs]
        exact natAbs_val
      have hs : (scaled k ((trimDc x).at_ k)).s.toNat = k := by simp [scaled]
      have h2 := trimDc_at hxl hx0 (max k x.s.toNat) (by omega)
      rw [cmpDc_at _ _ (max k x.s.toNat) (by omega) (by omega), ← h2.1]
      have e : (scaled k ((trimDc x).at_ k)).at_ (max k x.s.toNat) = (trimDc x).at_ (max k x.s.toNat) := by
        rw [show (scaled k ((trimDc x).at_ k)).at_ (max k x.s.toNat) = (scaled k ((trimDc x).at_ k)).z * 10 ^ (max k x.s.toNat - (scaled k ((trimDc x).at_ k)).s.toNat) from rfl, hz, hs]
        exact at_up (by omega) (by omega)
      rw [e]
      unfold cmpI
      simp
  · rw [if_neg hx] at hs0; simp at hs0
theorem parts_len (l : List Int) (s : Nat) : (partsS l s).2.length = s := by
  unfold partsS
  have := wideL_len l s
  simp only [List.length_drop]
  omega
theorem parts_len1 (l : List Int) (s : Nat) : (partsS l s).1.length ≤ max l.length s := by
  unfold partsS
  have h1 := wideL_len l s
  have h2 := trimL_len ((wideL l s).take ((wideL l s).length - s))
  simp only [List.length_take] at h2 ⊢
  omega
theorem headed_at {l : List Int} (h : headed l) (hn : 0 < l.length) : l.getD 0 0 ≠ 0 := by
  cases l with
  | nil => simp at hn
  | cons d r => simpa using h d r rfl
theorem parts_headed (l : List Int) (s : Nat) : headed (partsS l s).1 := headed_trim _
theorem parts_val (l : List Int) (s : Nat) : val ((partsS l s).1 ++ (partsS l s).2) = val l := by
  have h1 := parts_len l s
  rw [val_append, h1]
  unfold partsS at *
  simp only at *
  rw [val_trim]
  have h2 := val_append ((wideL l s).take ((wideL l s).length - s)) ((wideL l s).drop ((wideL l s).length - s))
  rw [h1, List.take_append_drop] at h2
  rw [← h2]
  unfold wideL
  exact val_zeros_append _ _
theorem parts_may {l : List Int} (h : mayL l = true) (s : Nat) : mayL ((partsS l s).1 ++ (partsS l s).2) = true := by
  have hw : mayL (wideL l s) = true := by
    unfold wideL
    refine mayL_iff.2 fun x hx => ?_
    rcases List.mem_append.1 hx with hx | hx
    · exact mayL_iff.1 (mayL_replicate _) x hx
    · exact mayL_iff.1 h x hx
  refine mayL_iff.2 fun x hx => ?_
  rcases List.mem_append.1 hx with hx | hx
  · exact mayL_iff.1 (mayL_trim (mayL_take hw _)) x hx
  · exact mayL_iff.1 (mayL_drop hw _) x hx
theorem parts_cmpL {l : List Int} (h : mayL l = true) (s : Nat) : cmpL ((partsS l s).1 ++ (partsS l s).2) l = 0 := by
  rw [cmpL_val (parts_may h s) h, parts_val]; unfold cmpI; simp
theorem parts_cmpDc (b : Bool) (l : List Int) (s : Nat) : cmpDc ⟨b, (partsS l s).1 ++ (partsS l s).2, (s : Int)⟩ ⟨b, l, (s : Int)⟩ = 0 := by
  unfold cmpDc Dc.at_ Dc.z
  simp only [parts_val]
  unfold cmpI
  simp

theorem canon_len {s k : Nat} {z : Int} (h : z.natAbs < 10 ^ k) : (canon s z).l.length ≤ k := by
  by_cases hz : z = 0
  · subst hz; rw [canon_zero]; simp [Dc.zero]
  · rw [strip_canon s z hz]
    have h1 := stripZ_len s (digs z)
    have h2 := ofN_len (n := z.natAbs) (k := k) (by exact_mod_cast h)
    simp only
    unfold digs at h1
    unfold digs
    omega
theorem z_bd {d : Dc} (h : mayL d.l = true) {M : Nat} (hM : d.l.length ≤ M) : d.z.natAbs < 10 ^ M := by
  have h1 := val_bd h
  have h2 := pow_le hM
  have e : ((d.z.natAbs : Nat) : Int) < ((10 ^ M : Nat) : Int) := by
    push_cast
    unfold Dc.z
    cases d.neg <;> simp <;> omega
  exact_mod_cast e
theorem at_bd {d : Dc} (h : mayL d.l = true) {M N : Nat} (hM : d.l.length ≤ M) : (d.at_ N).natAbs < 10 ^ (M + N) := by
  have h1 := z_bd h hM
  unfold Dc.at_
  rw [Int.natAbs_mul, Int.natAbs_pow]
  have e : (10 : Nat) ^ (N - d.s.toNat) ≤ 10 ^ N := Nat.pow_le_pow_right (by omega) (by omega)
  have e2 : (10 : Int).natAbs = 10 := rfl
  rw [e2, Nat.pow_add]
  exact Nat.lt_of_le_of_lt (Nat.mul_le_mul_left _ e) (Nat.mul_lt_mul_of_pos_right h1 (Nat.pow_pos (by omega)))
theorem times_len {d : Dc} (h : mayL d.l = true) {M : Nat} (hM : d.l.length ≤ M) (k : Int) : (timesDc d k).1.l.length ≤ M + 4 := by
  unfold timesDc
  split
  · split
    · simp [Dc.zero]
    · refine canon_len ?_
      have h1 := z_bd h hM
      rw [Int.natAbs_mul]
      have h2 : k.natAbs ≤ 1000 := by omega
      have e := Nat.mul_le_mul_right d.z.natAbs h2
      rw [Nat.pow_add]
      omega
  · simp [Dc.zero]
theorem add_len {a b : Dc} (ha : mayL a.l = true) (hb : mayL b.l = true) {M N : Nat} (h1 : a.l.length ≤ M) (h2 : b.l.length ≤ M) (h3 : a.s.toNat ≤ N) (h4 : b.s.toNat ≤ N) : (addDc a b).1.l.length ≤ M + N + 1 := by
  unfold addDc
  split
  · rw [add_at a b N h3 h4]
    refine canon_len ?_
    have e1 := at_bd (N := N) ha h1
    have e2 := at_bd (N := N) hb h2
    rw [Nat.pow_succ]
    omega
  · simp [Dc.zero]
theorem mayL_times {d : Dc} (k : Int) : mayL (timesDc d k).1.l = true := by
  unfold timesDc
  split
  · split
    · rfl
    · exact (canonic _ _).may
  · rfl
theorem times_s {d : Dc} (h : d.s ≤ 1000) (k : Int) : 0 ≤ (timesDc d k).1.s ∧ (timesDc d k).1.s ≤ 1000 := by
  unfold timesDc
  split
  · split
    · simp [Dc.zero]
    · have := canonic d.s.toNat (k * d.z)
      have h1 := this.lo
      have h2 := this.hi
      simp only
      omega
  · simp [Dc.zero]
theorem add_s (a b : Dc) : 0 ≤ (addDc a b).1.s ∧ (addDc a b).1.s ≤ 1000 := by
  unfold addDc
  split
  · rename_i h
    simp only [Bool.and_eq_true] at h
    have h1 := mayDc_iff.1 h.1
    have h2 := mayDc_iff.1 h.2
    have := canonic (max a.s.toNat b.s.toNat) (a.at_ (max a.s.toNat b.s.toNat) + b.at_ (max a.s.toNat b.s.toNat))
    have h3 := this.lo
    have h4 := this.hi
    simp only
    omega
  · simp [Dc.zero]
theorem mayL_add (a b : Dc) : mayL (addDc a b).1.l = true := by
  unfold addDc
  split
  · exact (canonic _ _).may
  · rfl

end Go.Proofs.YtjinbhnpcdlkiaaGreatDoor

