/- Which numbers fit is told as the document says: the walk. No condition. -/
import Derived.Test.YtickhmlhciafgaaMa24
import Derived.Test.YtickhmlhciafgaaMa10
namespace Go.Proofs.Ytickhmlhciafgaa
open Go.RowKit

set_option maxRecDepth 100000 in
set_option maxHeartbeats 4000000 in
theorem configFits_walk (w : World) (x : GV) (hx : x.ok w) (hb : x.Bd) (b1 : Bool) {A1 : Option Addr} {n1 c1 : Nat} {l1 : List Int} {s1 : Int} (hI1 : IL w A1 n1 c1 l1) (i1 : I64 l1) (hs1 : -9223372036854775808 ≤ s1 ∧ s1 ≤ 9223372036854775807) :
    Calls Try.prog 3 #[.agg x.cs, .agg #[.bool b1, .slice A1 n1 c1, .int .i64 s1]] w (RV w (.bool true)) := by
  obtain ⟨X, hX, hXe, hX1⟩ := cgood_ex (A := A1) (n := n1) (c := c1) b1 s1 14 i1 hs1 (by omega)
  clear hXe
  obtain ⟨m, r, hm, hr, hfew⟩ : ∃ (m : Nat) (r : List Int), m ≤ 14 ∧ I64 r ∧ Hid (∀ W, IL W A1 n1 c1 l1 → Calls Try.prog 14 #[.agg #[.bool b1, .slice A1 n1 c1, .int .i64 s1], .int .i64 14] W (fun e w' => e = .returned (.agg #[.bool b1, .slice A1 m c1, .int .i64 s1]) ∧ IL w' A1 m c1 r ∧ Below W.heap.size W w')) :=
    ⟨min n1 14, l1.take 14, by omega, fun y hy => i1 y (List.mem_of_mem_take hy), fun W hW => cfew_any b1 s1 14 W hW (by omega)⟩
  have hrl := Lib.hid (fun W (h : x.ok W) => rrules_any x W h hb)
  obtain ⟨E, hE⟩ : ∃ E, Hid (E = (⟨b1, r, s1⟩ : Dc)) := ⟨_, rfl⟩
  have hX0 := ((Blk.made w w 28 x.cs (Later.refl w) (w.heap.size) (by simp)).alloc (.cells #[.bool b1, .slice A1 n1 c1, .int .i64 s1] 24))
  have hBx := (Blk.made w (w.alloc (.cells x.cs 28)) 24 #[.bool b1, .slice A1 n1 c1, .int .i64 s1] ((Later.refl w).alloc _) (w.heap.size + 1) (by simp))
  go_enter Try.func3, Try.ntmps3
  go_upto_region 1 with fail
  generalize World.alloc (World.alloc w _) _ = w0 at *
  have hgo := Lib.hid (fun W (h : x.ok W) => rgood13_any x W h hb)
  have hcok := goodG_ok x.g
  have hru := hcok.ruOk
  have hcb := hcok.ruBd
  have hcn := Lib.hid (fun W => hcok.cnew W)
  generalize (goodG x.g).ru = R at *
  generalize goodG x.g = c at *
  go_wp2_with (refine wpList_load_blk hX0 row_made13 rfl rfl rfl rfl ?_; go_simp)
  refine (hgo.out _ (hx.later hX0.later)).mono ?_
  rintro e w1 ⟨rfl, hB1⟩
  go_wp2_with fail
  refine (of13_any c w1).mono ?_
  rintro e w2 ⟨rfl, hB2⟩
  go_wp2_with fail
  refine (hcn.out _).mono ?_
  rintro e w3 ⟨y, rfl, hyr, hyok, hB3, hyf⟩
  have hL3 := ((hX0.call hB1).call hB2).call hB3
  have hY0 := Blk.made w w3 32 #[.bool false, .slice none 0 0, .int .i64 0, .bool false, .slice none 0 0, .int .i64 0, .bool false, .slice none 0 0, .int .i64 0, .bool false, .int .i64 0, .int .i64 0, .int .i64 0, .int .i64 0, .int .i64 0, .int .i64 0, .int .i64 0] hL3.later _ rfl
  have hyok1 := hyok.later ((Later.refl w3).alloc (.cells #[.bool false, .slice none 0 0, .int .i64 0, .bool false, .slice none 0 0, .int .i64 0, .bool false, .slice none 0 0, .int .i64 0, .bool false, .int .i64 0, .int .i64 0, .int .i64 0, .int .i64 0, .int .i64 0, .int .i64 0, .int .i64 0] 32))
  have hBxn := (((hBx.call hB1).call hB2).call hB3).alloc (.cells #[.bool false, .slice none 0 0, .int .i64 0, .bool false, .slice none 0 0, .int .i64 0, .bool false, .slice none 0 0, .int .i64 0, .bool false, .int .i64 0, .int .i64 0, .int .i64 0, .int .i64 0, .int .i64 0, .int .i64 0, .int .i64 0] 32)
  have lhBx := ((hBx.call hB1).call hB2).call hB3
  have hX0n := hL3.alloc (.cells #[.bool false, .slice none 0 0, .int .i64 0, .bool false, .slice none 0 0, .int .i64 0, .bool false, .slice none 0 0, .int .i64 0, .bool false, .int .i64 0, .int .i64 0, .int .i64 0, .int .i64 0, .int .i64 0, .int .i64 0, .int .i64 0] 32)
  have hlt3 := hL3.lt
  go_upto_region 2 with (refine wpList_store_blk hY0 row_rules rfl rfl rfl rfl rfl rfl (by kernel_rfl) ?_; intro w4 hY hS4; go_simp)
  have hyok4 := hyok1.sto hS4 (hyok.apart (Nat.le_refl _))
  have hX0a := hS4.far hX0n (by omega) hY0.1
  have hBxa := hS4.far hBxn (by have := lhBx.lt; omega) hY0.1
  clear hgo hcn hcok hX0 hX0n hL3 hY0 hyok hyok1 hyf hlt3 hS4 hBx hBxn lhBx
  generalize w3.heap.size = gy at *
  have hruB := hcb
  rw [← hyr] at hru hruB
  have hxL := hx.later hX0a.later
  have hIL := hI1.later hX0a.later
  clear hcb
  go_wp2_with (refine wpList_load_blk hX0a row_made13 rfl rfl rfl rfl ?_; go_simp)
  refine (hrl.out _ hxL).mono ?_
  rintro e w5 ⟨z, rfl, hzr, hzok, hB5, hzf⟩
  have hzy : Hid (z.r = y.r) := by rw [Hid, hzr, hyr]
  have hZ0 := Blk.made w w5 44 #[.bool false, .slice none 0 0, .int .i64 0, .bool false, .slice none 0 0, .int .i64 0, .bool false, .slice none 0 0, .int .i64 0, .bool false, .int .i64 0, .int .i64 0, .int .i64 0, .int .i64 0, .int .i64 0, .int .i64 0, .int .i64 0] (hX0a.call hB5).later _ rfl
  have hzok1 := hzok.later ((Later.refl w5).alloc (.cells #[.bool false, .slice none 0 0, .int .i64 0, .bool false, .slice none 0 0, .int .i64 0, .bool false, .slice none 0 0, .int .i64 0, .bool false, .int .i64 0, .int .i64 0, .int .i64 0, .int .i64 0, .int .i64 0, .int .i64 0, .int .i64 0] 44))
  have hY5 := (hY.call hB5).alloc (.cells #[.bool false, .slice none 0 0, .int .i64 0, .bool false, .slice none 0 0, .int .i64 0, .bool false, .slice none 0 0, .int .i64 0, .bool false, .int .i64 0, .int .i64 0, .int .i64 0, .int .i64 0, .int .i64 0, .int .i64 0, .int .i64 0] 44)
  have hy5 := (hyok4.later hB5).later ((Later.refl w5).alloc (.cells #[.bool false, .slice none 0 0, .int .i64 0, .bool false, .slice none 0 0, .int .i64 0, .bool false, .slice none 0 0, .int .i64 0, .bool false, .int .i64 0, .int .i64 0, .int .i64 0, .int .i64 0, .int .i64 0, .int .i64 0, .int .i64 0] 44))
  have hD5 := (hBxa.call hB5).alloc (.cells #[.bool false, .slice none 0 0, .int .i64 0, .bool false, .slice none 0 0, .int .i64 0, .bool false, .slice none 0 0, .int .i64 0, .bool false, .int .i64 0, .int .i64 0, .int .i64 0, .int .i64 0, .int .i64 0, .int .i64 0, .int .i64 0] 44)
  have hI5 := (hIL.below hB5).alloc (.cells #[.bool false, .slice none 0 0, .int .i64 0, .bool false, .slice none 0 0, .int .i64 0, .bool false, .slice none 0 0, .int .i64 0, .bool false, .int .i64 0, .int .i64 0, .int .i64 0, .int .i64 0, .int .i64 0, .int .i64 0, .int .i64 0] 44)
  have ly5 := (hY.call hB5).lt
  have ld5 := (hBxa.call hB5).lt
  have hap5 := (hIL.below hB5).apart (Nat.le_refl _)
  have hay5 := (hyok4.later hB5).apart (Nat.le_refl _)
  go_upto_region 5 with (refine wpList_store_blk hZ0 row_rules13 rfl rfl rfl rfl rfl rfl (by kernel_rfl) ?_; intro w6 hZ6 hS6; go_simp)
  have hY6 := hS6.far hY5 (by omega) hZ0.1
  have hD6 := hS6.far hD5 (by omega) hZ0.1
  have hy6 := hy5.sto hS6 hay5
  have hI6 := hS6.il hI5 hap5
  clear hX0a hBxa hY hyok4 hzok hzok1 hzf hZ0 hY5 hD5 hy5 hI5 hS6 hIL hxL hrl hap5 hay5 ly5 ld5 hB5 hzr hyr
  generalize w5.heap.size = gz at *
  obtain ⟨⟨p0, p1, p2⟩, _⟩ := hD6.cells3
  go_wp2_with fail
  refine (hX1.out _ hI6).mono ?_
  rintro e w7 ⟨A7, n7, c7, rfl, hI7, hB7, _⟩
  have hP := Blk.made w w7 24 #[.bool X.neg, .slice A7 n7 c7, .int .i64 X.s] (hY6.call hB7).later _ rfl
  have hI7' := hI7.alloc (.cells #[.bool X.neg, .slice A7 n7 c7, .int .i64 X.s] 24)
  have hY7 := (hY6.call hB7).alloc (.cells #[.bool X.neg, .slice A7 n7 c7, .int .i64 X.s] 24)
  have hZ7 := (hZ6.call hB7).alloc (.cells #[.bool X.neg, .slice A7 n7 c7, .int .i64 X.s] 24)
  have hD7 := (hD6.call hB7).alloc (.cells #[.bool X.neg, .slice A7 n7 c7, .int .i64 X.s] 24)
  have hy7 := (hy6.later hB7).later ((Later.refl w7).alloc (.cells #[.bool X.neg, .slice A7 n7 c7, .int .i64 X.s] 24))
  have hJ7 := (hI6.below hB7).alloc (.cells #[.bool X.neg, .slice A7 n7 c7, .int .i64 X.s] 24)
  clear p0 p1 p2 hY6 hZ6 hD6 hy6 hI6 hI7 hX1
  go_upto_region 6 with fail
  generalize World.alloc w7 _ = w8 at *
  clear hB7
  generalize w7.heap.size = gp at *
  obtain ⟨⟨p0, p1, p2⟩, _⟩ := hD7.cells3
  go_wp2_with fail
  refine (hfew.out _ hJ7).mono ?_
  rintro e w9 ⟨rfl, hI9, hB9⟩
  have hQ := Blk.made w w9 24 #[.bool b1, .slice A1 m c1, .int .i64 s1] (hY7.call hB9).later _ rfl
  have hI9' := hI9.alloc (.cells #[.bool b1, .slice A1 m c1, .int .i64 s1] 24)
  have hY9 := (hY7.call hB9).alloc (.cells #[.bool b1, .slice A1 m c1, .int .i64 s1] 24)
  have hZ9 := (hZ7.call hB9).alloc (.cells #[.bool b1, .slice A1 m c1, .int .i64 s1] 24)
  have hP9 := (hP.call hB9).alloc (.cells #[.bool b1, .slice A1 m c1, .int .i64 s1] 24)
  have hy9 := (hy7.later hB9).later ((Later.refl w9).alloc (.cells #[.bool b1, .slice A1 m c1, .int .i64 s1] 24))
  have hJ9 := (hI7'.below hB9).alloc (.cells #[.bool b1, .slice A1 m c1, .int .i64 s1] 24)
  clear p0 p1 p2 hY7 hZ7 hD7 hy7 hJ7 hI9 hfew hP hI7'
  go_upto_region 7 with fail
  generalize World.alloc w9 _ = wa at *
  clear hB9
  generalize w9.heap.size = gq at *
  obtain ⟨⟨p0, p1, p2⟩, _⟩ := hQ.cells3
  have hIE : IL wa A1 m c1 E.l := by rw [hE.out]; exact hI9'
  have hEb : Hid (E.neg = b1 ∧ E.s = s1 ∧ I64 E.l) := by rw [Hid, hE.out]; exact ⟨rfl, rfl, hr⟩
  obtain ⟨may, hmay⟩ : ∃ b, mayDc E = b := ⟨_, rfl⟩
  have hml := hIE.len
  have hmc := Lib.hid (fun W (hW : IL W A1 m c1 E.l) => show Calls Try.prog 15 #[.agg #[.bool b1, .slice A1 m c1, .int .i64 s1]] W (RV W (.bool may)) by
    have := rcmay_any E.neg E.s W hW (by rw [hEb.out.2.1]; exact hs1)
    rw [show (⟨E.neg, E.l, E.s⟩ : Dc) = E from rfl, hmay, hEb.out.1, hEb.out.2.1] at this
    exact this)
  have f1 := Lib.hid (fun W (hW : IL W A7 n7 c7 X.l) => show Calls Try.prog 16 #[.agg y.cs, .agg #[.bool X.neg, .slice A7 n7 c7, .int .i64 X.s]] W (RV W (.bool (fitsC y.r.n X))) by
    have := cfits_any y X W hW (I64_of_may hX.1) (by have := hX.2.1; have := hX.2.2.1; omega) (by have := hW.len; have := hX.2.2.2; omega)
    rw [show mayDc X = true from mayDc_iff.2 ⟨hX.1, hX.2.1, by have := hX.2.2.1; omega⟩, Bool.true_and] at this
    exact this)
  have f2 := Lib.hid (fun W (hW : IL W A7 n7 c7 X.l) => show Calls Try.prog 18 #[.agg #[.int .i64 z.r.n.ic, .int .i64 z.r.n.fc, .int .i64 z.r.n.sc, .int .i64 z.r.n.mi, .int .i64 z.r.n.mf, .int .i64 z.r.n.md, .int .i64 z.r.n.hs], .agg #[.bool X.neg, .slice A7 n7 c7, .int .i64 X.s]] W (RV W (.bool (fitsC y.r.n X))) by
    have := rfits13_any z.r.n X W hW ⟨hX.1, hX.2.1, by have := hX.2.2.1; omega⟩ (by have := hW.len; have := hX.2.2.2; omega)
    rw [show fitsC z.r.n X = fitsC y.r.n X by rw [hzy.out]] at this
    exact this)
  have g1 := Lib.hid (fun W (hW : IL W A1 m c1 E.l) => show Calls Try.prog 16 #[.agg y.cs, .agg #[.bool b1, .slice A1 m c1, .int .i64 s1]] W (RV W (.bool (may && fitsC y.r.n E))) by
    have := cfits_any y E W hW hEb.out.2.2 (by rw [hEb.out.2.1]; exact hs1) (by omega)
    rw [hmay, hEb.out.1, hEb.out.2.1] at this
    exact this)
  have g2 : may = true → Hid (∀ W, IL W A1 m c1 E.l → Calls Try.prog 18 #[.agg #[.int .i64 z.r.n.ic, .int .i64 z.r.n.fc, .int .i64 z.r.n.sc, .int .i64 z.r.n.mi, .int .i64 z.r.n.mf, .int .i64 z.r.n.md, .int .i64 z.r.n.hs], .agg #[.bool b1, .slice A1 m c1, .int .i64 s1]] W (RV W (.bool (fitsC y.r.n E)))) := fun hh W hW => by
    rw [hh] at hmay
    obtain ⟨q1, q2, q3⟩ := mayDc_iff.1 hmay
    have := rfits13_any z.r.n E W hW ⟨q1, q2, by omega⟩ (by omega)
    rw [show fitsC z.r.n E = fitsC y.r.n E by rw [hzy.out], hEb.out.1, hEb.out.2.1] at this
    exact this
  have self : ∀ {D : Dc} {A : Option Addr} {n c : Nat}, mayDc D = true ∧ trimDc D = D ∧ fitsC y.r.n D = true → D.l.length ≤ 2000 → ∀ W, IL W A n c D.l → Calls Try.prog 16 #[.agg y.cs, .agg #[.bool D.neg, .slice A n c, .int .i64 D.s]] W (RV W (.bool true)) := fun {D A n c} h hl W hW => by
    have := cfits_any y D W hW (may_bd h.1).1 (may_bd h.1).2 (by have := hW.len; omega)
    rw [h.1, h.2.2] at this
    exact this
  have s1' := Lib.hid (self (A := y.A1) (n := y.n1) (c := y.c1) hru.lo hruB.lo.2)
  have s2' := Lib.hid (self (A := y.A2) (n := y.n2) (c := y.c2) hru.hi hruB.hi.2)
  have s3' := Lib.hid (self (A := y.A3) (n := y.n3) (c := y.c3) hru.st hruB.st.2)
  clear self hru hruB hmay hEb hX
  generalize fitsC y.r.n X = fx at *
  generalize fitsC y.r.n E = fe at *
  go_wp2_with fail
  refine (hmc.out _ hIE).mono ?_
  rintro e wb ⟨rfl, hBb⟩
  have hYb := hY9.call hBb
  have hZb := hZ9.call hBb
  have hPb := hP9.call hBb
  have hQb := hQ.call hBb
  obtain ⟨yb1, yb2, yb3⟩ := hy9.later hBb
  have hJb := hJ9.below hBb
  have hIb := hIE.below hBb
  clear p0 p1 p2 hY9 hZ9 hP9 hQ hy9 hJ9 hIE hI9' hmc hBb
  go_upto_region 8 with fail
  cases may <;> cases fx <;> cases fe
  all_goals
    try have g2 := g2 rfl
    simp only [Bool.true_and, Bool.false_and] at g1
    refine wp_region_ext (by kernel_rfl) (by kernel_rfl) ?_
    repeat (first
      | (go_big_quiet_want; refine quiet_load_blk hYb row_rules rfl rfl rfl ?_; go_simp; go_big_quiet_on)
      | (go_big_quiet_want; refine quiet_load_blk hPb row_dec6 rfl rfl rfl ?_; go_simp; go_big_quiet_on)
      | (go_big_quiet_want; refine quiet_load_blk hQb row_dec6 rfl rfl rfl ?_; go_simp; go_big_quiet_on)
      | (go_big_quiet_want; refine quiet_load_of hZb 10 [.int .i64 z.r.n.ic, .int .i64 z.r.n.fc, .int .i64 z.r.n.sc, .int .i64 z.r.n.mi, .int .i64 z.r.n.mf, .int .i64 z.r.n.md, .int .i64 z.r.n.hs] rfl row_limits13 rfl rfl rfl ?_; go_simp; go_big_quiet_on)
      | (go_big_quiet_want; refine quiet_load_of hYb 0 [.bool y.r.lo.neg, .slice y.A1 y.n1 y.c1, .int .i64 y.r.lo.s] rfl row_dec rfl rfl rfl ?_; go_simp; go_big_quiet_on)
      | (go_big_quiet_want; refine quiet_load_of hYb 3 [.bool y.r.hi.neg, .slice y.A2 y.n2 y.c2, .int .i64 y.r.hi.s] rfl row_dec rfl rfl rfl ?_; go_simp; go_big_quiet_on)
      | (go_big_quiet_want; refine quiet_load_of hYb 6 [.bool y.r.st.neg, .slice y.A3 y.n3 y.c3, .int .i64 y.r.st.s] rfl row_dec rfl rfl rfl ?_; go_simp; go_big_quiet_on)
      | (go_big_quiet_step (first
        | (go_at_call 17; exact quiet_ext _ (dec13_any _ _ _ _ _ _))
        | (go_at_call 16; first
          | with_reducible exact quiet_ext _ (f1.out _ (hJb.ext _))
          | with_reducible exact quiet_ext _ (g1.out _ (hIb.ext _))
          | with_reducible exact quiet_ext _ (s1'.out _ (yb1.ext _))
          | with_reducible exact quiet_ext _ (s2'.out _ (yb2.ext _))
          | with_reducible exact quiet_ext _ (s3'.out _ (yb3.ext _)))
        | (go_at_call 18; first
          | with_reducible exact quiet_ext _ (f2.out _ (hJb.ext _))
          | with_reducible exact quiet_ext _ (g2.out _ (hIb.ext _)))
        | (go_at_call 19; exact quiet_ext _ (lives13_any _)))))
    refine wpQuiet_nil ?_
    rintro _ ⟨s, rfl⟩
    go_wp2_with fail
    go_ret
    exact ⟨rfl, hYb.later.call s.h⟩

end Go.Proofs.Ytickhmlhciafgaa

