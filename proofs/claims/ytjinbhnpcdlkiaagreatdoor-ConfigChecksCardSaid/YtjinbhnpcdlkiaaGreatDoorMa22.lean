/- From the reading of what a configuration is made of to what the walks ask of it. No condition. -/
import Derived.Test.YtjinbhnpcdlkiaaGreatDoorMa19
import Derived.Test.YtjinbhnpcdlkiaaGreatDoorMa20
import Derived.Test.YtjinbhnpcdlkiaaGreatDoorMa10
import Derived.Test.YtjinbhnpcdlkiaaGreatDoorMa21
import Derived.Test.YtjinbhnpcdlkiaaGreatDoorMa03
namespace Go.Proofs.YtjinbhnpcdlkiaaGreatDoor
open Go.RowKit

/-- What a configuration is made of, as a value. -/
structure GV where
  g : Gv
  A1 : Option Addr
  n1 : Nat
  c1 : Nat
  ls : Int
  A2 : Option Addr
  n2 : Nat
  c2 : Nat
  hs : Int
  A3 : Option Addr
  n3 : Nat
  c3 : Nat
def GV.cs (x : GV) : Array Value := #[.bool x.g.lb, .slice x.A1 x.n1 x.c1, .int .i64 x.ls, .bool x.g.hb, .slice x.A2 x.n2 x.c2, .int .i64 x.hs, .slice x.A3 x.n3 x.c3, .bool x.g.sm, .int .i64 x.g.n.ic, .int .i64 x.g.n.fc, .int .i64 x.g.n.sc, .int .i64 x.g.n.mi, .int .i64 x.g.n.mf, .int .i64 x.g.n.md, .int .i64 x.g.n.hs]
def I6g (x : Int) : Prop := -9223372036854775808 ≤ x ∧ x ≤ 9223372036854775807
structure GV.ok (x : GV) (W : World) : Prop where
  l : IL W x.A1 x.n1 x.c1 x.g.ll
  h : IL W x.A2 x.n2 x.c2 x.g.hl
  s : IL W x.A3 x.n3 x.c3 x.g.st
structure GV.Bd (x : GV) : Prop where
  l : I64 x.g.ll
  h : I64 x.g.hl
  s : I64 x.g.st
  ls : I6g x.ls
  hs : I6g x.hs
  ic : I6g x.g.n.ic
  fc : I6g x.g.n.fc
  sc : I6g x.g.n.sc
  mi : I6g x.g.n.mi
  mf : I6g x.g.n.mf
  md : I6g x.g.n.md
  hi : I6g x.g.n.hs
theorem GV.ok.later {x : GV} {W W' : World} (h : x.ok W) (hb : Later W W') : x.ok W' := ⟨h.l.later hb, h.h.later hb, h.s.later hb⟩
/-- What is made, as a value. -/
def Cm.cs (c : Cm) : Array Value := #[.string c.m, .string c.x, .string c.s, .int .i64 c.n.ic, .int .i64 c.n.fc, .int .i64 c.n.sc, .int .i64 c.n.mi, .int .i64 c.n.mf, .int .i64 c.n.md, .int .i64 c.n.hs]
theorem row_conf13 : RowT Tryz.prog 25 10 := ⟨by kernel_rfl, by kernel_rfl⟩
theorem row_made13 : RowT Tryz.prog 30 15 := ⟨by kernel_rfl, by kernel_rfl⟩
theorem built_limits13 (a b c d : Int) : Tryz.prog.built 23 [(0, .int .i64 a), (1, .int .i64 b), (5, .int .i64 c), (6, .int .i64 d)] = some #[.int .i64 a, .int .i64 b, .int .i64 0, .int .i64 0, .int .i64 0, .int .i64 c, .int .i64 d] := by kernel_rfl
theorem built_conf13 (c : Cm) : Tryz.prog.built 25 [(0, .string c.m), (1, .string c.x), (2, .string c.s), (3, .agg #[.int .i64 c.n.ic, .int .i64 c.n.fc, .int .i64 c.n.sc, .int .i64 c.n.mi, .int .i64 c.n.mf, .int .i64 c.n.md, .int .i64 c.n.hs])] = some c.cs := by kernel_rfl
theorem boundsG_bd (g : Gv) : ((boundsG g).1.s = (goodN g.n).sc ∧ ((boundsG g).1.l.length : Int) ≤ (goodN g.n).ic + (goodN g.n).sc) ∧ ((boundsG g).2.s = (goodN g.n).sc ∧ ((boundsG g).2.l.length : Int) ≤ (goodN g.n).ic + (goodN g.n).sc) := by
  have hn := goodN_bd g.n
  have h1 : ((lowG g).l.length : Int) ≤ (goodN g.n).ic + (goodN g.n).sc := by simp only [lowG]; rw [goodL_len]; omega
  have h2 : ((highG g).l.length : Int) ≤ (goodN g.n).ic + (goodN g.n).sc := by simp only [highG]; rw [goodL_len]; omega
  unfold boundsG
  split
  · exact ⟨⟨rfl, h2⟩, ⟨rfl, h1⟩⟩
  · exact ⟨⟨rfl, h1⟩, ⟨rfl, h2⟩⟩
theorem around_still {n m v : Int} (W : World) (hn : I6g n) (hm : 1 ≤ m ∧ m ≤ 100000) (hv : around n m = v) :
    Calls Tryz.prog 7 #[.int .i64 n, .int .i64 m] W (fun e w' => e = .returned (.int .i64 v) ∧ w' = W) := by
  rw [← hv]
  exact (around_any n m W hn.1 hn.2 hm.1 hm.2).mono fun e w' h => ⟨h.1, h.2.symm⟩
set_option maxRecDepth 100000 in
set_option maxHeartbeats 8000000 in
theorem rgood13_any (x : GV) (w : World) (hx : x.ok w) (hb : x.Bd) : Calls Tryz.prog 5 #[.agg x.cs] w (RV w (.agg (goodG x.g).cs)) := by
  obtain ⟨a1, ea1, la1, ua1⟩ : ∃ v, Hid (around x.g.n.ic 8 = v) ∧ 0 ≤ v ∧ v < 8 := ⟨_, rfl, (around_bd _ _ (by omega)).1, (around_bd _ _ (by omega)).2⟩
  obtain ⟨a2, ea2, la2, ua2⟩ : ∃ v, Hid (around x.g.n.fc 6 = v) ∧ 0 ≤ v ∧ v < 6 := ⟨_, rfl, (around_bd _ _ (by omega)).1, (around_bd _ _ (by omega)).2⟩
  obtain ⟨a3, ea3, la3, ua3⟩ : ∃ v, Hid (around x.g.n.sc (a2 + 1) = v) ∧ 0 ≤ v ∧ v < (a2 + 1) := ⟨_, rfl, (around_bd _ _ (by omega)).1, (around_bd _ _ (by omega)).2⟩
  obtain ⟨a4, ea4, la4, ua4⟩ : ∃ v, Hid (around x.g.n.mi (1 + a1 + 1) = v) ∧ 0 ≤ v ∧ v < (1 + a1 + 1) := ⟨_, rfl, (around_bd _ _ (by omega)).1, (around_bd _ _ (by omega)).2⟩
  obtain ⟨a5, ea5, la5, ua5⟩ : ∃ v, Hid (around x.g.n.mf (a3 + 1) = v) ∧ 0 ≤ v ∧ v < (a3 + 1) := ⟨_, rfl, (around_bd _ _ (by omega)).1, (around_bd _ _ (by omega)).2⟩
  obtain ⟨a6, ea6, la6, ua6⟩ : ∃ v, Hid (around x.g.n.md 7 = v) ∧ 0 ≤ v ∧ v < 7 := ⟨_, rfl, (around_bd _ _ (by omega)).1, (around_bd _ _ (by omega)).2⟩
  obtain ⟨a7, ea7, la7, ua7⟩ : ∃ v, Hid (around x.g.n.hs 6 = v) ∧ 0 ≤ v ∧ v < 6 := ⟨_, rfl, (around_bd _ _ (by omega)).1, (around_bd _ _ (by omega)).2⟩
  have ra1 := Lib.hid (fun W => around_still (m := 8) (v := a1) W hb.ic (by omega) ea1.out)
  have ra2 := Lib.hid (fun W => around_still (m := 6) (v := a2) W hb.fc (by omega) ea2.out)
  have ra3 := Lib.hid (fun W => around_still (m := (a2 + 1)) (v := a3) W hb.sc (by omega) ea3.out)
  have ra4 := Lib.hid (fun W => around_still (m := (1 + a1 + 1)) (v := a4) W hb.mi (by omega) ea4.out)
  have ra5 := Lib.hid (fun W => around_still (m := (a3 + 1)) (v := a5) W hb.mf (by omega) ea5.out)
  have ra6 := Lib.hid (fun W => around_still (m := 7) (v := a6) W hb.md (by omega) ea6.out)
  have ra7 := Lib.hid (fun W => around_still (m := 6) (v := a7) W hb.hi (by omega) ea7.out)
  have hN : Hid (goodN x.g.n = ⟨1 + a1, a2, a3, a4, a5, a6, 1 + a7⟩) := by
    rw [Hid]; unfold goodN; rw [ea1.out, ea2.out, ea3.out, ea4.out, ea5.out, ea6.out, ea7.out]
  clear ea1 ea2 ea3 ea4 ea5 ea6 ea7
  have w0r : IntKind.i64.wrap (1 + a1) = 1 + a1 := IntWalk.i64_in _ (by omega)
  have w1r : IntKind.i64.wrap (1 + a7) = 1 + a7 := IntWalk.i64_in _ (by omega)
  have w2r : IntKind.i64.wrap (a2 + 1) = a2 + 1 := IntWalk.i64_in _ (by omega)
  have w3r : IntKind.i64.wrap (1 + a1 + 1) = 1 + a1 + 1 := IntWalk.i64_in _ (by omega)
  have w4r : IntKind.i64.wrap (a3 + 1) = a3 + 1 := IntWalk.i64_in _ (by omega)
  have w5r : IntKind.i64.wrap (1 + a1 + a3) = 1 + a1 + a3 := IntWalk.i64_in _ (by omega)
  have hX0 := (Blk.made w w 30 x.cs (Later.refl w) _ rfl).alloc (.cells #[.string { data := #[] }, .string { data := #[] }, .string { data := #[] }, .int .i64 0, .int .i64 0, .int .i64 0, .int .i64 0, .int .i64 0, .int .i64 0, .int .i64 0] 25)
  have hR0 := (Blk.made w (w.alloc (.cells x.cs 30)) 25 #[.string { data := #[] }, .string { data := #[] }, .string { data := #[] }, .int .i64 0, .int .i64 0, .int .i64 0, .int .i64 0, .int .i64 0, .int .i64 0, .int .i64 0] ((Later.refl w).alloc _) (w.heap.size + 1) (by simp))
  go_enter Tryz.func5, Tryz.ntmps5
  go_upto_region 1 with fail
  generalize World.alloc (World.alloc w _) _ = w0 at *
  go_cut [3] (fun v W => ∃ g3, v = .pointer (some ⟨g3, 0, none⟩) ∧ w.heap.size + 1 < g3 ∧ Blk w w.heap.size 30 x.cs W ∧ Blk w (w.heap.size + 1) 25 #[.string { data := #[] }, .string { data := #[] }, .string { data := #[] }, .int .i64 0, .int .i64 0, .int .i64 0, .int .i64 0, .int .i64 0, .int .i64 0, .int .i64 0] W ∧ Blk w g3 23 #[.int .i64 (1 + a1), .int .i64 a2, .int .i64 0, .int .i64 0, .int .i64 0, .int .i64 a6, .int .i64 (1 + a7)] W)
  case first =>
    have HS : Hid (∀ W, Later w0 W → ((W.cell? ⟨w.heap.size, 8, none⟩ = some (.int .i64 x.g.n.ic) ∧ W.cell? ⟨w.heap.size, 9, none⟩ = some (.int .i64 x.g.n.fc) ∧ W.cell? ⟨w.heap.size, 13, none⟩ = some (.int .i64 x.g.n.md) ∧ W.cell? ⟨w.heap.size, 14, none⟩ = some (.int .i64 x.g.n.hs)) ∧ Later w0 W)) := fun W hL => ⟨⟨(hX0.call hL).cell 8, (hX0.call hL).cell 9, (hX0.call hL).cell 13, (hX0.call hL).cell 14⟩, hL⟩
    go_region_held3 (fun W => (W.cell? ⟨w.heap.size, 8, none⟩ = some (.int .i64 x.g.n.ic) ∧ W.cell? ⟨w.heap.size, 9, none⟩ = some (.int .i64 x.g.n.fc) ∧ W.cell? ⟨w.heap.size, 13, none⟩ = some (.int .i64 x.g.n.md) ∧ W.cell? ⟨w.heap.size, 14, none⟩ = some (.int .i64 x.g.n.hs)) ∧ Later w0 W)
      ((refine HS.out _ ?_; repeat (first | exact And.right (by assumption) | exact Later.refl _ | refine Later.drew ?_ | refine Later.alloc ?_ _ | refine Later.setCell ?_ (by simp) _)))
      (first
        | (go_at_call 7; with_reducible refine (ra1.out _).mono ?_; rintro e wq ⟨rfl, rfl⟩)
        | (go_at_call 7; with_reducible refine (ra2.out _).mono ?_; rintro e wq ⟨rfl, rfl⟩)
        | (go_at_call 7; with_reducible refine (ra6.out _).mono ?_; rintro e wq ⟨rfl, rfl⟩)
        | (go_at_call 7; refine (ra7.out _).mono ?_; rintro e wq ⟨rfl, rfl⟩))
    all_goals
      clear HS
      go_wp2_with fail
      go_meet
      exact ⟨_, rfl, hR0.lt, (hX0.alloc _).drew, (hR0.alloc _).drew, (Blk.made w w0 _ _ hR0.later _ rfl).drew⟩
  case rest =>
  obtain ⟨g3, rfl, hg3, hX, hR, hNn⟩ := hcut
  clear hX0 hR0 ra1 ra2 ra6 ra7
  have b10 : wc.cell? ⟨w.heap.size, 10, none⟩ = some (.int .i64 x.g.n.sc) := hX.cell 10
  have n1 : wc.cell? ⟨g3, 1, none⟩ = some (.int .i64 a2) := hNn.cell 1
  have n2 : wc.cell? ⟨g3, 2, none⟩ = some (.int .i64 0) := hNn.cell 2
  have f0 := hNn.free 2
  go_wp2_with fail
  refine (ra3.out _).mono ?_
  rintro e wq0 ⟨rfl, rfl⟩
  go_upto_region 3 with fail
  have hS := Sto.set wq0 ⟨g3, 2, none⟩ (.int .i64 a3)
  have hN1 : Blk w g3 23 #[.int .i64 (1 + a1), .int .i64 a2, .int .i64 a3, .int .i64 0, .int .i64 0, .int .i64 a6, .int .i64 (1 + a7)] (wq0.setCell ⟨g3, 2, none⟩ (.int .i64 a3)) := hNn.set_ 2 (.int .i64 a3)
  have hX1 := hS.far hX (by show w.heap.size ≠ g3; omega) hNn.1
  have hR1 := hS.far hR (by show w.heap.size + 1 ≠ g3; omega) hNn.1
  clear hS f0 b10 n1 n2 hNn hX hR ra3
  generalize World.setCell wq0 _ _ = v1 at *
  have b11 : v1.cell? ⟨w.heap.size, 11, none⟩ = some (.int .i64 x.g.n.mi) := hX1.cell 11
  have n0 : v1.cell? ⟨g3, 0, none⟩ = some (.int .i64 (1 + a1)) := hN1.cell 0
  have n3 : v1.cell? ⟨g3, 3, none⟩ = some (.int .i64 0) := hN1.cell 3
  have f0 := hN1.free 3
  go_wp2_with fail
  refine (ra4.out _).mono ?_
  rintro e wq1 ⟨rfl, rfl⟩
  go_upto_region 4 with fail
  have hS := Sto.set wq1 ⟨g3, 3, none⟩ (.int .i64 a4)
  have hN2 : Blk w g3 23 #[.int .i64 (1 + a1), .int .i64 a2, .int .i64 a3, .int .i64 a4, .int .i64 0, .int .i64 a6, .int .i64 (1 + a7)] (wq1.setCell ⟨g3, 3, none⟩ (.int .i64 a4)) := hN1.set_ 3 (.int .i64 a4)
  have hX2 := hS.far hX1 (by show w.heap.size ≠ g3; omega) hN1.1
  have hR2 := hS.far hR1 (by show w.heap.size + 1 ≠ g3; omega) hN1.1
  clear hS f0 b11 n0 n3 hN1 hX1 hR1 ra4
  generalize World.setCell wq1 _ _ = v2 at *
  have b12 : v2.cell? ⟨w.heap.size, 12, none⟩ = some (.int .i64 x.g.n.mf) := hX2.cell 12
  have n2 : v2.cell? ⟨g3, 2, none⟩ = some (.int .i64 a3) := hN2.cell 2
  have n4 : v2.cell? ⟨g3, 4, none⟩ = some (.int .i64 0) := hN2.cell 4
  have f0 := hN2.free 4
  go_wp2_with fail
  refine (ra5.out _).mono ?_
  rintro e wq2 ⟨rfl, rfl⟩
  go_upto_region 5 with fail
  have hS := Sto.set wq2 ⟨g3, 4, none⟩ (.int .i64 a5)
  have hN3 : Blk w g3 23 #[.int .i64 (1 + a1), .int .i64 a2, .int .i64 a3, .int .i64 a4, .int .i64 a5, .int .i64 a6, .int .i64 (1 + a7)] (wq2.setCell ⟨g3, 4, none⟩ (.int .i64 a5)) := hN2.set_ 4 (.int .i64 a5)
  have hX3 := hS.far hX2 (by show w.heap.size ≠ g3; omega) hN2.1
  have hR3 := hS.far hR2 (by show w.heap.size + 1 ≠ g3; omega) hN2.1
  clear hS f0 b12 n2 n4 hN2 hX2 hR2 ra5
  generalize World.setCell wq2 _ _ = v3 at *
  have hgl := Lib.hid (fun W (hW : IL W x.A1 x.n1 x.c1 x.g.ll) => show Calls Tryz.prog 16 #[.agg #[.bool x.g.lb, .slice x.A1 x.n1 x.c1, .int .i64 x.ls], .int .i64 (1 + a1 + a3)] W (RC W ⟨x.g.lb, goodL x.g.ll (1 + a1 + a3).toNat, around x.ls 10⟩) by
    have := cgood_any x.g.lb x.ls (1 + a1 + a3).toNat W hW hb.l hb.ls (by omega)
    rw [Int.toNat_of_nonneg (by omega)] at this
    exact this)
  have hgh := Lib.hid (fun W (hW : IL W x.A2 x.n2 x.c2 x.g.hl) => show Calls Tryz.prog 16 #[.agg #[.bool x.g.hb, .slice x.A2 x.n2 x.c2, .int .i64 x.hs], .int .i64 (1 + a1 + a3)] W (RC W ⟨x.g.hb, goodL x.g.hl (1 + a1 + a3).toNat, around x.hs 10⟩) by
    have := cgood_any x.g.hb x.hs (1 + a1 + a3).toNat W hW hb.h hb.hs (by omega)
    rw [Int.toNat_of_nonneg (by omega)] at this
    exact this)
  obtain ⟨s1, hs1⟩ : ∃ v, around x.ls 10 = v := ⟨_, rfl⟩
  obtain ⟨s2, hs2⟩ : ∃ v, around x.hs 10 = v := ⟨_, rfl⟩
  rw [hs1] at hgl; rw [hs2] at hgh; clear hs1 hs2
  obtain ⟨L1, hL1⟩ : ∃ v, Hid (goodL x.g.ll (1 + a1 + a3).toNat = v ∧ mayL v = true ∧ (v.length : Int) ≤ 1 + a1 + a3) := ⟨_, rfl, mayL_good _ _, by rw [goodL_len]; omega⟩
  obtain ⟨L2, hL2⟩ : ∃ v, Hid (goodL x.g.hl (1 + a1 + a3).toNat = v ∧ mayL v = true ∧ (v.length : Int) ≤ 1 + a1 + a3) := ⟨_, rfl, mayL_good _ _, by rw [goodL_len]; omega⟩
  rw [hL1.out.1] at hgl; rw [hL2.out.1] at hgh
  have b0 : v3.cell? ⟨w.heap.size, 0, none⟩ = some (.bool x.g.lb) := hX3.cell 0
  have b1 : v3.cell? ⟨w.heap.size, 1, none⟩ = some (.slice x.A1 x.n1 x.c1) := hX3.cell 1
  have b2 : v3.cell? ⟨w.heap.size, 2, none⟩ = some (.int .i64 x.ls) := hX3.cell 2
  have n0 : v3.cell? ⟨g3, 0, none⟩ = some (.int .i64 (1 + a1)) := hN3.cell 0
  have n2 : v3.cell? ⟨g3, 2, none⟩ = some (.int .i64 a3) := hN3.cell 2
  go_wp2_with fail
  refine (hgl.out _ ((hx.later hX3.later).l)).mono ?_
  rintro e vl ⟨Al, nl, cl, rfl, hIl, hBl, hZl⟩
  have hZl' : 0 < nl → ∀ a, Al = some a → g3 < a.block := fun hz a ha => by have := hZl hz a ha; have := hN3.lt; omega
  have hg3l : g3 < vl.heap.size := by have := hN3.lt; have := hBl.size; omega
  have hDl := Blk.made w vl 28 #[.bool x.g.lb, .slice Al nl cl, .int .i64 s1] (hN3.call hBl).later _ rfl
  have hN3l := (hN3.call hBl).alloc (.cells #[.bool x.g.lb, .slice Al nl cl, .int .i64 s1] 28)
  have hX3l := (hX3.call hBl).alloc (.cells #[.bool x.g.lb, .slice Al nl cl, .int .i64 s1] 28)
  have hR3l := (hR3.call hBl).alloc (.cells #[.bool x.g.lb, .slice Al nl cl, .int .i64 s1] 28)
  have hIl' := hIl.alloc (.cells #[.bool x.g.lb, .slice Al nl cl, .int .i64 s1] 28)
  have hapl : 0 < nl → ∀ a, Al = some a → a.block ≠ vl.heap.size := hIl.apart (Nat.le_refl _)
  clear b0 b1 b2 n0 n2 hN3 hX3 hR3 hgl hIl hZl hBl
  go_upto_region 6 with fail
  generalize World.alloc vl _ = vla at *
  have b3 : vla.cell? ⟨w.heap.size, 3, none⟩ = some (.bool x.g.hb) := hX3l.cell 3
  have b4 : vla.cell? ⟨w.heap.size, 4, none⟩ = some (.slice x.A2 x.n2 x.c2) := hX3l.cell 4
  have b5 : vla.cell? ⟨w.heap.size, 5, none⟩ = some (.int .i64 x.hs) := hX3l.cell 5
  have n0 : vla.cell? ⟨g3, 0, none⟩ = some (.int .i64 (1 + a1)) := hN3l.cell 0
  have n2 : vla.cell? ⟨g3, 2, none⟩ = some (.int .i64 a3) := hN3l.cell 2
  go_wp2_with fail
  refine (hgh.out _ ((hx.later hX3l.later).h)).mono ?_
  rintro e vh ⟨Ah, nh, ch, rfl, hIh, hBh, hZh⟩
  have hZh' : 0 < nh → ∀ a, Ah = some a → g3 < a.block := fun hz a ha => by have := hZh hz a ha; have := hN3l.lt; omega
  have hDh := Blk.made w vh 28 #[.bool x.g.hb, .slice Ah nh ch, .int .i64 s2] (hN3l.call hBh).later _ rfl
  have hDl2 := (hDl.call hBh).alloc (.cells #[.bool x.g.hb, .slice Ah nh ch, .int .i64 s2] 28)
  have hIl2 := (hIl'.below hBh).alloc (.cells #[.bool x.g.hb, .slice Ah nh ch, .int .i64 s2] 28)
  have hltl := hDl.lt
  have hltl2 := hBh.size
  have hN3lh := (hN3l.call hBh).alloc (.cells #[.bool x.g.hb, .slice Ah nh ch, .int .i64 s2] 28)
  have hX3lh := (hX3l.call hBh).alloc (.cells #[.bool x.g.hb, .slice Ah nh ch, .int .i64 s2] 28)
  have hR3lh := (hR3l.call hBh).alloc (.cells #[.bool x.g.hb, .slice Ah nh ch, .int .i64 s2] 28)
  have hIh' := hIh.alloc (.cells #[.bool x.g.hb, .slice Ah nh ch, .int .i64 s2] 28)
  have hnl : vl.heap.size ≠ vh.heap.size := by omega
  have haph : 0 < nh → ∀ a, Ah = some a → a.block ≠ vh.heap.size := hIh.apart (Nat.le_refl _)
  have hapl2 : 0 < nl → ∀ a, Al = some a → a.block ≠ vh.heap.size := (hIl'.below hBh).apart (Nat.le_refl _)
  have haph2 : 0 < nh → ∀ a, Ah = some a → a.block ≠ vl.heap.size := fun hz a ha => by have := hZh hz a ha; omega
  clear b3 b4 b5 n0 n2 hN3l hX3l hR3l hgh hIh hZh hBh hDl hIl'
  go_upto_region 7 with fail
  generalize World.alloc vh _ = vha at *
  have h45 : vl.heap.size < vh.heap.size := by omega
  have h34 : g3 < vl.heap.size := hg3l
  clear hltl hltl2 hnl hg3l
  generalize vl.heap.size = g4 at *
  generalize vh.heap.size = g5 at *
  have hlow : Hid (lowG x.g = ⟨x.g.lb, L1, a3⟩) := by rw [Hid, lowG, hN.out]; simp only; rw [hL1.out.1]
  have hhigh : Hid (highG x.g = ⟨x.g.hb, L2, a3⟩) := by rw [Hid, highG, hN.out]; simp only; rw [hL2.out.1]
  have hcm := Lib.hid (fun W (h1 : IL W Al nl cl L1) (h2 : IL W Ah nh ch L2) => show Calls Tryz.prog 17 #[.agg #[.bool x.g.lb, .slice Al nl cl, .int .i64 a3], .agg #[.bool x.g.hb, .slice Ah nh ch, .int .i64 a3]] W (RV W (.int .i64 (cmpDc ⟨x.g.lb, L1, a3⟩ ⟨x.g.hb, L2, a3⟩))) from
    rccompare_any _ _ _ _ W h1 h2 hL1.out.2.1 hL2.out.2.1 (by have := h1.len; have := hL1.out.2.2; omega) (by have := h2.len; have := hL2.out.2.2; omega) (by omega) (by omega) (by omega) (by omega))
  have hB0 : Hid (boundsG x.g = if 0 < cmpDc ⟨x.g.lb, L1, a3⟩ ⟨x.g.hb, L2, a3⟩ then (⟨x.g.hb, L2, a3⟩, ⟨x.g.lb, L1, a3⟩) else (⟨x.g.lb, L1, a3⟩, ⟨x.g.hb, L2, a3⟩)) := by rw [Hid, boundsG, hlow.out, hhigh.out]
  generalize cmpDc ⟨x.g.lb, L1, a3⟩ ⟨x.g.hb, L2, a3⟩ = cm at *
  have n2 : vha.cell? ⟨g3, 2, none⟩ = some (.int .i64 a3) := hN3lh.cell 2
  have q2 : vha.cell? ⟨g4, 2, none⟩ = some (.int .i64 s1) := hDl2.cell 2
  have f2 := hDl2.free 2
  go_upto_region 8 with fail
  have hS := Sto.set vha ⟨g4, 2, none⟩ (.int .i64 a3)
  have hDl7 : Blk w g4 28 #[.bool x.g.lb, .slice Al nl cl, .int .i64 a3] (vha.setCell ⟨g4, 2, none⟩ (.int .i64 a3)) := hDl2.set_ 2 (.int .i64 a3)
  have hDh7 := hS.far hDh (by show g5 ≠ g4; omega) hDl2.1
  have hN7 := hS.far hN3lh (by show g3 ≠ g4; omega) hDl2.1
  have hX7 := hS.far hX3lh (by show w.heap.size ≠ g4; omega) hDl2.1
  have hR7 := hS.far hR3lh (by show w.heap.size + 1 ≠ g4; omega) hDl2.1
  have hIl7 := hS.il hIl2 hapl
  have hIh7 := hS.il hIh' haph2
  clear hS q2 f2 n2 hDl2 hDh hN3lh hX3lh hR3lh hIl2 hIh'
  generalize World.setCell vha _ _ = v7 at *
  have n2 : v7.cell? ⟨g3, 2, none⟩ = some (.int .i64 a3) := hN7.cell 2
  have q2 : v7.cell? ⟨g5, 2, none⟩ = some (.int .i64 s2) := hDh7.cell 2
  have f2 := hDh7.free 2
  go_upto_region 9 with fail
  have hS := Sto.set v7 ⟨g5, 2, none⟩ (.int .i64 a3)
  have hDh8 : Blk w g5 28 #[.bool x.g.hb, .slice Ah nh ch, .int .i64 a3] (v7.setCell ⟨g5, 2, none⟩ (.int .i64 a3)) := hDh7.set_ 2 (.int .i64 a3)
  have hDl8 := hS.far hDl7 (by show g4 ≠ g5; omega) hDh7.1
  have hN8 := hS.far hN7 (by show g3 ≠ g5; omega) hDh7.1
  have hX8 := hS.far hX7 (by show w.heap.size ≠ g5; omega) hDh7.1
  have hR8 := hS.far hR7 (by show w.heap.size + 1 ≠ g5; omega) hDh7.1
  have hIl8 := hS.il hIl7 hapl2
  have hIh8 := hS.il hIh7 haph
  clear hS q2 f2 n2 hDh7 hDl7 hN7 hX7 hR7 hIl7 hIh7
  generalize World.setCell v7 _ _ = v8 at *
  obtain ⟨⟨p0, p1, p2⟩, ⟨p3, p4, p5⟩⟩ := hDl8.cells3
  obtain ⟨⟨q0, q1, q2⟩, ⟨q3, q4, q5⟩⟩ := hDh8.cells3
  go_wp2_with fail
  refine (hcm.out _ hIl8 hIh8).mono ?_
  rintro e v9 ⟨rfl, hB9⟩
  have hDl9 := hDl8.call hB9
  have hDh9 := hDh8.call hB9
  have hN9 := hN8.call hB9
  have hX9 := hX8.call hB9
  have hR9 := hR8.call hB9
  have hIl9 := hIl8.below hB9
  have hIh9 := hIh8.below hB9
  clear p0 p1 p2 p3 p4 p5 q0 q1 q2 q3 q4 q5 hDl8 hDh8 hN8 hX8 hR8 hIl8 hIh8 hB9 hcm
  go_upto_if 75 with fail
  go_cut [76] (fun _ W => ∃ (A4 : Option Addr) (n4 c4 : Nat) (A5 : Option Addr) (n5 c5 : Nat) (P Q : Dc), Hid (boundsG x.g = (P, Q)) ∧ Blk w g4 28 #[.bool P.neg, .slice A4 n4 c4, .int .i64 a3] W ∧ Blk w g5 28 #[.bool Q.neg, .slice A5 n5 c5, .int .i64 a3] W ∧ IL W A4 n4 c4 P.l ∧ IL W A5 n5 c5 Q.l ∧ Blk w w.heap.size 30 x.cs W ∧ Blk w (w.heap.size + 1) 25 #[.string { data := #[] }, .string { data := #[] }, .string { data := #[] }, .int .i64 0, .int .i64 0, .int .i64 0, .int .i64 0, .int .i64 0, .int .i64 0, .int .i64 0] W ∧ Blk w g3 23 #[.int .i64 (1 + a1), .int .i64 a2, .int .i64 a3, .int .i64 a4, .int .i64 a5, .int .i64 a6, .int .i64 (1 + a7)] W)
  case first =>
    by_cases hc : 0 < cm
    · obtain ⟨⟨p0, p1, p2⟩, ⟨p3, p4, p5⟩⟩ := hDl9.cells3
      obtain ⟨⟨q0, q1, q2⟩, ⟨q3, q4, q5⟩⟩ := hDh9.cells3
      rw [if_pos hc] at hB0
      go_wp2_with fail
      go_meet
      have hS1 := ((Sto.set v9 ⟨g4, 0, none⟩ (.bool x.g.hb)).trans (Sto.set _ ⟨g4, 1, none⟩ (.slice Ah nh ch))).trans (Sto.set _ ⟨g4, 2, none⟩ (.int .i64 a3))
      have hS2 := fun W => ((Sto.set W ⟨g5, 0, none⟩ (.bool x.g.lb)).trans (Sto.set _ ⟨g5, 1, none⟩ (.slice Al nl cl))).trans (Sto.set _ ⟨g5, 2, none⟩ (.int .i64 a3))
      have far := fun {g t cs} (h : Blk w g t cs v9) (n1 : g ≠ g4) (n2 : g ≠ g5) => (hS2 _).far (hS1.far h n1 hDl9.1) n2 hDh9.1
      exact ⟨Ah, nh, ch, Al, nl, cl, ⟨x.g.hb, L2, a3⟩, ⟨x.g.lb, L1, a3⟩, hB0, (hS2 _).far (hDl9.store3 _ _ _) (by show g4 ≠ g5; omega) hDh9.1, (hS1.far hDh9 (by show g5 ≠ g4; omega) hDl9.1).store3 _ _ _, (hS2 _).il (hS1.il hIh9 haph2) haph, (hS2 _).il (hS1.il hIl9 hapl) hapl2, far hX9 (by omega) (by omega), far hR9 (by omega) (by omega), far hN9 (by omega) (by omega)⟩
    · rw [if_neg hc] at hB0
      go_wp2_with fail
      go_meet
      exact ⟨Al, nl, cl, Ah, nh, ch, ⟨x.g.lb, L1, a3⟩, ⟨x.g.hb, L2, a3⟩, hB0, hDl9, hDh9, hIl9, hIh9, hX9, hR9, hN9⟩
  case rest =>
  obtain ⟨A4, n4, c4, A5, n5, c5, P, Q, hPQ, hP, hQ, hIP, hIQ, hX, hR, hNn⟩ := hcut
  obtain ⟨⟨hPs, hPn⟩, ⟨hQs, hQn⟩⟩ := boundsG_bd x.g
  rw [hPQ.out, hN.out] at hPs hPn hQs hQn
  simp only at hPs hPn hQs hQn
  have hPQs := Lib.hid (⟨hPs, hQs⟩ : P.s = a3 ∧ Q.s = a3)
  clear hPs hQs hIl9 hIh9 hDl9 hDh9 hN9 hX9 hR9 hB0
  have n2 : wc.cell? ⟨g3, 2, none⟩ = some (.int .i64 a3) := hNn.cell 2
  have n2' := fun o => ((Later.refl wc).alloc o).cell n2
  go_upto_region 12 with fail
  have hX1 := (hX.alloc (.cells #[.int .i64 1] 3)).alloc (.cells #[.bool false, .slice (some ⟨wc.heap.size, 0, none⟩) 1 1, .int .i64 a3] 28)
  have hR1 := (hR.alloc (.cells #[.int .i64 1] 3)).alloc (.cells #[.bool false, .slice (some ⟨wc.heap.size, 0, none⟩) 1 1, .int .i64 a3] 28)
  have hNn1 := (hNn.alloc (.cells #[.int .i64 1] 3)).alloc (.cells #[.bool false, .slice (some ⟨wc.heap.size, 0, none⟩) 1 1, .int .i64 a3] 28)
  have hP1 := (hP.alloc (.cells #[.int .i64 1] 3)).alloc (.cells #[.bool false, .slice (some ⟨wc.heap.size, 0, none⟩) 1 1, .int .i64 a3] 28)
  have hQ1 := (hQ.alloc (.cells #[.int .i64 1] 3)).alloc (.cells #[.bool false, .slice (some ⟨wc.heap.size, 0, none⟩) 1 1, .int .i64 a3] 28)
  have hIP1 := (hIP.alloc (.cells #[.int .i64 1] 3)).alloc (.cells #[.bool false, .slice (some ⟨wc.heap.size, 0, none⟩) 1 1, .int .i64 a3] 28)
  have hIQ1 := (hIQ.alloc (.cells #[.int .i64 1] 3)).alloc (.cells #[.bool false, .slice (some ⟨wc.heap.size, 0, none⟩) 1 1, .int .i64 a3] 28)
  have hT : Blk w (wc.heap.size + 1) 28 #[.bool false, .slice (some ⟨wc.heap.size, 0, none⟩) 1 1, .int .i64 a3] ((wc.alloc (.cells #[.int .i64 1] 3)).alloc (.cells #[.bool false, .slice (some ⟨wc.heap.size, 0, none⟩) 1 1, .int .i64 a3] 28)) := Blk.made w (wc.alloc (.cells #[.int .i64 1] 3)) 28 _ (hR.alloc _).later _ (by simp)
  have hIT : IL ((wc.alloc (.cells #[.int .i64 1] 3)).alloc (.cells #[.bool false, .slice (some ⟨wc.heap.size, 0, none⟩) 1 1, .int .i64 a3] 28)) (some ⟨wc.heap.size, 0, none⟩) 1 1 [1] := (IL.one wc 3 1).alloc _
  have hap6 : (0 < n4 → ∀ a, A4 = some a → a.block ≠ wc.heap.size + 1) ∧ (0 < n5 → ∀ a, A5 = some a → a.block ≠ wc.heap.size + 1) := ⟨hIP.apart (Nat.le_succ _), hIQ.apart (Nat.le_succ _)⟩
  have h56 : g5 < wc.heap.size := hQ.lt
  clear n2 n2' hX hR hNn hP hQ hIP hIQ
  generalize World.alloc (World.alloc wc _) _ = w12 at *
  obtain ⟨g6, hg6⟩ : ∃ g, g = wc.heap.size + 1 := ⟨_, rfl⟩
  generalize (some (⟨wc.heap.size, 0, none⟩ : Addr)) = A0 at *
  rw [← hg6] at hT hap6
  try rw [← hg6]
  have h56' : g5 + 1 < g6 := by omega
  clear h56 hg6
  have hlx := hx.s.len
  obtain ⟨cnd, hcnd⟩ : ∃ c, Hid (c = (!x.g.sm && decide (0 < x.n3))) := ⟨_, rfl⟩
  go_cut [90] from 82 to 90 (fun v W => v = .bool cnd ∧ W = w12)
  case first =>
    have b6 : w12.cell? ⟨w.heap.size, 6, none⟩ = some (.slice x.A3 x.n3 x.c3) := hX1.cell 6
    have b7 : w12.cell? ⟨w.heap.size, 7, none⟩ = some (.bool x.g.sm) := hX1.cell 7
    generalize x.g.sm = sm at *
    cases sm
    · by_cases h0 : (0 : Int) < (x.n3 : Int)
      · go_wp2_with fail
        go_meet
        exact ⟨by rw [hcnd.out, decide_eq_true (by omega : 0 < x.n3)]; rfl, rfl⟩
      · go_wp2_with fail
        go_meet
        exact ⟨by rw [hcnd.out, decide_eq_false (by omega : ¬ 0 < x.n3)]; rfl, rfl⟩
    · go_wp2_with fail
      go_meet
      exact ⟨by rw [hcnd.out]; rfl, rfl⟩
  case rest =>
  obtain ⟨rfl, hwc2⟩ := hcut
  rw [hwc2]
  clear hwc2
  have hst : Hid ((stepG x.g).l = if cnd then [1 + around (x.g.st.getD 0 0) 9] else [1]) := by
    rw [Hid, stepG, hcnd.out]
    cases x.g.sm
    · by_cases h0 : 0 < x.n3
      · simp [h0, hlx]
      · simp [h0, hlx]
    · simp
  have h0 : cnd = true → 0 < x.n3 := fun h => by rw [hcnd.out] at h; simp at h; exact h.2
  have hst1 : (stepG x.g).s = a3 := by
    show (goodN x.g.n).sc = a3
    rw [hN.out]
  have hst0 : Hid (∀ l, (stepG x.g).l = l → stepG x.g = ⟨false, l, a3⟩) := fun l h => by rw [← h, ← hst1]; rfl
  clear hst1
  go_upto_if 90 with fail
  go_cut [97] (fun _ W => ∃ (A6 : Option Addr) (l : List Int), Hid ((stepG x.g).l = l) ∧ Blk w g6 28 #[.bool false, .slice A6 1 1, .int .i64 a3] W ∧ IL W A6 1 1 l ∧ Blk w g4 28 #[.bool P.neg, .slice A4 n4 c4, .int .i64 a3] W ∧ Blk w g5 28 #[.bool Q.neg, .slice A5 n5 c5, .int .i64 a3] W ∧ IL W A4 n4 c4 P.l ∧ IL W A5 n5 c5 Q.l ∧ Blk w w.heap.size 30 x.cs W ∧ Blk w (w.heap.size + 1) 25 #[.string { data := #[] }, .string { data := #[] }, .string { data := #[] }, .int .i64 0, .int .i64 0, .int .i64 0, .int .i64 0, .int .i64 0, .int .i64 0, .int .i64 0] W ∧ Blk w g3 23 #[.int .i64 (1 + a1), .int .i64 a2, .int .i64 a3, .int .i64 a4, .int .i64 a5, .int .i64 a6, .int .i64 (1 + a7)] W)
  case first =>
    cases cnd
    · rw [if_neg (by simp)] at hst
      go_wp2_with fail
      go_meet
      exact ⟨A0, [1], hst, hT, hIT, hP1, hQ1, hIP1, hIQ1, hX1, hR1, hNn1⟩
    · rw [if_pos rfl] at hst
      have h0' := h0 rfl
      obtain ⟨bb, off, hA3, hc3⟩ := (hx.s.later hX1.later).at_ h0'
      have b6 : w12.cell? ⟨w.heap.size, 6, none⟩ = some (.slice x.A3 x.n3 x.c3) := hX1.cell 6
      rw [hA3] at b6
      clear hA3
      have h0i : (0 : Int) < (x.n3 : Int) := by omega
      have hy : I6g (x.g.st.getD 0 0) := by have := hb.s _ (List.getElem_mem (show 0 < x.g.st.length by omega)); rw [show x.g.st.getD 0 0 = x.g.st[0]'(by omega) by simp [List.getD, List.getElem?_eq_getElem (show 0 < x.g.st.length by omega)]]; exact this
      obtain ⟨y, hyv⟩ : ∃ y, x.g.st.getD 0 0 = y := ⟨_, rfl⟩
      rw [hyv] at hst hc3 hy
      clear hyv
      obtain ⟨a8, e8, l8, u8⟩ : ∃ v, Hid (around y 9 = v) ∧ 0 ≤ v ∧ v < 9 := ⟨_, rfl, (around_bd _ _ (by omega)).1, (around_bd _ _ (by omega)).2⟩
      rw [e8.out] at hst
      have r8 := Lib.hid (fun W => around_still (m := 9) (v := a8) W hy (by omega) e8.out)
      have w8r : IntKind.i64.wrap (1 + a8) = 1 + a8 := IntWalk.i64_in _ (by omega)
      have t1 : w12.cell? ⟨g6, 1, none⟩ = some (.slice A0 1 1) := hT.cell 1
      have f1 := hT.free 1
      have t1' := fun o => ((Later.refl w12).alloc o).cell t1
      have f1' := fun o => (hT.alloc o).free 1
      simp only [Nat.add_zero] at hc3
      clear e8
      go_wp2_with fail
      refine (r8.out _).mono ?_
      rintro e wq8 ⟨rfl, rfl⟩
      go_wp2_with fail
      go_meet
      have hS := Sto.set (wq8.alloc (.cells #[.int .i64 (1 + a8)] 3)) ⟨g6, 1, none⟩ (.slice (some ⟨wq8.heap.size, 0, none⟩) 1 1)
      have hlt6 := hT.lt
      have far := fun {g t cs} (h : Blk w g t cs wq8) (hne : g ≠ g6) => hS.far (h.alloc _) hne hT.1
      exact ⟨some ⟨wq8.heap.size, 0, none⟩, [1 + a8], hst, (hT.alloc _).set_ 1 _, hS.il (IL.one wq8 3 (1 + a8)) (fun _ a ha => by have := Option.some.inj ha; subst this; show wq8.heap.size ≠ g6; omega), far hP1 (by omega), far hQ1 (by omega), hS.il (hIP1.alloc _) hap6.1, hS.il (hIQ1.alloc _) hap6.2, far hX1 (by omega), far hR1 (by omega), far hNn1 (by omega)⟩
  case rest =>
  obtain ⟨A6, l6, hl6, hT, hI6, hP, hQ, hIP, hIQ, hX, hR, hNn⟩ := hcut
  have hS6 := hst0.out _ hl6.out
  have hG : Hid ((goodG x.g).cs = #[.string (bs (printL P)), .string (bs (printL Q)), .string (bs (printL ⟨false, l6, a3⟩)), .int .i64 (1 + a1), .int .i64 a2, .int .i64 a3, .int .i64 a4, .int .i64 a5, .int .i64 a6, .int .i64 (1 + a7)]) := by
    rw [Hid, goodG, hPQ.out, hS6, hN.out]; rfl
  have hl6n : l6.length = 1 := hI6.len
  obtain ⟨hPs, hQs⟩ := hPQs.out
  have pP := Lib.hid (fun W (hW : IL W A4 n4 c4 P.l) => show Calls Tryz.prog 18 #[.agg #[.bool P.neg, .slice A4 n4 c4, .int .i64 a3]] W (RV W (.string (bs (printL P)))) by
    have := rprint_any P.neg a3 W hW (by have := hW.len; omega) (by omega)
    rw [← hPs] at this
    rw [← hPs]
    exact this)
  have pQ := Lib.hid (fun W (hW : IL W A5 n5 c5 Q.l) => show Calls Tryz.prog 18 #[.agg #[.bool Q.neg, .slice A5 n5 c5, .int .i64 a3]] W (RV W (.string (bs (printL Q)))) by
    have := rprint_any Q.neg a3 W hW (by have := hW.len; omega) (by omega)
    rw [← hQs] at this
    rw [← hQs]
    exact this)
  have pS := Lib.hid (fun W (hW : IL W A6 1 1 l6) => show Calls Tryz.prog 18 #[.agg #[.bool false, .slice A6 1 1, .int .i64 a3]] W (RV W (.string (bs (printL ⟨false, l6, a3⟩)))) from rprint_any false a3 W hW (by omega) (by omega))
  clear hPn hQn hPQs hPQ hS6
  generalize bs (printL P) = tP at *
  generalize bs (printL Q) = tQ at *
  generalize bs (printL ⟨false, l6, a3⟩) = tS at *
  generalize (goodG x.g).cs = GR at *
  go_upto_region 14 with fail
  have z0 := fun s : Ext wc => Ext.cell (show wc.cell? ⟨g4, 0, none⟩ = some (.bool P.neg) from hP.cell 0) s
  have z1 := fun s : Ext wc => Ext.cell (show wc.cell? ⟨g4, 1, none⟩ = some (.slice A4 n4 c4) from hP.cell 1) s
  have z2 := fun s : Ext wc => Ext.cell (show wc.cell? ⟨g4, 2, none⟩ = some (.int .i64 a3) from hP.cell 2) s
  have z3 := fun s : Ext wc => Ext.cell (show wc.cell? ⟨g5, 0, none⟩ = some (.bool Q.neg) from hQ.cell 0) s
  have z4 := fun s : Ext wc => Ext.cell (show wc.cell? ⟨g5, 1, none⟩ = some (.slice A5 n5 c5) from hQ.cell 1) s
  have z5 := fun s : Ext wc => Ext.cell (show wc.cell? ⟨g5, 2, none⟩ = some (.int .i64 a3) from hQ.cell 2) s
  have z6 := fun s : Ext wc => Ext.cell (show wc.cell? ⟨g6, 0, none⟩ = some (.bool false) from hT.cell 0) s
  have z7 := fun s : Ext wc => Ext.cell (show wc.cell? ⟨g6, 1, none⟩ = some (.slice A6 1 1) from hT.cell 1) s
  have z8 := fun s : Ext wc => Ext.cell (show wc.cell? ⟨g6, 2, none⟩ = some (.int .i64 a3) from hT.cell 2) s
  have z9 := fun s : Ext wc => Ext.cell (show wc.cell? ⟨g3, 0, none⟩ = some (.int .i64 (1 + a1)) from hNn.cell 0) s
  have z10 := fun s : Ext wc => Ext.cell (show wc.cell? ⟨g3, 1, none⟩ = some (.int .i64 a2) from hNn.cell 1) s
  have z11 := fun s : Ext wc => Ext.cell (show wc.cell? ⟨g3, 2, none⟩ = some (.int .i64 a3) from hNn.cell 2) s
  have z12 := fun s : Ext wc => Ext.cell (show wc.cell? ⟨g3, 3, none⟩ = some (.int .i64 a4) from hNn.cell 3) s
  have z13 := fun s : Ext wc => Ext.cell (show wc.cell? ⟨g3, 4, none⟩ = some (.int .i64 a5) from hNn.cell 4) s
  have z14 := fun s : Ext wc => Ext.cell (show wc.cell? ⟨g3, 5, none⟩ = some (.int .i64 a6) from hNn.cell 5) s
  have z15 := fun s : Ext wc => Ext.cell (show wc.cell? ⟨g3, 6, none⟩ = some (.int .i64 (1 + a7)) from hNn.cell 6) s
  refine wp_ext_tail 8 (by kernel_rfl) (by kernel_rfl) (by kernel_rfl) (by kernel_rfl) (by kernel_rfl) (by kernel_rfl) (by simp) (by kernel_rfl) ?_
  simp only [List.take_succ_cons, List.take_zero, List.drop_succ_cons, List.drop_zero]
  iterate 7 (quiet_step (first
    | (go_at_call 18; with_reducible exact quiet_ext _ (pP.out _ (hIP.ext _)))
    | (go_at_call 18; with_reducible exact quiet_ext _ (pQ.out _ (hIQ.ext _)))
    | (go_at_call 18; exact quiet_ext _ (pS.out _ (hI6.ext _)))))
  have hbc := built_conf13 ⟨⟨1 + a1, a2, a3, a4, a5, a6, 1 + a7⟩, tP, tQ, tS, Dc.zero, Dc.zero, Dc.zero⟩
  refine wpQuiet_build _ _ rfl rfl ?_ hbc ?_
  · rfl
  refine wpQuiet_nil ?_
  clear z0 z1 z2 z3 z4 z5 z6 z7 z8 z9 z10 z11 z12 z13 z14 z15 hbc
  rintro _ ⟨s, rfl⟩
  have hRs := hR.call s.h
  generalize s.world = ws at *
  go_simp
  go_wp2_with (refine wpList_store_blk hRs row_conf13 rfl rfl rfl rfl rfl rfl (by kernel_rfl) ?_; intro w9 hR9 hS9; go_simp)
  exact bodyPost_ret (results_c hR9 row_conf13 rfl Tryz.results5 rfl) rfl ⟨by rw [hG.out]; rfl, hS9.below hRs.later (by omega)⟩

end Go.Proofs.YtjinbhnpcdlkiaaGreatDoor


namespace Go.Proofs.YtjinbhnpcdlkiaaGreatDoor
open Go.ChangeShapes Go.WideShapes Go.ChangeAt Go.RowKit Go.Joins Go.Deep
set_option linter.unusedSimpArgs false

theorem array15 {α : Type} {cs : Array α} (h : cs.size = 15) : ∃ c0 c1 c2 c3 c4 c5 c6 c7 c8 c9 c10 c11 c12 c13 c14, cs = #[c0, c1, c2, c3, c4, c5, c6, c7, c8, c9, c10, c11, c12, c13, c14] := by
  obtain ⟨l⟩ := cs
  match l, h with
  | [c0, c1, c2, c3, c4, c5, c6, c7, c8, c9, c10, c11, c12, c13, c14], _ => exact ⟨c0, c1, c2, c3, c4, c5, c6, c7, c8, c9, c10, c11, c12, c13, c14, rfl⟩
section
variable {H : Type} {enc : TypeId × Value → H} {W : World}
theorem arg_dec6 {fuel : Nat} {u0 u1 u2 : Value} {x : DataW H × List MemPlace} (h : DataW.trod enc Tryz.prog W 0 (fun _ => true) true fuel 28 [u0, u1, u2] = some x) :
    ∃ (b : Bool) (A : Option Addr) (n c : Nat) (l : List Int) (s : Int), u0 = .bool b ∧ u1 = .slice A n c ∧ u2 = .int .i64 s ∧ IL W A n c l ∧ I64 l ∧ I6g s := by
  have k1 : Tryz.prog.cellsOf 3 = 1 := by kernel_rfl
  have k2 : Tryz.prog.cellsOf 4 = 1 := by kernel_rfl
  have k3 : Tryz.prog.cellsOf 26 = 1 := by kernel_rfl
  obtain ⟨x0, x1, x2, n, _, _, h0, h1, h2⟩ := trod_struct3 Tryz.underlying28 h
  simp only [k1, k2, k3] at h0 h1 h2
  obtain ⟨b, rfl⟩ := arg_bool (v := u0) h0
  obtain ⟨A, n1, q1, l, rfl, w1, j1⟩ := arg_ints (v := u1) h1
  obtain ⟨s, rfl, i1⟩ := arg_int (v := u2) h2
  exact ⟨b, A, n1, q1, l, s, rfl, rfl, rfl, w1, j1, i1⟩
theorem arg_lims {fuel : Nat} {u0 u1 u2 u3 u4 u5 u6 : Value} {x : DataW H × List MemPlace} (h : DataW.trod enc Tryz.prog W 0 (fun _ => true) true fuel 23 [u0, u1, u2, u3, u4, u5, u6] = some x) :
    ∃ m : Cn, u0 = .int .i64 m.ic ∧ u1 = .int .i64 m.fc ∧ u2 = .int .i64 m.sc ∧ u3 = .int .i64 m.mi ∧ u4 = .int .i64 m.mf ∧ u5 = .int .i64 m.md ∧ u6 = .int .i64 m.hs ∧ (I6g m.ic ∧ I6g m.fc ∧ I6g m.sc ∧ I6g m.mi ∧ I6g m.mf ∧ I6g m.md ∧ I6g m.hs) := by
  have k1 : Tryz.prog.cellsOf 3 = 1 := by kernel_rfl
  obtain ⟨xs, n, _, _, _, hlen, hf⟩ := DataW.trod_struct Tryz.underlying23 h
  have g0 := hf 0 _ rfl
  have g1 := hf 1 _ rfl
  have g2 := hf 2 _ rfl
  have g3 := hf 3 _ rfl
  have g4 := hf 4 _ rfl
  have g5 := hf 5 _ rfl
  have g6 := hf 6 _ rfl
  match xs, hlen with
  | [y0, y1, y2, y3, y4, y5, y6], _ =>
    simp [k1] at g0 g1 g2 g3 g4 g5 g6
    obtain ⟨a0, rfl, i0⟩ := arg_int (v := u0) (x := y0) g0
    obtain ⟨a1, rfl, i1⟩ := arg_int (v := u1) (x := y1) g1
    obtain ⟨a2, rfl, i2⟩ := arg_int (v := u2) (x := y2) g2
    obtain ⟨a3, rfl, i3⟩ := arg_int (v := u3) (x := y3) g3
    obtain ⟨a4, rfl, i4⟩ := arg_int (v := u4) (x := y4) g4
    obtain ⟨a5, rfl, i5⟩ := arg_int (v := u5) (x := y5) g5
    obtain ⟨a6, rfl, i6⟩ := arg_int (v := u6) (x := y6) g6
    exact ⟨⟨a0, a1, a2, a3, a4, a5, a6⟩, rfl, rfl, rfl, rfl, rfl, rfl, rfl, i0, i1, i2, i3, i4, i5, i6⟩
set_option maxRecDepth 100000 in
theorem arg_made {r : Reach} {b0 : Nat} {v : Value} {d : DataW H} {p : List MemPlace} (hv : Value.okWide Tryz.prog W r b0 30 v) (h : DataW.Trod enc Tryz.prog W 0 (fun _ => true) true 30 v d p) :
    ∃ x : GV, v = .agg x.cs ∧ x.ok W ∧ x.Bd := by
  obtain ⟨cs, rfl, hsz⟩ := okWide_struct Tryz.underlying30 hv
  have hC : Tryz.prog.cellsOf 30 = 15 := by kernel_rfl
  have hD : Tryz.prog.cellsOf 28 = 3 := by kernel_rfl
  have hN : Tryz.prog.cellsOf 23 = 7 := by kernel_rfl
  have k2 : Tryz.prog.cellsOf 4 = 1 := by kernel_rfl
  have k3 : Tryz.prog.cellsOf 26 = 1 := by kernel_rfl
  obtain ⟨c0, c1, c2, c3, c4, c5, c6, c7, c8, c9, c10, c11, c12, c13, c14, rfl⟩ := array15 (hsz.trans hC)
  obtain ⟨fuel, hf⟩ := h
  obtain ⟨xs, n, _, _, _, hlen, hg⟩ := DataW.trod_struct Tryz.underlying30 hf
  have g0 := hg 0 _ rfl
  have g1 := hg 1 _ rfl
  have g2 := hg 2 _ rfl
  have g3 := hg 3 _ rfl
  have g4 := hg 4 _ rfl
  match xs, hlen with
  | [y0, y1, y2, y3, y4], _ =>
    simp [hD, hN, k2, k3] at g0 g1 g2 g3 g4
    obtain ⟨lb, A1, n1, q1, ll, ls, rfl, rfl, rfl, w1, i1, s1⟩ := arg_dec6 (u0 := c0) (u1 := c1) (u2 := c2) (x := y0) g0
    obtain ⟨hb, A2, n2, q2, hl, hs, rfl, rfl, rfl, w2, i2, s2⟩ := arg_dec6 (u0 := c3) (u1 := c4) (u2 := c5) (x := y1) g1
    obtain ⟨A3, n3, q3, st, rfl, w3, i3⟩ := arg_ints (v := c6) (x := y2) g2
    obtain ⟨sm, rfl⟩ := arg_bool (v := c7) (x := y3) g3
    obtain ⟨m, rfl, rfl, rfl, rfl, rfl, rfl, rfl, j0, j1, j2, j3, j4, j5, j6⟩ := arg_lims (u0 := c8) (u1 := c9) (u2 := c10) (u3 := c11) (u4 := c12) (u5 := c13) (u6 := c14) (x := y4) g4
    exact ⟨⟨⟨lb, ll, hb, hl, st, sm, m⟩, A1, n1, q1, ls, A2, n2, q2, hs, A3, n3, q3⟩, rfl, ⟨w1, w2, w3⟩, ⟨i1, i2, i3, s1, s2, j0, j1, j2, j3, j4, j5, j6⟩⟩
end
end Go.Proofs.YtjinbhnpcdlkiaaGreatDoor

