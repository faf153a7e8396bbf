/- States made good. No condition. -/
import Derived.Test.YtppkifdngjcbeaaEd13
import Derived.Test.YtppkifdngjcbeaaEd7
namespace Go.Proofs.Ytppkifdngjcbeaa
open Go.RowKit
set_option linter.unusedSimpArgs false

def RBlk6 (w : World) (g : Nat) (t : TypeId) (W : World) : Prop := ∃ a b c d e f, Blk w g t #[a, b, c, d, e, f] W
section
variable {w W W' : World} {g : Nat} {t : TypeId}
theorem RBlk6.drew (h : RBlk6 w g t W) : RBlk6 w g t W.drew := by obtain ⟨a, b, c, d, e, f, h⟩ := h; exact ⟨a, b, c, d, e, f, h.drew⟩
theorem RBlk6.call (h : RBlk6 w g t W) (hb : Below W.heap.size W W') : RBlk6 w g t W' := by obtain ⟨a, b, c, d, e, f, h⟩ := h; exact ⟨a, b, c, d, e, f, h.call hb⟩
theorem RBlk6.set0 (h : RBlk6 w g t W) (u : Value) : RBlk6 w g t (W.setCell ⟨g, 0, none⟩ u) := by obtain ⟨a, b, c, d, e, f, h⟩ := h; exact ⟨u, b, c, d, e, f, h.set_ 0 u⟩
theorem RBlk6.set1 (h : RBlk6 w g t W) (u : Value) : RBlk6 w g t (W.setCell ⟨g, 1, none⟩ u) := by obtain ⟨a, b, c, d, e, f, h⟩ := h; exact ⟨a, u, c, d, e, f, h.set_ 1 u⟩
theorem RBlk6.set2 (h : RBlk6 w g t W) (u : Value) : RBlk6 w g t (W.setCell ⟨g, 2, none⟩ u) := by obtain ⟨a, b, c, d, e, f, h⟩ := h; exact ⟨a, b, u, d, e, f, h.set_ 2 u⟩
theorem RBlk6.set3 (h : RBlk6 w g t W) (u : Value) : RBlk6 w g t (W.setCell ⟨g, 3, none⟩ u) := by obtain ⟨a, b, c, d, e, f, h⟩ := h; exact ⟨a, b, c, u, e, f, h.set_ 3 u⟩
theorem RBlk6.set4 (h : RBlk6 w g t W) (u : Value) : RBlk6 w g t (W.setCell ⟨g, 4, none⟩ u) := by obtain ⟨a, b, c, d, e, f, h⟩ := h; exact ⟨a, b, c, d, u, f, h.set_ 4 u⟩
theorem RBlk6.set5 (h : RBlk6 w g t W) (u : Value) : RBlk6 w g t (W.setCell ⟨g, 5, none⟩ u) := by obtain ⟨a, b, c, d, e, f, h⟩ := h; exact ⟨a, b, c, d, e, u, h.set_ 5 u⟩
end
theorem three_g {w W : World} {g1 g2 g3 : Nat} {t1 t2 t3 : TypeId} {x : SV} {y : DV} (h1 : Blk w g1 t1 #[.bool x.v.b, .slice x.v.A x.v.n x.v.c, .bool x.v.p, .slice x.v.E x.v.m x.v.q, .int .i64 x.c, .int .i64 x.a] W) (h2 : Blk w g2 t2 #[.bool y.b, .slice y.A y.n y.c, .bool y.p, .slice y.E y.m y.q] W) (h3 : RBlk6 w g3 t3 W) :
    (W.cell? ⟨g1, 4, none⟩ = some (.int .i64 x.c) ∧ W.cell? ⟨g1, 5, none⟩ = some (.int .i64 x.a) ∧ W.cell? ⟨g2, 0, none⟩ = some (.bool y.b) ∧ W.cell? ⟨g2, 1, none⟩ = some (.slice y.A y.n y.c) ∧ W.cell? ⟨g2, 2, none⟩ = some (.bool y.p) ∧ W.cell? ⟨g2, 3, none⟩ = some (.slice y.E y.m y.q)) ∧
    (Blk w g1 t1 #[.bool x.v.b, .slice x.v.A x.v.n x.v.c, .bool x.v.p, .slice x.v.E x.v.m x.v.q, .int .i64 x.c, .int .i64 x.a] W ∧ (Blk w g2 t2 #[.bool y.b, .slice y.A y.n y.c, .bool y.p, .slice y.E y.m y.q] W ∧ RBlk6 w g3 t3 W)) :=
  ⟨⟨h1.cell 4, h1.cell 5, h2.cell 0, h2.cell 1, h2.cell 2, h2.cell 3⟩, h1, h2, h3⟩
def gdS (x : SV) (q r : Nat) : Dr := ⟨x.v.b, goodL x.v.l q, x.v.p, if x.v.p then goodL x.v.f r else []⟩
def goodS (x : SV) (q r : Nat) : St := ⟨gdS x q r, around x.c (lenR (gdS x q r) + 1), around x.a (lenR (gdS x q r) + 1)⟩
theorem goodL_le (l : List Int) (q : Nat) : (goodL l q).length ≤ q := by rw [goodL_len]; omega
theorem gdS_may (x : SV) (q r : Nat) : mayDr (gdS x q r) = true := by
  refine mayDr_iff.2 ⟨mayL_good _ _, ?_, ?_⟩
  · unfold gdS
    cases x.v.p
    · rfl
    · exact mayL_good _ _
  · unfold gdS
    cases x.v.p
    · exact .inr rfl
    · exact .inl rfl
theorem gdS_len (x : SV) (q r : Nat) : (gdS x q r).int.length ≤ q ∧ (gdS x q r).frac.length ≤ r := by
  unfold gdS
  refine ⟨goodL_le _ _, ?_⟩
  cases x.v.p
  · exact Nat.zero_le _
  · exact goodL_le _ _
theorem goodS_may (x : SV) (q r : Nat) : mayS (goodS x q r) = true := by
  have hl : 0 ≤ lenR (gdS x q r) := by unfold lenR; omega
  have a := around_bd x.c (lenR (gdS x q r) + 1) (by omega)
  have b := around_bd x.a (lenR (gdS x q r) + 1) (by omega)
  refine mayS_iff.2 ⟨gdS_may x q r, ⟨a.1, ?_⟩, b.1, ?_⟩
  · have := a.2; show around x.c (lenR (gdS x q r) + 1) ≤ lenR (gdS x q r); omega
  · have := b.2; show around x.a (lenR (gdS x q r) + 1) ≤ lenR (gdS x q r); omega

set_option maxRecDepth 100000 in
set_option maxHeartbeats 4000000 in
theorem rsgood_any (x : SV) (q r B : Nat) (w : World) (h : x.v.ok w) (i1 : I64 x.v.l) (i2 : I64 x.v.f) (ic : I6 x.c) (ia : I6 x.a) (hq : q ≤ B) (hr : r ≤ B) (hB : B ≤ 10000) :
    Calls Try.prog 29 #[.agg #[.bool x.v.b, .slice x.v.A x.v.n x.v.c, .bool x.v.p, .slice x.v.E x.v.m x.v.q, .int .i64 x.c, .int .i64 x.a], .int .i64 (q : Int), .int .i64 (r : Int)] w (RS w (goodS x q r) B) := by
  have hgd := Lib.hid (fun W (hW : x.v.ok W) => show Calls Try.prog 75 #[.agg #[.bool x.v.b, .slice x.v.A x.v.n x.v.c, .bool x.v.p, .slice x.v.E x.v.m x.v.q], .int .i64 (q : Int), .int .i64 (r : Int)] W (fun e w' => ∃ y : DV, e = .returned (.agg #[.bool y.b, .slice y.A y.n y.c, .bool y.p, .slice y.E y.m y.q]) ∧ Hid (y.d = gdS x q r) ∧ y.ok w' ∧ Below W.heap.size W w' ∧ (0 < y.n → ∀ a, y.A = some a → W.heap.size + 2 ≤ a.block) ∧ (0 < y.m → ∀ a, y.E = some a → W.heap.size + 2 ≤ a.block)) from
    (dgoodn_any x.v.b x.v.p q r W hW.1 hW.2 i1 i2 (by omega) (by omega)).mono (fun e w' hh => by
      obtain ⟨A, n, c, E, m, k, e1, e2, e3, e4, e5, e6⟩ := hh
      exact ⟨⟨_, A, n, c, _, _, E, m, k, _⟩, e1, rfl, ⟨e2, e3⟩, e4, e5, e6⟩))
  have hlb := gdS_len x q r
  have hG : Hid (goodS x q r = ⟨gdS x q r, around x.c (lenR (gdS x q r) + 1), around x.a (lenR (gdS x q r) + 1)⟩) := rfl
  have hle : Hid (lenR (gdS x q r) = ((atomsR (gdS x q r)).length : Int)) := rfl
  generalize goodS x q r = G at *
  generalize gdS x q r = gd at *
  have hx0 := ((SB.made w w 53 x (Later.refl w) h (w.heap.size) (by simp)).alloc (.cells #[.bool false, .slice none 0 0, .bool false, .slice none 0 0, .int .i64 0, .int .i64 0] 53))
  have hR0 := (Blk.made w (w.alloc (.cells #[.bool x.v.b, .slice x.v.A x.v.n x.v.c, .bool x.v.p, .slice x.v.E x.v.m x.v.q, .int .i64 x.c, .int .i64 x.a] 53)) 53 #[.bool false, .slice none 0 0, .bool false, .slice none 0 0, .int .i64 0, .int .i64 0] ((Later.refl w).alloc _) (w.heap.size + 1) (by simp))
  go_enter Try.func29, Try.ntmps29
  go_upto_region 1 with fail
  generalize World.alloc (World.alloc w _) _ = w1 at *
  have gR := hR0.lt
  have qx0 := hx0.c0
  have qx1 := hx0.c1
  have qx2 := hx0.c2
  have qx3 := hx0.c3
  have qx4 := hx0.c4
  have qx5 := hx0.c5
  go_wp2_with fail
  refine (hgd.out _ hx0.ok).mono ?_
  rintro e w2 ⟨y, rfl, hyd, hyo, hB2, hN, hM⟩
  clear qx0 qx1 qx2 qx3 qx4 qx5
  have hx2 := hx0.call hB2
  clear hx0
  have hR2 := hR0.call hB2
  clear hR0
  have gRb := hR2.lt
  have gW := hx2.later.size
  have hOld := hyo.old
  have hyl := hyo.lens
  rw [hyd.out] at hyl
  have hd2 := DBk.made w w2 42 y hx2.later hyo _ rfl
  go_upto_region 2 with fail
  have hx_v2 := hx2.alloc (.cells #[.bool y.b, .slice y.A y.n y.c, .bool y.p, .slice y.E y.m y.q] 42)
  clear hx2
  have hR_v2 := hR2.alloc (.cells #[.bool y.b, .slice y.A y.n y.c, .bool y.p, .slice y.E y.m y.q] 42)
  clear hR2
  generalize hgw : World.alloc w2 _ = v2 at *
  clear hgw
  have hat := Lib.hid (fun W (hW : y.ok W) => show Calls Try.prog 41 #[.agg #[.bool y.b, .slice y.A y.n y.c, .bool y.p, .slice y.E y.m y.q]] W (RL W (atomsR y.d)) from (ratoms_any y.b y.p W hW.1 hW.2 (by omega) (by omega)).mono (fun _ _ h => h.rl))
  rw [hyd.out] at hat
  have qd0 := hd2.c0
  have qd1 := hd2.c1
  have qd2 := hd2.c2
  have qd3 := hd2.c3
  go_wp2_with fail
  refine (hat.out _ hd2.ok).mono ?_
  rintro e w3 ⟨A7, n7, c7, rfl, hI7, hB3⟩
  clear qd0 qd1 qd2 qd3
  have hx3 := hx_v2.call hB3
  have hd3 := hd2.call hB3
  clear hx_v2 hd2
  have hR3 := hR_v2.call hB3
  clear hR_v2
  have hn7 : Hid (lenR gd = (n7 : Int)) := by rw [Hid, hle.out, hI7.len]
  have hb7 : n7 ≤ 20001 := by have e := atoms_len gd.int gd.sep gd.frac; have e2 := hI7.len; have e3 : (atomsR gd).length = (atomsD gd.int gd.sep gd.frac).length := rfl; omega
  rw [hn7.out] at hG
  clear hI7 hle hat
  have hwr : IntKind.i64.wrap ((n7 : Int) + 1) = (n7 : Int) + 1 := IntWalk.i64_in _ (by omega)
  have av := Lib.hid (fun W => (around_any x.c ((n7 : Int) + 1) W ic.1 ic.2 (by omega) (by omega)).mono (fun e w' (h : e = .returned (.int .i64 (around x.c ((n7 : Int) + 1))) ∧ W = w') => (⟨h.1, by rw [← h.2]; exact Below.refl _ _⟩ : RV W (.int .i64 (around x.c ((n7 : Int) + 1))) e w')))
  have bv := Lib.hid (fun W => (around_any x.a ((n7 : Int) + 1) W ia.1 ia.2 (by omega) (by omega)).mono (fun e w' (h : e = .returned (.int .i64 (around x.a ((n7 : Int) + 1))) ∧ W = w') => (⟨h.1, by rw [← h.2]; exact Below.refl _ _⟩ : RV W (.int .i64 (around x.a ((n7 : Int) + 1))) e w')))
  generalize around x.c ((n7 : Int) + 1) = p at *
  generalize around x.a ((n7 : Int) + 1) = u at *
  go_upto_region 3 with fail
  have HX := Lib.hid hx3.1
  have HY := Lib.hid hd3.1
  have hyo3 := hd3.ok
  have HR : Hid (RBlk6 w (w.heap.size + 1) 53 w3) := ⟨_, _, _, _, _, _, hR3⟩
  clear hx3 hd3 hR3
  go_region_held3 (fun W => (W.cell? ⟨w.heap.size, 4, none⟩ = some (.int .i64 x.c) ∧ W.cell? ⟨w.heap.size, 5, none⟩ = some (.int .i64 x.a) ∧ W.cell? ⟨w2.heap.size, 0, none⟩ = some (.bool y.b) ∧ W.cell? ⟨w2.heap.size, 1, none⟩ = some (.slice y.A y.n y.c) ∧ W.cell? ⟨w2.heap.size, 2, none⟩ = some (.bool y.p) ∧ W.cell? ⟨w2.heap.size, 3, none⟩ = some (.slice y.E y.m y.q)) ∧
      (Blk w w.heap.size 53 #[.bool x.v.b, .slice x.v.A x.v.n x.v.c, .bool x.v.p, .slice x.v.E x.v.m x.v.q, .int .i64 x.c, .int .i64 x.a] W ∧ (Blk w w2.heap.size 42 #[.bool y.b, .slice y.A y.n y.c, .bool y.p, .slice y.E y.m y.q] W ∧ RBlk6 w (w.heap.size + 1) 53 W)))
    ((refine three_g ?_ ?_ ?_; (repeat (first | with_reducible refine Blk.far ?_ (by simp only; omega) (by simp only; omega) _ | with_reducible refine Blk.drew ?_ | with_reducible refine Blk.call ?_ hB9 | with_reducible refine Blk.call ?_ hB8 | with_reducible exact HX.out | with_reducible exact And.left (And.right (by assumption)))); (repeat (first | with_reducible refine Blk.far ?_ (by simp only; omega) (by simp only; omega) _ | with_reducible refine Blk.drew ?_ | with_reducible refine Blk.call ?_ hB9 | with_reducible refine Blk.call ?_ hB8 | with_reducible exact HY.out | with_reducible exact And.left (And.right (And.right (by assumption))))); (repeat (first | with_reducible refine RBlk6.set0 ?_ _ | with_reducible refine RBlk6.set1 ?_ _ | with_reducible refine RBlk6.set2 ?_ _ | with_reducible refine RBlk6.set3 ?_ _ | with_reducible refine RBlk6.set4 ?_ _ | with_reducible refine RBlk6.set5 ?_ _ | with_reducible refine RBlk6.drew ?_ | with_reducible refine RBlk6.call ?_ hB9 | with_reducible refine RBlk6.call ?_ hB8 | with_reducible exact HR.out | with_reducible exact And.right (And.right (And.right (by assumption)))))))
    (first
      | (go_at_call 19; with_reducible refine (av.out _).mono ?_; rintro e wc1 ⟨rfl, hB8⟩)
      | (go_at_call 19; refine (bv.out _).mono ?_; rintro e wc2 ⟨rfl, hB9⟩; obtain ⟨r0, r1, r2, r3, r4, r5, kR⟩ : RBlk6 w (w.heap.size + 1) 53 wc2 := RBlk6.call (And.right (And.right (And.right (by assumption)))) hB9; obtain ⟨⟨z0, z1, z2, z3, z4, z5⟩, ⟨z6, z7, z8, z9, z10, z11⟩⟩ := kR.cells6))
  rename_i hHeld
  clear hHeld z0 z1 z2 z3 z4 z5 z6 z7 z8 z9 z10 z11
  have kS := kR.store6 (.bool y.b) (.slice y.A y.n y.c) (.bool y.p) (.slice y.E y.m y.q) (.int .i64 p) (.int .i64 u)
  have hL1 : Later w3 wc2 := Later.call (((Later.refl w3).drew).call hB8) hB9
  have hyo4 := (hyo3.later hL1).set6 (g := w.heap.size + 1) (fun hz a ha => by have := hN hz a ha; omega) (fun hz a ha => by have := hM hz a ha; omega) (.bool y.b) (.slice y.A y.n y.c) (.bool y.p) (.slice y.E y.m y.q) (.int .i64 p) (.int .i64 u)
  clear kR
  generalize World.setCell (World.setCell (World.setCell (World.setCell (World.setCell (World.setCell _ _ _) _ _) _ _) _ _) _ _) _ _ = W6 at *
  obtain ⟨⟨u0, u1, u2, u3, u4, u5⟩, _⟩ := kS.cells6
  have hLz := kS.later
  clear kS HX HY HR av bv
  go_wp2_with fail
  refine bodyPost_ret (v := .agg #[.bool y.b, .slice y.A y.n y.c, .bool y.p, .slice y.E y.m y.q, .int .i64 p, .int .i64 u]) (by simp [results, Try.results29, go_sem, u0, u1, u2, u3, u4, u5]) rfl ?_
  exact ⟨⟨y, p, u⟩, rfl, by rw [hG.out, ← hyd.out]; rfl, hyo4, ⟨by show y.n ≤ B; omega, by show y.m ≤ B; omega⟩, hLz⟩

end Go.Proofs.Ytppkifdngjcbeaa
