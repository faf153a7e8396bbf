/- States made good, cut short; limits made good. No condition. -/
import Derived.Test.YtppkifdngjcbeaaEd3
import Derived.Test.YtppkifdngjcbeaaDr2
namespace Go.Proofs.Ytppkifdngjcbeaa
open Go.RowKit
set_option linter.unusedSimpArgs false

/-- A draft whose lists are new. -/
def RDN (w : World) (d : Dr) (e : Ending) (w' : World) : Prop := ∃ A n c E m k, e = .returned (.agg #[.bool d.neg, .slice A n c, .bool d.sep, .slice E m k]) ∧ IL w' A n c d.int ∧ IL w' E m k d.frac ∧ Below w.heap.size w w' ∧
  (0 < n → ∀ a, A = some a → w.heap.size + 2 ≤ a.block) ∧ (0 < m → ∀ a, E = some a → w.heap.size + 2 ≤ a.block)

theorem dfewx_any {A : Option Addr} {n c : Nat} {l : List Int} {E : Option Addr} {m k : Nat} {f : List Int} (b p : Bool) (q : Nat) (w : World) (h : IL w A n c l) (g : IL w E m k f) (_hq : q ≤ 1000000) :
    Calls Try.prog 76 #[.agg #[.bool b, .slice A n c, .bool p, .slice E m k], .int .i64 (q : Int)] w fun e w' => ∃ k0 k1 : Nat, e = .returned (.agg #[.bool b, .slice A k0 c, .bool p, .slice E k1 k]) ∧ (k0 ≤ n ∧ k0 ≤ q) ∧ (k1 ≤ m ∧ k1 ≤ q) ∧ IL w' A k0 c (l.take q) ∧ IL w' E k1 k (f.take q) ∧ Below w.heap.size w w' := by
  obtain ⟨k0, hk0, hmin0, hmin0'⟩ := min_cut n q
  obtain ⟨k1, hk1, hmin1, hmin1'⟩ := min_cut m q
  replace hmin0 := hmin0 q rfl
  replace hmin0' := hmin0' q rfl
  replace hmin1 := hmin1 q rfl
  replace hmin1' := hmin1' q rfl
  have r0 := h.few q A rfl k0 hk0
  have r1 := g.few q E rfl k1 hk1
  have hc0 := h.cap
  have hc1 := g.cap
  have he0 := h.le
  have he1 := g.le
  have b0 : k0 ≤ n ∧ k0 ≤ q := by omega
  have b1 : k1 ≤ m ∧ k1 ≤ q := by omega
  clear hk0 hk1
  go_enter Try.func76, Try.ntmps76
  go_wp2
  exact bodyPost_ret (v := .agg #[.bool b, .slice A k0 c, .bool p, .slice E k1 k]) (by simp [results, Try.results76, go_sem]) rfl ⟨k0, k1, rfl, b0, b1, (r0.alloc _).alloc _, (r1.alloc _).alloc _, ((Below.refl _ _).alloc (Nat.le_refl _) _).alloc (by simp) _⟩

set_option maxHeartbeats 1000000 in
theorem dgoodn_any {A : Option Addr} {n c : Nat} {l : List Int} {E : Option Addr} {m k : Nat} {f : List Int} (b p : Bool) (q r : Nat) (w : World) (h : IL w A n c l) (g : IL w E m k f) (hl : I64 l) (hf : I64 f) (hq : q ≤ 100000) (hr : r ≤ 100000) :
    Calls Try.prog 75 #[.agg #[.bool b, .slice A n c, .bool p, .slice E m k], .int .i64 (q : Int), .int .i64 (r : Int)] w (RDN w ⟨b, goodL l q, p, if p then goodL f r else []⟩) := by
  have gg := Lib.hid (fun W hW => goodo_any A n c q l W hW hl hq)
  have gf := Lib.hid (fun W hW => goodo_any E m k r f W hW hf hr)
  generalize hD : (⟨b, goodL l q, p, if p then goodL f r else []⟩ : Dr) = D
  have HD := Lib.hid hD
  clear hD
  go_enter Try.func75, Try.ntmps75
  go_upto_region 1 with fail
  obtain ⟨wb, hwb⟩ : ∃ wb, wb = (w.alloc (.cells #[.bool b, .slice A n c, .bool p, .slice E m k] 42)).alloc (.cells #[.bool false, .slice none 0 0, .bool false, .slice none 0 0] 42) := ⟨_, rfl⟩
  rw [← hwb]
  have hS : ∀ W, Later wb W → (W.cell? ⟨w.heap.size, 0, none⟩ = some (.bool b) ∧ W.cell? ⟨w.heap.size, 1, none⟩ = some (.slice A n c) ∧ W.cell? ⟨w.heap.size, 2, none⟩ = some (.bool p) ∧ W.cell? ⟨w.heap.size, 3, none⟩ = some (.slice E m k)) ∧ Later wb W := by
    intro W hW
    subst hwb
    refine ⟨⟨hW.cell ?_, hW.cell ?_, hW.cell ?_, hW.cell ?_⟩, hW⟩ <;>
    · rw [World.cell?_alloc_past _ _ _ (by simp), World.cell?_alloc_at _ _ _ _ rfl]; rfl
  have hIb : IL wb A n c l := by subst hwb; exact (h.alloc _).alloc _
  have hGb : IL wb E m k f := by subst hwb; exact (g.alloc _).alloc _
  have HS := Lib.hid hS
  have HW := Lib.hid hwb
  clear hS hwb
  go_cut [7] (fun s7 W => ∃ (g : Nat) (A1 : Option Addr) (n1 c1 : Nat), s7 = .pointer (some ⟨g, 0, none⟩) ∧ IL W A1 n1 c1 (goodL l q) ∧ (0 < n1 → ∀ a, A1 = some a → wb.heap.size ≤ a.block ∧ a.block ≠ g) ∧ Fresh4 wb g 42 (.bool b) (.slice A1 n1 c1) (.bool p) (.slice none 0 0) W)
  case first =>
    have hfr := fun W => fresh4 (w := wb) (W := W) (t := 42) (a := .bool false) (b := .slice none 0 0) (c := .bool false) (d := .slice none 0 0)
    go_region_held3 (fun W => (W.cell? ⟨w.heap.size, 0, none⟩ = some (.bool b) ∧ W.cell? ⟨w.heap.size, 1, none⟩ = some (.slice A n c) ∧ W.cell? ⟨w.heap.size, 2, none⟩ = some (.bool p) ∧ W.cell? ⟨w.heap.size, 3, none⟩ = some (.slice E m k)) ∧ Later wb W)
      ((refine HS.out _ ?_; repeat (first | exact And.right (by assumption) | exact Later.refl _ | refine Later.drew ?_ | refine Later.alloc ?_ _ | refine Later.setCell ?_ (by simp) _ | refine Later.call ?_ hB)))
      ((go_at_call 12; refine (gg.out _ (hIb.later (And.right (by assumption)))).mono ?_; rintro e w1 ⟨A1, n1, c1, rfl, hI, hB⟩; have hB2 := hB; simp at hB2))
    · clear hfr
      go_wp2_with fail
      go_meet
      exact ⟨_, A1, n1, c1, rfl, hI.il.alloc _, hI.away, Fresh4.made wb w1 _ _ _ _ _ (Later.call (Later.refl _).drew hB) _ rfl⟩
    · go_wp2_with fail
      go_meet
      have hn := hI.after_ (S := wb.heap.size) (by simp)
      have hp : ∀ i, 0 < n1 → ∀ a, A1 = some a → a.block ≠ (⟨wb.heap.size, i, none⟩ : Addr).block := fun i hz a ha => (hn hz a ha).2
      have hF := (((((Fresh4.made wb wb 42 (.bool false) (.slice none 0 0) (.bool false) (.slice none 0 0) (Later.refl wb) _ rfl).drew.call hB).set0 (.bool b)).set1 (.slice A1 n1 c1)).set2 (.bool p)).set3 (.slice none 0 0)
      exact ⟨_, A1, n1, c1, rfl, (((hI.il.set_ (hp 0) _).set_ (hp 1) _).set_ (hp 2) _).set_ (hp 3) _, hn, hF⟩
  case rest =>
    obtain ⟨g, A1, n1, c1, rfl, hI, hne, hF⟩ := hcut
    obtain ⟨⟨q0, q1, q2, q3⟩, hL⟩ := HS.out _ hF.2.2
    have hR : Fresh4 w (w.heap.size + 1) 42 (.bool false) (.slice none 0 0) (.bool false) (.slice none 0 0) wb := by
      rw [HW.out]; exact Fresh4.made w _ _ _ _ _ _ ((Later.refl w).alloc _) _ (by simp)
    have hR2 := hR.call hL
    obtain ⟨⟨c0, c1', c2, c3⟩, ⟨f0, f1, f2, f3⟩⟩ := hF.cells
    obtain ⟨⟨d0, d1, d2, d3⟩, ⟨e0, e1, e2, e3⟩⟩ := hR2.cells
    have hsz := hL.size
    have hws : wb.heap.size = w.heap.size + 2 := by rw [HW.out]; simp
    have hg : g ≠ w.heap.size + 1 := by have := hF.1; omega
    have hne1 : ∀ i, 0 < n1 → ∀ a, A1 = some a → a.block ≠ (⟨g, i, none⟩ : Addr).block := fun i hz a ha => (hne hz a ha).2
    have hne2 : ∀ i, 0 < n1 → ∀ a, A1 = some a → a.block ≠ (⟨w.heap.size + 1, i, none⟩ : Addr).block := fun i hz a ha => by have := (hne hz a ha).1; simp; omega
    have Hg := Lib.hid hg
    have hbc : Below w.heap.size w wc := below_from (w1 := wb) (by rw [HW.out]; exact ((Below.refl _ _).alloc (Nat.le_refl _) _).alloc (by simp) _) hL
    have hR3 : w.heap.size ≤ w.heap.size + 1 := Nat.le_succ _
    have hfn1 : 0 < n1 → ∀ a, A1 = some a → w.heap.size + 2 ≤ a.block := fun hz a ha => by have := (hne hz a ha).1; omega
    clear HS HW hne
    cases p
    · go_wp2_with fail
      rw [← HD.out]
      obtain ⟨⟨z0, z1, z2, z3⟩, _⟩ := ((((hR2.set0 (.bool b)).set1 (.slice A1 n1 c1)).set2 (.bool false)).set3 (.slice none 0 0)).cells
      exact bodyPost_ret (v := .agg #[.bool b, .slice A1 n1 c1, .bool false, .slice none 0 0]) (by generalize World.setCell (World.setCell (World.setCell (World.setCell _ _ _) _ _) _ _) _ _ = W3 at z0 z1 z2 z3 ⊢; simp [results, Try.results75, go_sem, z0, z1, z2, z3]) rfl
        ⟨A1, n1, c1, none, 0, 0, rfl, (((hI.set_ (hne2 0) _).set_ (hne2 1) _).set_ (hne2 2) _).set_ (hne2 3) _, IL.nil _, (((hbc.setCell hR3 _).setCell hR3 _).setCell hR3 _).setCell hR3 _, hfn1, none_newer _⟩
    · go_wp2_with fail
      refine (gf.out _ (hGb.later hL)).mono ?_
      rintro e w2 ⟨A2, n2, c2, rfl, hI2, hB2⟩
      obtain ⟨⟨c0, c1', c2', c3⟩, ⟨f0, f1, f2, f3⟩⟩ := (hF.call hB2).cells
      obtain ⟨⟨d0, d1, d2, d3⟩, ⟨e0, e1, e2, e3⟩⟩ := (hR2.call hB2).cells
      have hgw := hF.lt
      have hws2 := hL.size
      have hm1 : ∀ i, 0 < n2 → ∀ a, A2 = some a → a.block ≠ (⟨g, i, none⟩ : Addr).block := fun i hz a ha => by have := (hI2.away hz a ha).1; simp; omega
      have hm2 : ∀ i, 0 < n2 → ∀ a, A2 = some a → a.block ≠ (⟨w.heap.size + 1, i, none⟩ : Addr).block := fun i hz a ha => by have := (hI2.away hz a ha).1; simp; omega
      have hwg : w.heap.size ≤ g := by have := hF.1; omega
      go_wp2_with fail
      rw [← HD.out]
      obtain ⟨⟨z0, z1, z2, z3⟩, _⟩ := (((((hR2.call hB2).far (p := ⟨g, 3, none⟩) (by simpa using hg.symm) hwg (.slice A2 n2 c2)).set0 (.bool b)).set1 (.slice A1 n1 c1)).set2 (.bool true)).set3 (.slice A2 n2 c2) |>.cells
      exact bodyPost_ret (v := .agg #[.bool b, .slice A1 n1 c1, .bool true, .slice A2 n2 c2]) (by generalize World.setCell (World.setCell (World.setCell (World.setCell _ _ _) _ _) _ _) _ _ = W3 at z0 z1 z2 z3 ⊢; simp [results, Try.results75, go_sem, z0, z1, z2, z3]) rfl
        ⟨A1, n1, c1, A2, n2, c2, rfl, (((((hI.below hB2).set_ (hne1 3) _).set_ (hne2 0) _).set_ (hne2 1) _).set_ (hne2 2) _).set_ (hne2 3) _, ((((hI2.il.set_ (hm1 3) _).set_ (hm2 0) _).set_ (hm2 1) _).set_ (hm2 2) _).set_ (hm2 3) _, (((((below_from hbc hB2).setCell hwg _).setCell hR3 _).setCell hR3 _).setCell hR3 _).setCell hR3 _, hfn1, fun hz a ha => by have := (hI2.away hz a ha).1; omega⟩

theorem Blk.store4b {w0 W : World} {g : Nat} {t : TypeId} {a b c d e f : Value} (h : Blk w0 g t #[a, b, c, d, e, f] W) (u0 u1 u2 u3 : Value) :
    Blk w0 g t #[u0, u1, u2, u3, e, f] ((((W.setCell ⟨g, 0, none⟩ u0).setCell ⟨g, 1, none⟩ u1).setCell ⟨g, 2, none⟩ u2).setCell ⟨g, 3, none⟩ u3) := (((h.set_ 0 u0).set_ 1 u1).set_ 2 u2).set_ 3 u3
theorem IL.set4b {W : World} {A : Option Addr} {n c g : Nat} {l : List Int} (h : IL W A n c l) (hp : 0 < n → ∀ a, A = some a → a.block ≠ g) (u0 u1 u2 u3 : Value) :
    IL ((((W.setCell ⟨g, 0, none⟩ u0).setCell ⟨g, 1, none⟩ u1).setCell ⟨g, 2, none⟩ u2).setCell ⟨g, 3, none⟩ u3) A n c l :=
  (((h.set_ (p := ⟨g, 0, none⟩) hp _).set_ (p := ⟨g, 1, none⟩) hp _).set_ (p := ⟨g, 2, none⟩) hp _).set_ (p := ⟨g, 3, none⟩) hp _
theorem Blk.far4b {w0 W : World} {g g' : Nat} {t : TypeId} {cs : Array Value} (h : Blk w0 g t cs W) (hg : g ≠ g') (h0 : w0.heap.size ≤ g') (u0 u1 u2 u3 : Value) :
    Blk w0 g t cs ((((W.setCell ⟨g', 0, none⟩ u0).setCell ⟨g', 1, none⟩ u1).setCell ⟨g', 2, none⟩ u2).setCell ⟨g', 3, none⟩ u3) :=
  (((h.far (p := ⟨g', 0, none⟩) hg h0 u0).far (p := ⟨g', 1, none⟩) hg h0 u1).far (p := ⟨g', 2, none⟩) hg h0 u2).far (p := ⟨g', 3, none⟩) hg h0 u3
/-- What a call hands back that makes a state. -/
def RS (w : World) (S : St) (q : Nat) (e : Ending) (w' : World) : Prop :=
  ∃ y : SV, e = .returned (.agg #[.bool y.v.b, .slice y.v.A y.v.n y.v.c, .bool y.v.p, .slice y.v.E y.v.m y.v.q, .int .i64 y.c, .int .i64 y.a]) ∧ Hid (y.s = S) ∧ y.v.ok w' ∧ (y.v.n ≤ q ∧ y.v.m ≤ q) ∧ Below w.heap.size w w'

set_option maxRecDepth 100000 in
set_option maxHeartbeats 4000000 in
theorem rsfew_any (x : SV) (q : Nat) (w : World) (h : x.v.ok w) (hq : q ≤ 1000000) :
    Calls Try.prog 31 #[.agg #[.bool x.v.b, .slice x.v.A x.v.n x.v.c, .bool x.v.p, .slice x.v.E x.v.m x.v.q, .int .i64 x.c, .int .i64 x.a], .int .i64 (q : Int)] w (RS w ⟨⟨x.v.b, x.v.l.take q, x.v.p, x.v.f.take q⟩, x.c, x.a⟩ q) := by
  have hfw := Lib.hid (fun W (hW : x.v.ok W) => dfewx_any x.v.b x.v.p q W hW.1 hW.2 hq)
  have hOld := h.old
  have hx0 := ((SB.made w w 53 x (Later.refl w) h (w.heap.size) (by simp)).alloc (.cells #[.bool false, .slice none 0 0, .bool false, .slice none 0 0, .int .i64 0, .int .i64 0] 53))
  have hR0 := (Blk.made w (w.alloc (.cells #[.bool x.v.b, .slice x.v.A x.v.n x.v.c, .bool x.v.p, .slice x.v.E x.v.m x.v.q, .int .i64 x.c, .int .i64 x.a] 53)) 53 #[.bool false, .slice none 0 0, .bool false, .slice none 0 0, .int .i64 0, .int .i64 0] ((Later.refl w).alloc _) (w.heap.size + 1) (by simp))
  go_enter Try.func31, Try.ntmps31
  go_upto_region 1 with fail
  generalize World.alloc (World.alloc w _) _ = w1 at *
  have qx0 := hx0.c0
  have qx1 := hx0.c1
  have qx2 := hx0.c2
  have qx3 := hx0.c3
  have qx4 := hx0.c4
  have qx5 := hx0.c5
  go_wp2_with fail
  refine (hfw.out _ hx0.ok).mono ?_
  rintro e w2 ⟨k0, k1, rfl, b0, b1, hI2, hJ2, hB2⟩
  clear qx0 qx1 qx2 qx3 qx4 qx5
  have hx2 := hx0.call hB2
  clear hx0
  have hR2 := hR0.call hB2
  clear hR0
  have hxb := (hx2.1.store4b (.bool x.v.b) (.slice x.v.A k0 x.v.c) (.bool x.v.p) (.slice x.v.E k1 x.v.q))
  have hRb := hR2.far4b (g' := w.heap.size) (by omega) (Nat.le_refl _) (.bool x.v.b) (.slice x.v.A k0 x.v.c) (.bool x.v.p) (.slice x.v.E k1 x.v.q)
  have hI3 := hI2.set4b (g := w.heap.size) (fun hz a ha => by have := hOld.1 (by omega) a ha; omega) (.bool x.v.b) (.slice x.v.A k0 x.v.c) (.bool x.v.p) (.slice x.v.E k1 x.v.q)
  have hJ3 := hJ2.set4b (g := w.heap.size) (fun hz a ha => by have := hOld.2 (by omega) a ha; omega) (.bool x.v.b) (.slice x.v.A k0 x.v.c) (.bool x.v.p) (.slice x.v.E k1 x.v.q)
  obtain ⟨⟨x0, x1, x2, x3, x4, x5⟩, ⟨y0, y1, y2, y3, y4, y5⟩⟩ := hx2.1.cells6
  go_upto_region 2 with fail
  clear x0 x1 x2 x3 x4 x5 y0 y1 y2 y3 y4 y5 hx2 hR2 hI2 hJ2
  generalize World.setCell (World.setCell (World.setCell (World.setCell _ _ _) _ _) _ _) _ _ = w3 at *
  obtain ⟨⟨x0, x1, x2, x3, x4, x5⟩, _⟩ := hxb.cells6
  obtain ⟨⟨R0, R1, R2, R3, R4, R5⟩, ⟨Rf0, Rf1, Rf2, Rf3, Rf4, Rf5⟩⟩ := hRb.cells6
  go_wp2_with fail
  obtain ⟨⟨u0, u1, u2, u3, u4, u5⟩, _⟩ := (hRb.store6 (.bool x.v.b) (.slice x.v.A k0 x.v.c) (.bool x.v.p) (.slice x.v.E k1 x.v.q) (.int .i64 x.c) (.int .i64 x.a)).cells6
  refine bodyPost_ret (v := .agg #[.bool x.v.b, .slice x.v.A k0 x.v.c, .bool x.v.p, .slice x.v.E k1 x.v.q, .int .i64 x.c, .int .i64 x.a]) (by generalize World.setCell (World.setCell (World.setCell (World.setCell (World.setCell (World.setCell _ _ _) _ _) _ _) _ _) _ _) _ _ = W6 at u0 u1 u2 u3 u4 u5 ⊢; simp [results, Try.results31, go_sem, u0, u1, u2, u3, u4, u5]) rfl ?_
  refine ⟨⟨⟨x.v.b, x.v.A, k0, x.v.c, x.v.l.take q, x.v.p, x.v.E, k1, x.v.q, x.v.f.take q⟩, x.c, x.a⟩, rfl, rfl, ⟨?_, ?_⟩, ⟨b0.2, b1.2⟩, ?_⟩
  · exact hI3.set6 (fun hz a ha => by have := hOld.1 (by omega) a ha; omega) _ _ _ _ _ _
  · exact hJ3.set6 (fun hz a ha => by have := hOld.2 (by omega) a ha; omega) _ _ _ _ _ _
  · exact below_set6 hRb.later (by omega) _ _ _ _ _ _

def RBlk (w : World) (g : Nat) (t : TypeId) (W : World) : Prop := ∃ a b c, Blk w g t #[a, b, c] W
theorem RBlk.drew {w W : World} {g : Nat} {t : TypeId} (h : RBlk w g t W) : RBlk w g t W.drew := by obtain ⟨a, b, c, h⟩ := h; exact ⟨a, b, c, h.drew⟩
theorem RBlk.call {w W W' : World} {g : Nat} {t : TypeId} (h : RBlk w g t W) (hb : Below W.heap.size W W') : RBlk w g t W' := by obtain ⟨a, b, c, h⟩ := h; exact ⟨a, b, c, h.call hb⟩
theorem RBlk.set0 {w W : World} {g : Nat} {t : TypeId} (h : RBlk w g t W) (u : Value) : RBlk w g t (W.setCell ⟨g, 0, none⟩ u) := by obtain ⟨a, b, c, h⟩ := h; exact ⟨u, b, c, h.set_ 0 u⟩
theorem RBlk.set1 {w W : World} {g : Nat} {t : TypeId} (h : RBlk w g t W) (u : Value) : RBlk w g t (W.setCell ⟨g, 1, none⟩ u) := by obtain ⟨a, b, c, h⟩ := h; exact ⟨a, u, c, h.set_ 1 u⟩
theorem RBlk.set2 {w W : World} {g : Nat} {t : TypeId} (h : RBlk w g t W) (u : Value) : RBlk w g t (W.setCell ⟨g, 2, none⟩ u) := by obtain ⟨a, b, c, h⟩ := h; exact ⟨a, b, u, h.set_ 2 u⟩
theorem two_l3 {w : World} {g g' : Nat} {t t' : TypeId} {a b c : Value} {W : World} (h : Blk w g t #[a, b, c] W) (h' : RBlk w g' t' W) :
    (W.cell? ⟨g, 0, none⟩ = some a ∧ W.cell? ⟨g, 1, none⟩ = some b ∧ W.cell? ⟨g, 2, none⟩ = some c) ∧ (Blk w g t #[a, b, c] W ∧ RBlk w g' t' W) :=
  ⟨⟨h.cell 0, h.cell 1, h.cell 2⟩, h, h'⟩
set_option maxRecDepth 100000 in
set_option maxHeartbeats 4000000 in
theorem rslimits_any (li lf : Int) (sg : Bool) (w : World) (h1 : I6 li) (h2 : I6 lf) :
    Calls Try.prog 30 #[.agg #[.int .i64 li, .int .i64 lf, .bool sg]] w (RV w (.agg #[.int .i64 (around li 10), .int .i64 (around lf 7), .bool sg])) := by
  have ha := Lib.hid (fun W => around_any li 10 W h1.1 h1.2 (by omega) (by omega))
  have hb := Lib.hid (fun W => around_any lf 7 W h2.1 h2.2 (by omega) (by omega))
  generalize around li 10 = p at *
  generalize around lf 7 = q at *
  have hL0 := ((Blk.made w w 55 #[.int .i64 li, .int .i64 lf, .bool sg] (Later.refl w) (w.heap.size) (by simp)).alloc (.cells #[.int .i64 0, .int .i64 0, .bool false] 55))
  have hR0 := (Blk.made w (w.alloc (.cells #[.int .i64 li, .int .i64 lf, .bool sg] 55)) 55 #[.int .i64 0, .int .i64 0, .bool false] ((Later.refl w).alloc _) (w.heap.size + 1) (by simp))
  go_enter Try.func30, Try.ntmps30
  go_upto_region 1 with fail
  generalize World.alloc (World.alloc w _) _ = w1 at *
  have HB := Lib.hid hL0
  have HR : Hid (RBlk w (w.heap.size + 1) 55 w1) := ⟨_, _, _, hR0⟩
  have av := Lib.hid (fun W => (ha.out W).mono (fun e w' (h : e = .returned (.int .i64 p) ∧ W = w') => (⟨h.1, by rw [← h.2]; exact Below.refl _ _⟩ : RV W (.int .i64 p) e w')))
  have bv := Lib.hid (fun W => (hb.out W).mono (fun e w' (h : e = .returned (.int .i64 q) ∧ W = w') => (⟨h.1, by rw [← h.2]; exact Below.refl _ _⟩ : RV W (.int .i64 q) e w')))
  go_region_held3 (fun W => (W.cell? ⟨w.heap.size, 0, none⟩ = some (.int .i64 li) ∧ W.cell? ⟨w.heap.size, 1, none⟩ = some (.int .i64 lf) ∧ W.cell? ⟨w.heap.size, 2, none⟩ = some (.bool sg)) ∧ (Blk w w.heap.size 55 #[.int .i64 li, .int .i64 lf, .bool sg] W ∧ RBlk w (w.heap.size + 1) 55 W))
    ((refine two_l3 ?_ ?_; (repeat (first | with_reducible refine Blk.far ?_ (by simp only; omega) (by simp only; omega) _ | with_reducible refine Blk.drew ?_ | with_reducible refine Blk.call ?_ hB2 | with_reducible refine Blk.call ?_ hB1 | with_reducible exact HB.out | with_reducible exact And.left (And.right (by assumption)))); (repeat (first | with_reducible refine RBlk.set0 ?_ _ | with_reducible refine RBlk.set1 ?_ _ | with_reducible refine RBlk.set2 ?_ _ | with_reducible refine RBlk.drew ?_ | with_reducible refine RBlk.call ?_ hB2 | with_reducible refine RBlk.call ?_ hB1 | with_reducible exact HR.out | with_reducible exact And.right (And.right (by assumption))))))
    (first
      | (go_at_call 19; with_reducible refine (av.out _).mono ?_; rintro e wc1 ⟨rfl, hB1⟩)
      | (go_at_call 19; refine (bv.out _).mono ?_; rintro e wc2 ⟨rfl, hB2⟩; obtain ⟨r0, r1, r2, kR⟩ : RBlk w (w.heap.size + 1) 55 wc2 := RBlk.call (And.right (And.right (by assumption))) hB2; obtain ⟨⟨z0, z1, z2⟩, ⟨z3, z4, z5⟩⟩ := kR.cells3))
  rename_i hHeld
  clear hHeld z0 z1 z2 z3 z4 z5
  have kS := kR.store3 (.int .i64 p) (.int .i64 q) (.bool sg)
  clear kR
  generalize World.setCell (World.setCell (World.setCell _ _ _) _ _) _ _ = W6 at *
  obtain ⟨⟨u0, u1, u2⟩, _⟩ := kS.cells3
  have hLz := kS.later
  clear kS HB HR av bv hL0 hR0
  go_wp2_with fail
  exact bodyPost_ret (v := .agg #[.int .i64 p, .int .i64 q, .bool sg]) (by simp [results, Try.results30, go_sem, u0, u1, u2]) rfl ⟨rfl, hLz⟩

end Go.Proofs.Ytppkifdngjcbeaa
