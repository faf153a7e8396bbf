/- The walk of what value.Commit does with a number. No condition. -/
import Derived.Test.YtickhmlhciafgaaGreatMa04
import Derived.Test.YtickhmlhciafgaaGreatMa15
import Derived.Test.YtickhmlhciafgaaGreatMa30
import Derived.Test.YtickhmlhciafgaaGreatMa27
namespace Go.Proofs.YtickhmlhciafgaaGreat
open Go.RowKit

/-- A draft's value: where its lists lie, and how they read. -/
structure DV where
  b : Bool
  A : Option Addr
  n : Nat
  c : Nat
  l : List Int
  p : Bool
  E : Option Addr
  m : Nat
  q : Nat
  f : List Int
def DV.d (x : DV) : Dr := ⟨x.b, x.l, x.p, x.f⟩
def DV.ok (x : DV) (W : World) : Prop := IL W x.A x.n x.c x.l ∧ IL W x.E x.m x.q x.f
theorem DV.ok.later {x : DV} {W W' : World} (h : x.ok W) (hb : Later W W') : x.ok W' := ⟨h.1.later hb, h.2.later hb⟩
theorem DV.ok.below {x : DV} {W W' : World} (h : x.ok W) (hb : Below W.heap.size W W') : x.ok W' := ⟨h.1.below hb, h.2.below hb⟩
theorem DV.ok.alloc {x : DV} {W : World} (h : x.ok W) (o : Obj) : x.ok (W.alloc o) := ⟨h.1.alloc o, h.2.alloc o⟩
/-- The four cells of a draft from an offset on. -/
def DV.at_ (x : DV) (W : World) (g o : Nat) : Prop :=
  W.cell? ⟨g, o, none⟩ = some (.bool x.b) ∧ W.cell? ⟨g, o + 1, none⟩ = some (.slice x.A x.n x.c) ∧ W.cell? ⟨g, o + 2, none⟩ = some (.bool x.p) ∧ W.cell? ⟨g, o + 3, none⟩ = some (.slice x.E x.m x.q)
theorem DV.at_.later {x : DV} {W W' : World} {g o : Nat} (h : x.at_ W g o) (hb : Later W W') : x.at_ W' g o := ⟨hb.cell h.1, hb.cell h.2.1, hb.cell h.2.2.1, hb.cell h.2.2.2⟩

end Go.Proofs.YtickhmlhciafgaaGreat


namespace Go.Proofs.YtickhmlhciafgaaGreat
open Go.RowKit

/-- A state's value. -/
structure SV where
  v : DV
  c : Int
  a : Int
def SV.s (x : SV) : St := ⟨x.v.d, x.c, x.a⟩
def DV.fit (x : DV) : Prop := I64 x.l ∧ I64 x.f ∧ x.n ≤ 10000 ∧ x.m ≤ 10000
def I6 (k : Int) : Prop := -9223372036854775808 ≤ k ∧ k ≤ 9223372036854775807
def SV.fit (x : SV) : Prop := x.v.fit ∧ I6 x.c ∧ I6 x.a
section
variable {w0 W W' : World} {g : Nat} {t : TypeId}
theorem Blk.cells2 {a b : Value} (h : Blk w0 g t #[a, b] W) :
    (W.cell? ⟨g, 0, none⟩ = some a ∧ W.cell? ⟨g, 1, none⟩ = some b) ∧ (W.frozen? ⟨g, 0, none⟩ = false ∧ W.frozen? ⟨g, 1, none⟩ = false) :=
  ⟨⟨h.cell 0, h.cell 1⟩, h.free 0, h.free 1⟩
theorem Blk.cells4 {a b c d : Value} (h : Blk w0 g t #[a, b, c, d] W) :
    (W.cell? ⟨g, 0, none⟩ = some a ∧ W.cell? ⟨g, 1, none⟩ = some b ∧ W.cell? ⟨g, 2, none⟩ = some c ∧ W.cell? ⟨g, 3, none⟩ = some d) ∧
    (W.frozen? ⟨g, 0, none⟩ = false ∧ W.frozen? ⟨g, 1, none⟩ = false ∧ W.frozen? ⟨g, 2, none⟩ = false ∧ W.frozen? ⟨g, 3, none⟩ = false) :=
  ⟨⟨h.cell 0, h.cell 1, h.cell 2, h.cell 3⟩, h.free 0, h.free 1, h.free 2, h.free 3⟩
theorem Blk.cells6 {a b c d e f : Value} (h : Blk w0 g t #[a, b, c, d, e, f] W) :
    (W.cell? ⟨g, 0, none⟩ = some a ∧ W.cell? ⟨g, 1, none⟩ = some b ∧ W.cell? ⟨g, 2, none⟩ = some c ∧ W.cell? ⟨g, 3, none⟩ = some d ∧ W.cell? ⟨g, 4, none⟩ = some e ∧ W.cell? ⟨g, 5, none⟩ = some f) ∧
    (W.frozen? ⟨g, 0, none⟩ = false ∧ W.frozen? ⟨g, 1, none⟩ = false ∧ W.frozen? ⟨g, 2, none⟩ = false ∧ W.frozen? ⟨g, 3, none⟩ = false ∧ W.frozen? ⟨g, 4, none⟩ = false ∧ W.frozen? ⟨g, 5, none⟩ = false) :=
  ⟨⟨h.cell 0, h.cell 1, h.cell 2, h.cell 3, h.cell 4, h.cell 5⟩, h.free 0, h.free 1, h.free 2, h.free 3, h.free 4, h.free 5⟩
theorem Blk.store6 {a b c d e f : Value} (h : Blk w0 g t #[a, b, c, d, e, f] W) (u0 u1 u2 u3 u4 u5 : Value) :
    Blk w0 g t #[u0, u1, u2, u3, u4, u5] ((((((W.setCell ⟨g, 0, none⟩ u0).setCell ⟨g, 1, none⟩ u1).setCell ⟨g, 2, none⟩ u2).setCell ⟨g, 3, none⟩ u3).setCell ⟨g, 4, none⟩ u4).setCell ⟨g, 5, none⟩ u5) :=
  (((((h.set_ 0 u0).set_ 1 u1).set_ 2 u2).set_ 3 u3).set_ 4 u4).set_ 5 u5
theorem IL.set6 {A : Option Addr} {n c : Nat} {l : List Int} (h : IL W A n c l) (hp : 0 < n → ∀ a, A = some a → a.block ≠ g) (u0 u1 u2 u3 u4 u5 : Value) :
    IL ((((((W.setCell ⟨g, 0, none⟩ u0).setCell ⟨g, 1, none⟩ u1).setCell ⟨g, 2, none⟩ u2).setCell ⟨g, 3, none⟩ u3).setCell ⟨g, 4, none⟩ u4).setCell ⟨g, 5, none⟩ u5) A n c l :=
  (((((h.set_ (p := ⟨g, 0, none⟩) hp _).set_ (p := ⟨g, 1, none⟩) hp _).set_ (p := ⟨g, 2, none⟩) hp _).set_ (p := ⟨g, 3, none⟩) hp _).set_ (p := ⟨g, 4, none⟩) hp _).set_ (p := ⟨g, 5, none⟩) hp _
theorem below_set6 {B : Nat} (h : Below B w0 W) (hg : B ≤ g) (u0 u1 u2 u3 u4 u5 : Value) :
    Below B w0 ((((((W.setCell ⟨g, 0, none⟩ u0).setCell ⟨g, 1, none⟩ u1).setCell ⟨g, 2, none⟩ u2).setCell ⟨g, 3, none⟩ u3).setCell ⟨g, 4, none⟩ u4).setCell ⟨g, 5, none⟩ u5) :=
  (((((h.setCell (p := ⟨g, 0, none⟩) hg _).setCell (p := ⟨g, 1, none⟩) hg _).setCell (p := ⟨g, 2, none⟩) hg _).setCell (p := ⟨g, 3, none⟩) hg _).setCell (p := ⟨g, 4, none⟩) hg _).setCell (p := ⟨g, 5, none⟩) hg _
end
/-- A state in a block of the call's own. -/
def SB (w0 : World) (g : Nat) (t : TypeId) (x : SV) (W : World) : Prop :=
  Blk w0 g t #[.bool x.v.b, .slice x.v.A x.v.n x.v.c, .bool x.v.p, .slice x.v.E x.v.m x.v.q, .int .i64 x.c, .int .i64 x.a] W ∧ x.v.ok W
/-- A draft in a block of the call's own. -/
def DBk (w0 : World) (g : Nat) (t : TypeId) (x : DV) (W : World) : Prop :=
  Blk w0 g t #[.bool x.b, .slice x.A x.n x.c, .bool x.p, .slice x.E x.m x.q] W ∧ x.ok W
section
variable {w0 W W' : World} {g : Nat} {t : TypeId} {x : SV} {y : DV}
theorem SB.alloc (h : SB w0 g t x W) (o : Obj) : SB w0 g t x (W.alloc o) := ⟨h.1.alloc o, h.2.alloc o⟩
theorem SB.call (h : SB w0 g t x W) (hb : Below W.heap.size W W') : SB w0 g t x W' := ⟨h.1.call hb, h.2.below hb⟩
theorem SB.made (w0 W : World) (t : TypeId) (x : SV) (hL : Later w0 W) (hI : x.v.ok W) (g : Nat) (hg : g = W.heap.size) :
    SB w0 g t x (W.alloc (.cells #[.bool x.v.b, .slice x.v.A x.v.n x.v.c, .bool x.v.p, .slice x.v.E x.v.m x.v.q, .int .i64 x.c, .int .i64 x.a] t)) := ⟨Blk.made w0 W t _ hL g hg, hI.alloc _⟩
theorem SB.later (h : SB w0 g t x W) : Later w0 W := h.1.later
theorem SB.ok (h : SB w0 g t x W) : x.v.ok W := h.2
theorem SB.c0 (h : SB w0 g t x W) : W.cell? ⟨g, 0, none⟩ = some (.bool x.v.b) := h.1.cells6.1.1
theorem SB.c1 (h : SB w0 g t x W) : W.cell? ⟨g, 1, none⟩ = some (.slice x.v.A x.v.n x.v.c) := h.1.cells6.1.2.1
theorem SB.c2 (h : SB w0 g t x W) : W.cell? ⟨g, 2, none⟩ = some (.bool x.v.p) := h.1.cells6.1.2.2.1
theorem SB.c3 (h : SB w0 g t x W) : W.cell? ⟨g, 3, none⟩ = some (.slice x.v.E x.v.m x.v.q) := h.1.cells6.1.2.2.2.1
theorem SB.c4 (h : SB w0 g t x W) : W.cell? ⟨g, 4, none⟩ = some (.int .i64 x.c) := h.1.cells6.1.2.2.2.2.1
theorem SB.c5 (h : SB w0 g t x W) : W.cell? ⟨g, 5, none⟩ = some (.int .i64 x.a) := h.1.cells6.1.2.2.2.2.2
theorem DBk.alloc (h : DBk w0 g t y W) (o : Obj) : DBk w0 g t y (W.alloc o) := ⟨h.1.alloc o, h.2.alloc o⟩
theorem DBk.call (h : DBk w0 g t y W) (hb : Below W.heap.size W W') : DBk w0 g t y W' := ⟨h.1.call hb, h.2.below hb⟩
theorem DBk.made (w0 W : World) (t : TypeId) (y : DV) (hL : Later w0 W) (hI : y.ok W) (g : Nat) (hg : g = W.heap.size) :
    DBk w0 g t y (W.alloc (.cells #[.bool y.b, .slice y.A y.n y.c, .bool y.p, .slice y.E y.m y.q] t)) := ⟨Blk.made w0 W t _ hL g hg, hI.alloc _⟩
theorem DBk.later (h : DBk w0 g t y W) : Later w0 W := h.1.later
theorem DBk.ok (h : DBk w0 g t y W) : y.ok W := h.2
theorem DBk.c0 (h : DBk w0 g t y W) : W.cell? ⟨g, 0, none⟩ = some (.bool y.b) := h.1.cells4.1.1
theorem DBk.c1 (h : DBk w0 g t y W) : W.cell? ⟨g, 1, none⟩ = some (.slice y.A y.n y.c) := h.1.cells4.1.2.1
theorem DBk.c2 (h : DBk w0 g t y W) : W.cell? ⟨g, 2, none⟩ = some (.bool y.p) := h.1.cells4.1.2.2.1
theorem DBk.c3 (h : DBk w0 g t y W) : W.cell? ⟨g, 3, none⟩ = some (.slice y.E y.m y.q) := h.1.cells4.1.2.2.2
end
theorem IL.blt {W : World} {A : Option Addr} {n c : Nat} {l : List Int} (h : IL W A n c l) : 0 < n → ∀ a, A = some a → a.block < W.heap.size := by
  intro hn a ha
  obtain ⟨b, off, e, hb, _⟩ := h.2.2.2 hn
  rw [ha] at e
  rw [Option.some.inj e]
  exact hb
theorem DV.ok.old {y : DV} {W : World} (h : y.ok W) : (0 < y.n → ∀ a, y.A = some a → a.block < W.heap.size) ∧ (0 < y.m → ∀ a, y.E = some a → a.block < W.heap.size) := ⟨h.1.blt, h.2.blt⟩
/-- The same with another sign. -/
def DV.ng (y : DV) (b : Bool) : DV := ⟨b, y.A, y.n, y.c, y.l, y.p, y.E, y.m, y.q, y.f⟩
def SV.ng (x : SV) (b : Bool) : SV := ⟨x.v.ng b, x.c, x.a⟩
theorem SB.neg {w0 W : World} {g : Nat} {t : TypeId} {x : SV} (h : SB w0 g t x W) (b : Bool) (h1 : 0 < x.v.n → ∀ a, x.v.A = some a → a.block ≠ g) (h2 : 0 < x.v.m → ∀ a, x.v.E = some a → a.block ≠ g) :
    SB w0 g t (x.ng b) (W.setCell ⟨g, 0, none⟩ (.bool b)) := ⟨h.1.set_ 0 (.bool b), h.2.1.set_ h1 _, h.2.2.set_ h2 _⟩
theorem DBk.neg {w0 W : World} {g : Nat} {t : TypeId} {x : DV} (h : DBk w0 g t x W) (b : Bool) (h1 : 0 < x.n → ∀ a, x.A = some a → a.block ≠ g) (h2 : 0 < x.m → ∀ a, x.E = some a → a.block ≠ g) :
    DBk w0 g t (x.ng b) (W.setCell ⟨g, 0, none⟩ (.bool b)) := ⟨h.1.set_ 0 (.bool b), h.2.1.set_ h1 _, h.2.2.set_ h2 _⟩
/-- A draft and a code, the draft's value in one word. -/
def RDV (w : World) (Q : Dr) (code : Int) (e : Ending) (w' : World) : Prop :=
  ∃ y : DV, e = .returned (.tuple #[.agg #[.bool y.b, .slice y.A y.n y.c, .bool y.p, .slice y.E y.m y.q], .int .i64 code]) ∧ Hid (y.d = Q) ∧ y.ok w' ∧ Below w.heap.size w w' ∧
    (0 < y.n → ∀ a, y.A = some a → w.heap.size ≤ a.block) ∧ (0 < y.m → ∀ a, y.E = some a → w.heap.size ≤ a.block)
theorem RDE.dv {w : World} {Q : Dr} {code : Int} {e : Ending} {w' : World} (h : RDE w Q code e w') : RDV w Q code e w' := by
  obtain ⟨A, n, c, E, m, k, h1, h2, h3, h4, h5, h6⟩ := h
  exact ⟨⟨Q.neg, A, n, c, Q.int, Q.sep, E, m, k, Q.frac⟩, h1, rfl, ⟨h2, h3⟩, h4, h5, h6⟩
theorem DV.ok.lens {y : DV} {W : World} (h : y.ok W) : (y.n : Int) = y.d.int.length ∧ (y.m : Int) = y.d.frac.length := ⟨by have := h.1.len; simp [DV.d]; omega, by have := h.2.len; simp [DV.d]; omega⟩
theorem DV.ok.set6 {y : DV} {W : World} {g : Nat} (h : y.ok W) (h1 : 0 < y.n → ∀ a, y.A = some a → a.block ≠ g) (h2 : 0 < y.m → ∀ a, y.E = some a → a.block ≠ g) (u0 u1 u2 u3 u4 u5 : Value) :
    y.ok ((((((W.setCell ⟨g, 0, none⟩ u0).setCell ⟨g, 1, none⟩ u1).setCell ⟨g, 2, none⟩ u2).setCell ⟨g, 3, none⟩ u3).setCell ⟨g, 4, none⟩ u4).setCell ⟨g, 5, none⟩ u5) :=
  ⟨h.1.set6 h1 _ _ _ _ _ _, h.2.set6 h2 _ _ _ _ _ _⟩
/-- Its lists lie below B. -/
def SV.olds (x : SV) (B : Nat) : Prop := (0 < x.v.n → ∀ a, x.v.A = some a → a.block < B) ∧ (0 < x.v.m → ∀ a, x.v.E = some a → a.block < B)
/-- What a call hands back that makes a state: the state, a code; its lists lie below B. -/
def RSE (B : Nat) (w : World) (S : St) (code : Int) (e : Ending) (w' : World) : Prop :=
  ∃ x : SV, e = .returned (.tuple #[.agg #[.bool x.v.b, .slice x.v.A x.v.n x.v.c, .bool x.v.p, .slice x.v.E x.v.m x.v.q, .int .i64 x.c, .int .i64 x.a], .int .i64 code]) ∧ Hid (x.s = S) ∧ x.v.ok w' ∧ Below w.heap.size w w' ∧
    (0 < x.v.n → ∀ a, x.v.A = some a → a.block < B) ∧ (0 < x.v.m → ∀ a, x.v.E = some a → a.block < B)
/-- The like, with lists that are new. -/
def RSF (w : World) (S : St) (code : Int) (e : Ending) (w' : World) : Prop :=
  ∃ x : SV, e = .returned (.tuple #[.agg #[.bool x.v.b, .slice x.v.A x.v.n x.v.c, .bool x.v.p, .slice x.v.E x.v.m x.v.q, .int .i64 x.c, .int .i64 x.a], .int .i64 code]) ∧ Hid (x.s = S) ∧ x.v.ok w' ∧ Below w.heap.size w w' ∧
    (0 < x.v.n → ∀ a, x.v.A = some a → w.heap.size ≤ a.block) ∧ (0 < x.v.m → ∀ a, x.v.E = some a → w.heap.size ≤ a.block)
theorem none_old (B : Nat) : 0 < 0 → ∀ a : Addr, none = some a → a.block < B := fun h => absurd h (by omega)

end Go.Proofs.YtickhmlhciafgaaGreat


namespace Go.Proofs.YtickhmlhciafgaaGreat
open Go.RowKit

end Go.Proofs.YtickhmlhciafgaaGreat


namespace Go.Proofs.YtickhmlhciafgaaGreat
open Go.RowKit
set_option linter.unusedSimpArgs false

/-- A draft whose lists are new. -/
def RDN (w : World) (d : Dr) (e : Ending) (w' : World) : Prop := ∃ A n c E m k, e = .returned (.agg #[.bool d.neg, .slice A n c, .bool d.sep, .slice E m k]) ∧ IL w' A n c d.int ∧ IL w' E m k d.frac ∧ Below w.heap.size w w' ∧
  (0 < n → ∀ a, A = some a → w.heap.size + 2 ≤ a.block) ∧ (0 < m → ∀ a, E = some a → w.heap.size + 2 ≤ a.block)

theorem dfewx_any {A : Option Addr} {n c : Nat} {l : List Int} {E : Option Addr} {m k : Nat} {f : List Int} (b p : Bool) (q : Nat) (w : World) (h : IL w A n c l) (g : IL w E m k f) (_hq : q ≤ 1000000) :
    Calls Tryz.prog 31 #[.agg #[.bool b, .slice A n c, .bool p, .slice E m k], .int .i64 (q : Int)] w fun e w' => ∃ k0 k1 : Nat, e = .returned (.agg #[.bool b, .slice A k0 c, .bool p, .slice E k1 k]) ∧ (k0 ≤ n ∧ k0 ≤ q) ∧ (k1 ≤ m ∧ k1 ≤ q) ∧ IL w' A k0 c (l.take q) ∧ IL w' E k1 k (f.take q) ∧ Below w.heap.size w w' := by
  obtain ⟨k0, hk0, hmin0, hmin0'⟩ := min_cut n q
  obtain ⟨k1, hk1, hmin1, hmin1'⟩ := min_cut m q
  replace hmin0 := hmin0 q rfl
  replace hmin0' := hmin0' q rfl
  replace hmin1 := hmin1 q rfl
  replace hmin1' := hmin1' q rfl
  have r0 := h.few q A rfl k0 hk0
  have r1 := g.few q E rfl k1 hk1
  have hc0 := h.cap
  have hc1 := g.cap
  have he0 := h.le
  have he1 := g.le
  have b0 : k0 ≤ n ∧ k0 ≤ q := by omega
  have b1 : k1 ≤ m ∧ k1 ≤ q := by omega
  clear hk0 hk1
  go_enter Tryz.func31, Tryz.ntmps31
  go_wp2
  exact bodyPost_ret (v := .agg #[.bool b, .slice A k0 c, .bool p, .slice E k1 k]) (by simp [results, Tryz.results31, go_sem]) rfl ⟨k0, k1, rfl, b0, b1, (r0.alloc _).alloc _, (r1.alloc _).alloc _, ((Below.refl _ _).alloc (Nat.le_refl _) _).alloc (by simp) _⟩

set_option maxHeartbeats 1000000 in
theorem dgoodn_any {A : Option Addr} {n c : Nat} {l : List Int} {E : Option Addr} {m k : Nat} {f : List Int} (b p : Bool) (q r : Nat) (w : World) (h : IL w A n c l) (g : IL w E m k f) (hl : I64 l) (hf : I64 f) (hq : q ≤ 100000) (hr : r ≤ 100000) :
    Calls Tryz.prog 25 #[.agg #[.bool b, .slice A n c, .bool p, .slice E m k], .int .i64 (q : Int), .int .i64 (r : Int)] w (RDN w ⟨b, goodL l q, p, if p then goodL f r else []⟩) := by
  have gg := Lib.hid (fun W hW => goodo_any A n c q l W hW hl hq)
  have gf := Lib.hid (fun W hW => goodo_any E m k r f W hW hf hr)
  generalize hD : (⟨b, goodL l q, p, if p then goodL f r else []⟩ : Dr) = D
  have HD := Lib.hid hD
  clear hD
  go_enter Tryz.func25, Tryz.ntmps25
  go_upto_region 1 with fail
  obtain ⟨wb, hwb⟩ : ∃ wb, wb = (w.alloc (.cells #[.bool b, .slice A n c, .bool p, .slice E m k] 64)).alloc (.cells #[.bool false, .slice none 0 0, .bool false, .slice none 0 0] 64) := ⟨_, rfl⟩
  rw [← hwb]
  have hS : ∀ W, Later wb W → (W.cell? ⟨w.heap.size, 0, none⟩ = some (.bool b) ∧ W.cell? ⟨w.heap.size, 1, none⟩ = some (.slice A n c) ∧ W.cell? ⟨w.heap.size, 2, none⟩ = some (.bool p) ∧ W.cell? ⟨w.heap.size, 3, none⟩ = some (.slice E m k)) ∧ Later wb W := by
    intro W hW
    subst hwb
    refine ⟨⟨hW.cell ?_, hW.cell ?_, hW.cell ?_, hW.cell ?_⟩, hW⟩ <;>
    · rw [World.cell?_alloc_past _ _ _ (by simp), World.cell?_alloc_at _ _ _ _ rfl]; rfl
  have hIb : IL wb A n c l := by subst hwb; exact (h.alloc _).alloc _
  have hGb : IL wb E m k f := by subst hwb; exact (g.alloc _).alloc _
  have HS := Lib.hid hS
  have HW := Lib.hid hwb
  clear hS hwb
  go_cut [7] (fun s7 W => ∃ (g : Nat) (A1 : Option Addr) (n1 c1 : Nat), s7 = .pointer (some ⟨g, 0, none⟩) ∧ IL W A1 n1 c1 (goodL l q) ∧ (0 < n1 → ∀ a, A1 = some a → wb.heap.size ≤ a.block ∧ a.block ≠ g) ∧ Fresh4 wb g 64 (.bool b) (.slice A1 n1 c1) (.bool p) (.slice none 0 0) W)
  case first =>
    have hfr := fun W => fresh4 (w := wb) (W := W) (t := 64) (a := .bool false) (b := .slice none 0 0) (c := .bool false) (d := .slice none 0 0)
    go_region_held3 (fun W => (W.cell? ⟨w.heap.size, 0, none⟩ = some (.bool b) ∧ W.cell? ⟨w.heap.size, 1, none⟩ = some (.slice A n c) ∧ W.cell? ⟨w.heap.size, 2, none⟩ = some (.bool p) ∧ W.cell? ⟨w.heap.size, 3, none⟩ = some (.slice E m k)) ∧ Later wb W)
      ((refine HS.out _ ?_; repeat (first | exact And.right (by assumption) | exact Later.refl _ | refine Later.drew ?_ | refine Later.alloc ?_ _ | refine Later.setCell ?_ (by simp) _ | refine Later.call ?_ hB)))
      ((go_at_call 50; refine (gg.out _ (hIb.later (And.right (by assumption)))).mono ?_; rintro e w1 ⟨A1, n1, c1, rfl, hI, hB⟩; have hB2 := hB; simp at hB2))
    · clear hfr
      go_wp2_with fail
      go_meet
      exact ⟨_, A1, n1, c1, rfl, hI.il.alloc _, hI.away, Fresh4.made wb w1 _ _ _ _ _ (Later.call (Later.refl _).drew hB) _ rfl⟩
    · go_wp2_with fail
      go_meet
      have hn := hI.after_ (S := wb.heap.size) (by simp)
      have hp : ∀ i, 0 < n1 → ∀ a, A1 = some a → a.block ≠ (⟨wb.heap.size, i, none⟩ : Addr).block := fun i hz a ha => (hn hz a ha).2
      have hF := (((((Fresh4.made wb wb 64 (.bool false) (.slice none 0 0) (.bool false) (.slice none 0 0) (Later.refl wb) _ rfl).drew.call hB).set0 (.bool b)).set1 (.slice A1 n1 c1)).set2 (.bool p)).set3 (.slice none 0 0)
      exact ⟨_, A1, n1, c1, rfl, (((hI.il.set_ (hp 0) _).set_ (hp 1) _).set_ (hp 2) _).set_ (hp 3) _, hn, hF⟩
  case rest =>
    obtain ⟨g, A1, n1, c1, rfl, hI, hne, hF⟩ := hcut
    obtain ⟨⟨q0, q1, q2, q3⟩, hL⟩ := HS.out _ hF.2.2
    have hR : Fresh4 w (w.heap.size + 1) 64 (.bool false) (.slice none 0 0) (.bool false) (.slice none 0 0) wb := by
      rw [HW.out]; exact Fresh4.made w _ _ _ _ _ _ ((Later.refl w).alloc _) _ (by simp)
    have hR2 := hR.call hL
    obtain ⟨⟨c0, c1', c2, c3⟩, ⟨f0, f1, f2, f3⟩⟩ := hF.cells
    obtain ⟨⟨d0, d1, d2, d3⟩, ⟨e0, e1, e2, e3⟩⟩ := hR2.cells
    have hsz := hL.size
    have hws : wb.heap.size = w.heap.size + 2 := by rw [HW.out]; simp
    have hg : g ≠ w.heap.size + 1 := by have := hF.1; omega
    have hne1 : ∀ i, 0 < n1 → ∀ a, A1 = some a → a.block ≠ (⟨g, i, none⟩ : Addr).block := fun i hz a ha => (hne hz a ha).2
    have hne2 : ∀ i, 0 < n1 → ∀ a, A1 = some a → a.block ≠ (⟨w.heap.size + 1, i, none⟩ : Addr).block := fun i hz a ha => by have := (hne hz a ha).1; simp; omega
    have Hg := Lib.hid hg
    have hbc : Below w.heap.size w wc := below_from (w1 := wb) (by rw [HW.out]; exact ((Below.refl _ _).alloc (Nat.le_refl _) _).alloc (by simp) _) hL
    have hR3 : w.heap.size ≤ w.heap.size + 1 := Nat.le_succ _
    have hfn1 : 0 < n1 → ∀ a, A1 = some a → w.heap.size + 2 ≤ a.block := fun hz a ha => by have := (hne hz a ha).1; omega
    clear HS HW hne
    cases p
    · go_wp2_with fail
      rw [← HD.out]
      obtain ⟨⟨z0, z1, z2, z3⟩, _⟩ := ((((hR2.set0 (.bool b)).set1 (.slice A1 n1 c1)).set2 (.bool false)).set3 (.slice none 0 0)).cells
      exact bodyPost_ret (v := .agg #[.bool b, .slice A1 n1 c1, .bool false, .slice none 0 0]) (by generalize World.setCell (World.setCell (World.setCell (World.setCell _ _ _) _ _) _ _) _ _ = W3 at z0 z1 z2 z3 ⊢; simp [results, Tryz.results25, go_sem, z0, z1, z2, z3]) rfl
        ⟨A1, n1, c1, none, 0, 0, rfl, (((hI.set_ (hne2 0) _).set_ (hne2 1) _).set_ (hne2 2) _).set_ (hne2 3) _, IL.nil _, (((hbc.setCell hR3 _).setCell hR3 _).setCell hR3 _).setCell hR3 _, hfn1, none_newer _⟩
    · go_wp2_with fail
      refine (gf.out _ (hGb.later hL)).mono ?_
      rintro e w2 ⟨A2, n2, c2, rfl, hI2, hB2⟩
      obtain ⟨⟨c0, c1', c2', c3⟩, ⟨f0, f1, f2, f3⟩⟩ := (hF.call hB2).cells
      obtain ⟨⟨d0, d1, d2, d3⟩, ⟨e0, e1, e2, e3⟩⟩ := (hR2.call hB2).cells
      have hgw := hF.lt
      have hws2 := hL.size
      have hm1 : ∀ i, 0 < n2 → ∀ a, A2 = some a → a.block ≠ (⟨g, i, none⟩ : Addr).block := fun i hz a ha => by have := (hI2.away hz a ha).1; simp; omega
      have hm2 : ∀ i, 0 < n2 → ∀ a, A2 = some a → a.block ≠ (⟨w.heap.size + 1, i, none⟩ : Addr).block := fun i hz a ha => by have := (hI2.away hz a ha).1; simp; omega
      have hwg : w.heap.size ≤ g := by have := hF.1; omega
      go_wp2_with fail
      rw [← HD.out]
      obtain ⟨⟨z0, z1, z2, z3⟩, _⟩ := (((((hR2.call hB2).far (p := ⟨g, 3, none⟩) (by simpa using hg.symm) hwg (.slice A2 n2 c2)).set0 (.bool b)).set1 (.slice A1 n1 c1)).set2 (.bool true)).set3 (.slice A2 n2 c2) |>.cells
      exact bodyPost_ret (v := .agg #[.bool b, .slice A1 n1 c1, .bool true, .slice A2 n2 c2]) (by generalize World.setCell (World.setCell (World.setCell (World.setCell _ _ _) _ _) _ _) _ _ = W3 at z0 z1 z2 z3 ⊢; simp [results, Tryz.results25, go_sem, z0, z1, z2, z3]) rfl
        ⟨A1, n1, c1, A2, n2, c2, rfl, (((((hI.below hB2).set_ (hne1 3) _).set_ (hne2 0) _).set_ (hne2 1) _).set_ (hne2 2) _).set_ (hne2 3) _, ((((hI2.il.set_ (hm1 3) _).set_ (hm2 0) _).set_ (hm2 1) _).set_ (hm2 2) _).set_ (hm2 3) _, (((((below_from hbc hB2).setCell hwg _).setCell hR3 _).setCell hR3 _).setCell hR3 _).setCell hR3 _, hfn1, fun hz a ha => by have := (hI2.away hz a ha).1; omega⟩

theorem Blk.store4b {w0 W : World} {g : Nat} {t : TypeId} {a b c d e f : Value} (h : Blk w0 g t #[a, b, c, d, e, f] W) (u0 u1 u2 u3 : Value) :
    Blk w0 g t #[u0, u1, u2, u3, e, f] ((((W.setCell ⟨g, 0, none⟩ u0).setCell ⟨g, 1, none⟩ u1).setCell ⟨g, 2, none⟩ u2).setCell ⟨g, 3, none⟩ u3) := (((h.set_ 0 u0).set_ 1 u1).set_ 2 u2).set_ 3 u3
theorem IL.set4b {W : World} {A : Option Addr} {n c g : Nat} {l : List Int} (h : IL W A n c l) (hp : 0 < n → ∀ a, A = some a → a.block ≠ g) (u0 u1 u2 u3 : Value) :
    IL ((((W.setCell ⟨g, 0, none⟩ u0).setCell ⟨g, 1, none⟩ u1).setCell ⟨g, 2, none⟩ u2).setCell ⟨g, 3, none⟩ u3) A n c l :=
  (((h.set_ (p := ⟨g, 0, none⟩) hp _).set_ (p := ⟨g, 1, none⟩) hp _).set_ (p := ⟨g, 2, none⟩) hp _).set_ (p := ⟨g, 3, none⟩) hp _
theorem Blk.far4b {w0 W : World} {g g' : Nat} {t : TypeId} {cs : Array Value} (h : Blk w0 g t cs W) (hg : g ≠ g') (h0 : w0.heap.size ≤ g') (u0 u1 u2 u3 : Value) :
    Blk w0 g t cs ((((W.setCell ⟨g', 0, none⟩ u0).setCell ⟨g', 1, none⟩ u1).setCell ⟨g', 2, none⟩ u2).setCell ⟨g', 3, none⟩ u3) :=
  (((h.far (p := ⟨g', 0, none⟩) hg h0 u0).far (p := ⟨g', 1, none⟩) hg h0 u1).far (p := ⟨g', 2, none⟩) hg h0 u2).far (p := ⟨g', 3, none⟩) hg h0 u3
/-- What a call hands back that makes a state. -/
def RS (w : World) (S : St) (q : Nat) (e : Ending) (w' : World) : Prop :=
  ∃ y : SV, e = .returned (.agg #[.bool y.v.b, .slice y.v.A y.v.n y.v.c, .bool y.v.p, .slice y.v.E y.v.m y.v.q, .int .i64 y.c, .int .i64 y.a]) ∧ Hid (y.s = S) ∧ y.v.ok w' ∧ (y.v.n ≤ q ∧ y.v.m ≤ q) ∧ Below w.heap.size w w'

def RBlk (w : World) (g : Nat) (t : TypeId) (W : World) : Prop := ∃ a b c, Blk w g t #[a, b, c] W
theorem RBlk.drew {w W : World} {g : Nat} {t : TypeId} (h : RBlk w g t W) : RBlk w g t W.drew := by obtain ⟨a, b, c, h⟩ := h; exact ⟨a, b, c, h.drew⟩
theorem RBlk.call {w W W' : World} {g : Nat} {t : TypeId} (h : RBlk w g t W) (hb : Below W.heap.size W W') : RBlk w g t W' := by obtain ⟨a, b, c, h⟩ := h; exact ⟨a, b, c, h.call hb⟩
theorem RBlk.set0 {w W : World} {g : Nat} {t : TypeId} (h : RBlk w g t W) (u : Value) : RBlk w g t (W.setCell ⟨g, 0, none⟩ u) := by obtain ⟨a, b, c, h⟩ := h; exact ⟨u, b, c, h.set_ 0 u⟩
theorem RBlk.set1 {w W : World} {g : Nat} {t : TypeId} (h : RBlk w g t W) (u : Value) : RBlk w g t (W.setCell ⟨g, 1, none⟩ u) := by obtain ⟨a, b, c, h⟩ := h; exact ⟨a, u, c, h.set_ 1 u⟩
theorem RBlk.set2 {w W : World} {g : Nat} {t : TypeId} (h : RBlk w g t W) (u : Value) : RBlk w g t (W.setCell ⟨g, 2, none⟩ u) := by obtain ⟨a, b, c, h⟩ := h; exact ⟨a, b, u, h.set_ 2 u⟩
theorem two_l3 {w : World} {g g' : Nat} {t t' : TypeId} {a b c : Value} {W : World} (h : Blk w g t #[a, b, c] W) (h' : RBlk w g' t' W) :
    (W.cell? ⟨g, 0, none⟩ = some a ∧ W.cell? ⟨g, 1, none⟩ = some b ∧ W.cell? ⟨g, 2, none⟩ = some c) ∧ (Blk w g t #[a, b, c] W ∧ RBlk w g' t' W) :=
  ⟨⟨h.cell 0, h.cell 1, h.cell 2⟩, h, h'⟩
end Go.Proofs.YtickhmlhciafgaaGreat


namespace Go.Proofs.YtickhmlhciafgaaGreat
open Go.RowKit
set_option linter.unusedVariables false

theorem commit1_any (y : RuV) {w0 : World} {g : Nat} {A : Option Addr} {n c : Nat} (D : Dc) (w : World) (hG : Blk w0 g 32 y.cs w) (hy : y.ok w) (hr : y.r.Bd) (hI : IL w A n c D.l) (iD : I64 D.l) (sD : -9223372036854775808 ≤ D.s ∧ D.s ≤ 9223372036854775807) (nD : n ≤ 5000) :
    Calls Tryz.prog 71 #[.agg #[.bool D.neg, .slice A n c, .int .i64 D.s], .pointer (some ⟨g, 0, none⟩)] w (RCE w (valueC y.r D).1 (valueC y.r D).2) := by
  have hva := Lib.hid (fun W (hW : y.ok W) (hE : IL W A n c D.l) => show Calls Tryz.prog 14 #[.agg y.cs, .agg #[.bool D.neg, .slice A n c, .int .i64 D.s]] W (RCE W (valueC y.r D).1 (valueC y.r D).2) from cvalue_any y D W hW hE hr iD sD nD)
  generalize valueC y.r D = V at *
  obtain ⟨V, ec⟩ := V
  simp only at hva
  have hX := (Blk.made w w 29 #[.bool D.neg, .slice A n c, .int .i64 D.s] (Later.refl w) _ rfl).alloc (.cells #[.bool false, .slice none 0 0, .int .i64 0] 29)
  have hR := Blk.made w (w.alloc (.cells #[.bool D.neg, .slice A n c, .int .i64 D.s] 29)) 29 #[.bool false, .slice none 0 0, .int .i64 0] ((Later.refl w).alloc _) (w.heap.size + 1) (by simp)
  have hG1 := (hG.alloc (.cells #[.bool D.neg, .slice A n c, .int .i64 D.s] 29)).alloc (.cells #[.bool false, .slice none 0 0, .int .i64 0] 29)
  go_enter Tryz.func71, Tryz.ntmps71
  go_upto_region 1 with fail
  generalize World.alloc (World.alloc w _) _ = w1 at *
  go_wp2_with (first | (refine wpList_load_blk hG1 row_rules rfl rfl rfl rfl ?_; go_simp) | (refine wpList_load_blk hX row_dec rfl rfl rfl rfl ?_; go_simp))
  refine (hva.out _ (hy.later hX.later) (hI.later hX.later)).mono ?_
  rintro e w2 ⟨A2, n2, c2, rfl, hI2, hB2, hN2⟩
  have hR2 := hR.call hB2
  have hlt := hR.lt
  go_wp2_with (refine wpList_store_blk hR2 row_dec rfl rfl rfl rfl rfl rfl (by kernel_rfl) ?_; intro w9 hR9 hS9; go_simp)
  exact bodyPost_ret (results_ct hR9 row_dec rfl Tryz.results71 rfl rfl) rfl ⟨A2, n2, c2, rfl, hS9.il hI2 (fun hz a ha => by have := hN2 hz a ha; omega), hS9.below hR2.later (by omega), fun hz a ha => by have := hN2 hz a ha; omega⟩

end Go.Proofs.YtickhmlhciafgaaGreat

