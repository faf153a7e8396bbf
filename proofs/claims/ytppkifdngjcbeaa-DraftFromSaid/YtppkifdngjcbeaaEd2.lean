/- States in blocks; the walks of what a state may be. No condition. -/
import Derived.Test.YtppkifdngjcbeaaEd1
import Derived.Test.YtppkifdngjcbeaaDV
namespace Go.Proofs.Ytppkifdngjcbeaa
open Go.RowKit

/-- A state's value. -/
structure SV where
  v : DV
  c : Int
  a : Int
def SV.s (x : SV) : St := ⟨x.v.d, x.c, x.a⟩
def DV.fit (x : DV) : Prop := I64 x.l ∧ I64 x.f ∧ x.n ≤ 10000 ∧ x.m ≤ 10000
def I6 (k : Int) : Prop := -9223372036854775808 ≤ k ∧ k ≤ 9223372036854775807
def SV.fit (x : SV) : Prop := x.v.fit ∧ I6 x.c ∧ I6 x.a
section
variable {w0 W W' : World} {g : Nat} {t : TypeId}
theorem Blk.cells2 {a b : Value} (h : Blk w0 g t #[a, b] W) :
    (W.cell? ⟨g, 0, none⟩ = some a ∧ W.cell? ⟨g, 1, none⟩ = some b) ∧ (W.frozen? ⟨g, 0, none⟩ = false ∧ W.frozen? ⟨g, 1, none⟩ = false) :=
  ⟨⟨h.cell 0, h.cell 1⟩, h.free 0, h.free 1⟩
theorem Blk.cells4 {a b c d : Value} (h : Blk w0 g t #[a, b, c, d] W) :
    (W.cell? ⟨g, 0, none⟩ = some a ∧ W.cell? ⟨g, 1, none⟩ = some b ∧ W.cell? ⟨g, 2, none⟩ = some c ∧ W.cell? ⟨g, 3, none⟩ = some d) ∧
    (W.frozen? ⟨g, 0, none⟩ = false ∧ W.frozen? ⟨g, 1, none⟩ = false ∧ W.frozen? ⟨g, 2, none⟩ = false ∧ W.frozen? ⟨g, 3, none⟩ = false) :=
  ⟨⟨h.cell 0, h.cell 1, h.cell 2, h.cell 3⟩, h.free 0, h.free 1, h.free 2, h.free 3⟩
theorem Blk.cells6 {a b c d e f : Value} (h : Blk w0 g t #[a, b, c, d, e, f] W) :
    (W.cell? ⟨g, 0, none⟩ = some a ∧ W.cell? ⟨g, 1, none⟩ = some b ∧ W.cell? ⟨g, 2, none⟩ = some c ∧ W.cell? ⟨g, 3, none⟩ = some d ∧ W.cell? ⟨g, 4, none⟩ = some e ∧ W.cell? ⟨g, 5, none⟩ = some f) ∧
    (W.frozen? ⟨g, 0, none⟩ = false ∧ W.frozen? ⟨g, 1, none⟩ = false ∧ W.frozen? ⟨g, 2, none⟩ = false ∧ W.frozen? ⟨g, 3, none⟩ = false ∧ W.frozen? ⟨g, 4, none⟩ = false ∧ W.frozen? ⟨g, 5, none⟩ = false) :=
  ⟨⟨h.cell 0, h.cell 1, h.cell 2, h.cell 3, h.cell 4, h.cell 5⟩, h.free 0, h.free 1, h.free 2, h.free 3, h.free 4, h.free 5⟩
theorem Blk.store6 {a b c d e f : Value} (h : Blk w0 g t #[a, b, c, d, e, f] W) (u0 u1 u2 u3 u4 u5 : Value) :
    Blk w0 g t #[u0, u1, u2, u3, u4, u5] ((((((W.setCell ⟨g, 0, none⟩ u0).setCell ⟨g, 1, none⟩ u1).setCell ⟨g, 2, none⟩ u2).setCell ⟨g, 3, none⟩ u3).setCell ⟨g, 4, none⟩ u4).setCell ⟨g, 5, none⟩ u5) :=
  (((((h.set_ 0 u0).set_ 1 u1).set_ 2 u2).set_ 3 u3).set_ 4 u4).set_ 5 u5
theorem IL.set6 {A : Option Addr} {n c : Nat} {l : List Int} (h : IL W A n c l) (hp : 0 < n → ∀ a, A = some a → a.block ≠ g) (u0 u1 u2 u3 u4 u5 : Value) :
    IL ((((((W.setCell ⟨g, 0, none⟩ u0).setCell ⟨g, 1, none⟩ u1).setCell ⟨g, 2, none⟩ u2).setCell ⟨g, 3, none⟩ u3).setCell ⟨g, 4, none⟩ u4).setCell ⟨g, 5, none⟩ u5) A n c l :=
  (((((h.set_ (p := ⟨g, 0, none⟩) hp _).set_ (p := ⟨g, 1, none⟩) hp _).set_ (p := ⟨g, 2, none⟩) hp _).set_ (p := ⟨g, 3, none⟩) hp _).set_ (p := ⟨g, 4, none⟩) hp _).set_ (p := ⟨g, 5, none⟩) hp _
theorem below_set6 {B : Nat} (h : Below B w0 W) (hg : B ≤ g) (u0 u1 u2 u3 u4 u5 : Value) :
    Below B w0 ((((((W.setCell ⟨g, 0, none⟩ u0).setCell ⟨g, 1, none⟩ u1).setCell ⟨g, 2, none⟩ u2).setCell ⟨g, 3, none⟩ u3).setCell ⟨g, 4, none⟩ u4).setCell ⟨g, 5, none⟩ u5) :=
  (((((h.setCell (p := ⟨g, 0, none⟩) hg _).setCell (p := ⟨g, 1, none⟩) hg _).setCell (p := ⟨g, 2, none⟩) hg _).setCell (p := ⟨g, 3, none⟩) hg _).setCell (p := ⟨g, 4, none⟩) hg _).setCell (p := ⟨g, 5, none⟩) hg _
end
/-- A state in a block of the call's own. -/
def SB (w0 : World) (g : Nat) (t : TypeId) (x : SV) (W : World) : Prop :=
  Blk w0 g t #[.bool x.v.b, .slice x.v.A x.v.n x.v.c, .bool x.v.p, .slice x.v.E x.v.m x.v.q, .int .i64 x.c, .int .i64 x.a] W ∧ x.v.ok W
/-- A draft in a block of the call's own. -/
def DBk (w0 : World) (g : Nat) (t : TypeId) (x : DV) (W : World) : Prop :=
  Blk w0 g t #[.bool x.b, .slice x.A x.n x.c, .bool x.p, .slice x.E x.m x.q] W ∧ x.ok W
section
variable {w0 W W' : World} {g : Nat} {t : TypeId} {x : SV} {y : DV}
theorem SB.alloc (h : SB w0 g t x W) (o : Obj) : SB w0 g t x (W.alloc o) := ⟨h.1.alloc o, h.2.alloc o⟩
theorem SB.call (h : SB w0 g t x W) (hb : Below W.heap.size W W') : SB w0 g t x W' := ⟨h.1.call hb, h.2.below hb⟩
theorem SB.made (w0 W : World) (t : TypeId) (x : SV) (hL : Later w0 W) (hI : x.v.ok W) (g : Nat) (hg : g = W.heap.size) :
    SB w0 g t x (W.alloc (.cells #[.bool x.v.b, .slice x.v.A x.v.n x.v.c, .bool x.v.p, .slice x.v.E x.v.m x.v.q, .int .i64 x.c, .int .i64 x.a] t)) := ⟨Blk.made w0 W t _ hL g hg, hI.alloc _⟩
theorem SB.later (h : SB w0 g t x W) : Later w0 W := h.1.later
theorem SB.ok (h : SB w0 g t x W) : x.v.ok W := h.2
theorem SB.c0 (h : SB w0 g t x W) : W.cell? ⟨g, 0, none⟩ = some (.bool x.v.b) := h.1.cells6.1.1
theorem SB.c1 (h : SB w0 g t x W) : W.cell? ⟨g, 1, none⟩ = some (.slice x.v.A x.v.n x.v.c) := h.1.cells6.1.2.1
theorem SB.c2 (h : SB w0 g t x W) : W.cell? ⟨g, 2, none⟩ = some (.bool x.v.p) := h.1.cells6.1.2.2.1
theorem SB.c3 (h : SB w0 g t x W) : W.cell? ⟨g, 3, none⟩ = some (.slice x.v.E x.v.m x.v.q) := h.1.cells6.1.2.2.2.1
theorem SB.c4 (h : SB w0 g t x W) : W.cell? ⟨g, 4, none⟩ = some (.int .i64 x.c) := h.1.cells6.1.2.2.2.2.1
theorem SB.c5 (h : SB w0 g t x W) : W.cell? ⟨g, 5, none⟩ = some (.int .i64 x.a) := h.1.cells6.1.2.2.2.2.2
theorem DBk.alloc (h : DBk w0 g t y W) (o : Obj) : DBk w0 g t y (W.alloc o) := ⟨h.1.alloc o, h.2.alloc o⟩
theorem DBk.call (h : DBk w0 g t y W) (hb : Below W.heap.size W W') : DBk w0 g t y W' := ⟨h.1.call hb, h.2.below hb⟩
theorem DBk.made (w0 W : World) (t : TypeId) (y : DV) (hL : Later w0 W) (hI : y.ok W) (g : Nat) (hg : g = W.heap.size) :
    DBk w0 g t y (W.alloc (.cells #[.bool y.b, .slice y.A y.n y.c, .bool y.p, .slice y.E y.m y.q] t)) := ⟨Blk.made w0 W t _ hL g hg, hI.alloc _⟩
theorem DBk.later (h : DBk w0 g t y W) : Later w0 W := h.1.later
theorem DBk.ok (h : DBk w0 g t y W) : y.ok W := h.2
theorem DBk.c0 (h : DBk w0 g t y W) : W.cell? ⟨g, 0, none⟩ = some (.bool y.b) := h.1.cells4.1.1
theorem DBk.c1 (h : DBk w0 g t y W) : W.cell? ⟨g, 1, none⟩ = some (.slice y.A y.n y.c) := h.1.cells4.1.2.1
theorem DBk.c2 (h : DBk w0 g t y W) : W.cell? ⟨g, 2, none⟩ = some (.bool y.p) := h.1.cells4.1.2.2.1
theorem DBk.c3 (h : DBk w0 g t y W) : W.cell? ⟨g, 3, none⟩ = some (.slice y.E y.m y.q) := h.1.cells4.1.2.2.2
end
theorem IL.blt {W : World} {A : Option Addr} {n c : Nat} {l : List Int} (h : IL W A n c l) : 0 < n → ∀ a, A = some a → a.block < W.heap.size := by
  intro hn a ha
  obtain ⟨b, off, e, hb, _⟩ := h.2.2.2 hn
  rw [ha] at e
  rw [Option.some.inj e]
  exact hb
theorem DV.ok.old {y : DV} {W : World} (h : y.ok W) : (0 < y.n → ∀ a, y.A = some a → a.block < W.heap.size) ∧ (0 < y.m → ∀ a, y.E = some a → a.block < W.heap.size) := ⟨h.1.blt, h.2.blt⟩
/-- The same with another sign. -/
def DV.ng (y : DV) (b : Bool) : DV := ⟨b, y.A, y.n, y.c, y.l, y.p, y.E, y.m, y.q, y.f⟩
def SV.ng (x : SV) (b : Bool) : SV := ⟨x.v.ng b, x.c, x.a⟩
theorem SB.neg {w0 W : World} {g : Nat} {t : TypeId} {x : SV} (h : SB w0 g t x W) (b : Bool) (h1 : 0 < x.v.n → ∀ a, x.v.A = some a → a.block ≠ g) (h2 : 0 < x.v.m → ∀ a, x.v.E = some a → a.block ≠ g) :
    SB w0 g t (x.ng b) (W.setCell ⟨g, 0, none⟩ (.bool b)) := ⟨h.1.set_ 0 (.bool b), h.2.1.set_ h1 _, h.2.2.set_ h2 _⟩
theorem DBk.neg {w0 W : World} {g : Nat} {t : TypeId} {x : DV} (h : DBk w0 g t x W) (b : Bool) (h1 : 0 < x.n → ∀ a, x.A = some a → a.block ≠ g) (h2 : 0 < x.m → ∀ a, x.E = some a → a.block ≠ g) :
    DBk w0 g t (x.ng b) (W.setCell ⟨g, 0, none⟩ (.bool b)) := ⟨h.1.set_ 0 (.bool b), h.2.1.set_ h1 _, h.2.2.set_ h2 _⟩
/-- A draft and a code, the draft's value in one word. -/
def RDV (w : World) (Q : Dr) (code : Int) (e : Ending) (w' : World) : Prop :=
  ∃ y : DV, e = .returned (.tuple #[.agg #[.bool y.b, .slice y.A y.n y.c, .bool y.p, .slice y.E y.m y.q], .int .i64 code]) ∧ Hid (y.d = Q) ∧ y.ok w' ∧ Below w.heap.size w w' ∧
    (0 < y.n → ∀ a, y.A = some a → w.heap.size ≤ a.block) ∧ (0 < y.m → ∀ a, y.E = some a → w.heap.size ≤ a.block)
theorem RDE.dv {w : World} {Q : Dr} {code : Int} {e : Ending} {w' : World} (h : RDE w Q code e w') : RDV w Q code e w' := by
  obtain ⟨A, n, c, E, m, k, h1, h2, h3, h4, h5, h6⟩ := h
  exact ⟨⟨Q.neg, A, n, c, Q.int, Q.sep, E, m, k, Q.frac⟩, h1, rfl, ⟨h2, h3⟩, h4, h5, h6⟩
theorem DV.ok.lens {y : DV} {W : World} (h : y.ok W) : (y.n : Int) = y.d.int.length ∧ (y.m : Int) = y.d.frac.length := ⟨by have := h.1.len; simp [DV.d]; omega, by have := h.2.len; simp [DV.d]; omega⟩
theorem DV.ok.set6 {y : DV} {W : World} {g : Nat} (h : y.ok W) (h1 : 0 < y.n → ∀ a, y.A = some a → a.block ≠ g) (h2 : 0 < y.m → ∀ a, y.E = some a → a.block ≠ g) (u0 u1 u2 u3 u4 u5 : Value) :
    y.ok ((((((W.setCell ⟨g, 0, none⟩ u0).setCell ⟨g, 1, none⟩ u1).setCell ⟨g, 2, none⟩ u2).setCell ⟨g, 3, none⟩ u3).setCell ⟨g, 4, none⟩ u4).setCell ⟨g, 5, none⟩ u5) :=
  ⟨h.1.set6 h1 _ _ _ _ _ _, h.2.set6 h2 _ _ _ _ _ _⟩
/-- Its lists lie below B. -/
def SV.olds (x : SV) (B : Nat) : Prop := (0 < x.v.n → ∀ a, x.v.A = some a → a.block < B) ∧ (0 < x.v.m → ∀ a, x.v.E = some a → a.block < B)
/-- What a call hands back that makes a state: the state, a code; its lists lie below B. -/
def RSE (B : Nat) (w : World) (S : St) (code : Int) (e : Ending) (w' : World) : Prop :=
  ∃ x : SV, e = .returned (.tuple #[.agg #[.bool x.v.b, .slice x.v.A x.v.n x.v.c, .bool x.v.p, .slice x.v.E x.v.m x.v.q, .int .i64 x.c, .int .i64 x.a], .int .i64 code]) ∧ Hid (x.s = S) ∧ x.v.ok w' ∧ Below w.heap.size w w' ∧
    (0 < x.v.n → ∀ a, x.v.A = some a → a.block < B) ∧ (0 < x.v.m → ∀ a, x.v.E = some a → a.block < B)
/-- The like, with lists that are new. -/
def RSF (w : World) (S : St) (code : Int) (e : Ending) (w' : World) : Prop :=
  ∃ x : SV, e = .returned (.tuple #[.agg #[.bool x.v.b, .slice x.v.A x.v.n x.v.c, .bool x.v.p, .slice x.v.E x.v.m x.v.q, .int .i64 x.c, .int .i64 x.a], .int .i64 code]) ∧ Hid (x.s = S) ∧ x.v.ok w' ∧ Below w.heap.size w w' ∧
    (0 < x.v.n → ∀ a, x.v.A = some a → w.heap.size ≤ a.block) ∧ (0 < x.v.m → ∀ a, x.v.E = some a → w.heap.size ≤ a.block)
theorem none_old (B : Nat) : 0 < 0 → ∀ a : Addr, none = some a → a.block < B := fun h => absurd h (by omega)

end Go.Proofs.Ytppkifdngjcbeaa
