/- A decimal in a block of the call's own, and its digits: one fact for both. No condition. -/
import Derived.Test.YtaolimhbeoocjaaDe15
namespace Go.Proofs.Ytaolimhbeoocjaa
open Go.RowKit

def DB (w0 : World) (g : Nat) (t : TypeId) (A : Option Addr) (n c : Nat) (X : Dc) (W : World) : Prop :=
  Blk w0 g t #[.bool X.neg, .slice A n c, .int .i64 X.s] W ∧ IL W A n c X.l
section
variable {w0 W W' : World} {g : Nat} {t : TypeId} {A : Option Addr} {n c : Nat} {X : Dc}
theorem DB.alloc (h : DB w0 g t A n c X W) (o : Obj) : DB w0 g t A n c X (W.alloc o) := ⟨h.1.alloc o, h.2.alloc o⟩
theorem DB.call (h : DB w0 g t A n c X W) (hb : Below W.heap.size W W') : DB w0 g t A n c X W' := ⟨h.1.call hb, h.2.below hb⟩
theorem DB.made (w0 W : World) (t : TypeId) {A : Option Addr} {n c : Nat} {X : Dc} (hL : Later w0 W) (hI : IL W A n c X.l) (g : Nat) (hg : g = W.heap.size) :
    DB w0 g t A n c X (W.alloc (.cells #[.bool X.neg, .slice A n c, .int .i64 X.s] t)) := ⟨Blk.made w0 W t _ hL g hg, hI.alloc _⟩
theorem DB.later (h : DB w0 g t A n c X W) : Later w0 W := h.1.later
theorem DB.il (h : DB w0 g t A n c X W) : IL W A n c X.l := h.2
theorem DB.at_ (h : DB w0 g t A n c X W) : DcAt g A n c X W := ⟨h.1.cells3.1, h.2⟩
theorem DB.c0 (h : DB w0 g t A n c X W) : W.cell? ⟨g, 0, none⟩ = some (.bool X.neg) := h.1.cells3.1.1
theorem DB.c1 (h : DB w0 g t A n c X W) : W.cell? ⟨g, 1, none⟩ = some (.slice A n c) := h.1.cells3.1.2.1
theorem DB.c2 (h : DB w0 g t A n c X W) : W.cell? ⟨g, 2, none⟩ = some (.int .i64 X.s) := h.1.cells3.1.2.2
theorem DB.len (h : DB w0 g t A n c X W) : X.l.length = n := h.2.len
end
/-- What is read of a later world. -/
theorem DcAt.call {g : Nat} {A : Option Addr} {n c : Nat} {X : Dc} {W W' : World} (h : DcAt g A n c X W) (hb : Below W.heap.size W W') : DcAt g A n c X W' := h.later hb
/-- Two decimals that are the same. -/
theorem csame_at {g : Nat} {A : Option Addr} {n c : Nat} {X : Dc} {g2 : Nat} {A2 : Option Addr} {n2 c2 : Nat} {W : World} (h : DcAt g A n c X W) (h2 : DcAt g2 A2 n2 c2 X W) (s : Ext W) :
    Calls Try.prog 12 #[.agg #[.bool X.neg, .slice A n c, .int .i64 X.s], .agg #[.bool X.neg, .slice A2 n2 c2, .int .i64 X.s]] s.world (RV s.world (.bool true)) := by
  have := csame_any X.neg X.neg X.s X.s s.world (h.il s) (h2.il s)
  rw [show sameDc ⟨X.neg, X.l, X.s⟩ ⟨X.neg, X.l, X.s⟩ = true from sameDc_refl _] at this
  exact this
/-- A decimal's value: where its digits lie, and how they read. -/
structure CV where
  A : Option Addr
  n : Nat
  c : Nat
  X : Dc
def CV.ok (x : CV) (W : World) : Prop := IL W x.A x.n x.c x.X.l
theorem CV.ok.later {x : CV} {W W' : World} (h : x.ok W) (hb : Later W W') : x.ok W' := IL.later h hb
/-- The three cells of a decimal from an offset on. -/
def CV.at_ (x : CV) (W : World) (g o : Nat) : Prop :=
  W.cell? ⟨g, o, none⟩ = some (.bool x.X.neg) ∧ W.cell? ⟨g, o + 1, none⟩ = some (.slice x.A x.n x.c) ∧ W.cell? ⟨g, o + 2, none⟩ = some (.int .i64 x.X.s)
theorem CV.at_.later {x : CV} {W W' : World} {g o : Nat} (h : x.at_ W g o) (hb : Later W W') : x.at_ W' g o := ⟨hb.cell h.1, hb.cell h.2.1, hb.cell h.2.2⟩
/-- A decimal stored into a block of the call's own. -/
theorem DB.store {w0 W : World} {g : Nat} {t : TypeId} {a b c : Value} (h : Blk w0 g t #[a, b, c] W) {A : Option Addr} {n q : Nat} {X : Dc} (hI : IL W A n q X.l) (hp : 0 < n → ∀ a, A = some a → a.block ≠ g) :
    DB w0 g t A n q X (((W.setCell ⟨g, 0, none⟩ (.bool X.neg)).setCell ⟨g, 1, none⟩ (.slice A n q)).setCell ⟨g, 2, none⟩ (.int .i64 X.s)) :=
  ⟨h.store3 _ _ _, hI.set3 hp _ _ _⟩
theorem DB.from_ {w0 w1 W : World} {g : Nat} {t : TypeId} {A : Option Addr} {n c : Nat} {X : Dc} (hL : Later w0 w1) (h : DB w1 g t A n c X W) : DB w0 g t A n c X W :=
  ⟨⟨Nat.le_trans hL.size h.1.1, h.1.2.1, below_from hL h.later⟩, h.2⟩
theorem IL.block_lt {W : World} {A : Option Addr} {n c : Nat} {l : List Int} (h : IL W A n c l) : 0 < n → ∀ a, A = some a → a.block < W.heap.size := by
  intro hn a ha
  obtain ⟨b, off, e, hb, _⟩ := h.2.2.2 hn
  rw [ha] at e
  rw [Option.some.inj e]
  exact hb
theorem IL.apart {W : World} {A : Option Addr} {n c : Nat} {l : List Int} (h : IL W A n c l) {g : Nat} (hg : W.heap.size ≤ g) : 0 < n → ∀ a, A = some a → a.block ≠ g := fun hn a ha => by
  have := h.block_lt hn a ha
  omega

end Go.Proofs.Ytaolimhbeoocjaa
