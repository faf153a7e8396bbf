/- Regions that draw their order, whose values do not hang on the memory that is made beside them: one walk. No condition. -/
import Derived.Test.YtegmdjfohlomnaaDoorDb
namespace Go.Proofs.YtegmdjfohlomnaaDoor
open Go.RowKit

/-- A later world: of what was there nothing has turned. -/
structure Ext (w : World) where
  world : World
  h : Below w.heap.size w world
def Ext.refl (w : World) : Ext w := ⟨w, Below.refl _ _⟩
def Ext.next {w : World} (s : Ext w) {w' : World} (h : Below s.world.heap.size s.world w') : Ext w := ⟨w', below_from s.h h⟩
instance (w : World) : Inhabited (Ext w) := ⟨Ext.refl w⟩
instance (w : World) : Nonempty (Ext w) := ⟨Ext.refl w⟩

theorem Ext.cell {w : World} {p : Addr} {v : Value} (h : w.cell? p = some v) (s : Ext w) : s.world.cell? p = some v := by
  rw [s.h.cell (World.block_lt_of_cell? w p h)]; exact h
theorem IL.ext {w : World} {A : Option Addr} {n c : Nat} {l : List Int} (h : IL w A n c l) (s : Ext w) : IL s.world A n c l := h.below s.h

theorem quiet_ext {P : Program} {f : FuncId} {args : Array Value} {w : World} (s : Ext w) {v : Value} (h : Calls P f args s.world (RV s.world v)) :
    Calls P f args s.world fun e w'' => e = .returned v ∧ ∃ s' : Ext w, w'' = s'.world :=
  h.mono fun _ _ ⟨he, hb⟩ => ⟨he, s.next hb, rfl⟩

theorem wp_region_ext {P : Program} {id : Nat} {l : List Oper} {Q : Exit → Act → World → Prop} {a : Act} {w : World} (hm : P.follows .mixedOrders = true) (hB : Region.lexB .any l.toArray = true)
    (h : wpQuiet P l.toArray (fun W => ∃ s : Ext w, W = s.world) (fun a' => ∀ w', (∃ s : Ext w, w' = s.world) → Q .normal a' w') l a) : (Code.region id l.toArray true).wp P Q a w :=
  wp_region_quiet (C := fun W => ∃ s : Ext w, W = s.world) hm hB ⟨(⟨w.drew, ⟨rfl, rfl, rfl, Nat.le_refl _, fun _ _ => rfl⟩⟩ : Ext w), rfl⟩ h

/-- Of what was there in w nothing has turned: closed to the walk. -/
def Later (w W : World) : Prop := Below w.heap.size w W
theorem Later.refl (w : World) : Later w w := Below.refl _ _
theorem Later.drew {w W : World} (h : Later w W) : Later w W.drew := Below.drew h
theorem Later.call {w W W' : World} (h : Later w W) (hb : Below W.heap.size W W') : Later w W' := below_from h hb
theorem Later.alloc {w W : World} (h : Later w W) (o : Obj) : Later w (W.alloc o) := Below.alloc h h.size o
theorem Later.setCell {w W : World} (h : Later w W) {p : Addr} (hp : w.heap.size ≤ p.block) (u : Value) : Later w (W.setCell p u) := Below.setCell h hp u
theorem Later.cell {w W : World} (h : Later w W) {p : Addr} {v : Value} (hc : w.cell? p = some v) : W.cell? p = some v := by
  rw [Below.cell h (World.block_lt_of_cell? w p hc)]; exact hc
theorem Later.size {w W : World} (h : Later w W) : w.heap.size ≤ W.heap.size := Below.size h
theorem IL.later {w W : World} {A : Option Addr} {n c : Nat} {l : List Int} (h : IL w A n c l) (hb : Later w W) : IL W A n c l := h.below hb

/-- A block of four cells of the call's own. -/
def Fresh4 (w0 : World) (g : Nat) (t : TypeId) (a b c d : Value) (W : World) : Prop :=
  w0.heap.size ≤ g ∧ W.heap[g]? = some (.cells #[a, b, c, d] t (0, 0)) ∧ Later w0 W
section
variable {w0 W W' : World} {g : Nat} {t : TypeId} {a b c d : Value}
theorem Fresh4.lt (h : Fresh4 w0 g t a b c d W) : g < W.heap.size := (Array.getElem?_eq_some_iff.1 h.2.1).1
theorem Fresh4.cells (h : Fresh4 w0 g t a b c d W) : (W.cell? ⟨g, 0, none⟩ = some a ∧ W.cell? ⟨g, 1, none⟩ = some b ∧ W.cell? ⟨g, 2, none⟩ = some c ∧ W.cell? ⟨g, 3, none⟩ = some d) ∧
    (W.frozen? ⟨g, 0, none⟩ = false ∧ W.frozen? ⟨g, 1, none⟩ = false ∧ W.frozen? ⟨g, 2, none⟩ = false ∧ W.frozen? ⟨g, 3, none⟩ = false) := by
  have hc : ∀ i, W.cell? ⟨g, i, none⟩ = (#[a, b, c, d] : Array Value)[i]? := fun i => cell_of_row W g i _ t (0, 0) h.2.1
  have hz : ∀ i, W.frozen? ⟨g, i, none⟩ = false := fun i => by
    have := h.2.1
    simp [World.frozen?, this]
  exact ⟨⟨hc 0, hc 1, hc 2, hc 3⟩, hz 0, hz 1, hz 2, hz 3⟩
theorem Fresh4.call (h : Fresh4 w0 g t a b c d W) (hb : Below W.heap.size W W') : Fresh4 w0 g t a b c d W' :=
  ⟨h.1, (hb.block g h.lt).trans h.2.1, h.2.2.call hb⟩
theorem Fresh4.made (w0 W : World) (t : TypeId) (a b c d : Value) (h : Later w0 W) (g : Nat) (hg : g = W.heap.size) : Fresh4 w0 g t a b c d (W.alloc (.cells #[a, b, c, d] t)) := by
  subst hg
  exact ⟨h.size, heap_alloc_new W _, h.alloc _⟩
theorem Fresh4.drew (h : Fresh4 w0 g t a b c d W) : Fresh4 w0 g t a b c d W.drew := ⟨h.1, h.2.1, h.2.2.drew⟩
theorem Fresh4.alloc (h : Fresh4 w0 g t a b c d W) (o : Obj) : Fresh4 w0 g t a b c d (W.alloc o) := h.call ((Below.refl _ _).alloc (Nat.le_refl _) _)
theorem Fresh4.set_ (h : Fresh4 w0 g t a b c d W) (i : Nat) (u : Value) : w0.heap.size ≤ g ∧ (W.setCell ⟨g, i, none⟩ u).heap[g]? = some (.cells (#[a, b, c, d].setIfInBounds i u) t (0, 0)) ∧ Later w0 (W.setCell ⟨g, i, none⟩ u) := by
  refine ⟨h.1, ?_, h.2.2.setCell h.1 _⟩
  have := h.2.1
  simp [World.setCell, Array.getElem?_modify, this]
theorem Fresh4.set0 (h : Fresh4 w0 g t a b c d W) (u : Value) : Fresh4 w0 g t u b c d (W.setCell ⟨g, 0, none⟩ u) := h.set_ 0 u
theorem Fresh4.set1 (h : Fresh4 w0 g t a b c d W) (u : Value) : Fresh4 w0 g t a u c d (W.setCell ⟨g, 1, none⟩ u) := h.set_ 1 u
theorem Fresh4.set2 (h : Fresh4 w0 g t a b c d W) (u : Value) : Fresh4 w0 g t a b u d (W.setCell ⟨g, 2, none⟩ u) := h.set_ 2 u
theorem Fresh4.set3 (h : Fresh4 w0 g t a b c d W) (u : Value) : Fresh4 w0 g t a b c u (W.setCell ⟨g, 3, none⟩ u) := h.set_ 3 u
theorem Fresh4.far (h : Fresh4 w0 g t a b c d W) {p : Addr} (hp : g ≠ p.block) (h0 : w0.heap.size ≤ p.block) (u : Value) : Fresh4 w0 g t a b c d (W.setCell p u) :=
  ⟨h.1, (Below.heap_setCell W p u g hp).trans h.2.1, h.2.2.setCell h0 u⟩
end
/-- A list of integers beside a store elsewhere. -/
theorem IL.set_ {W : World} {A : Option Addr} {n c : Nat} {l : List Int} (h : IL W A n c l) {p : Addr} (hp : 0 < n → ∀ a, A = some a → a.block ≠ p.block) (u : Value) : IL (W.setCell p u) A n c l := by
  obtain ⟨h1, h2, h3, h4⟩ := h
  refine ⟨h1, h2, h3, fun hn => ?_⟩
  obtain ⟨b, off, e, hb, hc⟩ := h4 hn
  refine ⟨b, off, e, by simpa [World.setCell] using hb, fun j v hj => ?_⟩
  rw [World.cell?_setCell_other W p _ u (fun e2 => hp hn _ e (by rw [e2]))]
  exact hc j v hj

theorem OL.away {W : World} {B n c : Nat} {A : Option Addr} {l : List Int} (h : OL W B A n c l) : 0 < n → ∀ a, A = some a → B ≤ a.block ∧ a.block ≠ W.heap.size := by
  intro hn a ha
  obtain ⟨a', ha', hb'⟩ := h.new hn
  obtain ⟨b, off, e, hb, _⟩ := h.il.2.2.2 hn
  subst ha
  obtain rfl := Option.some.inj ha'
  obtain rfl := Option.some.inj e
  exact ⟨hb', Nat.ne_of_lt hb⟩
theorem OL.after_ {W : World} {B S n c : Nat} {A : Option Addr} {l : List Int} (h : OL W B A n c l) (hB : B = S + 1) : 0 < n → ∀ a, A = some a → S ≤ a.block ∧ a.block ≠ S := by
  intro hn a ha
  obtain ⟨a', ha', hb'⟩ := h.new hn
  subst ha
  obtain rfl := Option.some.inj ha'
  omega

end Go.Proofs.YtegmdjfohlomnaaDoor
