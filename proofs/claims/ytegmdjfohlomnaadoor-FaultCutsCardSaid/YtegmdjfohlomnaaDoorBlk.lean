/- Blocks of the call's own, known whole. No condition. -/
import Derived.Test.YtegmdjfohlomnaaDoorExt
namespace Go.Proofs.YtegmdjfohlomnaaDoor
open Go.RowKit

/-- A block of cells of the call's own, known whole. -/
def Blk (w0 : World) (g : Nat) (t : TypeId) (cs : Array Value) (W : World) : Prop :=
  w0.heap.size ≤ g ∧ W.heap[g]? = some (.cells cs t (0, 0)) ∧ Later w0 W
section
variable {w0 W W' : World} {g : Nat} {t : TypeId} {cs : Array Value}
theorem Blk.lt (h : Blk w0 g t cs W) : g < W.heap.size := (Array.getElem?_eq_some_iff.1 h.2.1).1
theorem Blk.cell (h : Blk w0 g t cs W) (i : Nat) : W.cell? ⟨g, i, none⟩ = cs[i]? := cell_of_row W g i _ t (0, 0) h.2.1
theorem Blk.free (h : Blk w0 g t cs W) (i : Nat) : W.frozen? ⟨g, i, none⟩ = false := by
  have := h.2.1
  simp [World.frozen?, this]
theorem Blk.later (h : Blk w0 g t cs W) : Later w0 W := h.2.2
theorem Blk.call (h : Blk w0 g t cs W) (hb : Below W.heap.size W W') : Blk w0 g t cs W' :=
  ⟨h.1, (hb.block g h.lt).trans h.2.1, h.2.2.call hb⟩
theorem Blk.made (w0 W : World) (t : TypeId) (cs : Array Value) (h : Later w0 W) (g : Nat) (hg : g = W.heap.size) : Blk w0 g t cs (W.alloc (.cells cs t)) := by
  subst hg
  exact ⟨h.size, heap_alloc_new W _, h.alloc _⟩
theorem Blk.drew (h : Blk w0 g t cs W) : Blk w0 g t cs W.drew := ⟨h.1, h.2.1, h.2.2.drew⟩
theorem Blk.alloc (h : Blk w0 g t cs W) (o : Obj) : Blk w0 g t cs (W.alloc o) := h.call ((Below.refl _ _).alloc (Nat.le_refl _) _)
theorem Blk.set_ (h : Blk w0 g t cs W) (i : Nat) (u : Value) : Blk w0 g t (cs.setIfInBounds i u) (W.setCell ⟨g, i, none⟩ u) := by
  refine ⟨h.1, ?_, h.2.2.setCell h.1 _⟩
  have := h.2.1
  simp [World.setCell, Array.getElem?_modify, this]
theorem Blk.far (h : Blk w0 g t cs W) {p : Addr} (hp : g ≠ p.block) (h0 : w0.heap.size ≤ p.block) (u : Value) : Blk w0 g t cs (W.setCell p u) :=
  ⟨h.1, (Below.heap_setCell W p u g hp).trans h.2.1, h.2.2.setCell h0 u⟩
theorem Blk.under {B : Nat} (h : Blk w0 g t cs W) (hg : g < B) (hb : Below B W W') : Blk w0 g t cs W' :=
  ⟨h.1, (hb.block g hg).trans h.2.1, Below.trans h.2.2 (hb.mono (by have := h.1; omega))⟩
/-- of a world that is known by its steps -/
theorem Blk.of_heap (h0 : w0.heap.size ≤ g) (h : W.heap[g]? = some (.cells cs t (0, 0))) (hL : Later w0 W) : Blk w0 g t cs W := ⟨h0, h, hL⟩
end

end Go.Proofs.YtegmdjfohlomnaaDoor
