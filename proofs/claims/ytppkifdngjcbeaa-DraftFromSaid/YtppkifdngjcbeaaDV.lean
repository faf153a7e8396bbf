/- Drafts in blocks. No condition. -/
import Derived.Test.YtppkifdngjcbeaaBlk
import Derived.Test.YtppkifdngjcbeaaDr1
namespace Go.Proofs.Ytppkifdngjcbeaa
open Go.RowKit

/-- A draft's value: where its lists lie, and how they read. -/
structure DV where
  b : Bool
  A : Option Addr
  n : Nat
  c : Nat
  l : List Int
  p : Bool
  E : Option Addr
  m : Nat
  q : Nat
  f : List Int
def DV.d (x : DV) : Dr := ⟨x.b, x.l, x.p, x.f⟩
def DV.ok (x : DV) (W : World) : Prop := IL W x.A x.n x.c x.l ∧ IL W x.E x.m x.q x.f
theorem DV.ok.later {x : DV} {W W' : World} (h : x.ok W) (hb : Later W W') : x.ok W' := ⟨h.1.later hb, h.2.later hb⟩
theorem DV.ok.below {x : DV} {W W' : World} (h : x.ok W) (hb : Below W.heap.size W W') : x.ok W' := ⟨h.1.below hb, h.2.below hb⟩
theorem DV.ok.alloc {x : DV} {W : World} (h : x.ok W) (o : Obj) : x.ok (W.alloc o) := ⟨h.1.alloc o, h.2.alloc o⟩
/-- The four cells of a draft from an offset on. -/
def DV.at_ (x : DV) (W : World) (g o : Nat) : Prop :=
  W.cell? ⟨g, o, none⟩ = some (.bool x.b) ∧ W.cell? ⟨g, o + 1, none⟩ = some (.slice x.A x.n x.c) ∧ W.cell? ⟨g, o + 2, none⟩ = some (.bool x.p) ∧ W.cell? ⟨g, o + 3, none⟩ = some (.slice x.E x.m x.q)
theorem DV.at_.later {x : DV} {W W' : World} {g o : Nat} (h : x.at_ W g o) (hb : Later W W') : x.at_ W' g o := ⟨hb.cell h.1, hb.cell h.2.1, hb.cell h.2.2.1, hb.cell h.2.2.2⟩

end Go.Proofs.Ytppkifdngjcbeaa
