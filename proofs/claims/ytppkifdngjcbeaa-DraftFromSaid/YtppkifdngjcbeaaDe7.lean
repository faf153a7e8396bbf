/- The walks of the program's levelling, comparing and adding of decimals. No condition. -/
import Derived.Test.YtppkifdngjcbeaaDe5
import Derived.Test.YtppkifdngjcbeaaCanon2
import Derived.Test.YtppkifdngjcbeaaShift
namespace Go.Proofs.Ytppkifdngjcbeaa
open Go.RowKit

theorem shiftR_zeros {l : List Int} (h : mayL l = true) (N s : Nat) (hs : s ≤ N) (hN : N ≤ 1000) : shiftR l ((N : Int) - (s : Int)) = (zerosB l (N - s), 0) := by
  unfold shiftR shiftL zerosB
  rw [h, if_pos rfl, if_neg (by omega), if_neg (by omega)]
  congr 3
  omega
theorem zerosB_len (l : List Int) (k : Nat) : (zerosB l k).length = l.length + k := by simp [zerosB]

theorem Blk.far3 {w0 W : World} {g g' : Nat} {t : TypeId} {cs : Array Value} (h : Blk w0 g t cs W) (hg : g ≠ g') (h0 : w0.heap.size ≤ g') (u0 u1 u2 : Value) :
    Blk w0 g t cs (((W.setCell ⟨g', 0, none⟩ u0).setCell ⟨g', 1, none⟩ u1).setCell ⟨g', 2, none⟩ u2) :=
  ((h.far (p := ⟨g', 0, none⟩) hg h0 u0).far (p := ⟨g', 1, none⟩) hg h0 u1).far (p := ⟨g', 2, none⟩) hg h0 u2
theorem OL.newc {W : World} {B B' n c : Nat} {A : Option Addr} {l : List Int} (h : OL W B A n c l) (hB : B' ≤ B) : 0 < n → ∀ a, A = some a → B' ≤ a.block := by
  intro hn a ha
  obtain ⟨a', ha', hb'⟩ := h.new hn
  subst ha
  obtain rfl := Option.some.inj ha'
  omega
/-- Two lists and a number. -/
def RPI (w : World) (x y : List Int) (N : Int) (e : Ending) (w' : World) : Prop :=
  ∃ A n c E m q, e = .returned (.tuple #[.slice A n c, .slice E m q, .int .i64 N]) ∧ IL w' A n c x ∧ IL w' E m q y ∧ Below w.heap.size w w' ∧ (0 < n → ∀ a, A = some a → w.heap.size ≤ a.block) ∧ (0 < m → ∀ a, E = some a → w.heap.size ≤ a.block)

/-- What decimals are that are held against each other, trim. -/
theorem trimDc_parts {d : Dc} (h : mayL d.l = true) (h0 : 0 ≤ d.s) (h1 : d.s ≤ 1000) :
    ∃ (x : Dc) (sx : Nat), trimDc d = x ∧ x.s = (sx : Int) ∧ sx ≤ 1000 ∧ (sx : Int) ≤ d.s ∧ mayL x.l = true ∧ x.l.length ≤ d.l.length ∧ Canonic x d.s.toNat d.z := by
  have c := trimDc_canonic h h0
  have c1 := c.lo
  have c2 := c.hi
  exact ⟨_, (trimDc d).s.toNat, rfl, by omega, by omega, by omega, c.may, trimDc_len d, c⟩

end Go.Proofs.Ytppkifdngjcbeaa
