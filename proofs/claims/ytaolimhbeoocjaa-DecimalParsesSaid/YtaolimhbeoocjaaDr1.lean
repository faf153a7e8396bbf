/- The walks of drafts: what may be, atoms, whether two are the same. No condition. -/
import Derived.Test.YtaolimhbeoocjaaTexts
import Derived.Test.YtaolimhbeoocjaaExt
import Derived.Test.YtaolimhbeoocjaaRb
namespace Go.Proofs.Ytaolimhbeoocjaa
open Go.RowKit

/-- A draft. -/
structure Dr where
  neg : Bool
  int : List Int
  sep : Bool
  frac : List Int

/-- What a call hands back that makes a draft. -/
def RD (w : World) (d : Dr) (e : Ending) (w' : World) : Prop := ∃ A n c E m k, e = .returned (.agg #[.bool d.neg, .slice A n c, .bool d.sep, .slice E m k]) ∧ IL w' A n c d.int ∧ IL w' E m k d.frac ∧ Below w.heap.size w w'
/-- A draft and a code. -/
def RDE (w : World) (d : Dr) (code : Int) (e : Ending) (w' : World) : Prop :=
  ∃ A n c E m k, e = .returned (.tuple #[.agg #[.bool d.neg, .slice A n c, .bool d.sep, .slice E m k], .int .i64 code]) ∧ IL w' A n c d.int ∧ IL w' E m k d.frac ∧ Below w.heap.size w w' ∧ (0 < n → ∀ a, A = some a → w.heap.size ≤ a.block) ∧ (0 < m → ∀ a, E = some a → w.heap.size ≤ a.block)
theorem none_newer (B : Nat) : 0 < 0 → ∀ a : Addr, none = some a → B ≤ a.block := fun h => absurd h (by omega)
theorem OL.newer {W : World} {B B' n c : Nat} {A : Option Addr} {l : List Int} (h : OL W B A n c l) (hB : B' ≤ B) : 0 < n → ∀ a, A = some a → B' ≤ a.block := by
  intro hn a ha
  obtain ⟨a', ha', hb'⟩ := h.new hn
  subst ha
  obtain rfl := Option.some.inj ha'
  omega

section
variable (b : Bool) (A : Option Addr) (n c : Nat) (p : Bool) (E : Option Addr) (m k : Nat)

end

def mayD (_b : Bool) (l : List Int) (p : Bool) (f : List Int) : Bool := mayL l && mayL f && (p || f.length == 0)

def atomsD (l : List Int) (p : Bool) (f : List Int) : List Int := l ++ ((if p then [10] else []) ++ f)

end Go.Proofs.Ytaolimhbeoocjaa
