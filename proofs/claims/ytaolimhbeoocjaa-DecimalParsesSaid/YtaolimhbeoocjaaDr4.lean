/- The walk of the draft of atoms. No condition. -/
import Derived.Test.YtaolimhbeoocjaaDr3
namespace Go.Proofs.Ytaolimhbeoocjaa
open Go.RowKit

def Dr.none : Dr := ⟨false, [], false, []⟩
/-- The draft of atoms, and the code. -/
def ofS (b : Bool) (l : List Int) : Dr × Int :=
  if oddL l then (Dr.none, 1) else if l.any (· == 10) then (if (postL l).any (· == 10) then (Dr.none, 6) else (⟨b, preL l, true, postL l⟩, 0)) else (⟨b, l, false, []⟩, 0)

theorem IL.set4 {W : World} {A : Option Addr} {n c : Nat} {l : List Int} (h : IL W A n c l) {g : Nat} (hp : 0 < n → ∀ a, A = some a → a.block ≠ g) (u0 u1 u2 u3 : Value) :
    IL ((((W.setCell ⟨g, 0, none⟩ u0).setCell ⟨g, 1, none⟩ u1).setCell ⟨g, 2, none⟩ u2).setCell ⟨g, 3, none⟩ u3) A n c l :=
  (((h.set_ (p := ⟨g, 0, none⟩) hp _).set_ (p := ⟨g, 1, none⟩) hp _).set_ (p := ⟨g, 2, none⟩) hp _).set_ (p := ⟨g, 3, none⟩) hp _
theorem below_set4 {w0 W : World} {B : Nat} (h : Below B w0 W) {g : Nat} (hg : B ≤ g) (u0 u1 u2 u3 : Value) :
    Below B w0 ((((W.setCell ⟨g, 0, none⟩ u0).setCell ⟨g, 1, none⟩ u1).setCell ⟨g, 2, none⟩ u2).setCell ⟨g, 3, none⟩ u3) :=
  (((h.setCell (p := ⟨g, 0, none⟩) hg _).setCell (p := ⟨g, 1, none⟩) hg _).setCell (p := ⟨g, 2, none⟩) hg _).setCell (p := ⟨g, 3, none⟩) hg _
theorem Fresh4.store {w0 W : World} {g : Nat} {t : TypeId} {a b c d : Value} (h : Fresh4 w0 g t a b c d W) (u0 u1 u2 u3 : Value) :
    Fresh4 w0 g t u0 u1 u2 u3 ((((W.setCell ⟨g, 0, none⟩ u0).setCell ⟨g, 1, none⟩ u1).setCell ⟨g, 2, none⟩ u2).setCell ⟨g, 3, none⟩ u3) :=
  (((h.set0 _).set1 _).set2 _).set3 _
theorem IL.dropv {w : World} {A A' : Option Addr} {n c k n' c' : Nat} {l : List Int} (h : IL w A n c l) (hk : k ≤ n) (hn : n' = n - k) (hc : c' = c - k) (hA : k < n → A' = A.map (·.add k)) : IL w A' n' c' (l.drop k) := by
  subst hn hc; exact h.drop hk A' hA
theorem IL.takev {w : World} {A A' : Option Addr} {n c k c' : Nat} {l : List Int} (h : IL w A n c l) (hk : k ≤ n) (hc : c' = c) (hA : 0 < k → A' = A) : IL w A' k c' (l.take k) := by
  subst hc; exact h.take hk (Nat.le_trans hk h.le) (Nat.le_refl _) A' hA
theorem OL.apart {W : World} {B n c g : Nat} {A : Option Addr} {l : List Int} (h : OL W B A n c l) (hg : g < B) : 0 < n → ∀ a, A = some a → a.block ≠ g := fun hn a ha => by
  have := (h.away hn a ha).1
  omega

end Go.Proofs.Ytaolimhbeoocjaa
