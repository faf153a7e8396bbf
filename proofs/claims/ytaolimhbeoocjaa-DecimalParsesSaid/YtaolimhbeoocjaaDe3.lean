/- The walks of decimals: the parts, what may be, whether two are the same. No condition. -/
import Derived.Test.YtaolimhbeoocjaaDe2
import Derived.Deep.RegionWith
namespace Go.Proofs.Ytaolimhbeoocjaa
open Go.RowKit

/-- Two lists. -/
def RP (w : World) (x y : List Int) (e : Ending) (w' : World) : Prop :=
  ∃ A n c E m q, e = .returned (.tuple #[.slice A n c, .slice E m q]) ∧ IL w' A n c x ∧ IL w' E m q y ∧ Below w.heap.size w w'
/-- The digits ahead of the point, and behind it. -/
def partsS (l : List Int) (s : Nat) : List Int × List Int := (trimL ((wideL l s).take ((wideL l s).length - s)), (wideL l s).drop ((wideL l s).length - s))
theorem I64.zeros (k : Nat) : I64 (List.replicate k 0) := fun x hx => by have := List.eq_of_mem_replicate hx; omega
theorem I64.app {a b : List Int} (ha : I64 a) (hb : I64 b) : I64 (a ++ b) := fun x hx => (List.mem_append.1 hx).elim (ha x) (hb x)
theorem I64.wide {l : List Int} (h : I64 l) (k : Nat) : I64 (wideL l k) := (I64.zeros _).app h
theorem IL.dropw {w : World} {A A' : Option Addr} {n c k n' c' : Nat} {l : List Int} (h : IL w A n c l) (hk : k ≤ n) (hn : n' = n - k) (hc : c' = c - k) (hA : k < n → A' = A.map (·.add k)) : IL w A' n' c' (l.drop k) := by
  subst hn hc; exact h.drop hk A' hA
theorem IL.takew {w : World} {A A' : Option Addr} {n c k c' : Nat} {l : List Int} (h : IL w A n c l) (hk : k ≤ n) (hc : c' = c) (hA : 0 < k → A' = A) : IL w A' k c' (l.take k) := by
  subst hc; exact h.take hk (Nat.le_trans hk h.le) (Nat.le_refl _) A' hA

end Go.Proofs.Ytaolimhbeoocjaa
