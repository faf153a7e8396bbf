/- The walks of the program's taking away, and of multiples, of decimals; signs turned. No condition. -/
import Derived.Test.YtaolimhbeoocjaaDe9
namespace Go.Proofs.Ytaolimhbeoocjaa
open Go.RowKit

theorem timesR_ok {l : List Int} (h : mayL l = true) {k : Int} (h0 : 0 ≤ k) (h1 : k ≤ 1000) : timesR l k = (ofN (k * val l).toNat, 0) := by
  unfold timesR
  rw [h, if_pos rfl, if_neg (by omega)]
theorem ofN_times_len {l : List Int} {M : Nat} (h : mayL l = true) (h1 : l.length ≤ M) {k : Int} (h0 : 0 ≤ k) (h2 : k ≤ 1000) : (ofN (k * val l).toNat).length ≤ M + 4 := by
  refine ofN_len ?_
  have v1 := (val_bd h).2
  have p1 := pow_le h1
  have v3 := (val_bd h).1
  have hm : k * val l ≤ 1000 * val l := Int.mul_le_mul_of_nonneg_right h2 v3
  have hp : 0 ≤ k * val l := Int.mul_nonneg h0 v3
  have e2 : (10 : Int) ^ (M + 4) = 10 ^ M * 10000 := by rw [Int.pow_add]; rfl
  have e : ((k * val l).toNat : Int) < ((10 ^ (M + 4) : Nat) : Int) := by push_cast; omega
  exact_mod_cast e

end Go.Proofs.Ytaolimhbeoocjaa
