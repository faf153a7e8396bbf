/- The carry: digits out of what stands at each place; sums, differences, multiples. No condition. -/
import Derived.Test.YtaolimhbeoocjaaDc
namespace Go.Proofs.Ytaolimhbeoocjaa
open Go.RowKit

/-! ### Plain: one round of the carry -/
/-- What the rounds have kept: digits, the lowest first, and what is left. -/
def Carried (f : Nat → Int) (i : Nat) (o : List Int) (rest : Int) : Prop :=
  mayL o = true ∧ o.length = i ∧ val o.reverse + rest * 10 ^ i = sumTo f i ∧ -1000000 ≤ rest ∧ rest ≤ 1000000
theorem Carried.zero (f : Nat → Int) : Carried f 0 [] 0 := ⟨rfl, rfl, rfl, by omega, by omega⟩
theorem rev_snoc_val (o : List Int) (d : Int) : val (o ++ [d]).reverse = d * 10 ^ o.length + val o.reverse := by
  rw [List.reverse_append, List.reverse_singleton, List.singleton_append, val_cons, List.length_reverse]
theorem Carried.step {f : Nat → Int} {i : Nat} {o : List Int} {rest d r : Int} (h : Carried f i o rest) (hf : -100000 ≤ f i) (hf2 : f i ≤ 100000)
    (hd : d = (rest + f i) % 10) (hr : r = (rest + f i) / 10) : Carried f (i + 1) (o ++ [d]) r := by
  obtain ⟨h1, h2, h3, h4, h5⟩ := h
  refine ⟨?_, by simp [h2], ?_, by omega, by omega⟩
  · simp [h1, isDig]; omega
  · rw [rev_snoc_val, h2, sumTo, ← h3, Int.pow_succ]
    have e : rest + f i = 10 * r + d := by omega
    have e2 : (rest + f i) * 10 ^ i = (10 * r + d) * 10 ^ i := by rw [e]
    rw [Int.add_mul, Int.add_mul] at e2
    have e3 : r * (10 ^ i * 10) = 10 * r * 10 ^ i := by rw [Int.mul_comm 10 r, Int.mul_assoc, Int.mul_comm 10]
    rw [e3]
    omega
/-- Behind the rounds: what is left goes on digit by digit. -/
def Spilt (s : Int) (o : List Int) (rest : Int) : Prop := mayL o = true ∧ val o.reverse + rest * 10 ^ o.length = s ∧ 0 ≤ rest ∧ rest ≤ 1000000
theorem Spilt.step {s : Int} {o : List Int} {rest d r : Int} (h : Spilt s o rest) (hd : d = rest % 10) (hr : r = rest / 10) : Spilt s (o ++ [d]) r := by
  obtain ⟨h1, h2, h3, h4⟩ := h
  refine ⟨?_, ?_, by omega, by omega⟩
  · simp [h1, isDig]; omega
  · rw [rev_snoc_val, List.length_append, List.length_singleton, Int.pow_succ, ← h2]
    have e : rest = 10 * r + d := by omega
    have e2 : rest * 10 ^ o.length = (10 * r + d) * 10 ^ o.length := by rw [← e]
    rw [Int.add_mul] at e2
    have e3 : r * (10 ^ o.length * 10) = 10 * r * 10 ^ o.length := by rw [Int.mul_comm 10 r, Int.mul_assoc, Int.mul_comm 10]
    rw [e3]
    omega
theorem mayL_reverse {l : List Int} (h : mayL l = true) : mayL l.reverse = true := mayL_iff.2 fun x hx => mayL_iff.1 h x (List.mem_reverse.1 hx)
theorem Carried.spilt {f : Nat → Int} {i : Nat} {o : List Int} {rest : Int} (h : Carried f i o rest) (hs : 0 ≤ sumTo f i) : Spilt (sumTo f i) o rest := by
  obtain ⟨h1, h2, h3, h4, h5⟩ := h
  have hb := val_bd (mayL_reverse h1)
  rw [List.length_reverse, h2] at hb
  have hp := ten_pos i
  refine ⟨h1, by rw [h2]; exact h3, ?_, h5⟩
  rcases Int.lt_or_le rest 0 with h | h
  · exfalso
    have : rest * 10 ^ i ≤ -1 * 10 ^ i := Int.mul_le_mul_of_nonneg_right (by omega) (by omega)
    omega
  · exact h
theorem Spilt.done {s : Int} {o : List Int} (h : Spilt s o 0) : trimL o.reverse = ofN s.toNat := by
  obtain ⟨h1, h2, _, _⟩ := h
  rw [trimL_ofN (mayL_reverse h1)]
  congr 1
  omega

end Go.Proofs.Ytaolimhbeoocjaa
