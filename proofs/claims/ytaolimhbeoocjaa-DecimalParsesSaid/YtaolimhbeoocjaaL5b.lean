/- The walks of the laws of layer 5. No condition. -/
import Derived.Test.YtaolimhbeoocjaaL5
namespace Go.Proofs.Ytaolimhbeoocjaa
open Go.RowKit

theorem good_w (A : Option Addr) (n c most : Nat) (l : List Int) (w : World) (h : IL w A n c l) (hl : I64 l) (hm : most ≤ 100000) :
    Calls Try.prog 21 #[.slice A n c, .int .i64 (most : Int)] w (RL w (goodL l most)) := good_any A n c most l w h hl hm
theorem same_w (A : Option Addr) (n c : Nat) (l : List Int) (A2 : Option Addr) (n2 c2 : Nat) (l2 : List Int) (w : World) (h : IL w A n c l) (h2 : IL w A2 n2 c2 l2) (b : Bool) (hb : (l == l2) = b) :
    Calls Try.prog 27 #[.slice A n c, .slice A2 n2 c2] w (RV w (.bool b)) := by
  subst hb
  exact (same_any A n c l A2 n2 c2 l2 w h h2).mono fun _ _ h => RQ.rv h
theorem ol_il {w w' : World} {l : List Int} {e : Ending} (h : RO w l e w') : RL w l e w' := RO.rl h
/-- What is cut to the first so many. -/
theorem IL.few {w : World} {A : Option Addr} {n c : Nat} {l : List Int} (h : IL w A n c l) (k : Nat) (A' : Option Addr) (hA : A' = A) (m : Nat) (hm : m = min n k) : IL w A' m c (l.take k) := by
  subst hA
  have hl := h.len
  have hle := h.le
  have h2 := h.take (k := m) (c' := c) (by omega) (by omega) (Nat.le_refl _) A' (fun _ => rfl)
  have : l.take k = l.take m := by
    rcases Nat.lt_or_ge k n with q | q
    · rw [hm, Nat.min_eq_right (by omega)]
    · rw [hm, Nat.min_eq_left (by omega), List.take_of_length_le (by omega), List.take_of_length_le (by omega)]
  rw [this]
  exact h2
theorem min_cut (n : Nat) (m : Nat) : ∃ k : Nat, k = min n m ∧ (∀ x : Int, x = (m : Int) → (if x < (n : Int) then x else (n : Int)) = (k : Int)) ∧ ∀ x : Int, x = (m : Int) → (if m < n then x else (n : Int)) = (k : Int) :=
  ⟨min n m, rfl, by intro x hx; subst hx; split <;> omega, by intro x hx; subst hx; split <;> omega⟩
theorem sumR_two {a b : List Int} (ha : mayL a = true) (hb : mayL b = true) : sumR [a, b] = (ofN (val a + val b).toNat, 0) := by
  unfold sumR mayLL
  rw [if_pos (by simp [ha, hb])]
  simp [sumV]
theorem subR_ok {a b : List Int} (ha : mayL a = true) (hb : mayL b = true) (h : val b ≤ val a) : subR a b = (ofN (val a - val b).toNat, 0) := by
  unfold subR
  rw [if_pos (by simp [ha, hb]), if_neg (by omega)]
theorem subR_lt {a b : List Int} (ha : mayL a = true) (hb : mayL b = true) (h : val a < val b) : subR a b = ([], 3) := by
  unfold subR
  rw [if_pos (by simp [ha, hb]), if_pos h]
theorem subR_code (a b : List Int) : ((subR a b).2 == 1) = !(mayL a && mayL b) := by
  unfold subR
  split
  · rename_i h
    rw [h]
    split <;> rfl
  · rename_i h
    simp only [Bool.not_eq_true] at h
    rw [h]
    rfl
theorem ofN_len_le {z : Int} {k : Nat} (h0 : 0 ≤ z) (h : z < 10 ^ k) : (ofN z.toNat).length ≤ k := ofN_len (toNat_pow h0 h)

end Go.Proofs.Ytaolimhbeoocjaa
