/- The document's rounding: of the two next decimals of the scale. No program in sight. No condition. -/
import Derived.Test.YtnndiikogaoeiaaRound2
import Derived.Test.YtnndiikogaoeiaaCanon4
namespace Go.Proofs.Ytnndiikogaoeiaa

def absDc (d : Dc) : Dc := ⟨false, d.l, d.s⟩
theorem abs_at {d : Dc} (h : mayL d.l = true) (K : Nat) : (absDc d).at_ K = (d.at_ K).natAbs := by
  have hv := val_bd h
  have hm := Int.mul_nonneg hv.1 (Int.le_of_lt (ten_pos (K - d.s.toNat)))
  rw [val_at d K]
  have e : (absDc d).at_ K = val d.l * 10 ^ (K - d.s.toNat) := rfl
  rw [e]
  cases d.neg <;> simp <;> omega
/-- One of the last place. -/
def oneDc (b : Bool) (k : Nat) : Dc := ⟨b, [1], (k : Int)⟩
theorem oneDc_may (b : Bool) (k : Nat) (hk : k ≤ 1000) : mayDc (oneDc b k) = true := mayDc_iff.2 ⟨rfl, by simp [oneDc], by simp [oneDc]; omega⟩
theorem one_at (b : Bool) (k : Nat) : (oneDc b k).at_ k = if b then -1 else 1 := by
  unfold oneDc Dc.at_ Dc.z
  have e : val [1] = 1 := rfl
  simp only [e]
  cases b <;> simp
def upZ (d : Dc) (k : Nat) : Int := lowZ d k + if d.neg then -1 else 1
theorem trim_canon_self (s : Nat) (z : Int) : trimDc (canon s z) = canon s z := by
  have h := canonic s z
  rw [trimDc_canon h.may h.lo]
  exact canon_self s z
theorem align_canon (k : Nat) (hk : k ≤ 1000) (z : Int) : alignDc (canon k z) (k : Int) = (scaled k z, 0) := by
  have h := canonic k z
  rw [align_to (mayDc_canon k hk z) k hk (by rw [trim_canon_self]; have := h.hi; omega), trim_canon_self, canon_at_self]
theorem upper_eq (d : Dc) (k : Nat) (hk : k ≤ 1000) : addDc (scaled k (lowZ d k)) (oneDc d.neg k) = (canon k (upZ d k), 0) := by
  rw [addDc_at (N := k) (scaled_may k hk _) (oneDc_may _ k hk) (by simp [scaled]) (by simp [oneDc]), scaled_at, one_at, Nat.sub_self]
  unfold upZ
  simp
/-- A whole part, a rest: of what stands at a scale that is no smaller. -/
theorem at_low (d : Dc) (_h : mayL d.l = true) (k K : Nat) (h1 : d.s.toNat ≤ K) (h2 : k ≤ K) :
    d.at_ K - lowZ d k * 10 ^ (K - k) = (if d.neg then -(val d.l * 10 ^ (K - d.s.toNat) % 10 ^ (K - k)) else val d.l * 10 ^ (K - d.s.toNat) % 10 ^ (K - k)) ∧
    upZ d k * 10 ^ (K - k) - d.at_ K = (if d.neg then -(10 ^ (K - k) - val d.l * 10 ^ (K - d.s.toNat) % 10 ^ (K - k)) else 10 ^ (K - k) - val d.l * 10 ^ (K - d.s.toNat) % 10 ^ (K - k)) := by
  unfold upZ
  rw [lowZ_at d k K h1 h2, val_at d K]
  generalize val d.l * 10 ^ (K - d.s.toNat) = a
  generalize (10 : Int) ^ (K - k) = p
  have e := Int.emod_add_mul_ediv a p
  have e2 : a / p * p = p * (a / p) := Int.mul_comm _ _
  cases d.neg
  · simp only [Bool.false_eq_true, if_false]
    rw [Int.add_mul]
    omega
  · simp only [if_true]
    rw [Int.add_mul, Int.neg_mul]
    omega
theorem low_cmp {d : Dc} (h : mayL d.l = true) (k : Nat) :
    (cmpDc (scaled k (lowZ d k)) d = 0) ↔ val d.l * 10 ^ (max d.s.toNat k - d.s.toNat) % 10 ^ (max d.s.toNat k - k) = 0 := by
  have e := (at_low d h k (max d.s.toNat k) (by omega) (by omega)).1
  rw [cmpDc_at _ _ (max d.s.toNat k) (by simp [scaled]; omega) (by omega), scaled_at]
  generalize val d.l * 10 ^ (max d.s.toNat k - d.s.toNat) % 10 ^ (max d.s.toNat k - k) = r at *
  generalize lowZ d k * 10 ^ (max d.s.toNat k - k) = x at *
  generalize d.at_ (max d.s.toNat k) = y at *
  unfold cmpI
  constructor
  · intro hh
    have : x = y := by
      split at hh
      · omega
      · split at hh <;> omega
    cases hn : d.neg <;> rw [hn] at e <;> simp at e <;> omega
  · intro hr
    have : x = y := by
      cases hn : d.neg <;> rw [hn] at e <;> simp at e <;> omega
    rw [if_neg (by omega), if_neg (by omega)]
theorem round_low {d : Dc} (k : Nat) (mode : Int) (hr : val d.l * 10 ^ (max d.s.toNat k - d.s.toNat) % 10 ^ (max d.s.toNat k - k) = 0) : roundZ mode d k = lowZ d k := by
  unfold roundZ roundV lowZ
  rw [if_pos hr]
theorem round_up {d : Dc} (k : Nat) (mode : Int) (hr : ¬ val d.l * 10 ^ (max d.s.toNat k - d.s.toNat) % 10 ^ (max d.s.toNat k - k) = 0) :
    roundZ mode d k = if awayB mode d.neg (val d.l * 10 ^ (max d.s.toNat k - d.s.toNat) / 10 ^ (max d.s.toNat k - k) % 2 == 1) (cmpI (2 * (val d.l * 10 ^ (max d.s.toNat k - d.s.toNat) % 10 ^ (max d.s.toNat k - k))) (10 ^ (max d.s.toNat k - k))) then upZ d k else lowZ d k := by
  unfold roundZ roundV upZ lowZ
  rw [if_neg hr]
  split <;> cases d.neg <;> simp <;> omega
/-- How far the lower one is, held against how far the upper one is. -/
theorem far_cmp {d : Dc} (hd : mayDc d = true) (k : Nat) (hk : k ≤ 1000) :
    cmpDc (absDc (addDc d (minusDc (scaled k (lowZ d k)))).1) (absDc (addDc (scaled k (upZ d k)) (minusDc d)).1) =
      cmpI (2 * (val d.l * 10 ^ (max d.s.toNat k - d.s.toNat) % 10 ^ (max d.s.toNat k - k))) (10 ^ (max d.s.toNat k - k)) := by
  obtain ⟨h, h0, h1⟩ := mayDc_iff.1 hd
  have hsl : (scaled k (lowZ d k)).s.toNat = k := by simp [scaled]
  have hsu : (scaled k (upZ d k)).s.toNat = k := by simp [scaled]
  obtain ⟨e1, e2⟩ := at_low d h k (max d.s.toNat k) (by omega) (by omega)
  have hp := ten_pos (max d.s.toNat k - k)
  rw [addDc_at (N := max d.s.toNat k) hd (by rw [mayDc_minus]; exact scaled_may k hk _) (by omega) (by show (scaled k (lowZ d k)).s.toNat ≤ _; omega),
    addDc_at (N := max d.s.toNat k) (scaled_may k hk _) (by rw [mayDc_minus]; exact hd) (by omega) (by show d.s.toNat ≤ _; omega), minus_at, minus_at, scaled_at, scaled_at]
  simp only []
  have l1 := canon_le (max d.s.toNat k) (d.at_ (max d.s.toNat k) + -(lowZ d k * 10 ^ (max d.s.toNat k - k)))
  have l2 := canon_le (max d.s.toNat k) (upZ d k * 10 ^ (max d.s.toNat k - k) + -(d.at_ (max d.s.toNat k)))
  rw [cmpDc_at (absDc _) (absDc _) (max d.s.toNat k) l1 l2, abs_at (canonic _ _).may, abs_at (canonic _ _).may, canon_at_self, canon_at_self,
    show ∀ x y : Int, x + -y = x - y from fun x y => by omega, show ∀ x y : Int, x + -y = x - y from fun x y => by omega, e1, e2]
  have r0 := Int.emod_nonneg (val d.l * 10 ^ (max d.s.toNat k - d.s.toNat)) (show (10 : Int) ^ (max d.s.toNat k - k) ≠ 0 by omega)
  have r1 := Int.emod_lt_of_pos (val d.l * 10 ^ (max d.s.toNat k - d.s.toNat)) hp
  generalize val d.l * 10 ^ (max d.s.toNat k - d.s.toNat) % 10 ^ (max d.s.toNat k - k) = r at *
  generalize (10 : Int) ^ (max d.s.toNat k - k) = p at *
  have a1 : (((if d.neg then -r else r).natAbs : Nat) : Int) = r := by cases d.neg <;> simp <;> omega
  have a2 : (((if d.neg then -(p - r) else p - r).natAbs : Nat) : Int) = p - r := by cases d.neg <;> simp <;> omega
  rw [a1, a2]
  unfold cmpI
  by_cases c1 : r < p - r
  · rw [if_pos c1, if_pos (show 2 * r < p by omega)]
  · rw [if_neg c1, if_neg (show ¬ 2 * r < p by omega)]
    by_cases c2 : p - r < r
    · rw [if_pos c2, if_pos (show p < 2 * r by omega)]
    · rw [if_neg c2, if_neg (show ¬ p < 2 * r by omega)]
/-- Whether the last digit of the lower one is odd. -/
theorem low_odd {d : Dc} (h : mayL d.l = true) (k : Nat) :
    (digL (digs (lowZ d k)) 0 % 2 == 1) = (val d.l * 10 ^ (max d.s.toNat k - d.s.toNat) / 10 ^ (max d.s.toNat k - k) % 2 == 1) := by
  rw [digL_odd (mayL_digs _), val_digs]
  have hv := val_bd h
  have hm := Int.mul_nonneg hv.1 (Int.le_of_lt (ten_pos (max d.s.toNat k - d.s.toNat)))
  have hq := Int.ediv_nonneg hm (Int.le_of_lt (ten_pos (max d.s.toNat k - k)))
  unfold lowZ
  generalize val d.l * 10 ^ (max d.s.toNat k - d.s.toNat) / 10 ^ (max d.s.toNat k - k) = q at *
  have : ((if d.neg then -q else q).natAbs : Int) = q := by cases d.neg <;> simp <;> omega
  rw [this]
theorem low_len {d : Dc} (h : mayL d.l = true) {M : Nat} (hM : d.l.length ≤ M) (k : Nat) : (digs (lowZ d k)).length ≤ M + k := by
  unfold digs
  refine ofN_len ?_
  have hv := val_bd h
  have hp := ten_pos (max d.s.toNat k - k)
  have e : (lowZ d k).natAbs ≤ (val d.l * 10 ^ k).natAbs := by
    rw [lowZ_at d k (max d.s.toNat k) (by omega) (by omega)]
    have e1 : (10 : Int) ^ (max d.s.toNat k - d.s.toNat) ≤ 10 ^ k := pow_le (by omega)
    have m1 := Int.mul_le_mul_of_nonneg_left e1 hv.1
    have m0 := Int.mul_nonneg hv.1 (Int.le_of_lt (ten_pos (max d.s.toNat k - d.s.toNat)))
    have q1 := Int.ediv_le_self (10 ^ (max d.s.toNat k - k)) m0
    have q0 := Int.ediv_nonneg m0 (Int.le_of_lt hp)
    cases d.neg <;> simp <;> omega
  have e2 := pow_le hM
  have e3 : (val d.l * 10 ^ k).natAbs < 10 ^ (M + k) := by
    rw [Int.natAbs_mul, Int.natAbs_pow, Nat.pow_add]
    have e4 : (10 : Int).natAbs = 10 := rfl
    rw [e4]
    refine Nat.mul_lt_mul_of_pos_right ?_ (Nat.pow_pos (by omega))
    have e5 : (((val d.l).natAbs : Nat) : Int) < ((10 ^ M : Nat) : Int) := by push_cast; omega
    exact_mod_cast e5
  exact_mod_cast Nat.lt_of_le_of_lt e e3

end Go.Proofs.Ytnndiikogaoeiaa
