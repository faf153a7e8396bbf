/- What the laws of rounding say of the document's rounding. No program in sight. No condition. -/
import Derived.Test.YtnndiikogaoeiaaRound3
namespace Go.Proofs.Ytnndiikogaoeiaa

theorem up_len {d : Dc} (h : mayL d.l = true) {M : Nat} (hM : d.l.length ≤ M) (k : Nat) : (digs (upZ d k)).length ≤ M + k + 1 := by
  have hv := val_bd (mayL_digs (lowZ d k))
  have hl := low_len h hM k
  have hp := pow_le hl
  rw [val_digs] at hv
  unfold digs
  refine ofN_len ?_
  have e : (upZ d k).natAbs ≤ (lowZ d k).natAbs + 1 := by unfold upZ; split <;> omega
  have e2 : (((lowZ d k).natAbs : Nat) : Int) < ((10 ^ (M + k) : Nat) : Int) := by push_cast; omega
  have e3 : (lowZ d k).natAbs < 10 ^ (M + k) := by exact_mod_cast e2
  rw [Nat.pow_succ]
  omega
theorem roundDc_in {X : Dc} (h : mayDc X = true) (k : Nat) (hk : k ≤ 1000) (m : Int) (hm : 0 ≤ m ∧ m ≤ 6) : roundDc X (k : Int) m = (scaled k (roundZ m X k), 0) := by
  unfold roundDc
  rw [if_pos (by simp [h, hm.1, hm.2]), if_neg (by omega)]
  simp
theorem roundZ_again (p z : Int) (k : Nat) (hk : k ≤ 1000) : roundZ p (scaled k z) k = z := by
  have hm := (mayDc_iff.1 (scaled_may k hk z)).1
  rw [roundZ_s p hm k k (by simp [scaled]) (Nat.le_refl _), scaled_at, Nat.sub_self]
  have := roundS_exact p z (p := 10 ^ 0) (by simp)
  simpa using this
theorem round_again (p z : Int) (hp : 0 ≤ p ∧ p ≤ 6) (k : Nat) (hk : k ≤ 1000) : roundDc (scaled k z) (k : Int) p = (scaled k z, 0) := by
  rw [roundDc_in (scaled_may k hk z) k hk p hp, roundZ_again p z k hk]
theorem align_code {X : Dc} (h : mayDc X = true) (k : Int) : ((alignDc X k).2 == 0) = (decide ((trimDc X).s ≤ k) && decide (k ≤ 1000)) := by
  unfold alignDc
  rw [if_pos h]
  by_cases hk : k < (trimDc X).s ∨ 1000 < k
  · rw [if_pos hk]
    have : ¬ ((trimDc X).s ≤ k ∧ k ≤ 1000) := by omega
    simp
    intro hh
    omega
  · rw [if_neg hk]
    simp
    omega
theorem scaled_trim (k : Nat) (hk : k ≤ 1000) (z : Int) : 0 ≤ (trimDc (scaled k z)).s ∧ (trimDc (scaled k z)).s ≤ k := by
  have hm := mayDc_iff.1 (scaled_may k hk z)
  have h1 := trim_le hm.1 hm.2.1
  have h2 := (trimDc_canonic hm.1 hm.2.1).lo
  exact ⟨h2, by simpa [scaled] using h1⟩
theorem round_cmp_same {X : Dc} (h : mayDc X = true) (m : Int) (k : Nat) (hk : (trimDc X).s ≤ k) : cmpDc (scaled k (roundZ m X k)) X = 0 := by
  have hm := mayDc_iff.1 h
  have hc := trimDc_canonic hm.1 hm.2.1
  have hlo := hc.lo
  have hs := trim_le hm.1 hm.2.1
  have e1 := (trimDc_at hm.1 hm.2.1 (max X.s.toNat k) (by omega)).1
  rw [round_keep hm.1 hm.2.1 m k hk, cmpDc_at _ _ (max X.s.toNat k) (by simp [scaled]; omega) (by omega), scaled_at, ← e1, at_up (by omega) (by omega)]
  unfold cmpI
  simp
theorem round_mono {X Y : Dc} (hX : mayDc X = true) (hY : mayDc Y = true) (m : Int) (k : Nat) :
    (0 < cmpDc X Y ∨ cmpDc (scaled k (roundZ m X k)) (scaled k (roundZ m Y k)) ≤ 0) ∧ (cmpDc X Y < 0 ∨ 0 ≤ cmpDc (scaled k (roundZ m X k)) (scaled k (roundZ m Y k))) := by
  have hx := (mayDc_iff.1 hX).1
  have hy := (mayDc_iff.1 hY).1
  have hK : ∃ K, X.s.toNat ≤ K ∧ Y.s.toNat ≤ K ∧ k ≤ K := ⟨max (max X.s.toNat Y.s.toNat) k, by omega, by omega, by omega⟩
  obtain ⟨K, k1, k2, k3⟩ := hK
  rw [cmpDc_at X Y K k1 k2, cmpDc_at _ _ k (by simp [scaled]) (by simp [scaled]), scaled_at, scaled_at, Nat.sub_self, roundZ_s m hx k K k1 k3, roundZ_s m hy k K k2 k3]
  have hp := ten_pos (K - k)
  have m1 := fun h => roundS_mono m (x := X.at_ K) (y := Y.at_ K) hp h
  have m2 := fun h => roundS_mono m (x := Y.at_ K) (y := X.at_ K) hp h
  generalize roundS m (X.at_ K) (10 ^ (K - k)) = a at *
  generalize roundS m (Y.at_ K) (10 ^ (K - k)) = b at *
  generalize X.at_ K = x at *
  generalize Y.at_ K = y at *
  simp only [Int.pow_zero, Int.mul_one]
  unfold cmpI
  constructor
  · rcases Int.lt_or_le y x with h | h
    · left; rw [if_neg (by omega), if_pos h]; omega
    · right
      have := m1 h
      split
      · omega
      · rw [if_neg (by omega)]; omega
  · rcases Int.lt_or_le x y with h | h
    · left; rw [if_pos h]; omega
    · right
      have := m2 h
      rw [if_neg (by omega)]
      split <;> omega
theorem oneDc_at (b : Bool) (k K : Nat) : (oneDc b k).at_ K = if b then -10 ^ (K - k) else 10 ^ (K - k) := by
  unfold oneDc Dc.at_ Dc.z
  have e : val [1] = 1 := rfl
  simp only [e]
  cases b <;> simp
theorem absDc_may {d : Dc} (h : mayDc d = true) : mayDc (absDc d) = true := h
theorem round_far_cmp {X : Dc} (hX : mayDc X = true) (m : Int) (hm : 0 ≤ m ∧ m ≤ 6) (k : Nat) (hk : k ≤ 1000) :
    (addDc (scaled k (roundZ m X k)) (minusDc X)).2 = 0 ∧ cmpDc (absDc (addDc (scaled k (roundZ m X k)) (minusDc X)).1) (oneDc false k) < 0 ∧
    (m < 4 ∨ cmpDc (timesDc (absDc (addDc (scaled k (roundZ m X k)) (minusDc X)).1) 2).1 (oneDc false k) ≤ 0) := by
  obtain ⟨hl, h0, h1⟩ := mayDc_iff.1 hX
  have hK : ∃ K, K = max X.s.toNat k := ⟨_, rfl⟩
  obtain ⟨K, hK⟩ := hK
  have k1 : X.s.toNat ≤ K := by omega
  have k2 : k ≤ K := by omega
  have k3 : K ≤ 1000 := by omega
  have hp := ten_pos (K - k)
  have hf := roundS_far m (X.at_ K) hp
  rw [addDc_at (scaled_may k hk _) (by rw [mayDc_minus]; exact hX) K (by simp [scaled]; omega) (by simpa [minusDc] using k1), scaled_at, minus_at, roundZ_s m hl k K k1 k2]
  generalize hD : roundS m (X.at_ K) (10 ^ (K - k)) * 10 ^ (K - k) + -X.at_ K = D
  have hc := canonic K D
  have hle := canon_le K D
  have hF : mayDc (absDc (canon K D)) = true := absDc_may (mayDc_canon K k3 D)
  have e1 : (absDc (canon K D)).at_ K = D.natAbs := by rw [abs_at hc.may, canon_at_self]
  have e2 : (timesDc (absDc (canon K D)) 2).1.at_ K = 2 * D.natAbs := by
    unfold timesDc
    rw [if_pos hF, if_neg (by omega)]
    show (canon (canon K D).s.toNat (2 * (absDc (canon K D)).z)).at_ K = _
    rw [canon_at_eq _ _ _ hle, Int.mul_assoc]
    exact congrArg (2 * ·) e1
  have e3 : (timesDc (absDc (canon K D)) 2).1.s.toNat ≤ K := by
    unfold timesDc
    rw [if_pos hF, if_neg (by omega)]
    exact Nat.le_trans (canon_le _ _) hle
  refine ⟨rfl, ?_, ?_⟩
  · rw [cmpDc_at _ _ K (by exact hle) (by simp [oneDc]; omega), e1, oneDc_at]
    unfold cmpI
    simp only [Bool.false_eq_true, if_false]
    rw [if_pos (by omega)]
    omega
  · by_cases h4 : m < 4
    · exact Or.inl h4
    · right
      have := hf.2 (by omega) hm.2
      rw [cmpDc_at _ _ K e3 (by simp [oneDc]; omega), e2, oneDc_at]
      unfold cmpI
      simp only [Bool.false_eq_true, if_false]
      split
      · omega
      · rw [if_neg (by omega)]; omega
/-- Floor and Ceil exchanged. -/
def otherM (m : Int) : Int := if m = 2 then 3 else if m = 3 then 2 else m
theorem awayB_mirror (m : Int) (neg odd : Bool) (c : Int) : awayB (otherM m) (!neg) odd c = awayB m neg odd c := by
  unfold awayB otherM
  by_cases h2 : m = 2
  · subst h2; simp
  · by_cases h3 : m = 3
    · subst h3; simp
    · simp [h2, h3]
theorem roundZ_mirror (m : Int) (X : Dc) (k : Nat) : roundZ (otherM m) (minusDc X) k = -roundZ m X k := by
  unfold roundZ minusDc roundV
  simp only [awayB_mirror]
  cases X.neg <;> simp
theorem digs_neg (z : Int) : digs (-z) = digs z := by unfold digs; rw [Int.natAbs_neg]
theorem scaled_neg (k : Nat) (z : Int) : (scaled k (-z)).l = (scaled k z).l ∧ ((scaled k z).l.length = 0 ∨ (scaled k z).neg ≠ (scaled k (-z)).neg) := by
  refine ⟨digs_neg z, ?_⟩
  by_cases h : z = 0
  · left; subst h; rfl
  · right
    unfold scaled
    simp only [ne_eq, decide_eq_decide]
    omega
theorem otherM_bd {m : Int} (h : 0 ≤ m ∧ m ≤ 6) : 0 ≤ otherM m ∧ otherM m ≤ 6 := by unfold otherM; split <;> (try split) <;> omega
/-- A rounded decimal's digits are few. -/
theorem round_len {d : Dc} (h : mayL d.l = true) {M : Nat} (hM : d.l.length ≤ M) (m : Int) (k : Nat) : (scaled k (roundZ m d k)).l.length ≤ M + k + 1 := by
  show (digs _).length ≤ _
  have h1 := low_len h hM k
  have h2 := up_len h hM k
  by_cases hr : val d.l * 10 ^ (max d.s.toNat k - d.s.toNat) % 10 ^ (max d.s.toNat k - k) = 0
  · rw [round_low k m hr]; omega
  · rw [round_up k m hr]
    split <;> omega
end Go.Proofs.Ytnndiikogaoeiaa
