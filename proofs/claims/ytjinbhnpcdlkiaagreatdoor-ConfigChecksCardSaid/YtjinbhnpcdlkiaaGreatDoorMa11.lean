/- Configurations (plain). No condition. -/
import Derived.Test.YtjinbhnpcdlkiaaGreatDoorMa02
import Derived.Test.YtjinbhnpcdlkiaaGreatDoorMa10
import Derived.Test.YtjinbhnpcdlkiaaGreatDoorMa09
import Derived.Test.YtjinbhnpcdlkiaaGreatDoorMa01
namespace Go.Proofs.YtjinbhnpcdlkiaaGreatDoor

def absDc (d : Dc) : Dc := ⟨false, d.l, d.s⟩
theorem abs_at {d : Dc} (h : mayL d.l = true) (K : Nat) : (absDc d).at_ K = (d.at_ K).natAbs := by
  have hv := val_bd h
  have hm := Int.mul_nonneg hv.1 (Int.le_of_lt (ten_pos (K - d.s.toNat)))
  rw [val_at d K]
  have e : (absDc d).at_ K = val d.l * 10 ^ (K - d.s.toNat) := rfl
  rw [e]
  cases d.neg <;> simp <;> omega
/-- One of the last place. -/
def oneDc (b : Bool) (k : Nat) : Dc := ⟨b, [1], (k : Int)⟩
theorem oneDc_may (b : Bool) (k : Nat) (hk : k ≤ 1000) : mayDc (oneDc b k) = true := mayDc_iff.2 ⟨rfl, by simp [oneDc], by simp [oneDc]; omega⟩
theorem one_at (b : Bool) (k : Nat) : (oneDc b k).at_ k = if b then -1 else 1 := by
  unfold oneDc Dc.at_ Dc.z
  have e : val [1] = 1 := rfl
  simp only [e]
  cases b <;> simp
def upZ (d : Dc) (k : Nat) : Int := lowZ d k + if d.neg then -1 else 1
theorem trim_canon_self (s : Nat) (z : Int) : trimDc (canon s z) = canon s z := by
  have h := canonic s z
  rw [trimDc_canon h.may h.lo]
  exact canon_self s z
theorem align_canon (k : Nat) (hk : k ≤ 1000) (z : Int) : alignDc (canon k z) (k : Int) = (scaled k z, 0) := by
  have h := canonic k z
  rw [align_to (mayDc_canon k hk z) k hk (by rw [trim_canon_self]; have := h.hi; omega), trim_canon_self, canon_at_self]
theorem upper_eq (d : Dc) (k : Nat) (hk : k ≤ 1000) : addDc (scaled k (lowZ d k)) (oneDc d.neg k) = (canon k (upZ d k), 0) := by
  rw [addDc_at (N := k) (scaled_may k hk _) (oneDc_may _ k hk) (by simp [scaled]) (by simp [oneDc]), scaled_at, one_at, Nat.sub_self]
  unfold upZ
  simp
/-- A whole part, a rest: of what stands at a scale that is no smaller. -/
theorem at_low (d : Dc) (_h : mayL d.l = true) (k K : Nat) (h1 : d.s.toNat ≤ K) (h2 : k ≤ K) :
    d.at_ K - lowZ d k * 10 ^ (K - k) = (if d.neg then -(val d.l * 10 ^ (K - d.s.toNat) % 10 ^ (K - k)) else val d.l * 10 ^ (K - d.s.toNat) % 10 ^ (K - k)) ∧
    upZ d k * 10 ^ (K - k) - d.at_ K = (if d.neg then -(10 ^ (K - k) - val d.l * 10 ^ (K - d.s.toNat) % 10 ^ (K - k)) else 10 ^ (K - k) - val d.l * 10 ^ (K - d.s.toNat) % 10 ^ (K - k)) := by
  unfold upZ
  rw [lowZ_at d k K h1 h2, val_at d K]
  generalize val d.l * 10 ^ (K - d.s.toNat) = a
  generalize (10 : Int) ^ (K - k) = p
  have e := Int.emod_add_mul_ediv a p
  have e2 : a / p * p = p * (a / p) := Int.mul_comm _ _
  cases d.neg
  · simp only [Bool.false_eq_true, if_false]
    rw [Int.add_mul]
    omega
  · simp only [if_true]
    rw [Int.add_mul, Int.neg_mul]
    omega
theorem low_cmp {d : Dc} (h : mayL d.l = true) (k : Nat) :
    (cmpDc (scaled k (lowZ d k)) d = 0) ↔ val d.l * 10 ^ (max d.s.toNat k - d.s.toNat) % 10 ^ (max d.s.toNat k - k) = 0 := by
  have e := (at_low d h k (max d.s.toNat k) (by omega) (by omega)).1
  rw [cmpDc_at _ _ (max d.s.toNat k) (by simp [scaled]; omega) (by omega), scaled_at]
  generalize val d.l * 10 ^ (max d.s.toNat k - d.s.toNat) % 10 ^ (max d.s.toNat k - k) = r at *
  generalize lowZ d k * 10 ^ (max d.s.toNat k - k) = x at *
  generalize d.at_ (max d.s.toNat k) = y at *
  unfold cmpI
  constructor
  · intro hh
    have : x = y := by
      split at hh
      · omega
      · split at hh <;> omega
    cases hn : d.neg <;> rw [hn] at e <;> simp at e <;> omega
  · intro hr
    have : x = y := by
      cases hn : d.neg <;> rw [hn] at e <;> simp at e <;> omega
    rw [if_neg (by omega), if_neg (by omega)]
theorem round_low {d : Dc} (k : Nat) (mode : Int) (hr : val d.l * 10 ^ (max d.s.toNat k - d.s.toNat) % 10 ^ (max d.s.toNat k - k) = 0) : roundZ mode d k = lowZ d k := by
  unfold roundZ roundV lowZ
  rw [if_pos hr]
theorem round_up {d : Dc} (k : Nat) (mode : Int) (hr : ¬ val d.l * 10 ^ (max d.s.toNat k - d.s.toNat) % 10 ^ (max d.s.toNat k - k) = 0) :
    roundZ mode d k = if awayB mode d.neg (val d.l * 10 ^ (max d.s.toNat k - d.s.toNat) / 10 ^ (max d.s.toNat k - k) % 2 == 1) (cmpI (2 * (val d.l * 10 ^ (max d.s.toNat k - d.s.toNat) % 10 ^ (max d.s.toNat k - k))) (10 ^ (max d.s.toNat k - k))) then upZ d k else lowZ d k := by
  unfold roundZ roundV upZ lowZ
  rw [if_neg hr]
  split <;> cases d.neg <;> simp <;> omega
/-- How far the lower one is, held against how far the upper one is. -/
theorem far_cmp {d : Dc} (hd : mayDc d = true) (k : Nat) (hk : k ≤ 1000) :
    cmpDc (absDc (addDc d (minusDc (scaled k (lowZ d k)))).1) (absDc (addDc (scaled k (upZ d k)) (minusDc d)).1) =
      cmpI (2 * (val d.l * 10 ^ (max d.s.toNat k - d.s.toNat) % 10 ^ (max d.s.toNat k - k))) (10 ^ (max d.s.toNat k - k)) := by
  obtain ⟨h, h0, h1⟩ := mayDc_iff.1 hd
  have hsl : (scaled k (lowZ d k)).s.toNat = k := by simp [scaled]
  have hsu : (scaled k (upZ d k)).s.toNat = k := by simp [scaled]
  obtain ⟨e1, e2⟩ := at_low d h k (max d.s.toNat k) (by omega) (by omega)
  have hp := ten_pos (max d.s.toNat k - k)
  rw [addDc_at (N := max d.s.toNat k) hd (by rw [mayDc_minus]; exact scaled_may k hk _) (by omega) (by show (scaled k (lowZ d k)).s.toNat ≤ _; omega),
    addDc_at (N := max d.s.toNat k) (scaled_may k hk _) (by rw [mayDc_minus]; exact hd) (by omega) (by show d.s.toNat ≤ _; omega), minus_at, minus_at, scaled_at, scaled_at]
  simp only []
  have l1 := canon_le (max d.s.toNat k) (d.at_ (max d.s.toNat k) + -(lowZ d k * 10 ^ (max d.s.toNat k - k)))
  have l2 := canon_le (max d.s.toNat k) (upZ d k * 10 ^ (max d.s.toNat k - k) + -(d.at_ (max d.s.toNat k)))
  rw [cmpDc_at (absDc _) (absDc _) (max d.s.toNat k) l1 l2, abs_at (canonic _ _).may, abs_at (canonic _ _).may, canon_at_self, canon_at_self,
    show ∀ x y : Int, x + -y = x - y from fun x y => by omega, show ∀ x y : Int, x + -y = x - y from fun x y => by omega, e1, e2]
  have r0 := Int.emod_nonneg (val d.l * 10 ^ (max d.s.toNat k - d.s.toNat)) (show (10 : Int) ^ (max d.s.toNat k - k) ≠ 0 by omega)
  have r1 := Int.emod_lt_of_pos (val d.l * 10 ^ (max d.s.toNat k - d.s.toNat)) hp
  generalize val d.l * 10 ^ (max d.s.toNat k - d.s.toNat) % 10 ^ (max d.s.toNat k - k) = r at *
  generalize (10 : Int) ^ (max d.s.toNat k - k) = p at *
  have a1 : (((if d.neg then -r else r).natAbs : Nat) : Int) = r := by cases d.neg <;> simp <;> omega
  have a2 : (((if d.neg then -(p - r) else p - r).natAbs : Nat) : Int) = p - r := by cases d.neg <;> simp <;> omega
  rw [a1, a2]
  unfold cmpI
  by_cases c1 : r < p - r
  · rw [if_pos c1, if_pos (show 2 * r < p by omega)]
  · rw [if_neg c1, if_neg (show ¬ 2 * r < p by omega)]
    by_cases c2 : p - r < r
    · rw [if_pos c2, if_pos (show p < 2 * r by omega)]
    · rw [if_neg c2, if_neg (show ¬ p < 2 * r by omega)]
/-- Whether the last digit of the lower one is odd. -/
theorem low_odd {d : Dc} (h : mayL d.l = true) (k : Nat) :
    (digL (digs (lowZ d k)) 0 % 2 == 1) = (val d.l * 10 ^ (max d.s.toNat k - d.s.toNat) / 10 ^ (max d.s.toNat k - k) % 2 == 1) := by
  rw [digL_odd (mayL_digs _), val_digs]
  have hv := val_bd h
  have hm := Int.mul_nonneg hv.1 (Int.le_of_lt (ten_pos (max d.s.toNat k - d.s.toNat)))
  have hq := Int.ediv_nonneg hm (Int.le_of_lt (ten_pos (max d.s.toNat k - k)))
  unfold lowZ
  generalize val d.l * 10 ^ (max d.s.toNat k - d.s.toNat) / 10 ^ (max d.s.toNat k - k) = q at *
  have : ((if d.neg then -q else q).natAbs : Int) = q := by cases d.neg <;> simp <;> omega
  rw [this]
theorem low_len {d : Dc} (h : mayL d.l = true) {M : Nat} (hM : d.l.length ≤ M) (k : Nat) : (digs (lowZ d k)).length ≤ M + k := by
  unfold digs
  refine ofN_len ?_
  have hv := val_bd h
  have hp := ten_pos (max d.s.toNat k - k)
  have e : (lowZ d k).natAbs ≤ (val d.l * 10 ^ k).natAbs := by
    rw [lowZ_at d k (max d.s.toNat k) (by omega) (by omega)]
    have e1 : (10 : Int) ^ (max d.s.toNat k - d.s.toNat) ≤ 10 ^ k := pow_le (by omega)
    have m1 := Int.mul_le_mul_of_nonneg_left e1 hv.1
    have m0 := Int.mul_nonneg hv.1 (Int.le_of_lt (ten_pos (max d.s.toNat k - d.s.toNat)))
    have q1 := Int.ediv_le_self (10 ^ (max d.s.toNat k - k)) m0
    have q0 := Int.ediv_nonneg m0 (Int.le_of_lt hp)
    cases d.neg <;> simp <;> omega
  have e2 := pow_le hM
  have e3 : (val d.l * 10 ^ k).natAbs < 10 ^ (M + k) := by
    rw [Int.natAbs_mul, Int.natAbs_pow, Nat.pow_add]
    have e4 : (10 : Int).natAbs = 10 := rfl
    rw [e4]
    refine Nat.mul_lt_mul_of_pos_right ?_ (Nat.pow_pos (by omega))
    have e5 : (((val d.l).natAbs : Nat) : Int) < ((10 ^ M : Nat) : Int) := by push_cast; omega
    exact_mod_cast e5
  exact_mod_cast Nat.lt_of_le_of_lt e e3

end Go.Proofs.YtjinbhnpcdlkiaaGreatDoor


namespace Go.Proofs.YtjinbhnpcdlkiaaGreatDoor

theorem up_len {d : Dc} (h : mayL d.l = true) {M : Nat} (hM : d.l.length ≤ M) (k : Nat) : (digs (upZ d k)).length ≤ M + k + 1 := by
  have hv := val_bd (mayL_digs (lowZ d k))
  have hl := low_len h hM k
  have hp := pow_le hl
  rw [val_digs] at hv
  unfold digs
  refine ofN_len ?_
  have e : (upZ d k).natAbs ≤ (lowZ d k).natAbs + 1 := by unfold upZ; split <;> omega
  have e2 : (((lowZ d k).natAbs : Nat) : Int) < ((10 ^ (M + k) : Nat) : Int) := by push_cast; omega
  have e3 : (lowZ d k).natAbs < 10 ^ (M + k) := by exact_mod_cast e2
  rw [Nat.pow_succ]
  omega
theorem roundDc_in {X : Dc} (h : mayDc X = true) (k : Nat) (hk : k ≤ 1000) (m : Int) (hm : 0 ≤ m ∧ m ≤ 6) : roundDc X (k : Int) m = (scaled k (roundZ m X k), 0) := by
  unfold roundDc
  rw [if_pos (by simp [h, hm.1, hm.2]), if_neg (by omega)]
  simp
theorem roundZ_again (p z : Int) (k : Nat) (hk : k ≤ 1000) : roundZ p (scaled k z) k = z := by
  have hm := (mayDc_iff.1 (scaled_may k hk z)).1
  rw [roundZ_s p hm k k (by simp [scaled]) (Nat.le_refl _), scaled_at, Nat.sub_self]
  have := roundS_exact p z (p := 10 ^ 0) (by simp)
  simpa using this
theorem round_again (p z : Int) (hp : 0 ≤ p ∧ p ≤ 6) (k : Nat) (hk : k ≤ 1000) : roundDc (scaled k z) (k : Int) p = (scaled k z, 0) := by
  rw [roundDc_in (scaled_may k hk z) k hk p hp, roundZ_again p z k hk]
theorem align_code {X : Dc} (h : mayDc X = true) (k : Int) : ((alignDc X k).2 == 0) = (decide ((trimDc X).s ≤ k) && decide (k ≤ 1000)) := by
  unfold alignDc
  rw [if_pos h]
  by_cases hk : k < (trimDc X).s ∨ 1000 < k
  · rw [if_pos hk]
    have : ¬ ((trimDc X).s ≤ k ∧ k ≤ 1000) := by omega
    simp
    intro hh
    omega
  · rw [if_neg hk]
    simp
    omega
theorem scaled_trim (k : Nat) (hk : k ≤ 1000) (z : Int) : 0 ≤ (trimDc (scaled k z)).s ∧ (trimDc (scaled k z)).s ≤ k := by
  have hm := mayDc_iff.1 (scaled_may k hk z)
  have h1 := trim_le hm.1 hm.2.1
  have h2 := (trimDc_canonic hm.1 hm.2.1).lo
  exact ⟨h2, by simpa [scaled] using h1⟩
theorem round_cmp_same {X : Dc} (h : mayDc X = true) (m : Int) (k : Nat) (hk : (trimDc X).s ≤ k) : cmpDc (scaled k (roundZ m X k)) X = 0 := by
  have hm := mayDc_iff.1 h
  have hc := trimDc_canonic hm.1 hm.2.1
  have hlo := hc.lo
  have hs := trim_le hm.1 hm.2.1
  have e1 := (trimDc_at hm.1 hm.2.1 (max X.s.toNat k) (by omega)).1
  rw [round_keep hm.1 hm.2.1 m k hk, cmpDc_at _ _ (max X.s.toNat k) (by simp [scaled]; omega) (by omega), scaled_at, ← e1, at_up (by omega) (by omega)]
  unfold cmpI
  simp
theorem round_mono {X Y : Dc} (hX : mayDc X = true) (hY : mayDc Y = true) (m : Int) (k : Nat) :
    (0 < cmpDc X Y ∨ cmpDc (scaled k (roundZ m X k)) (scaled k (roundZ m Y k)) ≤ 0) ∧ (cmpDc X Y < 0 ∨ 0 ≤ cmpDc (scaled k (roundZ m X k)) (scaled k (roundZ m Y k))) := by
  have hx := (mayDc_iff.1 hX).1
  have hy := (mayDc_iff.1 hY).1
  have hK : ∃ K, X.s.toNat ≤ K ∧ Y.s.toNat ≤ K ∧ k ≤ K := ⟨max (max X.s.toNat Y.s.toNat) k, by omega, by omega, by omega⟩
  obtain ⟨K, k1, k2, k3⟩ := hK
  rw [cmpDc_at X Y K k1 k2, cmpDc_at _ _ k (by simp [scaled]) (by simp [scaled]), scaled_at, scaled_at, Nat.sub_self, roundZ_s m hx k K k1 k3, roundZ_s m hy k K k2 k3]
  have hp := ten_pos (K - k)
  have m1 := fun h => roundS_mono m (x := X.at_ K) (y := Y.at_ K) hp h
  have m2 := fun h => roundS_mono m (x := Y.at_ K) (y := X.at_ K) hp h
  generalize roundS m (X.at_ K) (10 ^ (K - k)) = a at *
  generalize roundS m (Y.at_ K) (10 ^ (K - k)) = b at *
  generalize X.at_ K = x at *
  generalize Y.at_ K = y at *
  simp only [Int.pow_zero, Int.mul_one]
  unfold cmpI
  constructor
  · rcases Int.lt_or_le y x with h | h
    · left; rw [if_neg (by omega), if_pos h]; omega
    · right
      have := m1 h
      split
      · omega
      · rw [if_neg (by omega)]; omega
  · rcases Int.lt_or_le x y with h | h
    · left; rw [if_pos h]; omega
    · right
      have := m2 h
      rw [if_neg (by omega)]
      split <;> omega
theorem oneDc_at (b : Bool) (k K : Nat) : (oneDc b k).at_ K = if b then -10 ^ (K - k) else 10 ^ (K - k) := by
  unfold oneDc Dc.at_ Dc.z
  have e : val [1] = 1 := rfl
  simp only [e]
  cases b <;> simp
theorem absDc_may {d : Dc} (h : mayDc d = true) : mayDc (absDc d) = true := h
theorem round_far_cmp {X : Dc} (hX : mayDc X = true) (m : Int) (hm : 0 ≤ m ∧ m ≤ 6) (k : Nat) (hk : k ≤ 1000) :
    (addDc (scaled k (roundZ m X k)) (minusDc X)).2 = 0 ∧ cmpDc (absDc (addDc (scaled k (roundZ m X k)) (minusDc X)).1) (oneDc false k) < 0 ∧
    (m < 4 ∨ cmpDc (timesDc (absDc (addDc (scaled k (roundZ m X k)) (minusDc X)).1) 2).1 (oneDc false k) ≤ 0) := by
  obtain ⟨hl, h0, h1⟩ := mayDc_iff.1 hX
  have hK : ∃ K, K = max X.s.toNat k := ⟨_, rfl⟩
  obtain ⟨K, hK⟩ := hK
  have k1 : X.s.toNat ≤ K := by omega
  have k2 : k ≤ K := by omega
  have k3 : K ≤ 1000 := by omega
  have hp := ten_pos (K - k)
  have hf := roundS_far m (X.at_ K) hp
  rw [addDc_at (scaled_may k hk _) (by rw [mayDc_minus]; exact hX) K (by simp [scaled]; omega) (by simpa [minusDc] using k1), scaled_at, minus_at, roundZ_s m hl k K k1 k2]
  generalize hD : roundS m (X.at_ K) (10 ^ (K - k)) * 10 ^ (K - k) + -X.at_ K = D
  have hc := canonic K D
  have hle := canon_le K D
  have hF : mayDc (absDc (canon K D)) = true := absDc_may (mayDc_canon K k3 D)
  have e1 : (absDc (canon K D)).at_ K = D.natAbs := by rw [abs_at hc.may, canon_at_self]
  have e2 : (timesDc (absDc (canon K D)) 2).1.at_ K = 2 * D.natAbs := by
    unfold timesDc
    rw [if_pos hF, if_neg (by omega)]
    show (canon (canon K D).s.toNat (2 * (absDc (canon K D)).z)).at_ K = _
    rw [canon_at_eq _ _ _ hle, Int.mul_assoc]
    exact congrArg (2 * ·) e1
  have e3 : (timesDc (absDc (canon K D)) 2).1.s.toNat ≤ K := by
    unfold timesDc
    rw [if_pos hF, if_neg (by omega)]
    exact Nat.le_trans (canon_le _ _) hle
  refine ⟨rfl, ?_, ?_⟩
  · rw [cmpDc_at _ _ K (by exact hle) (by simp [oneDc]; omega), e1, oneDc_at]
    unfold cmpI
    simp only [Bool.false_eq_true, if_false]
    rw [if_pos (by omega)]
    omega
  · by_cases h4 : m < 4
    · exact Or.inl h4
    · right
      have := hf.2 (by omega) hm.2
      rw [cmpDc_at _ _ K e3 (by simp [oneDc]; omega), e2, oneDc_at]
      unfold cmpI
      simp only [Bool.false_eq_true, if_false]
      split
      · omega
      · rw [if_neg (by omega)]; omega
/-- Floor and Ceil exchanged. -/
def otherM (m : Int) : Int := if m = 2 then 3 else if m = 3 then 2 else m
theorem awayB_mirror (m : Int) (neg odd : Bool) (c : Int) : awayB (otherM m) (!neg) odd c = awayB m neg odd c := by
  unfold awayB otherM
  by_cases h2 : m = 2
  · subst h2; simp
  · by_cases h3 : m = 3
    · subst h3; simp
    · simp [h2, h3]
theorem roundZ_mirror (m : Int) (X : Dc) (k : Nat) : roundZ (otherM m) (minusDc X) k = -roundZ m X k := by
  unfold roundZ minusDc roundV
  simp only [awayB_mirror]
  cases X.neg <;> simp
theorem digs_neg (z : Int) : digs (-z) = digs z := by unfold digs; rw [Int.natAbs_neg]
theorem scaled_neg (k : Nat) (z : Int) : (scaled k (-z)).l = (scaled k z).l ∧ ((scaled k z).l.length = 0 ∨ (scaled k z).neg ≠ (scaled k (-z)).neg) := by
  refine ⟨digs_neg z, ?_⟩
  by_cases h : z = 0
  · left; subst h; rfl
  · right
    unfold scaled
    simp only [ne_eq, decide_eq_decide]
    omega
theorem otherM_bd {m : Int} (h : 0 ≤ m ∧ m ≤ 6) : 0 ≤ otherM m ∧ otherM m ≤ 6 := by unfold otherM; split <;> (try split) <;> omega
/-- A rounded decimal's digits are few. -/
theorem round_len {d : Dc} (h : mayL d.l = true) {M : Nat} (hM : d.l.length ≤ M) (m : Int) (k : Nat) : (scaled k (roundZ m d k)).l.length ≤ M + k + 1 := by
  show (digs _).length ≤ _
  have h1 := low_len h hM k
  have h2 := up_len h hM k
  by_cases hr : val d.l * 10 ^ (max d.s.toNat k - d.s.toNat) % 10 ^ (max d.s.toNat k - k) = 0
  · rw [round_low k m hr]; omega
  · rw [round_up k m hr]
    split <;> omega
end Go.Proofs.YtjinbhnpcdlkiaaGreatDoor


namespace Go.Proofs.YtjinbhnpcdlkiaaGreatDoor

def clampDc (d l h : Dc) : Dc × Int :=
  if mayDc d && mayDc l && mayDc h then (if 0 < cmpDc l h then (Dc.zero, 3) else if cmpDc d l < 0 then (trimDc l, 0) else if 0 < cmpDc d h then (trimDc h, 0) else (trimDc d, 0)) else (Dc.zero, 1)
theorem mayDc_trim {d : Dc} (h : mayDc d = true) : mayDc (trimDc d) = true := by
  obtain ⟨h1, h2, h3⟩ := mayDc_iff.1 h
  have hc := trimDc_canonic h1 h2
  exact mayDc_iff.2 ⟨hc.may, hc.lo, by have := trim_le h1 h2; omega⟩
/-- What is within bounds stays. -/
theorem clamp_again {d l h : Dc} (h0 : (clampDc d l h).2 = 0) : clampDc (clampDc d l h).1 l h = ((clampDc d l h).1, 0) := by
  cases hm : (mayDc d && mayDc l && mayDc h)
  · unfold clampDc at h0
    rw [hm] at h0
    simp at h0
  · have hm' := hm
    simp only [Bool.and_eq_true] at hm'
    obtain ⟨⟨hd, hl⟩, hh⟩ := hm'
    obtain ⟨d1, d2, d3⟩ := mayDc_iff.1 hd
    obtain ⟨l1, l2, l3⟩ := mayDc_iff.1 hl
    obtain ⟨h1, h2, h3⟩ := mayDc_iff.1 hh
    have key : ∀ x : Dc, mayDc x = true → ¬ cmpDc x l < 0 → ¬ 0 < cmpDc x h → ¬ 0 < cmpDc l h → clampDc (trimDc x) l h = (trimDc x, 0) := by
      intro x hx k1 k2 k3
      obtain ⟨x1, x2, x3⟩ := mayDc_iff.1 hx
      unfold clampDc
      rw [mayDc_trim hx, hl, hh, cmpDc_trimL x1 x2, cmpDc_trimL x1 x2, if_neg k3, if_neg k1, if_neg k2, trimDc_idem x1 x2]
      rfl
    have sl := cmpDc_self l
    have sh := cmpDc_self h
    have sw := cmpDc_swap l h
    by_cases q1 : 0 < cmpDc l h
    · unfold clampDc at h0
      rw [hm, if_pos q1] at h0
      simp at h0
    · by_cases q2 : cmpDc d l < 0
      · have e : clampDc d l h = (trimDc l, 0) := by unfold clampDc; rw [hm, if_neg q1, if_pos q2]; rfl
        rw [e]
        exact key l hl (by omega) q1 q1
      · by_cases q3 : 0 < cmpDc d h
        · have e : clampDc d l h = (trimDc h, 0) := by unfold clampDc; rw [hm, if_neg q1, if_neg q2, if_pos q3]; rfl
          rw [e]
          exact key h hh (by omega) (by omega) q1
        · have e : clampDc d l h = (trimDc d, 0) := by unfold clampDc; rw [hm, if_neg q1, if_neg q2, if_neg q3]; rfl
          rw [e]
          exact key d hd q2 q3 q1
theorem clamp_len {d l h : Dc} {M : Nat} (h1 : d.l.length ≤ M) (h2 : l.l.length ≤ M) (h3 : h.l.length ≤ M) : (clampDc d l h).1.l.length ≤ M := by
  have a := trimDc_len d
  have b := trimDc_len l
  have c := trimDc_len h
  unfold clampDc
  split
  · split
    · exact Nat.zero_le _
    · split
      · exact Nat.le_trans b h2
      · split
        · exact Nat.le_trans c h3
        · exact Nat.le_trans a h1
  · exact Nat.zero_le _
theorem clamp_may {d l h : Dc} (h0 : (clampDc d l h).2 = 0) : mayDc (clampDc d l h).1 = true := by
  unfold clampDc at *
  split at h0
  · rename_i hm
    simp only [Bool.and_eq_true] at hm
    obtain ⟨⟨hd, hl⟩, hh⟩ := hm
    rw [hd, hl, hh]
    simp only [Bool.and_self, if_true]
    split at h0
    · simp at h0
    · rename_i q1
      rw [if_neg q1]
      split
      · exact mayDc_trim hl
      · split
        · exact mayDc_trim hh
        · exact mayDc_trim hd
  · simp at h0

end Go.Proofs.YtjinbhnpcdlkiaaGreatDoor


namespace Go.Proofs.YtjinbhnpcdlkiaaGreatDoor
open Go.RowKit

def pointB (p : List UInt8) : Bool := p.any (· == 46)
def wholeB (p : List UInt8) : List UInt8 := p.takeWhile (· != 46)
def restB (p : List UInt8) : List UInt8 := p.drop ((wholeB p).length + 1)
theorem whole_no {p : List UInt8} (h : pointB p = false) : wholeB p = p := by
  unfold pointB at h
  unfold wholeB
  induction p with
  | nil => rfl
  | cons x r ih =>
    simp only [List.any_cons, Bool.or_eq_false_iff] at h
    rw [List.takeWhile_cons_of_pos (by simpa using h.1), ih h.2]
theorem whole_len {p : List UInt8} (h : pointB p = true) : (wholeB p).length + 1 ≤ p.length := by
  unfold pointB at h
  unfold wholeB
  induction p with
  | nil => cases h
  | cons x r ih =>
    by_cases hx : x = 46
    · subst hx; simp
    · have : (r.any fun x => x == 46) = true := by simpa [hx] using h
      rw [List.takeWhile_cons_of_pos (by simpa using hx)]
      have := ih this
      simp only [List.length_cons]
      omega
theorem rest_no {p : List UInt8} (h : pointB p = false) : restB p = [] := by
  unfold restB
  rw [whole_no h]
  exact List.drop_of_length_le (by omega)
theorem point_no {p : List UInt8} {c : UInt8} (h : pointB p = false) (hc : c ≠ 46) : pointB (p ++ [c]) = false := by
  unfold pointB at *
  rw [List.any_append, h]
  simpa using hc
theorem point_dot {p : List UInt8} (h : pointB p = false) : pointB (p ++ [46]) = true ∧ wholeB (p ++ [46]) = p ∧ restB (p ++ [46]) = [] := by
  have e : wholeB (p ++ [46]) = p := by
    unfold wholeB
    rw [List.takeWhile_append, if_pos]
    · simp
    · show (wholeB p).length = p.length
      rw [whole_no h]
  refine ⟨by unfold pointB; simp, e, ?_⟩
  unfold restB
  rw [e]
  exact List.drop_of_length_le (by simp)
theorem point_in {p : List UInt8} (c : UInt8) (h : pointB p = true) : pointB (p ++ [c]) = true ∧ wholeB (p ++ [c]) = wholeB p ∧ restB (p ++ [c]) = restB p ++ [c] := by
  have hl := whole_len h
  have e : wholeB (p ++ [c]) = wholeB p := by
    show (p ++ [c]).takeWhile _ = _
    rw [List.takeWhile_append, if_neg]
    · rfl
    · show ¬ (wholeB p).length = p.length
      omega
  refine ⟨by unfold pointB at *; rw [List.any_append, h]; rfl, e, ?_⟩
  unfold restB
  rw [e, List.drop_append_of_le_length hl]
/-- No byte that may not be so far. -/
def okB (p : List UInt8) : Bool := (wholeB p).all isB && (restB p).all isB
theorem ok_snoc {p : List UInt8} {c : UInt8} (h : okB (p ++ [c]) = true) : okB p = true := by
  cases hp : pointB p
  · by_cases hc : c = 46
    · subst hc
      obtain ⟨_, e1, e2⟩ := point_dot hp
      unfold okB at h ⊢
      rw [e1] at h
      rw [whole_no hp, rest_no hp]
      simp only [Bool.and_eq_true] at h ⊢
      exact ⟨h.1, rfl⟩
    · have e1 := whole_no (point_no hp hc)
      unfold okB at h ⊢
      rw [e1, List.all_append] at h
      rw [whole_no hp, rest_no hp]
      simp only [Bool.and_eq_true] at h ⊢
      exact ⟨h.1.1, rfl⟩
  · obtain ⟨_, e1, e2⟩ := point_in c hp
    unfold okB at h ⊢
    rw [e1, e2, List.all_append] at h
    simp only [Bool.and_eq_true] at h ⊢
    exact ⟨h.1, h.2.1⟩
theorem ok_take {b : List UInt8} (k : Nat) (h : okB b = true) : okB (b.take k) = true := by
  have : ∀ j, okB (b.take (b.length - j)) = true := by
    intro j
    induction j with
    | zero => rw [Nat.sub_zero, List.take_length]; exact h
    | succ j ih =>
      by_cases hj : j < b.length
      · have e : b.length - j = (b.length - (j + 1)) + 1 := by omega
        rw [e, List.take_succ_eq_append_getElem (by omega)] at ih
        exact ok_snoc ih
      · rw [show b.length - (j + 1) = b.length - j by omega]; exact ih
  by_cases hk : k ≤ b.length
  · have := this (b.length - k)
    rw [show b.length - (b.length - k) = k by omega] at this
    exact this
  · rw [List.take_of_length_le (by omega)]; exact h
def isDs (l : List UInt8) : Bool := !l.isEmpty && l.all isB
def negB (t : List UInt8) : Bool := t.head? == some 45
def bodyB (t : List UInt8) : List UInt8 := if negB t then t.drop 1 else t
/-- The decimal of a text's body, its sign told, or the error. -/
def parseB (b : Bool) (p : List UInt8) : Dc × Int :=
  if isDs (wholeB p) && (!pointB p || isDs (restB p)) then if (restB p).length ≤ 1000 then (⟨b, digsOf (wholeB p ++ restB p), ((restB p).length : Int)⟩, 0) else (Dc.zero, 3) else (Dc.zero, 2)
def parseS (t : List UInt8) : Dc × Int := parseB (negB t) (bodyB t)
theorem parse_nok {b : Bool} {p : List UInt8} (h : okB p = false) : parseB b p = (Dc.zero, 2) := by
  unfold parseB
  rw [if_neg]
  intro hh
  simp only [Bool.and_eq_true, Bool.or_eq_true, isDs, Bool.not_eq_true'] at hh
  have h1 : (restB p).all isB = true := by
    rcases hh.2 with q | q
    · rw [rest_no q]; rfl
    · exact q.2
  unfold okB at h
  rw [hh.1.2, h1] at h
  cases h
theorem parse_bad_at {b : Bool} {p : List UInt8} {k : Nat} (hk : k < p.length) (h : okB (p.take k ++ [p[k]]) = false) : parseB b p = (Dc.zero, 2) := by
  refine parse_nok ?_
  cases ho : okB p
  · rfl
  · have := ok_take (k + 1) ho
    rw [List.take_succ_eq_append_getElem hk, h] at this
    cases this
theorem ok_point {p : List UInt8} {c : UInt8} (hp : pointB p = true) : okB (p ++ [c]) = (okB p && isB c) := by
  obtain ⟨_, e1, e2⟩ := point_in c hp
  unfold okB
  rw [e1, e2, List.all_append]
  simp [Bool.and_assoc]
theorem ok_nopoint {p : List UInt8} {c : UInt8} (hp : pointB p = false) (hc : c ≠ 46) : okB (p ++ [c]) = (okB p && isB c) := by
  unfold okB
  rw [whole_no (point_no hp hc), rest_no (point_no hp hc), whole_no hp, rest_no hp, List.all_append]
  simp
theorem ok_dot {p : List UInt8} (hp : pointB p = false) : okB (p ++ [46]) = okB p := by
  obtain ⟨_, e1, e2⟩ := point_dot hp
  unfold okB
  rw [e1, e2, whole_no hp, rest_no hp]
theorem digs_text {y : List Int} (h : mayL y = true) : digsOf (textL y) = y := by
  have e := parse_text h
  have h1 : (textL y).all isB = true := by
    cases hh : (textL y).all isB
    · rw [parse_bad hh] at e
      have := congrArg Prod.snd e
      simp at this
    · rfl
  rw [parse_good h1] at e
  exact congrArg Prod.fst e
theorem text_all {y : List Int} (h : mayL y = true) : (textL y).all isB = true := by
  cases hh : (textL y).all isB
  · have e := parse_text h
    rw [parse_bad hh] at e
    have := congrArg Prod.snd e
    simp at this
  · rfl
theorem no_point_all {l : List UInt8} (h : l.all isB = true) : pointB l = false := by
  unfold pointB
  rw [List.any_eq_false]
  intro x hx
  have := List.all_eq_true.1 h x hx
  intro q
  have e : x = 46 := by simpa using q
  subst e
  revert this; decide
/-- What is printed is parsed as the same number, in as many digits as were printed. -/
theorem parse_print {d : Dc} (h : mayDc d = true) : parseS (printL d) = (⟨d.neg, wideL d.l (d.s.toNat + 1), d.s⟩, 0) := by
  obtain ⟨h1, h2, h3⟩ := mayDc_iff.1 h
  obtain ⟨s, hs⟩ := Int.eq_ofNat_of_zero_le h2
  have hm := mayL_wide h1 (d.s.toNat + 1)
  have hl := wideL_len d.l (d.s.toNat + 1)
  have ht := text_all hm
  have hd := digs_text hm
  have htl := textL_length hm
  unfold printL
  rw [if_pos h]
  rw [hs] at hm hl ht hd htl ⊢
  simp only [Int.toNat_natCast] at hm hl ht hd htl ⊢
  generalize wideL d.l (s + 1) = y at *
  generalize textL y = t at *
  have htn : s + 1 ≤ t.length := by omega
  have key : ∀ b : Bool, parseB b (cutL t s) = (⟨b, y, (s : Int)⟩, 0) := by
    intro b
    unfold cutL
    split
    · rename_i hs0
      obtain ⟨a, ha⟩ : ∃ a, t.length = a + s := ⟨t.length - s, by omega⟩
      rw [show t.length - s = a by omega]
      have hta : (t.take a).all isB = true := by rw [List.all_eq_true] at ht ⊢; exact fun x hx => ht x (List.mem_of_mem_take hx)
      have htd : (t.drop a).all isB = true := by rw [List.all_eq_true] at ht ⊢; exact fun x hx => ht x (List.mem_of_mem_drop hx)
      have ew : wholeB (t.take a ++ 46 :: t.drop a) = t.take a := by
        unfold wholeB
        rw [List.takeWhile_append, if_pos]
        · simp
        · show (wholeB (t.take a)).length = _
          rw [whole_no (no_point_all hta)]
      have er : restB (t.take a ++ 46 :: t.drop a) = t.drop a := by
        unfold restB
        rw [ew, List.drop_append]
        simp
      have ep : pointB (t.take a ++ 46 :: t.drop a) = true := by unfold pointB; simp
      unfold parseB
      rw [ew, er, ep, List.take_append_drop]
      have g1 : (t.take a).isEmpty = false := by
        rw [List.isEmpty_eq_false_iff]
        intro q
        have := congrArg List.length q
        rw [List.length_take] at this
        rw [List.length_nil] at this
        omega
      have g2 : (t.drop a).isEmpty = false := by
        rw [List.isEmpty_eq_false_iff]
        intro q
        have := congrArg List.length q
        rw [List.length_drop] at this
        rw [List.length_nil] at this
        omega
      have g3 : (t.drop a).length = s := by rw [List.length_drop]; omega
      rw [if_pos (by simp [isDs, g1, g2, hta, htd]), g3, if_pos (by omega), hd]
    · have hs0 : s = 0 := by omega
      subst hs0
      have hp := no_point_all ht
      unfold parseB
      rw [whole_no hp, rest_no hp, hp, List.append_nil]
      have g1 : t.isEmpty = false := by
        rw [List.isEmpty_eq_false_iff]
        intro q
        rw [q] at htn
        simp at htn
      rw [if_pos (by simp [isDs, g1, ht]), if_pos (by simp), hd]
      rfl
  have hh : negB (cutL t s) = false := by
    have hx : ∀ x, (cutL t s).head? = some x → isB x = true := by
      intro x hx
      have : x ∈ t := by
        unfold cutL at hx
        split at hx
        · have hne : (t.take (t.length - s)) ≠ [] := by
            intro q
            have := congrArg List.length q
            rw [List.length_take] at this
            rw [List.length_nil] at this
            omega
          obtain ⟨y0, r0, hy⟩ := List.exists_cons_of_ne_nil hne
          rw [hy] at hx
          have e : y0 = x := by simpa using hx
          exact List.mem_of_mem_take (by rw [hy, e]; exact List.mem_cons_self)
        · exact List.mem_of_mem_head? hx
      exact List.all_eq_true.1 ht x this
    cases hn : negB (cutL t s)
    · rfl
    · unfold negB at hn
      have := hx 45 (by simpa using hn)
      revert this; decide
  cases hb : d.neg
  · unfold parseS bodyB
    simp only [Bool.false_eq_true, if_false, List.nil_append]
    rw [hh]
    simp only [Bool.false_eq_true, if_false]
    exact key false
  · unfold parseS bodyB
    simp only [if_true]
    have : negB ([45] ++ cutL t s) = true := by simp [negB]
    rw [this]
    simp only [if_true]
    exact key true
theorem wide_wide (l : List Int) (k : Nat) : wideL (wideL l k) k = wideL l k := by
  have := wideL_len l k
  show List.replicate (k - (wideL l k).length) 0 ++ wideL l k = wideL l k
  rw [show k - (wideL l k).length = 0 by omega]
  rfl
/-- What was parsed back is the same number, and is printed so again. -/
theorem print_back {d : Dc} (h : mayDc d = true) : cmpDc ⟨d.neg, wideL d.l (d.s.toNat + 1), d.s⟩ d = 0 ∧ printL ⟨d.neg, wideL d.l (d.s.toNat + 1), d.s⟩ = printL d ∧ mayDc ⟨d.neg, wideL d.l (d.s.toNat + 1), d.s⟩ = true := by
  obtain ⟨h1, h2, h3⟩ := mayDc_iff.1 h
  have hm := mayL_wide h1 (d.s.toNat + 1)
  have hmd : mayDc ⟨d.neg, wideL d.l (d.s.toNat + 1), d.s⟩ = true := mayDc_iff.2 ⟨hm, h2, h3⟩
  refine ⟨?_, ?_, hmd⟩
  · have hz : (⟨d.neg, wideL d.l (d.s.toNat + 1), d.s⟩ : Dc).z = d.z := by
      unfold Dc.z
      simp only
      rw [show val (wideL d.l (d.s.toNat + 1)) = val d.l from by unfold wideL; exact val_zeros_append _ _]
    have : ∀ K, (⟨d.neg, wideL d.l (d.s.toNat + 1), d.s⟩ : Dc).at_ K = d.at_ K := fun K => by unfold Dc.at_; rw [hz]
    unfold cmpDc cmpI
    rw [this]
    simp
  · unfold printL
    rw [if_pos h, if_pos hmd]
    simp only [wide_wide]

end Go.Proofs.YtjinbhnpcdlkiaaGreatDoor


namespace Go.Proofs.YtjinbhnpcdlkiaaGreatDoor
open Go.RowKit

/-- The numbers of a configuration. -/
structure Cn where
  ic : Int
  fc : Int
  sc : Int
  mi : Int
  mf : Int
  md : Int
  hs : Int
/-- The rules of a configuration. -/
structure Ru where
  lo : Dc
  hi : Dc
  st : Dc
  sg : Bool
  n : Cn
def valueC (r : Ru) (d : Dc) : Dc × Int :=
  if (roundDc d r.n.sc r.n.md).2 = 0 then clampDc (roundDc d r.n.sc r.n.md).1 r.lo r.hi else (Dc.zero, (roundDc d r.n.sc r.n.md).2)
def moveC (r : Ru) (d : Dc) (k : Int) : Dc × Int :=
  if mayDc d then (if (timesDc r.st k).2 = 0 then valueC r (addDc d (timesDc r.st k).1).1 else (Dc.zero, (timesDc r.st k).2)) else (Dc.zero, 1)
def fitsC (n : Cn) (d : Dc) : Bool :=
  decide (((partsS (trimDc d).l (trimDc d).s.toNat).1.length : Int) ≤ n.ic) && decide (((partsS (trimDc d).l (trimDc d).s.toNat).2.length : Int) ≤ n.sc)
/-- Rules that may be. -/
structure Ru.Ok (r : Ru) : Prop where
  ic : 1 ≤ r.n.ic ∧ r.n.ic ≤ 64
  fc : 0 ≤ r.n.fc ∧ r.n.fc ≤ 64
  sc : 0 ≤ r.n.sc ∧ r.n.sc ≤ r.n.fc
  mi : 0 ≤ r.n.mi ∧ r.n.mi ≤ r.n.ic
  mf : 0 ≤ r.n.mf ∧ r.n.mf ≤ r.n.sc
  md : 0 ≤ r.n.md ∧ r.n.md ≤ 6
  hs : 1 ≤ r.n.hs ∧ r.n.hs ≤ 1024
  lo : mayDc r.lo = true ∧ trimDc r.lo = r.lo ∧ fitsC r.n r.lo = true
  hi : mayDc r.hi = true ∧ trimDc r.hi = r.hi ∧ fitsC r.n r.hi = true
  st : mayDc r.st = true ∧ trimDc r.st = r.st ∧ fitsC r.n r.st = true
  row : ¬ 0 < cmpDc r.lo r.hi
  pos : 0 < cmpDc r.st Dc.zero
  sg : r.sg = r.lo.neg
theorem parts_len0 (l : List Int) (s : Nat) : (partsS l s).1.length ≤ l.length - s := by
  have e1 := wideL_len l s
  have e2 : (partsS l s).1 = trimL ((wideL l s).take ((wideL l s).length - s)) := rfl
  have e4 := trimL_len ((wideL l s).take ((wideL l s).length - s))
  rw [e2, e4]
  simp only [List.length_take]
  omega
theorem strip_diff (k : Nat) (l : List Int) : (stripZ k l).1.length + k ≤ l.length + (stripZ k l).2 ∨ (stripZ k l).1 = [] := by
  induction k generalizing l with
  | zero => exact .inl (Nat.le_refl _)
  | succ k ih =>
    simp only [stripZ]
    split
    · rename_i h
      rcases ih l.dropLast with q | q
      · left
        rw [List.length_dropLast] at q
        have : 0 < l.length := by
          rcases Nat.eq_zero_or_pos l.length with h0 | h0
          · have e := List.eq_nil_of_length_eq_zero h0
            subst e
            simp at h
          · exact h0
        omega
      · exact .inr q
    · left; simp
theorem trim_wide {d : Dc} (h : mayDc d = true) (k : Nat) : trimDc ⟨d.neg, wideL d.l k, d.s⟩ = trimDc d := by
  obtain ⟨h1, h2, _⟩ := mayDc_iff.1 h
  rw [trimDc_canon h1 h2, trimDc_canon (d := ⟨d.neg, wideL d.l k, d.s⟩) (mayL_wide h1 k) h2]
  have hz : (⟨d.neg, wideL d.l k, d.s⟩ : Dc).z = d.z := by
    unfold Dc.z
    simp only
    rw [show val (wideL d.l k) = val d.l from by unfold wideL; exact val_zeros_append _ _]
  rw [hz]
/-- The digits ahead of the point, and behind it, of what has so many. -/
theorem trim_fits {b : Bool} {l : List Int} {s q : Nat} (hm : mayL l = true) (hl : l.length ≤ q + s) :
    (partsS (trimDc ⟨b, l, (s : Int)⟩).l (trimDc ⟨b, l, (s : Int)⟩).s.toNat).1.length ≤ q ∧ (partsS (trimDc ⟨b, l, (s : Int)⟩).l (trimDc ⟨b, l, (s : Int)⟩).s.toNat).2.length ≤ s := by
  have h1 := parts_len0 (trimDc ⟨b, l, (s : Int)⟩).l (trimDc ⟨b, l, (s : Int)⟩).s.toNat
  have h2 := parts_len (trimDc ⟨b, l, (s : Int)⟩).l (trimDc ⟨b, l, (s : Int)⟩).s.toNat
  have h3 := trim_le (d := ⟨b, l, (s : Int)⟩) hm (by simp)
  have ht : (trimL l).length ≤ l.length := by rw [trimL_len]; omega
  have h4 : (trimDc ⟨b, l, (s : Int)⟩).l.length - (trimDc ⟨b, l, (s : Int)⟩).s.toNat ≤ q := by
    rw [trimDc_eq]
    split
    · exact Nat.zero_le _
    · have := strip_diff s (trimL l)
      show (stripZ s (trimL l)).1.length - ((((stripZ s (trimL l)).2 : Nat) : Int)).toNat ≤ q
      rcases this with g | g
      · simp only [Int.toNat_natCast]; omega
      · rw [g]; simp
  simp only at h3
  omega

end Go.Proofs.YtjinbhnpcdlkiaaGreatDoor

