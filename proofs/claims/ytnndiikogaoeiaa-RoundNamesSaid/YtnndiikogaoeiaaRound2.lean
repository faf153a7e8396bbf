/- Rounding as each side reckons it. No program in sight. No condition. -/
import Derived.Test.YtnndiikogaoeiaaRound
namespace Go.Proofs.Ytnndiikogaoeiaa

theorem trim_common {d : Dc} (h : mayL d.l = true) (h0 : 0 ≤ d.s) (mode : Int) (k : Nat) : roundZ mode d k = roundZ mode (trimDc d) k := by
  have hc := trimDc_canonic h h0
  have h1 := trimDc_at h h0 (max d.s.toNat k) (by omega)
  rw [roundZ_s mode h k (max d.s.toNat k) (by omega) (by omega), roundZ_s mode hc.may k (max d.s.toNat k) h1.2 (by omega), h1.1]
/-- One that needs no rounding. -/
theorem round_keep {d : Dc} (h : mayL d.l = true) (h0 : 0 ≤ d.s) (mode : Int) (k : Nat) (hk : (trimDc d).s ≤ k) : roundZ mode d k = (trimDc d).at_ k := by
  have hc := trimDc_canonic h h0
  have := hc.lo
  rw [trim_common h h0, roundZ_s mode hc.may k k (by omega) (Nat.le_refl _), Nat.sub_self]
  have := roundS_exact mode ((trimDc d).at_ k) (p := 10 ^ 0) (by simp)
  simpa using this
theorem digL_odd {l : List Int} (h : mayL l = true) : (digL l 0 % 2 == 1) = (val l % 2 == 1) := by
  rcases snoc_or l with rfl | ⟨r, d, rfl⟩
  · rfl
  · rw [val_snoc]
    have e : digL (r ++ [d]) 0 = d := by
      unfold digL
      rw [if_pos (by simp)]
      simp [List.getD]
    rw [e]
    have e2 : (10 * val r + d) % 2 = d % 2 := by omega
    rw [e2]
theorem cut_val {l : List Int} (h : mayL l = true) (less : Nat) :
    val (l.take (l.length - less)) = val l / 10 ^ less ∧ val (l.drop (l.length - less)) = val l % 10 ^ less := by
  have hp := ten_pos less
  by_cases hl : less ≤ l.length
  · have h1 := val_append (l.take (l.length - less)) (l.drop (l.length - less))
    rw [List.take_append_drop, List.length_drop, show l.length - (l.length - less) = less from by omega] at h1
    have h2 := val_bd (mayL_drop h (l.length - less))
    rw [List.length_drop, show l.length - (l.length - less) = less from by omega] at h2
    have h3 : val l = 10 ^ less * val (l.take (l.length - less)) + val (l.drop (l.length - less)) := by rw [h1, Int.mul_comm]
    constructor
    · rw [h3, Int.mul_add_ediv_left _ _ (by omega), Int.ediv_eq_zero_of_lt h2.1 h2.2]; omega
    · rw [h3, Int.mul_add_emod_self_left, Int.emod_eq_of_lt h2.1 h2.2]
  · have e : l.length - less = 0 := by omega
    have h2 := val_bd h
    have h3 := pow_le (show l.length ≤ less by omega)
    rw [e]
    simp only [List.take_zero, List.drop_zero]
    refine ⟨?_, ?_⟩
    · rw [Int.ediv_eq_zero_of_lt h2.1 (by omega)]; rfl
    · rw [Int.emod_eq_of_lt h2.1 (by omega)]
theorem five_val (k : Nat) : val (5 :: List.replicate k 0) = 5 * 10 ^ k := by rw [val_cons, val_replicate, List.length_replicate]; omega
theorem mayL_five (k : Nat) : mayL (5 :: List.replicate k 0) = true := by
  have := mayL_replicate k
  unfold mayL at *
  simp [isDig] at *
theorem half_cmp {l : List Int} (h : mayL l = true) (less : Nat) (hl : 0 < less) : cmpL (l.drop (l.length - less)) (5 :: List.replicate (less - 1) 0) = cmpI (2 * (val l % 10 ^ less)) (10 ^ less) := by
  rw [cmpL_val (mayL_drop h _) (mayL_five _), (cut_val h less).2, five_val]
  have e : (10 : Int) ^ less = 10 ^ (less - 1) * 10 := by
    rw [← Int.pow_succ]; congr 1; omega
  unfold cmpI
  rw [e]
  congr 1
  · simp only [eq_iff_iff]; omega
  · congr 1
    simp only [eq_iff_iff]; omega
/-- The program's way: what is kept, and the rest held against a half. -/
theorem round_steps {d : Dc} (h : mayL d.l = true) (h0 : 0 ≤ d.s) (mode : Int) (k less : Nat) (hk : (trimDc d).s = (k + less : Nat)) (hl : 0 < less) :
    roundZ mode d k = if (trimDc d).neg then -(val ((trimDc d).l.take ((trimDc d).l.length - less)) + if awayB mode (trimDc d).neg (digL ((trimDc d).l.take ((trimDc d).l.length - less)) 0 % 2 == 1) (cmpL ((trimDc d).l.drop ((trimDc d).l.length - less)) (5 :: List.replicate (less - 1) 0)) then 1 else 0)
      else val ((trimDc d).l.take ((trimDc d).l.length - less)) + if awayB mode (trimDc d).neg (digL ((trimDc d).l.take ((trimDc d).l.length - less)) 0 % 2 == 1) (cmpL ((trimDc d).l.drop ((trimDc d).l.length - less)) (5 :: List.replicate (less - 1) 0)) then 1 else 0 := by
  have hc := trimDc_canonic h h0
  rw [trim_common h h0]
  generalize trimDc d = T at *
  have hT := hc.may
  have hs : T.s.toNat = k + less := by omega
  rw [roundZ_at mode T k (k + less) (by omega) (by omega), hs, Nat.sub_self, show k + less - k = less from by omega]
  have hv := cut_val hT less
  have hz := hc.last (by omega)
  have hne : ¬ val T.l % 10 ^ less = 0 := by
    intro h2
    apply hz
    have e : (10 : Int) ^ less = 10 * 10 ^ (less - 1) := by
      rw [Int.mul_comm, ← Int.pow_succ]; congr 1; omega
    rw [e] at h2
    have h3 : val T.l % 10 = 0 := by
      have := Int.emod_emod_of_dvd (val T.l) (show (10 : Int) ∣ 10 * 10 ^ (less - 1) from ⟨_, rfl⟩)
      rw [h2] at this
      omega
    unfold Dc.z
    cases T.neg
    · simpa using h3
    · simp only [if_true]; omega
  rw [digL_odd (mayL_take hT _), half_cmp hT less hl, hv.1]
  unfold roundV
  rw [Int.pow_zero, Int.mul_one, if_neg hne]
  split
  · congr 1
    · split <;> omega
  · split <;> omega
theorem headed_take {l : List Int} (h : headed l) (n : Nat) : headed (l.take n) := by
  intro d r e
  cases l with
  | nil => simp at e
  | cons x y =>
    cases n with
    | zero => simp at e
    | succ n =>
      rw [List.take_succ_cons] at e
      injection e with e1 e2
      subst e1
      exact h x y rfl

/-! ### The document's way -/
/-- The next number of the scale that is no farther from nought. -/
def lowZ (d : Dc) (k : Nat) : Int :=
  if d.neg then -(val d.l * 10 ^ (max d.s.toNat k - d.s.toNat) / 10 ^ (max d.s.toNat k - k)) else val d.l * 10 ^ (max d.s.toNat k - d.s.toNat) / 10 ^ (max d.s.toNat k - k)
theorem lowZ_at (d : Dc) (k K : Nat) (h1 : d.s.toNat ≤ K) (h2 : k ≤ K) :
    lowZ d k = if d.neg then -(val d.l * 10 ^ (K - d.s.toNat) / 10 ^ (K - k)) else val d.l * 10 ^ (K - d.s.toNat) / 10 ^ (K - k) := by
  have e1 : (10 : Int) ^ (K - d.s.toNat) = 10 ^ (max d.s.toNat k - d.s.toNat) * 10 ^ (K - max d.s.toNat k) := by
    rw [← Int.pow_add]; congr 1; omega
  have e2 : (10 : Int) ^ (K - k) = 10 ^ (max d.s.toNat k - k) * 10 ^ (K - max d.s.toNat k) := by
    rw [← Int.pow_add]; congr 1; omega
  rw [e1, e2, ← Int.mul_assoc, Int.mul_ediv_mul_of_pos_left _ _ (ten_pos _)]
  rfl
theorem val_at (d : Dc) (K : Nat) : d.at_ K = if d.neg then -(val d.l * 10 ^ (K - d.s.toNat)) else val d.l * 10 ^ (K - d.s.toNat) := by
  unfold Dc.at_ Dc.z
  cases d.neg <;> simp [Int.neg_mul]
theorem lowZ_trim {d : Dc} (h : mayL d.l = true) (h0 : 0 ≤ d.s) (k : Nat) : lowZ d k = lowZ (trimDc d) k := by
  have hc := trimDc_canonic h h0
  have h1 := trimDc_at h h0 (max d.s.toNat k) (by omega)
  rw [lowZ_at d k (max d.s.toNat k) (by omega) (by omega), lowZ_at (trimDc d) k (max d.s.toNat k) h1.2 (by omega)]
  have e1 := val_at d (max d.s.toNat k)
  have e2 := val_at (trimDc d) (max d.s.toNat k)
  rw [h1.1, e1] at e2
  have v1 := (val_bd h).1
  have v2 := (val_bd hc.may).1
  have p1 := ten_pos (max d.s.toNat k - d.s.toNat)
  have p2 := ten_pos (max d.s.toNat k - (trimDc d).s.toNat)
  have m1 := Int.mul_nonneg v1 (Int.le_of_lt p1)
  have m2 := Int.mul_nonneg v2 (Int.le_of_lt p2)
  generalize val d.l * 10 ^ (max d.s.toNat k - d.s.toNat) = a at *
  generalize val (trimDc d).l * 10 ^ (max d.s.toNat k - (trimDc d).s.toNat) = b at *
  have hab : a = b := by
    cases hn : d.neg <;> cases hm : (trimDc d).neg <;> rw [hn, hm] at e2 <;> simp at e2 <;> omega
  have hz : a = 0 → ∀ p : Int, a / p = 0 := fun h p => by rw [h]; simp
  cases hn : d.neg <;> cases hm : (trimDc d).neg <;> rw [hn, hm] at e2 <;> simp at e2 <;> rw [← hab] <;> simp
  · rw [hz (by omega)]; rfl
  · rw [hz (by omega)]; rfl
/-- The document's next decimal of a scale. -/
theorem near_eq {d : Dc} (h : mayL d.l = true) (h0 : 0 ≤ d.s) (k : Nat) (l : List Int)
    (hl : l = trimL (if (k : Int) - (trimDc d).s < 0 then (trimDc d).l.take ((trimDc d).l.length - (-((k : Int) - (trimDc d).s)).toNat) else (trimDc d).l ++ List.replicate ((k : Int) - (trimDc d).s).toNat 0)) :
    (⟨(trimDc d).neg && decide (0 < l.length), l, (k : Int)⟩ : Dc) = scaled k (lowZ d k) := by
  have hc := trimDc_canonic h h0
  rw [lowZ_trim h h0]
  generalize trimDc d = T at *
  have hT := hc.may
  have hlo := hc.lo
  have hbd := val_bd hT
  have key : mayL l = true ∧ headed l ∧ val l = val T.l * 10 ^ (max T.s.toNat k - T.s.toNat) / 10 ^ (max T.s.toNat k - k) := by
    by_cases hk : (k : Int) - T.s < 0
    · rw [if_pos hk] at hl
      have e : (-((k : Int) - T.s)).toNat = T.s.toNat - k := by omega
      rw [e] at hl
      have hm := mayL_take hT (T.l.length - (T.s.toNat - k))
      refine ⟨by rw [hl]; exact mayL_trim hm, by rw [hl]; exact headed_trim _, ?_⟩
      rw [hl, val_trim, (cut_val hT _).1, show max T.s.toNat k = T.s.toNat from by omega, Nat.sub_self, Int.pow_zero, Int.mul_one]
    · rw [if_neg hk] at hl
      have e : ((k : Int) - T.s).toNat = k - T.s.toNat := by omega
      rw [e] at hl
      refine ⟨by rw [hl]; exact mayL_trim (mayL_zerosB hT _), by rw [hl]; exact headed_trim _, ?_⟩
      rw [hl, val_trim, val_append_zeros, show max T.s.toNat k = k from by omega, Nat.sub_self, Int.pow_zero, Int.ediv_one]
  obtain ⟨k1, k2, k3⟩ := key
  have h4 := val_bd k1
  unfold lowZ scaled digs
  rw [← k3]
  have e1 : l = ofN (val l).toNat := ofN_val k1 k2
  have e2 : (val l = 0) ↔ l = [] := by
    constructor
    · intro hv; rw [e1, hv]; rfl
    · intro hv; rw [hv]; rfl
  have e3 : (0 < l.length) ↔ 0 < val l := by
    rw [List.length_pos_iff]
    constructor
    · intro hne
      have : ¬ val l = 0 := fun hh => hne (e2.1 hh)
      omega
    · intro hp hh
      have := e2.2 hh
      omega
  have e4 : ((if T.neg then -val l else val l).natAbs) = (val l).toNat := by cases T.neg <;> simp <;> omega
  rw [e4, ← e1]
  congr 1
  cases T.neg
  · simp; omega
  · simp [e3]

end Go.Proofs.Ytnndiikogaoeiaa
