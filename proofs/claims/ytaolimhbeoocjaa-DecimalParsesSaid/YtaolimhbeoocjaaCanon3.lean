/- Decimals: sums, multiples, other scales, by what they are worth. No program in sight. No condition. -/
import Derived.Test.YtaolimhbeoocjaaCanon2
namespace Go.Proofs.Ytaolimhbeoocjaa

theorem trim_ofNat (b : Bool) {v : Int} (hv : 0 ≤ v) (N : Nat) : trimDc ⟨b, ofN v.toNat, (N : Int)⟩ = canon N (if b then -v else v) := by
  rw [trimDc_canon (mayL_ofN _) (by simp)]
  simp only [Dc.z, val_ofN, Int.toNat_natCast]
  congr 1
  cases b <;> simp <;> omega
theorem at_zerosB (d : Dc) (N : Nat) : d.at_ N = if d.neg then -val (zerosB d.l (N - d.s.toNat)) else val (zerosB d.l (N - d.s.toNat)) := by
  rw [val_zerosB]
  unfold Dc.at_ Dc.z
  cases d.neg
  · simp
  · simp only [if_true]; rw [Int.neg_mul]
/-- Both together. -/
def addDc (a b : Dc) : Dc × Int :=
  if mayDc a && mayDc b then (canon (max a.s.toNat b.s.toNat) (a.at_ (max a.s.toNat b.s.toNat) + b.at_ (max a.s.toNat b.s.toNat)), 0) else (Dc.zero, 1)
def minusDc (d : Dc) : Dc := ⟨!d.neg, d.l, d.s⟩
theorem add_same {a b : Dc} (ha : mayL a.l = true) (hb : mayL b.l = true) (h : a.neg = b.neg) (N : Nat) :
    trimDc ⟨a.neg, ofN (val (zerosB a.l (N - a.s.toNat)) + val (zerosB b.l (N - b.s.toNat))).toNat, (N : Int)⟩ = canon N (a.at_ N + b.at_ N) := by
  have h1 := val_bd (mayL_zerosB ha (N - a.s.toNat))
  have h2 := val_bd (mayL_zerosB hb (N - b.s.toNat))
  rw [trim_ofNat _ (by omega), at_zerosB, at_zerosB, ← h]
  congr 1
  cases a.neg <;> simp <;> omega
theorem add_diff {a b : Dc} (ha : mayL a.l = true) (hb : mayL b.l = true) (h : a.neg ≠ b.neg) (N : Nat) :
    (if val (zerosB a.l (N - a.s.toNat)) < val (zerosB b.l (N - b.s.toNat)) then trimDc ⟨b.neg, ofN (val (zerosB b.l (N - b.s.toNat)) - val (zerosB a.l (N - a.s.toNat))).toNat, (N : Int)⟩
      else trimDc ⟨a.neg, ofN (val (zerosB a.l (N - a.s.toNat)) - val (zerosB b.l (N - b.s.toNat))).toNat, (N : Int)⟩) = canon N (a.at_ N + b.at_ N) := by
  have h1 := val_bd (mayL_zerosB ha (N - a.s.toNat))
  have h2 := val_bd (mayL_zerosB hb (N - b.s.toNat))
  rw [at_zerosB, at_zerosB]
  split
  · rw [trim_ofNat _ (by omega)]
    congr 1
    cases hx : a.neg <;> cases hy : b.neg <;> simp [hx, hy] at h ⊢ <;> omega
  · rw [trim_ofNat _ (by omega)]
    congr 1
    cases hx : a.neg <;> cases hy : b.neg <;> simp [hx, hy] at h ⊢ <;> omega
theorem cmpL_ltz {a b : List Int} (ha : mayL a = true) (hb : mayL b = true) : cmpL a b < 0 ↔ val a < val b := by
  rw [cmpL_val ha hb]
  unfold cmpI
  constructor
  · intro h
    split at h
    · assumption
    · split at h <;> omega
  · intro h
    rw [if_pos h]; omega
/-- So many times. -/
def timesDc (d : Dc) (n : Int) : Dc × Int :=
  if mayDc d then (if n < -1000 ∨ 1000 < n then (Dc.zero, 3) else (canon d.s.toNat (n * d.z), 0)) else (Dc.zero, 1)
theorem times_eq {d : Dc} (h : mayL d.l = true) (n : Int) (s : Nat) (hs : d.s = (s : Int)) :
    trimDc ⟨d.neg != decide (n < 0), ofN ((if n < -n then -n else n) * val d.l).toNat, d.s⟩ = canon s (n * d.z) := by
  have hv := val_bd h
  rw [hs]
  have hp : 0 ≤ (if n < -n then -n else n) * val d.l := Int.mul_nonneg (by split <;> omega) hv.1
  rw [trim_ofNat _ hp]
  congr 1
  unfold Dc.z
  by_cases hn : n < 0
  · rw [if_pos (show n < -n by omega)]
    cases d.neg <;> simp [hn, Int.neg_mul, Int.mul_neg]
  · rw [if_neg (show ¬ n < -n by omega)]
    cases d.neg <;> simp [hn, Int.mul_neg]
/-- The same number of another scale. -/
def alignDc (d : Dc) (s : Int) : Dc × Int :=
  if mayDc d then (if s < (trimDc d).s ∨ 1000 < s then (Dc.zero, 3) else (⟨(trimDc d).neg, trimL (zerosB (trimDc d).l (s - (trimDc d).s).toNat), s⟩, 0)) else (Dc.zero, 1)
/-- A decimal of a scale, its digits without noughts ahead. -/
def scaled (s : Nat) (z : Int) : Dc := ⟨decide (z < 0), digs z, s⟩
theorem align_scaled {d : Dc} {t : Nat} {z : Int} (h : Canonic d t z) (s : Nat) (hs : d.s.toNat ≤ s) :
    (⟨d.neg, trimL (zerosB d.l ((s : Int) - d.s).toNat), (s : Int)⟩ : Dc) = scaled s (d.at_ s) := by
  have h0 := h.lo
  have e1 : ((s : Int) - d.s).toNat = s - d.s.toNat := by omega
  have hz := at_zerosB d s
  have hm := mayL_zerosB h.may (s - d.s.toNat)
  unfold scaled
  rw [e1]
  have hd := digs_of hm d.neg
  rw [← hz] at hd
  rw [hd]
  congr 1
  cases hn : d.neg
  · have h1 := canonic_pos h hn
    have h2 := Int.mul_nonneg h1 (Int.le_of_lt (ten_pos (s - d.s.toNat)))
    unfold Dc.at_
    simp; omega
  · have h1 := canonic_neg h hn
    have h2 := Int.mul_neg_of_neg_of_pos h1 (ten_pos (s - d.s.toNat))
    unfold Dc.at_
    simp; omega

end Go.Proofs.Ytaolimhbeoocjaa
