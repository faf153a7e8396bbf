/- Decimals: which is greater, by signs and digits of one scale. No program in sight. No condition. -/
import Derived.Test.YtaolimhbeoocjaaCanon
namespace Go.Proofs.Ytaolimhbeoocjaa

/-- By the signs, and by how the digits compare. -/
def signC (x y : Bool) (c : Int) : Int := if x then (if y then -c else -1) else (if y then 1 else c)
def zerosB (l : List Int) (k : Nat) : List Int := l ++ List.replicate k 0
theorem val_zerosB (l : List Int) (k : Nat) : val (zerosB l k) = val l * 10 ^ k := val_append_zeros l k
theorem mayL_zerosB {l : List Int} (h : mayL l = true) (k : Nat) : mayL (zerosB l k) = true := by
  unfold zerosB; rw [mayL_append, h, mayL_replicate]; rfl
theorem cmpI_neg2 (a b : Int) : cmpI (-a) (-b) = -cmpI a b := by unfold cmpI; split <;> split <;> omega
theorem canonic_neg {d : Dc} {s : Nat} {z : Int} (h : Canonic d s z) (hn : d.neg = true) : d.z < 0 := by
  have h1 := h.sgn
  rw [hn] at h1
  have hz : z < 0 := by simpa using h1.symm
  have he := h.eq
  rcases Int.lt_or_le d.z 0 with q | q
  · exact q
  · have := Int.mul_nonneg q (Int.le_of_lt (ten_pos (s - d.s.toNat)))
    omega
theorem canonic_pos {d : Dc} {s : Nat} {z : Int} (h : Canonic d s z) (hn : d.neg = false) : 0 ≤ d.z := by
  unfold Dc.z
  rw [hn]
  have := val_bd h.may
  simp; omega
theorem at_z (d : Dc) (N : Nat) : d.at_ N = d.z * 10 ^ (N - d.s.toNat) := rfl
/-- Which of two trim decimals is greater, as it is reckoned. -/
theorem signC_cmp {x y : Dc} {s t : Nat} {z u : Int} (hx : Canonic x s z) (hy : Canonic y t u) (N : Nat) (h1 : x.s.toNat ≤ N) (h2 : y.s.toNat ≤ N) :
    signC x.neg y.neg (cmpL (zerosB x.l (N - x.s.toNat)) (zerosB y.l (N - y.s.toNat))) = cmpDc x y := by
  rw [cmpDc_at x y N h1 h2, cmpL_val (mayL_zerosB hx.may _) (mayL_zerosB hy.may _), val_zerosB, val_zerosB, at_z, at_z]
  have px := ten_pos (N - x.s.toNat)
  have py := ten_pos (N - y.s.toNat)
  have ex : x.z = if x.neg then -val x.l else val x.l := rfl
  have ey : y.z = if y.neg then -val y.l else val y.l := rfl
  unfold signC
  cases hxn : x.neg <;> cases hyn : y.neg
  · rw [hxn] at ex
    rw [hyn] at ey
    simp at ex ey
    simp [ex, ey]
  · have hz := canonic_pos hx hxn
    have hu := canonic_neg hy hyn
    have h1 := Int.mul_nonneg hz (Int.le_of_lt px)
    have h2 := Int.mul_neg_of_neg_of_pos hu py
    simp only [Bool.false_eq_true, if_false, if_true]
    unfold cmpI
    rw [if_neg (by omega), if_pos (by omega)]
  · have hz := canonic_neg hx hxn
    have hu := canonic_pos hy hyn
    have h1 := Int.mul_neg_of_neg_of_pos hz px
    have h2 := Int.mul_nonneg hu (Int.le_of_lt py)
    simp only [Bool.false_eq_true, if_false, if_true]
    unfold cmpI
    rw [if_pos (by omega)]
  · rw [hxn] at ex
    rw [hyn] at ey
    simp at ex ey
    rw [ex, ey]
    simp only [if_true]
    rw [Int.neg_mul, Int.neg_mul, cmpI_neg2]
theorem trimDc_canonic {d : Dc} (h : mayL d.l = true) (h0 : 0 ≤ d.s) : Canonic (trimDc d) d.s.toNat d.z := by
  rw [trimDc_canon h h0]; exact canonic _ _
theorem cmpDc_trim {a b : Dc} (ha : mayL a.l = true) (ha0 : 0 ≤ a.s) (hb : mayL b.l = true) (hb0 : 0 ≤ b.s) : cmpDc (trimDc a) (trimDc b) = cmpDc a b := by
  have h1 := trimDc_at ha ha0 (max a.s.toNat b.s.toNat) (by omega)
  have h2 := trimDc_at hb hb0 (max a.s.toNat b.s.toNat) (by omega)
  rw [cmpDc_at _ _ _ h1.2 h2.2, h1.1, h2.1]; rfl
theorem cmpDc_eq_zero {x y : Dc} {s t : Nat} {z u : Int} (hx : x = canon s z) (hy : y = canon t u) : cmpDc x y = 0 ↔ x = y := by
  constructor
  · intro h
    have e1 := canon_at_eq s (max s t) z (by omega)
    have e2 := canon_at_eq t (max s t) u (by omega)
    have l1 := canon_le s z
    have l2 := canon_le t u
    subst hx hy
    rw [cmpDc_at _ _ (max s t) (by omega) (by omega), e1, e2] at h
    have he : z * 10 ^ (max s t - s) = u * 10 ^ (max s t - t) := by
      unfold cmpI at h
      split at h
      · omega
      · split at h
        · omega
        · omega
    have c1 := canon_shift s (max s t - s) z
    have c2 := canon_shift t (max s t - t) u
    rw [show s + (max s t - s) = max s t from by omega] at c1
    rw [show t + (max s t - t) = max s t from by omega] at c2
    rw [← c1, ← c2, he]
  · intro h
    subst h
    unfold cmpDc cmpI
    simp
theorem cmpDc_self (x : Dc) : cmpDc x x = 0 := by unfold cmpDc cmpI; simp
theorem cmpDc_trimL {a b : Dc} (ha : mayL a.l = true) (ha0 : 0 ≤ a.s) : cmpDc (trimDc a) b = cmpDc a b := by
  have h1 := trimDc_at ha ha0 (max a.s.toNat b.s.toNat) (by omega)
  rw [cmpDc_at _ _ _ h1.2 (by omega), h1.1]; rfl

theorem stripZ_len (s : Nat) (l : List Int) : (stripZ s l).1.length ≤ l.length := by
  induction s generalizing l with
  | zero => exact Nat.le_refl _
  | succ s ih =>
    simp only [stripZ]
    split
    · have := ih l.dropLast
      simp at this
      omega
    · exact Nat.le_refl _
theorem trimDc_len (d : Dc) : (trimDc d).l.length ≤ d.l.length := by
  unfold trimDc
  split
  · simp [Dc.zero]
  · have h1 := stripZ_len d.s.toNat (trimL d.l)
    have h2 := trimL_len d.l
    simp only
    omega

end Go.Proofs.Ytaolimhbeoocjaa
