/- Rounding, by what decimals are worth. No program in sight. No condition. -/
import Derived.Test.YtnndiikogaoeiaaCanon3
namespace Go.Proofs.Ytnndiikogaoeiaa

/-- Does a rest go away from nought? q: what is kept; c: how the rest is to a half. -/
def awayB (mode : Int) (neg odd : Bool) (c : Int) : Bool :=
  if mode = 2 then neg else if mode = 3 then !neg else if mode = 6 then (if c = 0 then odd else decide (0 < c)) else if mode = 4 then decide (0 < c) else if mode = 5 then decide (0 ≤ c) else decide (mode = 1)
/-- A number a of which p are one: rounded, its sign apart. -/
def roundV (mode : Int) (neg : Bool) (a p : Int) : Int :=
  if a % p = 0 then a / p else if awayB mode neg (a / p % 2 == 1) (cmpI (2 * (a % p)) p) then a / p + 1 else a / p
def roundZ (mode : Int) (d : Dc) (n : Nat) : Int :=
  let v := roundV mode d.neg (val d.l * 10 ^ (max d.s.toNat n - d.s.toNat)) (10 ^ (max d.s.toNat n - n))
  if d.neg then -v else v
def roundDc (d : Dc) (n mode : Int) : Dc × Int :=
  if mayDc d && decide (0 ≤ mode) && decide (mode ≤ 6) then (if n < 0 ∨ 1000 < n then (Dc.zero, 3) else (scaled n.toNat (roundZ mode d n.toNat), 0)) else (Dc.zero, 1)

theorem emod_scale (a p : Int) {m : Int} (hm : 0 < m) : a * m % (p * m) = a % p * m := by
  rw [Int.emod_def, Int.emod_def, Int.mul_ediv_mul_of_pos_left _ _ hm, Int.sub_mul, Int.mul_assoc, Int.mul_assoc, Int.mul_comm m]
theorem roundV_mul (mode : Int) (neg : Bool) (a p : Int) {m : Int} (hm : 0 < m) : roundV mode neg (a * m) (p * m) = roundV mode neg a p := by
  unfold roundV
  rw [emod_scale _ _ hm, Int.mul_ediv_mul_of_pos_left _ _ hm]
  have e : 2 * (a % p * m) = 2 * (a % p) * m := by rw [Int.mul_assoc]
  rw [e, cmpI_mul hm]
  by_cases h : a % p = 0
  · rw [if_pos h, if_pos (by rw [h]; simp)]
  · rw [if_neg h, if_neg (fun h2 => h (by rcases Int.mul_eq_zero.1 h2 with h3 | h3 <;> omega))]
/-- At whatever scale the number is taken. -/
theorem roundZ_at (mode : Int) (d : Dc) (n K : Nat) (h1 : d.s.toNat ≤ K) (h2 : n ≤ K) :
    roundZ mode d n = if d.neg then -roundV mode d.neg (val d.l * 10 ^ (K - d.s.toNat)) (10 ^ (K - n)) else roundV mode d.neg (val d.l * 10 ^ (K - d.s.toNat)) (10 ^ (K - n)) := by
  have e1 : (10 : Int) ^ (K - d.s.toNat) = 10 ^ (max d.s.toNat n - d.s.toNat) * 10 ^ (K - max d.s.toNat n) := by
    rw [← Int.pow_add]; congr 1; omega
  have e2 : (10 : Int) ^ (K - n) = 10 ^ (max d.s.toNat n - n) * 10 ^ (K - max d.s.toNat n) := by
    rw [← Int.pow_add]; congr 1; omega
  rw [e1, e2, ← Int.mul_assoc, roundV_mul _ _ _ _ (ten_pos _)]
  rfl
/-- What rounding hangs on: the number, and whether it is below 0. -/
theorem z_neg {d : Dc} (h : mayL d.l = true) (hv : val d.l ≠ 0) : d.neg = decide (d.z < 0) := by
  have h1 := (val_bd h).1
  unfold Dc.z
  cases d.neg
  · simp; omega
  · simp; omega
def roundS (mode : Int) (a p : Int) : Int := if a < 0 then -roundV mode true (-a) p else roundV mode false a p
theorem roundV_zero (mode : Int) (b : Bool) (p : Int) : roundV mode b 0 p = 0 := by unfold roundV; simp
theorem roundZ_s (mode : Int) {d : Dc} (h : mayL d.l = true) (n K : Nat) (h1 : d.s.toNat ≤ K) (h2 : n ≤ K) : roundZ mode d n = roundS mode (d.at_ K) (10 ^ (K - n)) := by
  have hv := val_bd h
  have hp := ten_pos (K - d.s.toNat)
  rw [roundZ_at mode d n K h1 h2]
  unfold roundS Dc.at_ Dc.z
  have hm := Int.mul_nonneg hv.1 (Int.le_of_lt hp)
  cases hn : d.neg
  · simp only [Bool.false_eq_true, if_false]
    rw [if_neg (by omega)]
  · simp only [if_true]
    rw [Int.neg_mul]
    by_cases h0 : val d.l * 10 ^ (K - d.s.toNat) = 0
    · rw [h0]; simp [roundV_zero]
    · rw [if_pos (by omega), Int.neg_neg]
theorem roundV_bd (mode : Int) (b : Bool) (a : Int) {p : Int} (_hp : 0 < p) : a / p ≤ roundV mode b a p ∧ roundV mode b a p ≤ a / p + 1 := by
  unfold roundV
  split
  · omega
  · split <;> omega
/-- One that is of the scale stays. -/
theorem roundS_exact (mode : Int) (z : Int) {p : Int} (hp : 0 < p) : roundS mode (z * p) p = z := by
  have hne : p ≠ 0 := by omega
  unfold roundS roundV
  by_cases h : z * p < 0
  · rw [if_pos h, ← Int.neg_mul, Int.mul_emod_left, if_pos rfl, Int.mul_ediv_cancel _ hne, Int.neg_neg]
  · rw [if_neg h, Int.mul_emod_left, if_pos rfl, Int.mul_ediv_cancel _ hne]
theorem awayB_mono (mode : Int) (neg odd : Bool) {c d : Int} (hcd : c ≤ d) (h : awayB mode neg odd c = true) : awayB mode neg odd d = true := by
  unfold awayB at *
  split at h
  · rename_i hm; rw [if_pos hm]; exact h
  · rename_i hm; rw [if_neg hm]
    split at h
    · rename_i hm; rw [if_pos hm]; exact h
    · rename_i hm; rw [if_neg hm]
      split at h
      · rename_i hm; rw [if_pos hm]
        split at h
        · by_cases hd : d = 0
          · rw [if_pos hd]; exact h
          · rw [if_neg hd]; simp; omega
        · simp at h
          rw [if_neg (by omega)]; simp; omega
      · rename_i hm; rw [if_neg hm]
        split at h
        · rename_i hm; rw [if_pos hm]; simp at h ⊢; omega
        · rename_i hm; rw [if_neg hm]
          split at h
          · rename_i hm; rw [if_pos hm]; simp at h ⊢; omega
          · rename_i hm; rw [if_neg hm]; exact h
theorem cmpI_mono {a b p : Int} (h : a ≤ b) : cmpI a p ≤ cmpI b p := by
  unfold cmpI
  split
  · split <;> (try split) <;> omega
  · split <;> (try split) <;> (try split) <;> omega
theorem roundV_mono (mode : Int) (b : Bool) {x y p : Int} (hp : 0 < p) (h : x ≤ y) : roundV mode b x p ≤ roundV mode b y p := by
  have h1 := roundV_bd mode b x hp
  have h2 := roundV_bd mode b y hp
  have hq := Int.ediv_le_ediv hp h
  rcases Int.lt_or_le (x / p) (y / p) with hlt | hge
  · omega
  · have he : x / p = y / p := by omega
    have ex := Int.emod_add_mul_ediv x p
    have ey := Int.emod_add_mul_ediv y p
    rw [he] at ex
    have hr : x % p ≤ y % p := by omega
    have h0 := Int.emod_nonneg x (show p ≠ 0 by omega)
    unfold roundV
    rw [he]
    by_cases hx : x % p = 0
    · rw [if_pos hx]
      split
      · omega
      · split <;> omega
    · rw [if_neg hx, if_neg (show ¬ y % p = 0 by omega)]
      by_cases ha : awayB mode b (y / p % 2 == 1) (cmpI (2 * (x % p)) p) = true
      · rw [if_pos ha, if_pos (awayB_mono _ _ _ (cmpI_mono (by omega)) ha)]; omega
      · rw [if_neg ha]
        split <;> omega
theorem roundV_nonneg (mode : Int) (b : Bool) {x p : Int} (hp : 0 < p) (h : 0 ≤ x) : 0 ≤ roundV mode b x p := by
  have h1 := roundV_bd mode b x hp
  have := Int.ediv_nonneg h (Int.le_of_lt hp)
  omega
/-- Rounding keeps the order. -/
theorem roundS_mono (mode : Int) {x y p : Int} (hp : 0 < p) (h : x ≤ y) : roundS mode x p ≤ roundS mode y p := by
  unfold roundS
  split
  · have h1 := roundV_nonneg mode true (x := -x) hp (by omega)
    split
    · have := roundV_mono mode true (x := -y) (y := -x) hp (by omega); omega
    · have := roundV_nonneg mode false (x := y) hp (by omega); omega
  · rw [if_neg (by omega)]
    exact roundV_mono mode false hp h
/-- A number is changed by less than one, in the half modes by no more than half of one. -/
theorem roundV_far (mode : Int) (b : Bool) (x : Int) {p : Int} (hp : 0 < p) :
    (x - roundV mode b x p * p < p ∧ roundV mode b x p * p - x < p) ∧ (4 ≤ mode → mode ≤ 6 → 2 * (x - roundV mode b x p * p) ≤ p ∧ 2 * (roundV mode b x p * p - x) ≤ p) := by
  have ex := Int.emod_add_mul_ediv x p
  have h0 := Int.emod_nonneg x (show p ≠ 0 by omega)
  have h1 := Int.emod_lt_of_pos x hp
  have e1 : x / p * p = x - x % p := by rw [Int.mul_comm]; omega
  have e2 : (x / p + 1) * p = x - x % p + p := by rw [Int.add_mul, e1]; omega
  unfold roundV
  split
  · rw [e1]; omega
  · split
    · rename_i hr ha
      rw [e2]
      refine ⟨by omega, fun h4 h6 => ?_⟩
      have hc : p ≤ 2 * (x % p) := by
        unfold awayB at ha
        rw [if_neg (by omega), if_neg (by omega)] at ha
        have hcc : 0 ≤ cmpI (2 * (x % p)) p := by
          split at ha
          · split at ha
            · omega
            · simp at ha; omega
          · split at ha
            · simp at ha; omega
            · split at ha
              · simpa using ha
              · simp at ha; omega
        unfold cmpI at hcc
        split at hcc <;> omega
      omega
    · rename_i hr ha
      rw [e1]
      refine ⟨by omega, fun h4 h6 => ?_⟩
      have hc : 2 * (x % p) ≤ p := by
        have ha2 : awayB mode b (x / p % 2 == 1) (cmpI (2 * (x % p)) p) = false := by simpa using ha
        unfold awayB at ha2
        rw [if_neg (by omega), if_neg (by omega)] at ha2
        have hcc : cmpI (2 * (x % p)) p ≤ 0 := by
          split at ha2
          · split at ha2
            · omega
            · simp at ha2; omega
          · split at ha2
            · simp at ha2; omega
            · split at ha2
              · simp at ha2; omega
              · omega
        unfold cmpI at hcc
        split at hcc
        · omega
        · split at hcc <;> omega
      omega
theorem roundS_far (mode : Int) (x : Int) {p : Int} (hp : 0 < p) :
    (x - roundS mode x p * p < p ∧ roundS mode x p * p - x < p) ∧ (4 ≤ mode → mode ≤ 6 → 2 * (x - roundS mode x p * p) ≤ p ∧ 2 * (roundS mode x p * p - x) ≤ p) := by
  unfold roundS
  split
  · have h := roundV_far mode true (-x) hp
    rw [Int.neg_mul]
    refine ⟨by omega, fun h4 h6 => ?_⟩
    have := h.2 h4 h6
    omega
  · exact roundV_far mode false x hp

/-! ### Decimals of a scale -/
theorem scaled_z (s : Nat) (z : Int) : (scaled s z).z = z := by
  unfold scaled Dc.z
  simp only [val_digs]
  exact natAbs_val
theorem scaled_at (s K : Nat) (z : Int) : (scaled s z).at_ K = z * 10 ^ (K - s) := by
  show (scaled s z).z * 10 ^ (K - (scaled s z).s.toNat) = _
  rw [scaled_z]; rfl
theorem scaled_may (s : Nat) (hs : s ≤ 1000) (z : Int) : mayDc (scaled s z) = true :=
  mayDc_iff.2 ⟨mayL_digs z, by simp [scaled], by simp [scaled]; omega⟩
theorem align_to {d : Dc} (hd : mayDc d = true) (s : Nat) (hs : s ≤ 1000) (h : (trimDc d).s ≤ s) : alignDc d (s : Int) = (scaled s ((trimDc d).at_ s), 0) := by
  obtain ⟨hl, h0, h1⟩ := mayDc_iff.1 hd
  have hc := trimDc_canonic hl h0
  have := hc.lo
  unfold alignDc
  rw [if_pos hd, if_neg (by omega), align_scaled hc s (by omega)]
theorem trim_le {d : Dc} (hl : mayL d.l = true) (h0 : 0 ≤ d.s) : (trimDc d).s ≤ d.s := by
  have := (trimDc_canonic hl h0).hi
  omega
/-- One of the scale, aligned to it. -/
theorem align_self (b : Bool) {l : List Int} (hl : mayL l = true) (s : Nat) (hs : s ≤ 1000) : alignDc ⟨b, l, (s : Int)⟩ (s : Int) = (scaled s (if b then -val l else val l), 0) := by
  have hd : mayDc ⟨b, l, (s : Int)⟩ = true := mayDc_iff.2 ⟨hl, by simp, by simp; omega⟩
  have ht := trim_le (d := ⟨b, l, (s : Int)⟩) hl (by simp)
  rw [align_to hd s hs ht]
  have h2 := (trimDc_at (d := ⟨b, l, (s : Int)⟩) hl (by simp) s (by simp)).1
  rw [h2]
  unfold Dc.at_ Dc.z
  simp

end Go.Proofs.Ytnndiikogaoeiaa
