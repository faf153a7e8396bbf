/- Rounding as each side reckons it. No program in sight. No condition. -/
import Derived.Test.YtjinbhnpcdlkiaaGreatDoorMa01
namespace Go.Proofs.YtjinbhnpcdlkiaaGreatDoor

/-- Does a rest go away from nought? q: what is kept; c: how the rest is to a half. -/
def awayB (mode : Int) (neg odd : Bool) (c : Int) : Bool :=
  if mode = 2 then neg else if mode = 3 then !neg else if mode = 6 then (if c = 0 then odd else decide (0 < c)) else if mode = 4 then decide (0 < c) else if mode = 5 then decide (0 ≤ c) else decide (mode = 1)
/-- A number a of which p are one: rounded, its sign apart. -/
def roundV (mode : Int) (neg : Bool) (a p : Int) : Int :=
  if a % p = 0 then a / p else if awayB mode neg (a / p % 2 == 1) (cmpI (2 * (a % p)) p) then a / p + 1 else a / p
def roundZ (mode : Int) (d : Dc) (n : Nat) : Int :=
  let v := roundV mode d.neg (val d.l * 10 ^ (max d.s.toNat n - d.s.toNat)) (10 ^ (max d.s.toNat n - n))
  if d.neg then -v else v
def roundDc (d : Dc) (n mode : Int) : Dc × Int :=
  if mayDc d && decide (0 ≤ mode) && decide (mode ≤ 6) then (if n < 0 ∨ 1000 < n then (Dc.zero, 3) else (scaled n.toNat (roundZ mode d n.toNat), 0)) else (Dc.zero, 1)

theorem emod_scale (a p : Int) {m : Int} (hm : 0 < m) : a * m % (p * m) = a % p * m := by
  rw [Int.emod_def, Int.emod_def, Int.mul_ediv_mul_of_pos_left _ _ hm, Int.sub_mul, Int.mul_assoc, Int.mul_assoc, Int.mul_comm m]
theorem roundV_mul (mode : Int) (neg : Bool) (a p : Int) {m : Int} (hm : 0 < m) : roundV mode neg (a * m) (p * m) = roundV mode neg a p := by
  unfold roundV
  rw [emod_scale _ _ hm, Int.mul_ediv_mul_of_pos_left _ _ hm]
  have e : 2 * (a % p * m) = 2 * (a % p) * m := by rw [Int.mul_assoc]
  rw [e, cmpI_mul hm]
  by_cases h : a % p = 0
  · rw [if_pos h, if_pos (by rw [h]; simp)]
  · rw [if_neg h, if_neg (fun h2 => h (by rcases Int.mul_eq_zero.1 h2 with h3 | h3 <;> omega))]
/-- At whatever scale the number is taken. -/
theorem roundZ_at (mode : Int) (d : Dc) (n K : Nat) (h1 : d.s.toNat ≤ K) (h2 : n ≤ K) :
    roundZ mode d n = if d.neg then -roundV mode d.neg (val d.l * 10 ^ (K - d.s.toNat)) (10 ^ (K - n)) else roundV mode d.neg (val d.l * 10 ^ (K - d.s.toNat)) (10 ^ (K - n)) := by
  have e1 : (10 : Int) ^ (K - d.s.toNat) = 10 ^ (max d.s.toNat n - d.s.toNat) * 10 ^ (K - max d.s.toNat n) := by
    rw [← Int.pow_add]; congr 1; omega
  have e2 : (10 : Int) ^ (K - n) = 10 ^ (max d.s.toNat n - n) * 10 ^ (K - max d.s.toNat n) := by
    rw [← Int.pow_add]; congr 1; omega
  rw [e1, e2, ← Int.mul_assoc, roundV_mul _ _ _ _ (ten_pos _)]
  rfl
/-- What rounding hangs on: the number, and whether it is below 0. -/
theorem z_neg {d : Dc} (h : mayL d.l = true) (hv : val d.l ≠ 0) : d.neg = decide (d.z < 0) := by
  have h1 := (val_bd h).1
  unfold Dc.z
  cases d.neg
  · simp; omega
  · simp; omega
def roundS (mode : Int) (a p : Int) : Int := if a < 0 then -roundV mode true (-a) p else roundV mode false a p
theorem roundV_zero (mode : Int) (b : Bool) (p : Int) : roundV mode b 0 p = 0 := by unfold roundV; simp
theorem roundZ_s (mode : Int) {d : Dc} (h : mayL d.l = true) (n K : Nat) (h1 : d.s.toNat ≤ K) (h2 : n ≤ K) : roundZ mode d n = roundS mode (d.at_ K) (10 ^ (K - n)) := by
  have hv := val_bd h
  have hp := ten_pos (K - d.s.toNat)
  rw [roundZ_at mode d n K h1 h2]
  unfold roundS Dc.at_ Dc.z
  have hm := Int.mul_nonneg hv.1 (Int.le_of_lt hp)
  cases hn : d.neg
  · simp only [Bool.false_eq_true, if_false]
    rw [if_neg (by omega)]
  · simp only [if_true]
    rw [Int.neg_mul]
    by_cases h0 : val d.l * 10 ^ (K - d.s.toNat) = 0
    · rw [h0]; simp [roundV_zero]
    · rw [if_pos (by omega), Int.neg_neg]
theorem roundV_bd (mode : Int) (b : Bool) (a : Int) {p : Int} (_hp : 0 < p) : a / p ≤ roundV mode b a p ∧ roundV mode b a p ≤ a / p + 1 := by
  unfold roundV
  split
  · omega
  · split <;> omega
/-- One that is of the scale stays. -/
theorem roundS_exact (mode : Int) (z : Int) {p : Int} (hp : 0 < p) : roundS mode (z * p) p = z := by
  have hne : p ≠ 0 := by omega
  unfold roundS roundV
  by_cases h : z * p < 0
  · rw [if_pos h, ← Int.neg_mul, Int.mul_emod_left, if_pos rfl, Int.mul_ediv_cancel _ hne, Int.neg_neg]
  · rw [if_neg h, Int.mul_emod_left, if_pos rfl, Int.mul_ediv_cancel _ hne]
theorem awayB_mono (mode : Int) (neg odd : Bool) {c d : Int} (hcd : c ≤ d) (h : awayB mode neg odd c = true) : awayB mode neg odd d = true := by
  unfold awayB at *
  split at h
  · rename_i hm; rw [if_pos hm]; exact h
  · rename_i hm; rw [if_neg hm]
    split at h
    · rename_i hm; rw [if_pos hm]; exact h
    · rename_i hm; rw [if_neg hm]
      split at h
      · rename_i hm; rw [if_pos hm]
        split at h
        · by_cases hd : d = 0
          · rw [if_pos hd]; exact h
          · rw [if_neg hd]; simp; omega
        · simp at h
          rw [if_neg (by omega)]; simp; omega
      · rename_i hm; rw [if_neg hm]
        split at h
        · rename_i hm; rw [if_pos hm]; simp at h ⊢; omega
        · rename_i hm; rw [if_neg hm]
          split at h
          · rename_i hm; rw [if_pos hm]; simp at h ⊢; omega
          · rename_i hm; rw [if_neg hm]; exact h
theorem cmpI_mono {a b p : Int} (h : a ≤ b) : cmpI a p ≤ cmpI b p := by
  unfold cmpI
  split
  · split <;> (try split) <;> omega
  · split <;> (try split) <;> (try split) <;> omega
theorem roundV_mono (mode : Int) (b : Bool) {x y p : Int} (hp : 0 < p) (h : x ≤ y) : roundV mode b x p ≤ roundV mode b y p := by
  have h1 := roundV_bd mode b x hp
  have h2 := roundV_bd mode b y hp
  have hq := Int.ediv_le_ediv hp h
  rcases Int.lt_or_le (x / p) (y / p) with hlt | hge
  · omega
  · have he : x / p = y / p := by omega
    have ex := Int.emod_add_mul_ediv x p
    have ey := Int.emod_add_mul_ediv y p
    rw [he] at ex
    have hr : x % p ≤ y % p := by omega
    have h0 := Int.emod_nonneg x (show p ≠ 0 by omega)
    unfold roundV
    rw [he]
    by_cases hx : x % p = 0
    · rw [if_pos hx]
      split
      · omega
      · split <;> omega
    · rw [if_neg hx, if_neg (show ¬ y % p = 0 by omega)]
      by_cases ha : awayB mode b (y / p % 2 == 1) (cmpI (2 * (x % p)) p) = true
      · rw [if_pos ha, if_pos (awayB_mono _ _ _ (cmpI_mono (by omega)) ha)]; omega
      · rw [if_neg ha]
        split <;> omega
theorem roundV_nonneg (mode : Int) (b : Bool) {x p : Int} (hp : 0 < p) (h : 0 ≤ x) : 0 ≤ roundV mode b x p := by
  have h1 := roundV_bd mode b x hp
  have := Int.ediv_nonneg h (Int.le_of_lt hp)
  omega
/-- Rounding keeps the order. -/
theorem roundS_mono (mode : Int) {x y p : Int} (hp : 0 < p) (h : x ≤ y) : roundS mode x p ≤ roundS mode y p := by
  unfold roundS
  split
  · have h1 := roundV_nonneg mode true (x := -x) hp (by omega)
    split
    · have := roundV_mono mode true (x := -y) (y := -x) hp (by omega); omega
    · have := roundV_nonneg mode false (x := y) hp (by omega); omega
  · rw [if_neg (by omega)]
    exact roundV_mono mode false hp h
/-- A number is changed by less than one, in the half modes by no more than half of one. -/
theorem roundV_far (mode : Int) (b : Bool) (x : Int) {p : Int} (hp : 0 < p) :
    (x - roundV mode b x p * p < p ∧ roundV mode b x p * p - x < p) ∧ (4 ≤ mode → mode ≤ 6 → 2 * (x - roundV mode b x p * p) ≤ p ∧ 2 * (roundV mode b x p * p - x) ≤ p) := by
  have ex := Int.emod_add_mul_ediv x p
  have h0 := Int.emod_nonneg x (show p ≠ 0 by omega)
  have h1 := Int.emod_lt_of_pos x hp
  have e1 : x / p * p = x - x % p := by rw [Int.mul_comm]; omega
  have e2 : (x / p + 1) * p = x - x % p + p := by rw [Int.add_mul, e1]; omega
  unfold roundV
  split
  · rw [e1]; omega
  · split
    · rename_i hr ha
      rw [e2]
      refine ⟨by omega, fun h4 h6 => ?_⟩
      have hc : p ≤ 2 * (x % p) := by
        unfold awayB at ha
        rw [if_neg (by omega), if_neg (by omega)] at ha
        have hcc : 0 ≤ cmpI (2 * (x % p)) p := by
          split at ha
          · split at ha
            · omega
            · simp at ha; omega
          · split at ha
            · simp at ha; omega
            · split at ha
              · simpa using ha
              · simp at ha; omega
        unfold cmpI at hcc
        split at hcc <;> omega
      omega
    · rename_i hr ha
      rw [e1]
      refine ⟨by omega, fun h4 h6 => ?_⟩
      have hc : 2 * (x % p) ≤ p := by
        have ha2 : awayB mode b (x / p % 2 == 1) (cmpI (2 * (x % p)) p) = false := by simpa using ha
        unfold awayB at ha2
        rw [if_neg (by omega), if_neg (by omega)] at ha2
        have hcc : cmpI (2 * (x % p)) p ≤ 0 := by
          split at ha2
          · split at ha2
            · omega
            · simp at ha2; omega
          · split at ha2
            · simp at ha2; omega
            · split at ha2
              · simp at ha2; omega
              · omega
        unfold cmpI at hcc
        split at hcc
        · omega
        · split at hcc <;> omega
      omega
theorem roundS_far (mode : Int) (x : Int) {p : Int} (hp : 0 < p) :
    (x - roundS mode x p * p < p ∧ roundS mode x p * p - x < p) ∧ (4 ≤ mode → mode ≤ 6 → 2 * (x - roundS mode x p * p) ≤ p ∧ 2 * (roundS mode x p * p - x) ≤ p) := by
  unfold roundS
  split
  · have h := roundV_far mode true (-x) hp
    rw [Int.neg_mul]
    refine ⟨by omega, fun h4 h6 => ?_⟩
    have := h.2 h4 h6
    omega
  · exact roundV_far mode false x hp

/-! ### Decimals of a scale -/
theorem scaled_z (s : Nat) (z : Int) : (scaled s z).z = z := by
  unfold scaled Dc.z
  simp only [val_digs]
  exact natAbs_val
theorem scaled_at (s K : Nat) (z : Int) : (scaled s z).at_ K = z * 10 ^ (K - s) := by
  show (scaled s z).z * 10 ^ (K - (scaled s z).s.toNat) = _
  rw [scaled_z]; rfl
theorem scaled_may (s : Nat) (hs : s ≤ 1000) (z : Int) : mayDc (scaled s z) = true :=
  mayDc_iff.2 ⟨mayL_digs z, by simp [scaled], by simp [scaled]; omega⟩
theorem align_to {d : Dc} (hd : mayDc d = true) (s : Nat) (hs : s ≤ 1000) (h : (trimDc d).s ≤ s) : alignDc d (s : Int) = (scaled s ((trimDc d).at_ s), 0) := by
  obtain ⟨hl, h0, h1⟩ := mayDc_iff.1 hd
  have hc := trimDc_canonic hl h0
  have := hc.lo
  unfold alignDc
  rw [if_pos hd, if_neg (by omega), align_scaled hc s (by omega)]
theorem trim_le {d : Dc} (hl : mayL d.l = true) (h0 : 0 ≤ d.s) : (trimDc d).s ≤ d.s := by
  have := (trimDc_canonic hl h0).hi
  omega
/-- One of the scale, aligned to it. -/
theorem align_self (b : Bool) {l : List Int} (hl : mayL l = true) (s : Nat) (hs : s ≤ 1000) : alignDc ⟨b, l, (s : Int)⟩ (s : Int) = (scaled s (if b then -val l else val l), 0) := by
  have hd : mayDc ⟨b, l, (s : Int)⟩ = true := mayDc_iff.2 ⟨hl, by simp, by simp; omega⟩
  have ht := trim_le (d := ⟨b, l, (s : Int)⟩) hl (by simp)
  rw [align_to hd s hs ht]
  have h2 := (trimDc_at (d := ⟨b, l, (s : Int)⟩) hl (by simp) s (by simp)).1
  rw [h2]
  unfold Dc.at_ Dc.z
  simp

end Go.Proofs.YtjinbhnpcdlkiaaGreatDoor


namespace Go.Proofs.YtjinbhnpcdlkiaaGreatDoor

theorem trim_common {d : Dc} (h : mayL d.l = true) (h0 : 0 ≤ d.s) (mode : Int) (k : Nat) : roundZ mode d k = roundZ mode (trimDc d) k := by
  have hc := trimDc_canonic h h0
  have h1 := trimDc_at h h0 (max d.s.toNat k) (by omega)
  rw [roundZ_s mode h k (max d.s.toNat k) (by omega) (by omega), roundZ_s mode hc.may k (max d.s.toNat k) h1.2 (by omega), h1.1]
/-- One that needs no rounding. -/
theorem round_keep {d : Dc} (h : mayL d.l = true) (h0 : 0 ≤ d.s) (mode : Int) (k : Nat) (hk : (trimDc d).s ≤ k) : roundZ mode d k = (trimDc d).at_ k := by
  have hc := trimDc_canonic h h0
  have := hc.lo
  rw [trim_common h h0, roundZ_s mode hc.may k k (by omega) (Nat.le_refl _), Nat.sub_self]
  have := roundS_exact mode ((trimDc d).at_ k) (p := 10 ^ 0) (by simp)
  simpa using this
theorem digL_odd {l : List Int} (h : mayL l = true) : (digL l 0 % 2 == 1) = (val l % 2 == 1) := by
  rcases snoc_or l with rfl | ⟨r, d, rfl⟩
  · rfl
  · rw [val_snoc]
    have e : digL (r ++ [d]) 0 = d := by
      unfold digL
      rw [if_pos (by simp)]
      simp [List.getD]
    rw [e]
    have e2 : (10 * val r + d) % 2 = d % 2 := by omega
    rw [e2]
theorem cut_val {l : List Int} (h : mayL l = true) (less : Nat) :
    val (l.take (l.length - less)) = val l / 10 ^ less ∧ val (l.drop (l.length - less)) = val l % 10 ^ less := by
  have hp := ten_pos less
  by_cases hl : less ≤ l.length
  · have h1 := val_append (l.take (l.length - less)) (l.drop (l.length - less))
    rw [List.take_append_drop, List.length_drop, show l.length - (l.length - less) = less from by omega] at h1
    have h2 := val_bd (mayL_drop h (l.length - less))
    rw [List.length_drop, show l.length - (l.length - less) = less from by omega] at h2
    have h3 : val l = 10 ^ less * val (l.take (l.length - less)) + val (l.drop (l.length - less)) := by rw [h1, Int.mul_comm]
    constructor
    · rw [h3, Int.mul_add_ediv_left _ _ (by omega), Int.ediv_eq_zero_of_lt h2.1 h2.2]; omega
    · rw [h3, Int.mul_add_emod_self_left, Int.emod_eq_of_lt h2.1 h2.2]
  · have e : l.length - less = 0 := by omega
    have h2 := val_bd h
    have h3 := pow_le (show l.length ≤ less by omega)
    rw [e]
    simp only [List.take_zero, List.drop_zero]
    refine ⟨?_, ?_⟩
    · rw [Int.ediv_eq_zero_of_lt h2.1 (by omega)]; rfl
    · rw [Int.emod_eq_of_lt h2.1 (by omega)]
theorem five_val (k : Nat) : val (5 :: List.replicate k 0) = 5 * 10 ^ k := by rw [val_cons, val_replicate, List.length_replicate]; omega
theorem mayL_five (k : Nat) : mayL (5 :: List.replicate k 0) = true := by
  have := mayL_replicate k
  unfold mayL at *
  simp [isDig] at *
theorem half_cmp {l : List Int} (h : mayL l = true) (less : Nat) (hl : 0 < less) : cmpL (l.drop (l.length - less)) (5 :: List.replicate (less - 1) 0) = cmpI (2 * (val l % 10 ^ less)) (10 ^ less) := by
  rw [cmpL_val (mayL_drop h _) (mayL_five _), (cut_val h less).2, five_val]
  have e : (10 : Int) ^ less = 10 ^ (less - 1) * 10 := by
    rw [← Int.pow_succ]; congr 1; omega
  unfold cmpI
  rw [e]
  congr 1
  · simp only [eq_iff_iff]; omega
  · congr 1
    simp only [eq_iff_iff]; omega
/-- The program's way: what is kept, and the rest held against a half. -/
theorem round_steps {d : Dc} (h : mayL d.l = true) (h0 : 0 ≤ d.s) (mode : Int) (k less : Nat) (hk : (trimDc d).s = (k + less : Nat)) (hl : 0 < less) :
    roundZ mode d k = if (trimDc d).neg then -(val ((trimDc d).l.take ((trimDc d).l.length - less)) + if awayB mode (trimDc d).neg (digL ((trimDc d).l.take ((trimDc d).l.length - less)) 0 % 2 == 1) (cmpL ((trimDc d).l.drop ((trimDc d).l.length - less)) (5 :: List.replicate (less - 1) 0)) then 1 else 0)
      else val ((trimDc d).l.take ((trimDc d).l.length - less)) + if awayB mode (trimDc d).neg (digL ((trimDc d).l.take ((trimDc d).l.length - less)) 0 % 2 == 1) (cmpL ((trimDc d).l.drop ((trimDc d).l.length - less)) (5 :: List.replicate (less - 1) 0)) then 1 else 0 := by
  have hc := trimDc_canonic h h0
  rw [trim_common h h0]
  generalize trimDc d = T at *
  have hT := hc.may
  have hs : T.s.toNat = k + less := by omega
  rw [roundZ_at mode T k (k + less) (by omega) (by omega), hs, Nat.sub_self, show k + less - k = less from by omega]
  have hv := cut_val hT less
  have hz := hc.last (by omega)
  have hne : ¬ val T.l % 10 ^ less = 0 := by
    intro h2
    apply hz
    have e : (10 : Int) ^ less = 10 * 10 ^ (less - 1) := by
      rw [Int.mul_comm, ← Int.pow_succ]; congr 1; omega
    rw [e] at h2
    have h3 : val T.l % 10 = 0 := by
      have := Int.emod_emod_of_dvd (val T.l) (show (10 : Int) ∣ 10 * 10 ^ (less - 1) from ⟨_, rfl⟩)
      rw [h2] at this
      omega
    unfold Dc.z
    cases T.neg
    · simpa using h3
    · simp only [if_true]; omega
  rw [digL_odd (mayL_take hT _), half_cmp hT less hl, hv.1]
  unfold roundV
  rw [Int.pow_zero, Int.mul_one, if_neg hne]
  split
  · congr 1
    · split <;> omega
  · split <;> omega
theorem headed_take {l : List Int} (h : headed l) (n : Nat) : headed (l.take n) := by
  intro d r e
  cases l with
  | nil => simp at e
  | cons x y =>
    cases n with
    | zero => simp at e
    | succ n =>
      rw [List.take_succ_cons] at e
      injection e with e1 e2
      subst e1
      exact h x y rfl

/-! ### The document's way -/
/-- The next number of the scale that is no farther from nought. -/
def lowZ (d : Dc) (k : Nat) : Int :=
  if d.neg then -(val d.l * 10 ^ (max d.s.toNat k - d.s.toNat) / 10 ^ (max d.s.toNat k - k)) else val d.l * 10 ^ (max d.s.toNat k - d.s.toNat) / 10 ^ (max d.s.toNat k - k)
theorem lowZ_at (d : Dc) (k K : Nat) (h1 : d.s.toNat ≤ K) (h2 : k ≤ K) :
    lowZ d k = if d.neg then -(val d.l * 10 ^ (K - d.s.toNat) / 10 ^ (K - k)) else val d.l * 10 ^ (K - d.s.toNat) / 10 ^ (K - k) := by
  have e1 : (10 : Int) ^ (K - d.s.toNat) = 10 ^ (max d.s.toNat k - d.s.toNat) * 10 ^ (K - max d.s.toNat k) := by
    rw [← Int.pow_add]; congr 1; omega
  have e2 : (10 : Int) ^ (K - k) = 10 ^ (max d.s.toNat k - k) * 10 ^ (K - max d.s.toNat k) := by
    rw [← Int.pow_add]; congr 1; omega
  rw [e1, e2, ← Int.mul_assoc, Int.mul_ediv_mul_of_pos_left _ _ (ten_pos _)]
  rfl
theorem val_at (d : Dc) (K : Nat) : d.at_ K = if d.neg then -(val d.l * 10 ^ (K - d.s.toNat)) else val d.l * 10 ^ (K - d.s.toNat) := by
  unfold Dc.at_ Dc.z
  cases d.neg <;> simp [Int.neg_mul]
theorem lowZ_trim {d : Dc} (h : mayL d.l = true) (h0 : 0 ≤ d.s) (k : Nat) : lowZ d k = lowZ (trimDc d) k := by
  have hc := trimDc_canonic h h0
  have h1 := trimDc_at h h0 (max d.s.toNat k) (by omega)
  rw [lowZ_at d k (max d.s.toNat k) (by omega) (by omega), lowZ_at (trimDc d) k (max d.s.toNat k) h1.2 (by omega)]
  have e1 := val_at d (max d.s.toNat k)
  have e2 := val_at (trimDc d) (max d.s.toNat k)
  rw [h1.1, e1] at e2
  have v1 := (val_bd h).1
  have v2 := (val_bd hc.may).1
  have p1 := ten_pos (max d.s.toNat k - d.s.toNat)
  have p2 := ten_pos (max d.s.toNat k - (trimDc d).s.toNat)
  have m1 := Int.mul_nonneg v1 (Int.le_of_lt p1)
  have m2 := Int.mul_nonneg v2 (Int.le_of_lt p2)
  generalize val d.l * 10 ^ (max d.s.toNat k - d.s.toNat) = a at *
  generalize val (trimDc d).l * 10 ^ (max d.s.toNat k - (trimDc d).s.toNat) = b at *
  have hab : a = b := by
    cases hn : d.neg <;> cases hm : (trimDc d).neg <;> rw [hn, hm] at e2 <;> simp at e2 <;> omega
  have hz : a = 0 → ∀ p : Int, a / p = 0 := fun h p => by rw [h]; simp
  cases hn : d.neg <;> cases hm : (trimDc d).neg <;> rw [hn, hm] at e2 <;> simp at e2 <;> rw [← hab] <;> simp
  · rw [hz (by omega)]; rfl
  · rw [hz (by omega)]; rfl
/-- The document's next decimal of a scale. -/
theorem near_eq {d : Dc} (h : mayL d.l = true) (h0 : 0 ≤ d.s) (k : Nat) (l : List Int)
    (hl : l = trimL (if (k : Int) - (trimDc d).s < 0 then (trimDc d).l.take ((trimDc d).l.length - (-((k : Int) - (trimDc d).s)).toNat) else (trimDc d).l ++ List.replicate ((k : Int) - (trimDc d).s).toNat 0)) :
    (⟨(trimDc d).neg && decide (0 < l.length), l, (k : Int)⟩ : Dc) = scaled k (lowZ d k) := by
  have hc := trimDc_canonic h h0
  rw [lowZ_trim h h0]
  generalize trimDc d = T at *
  have hT := hc.may
  have hlo := hc.lo
  have hbd := val_bd hT
  have key : mayL l = true ∧ headed l ∧ val l = val T.l * 10 ^ (max T.s.toNat k - T.s.toNat) / 10 ^ (max T.s.toNat k - k) := by
    by_cases hk : (k : Int) - T.s < 0
    · rw [if_pos hk] at hl
      have e : (-((k : Int) - T.s)).toNat = T.s.toNat - k := by omega
      rw [e] at hl
      have hm := mayL_take hT (T.l.length - (T.s.toNat - k))
      refine ⟨by rw [hl]; exact mayL_trim hm, by rw [hl]; exact headed_trim _, ?_⟩
      rw [hl, val_trim, (cut_val hT _).1, show max T.s.toNat k = T.s.toNat from by omega, Nat.sub_self, Int.pow_zero, Int.mul_one]
    · rw [if_neg hk] at hl
      have e : ((k : Int) - T.s).toNat = k - T.s.toNat := by omega
      rw [e] at hl
      refine ⟨by rw [hl]; exact mayL_trim (mayL_zerosB hT _), by rw [hl]; exact headed_trim _, ?_⟩
      rw [hl, val_trim, val_append_zeros, show max T.s.toNat k = k from by omega, Nat.sub_self, Int.pow_zero, Int.ediv_one]
  obtain ⟨k1, k2, k3⟩ := key
  have h4 := val_bd k1
  unfold lowZ scaled digs
  rw [← k3]
  have e1 : l = ofN (val l).toNat := ofN_val k1 k2
  have e2 : (val l = 0) ↔ l = [] := by
    constructor
    · intro hv; rw [e1, hv]; rfl
    · intro hv; rw [hv]; rfl
  have e3 : (0 < l.length) ↔ 0 < val l := by
    rw [List.length_pos_iff]
    constructor
    · intro hne
      have : ¬ val l = 0 := fun hh => hne (e2.1 hh)
      omega
    · intro hp hh
      have := e2.2 hh
      omega
  have e4 : ((if T.neg then -val l else val l).natAbs) = (val l).toNat := by cases T.neg <;> simp <;> omega
  rw [e4, ← e1]
  congr 1
  cases T.neg
  · simp; omega
  · simp [e3]

end Go.Proofs.YtjinbhnpcdlkiaaGreatDoor

