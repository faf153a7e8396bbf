/- Decimals by what they are worth: plain arithmetic. No program in sight. No condition. -/
import Derived.Test.YtaolimhbeoocjaaSpec
namespace Go.Proofs.Ytaolimhbeoocjaa

/-- A decimal: its sign, its digits, its scale. -/
structure Dc where
  neg : Bool
  l : List Int
  s : Int
def Dc.zero : Dc := ⟨false, [], 0⟩
/-- The number, the scale apart. -/
def Dc.z (d : Dc) : Int := if d.neg then -val d.l else val d.l
def mayDc (d : Dc) : Bool := mayL d.l && decide (0 ≤ d.s) && decide (d.s ≤ 1000)
theorem mayDc_iff {d : Dc} : mayDc d = true ↔ mayL d.l = true ∧ 0 ≤ d.s ∧ d.s ≤ 1000 := by simp [mayDc, and_assoc]

/-- The digits of a whole number, without noughts ahead. -/
def digs (z : Int) : List Int := ofN z.natAbs
theorem digs_zero : digs 0 = [] := rfl
theorem mayL_digs (z : Int) : mayL (digs z) = true := mayL_ofN _
theorem val_digs (z : Int) : val (digs z) = z.natAbs := val_ofN _
theorem headed_digs (z : Int) : headed (digs z) := headed_ofN _
theorem digs_nil {z : Int} : digs z = [] ↔ z = 0 := by
  constructor
  · intro h
    have := val_digs z
    rw [h] at this
    simp at this; omega
  · intro h; subst h; rfl
theorem digs_ten {z : Int} (h : z ≠ 0) : digs (z * 10) = digs z ++ [0] := by
  unfold digs
  have e : (z * 10).natAbs = z.natAbs * 10 := by omega
  rw [e, ofN_pos (by omega)]
  have e1 : z.natAbs * 10 / 10 = z.natAbs := by omega
  have e2 : z.natAbs * 10 % 10 = 0 := by omega
  rw [e1, e2]; rfl
theorem digs_of {l : List Int} (h : mayL l = true) (b : Bool) : digs (if b then -val l else val l) = trimL l := by
  rw [trimL_ofN h]
  have := val_bd h
  unfold digs
  congr 1
  cases b <;> simp <;> omega

/-- The trim decimal of a number at a scale. -/
def canon : Nat → Int → Dc
  | 0, z => if z = 0 then Dc.zero else ⟨decide (z < 0), digs z, 0⟩
  | s + 1, z => if z % 10 = 0 then canon s (z / 10) else ⟨decide (z < 0), digs z, s + 1⟩
theorem canon_zero (s : Nat) : canon s 0 = Dc.zero := by
  induction s with
  | zero => rfl
  | succ s ih => simp only [canon]; simpa using ih
theorem canon_up (s : Nat) (z : Int) : canon (s + 1) (z * 10) = canon s z := by
  simp only [canon]
  rw [if_pos (by omega)]
  congr 1
  omega
theorem canon_shift (s k : Nat) (z : Int) : canon (s + k) (z * 10 ^ k) = canon s z := by
  induction k with
  | zero => simp
  | succ k ih =>
    have e : z * 10 ^ (k + 1) = (z * 10 ^ k) * 10 := by rw [Int.pow_succ, Int.mul_assoc]
    rw [e, ← Nat.add_assoc, canon_up, ih]
/-- What a trim decimal is. -/
structure Canonic (d : Dc) (s : Nat) (z : Int) : Prop where
  may : mayL d.l = true
  hd : headed d.l
  lo : 0 ≤ d.s
  hi : d.s ≤ s
  eq : d.z * 10 ^ (s - d.s.toNat) = z
  last : 0 < d.s → d.z % 10 ≠ 0
  sgn : d.neg = decide (z < 0)
  emp : d.l = [] → d = Dc.zero
theorem natAbs_val {z : Int} : (if decide (z < 0) then -((z.natAbs : Nat) : Int) else (z.natAbs : Int)) = z := by
  by_cases h : z < 0 <;> simp [h] <;> omega
theorem canonic (s : Nat) (z : Int) : Canonic (canon s z) s z := by
  induction s generalizing z with
  | zero =>
    unfold canon
    by_cases h : z = 0
    · subst h
      rw [if_pos rfl]
      exact ⟨rfl, headed_digs 0, by simp [Dc.zero], by simp [Dc.zero], by simp [Dc.zero, Dc.z], by simp [Dc.zero], by simp [Dc.zero], fun _ => rfl⟩
    · rw [if_neg h]
      refine ⟨mayL_digs z, headed_digs z, by simp, by simp, ?_, by simp, rfl, fun he => absurd (digs_nil.1 he) h⟩
      simp only [Dc.z, val_digs]
      rw [natAbs_val]; simp
  | succ s ih =>
    simp only [canon]
    by_cases h : z % 10 = 0
    · rw [if_pos h]
      have i := ih (z / 10)
      refine ⟨i.may, i.hd, i.lo, by have := i.hi; omega, ?_, i.last, ?_, i.emp⟩
      · have h1 := i.hi
        have h2 := i.lo
        have e : s + 1 - (canon s (z / 10)).s.toNat = (s - (canon s (z / 10)).s.toNat) + 1 := by omega
        rw [e, Int.pow_succ, ← Int.mul_assoc, i.eq]
        omega
      · rw [i.sgn]
        congr 1
        simp only [eq_iff_iff]
        omega
    · rw [if_neg h]
      have hz : z ≠ 0 := by omega
      refine ⟨mayL_digs z, headed_digs z, by simp; omega, by simp, ?_, ?_, rfl, fun he => absurd (digs_nil.1 he) hz⟩
      · simp only [Dc.z, val_digs]
        rw [natAbs_val]
        have : s + 1 - ((s : Int) + 1).toNat = 0 := by omega
        rw [this]; simp
      · intro _
        simp only [Dc.z, val_digs]
        rw [natAbs_val]; exact h
theorem canon_inj {s : Nat} {z z' : Int} (h : canon s z = canon s z') : z = z' := by
  have a := (canonic s z).eq
  have b := (canonic s z').eq
  rw [h] at a
  rw [← a, b]

/-- Noughts behind are struck, as many as the scale lets. -/
def stripZ : Nat → List Int → List Int × Nat
  | 0, l => (l, 0)
  | s + 1, l => if l.getLast? = some 0 then stripZ s l.dropLast else (l, s + 1)
/-- The trim decimal, as it is reckoned. -/
def trimDc (d : Dc) : Dc :=
  if trimL d.l = [] then Dc.zero else ⟨d.neg, (stripZ d.s.toNat (trimL d.l)).1, (stripZ d.s.toNat (trimL d.l)).2⟩
theorem strip_canon (s : Nat) (z : Int) (hz : z ≠ 0) : canon s z = ⟨decide (z < 0), (stripZ s (digs z)).1, (stripZ s (digs z)).2⟩ := by
  induction s generalizing z with
  | zero => simp [canon, stripZ, hz]
  | succ s ih =>
    simp only [canon, stripZ]
    by_cases h : z % 10 = 0
    · have e : z = (z / 10) * 10 := by omega
      have hz' : z / 10 ≠ 0 := by omega
      rw [if_pos h]
      have ed : digs z = digs (z / 10) ++ [0] := by rw [← digs_ten hz']; congr 1
      rw [ed, if_pos (by simp), ih (z / 10) hz']
      simp only [List.dropLast_concat]
      congr 1
      simp only [decide_eq_decide]
      omega
    · rw [if_neg h, if_neg]
      · rfl
      · intro hl
        have hp : 0 < z.natAbs := by omega
        unfold digs at hl
        rw [ofN_pos hp] at hl
        simp at hl
        omega
theorem trimDc_canon {d : Dc} (h : mayL d.l = true) (_h0 : 0 ≤ d.s) : trimDc d = canon d.s.toNat d.z := by
  unfold trimDc
  have hd := digs_of h d.neg
  have e : digs d.z = trimL d.l := hd
  by_cases hn : trimL d.l = []
  · rw [if_pos hn]
    rw [hn, digs_nil] at e
    rw [e, canon_zero]
  · rw [if_neg hn]
    have hz : d.z ≠ 0 := fun hh => hn (by rw [← e, hh]; rfl)
    rw [strip_canon _ _ hz, e]
    congr 1
    have hv := val_bd h
    unfold Dc.z at hz ⊢
    cases hb : d.neg <;> rw [hb] at hz <;> simp at hz ⊢ <;> omega

/-- One number, at a scale K that is no smaller. -/
def Dc.at_ (d : Dc) (K : Nat) : Int := d.z * 10 ^ (K - d.s.toNat)
theorem canon_at (d : Dc) (K : Nat) (h : d.s.toNat ≤ K) : canon K (d.at_ K) = canon d.s.toNat d.z := by
  have := canon_shift d.s.toNat (K - d.s.toNat) d.z
  rw [show d.s.toNat + (K - d.s.toNat) = K from by omega] at this
  exact this
/-- of a trim decimal -/
theorem canon_self (s : Nat) (z : Int) : canon (canon s z).s.toNat (canon s z).z = canon s z := by
  have c := canonic s z
  have h := canon_shift (canon s z).s.toNat (s - (canon s z).s.toNat) (canon s z).z
  rw [c.eq] at h
  have : (canon s z).s.toNat + (s - (canon s z).s.toNat) = s := by have := c.hi; have := c.lo; omega
  rw [this] at h
  exact h.symm
theorem trimDc_idem {d : Dc} (h : mayL d.l = true) (h0 : 0 ≤ d.s) : trimDc (trimDc d) = trimDc d := by
  rw [trimDc_canon h h0]
  have c := canonic d.s.toNat d.z
  rw [trimDc_canon c.may c.lo, canon_self]
theorem at_mul (d : Dc) (K j : Nat) (h : d.s.toNat ≤ K) : d.at_ (K + j) = d.at_ K * 10 ^ j := by
  unfold Dc.at_
  rw [show K + j - d.s.toNat = (K - d.s.toNat) + j from by omega, Int.pow_add, Int.mul_assoc]
theorem canon_le (s : Nat) (z : Int) : (canon s z).s.toNat ≤ s := by have := (canonic s z).hi; have := (canonic s z).lo; omega
theorem canon_at_eq (s K : Nat) (z : Int) (h : s ≤ K) : (canon s z).at_ K = z * 10 ^ (K - s) := by
  have e := (canonic s z).eq
  have hl := canon_le s z
  unfold Dc.at_
  rw [show K - (canon s z).s.toNat = (s - (canon s z).s.toNat) + (K - s) from by omega, Int.pow_add, ← Int.mul_assoc, e]

/-! ### Which is greater -/
theorem cmpI_mul {a b p : Int} (hp : 0 < p) : cmpI (a * p) (b * p) = cmpI a b := by
  unfold cmpI
  by_cases h1 : a < b
  · have := Int.mul_lt_mul_of_pos_right h1 hp
    rw [if_pos this, if_pos h1]
  · by_cases h2 : b < a
    · have := Int.mul_lt_mul_of_pos_right h2 hp
      rw [if_neg (by omega), if_pos this, if_neg h1, if_pos h2]
    · have : a = b := by omega
      subst this
      simp
/-- Which of two decimals is greater. -/
def cmpDc (a b : Dc) : Int := cmpI (a.at_ (max a.s.toNat b.s.toNat)) (b.at_ (max a.s.toNat b.s.toNat))
theorem cmpDc_at (a b : Dc) (K : Nat) (ha : a.s.toNat ≤ K) (hb : b.s.toNat ≤ K) : cmpDc a b = cmpI (a.at_ K) (b.at_ K) := by
  unfold cmpDc
  have e1 := at_mul a (max a.s.toNat b.s.toNat) (K - max a.s.toNat b.s.toNat) (by omega)
  have e2 := at_mul b (max a.s.toNat b.s.toNat) (K - max a.s.toNat b.s.toNat) (by omega)
  rw [show max a.s.toNat b.s.toNat + (K - max a.s.toNat b.s.toNat) = K from by omega] at e1 e2
  rw [e1, e2, cmpI_mul (ten_pos _)]
theorem cmpI_neg (a b : Int) : cmpI b a = -cmpI a b := by unfold cmpI; split <;> split <;> omega
theorem cmpDc_swap (a b : Dc) : cmpDc b a = -cmpDc a b := by
  rw [cmpDc_at b a (max a.s.toNat b.s.toNat) (by omega) (by omega), cmpI_neg]; rfl
theorem trimDc_at {d : Dc} (h : mayL d.l = true) (h0 : 0 ≤ d.s) (K : Nat) (hK : d.s.toNat ≤ K) : (trimDc d).at_ K = d.at_ K ∧ (trimDc d).s.toNat ≤ K := by
  rw [trimDc_canon h h0]
  exact ⟨canon_at_eq _ _ _ hK, by have := canon_le d.s.toNat d.z; omega⟩

end Go.Proofs.Ytaolimhbeoocjaa
