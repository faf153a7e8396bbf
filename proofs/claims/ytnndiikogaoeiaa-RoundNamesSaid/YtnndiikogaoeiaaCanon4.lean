/- What the laws of layer 6 say of decimals, by what they are worth. No program in sight. No condition. -/
import Derived.Test.YtnndiikogaoeiaaCanon3
import Derived.Test.YtnndiikogaoeiaaDe3
import Derived.Test.YtnndiikogaoeiaaDe15
namespace Go.Proofs.Ytnndiikogaoeiaa

theorem canon_up_to {M N : Nat} (h : M ≤ N) (v : Int) : canon M v = canon N (v * 10 ^ (N - M)) := by
  have := canon_shift M (N - M) v
  rw [show M + (N - M) = N from by omega] at this
  exact this.symm
theorem at_up {d : Dc} {M N : Nat} (hd : d.s.toNat ≤ M) (h : M ≤ N) : d.at_ M * 10 ^ (N - M) = d.at_ N := by
  have := at_mul d M (N - M) hd
  rw [show M + (N - M) = N from by omega] at this
  exact this.symm
theorem add_at (a b : Dc) (N : Nat) (ha : a.s.toNat ≤ N) (hb : b.s.toNat ≤ N) :
    canon (max a.s.toNat b.s.toNat) (a.at_ (max a.s.toNat b.s.toNat) + b.at_ (max a.s.toNat b.s.toNat)) = canon N (a.at_ N + b.at_ N) := by
  rw [canon_up_to (M := max a.s.toNat b.s.toNat) (N := N) (by omega), Int.add_mul, at_up (by omega) (by omega), at_up (by omega) (by omega)]
theorem mayDc_canon (s : Nat) (hs : s ≤ 1000) (z : Int) : mayDc (canon s z) = true := by
  have h := canonic s z
  exact mayDc_iff.2 ⟨h.may, h.lo, by have := h.hi; omega⟩
theorem addDc_at {a b : Dc} (ha : mayDc a = true) (hb : mayDc b = true) (N : Nat) (h1 : a.s.toNat ≤ N) (h2 : b.s.toNat ≤ N) : addDc a b = (canon N (a.at_ N + b.at_ N), 0) := by
  unfold addDc
  rw [ha, hb, add_at a b N h1 h2]
  rfl
theorem mayDc_minus (d : Dc) : mayDc (minusDc d) = mayDc d := rfl
theorem minus_at (d : Dc) (N : Nat) : (minusDc d).at_ N = -(d.at_ N) := by
  unfold Dc.at_ minusDc Dc.z
  cases d.neg <;> simp [Int.neg_mul]
theorem canon_at_self {s : Nat} (z : Int) : (canon s z).at_ s = z := by
  have := canon_at_eq s s z (Nat.le_refl _)
  simpa using this
theorem add_back {x y : Dc} (hx : mayDc x = true) (hy : mayDc y = true) : addDc (addDc x y).1 (minusDc y) = (trimDc x, 0) := by
  obtain ⟨hxl, hx0, hx1⟩ := mayDc_iff.1 hx
  obtain ⟨hyl, hy0, hy1⟩ := mayDc_iff.1 hy
  have e := addDc_at hx hy (max x.s.toNat y.s.toNat) (by omega) (by omega)
  have hl := canon_le (max x.s.toNat y.s.toNat) (x.at_ (max x.s.toNat y.s.toNat) + y.at_ (max x.s.toNat y.s.toNat))
  rw [e]
  rw [addDc_at (N := max x.s.toNat y.s.toNat) (mayDc_canon _ (by omega) _) (by rw [mayDc_minus]; exact hy) hl (by show y.s.toNat ≤ _; omega), canon_at_self, minus_at, show ∀ p q : Int, p + q + -q = p from fun p q => by omega,
    canon_at _ _ (by omega), trimDc_canon hxl hx0]
theorem times_none {x : Dc} (hx : mayDc x = true) (k : Int) (h1 : -1000 ≤ k) (h2 : k ≤ 1000) : addDc (timesDc x k).1 (timesDc x (-k)).1 = (Dc.zero, 0) := by
  obtain ⟨hxl, hx0, hx1⟩ := mayDc_iff.1 hx
  have e1 : (timesDc x k).1 = canon x.s.toNat (k * x.z) := by unfold timesDc; rw [if_pos hx, if_neg (by omega)]
  have e2 : (timesDc x (-k)).1 = canon x.s.toNat (-(k * x.z)) := by unfold timesDc; rw [if_pos hx, if_neg (by omega), Int.neg_mul]
  rw [e1, e2, addDc_at (N := x.s.toNat) (mayDc_canon _ (by omega) _) (mayDc_canon _ (by omega) _) (canon_le _ _) (canon_le _ _), canon_at_self, canon_at_self, show k * x.z + -(k * x.z) = 0 from by omega, canon_zero]
theorem times_ok {x : Dc} (hx : mayDc x = true) (k : Int) (h1 : -1000 ≤ k) (h2 : k ≤ 1000) : (timesDc x k).2 = 0 := by
  unfold timesDc; rw [if_pos hx, if_neg (by omega)]
theorem align_back {x : Dc} {s : Int} (hs0 : (alignDc x s).2 = 0) : (alignDc x s).1.s = s ∧ cmpDc (alignDc x s).1 x = 0 := by
  unfold alignDc at hs0 ⊢
  by_cases hx : mayDc x = true
  · rw [if_pos hx] at hs0 ⊢
    by_cases hr : s < (trimDc x).s ∨ 1000 < s
    · rw [if_pos hr] at hs0; simp at hs0
    · rw [if_neg hr]
      obtain ⟨hxl, hx0, hx1⟩ := mayDc_iff.1 hx
      have hc := trimDc_canonic hxl hx0
      have hlo := hc.lo
      refine ⟨rfl, ?_⟩
      obtain ⟨k, rfl⟩ : ∃ k : Nat, s = (k : Int) := ⟨s.toNat, by omega⟩
      simp only
      rw [align_scaled hc k (by omega)]
      have hz : (scaled k ((trimDc x).at_ k)).z = (trimDc x).at_ k := by
        unfold scaled Dc.z
        simp only [val_digs]
        exact natAbs_val
      have hs : (scaled k ((trimDc x).at_ k)).s.toNat = k := by simp [scaled]
      have h2 := trimDc_at hxl hx0 (max k x.s.toNat) (by omega)
      rw [cmpDc_at _ _ (max k x.s.toNat) (by omega) (by omega), ← h2.1]
      have e : (scaled k ((trimDc x).at_ k)).at_ (max k x.s.toNat) = (trimDc x).at_ (max k x.s.toNat) := by
        rw [show (scaled k ((trimDc x).at_ k)).at_ (max k x.s.toNat) = (scaled k ((trimDc x).at_ k)).z * 10 ^ (max k x.s.toNat - (scaled k ((trimDc x).at_ k)).s.toNat) from rfl, hz, hs]
        exact at_up (by omega) (by omega)
      rw [e]
      unfold cmpI
      simp
  · rw [if_neg hx] at hs0; simp at hs0
theorem parts_len (l : List Int) (s : Nat) : (partsS l s).2.length = s := by
  unfold partsS
  have := wideL_len l s
  simp only [List.length_drop]
  omega
theorem parts_len1 (l : List Int) (s : Nat) : (partsS l s).1.length ≤ max l.length s := by
  unfold partsS
  have h1 := wideL_len l s
  have h2 := trimL_len ((wideL l s).take ((wideL l s).length - s))
  simp only [List.length_take] at h2 ⊢
  omega
theorem headed_at {l : List Int} (h : headed l) (hn : 0 < l.length) : l.getD 0 0 ≠ 0 := by
  cases l with
  | nil => simp at hn
  | cons d r => simpa using h d r rfl
theorem parts_headed (l : List Int) (s : Nat) : headed (partsS l s).1 := headed_trim _
theorem parts_val (l : List Int) (s : Nat) : val ((partsS l s).1 ++ (partsS l s).2) = val l := by
  have h1 := parts_len l s
  rw [val_append, h1]
  unfold partsS at *
  simp only at *
  rw [val_trim]
  have h2 := val_append ((wideL l s).take ((wideL l s).length - s)) ((wideL l s).drop ((wideL l s).length - s))
  rw [h1, List.take_append_drop] at h2
  rw [← h2]
  unfold wideL
  exact val_zeros_append _ _
theorem parts_may {l : List Int} (h : mayL l = true) (s : Nat) : mayL ((partsS l s).1 ++ (partsS l s).2) = true := by
  have hw : mayL (wideL l s) = true := by
    unfold wideL
    refine mayL_iff.2 fun x hx => ?_
    rcases List.mem_append.1 hx with hx | hx
    · exact mayL_iff.1 (mayL_replicate _) x hx
    · exact mayL_iff.1 h x hx
  refine mayL_iff.2 fun x hx => ?_
  rcases List.mem_append.1 hx with hx | hx
  · exact mayL_iff.1 (mayL_trim (mayL_take hw _)) x hx
  · exact mayL_iff.1 (mayL_drop hw _) x hx
theorem parts_cmpL {l : List Int} (h : mayL l = true) (s : Nat) : cmpL ((partsS l s).1 ++ (partsS l s).2) l = 0 := by
  rw [cmpL_val (parts_may h s) h, parts_val]; unfold cmpI; simp
theorem parts_cmpDc (b : Bool) (l : List Int) (s : Nat) : cmpDc ⟨b, (partsS l s).1 ++ (partsS l s).2, (s : Int)⟩ ⟨b, l, (s : Int)⟩ = 0 := by
  unfold cmpDc Dc.at_ Dc.z
  simp only [parts_val]
  unfold cmpI
  simp

theorem canon_len {s k : Nat} {z : Int} (h : z.natAbs < 10 ^ k) : (canon s z).l.length ≤ k := by
  by_cases hz : z = 0
  · subst hz; rw [canon_zero]; simp [Dc.zero]
  · rw [strip_canon s z hz]
    have h1 := stripZ_len s (digs z)
    have h2 := ofN_len (n := z.natAbs) (k := k) (by exact_mod_cast h)
    simp only
    unfold digs at h1
    unfold digs
    omega
theorem z_bd {d : Dc} (h : mayL d.l = true) {M : Nat} (hM : d.l.length ≤ M) : d.z.natAbs < 10 ^ M := by
  have h1 := val_bd h
  have h2 := pow_le hM
  have e : ((d.z.natAbs : Nat) : Int) < ((10 ^ M : Nat) : Int) := by
    push_cast
    unfold Dc.z
    cases d.neg <;> simp <;> omega
  exact_mod_cast e
theorem at_bd {d : Dc} (h : mayL d.l = true) {M N : Nat} (hM : d.l.length ≤ M) : (d.at_ N).natAbs < 10 ^ (M + N) := by
  have h1 := z_bd h hM
  unfold Dc.at_
  rw [Int.natAbs_mul, Int.natAbs_pow]
  have e : (10 : Nat) ^ (N - d.s.toNat) ≤ 10 ^ N := Nat.pow_le_pow_right (by omega) (by omega)
  have e2 : (10 : Int).natAbs = 10 := rfl
  rw [e2, Nat.pow_add]
  exact Nat.lt_of_le_of_lt (Nat.mul_le_mul_left _ e) (Nat.mul_lt_mul_of_pos_right h1 (Nat.pow_pos (by omega)))
theorem times_len {d : Dc} (h : mayL d.l = true) {M : Nat} (hM : d.l.length ≤ M) (k : Int) : (timesDc d k).1.l.length ≤ M + 4 := by
  unfold timesDc
  split
  · split
    · simp [Dc.zero]
    · refine canon_len ?_
      have h1 := z_bd h hM
      rw [Int.natAbs_mul]
      have h2 : k.natAbs ≤ 1000 := by omega
      have e := Nat.mul_le_mul_right d.z.natAbs h2
      rw [Nat.pow_add]
      omega
  · simp [Dc.zero]
theorem add_len {a b : Dc} (ha : mayL a.l = true) (hb : mayL b.l = true) {M N : Nat} (h1 : a.l.length ≤ M) (h2 : b.l.length ≤ M) (h3 : a.s.toNat ≤ N) (h4 : b.s.toNat ≤ N) : (addDc a b).1.l.length ≤ M + N + 1 := by
  unfold addDc
  split
  · rw [add_at a b N h3 h4]
    refine canon_len ?_
    have e1 := at_bd (N := N) ha h1
    have e2 := at_bd (N := N) hb h2
    rw [Nat.pow_succ]
    omega
  · simp [Dc.zero]
theorem mayL_times {d : Dc} (k : Int) : mayL (timesDc d k).1.l = true := by
  unfold timesDc
  split
  · split
    · rfl
    · exact (canonic _ _).may
  · rfl
theorem times_s {d : Dc} (h : d.s ≤ 1000) (k : Int) : 0 ≤ (timesDc d k).1.s ∧ (timesDc d k).1.s ≤ 1000 := by
  unfold timesDc
  split
  · split
    · simp [Dc.zero]
    · have := canonic d.s.toNat (k * d.z)
      have h1 := this.lo
      have h2 := this.hi
      simp only
      omega
  · simp [Dc.zero]
theorem add_s (a b : Dc) : 0 ≤ (addDc a b).1.s ∧ (addDc a b).1.s ≤ 1000 := by
  unfold addDc
  split
  · rename_i h
    simp only [Bool.and_eq_true] at h
    have h1 := mayDc_iff.1 h.1
    have h2 := mayDc_iff.1 h.2
    have := canonic (max a.s.toNat b.s.toNat) (a.at_ (max a.s.toNat b.s.toNat) + b.at_ (max a.s.toNat b.s.toNat))
    have h3 := this.lo
    have h4 := this.hi
    simp only
    omega
  · simp [Dc.zero]
theorem mayL_add (a b : Dc) : mayL (addDc a b).1.l = true := by
  unfold addDc
  split
  · exact (canonic _ _).may
  · rfl

end Go.Proofs.Ytnndiikogaoeiaa
