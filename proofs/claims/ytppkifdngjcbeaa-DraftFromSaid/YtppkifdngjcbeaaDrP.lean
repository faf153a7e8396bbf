/- The plain law: what is put in, and taken out again. No program in sight. No condition. -/
import Derived.Test.YtppkifdngjcbeaaDr6
namespace Go.Proofs.Ytppkifdngjcbeaa
set_option linter.unusedSimpArgs false

theorem pts_append (a b : List Int) : pts (a ++ b) = pts a + pts b := List.countP_append
theorem pts_dig {l : List Int} (h : mayL l = true) : pts l = 0 := by
  unfold pts
  rw [List.countP_eq_zero]
  intro x hx
  have := mayL_iff.1 h x hx
  simp [is10]; omega
theorem odd_of {l : List Int} (h : ∀ x, x ∈ l → 0 ≤ x ∧ x ≤ 10) : oddL l = false := by
  unfold oddL
  rw [List.any_eq_false]
  intro x hx
  have := h x hx
  simp [isAtom]; omega
theorem atom_of {l : List Int} (h : oddL l = false) : ∀ x, x ∈ l → 0 ≤ x ∧ x ≤ 10 := by
  intro x hx
  have := List.any_eq_false.1 h x hx
  simp [isAtom] at this
  omega
theorem may_of {l : List Int} (h : oddL l = false) (hp : pts l = 0) : mayL l = true := by
  rw [mayL_iff]
  intro x hx
  have h1 := atom_of h x hx
  unfold pts at hp
  rw [List.countP_eq_zero] at hp
  have h2 := hp x hx
  simp [is10] at h2
  omega
theorem pre_post {l : List Int} (h : has10 l = true) : preL l ++ 10 :: postL l = l := by
  unfold preL postL has10 at *
  induction l with
  | nil => simp at h
  | cons x l ih =>
    by_cases hx : x = 10
    · subst hx; simp
    · have hx2 : (x == 10) = false := by simpa using hx
      rw [List.any_cons, hx2, Bool.false_or] at h
      have := ih h
      simp [List.takeWhile_cons, List.dropWhile_cons, hx2, this]
theorem pre_no10 (l : List Int) : pts (preL l) = 0 := by
  unfold preL
  induction l with
  | nil => rfl
  | cons x l ih =>
    rw [List.takeWhile_cons]
    split
    · next h =>
      have hx : is10 x = false := by simpa [is10] using h
      have : pts (x :: l.takeWhile fun x => !(x == 10)) = pts (l.takeWhile fun x => !(x == 10)) := by unfold pts; simp [List.countP_cons, hx]
      rw [this]; exact ih
    · rfl
theorem odd_append (a b : List Int) : oddL (a ++ b) = (oddL a || oddL b) := by simp [oddL]
theorem odd_cons (x : Int) (b : List Int) : oddL (x :: b) = (!isAtom x || oddL b) := by simp [oddL]

/-- Of atoms with one separator or none: the draft may be, and has these atoms. -/
theorem ofS_back (b : Bool) {X : List Int} (ho : oddL X = false) (hp : pts X ≤ 1) :
    ∃ x : Dr, ofS b X = (x, 0) ∧ x.neg = b ∧ mayD x.neg x.int x.sep x.frac = true ∧ atomsD x.int x.sep x.frac = X := by
  have hf := ofS_fin b X ho
  rw [if_neg (by omega)] at hf
  refine ⟨_, hf, rfl, ?_, ?_⟩
  · cases h : has10 X
    · have e := pre_all h
      have hz : pts X = 0 := by
        have := pts_pos X
        rw [h] at this
        rcases Nat.eq_zero_or_pos (pts X) with q | q
        · exact q
        · exact absurd (this.1 q) (by simp)
      have : fracS X = [] := by unfold fracS; rw [e.2]; rfl
      simp [mayD, this, e.1, may_of ho hz]
    · have e := pre_post h
      have e2 := pts_post X h
      have hz : pts (postL X) = 0 := by omega
      have hfr : fracS X = postL X := by
        unfold fracS
        rw [List.filter_eq_self]
        intro x hx
        unfold pts at hz
        rw [List.countP_eq_zero] at hz
        have := hz x hx
        simpa using this
      have ho2 := ho
      rw [← e, odd_append, odd_cons, Bool.or_eq_false_iff, Bool.or_eq_false_iff] at ho2
      simp [mayD, hfr, may_of ho2.1 (pre_no10 X), may_of ho2.2.2 hz]
  · cases h : has10 X
    · have e := pre_all h
      have : fracS X = [] := by unfold fracS; rw [e.2]; rfl
      simp [atomsD, this, e.1]
    · have e := pre_post h
      have e2 := pts_post X h
      have hz : pts (postL X) = 0 := by omega
      have hfr : fracS X = postL X := by
        unfold fracS
        rw [List.filter_eq_self]
        intro x hx
        unfold pts at hz
        rw [List.countP_eq_zero] at hz
        have := hz x hx
        simpa using this
      simp only [atomsD, hfr, if_true]
      simpa using e

theorem ofS_dig (b : Bool) {l : List Int} (h : mayL l = true) : ofS b l = (⟨b, l, false, []⟩, 0) := by
  have hz := pts_dig h
  have ho : oddL l = false := odd_of fun x hx => by have := mayL_iff.1 h x hx; omega
  have h10 : has10 l = false := by
    have := pts_pos l
    cases h : has10 l
    · rfl
    · have := this.2 h; omega
  rw [ofS_fin b l ho, if_neg (by omega), h10]
  have e := pre_all h10
  have : fracS l = [] := by unfold fracS; rw [e.2]; rfl
  rw [e.1, this]

/-- What comes of a splice into digits. -/
theorem splice_dig (b : Bool) {I s : List Int} (hI : mayL I = true) (hs : oddL s = false) {i : Nat} (hi : i ≤ I.length) :
    spliceS ⟨b, I, false, []⟩ i i s = ofS b (I.take i ++ s ++ I.drop i) := by
  unfold spliceS
  have e : mayD b I false [] = true := by simp [mayD, hI]
  have ea : atomsR ⟨b, I, false, []⟩ = I := by simp [atomsR, atomsD]
  rw [e, hs, ea]
  simp only [Bool.not_false, Bool.and_self, if_true]
  rw [if_neg (by omega)]
  rfl
theorem splice_many (b : Bool) {I s : List Int} (hI : mayL I = true) (hs : oddL s = false) {i : Nat} (hi : i ≤ I.length) (hp : 1 < pts s) :
    spliceS ⟨b, I, false, []⟩ i i s = (Dr.none, 6) := by
  rw [splice_dig b hI hs hi, ofS_fin]
  · rw [if_pos]
    rw [pts_append, pts_append]
    omega
  · rw [odd_append, odd_append, hs, odd_of fun x hx => (by have := mayL_iff.1 (mayL_take hI i) x hx; omega), odd_of fun x hx => (by have := mayL_iff.1 (mayL_drop hI i) x hx; omega)]
    rfl
theorem splice_back (b : Bool) {I s : List Int} (hI : mayL I = true) (hs : oddL s = false) {i : Nat} (hi : i ≤ I.length) (hp : pts s ≤ 1) :
    ∃ x : Dr, spliceS ⟨b, I, false, []⟩ i i s = (x, 0) ∧ (atomsD x.int x.sep x.frac).length = I.length + s.length ∧ (mayL x.int = true ∧ mayL x.frac = true) ∧ spliceS x i (i + s.length : Nat) [] = (⟨b, I, false, []⟩, 0) := by
  have h1 := mayL_take hI i
  have h2 := mayL_drop hI i
  have ho : oddL (I.take i ++ s ++ I.drop i) = false := by
    rw [odd_append, odd_append, hs, odd_of fun x hx => (by have := mayL_iff.1 h1 x hx; omega), odd_of fun x hx => (by have := mayL_iff.1 h2 x hx; omega)]
    rfl
  have hpp : pts (I.take i ++ s ++ I.drop i) ≤ 1 := by rw [pts_append, pts_append, pts_dig h1, pts_dig h2]; omega
  obtain ⟨x, e1, e2, e3, e4⟩ := ofS_back b ho hpp
  have hlen : (I.take i ++ s ++ I.drop i).length = I.length + s.length := by simp; omega
  refine ⟨x, by rw [splice_dig b hI hs hi]; exact e1, by rw [e4]; exact hlen, by simp only [mayD, Bool.and_eq_true] at e3; exact ⟨e3.1.1, e3.1.2⟩, ?_⟩
  unfold spliceS
  rw [e3]
  have : atomsR x = I.take i ++ s ++ I.drop i := e4
  rw [this]
  have eo : oddL [] = false := rfl
  rw [eo]
  simp only [Bool.not_false, Bool.and_self, if_true]
  rw [if_neg (by rw [hlen]; omega), e2]
  have t1 : (I.take i ++ s ++ I.drop i).take (i : Int).toNat = I.take i := by
    simp [List.take_append, Nat.min_eq_left hi]
  have t2 : (I.take i ++ s ++ I.drop i).drop ((i + s.length : Nat) : Int).toNat = I.drop i := by
    rw [Int.toNat_natCast, List.append_assoc, List.drop_append, List.drop_append]
    have e1 : (I.take i).length = i := by simp; omega
    rw [e1, List.drop_of_length_le (by rw [e1]; omega), List.drop_of_length_le (by omega)]
    have e2 : i + s.length - i - s.length = 0 := by omega
    rw [e2]; rfl
  rw [t1, t2]
  simp only [List.append_nil, List.take_append_drop]
  exact ofS_dig b hI

end Go.Proofs.Ytppkifdngjcbeaa
