/- What keys do to a state: the document's answer. No program in sight. No condition. -/
import Derived.Test.YtppkifdngjcbeaaDrP
import Derived.Test.YtppkifdngjcbeaaDf1
namespace Go.Proofs.Ytppkifdngjcbeaa
set_option linter.unusedSimpArgs false

structure St where
  d : Dr
  c : Int
  a : Int
def St.zero : St := ⟨Dr.none, 0, 0⟩
def mayDr (d : Dr) : Bool := mayD d.neg d.int d.sep d.frac
def lenR (d : Dr) : Int := ((atomsR d).length : Int)
def inS (d : Dr) (k : Int) : Bool := decide (0 ≤ k) && decide (k ≤ lenR d)
def mayS (s : St) : Bool := mayDr s.d && inS s.d s.c && inS s.d s.a
def frontS (s : St) : Int := if s.a < s.c then s.a else s.c
def backS (s : St) : Int := if s.c < s.a then s.a else s.c
def insS (s : St) (x y : Int) (l : List Int) : St × Int :=
  if mayS s then
    if (spliceS s.d (frontS s) (backS s) l).2 = 0 then
      if fitsD (spliceS s.d (frontS s) (backS s) l).1 x y then (⟨(spliceS s.d (frontS s) (backS s) l).1, frontS s + l.length, frontS s + l.length⟩, 0) else (St.zero, 4)
    else (St.zero, (spliceS s.d (frontS s) (backS s) l).2)
  else (St.zero, 1)
def negD (d : Dr) (b : Bool) : Dr := ⟨b, d.int, d.sep, d.frac⟩
def wholeS (s : St) : Bool := decide (0 < lenR s.d) && (frontS s == 0) && (backS s == lenR s.d)
def putS (s : St) (x y : Int) (signed cneg : Bool) (l : List Int) : St × Int :=
  if (insS s x y l).2 = 0 then
    if cneg && (!signed || decide (0 < frontS s)) then (St.zero, 5)
    else (⟨negD (insS s x y l).1.d (cneg || (s.d.neg && !wholeS s)), (insS s x y l).1.c, (insS s x y l).1.a⟩, 0)
  else (St.zero, (insS s x y l).2)
def leftS (l : List Int) (c : Int) : Int :=
  if c = 0 then 0 else if (l.take c.toNat).getD (c.toNat - 1) 0 = 10 then c - 1 else idxP (· == 10) (l.take c.toNat) 0 + 1
def rightS (l : List Int) (c : Int) : Int :=
  if idxP (· == 10) (l.drop c.toNat) 0 < 0 then c + (l.drop c.toNat).length else if idxP (· == 10) (l.drop c.toNat) 0 = 0 then c + 1 else c + idxP (· == 10) (l.drop c.toNat) 0
def toS (d : Dr) (c what : Int) : Int :=
  if what = 0 then (if c - 1 < 0 then 0 else c - 1) else if what = 1 then (if lenR d < c + 1 then lenR d else c + 1) else if what = 2 then leftS (atomsR d) c else if what = 3 then rightS (atomsR d) c
  else if what = 4 then 0 else lenR d
/-- From where to where an erasing goes. -/
def spanE (s : St) (what : Int) : Int × Int :=
  if what = 6 then (0, lenR s.d)
  else if frontS s = backS s then (if s.c < toS s.d s.c what then s.c else toS s.d s.c what, if toS s.d s.c what < s.c then s.c else toS s.d s.c what) else (frontS s, backS s)
def eraseS (s : St) (x y what : Int) : St × Int :=
  if mayS s && decide (0 ≤ what) && decide (what ≤ 6) then
    if (spanE s what).1 = (spanE s what).2 ∧ (s.d.neg && !(what == 6)) = s.d.neg then (St.zero, 7)
    else if fitsD (spliceS s.d (spanE s what).1 (spanE s what).2 []).1 x y then (⟨negD (spliceS s.d (spanE s what).1 (spanE s what).2 []).1 (s.d.neg && !(what == 6)), (spanE s what).1, (spanE s what).1⟩, 0)
    else (St.zero, 4)
  else (St.zero, 1)
def moveT (s : St) (how : Int) (keep : Bool) : Int :=
  if keep || (frontS s == backS s) then toS s.d s.c how else if how = 0 then frontS s else if how = 1 then backS s else toS s.d s.c how
def moveS (s : St) (how : Int) (keep : Bool) : St × Int :=
  if mayS s && decide (0 ≤ how) && decide (how ≤ 5) then (⟨s.d, moveT s how keep, if keep then s.a else moveT s how keep⟩, 0) else (St.zero, 1)
def selectS (s : St) (an ca : Int) : St × Int :=
  if mayS s then (if inS s.d an && inS s.d ca then (⟨s.d, ca, an⟩, 0) else (St.zero, 3)) else (St.zero, 1)
def toggleS (s : St) (signed : Bool) : St × Int :=
  if mayS s then (if signed then (⟨negD s.d (!s.d.neg), s.c, s.a⟩, 0) else (St.zero, 5)) else (St.zero, 1)
def sameS (x y : St) : Bool := sameD x.d y.d && (x.c == y.c) && (x.a == y.a)

theorem mayDr_iff {d : Dr} : mayDr d = true ↔ mayL d.int = true ∧ mayL d.frac = true ∧ (d.sep = true ∨ d.frac.length = 0) := by simp [mayDr, mayD, and_assoc]
theorem mayS_iff {s : St} : mayS s = true ↔ mayDr s.d = true ∧ (0 ≤ s.c ∧ s.c ≤ lenR s.d) ∧ (0 ≤ s.a ∧ s.a ≤ lenR s.d) := by simp [mayS, inS, and_assoc]
theorem atoms_pts {d : Dr} (h : mayDr d = true) : pts (atomsR d) ≤ 1 ∧ oddL (atomsR d) = false := by
  obtain ⟨h1, h2, _⟩ := mayDr_iff.1 h
  have o : ∀ {l : List Int}, mayL l = true → oddL l = false := fun hl => odd_of fun x hx => by have := mayL_iff.1 hl x hx; omega
  unfold atomsR atomsD
  rw [pts_append, pts_append, odd_append, odd_append, pts_dig h1, pts_dig h2, o h1, o h2]
  cases d.sep <;> simp [pts, oddL, is10, isAtom]
theorem take_drop_pts (l : List Int) {i j : Nat} (h : i ≤ j) : pts (l.take i ++ l.drop j) ≤ pts l := by
  have e : pts l = pts (l.take i) + pts (l.drop i) := by rw [← pts_append, List.take_append_drop]
  have e2 : pts (l.drop i) = pts ((l.drop i).take (j - i)) + pts (l.drop j) := by
    have : l.drop j = (l.drop i).drop (j - i) := by rw [List.drop_drop]; congr 1; omega
    rw [this, ← pts_append, List.take_append_drop]
  rw [pts_append]
  omega
theorem odd_take {l : List Int} (h : oddL l = false) (k : Nat) : oddL (l.take k) = false := odd_of fun x hx => atom_of h x (List.mem_of_mem_take hx)
theorem odd_drop {l : List Int} (h : oddL l = false) (k : Nat) : oddL (l.drop k) = false := odd_of fun x hx => atom_of h x (List.mem_of_mem_drop hx)
theorem splice_in {d : Dr} (h : mayDr d = true) {i j : Int} (h0 : 0 ≤ i) (h1 : i ≤ j) (h2 : j ≤ lenR d) {s : List Int} (hs : oddL s = false) :
    spliceS d i j s = ofS d.neg ((atomsR d).take i.toNat ++ s ++ (atomsR d).drop j.toNat) := by
  unfold spliceS
  rw [show mayD d.neg d.int d.sep d.frac = true from h, hs]
  unfold lenR at h2
  simp only [Bool.not_false, Bool.and_self, if_true]
  rw [if_neg (by omega)]
/-- What is left behind an erasing. -/
theorem splice_cut {d : Dr} (h : mayDr d = true) {i j : Int} (h0 : 0 ≤ i) (h1 : i ≤ j) (h2 : j ≤ lenR d) :
    ∃ x : Dr, spliceS d i j [] = (x, 0) ∧ x.neg = d.neg ∧ mayDr x = true ∧ atomsR x = (atomsR d).take i.toNat ++ (atomsR d).drop j.toNat := by
  obtain ⟨p1, p2⟩ := atoms_pts h
  rw [splice_in h h0 h1 h2 rfl, List.append_nil]
  have hp := take_drop_pts (atomsR d) (i := i.toNat) (j := j.toNat) (by omega)
  exact ofS_back d.neg (by rw [odd_append, odd_take p2, odd_drop p2]; rfl) (by omega)
theorem front_back {s : St} (h : mayS s = true) : 0 ≤ frontS s ∧ frontS s ≤ backS s ∧ backS s ≤ lenR s.d := by
  obtain ⟨_, h1, h2⟩ := mayS_iff.1 h
  unfold frontS backS
  split <;> split <;> omega

/-! ### Words -/
theorem idxP_at : ∀ (l : List Int) (k i : Nat), i < l.length → l.getD i 0 = 10 → (∀ j, j < i → l.getD j 0 ≠ 10) → idxP (· == 10) l k = ((k + i : Nat) : Int) := by
  intro l
  induction l with
  | nil => intro k i h; simp at h
  | cons x t ih =>
    intro k i h h1 h2
    unfold idxP
    cases i with
    | zero => simp at h1; simp [h1]
    | succ i =>
      have hx : x ≠ 10 := by have := h2 0 (by omega); simpa using this
      rw [if_neg (by simpa using hx), ih (k + 1) i (by simpa using h) (by simpa using h1) (fun j hj => by have := h2 (j + 1) (by omega); simpa using this)]
      congr 1; omega
theorem idxP_no : ∀ (l : List Int) (k : Nat), (∀ j, j < l.length → l.getD j 0 ≠ 10) → idxP (· == 10) l k = -1 := by
  intro l
  induction l with
  | nil => intro k _; rfl
  | cons x t ih =>
    intro k h
    unfold idxP
    have hx : x ≠ 10 := by have := h 0 (by simp); simpa using this
    rw [if_neg (by simpa using hx), ih (k + 1) (fun j hj => by have := h (j + 1) (by simpa using hj); simpa using this)]
theorem getD_take (l : List Int) {i k : Nat} (h : i < k) : (l.take k).getD i 0 = l.getD i 0 := by
  simp only [List.getD, List.getElem?_take]
  rw [if_pos h]
theorem getD_drop (l : List Int) (i k : Nat) : (l.drop k).getD i 0 = l.getD (k + i) 0 := by
  simp [List.getD, List.getElem?_drop]
theorem pts_two {l : List Int} {i j : Nat} (hij : i < j) (hj : j < l.length) (h1 : l.getD i 0 = 10) (h2 : l.getD j 0 = 10) : 2 ≤ pts l := by
  have e : pts l = pts (l.take j) + pts (l.drop j) := by rw [← pts_append, List.take_append_drop]
  have hpos : ∀ {t : List Int} {k : Nat}, k < t.length → t.getD k 0 = 10 → 0 < pts t := by
    intro t k hk h
    unfold pts
    rw [List.countP_pos_iff]
    refine ⟨t.getD k 0, ?_, by rw [h]; rfl⟩
    simp only [List.getD, List.getElem?_eq_getElem hk, Option.getD_some]
    exact List.getElem_mem hk
  have a := hpos (t := l.take j) (k := i) (by simp; omega) (by rw [getD_take l hij]; exact h1)
  have b := hpos (t := l.drop j) (k := 0) (by simp; omega) (by rw [getD_drop]; simpa using h2)
  omega
/-- A word to the left, step by step. -/
theorem left_loop {l : List Int} {c k : Nat} (hp : pts l ≤ 1) (hc : c ≤ l.length) (hk : k ≤ c) (hno : ∀ j, k ≤ j → j < c → l.getD j 0 ≠ 10) (hend : k = 0 ∨ l.getD (k - 1) 0 = 10)
    (hne : 0 < c → l.getD (c - 1) 0 ≠ 10) : leftS l (c : Int) = k := by
  unfold leftS
  by_cases h0 : c = 0
  · subst h0
    rw [if_pos (by omega)]
    omega
  · have e : (c : Int).toNat = c := by omega
    rw [if_neg (by omega), e, if_neg (by rw [getD_take l (by omega)]; exact hne (by omega))]
    rcases hend with h | h
    · subst h
      rw [idxP_no _ _ (fun j hj => by
        have hj2 : j < c := by simp at hj; omega
        rw [getD_take l hj2]; exact hno j (by omega) hj2)]
      rfl
    · by_cases hk0 : k = 0
      · subst hk0
        rw [idxP_no _ _ (fun j hj => by
          have hj2 : j < c := by simp at hj; omega
          rw [getD_take l hj2]; exact hno j (by omega) hj2)]
        rfl
      · rw [idxP_at _ 0 (k - 1) (by simp; omega) (by rw [getD_take l (by omega)]; exact h) (fun j hj => by
          rw [getD_take l (by omega)]
          intro hh
          have := pts_two (l := l) (i := j) (j := k - 1) hj (by omega) hh h
          omega)]
        omega
theorem left_ten {l : List Int} {c : Nat} (hc : 0 < c) (h : l.getD (c - 1) 0 = 10) : leftS l (c : Int) = (c : Int) - 1 := by
  unfold leftS
  have e : (c : Int).toNat = c := by omega
  rw [if_neg (by omega), e, if_pos (by rw [getD_take l (by omega)]; exact h)]
/-- A word to the right, step by step. -/
theorem right_loop {l : List Int} {c k : Nat} (hc : c ≤ k) (hk : k ≤ l.length) (hno : ∀ j, c ≤ j → j < k → l.getD j 0 ≠ 10) (hend : k = l.length ∨ l.getD k 0 = 10)
    (hne : c < l.length → l.getD c 0 ≠ 10) : rightS l (c : Int) = k := by
  unfold rightS
  have e : (c : Int).toNat = c := by omega
  rw [e]
  by_cases hl : k = l.length
  · have h1 : idxP (· == 10) (l.drop c) 0 = -1 := idxP_no _ _ (fun j hj => by
      rw [getD_drop]
      simp at hj
      exact hno (c + j) (by omega) (by omega))
    rw [h1, if_pos (by omega)]
    simp
    omega
  · have h10 : l.getD k 0 = 10 := hend.resolve_left hl
    have hck : c ≠ k := fun h => hne (by omega) (by rw [h]; exact h10)
    have h1 : idxP (· == 10) (l.drop c) 0 = ((0 + (k - c) : Nat) : Int) := idxP_at _ 0 (k - c) (by simp; omega) (by rw [getD_drop, show c + (k - c) = k by omega]; exact h10) (fun j hj => by
      rw [getD_drop]
      exact hno (c + j) (by omega) (by omega))
    rw [h1, if_neg (by omega), if_neg (by omega)]
    omega
theorem right_ten {l : List Int} {c : Nat} (hc : c < l.length) (h : l.getD c 0 = 10) : rightS l (c : Int) = (c : Int) + 1 := by
  unfold rightS
  have e : (c : Int).toNat = c := by omega
  have h1 : idxP (· == 10) (l.drop c) 0 = ((0 + 0 : Nat) : Int) := idxP_at _ 0 0 (by simp; omega) (by rw [getD_drop]; exact h) (fun j hj => by omega)
  rw [e, h1]
  simp

end Go.Proofs.Ytppkifdngjcbeaa
