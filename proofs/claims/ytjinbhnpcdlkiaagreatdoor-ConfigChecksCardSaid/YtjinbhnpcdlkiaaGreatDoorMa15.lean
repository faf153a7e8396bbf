/- The walk of the document's draft of atoms. No condition. -/
import Derived.Test.YtjinbhnpcdlkiaaGreatDoorMa14
import Derived.Deep.DeepCutAuto
import Derived.Test.YtjinbhnpcdlkiaaGreatDoorMa07
import Derived.Test.YtjinbhnpcdlkiaaGreatDoorMa04
import Derived.Deep.RegionLaw
import Derived.BigRegion
namespace Go.Proofs.YtjinbhnpcdlkiaaGreatDoor
open Go.RowKit

theorem box4 {w W : World} {t : TypeId} {a b c d : Value} (h : Below (w.alloc (.cells #[a, b, c, d] t)).heap.size (w.alloc (.cells #[a, b, c, d] t)) W) :
    W.cell? ⟨w.heap.size, 0, none⟩ = some a ∧ W.cell? ⟨w.heap.size, 1, none⟩ = some b ∧ W.cell? ⟨w.heap.size, 2, none⟩ = some c ∧ W.cell? ⟨w.heap.size, 3, none⟩ = some d := by
  refine ⟨?_, ?_, ?_, ?_⟩ <;>
  · rw [h.cell (by simp), World.cell?_alloc_at _ _ _ _ rfl]; rfl

/-- What a new block holds, beside which a call has gone by. -/
theorem fresh4 {w W : World} {t : TypeId} {a b c d : Value} (h : Below (w.heap.size + 1) (w.alloc (.cells #[a, b, c, d] t)).drew W) :
    (W.cell? ⟨w.heap.size, 0, none⟩ = some a ∧ W.cell? ⟨w.heap.size, 1, none⟩ = some b ∧ W.cell? ⟨w.heap.size, 2, none⟩ = some c ∧ W.cell? ⟨w.heap.size, 3, none⟩ = some d) ∧
    (W.frozen? ⟨w.heap.size, 0, none⟩ = false ∧ W.frozen? ⟨w.heap.size, 1, none⟩ = false ∧ W.frozen? ⟨w.heap.size, 2, none⟩ = false ∧ W.frozen? ⟨w.heap.size, 3, none⟩ = false) := by
  have h' : Below (w.alloc (.cells #[a, b, c, d] t)).heap.size (w.alloc (.cells #[a, b, c, d] t)) W := by
    refine ⟨h.os, h.tape, h.output, h.size, fun k hk => h.block k (by simpa using hk)⟩
  refine ⟨box4 h', ?_, ?_, ?_, ?_⟩ <;>
  · rw [h'.frozen (by simp)]
    exact World.frozen?_alloc_at _ _ _ _ rfl

/-! ### Cut and made ones -/
def goodL11 (l : List Int) (most : Nat) : List Int := (l.take most).map fun x => around x 11
theorem goodL11_succ (l : List Int) (k : Nat) (hk : k < l.length) : goodL11 l (k + 1) = goodL11 l k ++ [around (l.getD k 0) 11] := by
  unfold goodL11
  have e : l.getD k 0 = l[k] := by simp [List.getD, List.getElem?_eq_getElem hk]
  rw [List.take_succ_eq_append_getElem hk, List.map_append, e]
  rfl
theorem goodL11_all (l : List Int) (k m : Nat) (h : l.length ≤ k) (h2 : l.length ≤ m) : goodL11 l k = goodL11 l m := by
  unfold goodL11
  rw [List.take_of_length_le h, List.take_of_length_le h2]
theorem goodL11_bd (l : List Int) (m : Nat) : ∀ x, x ∈ goodL11 l m → 0 ≤ x ∧ x ≤ 10 := by
  intro x hx
  obtain ⟨y, _, rfl⟩ := List.mem_map.1 hx
  have := around_bd y 11 (by omega)
  omega
theorem goodL11_len (l : List Int) (m : Nat) : (goodL11 l m).length = min m l.length := by simp [goodL11]

end Go.Proofs.YtjinbhnpcdlkiaaGreatDoor


namespace Go.Proofs.YtjinbhnpcdlkiaaGreatDoor
open Go.RowKit

/-! ### What is no atom -/
def isAtom (x : Int) : Bool := decide (0 ≤ x) && decide (x ≤ 10)
def oddL (l : List Int) : Bool := l.any fun x => !isAtom x

/-! ### Where a number is -/
/-! ### The draft of atoms, by definition -/
def preL (l : List Int) : List Int := l.takeWhile fun x => !(x == 10)
def postL (l : List Int) : List Int := (l.dropWhile fun x => !(x == 10)).tail
theorem idx_pre (l : List Int) (k : Nat) : idxP (· == 10) l k = if l.any (· == 10) then ((k + (preL l).length : Nat) : Int) else -1 := by
  induction l generalizing k with
  | nil => rfl
  | cons x l ih =>
    by_cases h : x = 10
    · subst h; simp [idxP, preL]
    · have hx : (x == 10) = false := by simpa using h
      simp only [idxP, preL, List.any_cons, hx, Bool.false_or, Bool.false_eq_true, if_false, List.takeWhile_cons, Bool.not_false, if_true, List.length_cons]
      rw [ih]
      simp only [preL]
      split
      · omega
      · rfl
theorem pre_take (l : List Int) : l.take (preL l).length = preL l := by
  unfold preL
  induction l with
  | nil => rfl
  | cons x l ih =>
    rw [List.takeWhile_cons]
    split
    · simp [ih]
    · rfl
theorem post_drop (l : List Int) (h : l.any (· == 10) = true) : l.drop ((preL l).length + 1) = postL l ∧ (preL l).length < l.length := by
  unfold preL postL
  induction l with
  | nil => simp at h
  | cons x l ih =>
    by_cases hx : x = 10
    · subst hx; simp
    · have hx2 : (x == 10) = false := by simpa using hx
      rw [List.any_cons, hx2, Bool.false_or] at h
      have := ih h
      simp only [List.takeWhile_cons, List.dropWhile_cons, hx2, Bool.not_false, if_true, List.length_cons, List.drop_succ_cons]
      exact ⟨this.1, by omega⟩

end Go.Proofs.YtjinbhnpcdlkiaaGreatDoor


namespace Go.Proofs.YtjinbhnpcdlkiaaGreatDoor
open Go.RowKit

def sameD (x y : Dr) : Bool := (x.neg == y.neg) && (x.sep == y.sep) && (x.int == y.int) && (x.frac == y.frac)
theorem sameD_refl (x : Dr) : sameD x x = true := by simp [sameD]

end Go.Proofs.YtjinbhnpcdlkiaaGreatDoor


namespace Go.Proofs.YtjinbhnpcdlkiaaGreatDoor
open Go.RowKit

def Dr.none : Dr := ⟨false, [], false, []⟩
/-- The draft of atoms, and the code. -/
def ofS (b : Bool) (l : List Int) : Dr × Int :=
  if oddL l then (Dr.none, 1) else if l.any (· == 10) then (if (postL l).any (· == 10) then (Dr.none, 6) else (⟨b, preL l, true, postL l⟩, 0)) else (⟨b, l, false, []⟩, 0)

theorem IL.set4 {W : World} {A : Option Addr} {n c : Nat} {l : List Int} (h : IL W A n c l) {g : Nat} (hp : 0 < n → ∀ a, A = some a → a.block ≠ g) (u0 u1 u2 u3 : Value) :
    IL ((((W.setCell ⟨g, 0, none⟩ u0).setCell ⟨g, 1, none⟩ u1).setCell ⟨g, 2, none⟩ u2).setCell ⟨g, 3, none⟩ u3) A n c l :=
  (((h.set_ (p := ⟨g, 0, none⟩) hp _).set_ (p := ⟨g, 1, none⟩) hp _).set_ (p := ⟨g, 2, none⟩) hp _).set_ (p := ⟨g, 3, none⟩) hp _
theorem below_set4 {w0 W : World} {B : Nat} (h : Below B w0 W) {g : Nat} (hg : B ≤ g) (u0 u1 u2 u3 : Value) :
    Below B w0 ((((W.setCell ⟨g, 0, none⟩ u0).setCell ⟨g, 1, none⟩ u1).setCell ⟨g, 2, none⟩ u2).setCell ⟨g, 3, none⟩ u3) :=
  (((h.setCell (p := ⟨g, 0, none⟩) hg _).setCell (p := ⟨g, 1, none⟩) hg _).setCell (p := ⟨g, 2, none⟩) hg _).setCell (p := ⟨g, 3, none⟩) hg _
theorem Fresh4.store {w0 W : World} {g : Nat} {t : TypeId} {a b c d : Value} (h : Fresh4 w0 g t a b c d W) (u0 u1 u2 u3 : Value) :
    Fresh4 w0 g t u0 u1 u2 u3 ((((W.setCell ⟨g, 0, none⟩ u0).setCell ⟨g, 1, none⟩ u1).setCell ⟨g, 2, none⟩ u2).setCell ⟨g, 3, none⟩ u3) :=
  (((h.set0 _).set1 _).set2 _).set3 _
theorem IL.dropv {w : World} {A A' : Option Addr} {n c k n' c' : Nat} {l : List Int} (h : IL w A n c l) (hk : k ≤ n) (hn : n' = n - k) (hc : c' = c - k) (hA : k < n → A' = A.map (·.add k)) : IL w A' n' c' (l.drop k) := by
  subst hn hc; exact h.drop hk A' hA
theorem IL.takev {w : World} {A A' : Option Addr} {n c k c' : Nat} {l : List Int} (h : IL w A n c l) (hk : k ≤ n) (hc : c' = c) (hA : 0 < k → A' = A) : IL w A' k c' (l.take k) := by
  subst hc; exact h.take hk (Nat.le_trans hk h.le) (Nat.le_refl _) A' hA
theorem OL.apart {W : World} {B n c g : Nat} {A : Option Addr} {l : List Int} (h : OL W B A n c l) (hg : g < B) : 0 < n → ∀ a, A = some a → a.block ≠ g := fun hn a ha => by
  have := (h.away hn a ha).1
  omega

end Go.Proofs.YtjinbhnpcdlkiaaGreatDoor


namespace Go.Proofs.YtjinbhnpcdlkiaaGreatDoor
open Go.RowKit

def is10 (x : Int) : Bool := x == 10
def has10 (l : List Int) : Bool := l.any (· == 10)
def pts (l : List Int) : Nat := l.countP is10
def fracS (l : List Int) : List Int := (postL l).filter fun x => !is10 x

theorem has10_snoc (l : List Int) (x : Int) : has10 (l ++ [x]) = (has10 l || is10 x) := by simp [has10, is10]
theorem pre_all {l : List Int} (h : has10 l = false) : preL l = l ∧ postL l = [] := by
  unfold preL postL has10 at *
  induction l with
  | nil => exact ⟨rfl, rfl⟩
  | cons x l ih =>
    rw [List.any_cons, Bool.or_eq_false_iff] at h
    have := ih h.2
    simp [h.1, this.1, this.2]
theorem pre_snoc {l : List Int} (x : Int) (h : has10 l = true) : preL (l ++ [x]) = preL l ∧ postL (l ++ [x]) = postL l ++ [x] := by
  unfold preL postL has10 at *
  induction l with
  | nil => simp at h
  | cons y l ih =>
    by_cases hy : y = 10
    · subst hy; simp
    · have hy2 : (y == 10) = false := by simpa using hy
      rw [List.any_cons, hy2, Bool.false_or] at h
      have := ih h
      simp [hy2, this.1, this.2]
theorem pre_snoc0 {l : List Int} (x : Int) (h : has10 l = false) (hx : is10 x = false) : preL (l ++ [x]) = preL l ++ [x] ∧ postL (l ++ [x]) = postL l := by
  have e1 := pre_all h
  have e2 := pre_all (l := l ++ [x]) (by rw [has10_snoc, h, hx]; rfl)
  exact ⟨by rw [e1.1, e2.1], by rw [e1.2, e2.2]⟩
theorem pre_snoc10 {l : List Int} (x : Int) (h : has10 l = false) (hx : is10 x = true) : preL (l ++ [x]) = preL l ∧ postL (l ++ [x]) = [] := by
  have e1 := pre_all h
  rw [e1.1]
  unfold preL postL has10 is10 at *
  clear e1
  induction l with
  | nil => simp [hx]
  | cons y l ih =>
    rw [List.any_cons, Bool.or_eq_false_iff] at h
    have := ih h.2
    simp [h.1, this.1, this.2]
theorem frac_snoc (l : List Int) (x : Int) : fracS (l ++ [x]) = if has10 l && !is10 x then fracS l ++ [x] else fracS l := by
  unfold fracS
  cases h : has10 l
  · rw [(pre_all h).2]
    cases hx : is10 x
    · rw [(pre_snoc0 x h hx).2, (pre_all h).2]; rfl
    · rw [(pre_snoc10 x h hx).2]; rfl
  · rw [(pre_snoc x h).2, List.filter_append]
    cases hx : is10 x <;> simp [hx]
theorem pts_snoc (l : List Int) (x : Int) : pts (l ++ [x]) = pts l + if is10 x then 1 else 0 := by
  unfold pts
  rw [List.countP_append]
  cases hx : is10 x <;> simp [hx]
theorem odd_snoc (l : List Int) (x : Int) : oddL (l ++ [x]) = (oddL l || !isAtom x) := by simp [oddL]
theorem pts_pos (l : List Int) : 0 < pts l ↔ has10 l = true := by
  unfold pts has10
  rw [List.countP_pos_iff, List.any_eq_true]
  rfl
theorem pts_post (l : List Int) (h : has10 l = true) : pts l = 1 + pts (postL l) := by
  unfold pts has10 postL at *
  induction l with
  | nil => simp at h
  | cons x l ih =>
    by_cases hx : x = 10
    · subst hx
      have e : is10 10 = true := rfl
      simp [e]; omega
    · have hx2 : (x == 10) = false := by simpa using hx
      have hx3 : is10 x = false := hx2
      rw [List.any_cons, hx2, Bool.false_or] at h
      have := ih h
      rw [List.countP_cons, hx3, this]
      simp [hx2]
theorem ofS_fin (b : Bool) (l : List Int) (ho : oddL l = false) : ofS b l = if 1 < pts l then (Dr.none, 6) else (⟨b, preL l, has10 l, fracS l⟩, 0) := by
  unfold ofS
  rw [ho]
  have e : (l.any fun x => x == 10) = has10 l := rfl
  have e2 : ((postL l).any fun x => x == 10) = has10 (postL l) := rfl
  rw [e, e2]
  simp only [Bool.false_eq_true, if_false]
  cases h : has10 l
  · have hp : ¬ 1 < pts l := by
      have := (pts_pos l).1
      rw [h] at this
      intro hh
      exact absurd (this (by omega)) (by simp)
    rw [if_neg hp]
    have := pre_all h
    simp [this.1, fracS, this.2]
  · have hq := pts_post l h
    have hr := pts_pos (postL l)
    cases h2 : has10 (postL l)
    · rw [h2] at hr
      have hp : ¬ 1 < pts l := by
        intro hh
        exact absurd (hr.1 (by omega)) (by simp)
      rw [if_neg hp]
      have : fracS l = postL l := by
        unfold fracS
        rw [List.filter_eq_self]
        intro x hx
        have := List.any_eq_false.1 h2 x hx
        simpa [is10] using this
      simp [this]
    · rw [h2] at hr
      have := hr.2 rfl
      have hp : 1 < pts l := by omega
      simp [hp]
theorem frac_len (l : List Int) : (fracS l).length ≤ l.length := by
  unfold fracS postL
  have h1 := List.length_filter_le (fun x => !is10 x) (l.dropWhile fun x => !(x == 10)).tail
  have h2 : (l.dropWhile fun x => !(x == 10)).length ≤ l.length := (List.dropWhile_sublist _).length_le
  simp only [List.length_tail] at h1
  omega
theorem pre_len (l : List Int) : (preL l).length ≤ l.length := (List.takeWhile_sublist _).length_le
theorem take_snoc (l : List Int) (k : Nat) (hk : k < l.length) : l.take (k + 1) = l.take k ++ [l.getD k 0] := by
  have e : l.getD k 0 = l[k] := by simp [List.getD, List.getElem?_eq_getElem hk]
  rw [List.take_succ_eq_append_getElem hk, e]

theorem OL.set_ {W : World} {B n c : Nat} {A : Option Addr} {l : List Int} (h : OL W B A n c l) {p : Addr} (hp : ∀ a, A = some a → a.block ≠ p.block) (u : Value) : OL (W.setCell p u) B A n c l := by
  refine h.grown (row := some p.block) ⟨rfl, rfl, rfl, by simp [World.setCell], fun k hk hne => Below.heap_setCell W p u k (fun e => hne (by rw [e]))⟩ (fun a ha e => hp a ha (Option.some.inj e))

/-- append in a region that draws. -/
theorem step_append_OL {ops : Array Oper} {o : Oper} {a : Act} {w : World} {K : Act → World → Prop} {Q : Exit → Act → World → Prop} {E : Prop} {A A2 : Option Addr} {n c n2 c2 : Nat} {l l2 : List Int}
    (B : Nat) (hg : o.guard = none) (s x : Operand)
    (hop : o.op = .call { callee := .builtin .append, args := #[s, x], argTypes := #[26, 26] }) (hs : a.eval s = .slice A n c) (hx : a.eval x = .slice A2 n2 c2)
    (h1 : OL w B A n c l) (h2 : IL w A2 n2 c2 l2) (hB : B ≤ w.heap.size) (hn : n + n2 ≤ 1000000000)
    (h : ∀ A' c' w', OL w' B A' (n + n2) c' (l ++ l2) → Below B w w' → (w.grownBy w' (Value.slice A n c).ownBlock ∧ (A' = A ∨ ∃ g, A' = some ⟨g, 0, none⟩ ∧ w.heap.size ≤ g)) → K (a.put o.dst (.slice A' (n + n2) c')) w') :
    if Region.wanted o (yielded ops a.tmps) = true then Oper.wp Tryz.prog o a w K Q else E := by
  have hw : Region.wanted o (yielded ops a.tmps) = true := by simp [Region.wanted, hg]
  rw [if_pos hw]
  obtain ⟨A', c', w', hr, h3, h4, h5, h6, h7⟩ := run_append_OV Tryz.underlying26 int_info rfl (by omega) o.type hB h1 h2 (ints_oneCell _ _) hn
  unfold Oper.wp
  simp [execOp, hop, resolve, invoke, builtin, hs, hx, hr, Result.andThen]
  exact h A' c' w' (by unfold OL; rw [List.map_append]; exact h3) h4 ⟨h5, h7⟩

theorem Fresh4.under {w0 W W' : World} {g B : Nat} {t : TypeId} {a b c d : Value} (h : Fresh4 w0 g t a b c d W) (hg : g < B) (hb : Below B W W') : Fresh4 w0 g t a b c d W' :=
  ⟨h.1, (hb.block g hg).trans h.2.1, Below.trans h.2.2 (hb.mono (by have := h.1; omega))⟩
theorem OL.blk {W : World} {B n c : Nat} {A : Option Addr} {l : List Int} (h : OL W B A n c l) (hn : 0 < n) : ∀ a, A = some a → B ≤ a.block ∧ a.block < W.heap.size := by
  intro a ha
  obtain ⟨a', ha', hb'⟩ := h.new hn
  obtain ⟨b, off, e, hb, _⟩ := h.il.2.2.2 hn
  subst ha
  obtain rfl := Option.some.inj ha'
  obtain rfl := Option.some.inj e
  exact ⟨hb', hb⟩
theorem size_setCell (W : World) (p : Addr) (u : Value) : (W.setCell p u).heap.size = W.heap.size := by simp [World.setCell]

section
variable {w W W1 W3 : World} {b : Bool} {m : List Int} {A1 A2 A3 : Option Addr} {n1 c1 n2 c2 n3 c3 : Nat}
end

theorem ofS_odd (b : Bool) {l : List Int} {k : Nat} (hk : k < l.length) (h : isAtom (l.getD k 0) = false) : ofS b l = (Dr.none, 1) := by
  have : oddL l = true := by
    unfold oddL
    rw [List.any_eq_true]
    have e : l.getD k 0 = l[k] := by simp [List.getD, List.getElem?_eq_getElem hk]
    exact ⟨l[k], List.getElem_mem hk, by rw [← e, h]; rfl⟩
  unfold ofS
  rw [this]; rfl

end Go.Proofs.YtjinbhnpcdlkiaaGreatDoor

