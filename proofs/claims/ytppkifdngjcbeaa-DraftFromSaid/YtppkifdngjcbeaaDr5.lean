/- The walk of the document's draft of atoms. No condition. -/
import Derived.Test.YtppkifdngjcbeaaDr4
import Derived.Deep.RegionLaw
import Derived.BigRegion
namespace Go.Proofs.Ytppkifdngjcbeaa
open Go.RowKit

def is10 (x : Int) : Bool := x == 10
def has10 (l : List Int) : Bool := l.any (· == 10)
def pts (l : List Int) : Nat := l.countP is10
def fracS (l : List Int) : List Int := (postL l).filter fun x => !is10 x

theorem has10_snoc (l : List Int) (x : Int) : has10 (l ++ [x]) = (has10 l || is10 x) := by simp [has10, is10]
theorem pre_all {l : List Int} (h : has10 l = false) : preL l = l ∧ postL l = [] := by
  unfold preL postL has10 at *
  induction l with
  | nil => exact ⟨rfl, rfl⟩
  | cons x l ih =>
    rw [List.any_cons, Bool.or_eq_false_iff] at h
    have := ih h.2
    simp [h.1, this.1, this.2]
theorem pre_snoc {l : List Int} (x : Int) (h : has10 l = true) : preL (l ++ [x]) = preL l ∧ postL (l ++ [x]) = postL l ++ [x] := by
  unfold preL postL has10 at *
  induction l with
  | nil => simp at h
  | cons y l ih =>
    by_cases hy : y = 10
    · subst hy; simp
    · have hy2 : (y == 10) = false := by simpa using hy
      rw [List.any_cons, hy2, Bool.false_or] at h
      have := ih h
      simp [hy2, this.1, this.2]
theorem pre_snoc0 {l : List Int} (x : Int) (h : has10 l = false) (hx : is10 x = false) : preL (l ++ [x]) = preL l ++ [x] ∧ postL (l ++ [x]) = postL l := by
  have e1 := pre_all h
  have e2 := pre_all (l := l ++ [x]) (by rw [has10_snoc, h, hx]; rfl)
  exact ⟨by rw [e1.1, e2.1], by rw [e1.2, e2.2]⟩
theorem pre_snoc10 {l : List Int} (x : Int) (h : has10 l = false) (hx : is10 x = true) : preL (l ++ [x]) = preL l ∧ postL (l ++ [x]) = [] := by
  have e1 := pre_all h
  rw [e1.1]
  unfold preL postL has10 is10 at *
  clear e1
  induction l with
  | nil => simp [hx]
  | cons y l ih =>
    rw [List.any_cons, Bool.or_eq_false_iff] at h
    have := ih h.2
    simp [h.1, this.1, this.2]
theorem frac_snoc (l : List Int) (x : Int) : fracS (l ++ [x]) = if has10 l && !is10 x then fracS l ++ [x] else fracS l := by
  unfold fracS
  cases h : has10 l
  · rw [(pre_all h).2]
    cases hx : is10 x
    · rw [(pre_snoc0 x h hx).2, (pre_all h).2]; rfl
    · rw [(pre_snoc10 x h hx).2]; rfl
  · rw [(pre_snoc x h).2, List.filter_append]
    cases hx : is10 x <;> simp [hx]
theorem pts_snoc (l : List Int) (x : Int) : pts (l ++ [x]) = pts l + if is10 x then 1 else 0 := by
  unfold pts
  rw [List.countP_append]
  cases hx : is10 x <;> simp [hx]
theorem odd_snoc (l : List Int) (x : Int) : oddL (l ++ [x]) = (oddL l || !isAtom x) := by simp [oddL]
theorem pts_pos (l : List Int) : 0 < pts l ↔ has10 l = true := by
  unfold pts has10
  rw [List.countP_pos_iff, List.any_eq_true]
  rfl
theorem pts_post (l : List Int) (h : has10 l = true) : pts l = 1 + pts (postL l) := by
  unfold pts has10 postL at *
  induction l with
  | nil => simp at h
  | cons x l ih =>
    by_cases hx : x = 10
    · subst hx
      have e : is10 10 = true := rfl
      simp [e]; omega
    · have hx2 : (x == 10) = false := by simpa using hx
      have hx3 : is10 x = false := hx2
      rw [List.any_cons, hx2, Bool.false_or] at h
      have := ih h
      rw [List.countP_cons, hx3, this]
      simp [hx2]
theorem ofS_fin (b : Bool) (l : List Int) (ho : oddL l = false) : ofS b l = if 1 < pts l then (Dr.none, 6) else (⟨b, preL l, has10 l, fracS l⟩, 0) := by
  unfold ofS
  rw [ho]
  have e : (l.any fun x => x == 10) = has10 l := rfl
  have e2 : ((postL l).any fun x => x == 10) = has10 (postL l) := rfl
  rw [e, e2]
  simp only [Bool.false_eq_true, if_false]
  cases h : has10 l
  · have hp : ¬ 1 < pts l := by
      have := (pts_pos l).1
      rw [h] at this
      intro hh
      exact absurd (this (by omega)) (by simp)
    rw [if_neg hp]
    have := pre_all h
    simp [this.1, fracS, this.2]
  · have hq := pts_post l h
    have hr := pts_pos (postL l)
    cases h2 : has10 (postL l)
    · rw [h2] at hr
      have hp : ¬ 1 < pts l := by
        intro hh
        exact absurd (hr.1 (by omega)) (by simp)
      rw [if_neg hp]
      have : fracS l = postL l := by
        unfold fracS
        rw [List.filter_eq_self]
        intro x hx
        have := List.any_eq_false.1 h2 x hx
        simpa [is10] using this
      simp [this]
    · rw [h2] at hr
      have := hr.2 rfl
      have hp : 1 < pts l := by omega
      simp [hp]
theorem frac_len (l : List Int) : (fracS l).length ≤ l.length := by
  unfold fracS postL
  have h1 := List.length_filter_le (fun x => !is10 x) (l.dropWhile fun x => !(x == 10)).tail
  have h2 : (l.dropWhile fun x => !(x == 10)).length ≤ l.length := (List.dropWhile_sublist _).length_le
  simp only [List.length_tail] at h1
  omega
theorem pre_len (l : List Int) : (preL l).length ≤ l.length := (List.takeWhile_sublist _).length_le
theorem take_snoc (l : List Int) (k : Nat) (hk : k < l.length) : l.take (k + 1) = l.take k ++ [l.getD k 0] := by
  have e : l.getD k 0 = l[k] := by simp [List.getD, List.getElem?_eq_getElem hk]
  rw [List.take_succ_eq_append_getElem hk, e]

theorem OL.set_ {W : World} {B n c : Nat} {A : Option Addr} {l : List Int} (h : OL W B A n c l) {p : Addr} (hp : ∀ a, A = some a → a.block ≠ p.block) (u : Value) : OL (W.setCell p u) B A n c l := by
  refine h.grown (row := some p.block) ⟨rfl, rfl, rfl, by simp [World.setCell], fun k hk hne => Below.heap_setCell W p u k (fun e => hne (by rw [e]))⟩ (fun a ha e => hp a ha (Option.some.inj e))

/-- append in a region that draws. -/
theorem step_append_OL {ops : Array Oper} {o : Oper} {a : Act} {w : World} {K : Act → World → Prop} {Q : Exit → Act → World → Prop} {E : Prop} {A A2 : Option Addr} {n c n2 c2 : Nat} {l l2 : List Int}
    (B : Nat) (hg : o.guard = none) (s x : Operand)
    (hop : o.op = .call { callee := .builtin .append, args := #[s, x], argTypes := #[23, 23] }) (hs : a.eval s = .slice A n c) (hx : a.eval x = .slice A2 n2 c2)
    (h1 : OL w B A n c l) (h2 : IL w A2 n2 c2 l2) (hB : B ≤ w.heap.size) (hn : n + n2 ≤ 1000000000)
    (h : ∀ A' c' w', OL w' B A' (n + n2) c' (l ++ l2) → Below B w w' → (w.grownBy w' (Value.slice A n c).ownBlock ∧ (A' = A ∨ ∃ g, A' = some ⟨g, 0, none⟩ ∧ w.heap.size ≤ g)) → K (a.put o.dst (.slice A' (n + n2) c')) w') :
    if Region.wanted o (yielded ops a.tmps) = true then Oper.wp Try.prog o a w K Q else E := by
  have hw : Region.wanted o (yielded ops a.tmps) = true := by simp [Region.wanted, hg]
  rw [if_pos hw]
  obtain ⟨A', c', w', hr, h3, h4, h5, h6, h7⟩ := run_append_OV Try.underlying23 int_info rfl (by omega) o.type hB h1 h2 (ints_oneCell _ _) hn
  unfold Oper.wp
  simp [execOp, hop, resolve, invoke, builtin, hs, hx, hr, Result.andThen]
  exact h A' c' w' (by unfold OL; rw [List.map_append]; exact h3) h4 ⟨h5, h7⟩

/-- What the loop holds. -/
structure OfAt (w : World) (b : Bool) (m : List Int) (A1 : Option Addr) (n1 c1 : Nat) (A2 : Option Addr) (n2 c2 : Nat) (W : World) : Prop where
  res : Fresh4 w w.heap.size 42 (.bool false) (.slice none 0 0) (.bool false) (.slice none 0 0) W
  own : Fresh4 w (w.heap.size + 1) 42 (.bool b) (.slice A1 n1 c1) (.bool (has10 m)) (.slice A2 n2 c2) W
  int : OL W (w.heap.size + 2) A1 n1 c1 (preL m)
  frac : OL W (w.heap.size + 2) A2 n2 c2 (fracS m)
  p1 : ∀ a, A1 = some a → w.heap.size + 2 ≤ a.block ∧ a.block < W.heap.size
  p2 : ∀ a, A2 = some a → w.heap.size + 2 ≤ a.block ∧ a.block < W.heap.size
  apart : ∀ a, A1 = some a → ∀ a2, A2 = some a2 → a.block ≠ a2.block
  none_ : has10 m = false → A2 = none

theorem Fresh4.under {w0 W W' : World} {g B : Nat} {t : TypeId} {a b c d : Value} (h : Fresh4 w0 g t a b c d W) (hg : g < B) (hb : Below B W W') : Fresh4 w0 g t a b c d W' :=
  ⟨h.1, (hb.block g hg).trans h.2.1, Below.trans h.2.2 (hb.mono (by have := h.1; omega))⟩
theorem OL.blk {W : World} {B n c : Nat} {A : Option Addr} {l : List Int} (h : OL W B A n c l) (hn : 0 < n) : ∀ a, A = some a → B ≤ a.block ∧ a.block < W.heap.size := by
  intro a ha
  obtain ⟨a', ha', hb'⟩ := h.new hn
  obtain ⟨b, off, e, hb, _⟩ := h.il.2.2.2 hn
  subst ha
  obtain rfl := Option.some.inj ha'
  obtain rfl := Option.some.inj e
  exact ⟨hb', hb⟩
theorem size_setCell (W : World) (p : Addr) (u : Value) : (W.setCell p u).heap.size = W.heap.size := by simp [World.setCell]

section
variable {w W W1 W3 : World} {b : Bool} {m : List Int} {A1 A2 A3 : Option Addr} {n1 c1 n2 c2 n3 c3 : Nat}
theorem OfAt.sep_ (h : OfAt w b m A1 n1 c1 A2 n2 c2 W) {x : Int} (hx : is10 x = true) : OfAt w b (m ++ [x]) A1 n1 c1 A2 n2 c2 (W.setCell ⟨w.heap.size + 1, 2, none⟩ (.bool true)) := by
  have e1 : has10 (m ++ [x]) = true := by rw [has10_snoc, hx]; simp
  have e2 : fracS (m ++ [x]) = fracS m := by rw [frac_snoc, hx]; simp
  have e3 : preL (m ++ [x]) = preL m := by
    cases hh : has10 m
    · exact (pre_snoc10 x hh hx).1
    · exact (pre_snoc x hh).1
  have d1 : ∀ a, A1 = some a → a.block ≠ (⟨w.heap.size + 1, 2, none⟩ : Addr).block := fun a ha => by have := (h.p1 a ha).1; simp; omega
  have d2 : ∀ a, A2 = some a → a.block ≠ (⟨w.heap.size + 1, 2, none⟩ : Addr).block := fun a ha => by have := (h.p2 a ha).1; simp; omega
  refine ⟨h.res.far (by simp) (by simp) _, ?_, by rw [e3]; exact h.int.set_ d1 _, by rw [e2]; exact h.frac.set_ d2 _, by rw [size_setCell]; exact h.p1, by rw [size_setCell]; exact h.p2, h.apart, by rw [e1]; intro hh; cases hh⟩
  rw [e1]; exact h.own.set2 _
theorem OfAt.frac_ (h : OfAt w b m A1 n1 c1 A2 n2 c2 W) {x : Int} (hs : has10 m = true) (hx : is10 x = false) (hb : Below W.heap.size W W1)
    (hO : OL W3 (w.heap.size + 2) A3 (n2 + 1) c3 (fracS m ++ [x])) (hB : Below (w.heap.size + 2) W1 W3) (hg : W1.grownBy W3 (Value.slice A2 n2 c2).ownBlock) (hn : A3 = A2 ∨ ∃ g, A3 = some ⟨g, 0, none⟩ ∧ W1.heap.size ≤ g) :
    OfAt w b (m ++ [x]) A1 n1 c1 A3 (n2 + 1) c3 (W3.setCell ⟨w.heap.size + 1, 3, none⟩ (.slice A3 (n2 + 1) c3)) := by
  have e1 : has10 (m ++ [x]) = true := by rw [has10_snoc, hs]; rfl
  have e2 : fracS (m ++ [x]) = fracS m ++ [x] := by rw [frac_snoc, hs, hx]; simp
  have e3 : preL (m ++ [x]) = preL m := (pre_snoc x hs).1
  have hblk := hO.blk (by omega)
  have hs1 := hb.size
  have hs3 := hB.size
  have d1 : ∀ a, A1 = some a → a.block ≠ (⟨w.heap.size + 1, 3, none⟩ : Addr).block := fun a ha => by have := (h.p1 a ha).1; simp; omega
  have d2 : ∀ a, A3 = some a → a.block ≠ (⟨w.heap.size + 1, 3, none⟩ : Addr).block := fun a ha => by have := (hblk a ha).1; simp; omega
  refine ⟨((h.res.call hb).under (by omega) hB).far (by simp) (by simp) _, ?_, ?_, by rw [e2]; exact hO.set_ d2 _, ?_, by rw [size_setCell]; exact hblk, ?_, by rw [e1]; intro hh; cases hh⟩
  · rw [e1, ← hs]; exact ((h.own.call hb).under (by omega) hB).set3 _
  · rw [e3]
    refine ((h.int.below hb).grown hg ?_).set_ d1 _
    intro a ha
    rcases A2 with _ | a2
    · simp [Value.ownBlock]
    · simpa [Value.ownBlock] using h.apart a ha a2 rfl
  · rw [size_setCell]
    intro a ha
    have := h.p1 a ha
    omega
  · intro a ha a3 ha3
    rcases hn with hn | ⟨g, hg1, hg2⟩
    · rw [hn] at ha3; exact h.apart a ha a3 ha3
    · rw [hg1] at ha3
      obtain rfl := Option.some.inj ha3
      have := h.p1 a ha
      simp; omega
theorem OfAt.int_ (h : OfAt w b m A1 n1 c1 A2 n2 c2 W) {x : Int} (hs : has10 m = false) (hx : is10 x = false) (hb : Below W.heap.size W W1)
    (hO : OL W3 (w.heap.size + 2) A3 (n1 + 1) c3 (preL m ++ [x])) (hB : Below (w.heap.size + 2) W1 W3) (hg : W1.grownBy W3 (Value.slice A1 n1 c1).ownBlock) :
    OfAt w b (m ++ [x]) A3 (n1 + 1) c3 A2 n2 c2 (W3.setCell ⟨w.heap.size + 1, 1, none⟩ (.slice A3 (n1 + 1) c3)) := by
  have e1 : has10 (m ++ [x]) = false := by rw [has10_snoc, hs, hx]; rfl
  have e2 : fracS (m ++ [x]) = fracS m := by rw [frac_snoc, hs]; simp
  have e3 : preL (m ++ [x]) = preL m ++ [x] := (pre_snoc0 x hs hx).1
  have hblk := hO.blk (by omega)
  have hs1 := hb.size
  have hs3 := hB.size
  have hA2 := h.none_ hs
  subst hA2
  have d2 : ∀ a, A3 = some a → a.block ≠ (⟨w.heap.size + 1, 1, none⟩ : Addr).block := fun a ha => by have := (hblk a ha).1; simp; omega
  refine ⟨((h.res.call hb).under (by omega) hB).far (by simp) (by simp) _, ?_, by rw [e3]; exact hO.set_ d2 _, ?_, by rw [size_setCell]; exact hblk, ?_, ?_, fun _ => rfl⟩
  · rw [e1, ← hs]; exact ((h.own.call hb).under (by omega) hB).set1 _
  · rw [e2]
    exact ((h.frac.below hb).grown hg (fun a ha => by cases ha)).set_ (fun a ha => by cases ha) _
  · intro a ha; cases ha
  · intro a _ a2 ha2; cases ha2
end

theorem ofS_odd (b : Bool) {l : List Int} {k : Nat} (hk : k < l.length) (h : isAtom (l.getD k 0) = false) : ofS b l = (Dr.none, 1) := by
  have : oddL l = true := by
    unfold oddL
    rw [List.any_eq_true]
    have e : l.getD k 0 = l[k] := by simp [List.getD, List.getElem?_eq_getElem hk]
    exact ⟨l[k], List.getElem_mem hk, by rw [← e, h]; rfl⟩
  unfold ofS
  rw [this]; rfl

set_option maxHeartbeats 2000000 in
theorem rof_any {A : Option Addr} {n c : Nat} {l : List Int} (b : Bool) (w : World) (h : IL w A n c l) (hl : I64 l) (hn : n ≤ 1000000) :
    Calls Try.prog 101 #[.bool b, .slice A n c] w (RDE w (ofS b l).1 (ofS b l).2) := by
  have hle := h.le
  have hcap := h.cap
  have hlen := Lib.hid h.len
  have hbx : Below w.heap.size w (w.alloc (.cells #[.bool false, .slice none 0 0, .bool false, .slice none 0 0] 42)) := (Below.refl _ _).alloc (Nat.le_refl _) _
  generalize hD : ofS b l = D
  have HD := Lib.hid hD
  clear hD
  go_enter Try.func101, Try.ntmps101
  go_wp2_with fail
  go_loopw [7, 8] (fun q i wr => ∃ (k : Nat) (A1 : Option Addr) (n1 c1 : Nat) (A2 : Option Addr) (n2 c2 : Nat), k ≤ n ∧ i = .int .i64 k ∧ q = .int .i64 (pts (l.take k)) ∧ Hid (oddL (l.take k) = false) ∧ OfAt w b (l.take k) A1 n1 c1 A2 n2 c2 wr)
    (fun _ i _ => n - (intOf i).toNat)
  case atStart =>
    refine ⟨0, none, 0, 0, none, 0, 0, Nat.zero_le _, rfl, rfl, rfl, ⟨?_, ?_, OL.nil _ _, OL.nil _ _, fun a ha => (by cases ha), fun a ha => (by cases ha), fun a ha => (by cases ha), fun _ => rfl⟩⟩
    · exact (Fresh4.made w w _ _ _ _ _ (Later.refl w) _ rfl).alloc _
    · exact Fresh4.made w _ _ _ _ _ _ ((Later.refl w).alloc _) _ (by simp)
  case round =>
    obtain ⟨k, A1, n1, c1, A2, n2, c2, hk, rfl, rfl, ho, hS⟩ := hrel
    obtain ⟨⟨r0, r1, r2, r3⟩, ⟨s0, s1, s2, s3⟩⟩ := hS.res.cells
    obtain ⟨⟨c0, c1', c2', c3⟩, ⟨f0, f1, f2, f3⟩⟩ := hS.own.cells
    have hsz := hS.own.2.2.size
    by_cases hlt : k < n
    · have hT := Lib.hid (take_snoc l k (by rw [hlen.out]; exact hlt))
      have hodd := Lib.hid (fun hh => ofS_odd b (l := l) (k := k) (by rw [hlen.out]; exact hlt) hh)
      obtain ⟨bb, off, rfl, hc⟩ := (h.later hS.own.2.2).at_ hlt
      have hx := hl.getD k
      have hml : (l.take k).length ≤ n := by have := hlen.out; rw [List.length_take]; omega
      generalize hm : l.take k = m at *
      clear hm
      generalize hxe : l.getD k 0 = x at *
      clear hxe
      have hbw : Below w.heap.size w wr := hS.own.2.2
      have HS := Lib.hid hS
      clear hS
      have hws : w.heap.size + 2 ≤ wr.heap.size := HS.out.own.lt
      by_cases hx0 : x < 0
      · have hat : isAtom x = false := by simp [isAtom]; omega
        have HD2 := Lib.hid (HD.out.symm.trans (hodd.out hat))
        clear hat
        go_wp2_with fail
        rw [HD2.out]
        obtain ⟨⟨z0, z1, z2, z3⟩, _⟩ := (HS.out.res.store (.bool false) (.slice none 0 0) (.bool false) (.slice none 0 0)).cells
        exact bodyPost_ret (v := .tuple #[.agg #[.bool false, .slice none 0 0, .bool false, .slice none 0 0], .int .i64 1]) (by generalize World.setCell (World.setCell (World.setCell (World.setCell _ _ _) _ _) _ _) _ _ = W3 at z0 z1 z2 z3 ⊢; simp [results, Try.results101, go_sem, z0, z1, z2, z3]) rfl
          ⟨none, 0, 0, none, 0, 0, rfl, IL.nil _, IL.nil _, below_set4 hbw (Nat.le_refl _) _ _ _ _, none_newer _, none_newer _⟩
      · by_cases hx1 : 10 < x
        · have hat : isAtom x = false := by simp [isAtom]; omega
          have HD2 := Lib.hid (HD.out.symm.trans (hodd.out hat))
          clear hat
          go_wp2_with fail
          rw [HD2.out]
          obtain ⟨⟨z0, z1, z2, z3⟩, _⟩ := (HS.out.res.store (.bool false) (.slice none 0 0) (.bool false) (.slice none 0 0)).cells
          exact bodyPost_ret (v := .tuple #[.agg #[.bool false, .slice none 0 0, .bool false, .slice none 0 0], .int .i64 1]) (by generalize World.setCell (World.setCell (World.setCell (World.setCell _ _ _) _ _) _ _) _ _ = W3 at z0 z1 z2 z3 ⊢; simp [results, Try.results101, go_sem, z0, z1, z2, z3]) rfl
            ⟨none, 0, 0, none, 0, 0, rfl, IL.nil _, IL.nil _, below_set4 hbw (Nat.le_refl _) _ _ _ _, none_newer _, none_newer _⟩
        · have hat : isAtom x = true := by simp [isAtom]; omega
          have hod : Hid (oddL (m ++ [x]) = false) := by rw [Hid, odd_snoc, ho.out, hat]; rfl
          clear hat
          have hpt := Lib.hid (pts_snoc m x)
          by_cases hx2 : x = 10
          · subst hx2
            have hpb : pts m ≤ 1000000 := Nat.le_trans List.countP_le_length (by omega)
            go_wp2_with fail
            go_roundw
            case rel => exact ⟨k + 1, A1, n1, c1, A2, n2, c2, by omega, by go_num, by rw [hT.out, hpt.out]; rfl, by rw [Hid, hT.out]; exact hod.out, by rw [hT.out]; exact HS.out.sep_ rfl⟩
            case measure => simp [intOf]; omega
          · have hne : (x == 10) = false := by simpa using hx2
            have hne2 : decide (x = 10) = false := by simpa using hx2
            have hd1 : decide (x < 0) = false := by simpa using hx0
            have hd2 : decide (10 < x) = false := by simpa using hx1
            have hi10 : Hid (is10 x = false) := hne
            cases hs : has10 m
            · have HSF := Lib.hid hs
              rw [hs] at c2'
              have hO1 := HS.out.int
              have hn1 : n1 ≤ 1000000 := by have := hO1.len; have := pre_len m; omega
              have hal := fun o => (HS.out.own.alloc o).cells.1.2.1
              go_wp2_with fail
              go_region_law (refine step_append_OL (w.heap.size + 2) rfl (.tmp 50) (.tmp 55) rfl rfl rfl (OL.drew (hO1.alloc _)) (IL.drew (IL.one _ _ _)) (by simp; omega) (by omega) ?_; intro A3 c3 w3 hO3 hB3 hg3; obtain ⟨⟨_, y1, _, _⟩, ⟨_, y2, _, _⟩⟩ := ((HS.out.own.alloc _).drew.under (by omega) hB3).cells)
              all_goals
                go_wp2_with fail
                go_roundw
                case rel => exact ⟨k + 1, A3, n1 + 1, c3, A2, n2, c2, by omega, by go_num, by rw [hT.out, hpt.out, hi10.out]; rfl, by rw [Hid, hT.out]; exact hod.out, by rw [hT.out]; exact HS.out.int_ HSF.out hi10.out (((Below.refl _ _).alloc (Nat.le_refl _) _).drew) hO3 hB3 hg3.1⟩
                case measure => simp [intOf]; omega
            · have HSF := Lib.hid hs
              rw [hs] at c2'
              have hO2 := HS.out.frac
              have hn2 : n2 ≤ 1000000 := by have := hO2.len; have := frac_len m; omega
              have hal := fun o => (HS.out.own.alloc o).cells.1.2.2.2
              go_wp2_with fail
              go_region_law (refine step_append_OL (w.heap.size + 2) rfl (.tmp 41) (.tmp 46) rfl rfl rfl (OL.drew (hO2.alloc _)) (IL.drew (IL.one _ _ _)) (by simp; omega) (by omega) ?_; intro A3 c3 w3 hO3 hB3 hg3; obtain ⟨⟨_, _, _, y1⟩, ⟨_, _, _, y2⟩⟩ := ((HS.out.own.alloc _).drew.under (by omega) hB3).cells)
              all_goals
                go_wp2_with fail
                go_roundw
                case rel => exact ⟨k + 1, A1, n1, c1, A3, n2 + 1, c3, by omega, by go_num, by rw [hT.out, hpt.out, hi10.out]; rfl, by rw [Hid, hT.out]; exact hod.out, by rw [hT.out]; exact HS.out.frac_ HSF.out hi10.out (((Below.refl _ _).alloc (Nat.le_refl _) _).drew) hO3 hB3 hg3.1 hg3.2⟩
                case measure => simp [intOf]; omega
    · have hkn : k = n := by omega
      subst hkn
      have htl : l.take k = l := List.take_of_length_le (by rw [hlen.out]; omega)
      rw [htl] at hS ho c2'
      have hfin := ofS_fin b l ho.out
      have hbw : Below w.heap.size w wr := hS.own.2.2
      have hPT : Hid (pts (l.take k) = pts l) := by rw [Hid, htl]
      have hpb : pts l ≤ 1000000 := Nat.le_trans List.countP_le_length (by rw [hlen.out]; omega)
      rw [hPT.out]
      by_cases hp : 1 < pts l
      · rw [if_pos hp] at hfin
        have HD2 := Lib.hid (HD.out.symm.trans hfin)
        have HS := Lib.hid hS
        generalize pts l = pl at *
        clear hS hfin htl
        go_wp2_with fail
        rw [HD2.out]
        obtain ⟨⟨z0, z1, z2, z3⟩, _⟩ := (HS.out.res.store (.bool false) (.slice none 0 0) (.bool false) (.slice none 0 0)).cells
        exact bodyPost_ret (v := .tuple #[.agg #[.bool false, .slice none 0 0, .bool false, .slice none 0 0], .int .i64 6]) (by generalize World.setCell (World.setCell (World.setCell (World.setCell _ _ _) _ _) _ _) _ _ = W3 at z0 z1 z2 z3 ⊢; simp [results, Try.results101, go_sem, z0, z1, z2, z3]) rfl
          ⟨none, 0, 0, none, 0, 0, rfl, IL.nil _, IL.nil _, below_set4 hbw (Nat.le_refl _) _ _ _ _, none_newer _, none_newer _⟩
      · rw [if_neg hp] at hfin
        have HD2 := Lib.hid (HD.out.symm.trans hfin)
        have HS := Lib.hid hS
        generalize pts l = pl at *
        clear hS hfin htl
        go_wp2_with fail
        rw [HD2.out]
        have q1 : 0 < n1 → ∀ a, A1 = some a → a.block ≠ w.heap.size := fun _ a ha => by have := (HS.out.p1 a ha).1; omega
        have q2 : 0 < n2 → ∀ a, A2 = some a → a.block ≠ w.heap.size := fun _ a ha => by have := (HS.out.p2 a ha).1; omega
        obtain ⟨⟨z0, z1, z2, z3⟩, _⟩ := (HS.out.res.store (.bool b) (.slice A1 n1 c1) (.bool (has10 l)) (.slice A2 n2 c2)).cells
        exact bodyPost_ret (v := .tuple #[.agg #[.bool b, .slice A1 n1 c1, .bool (has10 l), .slice A2 n2 c2], .int .i64 0]) (by generalize World.setCell (World.setCell (World.setCell (World.setCell _ _ _) _ _) _ _) _ _ = W3 at z0 z1 z2 z3 ⊢; simp [results, Try.results101, go_sem, z0, z1, z2, z3]) rfl
          ⟨A1, n1, c1, A2, n2, c2, rfl, HS.out.int.il.set4 q1 _ _ _ _, HS.out.frac.il.set4 q2 _ _ _ _, below_set4 hbw (Nat.le_refl _) _ _ _ _, HS.out.int.newer (by omega), HS.out.frac.newer (by omega)⟩

end Go.Proofs.Ytppkifdngjcbeaa
