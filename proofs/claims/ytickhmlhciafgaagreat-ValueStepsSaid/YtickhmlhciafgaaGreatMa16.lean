/- The walk of the document's parsing of a decimal. No condition. -/
import Derived.Test.YtickhmlhciafgaaGreatMa15
import Derived.Deep.RegionLaw
import Derived.BigRegion
import Derived.Test.YtickhmlhciafgaaGreatMa11
namespace Go.Proofs.YtickhmlhciafgaaGreat
open Go.RowKit

def is10 (x : Int) : Bool := x == 10
def has10 (l : List Int) : Bool := l.any (· == 10)
def pts (l : List Int) : Nat := l.countP is10
def fracS (l : List Int) : List Int := (postL l).filter fun x => !is10 x

theorem has10_snoc (l : List Int) (x : Int) : has10 (l ++ [x]) = (has10 l || is10 x) := by simp [has10, is10]
theorem pre_all {l : List Int} (h : has10 l = false) : preL l = l ∧ postL l = [] := by
  unfold preL postL has10 at *
  induction l with
  | nil => exact ⟨rfl, rfl⟩
  | cons x l ih =>
    rw [List.any_cons, Bool.or_eq_false_iff] at h
    have := ih h.2
    simp [h.1, this.1, this.2]
theorem pre_snoc {l : List Int} (x : Int) (h : has10 l = true) : preL (l ++ [x]) = preL l ∧ postL (l ++ [x]) = postL l ++ [x] := by
  unfold preL postL has10 at *
  induction l with
  | nil => simp at h
  | cons y l ih =>
    by_cases hy : y = 10
    · subst hy; simp
    · have hy2 : (y == 10) = false := by simpa using hy
      rw [List.any_cons, hy2, Bool.false_or] at h
      have := ih h
      simp [hy2, this.1, this.2]
theorem pre_snoc0 {l : List Int} (x : Int) (h : has10 l = false) (hx : is10 x = false) : preL (l ++ [x]) = preL l ++ [x] ∧ postL (l ++ [x]) = postL l := by
  have e1 := pre_all h
  have e2 := pre_all (l := l ++ [x]) (by rw [has10_snoc, h, hx]; rfl)
  exact ⟨by rw [e1.1, e2.1], by rw [e1.2, e2.2]⟩
theorem pre_snoc10 {l : List Int} (x : Int) (h : has10 l = false) (hx : is10 x = true) : preL (l ++ [x]) = preL l ∧ postL (l ++ [x]) = [] := by
  have e1 := pre_all h
  rw [e1.1]
  unfold preL postL has10 is10 at *
  clear e1
  induction l with
  | nil => simp [hx]
  | cons y l ih =>
    rw [List.any_cons, Bool.or_eq_false_iff] at h
    have := ih h.2
    simp [h.1, this.1, this.2]
theorem frac_snoc (l : List Int) (x : Int) : fracS (l ++ [x]) = if has10 l && !is10 x then fracS l ++ [x] else fracS l := by
  unfold fracS
  cases h : has10 l
  · rw [(pre_all h).2]
    cases hx : is10 x
    · rw [(pre_snoc0 x h hx).2, (pre_all h).2]; rfl
    · rw [(pre_snoc10 x h hx).2]; rfl
  · rw [(pre_snoc x h).2, List.filter_append]
    cases hx : is10 x <;> simp [hx]
theorem pts_snoc (l : List Int) (x : Int) : pts (l ++ [x]) = pts l + if is10 x then 1 else 0 := by
  unfold pts
  rw [List.countP_append]
  cases hx : is10 x <;> simp [hx]
theorem odd_snoc (l : List Int) (x : Int) : oddL (l ++ [x]) = (oddL l || !isAtom x) := by simp [oddL]
theorem pts_pos (l : List Int) : 0 < pts l ↔ has10 l = true := by
  unfold pts has10
  rw [List.countP_pos_iff, List.any_eq_true]
  rfl
theorem pts_post (l : List Int) (h : has10 l = true) : pts l = 1 + pts (postL l) := by
  unfold pts has10 postL at *
  induction l with
  | nil => simp at h
  | cons x l ih =>
    by_cases hx : x = 10
    · subst hx
      have e : is10 10 = true := rfl
      simp [e]; omega
    · have hx2 : (x == 10) = false := by simpa using hx
      have hx3 : is10 x = false := hx2
      rw [List.any_cons, hx2, Bool.false_or] at h
      have := ih h
      rw [List.countP_cons, hx3, this]
      simp [hx2]
theorem ofS_fin (b : Bool) (l : List Int) (ho : oddL l = false) : ofS b l = if 1 < pts l then (Dr.none, 6) else (⟨b, preL l, has10 l, fracS l⟩, 0) := by
  unfold ofS
  rw [ho]
  have e : (l.any fun x => x == 10) = has10 l := rfl
  have e2 : ((postL l).any fun x => x == 10) = has10 (postL l) := rfl
  rw [e, e2]
  simp only [Bool.false_eq_true, if_false]
  cases h : has10 l
  · have hp : ¬ 1 < pts l := by
      have := (pts_pos l).1
      rw [h] at this
      intro hh
      exact absurd (this (by omega)) (by simp)
    rw [if_neg hp]
    have := pre_all h
    simp [this.1, fracS, this.2]
  · have hq := pts_post l h
    have hr := pts_pos (postL l)
    cases h2 : has10 (postL l)
    · rw [h2] at hr
      have hp : ¬ 1 < pts l := by
        intro hh
        exact absurd (hr.1 (by omega)) (by simp)
      rw [if_neg hp]
      have : fracS l = postL l := by
        unfold fracS
        rw [List.filter_eq_self]
        intro x hx
        have := List.any_eq_false.1 h2 x hx
        simpa [is10] using this
      simp [this]
    · rw [h2] at hr
      have := hr.2 rfl
      have hp : 1 < pts l := by omega
      simp [hp]
theorem frac_len (l : List Int) : (fracS l).length ≤ l.length := by
  unfold fracS postL
  have h1 := List.length_filter_le (fun x => !is10 x) (l.dropWhile fun x => !(x == 10)).tail
  have h2 : (l.dropWhile fun x => !(x == 10)).length ≤ l.length := (List.dropWhile_sublist _).length_le
  simp only [List.length_tail] at h1
  omega
theorem pre_len (l : List Int) : (preL l).length ≤ l.length := (List.takeWhile_sublist _).length_le
theorem take_snoc (l : List Int) (k : Nat) (hk : k < l.length) : l.take (k + 1) = l.take k ++ [l.getD k 0] := by
  have e : l.getD k 0 = l[k] := by simp [List.getD, List.getElem?_eq_getElem hk]
  rw [List.take_succ_eq_append_getElem hk, e]

theorem OL.set_ {W : World} {B n c : Nat} {A : Option Addr} {l : List Int} (h : OL W B A n c l) {p : Addr} (hp : ∀ a, A = some a → a.block ≠ p.block) (u : Value) : OL (W.setCell p u) B A n c l := by
  refine h.grown (row := some p.block) ⟨rfl, rfl, rfl, by simp [World.setCell], fun k hk hne => Below.heap_setCell W p u k (fun e => hne (by rw [e]))⟩ (fun a ha e => hp a ha (Option.some.inj e))

/-- append in a region that draws. -/
theorem step_append_OL {ops : Array Oper} {o : Oper} {a : Act} {w : World} {K : Act → World → Prop} {Q : Exit → Act → World → Prop} {E : Prop} {A A2 : Option Addr} {n c n2 c2 : Nat} {l l2 : List Int}
    (B : Nat) (hg : o.guard = none) (s x : Operand)
    (hop : o.op = .call { callee := .builtin .append, args := #[s, x], argTypes := #[22, 22] }) (hs : a.eval s = .slice A n c) (hx : a.eval x = .slice A2 n2 c2)
    (h1 : OL w B A n c l) (h2 : IL w A2 n2 c2 l2) (hB : B ≤ w.heap.size) (hn : n + n2 ≤ 1000000000)
    (h : ∀ A' c' w', OL w' B A' (n + n2) c' (l ++ l2) → Below B w w' → (w.grownBy w' (Value.slice A n c).ownBlock ∧ (A' = A ∨ ∃ g, A' = some ⟨g, 0, none⟩ ∧ w.heap.size ≤ g)) → K (a.put o.dst (.slice A' (n + n2) c')) w') :
    if Region.wanted o (yielded ops a.tmps) = true then Oper.wp Tryz.prog o a w K Q else E := by
  have hw : Region.wanted o (yielded ops a.tmps) = true := by simp [Region.wanted, hg]
  rw [if_pos hw]
  obtain ⟨A', c', w', hr, h3, h4, h5, h6, h7⟩ := run_append_OV Tryz.underlying22 int_info rfl (by omega) o.type hB h1 h2 (ints_oneCell _ _) hn
  unfold Oper.wp
  simp [execOp, hop, resolve, invoke, builtin, hs, hx, hr, Result.andThen]
  exact h A' c' w' (by unfold OL; rw [List.map_append]; exact h3) h4 ⟨h5, h7⟩

/-- What the loop holds. -/
structure OfAt (w : World) (b : Bool) (m : List Int) (A1 : Option Addr) (n1 c1 : Nat) (A2 : Option Addr) (n2 c2 : Nat) (W : World) : Prop where
  res : Fresh4 w w.heap.size 64 (.bool false) (.slice none 0 0) (.bool false) (.slice none 0 0) W
  own : Fresh4 w (w.heap.size + 1) 64 (.bool b) (.slice A1 n1 c1) (.bool (has10 m)) (.slice A2 n2 c2) W
  int : OL W (w.heap.size + 2) A1 n1 c1 (preL m)
  frac : OL W (w.heap.size + 2) A2 n2 c2 (fracS m)
  p1 : ∀ a, A1 = some a → w.heap.size + 2 ≤ a.block ∧ a.block < W.heap.size
  p2 : ∀ a, A2 = some a → w.heap.size + 2 ≤ a.block ∧ a.block < W.heap.size
  apart : ∀ a, A1 = some a → ∀ a2, A2 = some a2 → a.block ≠ a2.block
  none_ : has10 m = false → A2 = none

theorem Fresh4.under {w0 W W' : World} {g B : Nat} {t : TypeId} {a b c d : Value} (h : Fresh4 w0 g t a b c d W) (hg : g < B) (hb : Below B W W') : Fresh4 w0 g t a b c d W' :=
  ⟨h.1, (hb.block g hg).trans h.2.1, Below.trans h.2.2 (hb.mono (by have := h.1; omega))⟩
theorem OL.blk {W : World} {B n c : Nat} {A : Option Addr} {l : List Int} (h : OL W B A n c l) (hn : 0 < n) : ∀ a, A = some a → B ≤ a.block ∧ a.block < W.heap.size := by
  intro a ha
  obtain ⟨a', ha', hb'⟩ := h.new hn
  obtain ⟨b, off, e, hb, _⟩ := h.il.2.2.2 hn
  subst ha
  obtain rfl := Option.some.inj ha'
  obtain rfl := Option.some.inj e
  exact ⟨hb', hb⟩
theorem size_setCell (W : World) (p : Addr) (u : Value) : (W.setCell p u).heap.size = W.heap.size := by simp [World.setCell]

section
variable {w W W1 W3 : World} {b : Bool} {m : List Int} {A1 A2 A3 : Option Addr} {n1 c1 n2 c2 n3 c3 : Nat}
theorem OfAt.sep_ (h : OfAt w b m A1 n1 c1 A2 n2 c2 W) {x : Int} (hx : is10 x = true) : OfAt w b (m ++ [x]) A1 n1 c1 A2 n2 c2 (W.setCell ⟨w.heap.size + 1, 2, none⟩ (.bool true)) := by
  have e1 : has10 (m ++ [x]) = true := by rw [has10_snoc, hx]; simp
  have e2 : fracS (m ++ [x]) = fracS m := by rw [frac_snoc, hx]; simp
  have e3 : preL (m ++ [x]) = preL m := by
    cases hh : has10 m
    · exact (pre_snoc10 x hh hx).1
    · exact (pre_snoc x hh).1
  have d1 : ∀ a, A1 = some a → a.block ≠ (⟨w.heap.size + 1, 2, none⟩ : Addr).block := fun a ha => by have := (h.p1 a ha).1; simp; omega
  have d2 : ∀ a, A2 = some a → a.block ≠ (⟨w.heap.size + 1, 2, none⟩ : Addr).block := fun a ha => by have := (h.p2 a ha).1; simp; omega
  refine ⟨h.res.far (by simp) (by simp) _, ?_, by rw [e3]; exact h.int.set_ d1 _, by rw [e2]; exact h.frac.set_ d2 _, by rw [size_setCell]; exact h.p1, by rw [size_setCell]; exact h.p2, h.apart, by rw [e1]; intro hh; cases hh⟩
  rw [e1]; exact h.own.set2 _
theorem OfAt.frac_ (h : OfAt w b m A1 n1 c1 A2 n2 c2 W) {x : Int} (hs : has10 m = true) (hx : is10 x = false) (hb : Below W.heap.size W W1)
    (hO : OL W3 (w.heap.size + 2) A3 (n2 + 1) c3 (fracS m ++ [x])) (hB : Below (w.heap.size + 2) W1 W3) (hg : W1.grownBy W3 (Value.slice A2 n2 c2).ownBlock) (hn : A3 = A2 ∨ ∃ g, A3 = some ⟨g, 0, none⟩ ∧ W1.heap.size ≤ g) :
    OfAt w b (m ++ [x]) A1 n1 c1 A3 (n2 + 1) c3 (W3.setCell ⟨w.heap.size + 1, 3, none⟩ (.slice A3 (n2 + 1) c3)) := by
  have e1 : has10 (m ++ [x]) = true := by rw [has10_snoc, hs]; rfl
  have e2 : fracS (m ++ [x]) = fracS m ++ [x] := by rw [frac_snoc, hs, hx]; simp
  have e3 : preL (m ++ [x]) = preL m := (pre_snoc x hs).1
  have hblk := hO.blk (by omega)
  have hs1 := hb.size
  have hs3 := hB.size
  have d1 : ∀ a, A1 = some a → a.block ≠ (⟨w.heap.size + 1, 3, none⟩ : Addr).block := fun a ha => by have := (h.p1 a ha).1; simp; omega
  have d2 : ∀ a, A3 = some a → a.block ≠ (⟨w.heap.size + 1, 3, none⟩ : Addr).block := fun a ha => by have := (hblk a ha).1; simp; omega
  refine ⟨((h.res.call hb).under (by omega) hB).far (by simp) (by simp) _, ?_, ?_, by rw [e2]; exact hO.set_ d2 _, ?_, by rw [size_setCell]; exact hblk, ?_, by rw [e1]; intro hh; cases hh⟩
  · rw [e1, ← hs]; exact ((h.own.call hb).under (by omega) hB).set3 _
  · rw [e3]
    refine ((h.int.below hb).grown hg ?_).set_ d1 _
    intro a ha
    rcases A2 with _ | a2
    · simp [Value.ownBlock]
    · simpa [Value.ownBlock] using h.apart a ha a2 rfl
  · rw [size_setCell]
    intro a ha
    have := h.p1 a ha
    omega
  · intro a ha a3 ha3
    rcases hn with hn | ⟨g, hg1, hg2⟩
    · rw [hn] at ha3; exact h.apart a ha a3 ha3
    · rw [hg1] at ha3
      obtain rfl := Option.some.inj ha3
      have := h.p1 a ha
      simp; omega
theorem OfAt.int_ (h : OfAt w b m A1 n1 c1 A2 n2 c2 W) {x : Int} (hs : has10 m = false) (hx : is10 x = false) (hb : Below W.heap.size W W1)
    (hO : OL W3 (w.heap.size + 2) A3 (n1 + 1) c3 (preL m ++ [x])) (hB : Below (w.heap.size + 2) W1 W3) (hg : W1.grownBy W3 (Value.slice A1 n1 c1).ownBlock) :
    OfAt w b (m ++ [x]) A3 (n1 + 1) c3 A2 n2 c2 (W3.setCell ⟨w.heap.size + 1, 1, none⟩ (.slice A3 (n1 + 1) c3)) := by
  have e1 : has10 (m ++ [x]) = false := by rw [has10_snoc, hs, hx]; rfl
  have e2 : fracS (m ++ [x]) = fracS m := by rw [frac_snoc, hs]; simp
  have e3 : preL (m ++ [x]) = preL m ++ [x] := (pre_snoc0 x hs hx).1
  have hblk := hO.blk (by omega)
  have hs1 := hb.size
  have hs3 := hB.size
  have hA2 := h.none_ hs
  subst hA2
  have d2 : ∀ a, A3 = some a → a.block ≠ (⟨w.heap.size + 1, 1, none⟩ : Addr).block := fun a ha => by have := (hblk a ha).1; simp; omega
  refine ⟨((h.res.call hb).under (by omega) hB).far (by simp) (by simp) _, ?_, by rw [e3]; exact hO.set_ d2 _, ?_, by rw [size_setCell]; exact hblk, ?_, ?_, fun _ => rfl⟩
  · rw [e1, ← hs]; exact ((h.own.call hb).under (by omega) hB).set1 _
  · rw [e2]
    exact ((h.frac.below hb).grown hg (fun a ha => by cases ha)).set_ (fun a ha => by cases ha) _
  · intro a ha; cases ha
  · intro a _ a2 ha2; cases ha2
end

theorem ofS_odd (b : Bool) {l : List Int} {k : Nat} (hk : k < l.length) (h : isAtom (l.getD k 0) = false) : ofS b l = (Dr.none, 1) := by
  have : oddL l = true := by
    unfold oddL
    rw [List.any_eq_true]
    have e : l.getD k 0 = l[k] := by simp [List.getD, List.getElem?_eq_getElem hk]
    exact ⟨l[k], List.getElem_mem hk, by rw [← e, h]; rfl⟩
  unfold ofS
  rw [this]; rfl

end Go.Proofs.YtickhmlhciafgaaGreat


namespace Go.Proofs.YtickhmlhciafgaaGreat
open Go.RowKit

theorem neg_nil {s : ByteArray} (h : s.size = 0) : negB s.data.toList = false ∧ bodyB s.data.toList = s.data.toList := by
  have : s.data.toList = [] := List.eq_nil_of_length_eq_zero (by rw [Array.length_toList]; exact h)
  rw [this]
  exact ⟨rfl, rfl⟩
theorem neg_at {s : ByteArray} (h : 0 < s.size) : negB s.data.toList = (s[0] == 45) := by
  have : s.data.toList.head? = some s[0] := by
    rw [List.head?_eq_getElem?, List.getElem?_eq_getElem (by rw [Array.length_toList]; exact h)]; rfl
  unfold negB
  rw [this]
  rfl
/-- Where the document's parsing is: behind the first k bytes of the body p. -/
def PzAt (w : World) (nb : Bool) (q : List UInt8) (A : Option Addr) (n c : Nat) (W : World) : Prop :=
  Blk w w.heap.size 24 #[.bool false, .slice none 0 0, .int .i64 0] W ∧ Blk w (w.heap.size + 1) 24 #[.bool nb, .slice A n c, .int .i64 ((restB q).length : Int)] W ∧
    OL W (w.heap.size + 2) A n c (digsOf (wholeB q ++ restB q)) ∧ Hid (okB q = true)
set_option maxHeartbeats 4000000 in
theorem rcparse_any (s : ByteArray) (w : World) (hs : s.size ≤ 100000) :
    Calls Tryz.prog 85 #[.string s] w (RCE w (parseS s.data.toList).1 (parseS s.data.toList).2) := by
  have hlen : s.data.toList.length = s.size := Array.length_toList
  have hD0 := Blk.made w (w.alloc (.cells #[.bool false, .slice none 0 0, .int .i64 0] 24)) 24 #[.bool false, .slice none 0 0, .int .i64 0] ((Later.refl w).alloc _) (w.heap.size + 1) (by simp)
  have hR0 := (Blk.made w w 24 #[.bool false, .slice none 0 0, .int .i64 0] (Later.refl w) _ rfl).alloc (.cells #[.bool false, .slice none 0 0, .int .i64 0] 24)
  obtain ⟨o, ho⟩ : ∃ o : Nat, Hid (o = if negB s.data.toList then 1 else 0) := ⟨_, rfl⟩
  obtain ⟨nb, hnb⟩ : ∃ nb : Bool, Hid (nb = negB s.data.toList) := ⟨_, rfl⟩
  have hos : o ≤ s.size := by
    rw [ho.out]
    split
    · rename_i h
      rcases Nat.eq_zero_or_pos s.size with h0 | h0
      · rw [(neg_nil h0).1] at h; cases h
      · omega
    · omega
  have hbody : Hid (bodyB s.data.toList = s.data.toList.drop o) := by
    rw [Hid, bodyB, ho.out]; split <;> simp
  generalize hDD : parseS s.data.toList = D
  have HD : Hid (D = parseB nb (s.data.toList.drop o)) := by rw [Hid, ← hDD, parseS, hbody.out, hnb.out]
  clear hDD
  go_enter Tryz.func85, Tryz.ntmps85
  go_upto_region 3 with fail
  generalize World.alloc (World.alloc w _) _ = w1 at *
  obtain ⟨⟨d0, d1, d2⟩, ⟨d3, d4, d5⟩⟩ := hD0.cells3
  have hD1 : Blk w (w.heap.size + 1) 24 #[.bool true, .slice none 0 0, .int .i64 0] (w1.setCell ⟨w.heap.size + 1, 0, none⟩ (.bool true)) := hD0.set_ 0 (.bool true)
  have hR1 := hR0.far (p := ⟨w.heap.size + 1, 0, none⟩) (by simp) (by simp) (.bool true)
  go_cut [16] from 9 to 16 (fun v W => v = .bool nb ∧ W = w1)
  case first =>
    rcases Nat.eq_zero_or_pos s.size with h0 | h0
    · have e1 := neg_nil h0
      have e2 : nb = false := by rw [hnb.out, e1.1]
      subst e2
      go_wp2_with fail
      go_meet
      exact ⟨rfl, rfl⟩
    · have e1 := neg_at h0
      cases hb : (s[0] == 45)
      · have e2 : nb = false := by rw [hnb.out, e1, hb]
        have hb2 : ((s[0].toNat : Int) == 45) = false := by
          rw [Bool.eq_false_iff]; intro q; rw [beq_eq_false_iff_ne] at hb
          have q2 : (s[0].toNat : Int) = 45 := by simpa using q
          exact hb (UInt8.toNat_inj.1 (by show s[0].toNat = 45; omega))
        subst e2
        go_wp2_with fail
        go_meet
        exact ⟨rfl, rfl⟩
      · have e2 : nb = true := by rw [hnb.out, e1, hb]
        have hb2 : ((s[0].toNat : Int) == 45) = true := by
          have q : s[0] = 45 := by simpa using hb
          rw [q]; rfl
        subst e2
        go_wp2_with fail
        go_meet
        exact ⟨rfl, rfl⟩
  case rest =>
  obtain ⟨rfl, hwc⟩ := hcut
  rw [hwc]
  clear hwc wc
  go_upto_if 16 with fail
  go_cut [5] (fun v W => v = .int .i64 (o : Int) ∧ Blk w (w.heap.size + 1) 24 #[.bool nb, .slice none 0 0, .int .i64 0] W ∧ Blk w w.heap.size 24 #[.bool false, .slice none 0 0, .int .i64 0] W)
  case first =>
    have e3 : o = if nb then 1 else 0 := by rw [ho.out, hnb.out]
    clear hbody HD ho hnb
    cases nb
    · obtain rfl : o = 0 := e3
      go_wp2_with fail
      go_meet
      exact ⟨rfl, hD0, hR0⟩
    · obtain rfl : o = 1 := e3
      go_wp2_with fail
      go_meet
      exact ⟨rfl, hD1, hR1⟩
  case rest =>
  obtain ⟨rfl, hD2, hR2⟩ := hcut
  clear hD0 hR0 hD1 hR1 d0 d1 d2 d3 d4 d5 ho hnb hbody
  generalize hp : s.data.toList.drop o = p at *
  have hpl : p.length = s.size - o := by rw [← hp, List.length_drop, hlen]
  have hpk : ∀ (k : Nat) (h : o + k < s.size), Hid (p[k]? = some s[o + k]) := fun k h => by
    rw [Hid, ← hp, List.getElem?_drop, List.getElem?_eq_getElem (by rw [hlen]; exact h)]; rfl
  clear hp hlen
  go_wp2_with fail
  go_loopw [5, 6, 7] (fun i ah pt wr => ∃ (k idx : Nat) (A : Option Addr) (n c : Nat), idx = o + k ∧ idx ≤ s.size ∧ i = .int .i64 (idx : Int) ∧ ah = .int .i64 ((wholeB (p.take k)).length : Int) ∧ pt = .bool (pointB (p.take k)) ∧ PzAt w nb (p.take k) A n c wr) (fun i _ _ _ => s.size - (intOf i).toNat)
  case atStart => exact ⟨0, o, none, 0, 0, rfl, hos, rfl, rfl, rfl, hR2, hD2, OL.nil _ _, rfl⟩
  case round =>
    obtain ⟨k, idx, A, n, c, hidx, hle, rfl, rfl, rfl, hR, hDb, hO, hok⟩ := hrel
    obtain ⟨⟨d0, d1, d2⟩, ⟨d3, d4, d5⟩⟩ := hDb.cells3
    obtain ⟨⟨r0, r1, r2⟩, ⟨r3, r4, r5⟩⟩ := hR.cells3
    have hsz := hDb.lt
    have hql : (p.take k).length ≤ s.size := by rw [List.length_take]; omega
    have hwl : (wholeB (p.take k)).length ≤ (p.take k).length := (List.takeWhile_prefix _).length_le
    have hrl : (restB (p.take k)).length ≤ (p.take k).length := by unfold restB; rw [List.length_drop]; omega
    have hnn := hO.len
    unfold digsOf at hnn
    rw [List.length_map, List.length_append] at hnn
    by_cases hlt : idx < s.size
    · have hko : o + k < s.size := by omega
      have hkp : k < p.length := by omega
      have hpc : p[k] = s[idx] := by
        have := (hpk k hko).out
        rw [List.getElem?_eq_getElem hkp] at this
        have e := Option.some.inj this
        rw [e]
        congr 1
        exact hidx.symm
      have hq2 : Hid (p.take (k + 1) = p.take k ++ [s[idx]]) := by rw [Hid, List.take_succ_eq_append_getElem hkp, hpc]
      have hbad : okB (p.take k ++ [s[idx]]) = false → Hid (D = (Dc.zero, 2)) := fun h => by
        rw [← hpc] at h
        rw [Hid, HD.out]
        exact parse_bad_at hkp h
      have hb := byte_lt s[idx]
      generalize p.take k = q at *
      have HQ := Lib.hid (And.intro hwl (And.intro hrl hql))
      have HIX := Lib.hid hidx
      clear hpc hkp hko hpk hwl hrl hql HD hidx
      by_cases hx : (s[idx].toNat : Int) = 46
      · have hc46 : Hid (s[idx] = 46) := UInt8.toNat_inj.1 (by show s[idx].toNat = 46; omega)
        have hxb : ((s[idx].toNat : Int) == 46) = true := by simpa using hx
        cases hpt : pointB q
        · have HP := Lib.hid hpt
          go_wp2_with fail
          go_roundw
          case rel =>
            obtain ⟨e1, e2, e3⟩ := point_dot HP.out
            have e4 : p.take (k + 1) = q ++ [46] := by rw [hq2.out, hc46.out]
            refine ⟨k + 1, idx + 1, A, n, c, by have := HIX.out; omega, by omega, by go_num, ?_, ?_, ?_⟩
            · rw [e4, e2, whole_no HP.out]
            · rw [e4, e1]
            · rw [e4]
              unfold PzAt
              rw [e2, e3, ok_dot HP.out]
              rw [rest_no HP.out] at hDb
              rw [whole_no HP.out, rest_no HP.out] at hO
              exact ⟨hR, hDb, hO, hok⟩
          case measure => simp [intOf]; omega
        · have HD2 := hbad (by rw [ok_point hpt, hok.out, hc46.out]; rfl)
          have hx48 : (s[idx].toNat : Int) < 48 := by omega
          clear hbad
          go_wp2_with fail
          rw [HD2.out]
          obtain ⟨⟨z0, z1, z2⟩, _⟩ := (hR.store3 (.bool false) (.slice none 0 0) (.int .i64 0)).cells3
          exact bodyPost_ret (v := .tuple #[.agg #[.bool false, .slice none 0 0, .int .i64 0], .int .i64 2]) (by generalize World.setCell (World.setCell (World.setCell _ _ _) _ _) _ _ = W3 at z0 z1 z2 ⊢; simp [results, Tryz.results85, go_sem, z0, z1, z2]) rfl
            ⟨none, 0, 0, rfl, IL.nil _, below_set3 hR.later (Nat.le_refl _) _ _ _, none_new _⟩
      have hxb : ((s[idx].toNat : Int) == 46) = false := by rw [Bool.eq_false_iff]; intro h; exact hx (by simpa using h)
      have hc46 : s[idx] ≠ 46 := fun h => hx (by rw [h]; rfl)
      have hok2 : okB (q ++ [s[idx]]) = isB s[idx] := by
        cases hpt : pointB q
        · rw [ok_nopoint hpt hc46, hok.out]; rfl
        · rw [ok_point hpt, hok.out]; rfl
      by_cases h48 : (s[idx].toNat : Int) < 48
      · have HD2 := hbad (by rw [hok2]; simp [isB]; omega)
        clear hbad hok2 hx hc46
        cases hpt : pointB q
        all_goals
          go_wp2_with fail
          rw [HD2.out]
          obtain ⟨⟨z0, z1, z2⟩, _⟩ := (hR.store3 (.bool false) (.slice none 0 0) (.int .i64 0)).cells3
          exact bodyPost_ret (v := .tuple #[.agg #[.bool false, .slice none 0 0, .int .i64 0], .int .i64 2]) (by generalize World.setCell (World.setCell (World.setCell _ _ _) _ _) _ _ = W3 at z0 z1 z2 ⊢; simp [results, Tryz.results85, go_sem, z0, z1, z2]) rfl
            ⟨none, 0, 0, rfl, IL.nil _, below_set3 hR.later (Nat.le_refl _) _ _ _, none_new _⟩
      by_cases h57 : (57 : Int) < (s[idx].toNat : Int)
      · have HD2 := hbad (by rw [hok2]; simp [isB]; omega)
        clear hbad hok2 hx hc46
        cases hpt : pointB q
        all_goals
          go_wp2_with fail
          rw [HD2.out]
          obtain ⟨⟨z0, z1, z2⟩, _⟩ := (hR.store3 (.bool false) (.slice none 0 0) (.int .i64 0)).cells3
          exact bodyPost_ret (v := .tuple #[.agg #[.bool false, .slice none 0 0, .int .i64 0], .int .i64 2]) (by generalize World.setCell (World.setCell (World.setCell _ _ _) _ _) _ _ = W3 at z0 z1 z2 ⊢; simp [results, Tryz.results85, go_sem, z0, z1, z2]) rfl
            ⟨none, 0, 0, rfl, IL.nil _, below_set3 hR.later (Nat.le_refl _) _ _ _, none_new _⟩
      have hisb : Hid (isB s[idx] = true) := by rw [Hid]; simp [isB]; omega
      have hok3 : Hid (okB (q ++ [s[idx]]) = true) := by rw [Hid, hok2]; exact hisb.out
      have H46 := Lib.hid hc46
      clear hbad hok2 hx hc46
      have hr9 : (restB q).length ≤ 100000 := by have := HQ.out; omega
      have hw9 : (wholeB q).length ≤ 100000 := by have := HQ.out; omega
      have hn9 : n ≤ 200000 := by omega
      obtain ⟨NR, hNR⟩ : ∃ x, x = (restB q).length := ⟨_, rfl⟩
      obtain ⟨NW, hNW⟩ : ∃ x, x = (wholeB q).length := ⟨_, rfl⟩
      rw [← hNR] at hDb hr9 d2
      rw [← hNW] at hw9
      rw [← hNW]
      have HNR := Lib.hid hNR
      have HNW := Lib.hid hNW
      clear hNR hNW hnn
      have hO' := Lib.hid hO
      have hD' := Lib.hid hDb
      have hR' := Lib.hid hR
      clear hO hDb hR r0 r1 r2 r3 r4 r5
      have hal := fun o => (hD'.out.alloc o).cells3.1.2.1
      cases hpt : pointB q
      all_goals
        have HP := Lib.hid hpt
        go_wp2_with (first
          | (at_builtin; refine wpList_append_OL (w.heap.size + 2) rfl (.tmp 41) (.tmp 45) rfl rfl rfl (hO'.out.alloc _) (IL.one _ _ _) (by simp; omega) (by omega) ?_; intro A5 c5 w5 hO5 hB5 _; obtain ⟨⟨y0, y1, y2⟩, ⟨y3, y4, y5⟩⟩ := ((hD'.out.alloc (.cells #[.int .i64 ((s[idx].toNat : Int) - 48)] 3)).under (by omega) hB5).cells3))
        have hD5 := (hD'.out.alloc (.cells #[.int .i64 ((s[idx].toNat : Int) - 48)] 3)).under (B := w.heap.size + 2) (by omega) hB5
        have hR5 := (hR'.out.alloc (.cells #[.int .i64 ((s[idx].toNat : Int) - 48)] 3)).under (B := w.heap.size + 2) (by omega) hB5
        have hA5 : ∀ a, A5 = some a → w.heap.size + 2 ≤ a.block := fun a ha => (hO5.blk (by omega) a ha).1
        have hDs : Hid (digsOf (wholeB (p.take (k + 1)) ++ restB (p.take (k + 1))) = digsOf (wholeB q ++ restB q) ++ [(s[idx].toNat : Int) - 48]) := by
          rw [Hid, hq2.out]
          first
          | (rw [whole_no (point_no HP.out H46.out), rest_no (point_no HP.out H46.out), whole_no HP.out, rest_no HP.out, List.append_nil, List.append_nil]; unfold digsOf; rw [List.map_append]; rfl)
          | (obtain ⟨_, e2, e3⟩ := point_in s[idx] HP.out; rw [e2, e3, ← List.append_assoc]; unfold digsOf; rw [List.map_append]; rfl)
        go_roundw
        case rel =>
          first
          | (obtain ⟨e1, e2, e3⟩ := point_in s[idx] HP.out
             have hD6 : Blk w (w.heap.size + 1) 24 #[.bool nb, .slice A5 (n + 1) c5, .int .i64 ((NR + 1 : Nat) : Int)] ((w5.setCell ⟨w.heap.size + 1, 1, none⟩ (.slice A5 (n + 1) c5)).setCell ⟨w.heap.size + 1, 2, none⟩ (.int .i64 ((NR + 1 : Nat) : Int))) := (hD5.set_ 1 (.slice A5 (n + 1) c5)).set_ 2 (.int .i64 ((NR + 1 : Nat) : Int))
             have hR6 := (hR5.far (p := ⟨w.heap.size + 1, 1, none⟩) (by simp) (by simp) (.slice A5 (n + 1) c5)).far (p := ⟨w.heap.size + 1, 2, none⟩) (by simp) (by simp) (.int .i64 ((NR + 1 : Nat) : Int))
             have hO6 := (hO5.set_ (p := ⟨w.heap.size + 1, 1, none⟩) (fun a ha => by have := hA5 a ha; simp only; omega) (.slice A5 (n + 1) c5)).set_ (p := ⟨w.heap.size + 1, 2, none⟩) (fun a ha => by have := hA5 a ha; simp only; omega) (.int .i64 ((NR + 1 : Nat) : Int))
             refine ⟨k + 1, idx + 1, A5, n + 1, c5, by have := HIX.out; omega, by omega, by go_num, by rw [hq2.out, e2, ← HNW.out], by rw [hq2.out, e1], ?_⟩
             unfold PzAt
             rw [hDs.out, hq2.out, e3, List.length_append, ← HNR.out]
             exact ⟨hR6, hD6, hO6, hok3⟩)
          | (have e1 := point_no HP.out H46.out
             have hD6 : Blk w (w.heap.size + 1) 24 #[.bool nb, .slice A5 (n + 1) c5, .int .i64 (NR : Int)] (w5.setCell ⟨w.heap.size + 1, 1, none⟩ (.slice A5 (n + 1) c5)) := hD5.set_ 1 (.slice A5 (n + 1) c5)
             have hR6 := hR5.far (p := ⟨w.heap.size + 1, 1, none⟩) (by simp) (by simp) (.slice A5 (n + 1) c5)
             have hO6 := hO5.set_ (p := ⟨w.heap.size + 1, 1, none⟩) (fun a ha => by have := hA5 a ha; simp only; omega) (.slice A5 (n + 1) c5)
             have e2 := HNR.out
             rw [rest_no HP.out] at e2
             have e3 := HNW.out
             rw [whole_no HP.out] at e3
             refine ⟨k + 1, idx + 1, A5, n + 1, c5, by have := HIX.out; omega, by omega, by go_num, by rw [hq2.out, whole_no e1, List.length_append, ← e3]; go_num, by rw [hq2.out, e1], ?_⟩
             unfold PzAt
             rw [hDs.out, hq2.out, rest_no e1, ← e2]
             exact ⟨hR6, hD6, hO6, hok3⟩)
        case measure => simp [intOf]; omega
    · have hkp : p.take k = p := List.take_of_length_le (by omega)
      rw [hkp] at hDb hO hok hwl hrl hql hnn d2 ⊢
      have hap : 0 < n → ∀ a, A = some a → w.heap.size + 2 ≤ a.block := hO.newer (Nat.le_refl _)
      obtain ⟨hwa, hra⟩ : (wholeB p).all isB = true ∧ (restB p).all isB = true := by have := hok.out; unfold okB at this; rw [Bool.and_eq_true] at this; exact this
      have hI := hO.il
      obtain ⟨NR, hNR⟩ : ∃ x, x = (restB p).length := ⟨_, rfl⟩
      obtain ⟨NW, hNW⟩ : ∃ x, x = (wholeB p).length := ⟨_, rfl⟩
      have hr9 : NR ≤ 100000 := by omega
      have hok0 : 0 < NW → (pointB p = true → 0 < NR) → (isDs (wholeB p) && (!pointB p || isDs (restB p))) = true := fun h1 h2 => by
        have g1 : (wholeB p).isEmpty = false := by rw [List.isEmpty_eq_false_iff]; intro q; rw [q] at hNW; simp at hNW; omega
        have g2 : pointB p = true → (restB p).isEmpty = false := fun hp => by rw [List.isEmpty_eq_false_iff]; intro q; rw [q] at hNR; have := h2 hp; simp at hNR; omega
        unfold isDs
        rw [g1, hwa, hra]
        cases hp : pointB p
        · rfl
        · rw [g2 hp]; rfl
      have HOK : 0 < NW → (pointB p = true → 0 < NR) → NR ≤ 1000 → Hid (D = (⟨nb, digsOf (wholeB p ++ restB p), (NR : Int)⟩, 0)) := fun h1 h2 h3 => by
        rw [Hid, HD.out]
        unfold parseB
        rw [if_pos (hok0 h1 h2), ← hNR, if_pos h3]
      have HR3 : 0 < NW → (pointB p = true → 0 < NR) → 1000 < NR → Hid (D = (Dc.zero, 3)) := fun h1 h2 h3 => by
        rw [Hid, HD.out]
        unfold parseB
        rw [if_pos (hok0 h1 h2), ← hNR, if_neg (by omega)]
      have HE1 : NW = 0 → Hid (D = (Dc.zero, 2)) := fun h => by
        have e : wholeB p = [] := List.eq_nil_of_length_eq_zero (by omega)
        rw [Hid, HD.out]
        unfold parseB
        rw [e, if_neg (by simp [isDs])]
      have HE2 : pointB p = true → NR = 0 → Hid (D = (Dc.zero, 2)) := fun hp h => by
        have e : restB p = [] := List.eq_nil_of_length_eq_zero (by omega)
        rw [Hid, HD.out]
        unfold parseB
        rw [e, hp, if_neg (by simp [isDs])]
      have HR0 : pointB p = false → NR = 0 := fun hp => by rw [hNR, rest_no hp]; rfl
      rw [← hNR] at hDb d2
      rw [← hNW]
      clear hok0 HD hwa hra hok hwl hrl hql hpk hnn hpl hO
      generalize digsOf (wholeB p ++ restB p) = Z at *
      clear hNR hNW
      have hnlt : ¬ (idx : Int) < (s.size : Int) := by omega
      have HIX := Lib.hid hidx
      clear hidx
      rcases Nat.eq_zero_or_pos NW with hw0 | hw0
      · have HD2 := HE1 hw0
        have hb0 : ((NW : Int) == (0 : Int)) = true := by simp; omega
        clear HE1 HE2 HOK HR3 HR0 hw0
        go_wp2_with fail
        rw [HD2.out]
        obtain ⟨⟨z0, z1, z2⟩, _⟩ := (hR.store3 (.bool false) (.slice none 0 0) (.int .i64 0)).cells3
        exact bodyPost_ret (v := .tuple #[.agg #[.bool false, .slice none 0 0, .int .i64 0], .int .i64 2]) (by generalize World.setCell (World.setCell (World.setCell _ _ _) _ _) _ _ = W3 at z0 z1 z2 ⊢; simp [results, Tryz.results85, go_sem, z0, z1, z2]) rfl
          ⟨none, 0, 0, rfl, IL.nil _, below_set3 hR.later (Nat.le_refl _) _ _ _, none_new _⟩
      have hb0 : ((NW : Int) == (0 : Int)) = false := by simp; omega
      cases hpt : pointB p
      · have hr0 := HR0 hpt
        subst hr0
        have HD2 := HOK hw0 (fun h => by rw [hpt] at h; cases h) (by omega)
        clear HE1 HE2 HOK HR3 HR0 hw0
        go_wp2_with fail
        rw [HD2.out]
        obtain ⟨⟨z0, z1, z2⟩, _⟩ := (hR.store3 (.bool nb) (.slice A n c) (.int .i64 0)).cells3
        exact bodyPost_ret (v := .tuple #[.agg #[.bool nb, .slice A n c, .int .i64 0], .int .i64 0]) (by generalize World.setCell (World.setCell (World.setCell _ _ _) _ _) _ _ = W3 at z0 z1 z2 ⊢; simp [results, Tryz.results85, go_sem, z0, z1, z2]) rfl
          ⟨A, n, c, rfl, hI.set3 (fun hz a ha => by have := hap hz a ha; omega) _ _ _, below_set3 hR.later (Nat.le_refl _) _ _ _, fun hz a ha => by have := hap hz a ha; omega⟩
      · rcases Nat.eq_zero_or_pos NR with hr0 | hr0
        · have HD2 := HE2 hpt hr0
          have hb1 : ((NR : Int) == (0 : Int)) = true := by simp; omega
          clear HE1 HE2 HOK HR3 HR0 hw0 hr0
          go_wp2_with fail
          rw [HD2.out]
          obtain ⟨⟨z0, z1, z2⟩, _⟩ := (hR.store3 (.bool false) (.slice none 0 0) (.int .i64 0)).cells3
          exact bodyPost_ret (v := .tuple #[.agg #[.bool false, .slice none 0 0, .int .i64 0], .int .i64 2]) (by generalize World.setCell (World.setCell (World.setCell _ _ _) _ _) _ _ = W3 at z0 z1 z2 ⊢; simp [results, Tryz.results85, go_sem, z0, z1, z2]) rfl
            ⟨none, 0, 0, rfl, IL.nil _, below_set3 hR.later (Nat.le_refl _) _ _ _, none_new _⟩
        have hb1 : ((NR : Int) == (0 : Int)) = false := by simp; omega
        by_cases h1000 : 1000 < NR
        · have HD2 := HR3 hw0 (fun _ => hr0) h1000
          have hi : (1000 : Int) < (NR : Int) := by omega
          clear HE1 HE2 HOK HR3 HR0 hw0
          go_wp2_with fail
          rw [HD2.out]
          obtain ⟨⟨z0, z1, z2⟩, _⟩ := (hR.store3 (.bool false) (.slice none 0 0) (.int .i64 0)).cells3
          exact bodyPost_ret (v := .tuple #[.agg #[.bool false, .slice none 0 0, .int .i64 0], .int .i64 3]) (by generalize World.setCell (World.setCell (World.setCell _ _ _) _ _) _ _ = W3 at z0 z1 z2 ⊢; simp [results, Tryz.results85, go_sem, z0, z1, z2]) rfl
            ⟨none, 0, 0, rfl, IL.nil _, below_set3 hR.later (Nat.le_refl _) _ _ _, none_new _⟩
        have HD2 := HOK hw0 (fun _ => hr0) (by omega)
        have hi : ¬ (1000 : Int) < (NR : Int) := by omega
        clear HE1 HE2 HOK HR3 HR0 hw0
        go_wp2_with fail
        rw [HD2.out]
        obtain ⟨⟨z0, z1, z2⟩, _⟩ := (hR.store3 (.bool nb) (.slice A n c) (.int .i64 (NR : Int))).cells3
        exact bodyPost_ret (v := .tuple #[.agg #[.bool nb, .slice A n c, .int .i64 (NR : Int)], .int .i64 0]) (by generalize World.setCell (World.setCell (World.setCell _ _ _) _ _) _ _ = W3 at z0 z1 z2 ⊢; simp [results, Tryz.results85, go_sem, z0, z1, z2]) rfl
          ⟨A, n, c, rfl, hI.set3 (fun hz a ha => by have := hap hz a ha; omega) _ _ _, below_set3 hR.later (Nat.le_refl _) _ _ _, fun hz a ha => by have := hap hz a ha; omega⟩

end Go.Proofs.YtickhmlhciafgaaGreat

