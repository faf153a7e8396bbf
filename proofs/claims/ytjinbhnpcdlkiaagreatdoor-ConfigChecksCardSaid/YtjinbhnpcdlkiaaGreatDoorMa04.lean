/- slices.Reverse, in a row of the call's own. No condition. -/
import Derived.Test.YtjinbhnpcdlkiaaGreatDoorMa03
import Derived.Lib.SliceRun
namespace Go.Proofs.YtjinbhnpcdlkiaaGreatDoor
open Go.RowKit

/-- A later world: of what was there nothing has turned. -/
structure Ext (w : World) where
  world : World
  h : Below w.heap.size w world
def Ext.refl (w : World) : Ext w := ⟨w, Below.refl _ _⟩
def Ext.next {w : World} (s : Ext w) {w' : World} (h : Below s.world.heap.size s.world w') : Ext w := ⟨w', below_from s.h h⟩
instance (w : World) : Inhabited (Ext w) := ⟨Ext.refl w⟩
instance (w : World) : Nonempty (Ext w) := ⟨Ext.refl w⟩

theorem Ext.cell {w : World} {p : Addr} {v : Value} (h : w.cell? p = some v) (s : Ext w) : s.world.cell? p = some v := by
  rw [s.h.cell (World.block_lt_of_cell? w p h)]; exact h
theorem IL.ext {w : World} {A : Option Addr} {n c : Nat} {l : List Int} (h : IL w A n c l) (s : Ext w) : IL s.world A n c l := h.below s.h

theorem quiet_ext {P : Program} {f : FuncId} {args : Array Value} {w : World} (s : Ext w) {v : Value} (h : Calls P f args s.world (RV s.world v)) :
    Calls P f args s.world fun e w'' => e = .returned v ∧ ∃ s' : Ext w, w'' = s'.world :=
  h.mono fun _ _ ⟨he, hb⟩ => ⟨he, s.next hb, rfl⟩

theorem wp_region_ext {P : Program} {id : Nat} {l : List Oper} {Q : Exit → Act → World → Prop} {a : Act} {w : World} (hm : P.follows .mixedOrders = true) (hB : Region.lexB .any l.toArray = true)
    (h : wpQuiet P l.toArray (fun W => ∃ s : Ext w, W = s.world) (fun a' => ∀ w', (∃ s : Ext w, w' = s.world) → Q .normal a' w') l a) : (Code.region id l.toArray true).wp P Q a w :=
  wp_region_quiet (C := fun W => ∃ s : Ext w, W = s.world) hm hB ⟨(⟨w.drew, ⟨rfl, rfl, rfl, Nat.le_refl _, fun _ _ => rfl⟩⟩ : Ext w), rfl⟩ h

/-- Of what was there in w nothing has turned: closed to the walk. -/
def Later (w W : World) : Prop := Below w.heap.size w W
theorem Later.refl (w : World) : Later w w := Below.refl _ _
theorem Later.drew {w W : World} (h : Later w W) : Later w W.drew := Below.drew h
theorem Later.call {w W W' : World} (h : Later w W) (hb : Below W.heap.size W W') : Later w W' := below_from h hb
theorem Later.alloc {w W : World} (h : Later w W) (o : Obj) : Later w (W.alloc o) := Below.alloc h h.size o
theorem Later.setCell {w W : World} (h : Later w W) {p : Addr} (hp : w.heap.size ≤ p.block) (u : Value) : Later w (W.setCell p u) := Below.setCell h hp u
theorem Later.cell {w W : World} (h : Later w W) {p : Addr} {v : Value} (hc : w.cell? p = some v) : W.cell? p = some v := by
  rw [Below.cell h (World.block_lt_of_cell? w p hc)]; exact hc
theorem Later.size {w W : World} (h : Later w W) : w.heap.size ≤ W.heap.size := Below.size h
theorem IL.later {w W : World} {A : Option Addr} {n c : Nat} {l : List Int} (h : IL w A n c l) (hb : Later w W) : IL W A n c l := h.below hb

/-- A block of four cells of the call's own. -/
def Fresh4 (w0 : World) (g : Nat) (t : TypeId) (a b c d : Value) (W : World) : Prop :=
  w0.heap.size ≤ g ∧ W.heap[g]? = some (.cells #[a, b, c, d] t (0, 0)) ∧ Later w0 W
section
variable {w0 W W' : World} {g : Nat} {t : TypeId} {a b c d : Value}
theorem Fresh4.lt (h : Fresh4 w0 g t a b c d W) : g < W.heap.size := (Array.getElem?_eq_some_iff.1 h.2.1).1
theorem Fresh4.cells (h : Fresh4 w0 g t a b c d W) : (W.cell? ⟨g, 0, none⟩ = some a ∧ W.cell? ⟨g, 1, none⟩ = some b ∧ W.cell? ⟨g, 2, none⟩ = some c ∧ W.cell? ⟨g, 3, none⟩ = some d) ∧
    (W.frozen? ⟨g, 0, none⟩ = false ∧ W.frozen? ⟨g, 1, none⟩ = false ∧ W.frozen? ⟨g, 2, none⟩ = false ∧ W.frozen? ⟨g, 3, none⟩ = false) := by
  have hc : ∀ i, W.cell? ⟨g, i, none⟩ = (#[a, b, c, d] : Array Value)[i]? := fun i => cell_of_row W g i _ t (0, 0) h.2.1
  have hz : ∀ i, W.frozen? ⟨g, i, none⟩ = false := fun i => by
    have := h.2.1
    simp [World.frozen?, this]
  exact ⟨⟨hc 0, hc 1, hc 2, hc 3⟩, hz 0, hz 1, hz 2, hz 3⟩
theorem Fresh4.call (h : Fresh4 w0 g t a b c d W) (hb : Below W.heap.size W W') : Fresh4 w0 g t a b c d W' :=
  ⟨h.1, (hb.block g h.lt).trans h.2.1, h.2.2.call hb⟩
theorem Fresh4.made (w0 W : World) (t : TypeId) (a b c d : Value) (h : Later w0 W) (g : Nat) (hg : g = W.heap.size) : Fresh4 w0 g t a b c d (W.alloc (.cells #[a, b, c, d] t)) := by
  subst hg
  exact ⟨h.size, heap_alloc_new W _, h.alloc _⟩
theorem Fresh4.drew (h : Fresh4 w0 g t a b c d W) : Fresh4 w0 g t a b c d W.drew := ⟨h.1, h.2.1, h.2.2.drew⟩
theorem Fresh4.alloc (h : Fresh4 w0 g t a b c d W) (o : Obj) : Fresh4 w0 g t a b c d (W.alloc o) := h.call ((Below.refl _ _).alloc (Nat.le_refl _) _)
theorem Fresh4.set_ (h : Fresh4 w0 g t a b c d W) (i : Nat) (u : Value) : w0.heap.size ≤ g ∧ (W.setCell ⟨g, i, none⟩ u).heap[g]? = some (.cells (#[a, b, c, d].setIfInBounds i u) t (0, 0)) ∧ Later w0 (W.setCell ⟨g, i, none⟩ u) := by
  refine ⟨h.1, ?_, h.2.2.setCell h.1 _⟩
  have := h.2.1
  simp [World.setCell, Array.getElem?_modify, this]
theorem Fresh4.set0 (h : Fresh4 w0 g t a b c d W) (u : Value) : Fresh4 w0 g t u b c d (W.setCell ⟨g, 0, none⟩ u) := h.set_ 0 u
theorem Fresh4.set1 (h : Fresh4 w0 g t a b c d W) (u : Value) : Fresh4 w0 g t a u c d (W.setCell ⟨g, 1, none⟩ u) := h.set_ 1 u
theorem Fresh4.set2 (h : Fresh4 w0 g t a b c d W) (u : Value) : Fresh4 w0 g t a b u d (W.setCell ⟨g, 2, none⟩ u) := h.set_ 2 u
theorem Fresh4.set3 (h : Fresh4 w0 g t a b c d W) (u : Value) : Fresh4 w0 g t a b c u (W.setCell ⟨g, 3, none⟩ u) := h.set_ 3 u
theorem Fresh4.far (h : Fresh4 w0 g t a b c d W) {p : Addr} (hp : g ≠ p.block) (h0 : w0.heap.size ≤ p.block) (u : Value) : Fresh4 w0 g t a b c d (W.setCell p u) :=
  ⟨h.1, (Below.heap_setCell W p u g hp).trans h.2.1, h.2.2.setCell h0 u⟩
end
/-- A list of integers beside a store elsewhere. -/
theorem IL.set_ {W : World} {A : Option Addr} {n c : Nat} {l : List Int} (h : IL W A n c l) {p : Addr} (hp : 0 < n → ∀ a, A = some a → a.block ≠ p.block) (u : Value) : IL (W.setCell p u) A n c l := by
  obtain ⟨h1, h2, h3, h4⟩ := h
  refine ⟨h1, h2, h3, fun hn => ?_⟩
  obtain ⟨b, off, e, hb, hc⟩ := h4 hn
  refine ⟨b, off, e, by simpa [World.setCell] using hb, fun j v hj => ?_⟩
  rw [World.cell?_setCell_other W p _ u (fun e2 => hp hn _ e (by rw [e2]))]
  exact hc j v hj

theorem OL.away {W : World} {B n c : Nat} {A : Option Addr} {l : List Int} (h : OL W B A n c l) : 0 < n → ∀ a, A = some a → B ≤ a.block ∧ a.block ≠ W.heap.size := by
  intro hn a ha
  obtain ⟨a', ha', hb'⟩ := h.new hn
  obtain ⟨b, off, e, hb, _⟩ := h.il.2.2.2 hn
  subst ha
  obtain rfl := Option.some.inj ha'
  obtain rfl := Option.some.inj e
  exact ⟨hb', Nat.ne_of_lt hb⟩
theorem OL.after_ {W : World} {B S n c : Nat} {A : Option Addr} {l : List Int} (h : OL W B A n c l) (hB : B = S + 1) : 0 < n → ∀ a, A = some a → S ≤ a.block ∧ a.block ≠ S := by
  intro hn a ha
  obtain ⟨a', ha', hb'⟩ := h.new hn
  subst ha
  obtain rfl := Option.some.inj ha'
  omega

end Go.Proofs.YtjinbhnpcdlkiaaGreatDoor


namespace Go.Proofs.YtjinbhnpcdlkiaaGreatDoor
open Go.RowKit

/-- A block of cells of the call's own, known whole. -/
def Blk (w0 : World) (g : Nat) (t : TypeId) (cs : Array Value) (W : World) : Prop :=
  w0.heap.size ≤ g ∧ W.heap[g]? = some (.cells cs t (0, 0)) ∧ Later w0 W
section
variable {w0 W W' : World} {g : Nat} {t : TypeId} {cs : Array Value}
theorem Blk.lt (h : Blk w0 g t cs W) : g < W.heap.size := (Array.getElem?_eq_some_iff.1 h.2.1).1
theorem Blk.cell (h : Blk w0 g t cs W) (i : Nat) : W.cell? ⟨g, i, none⟩ = cs[i]? := cell_of_row W g i _ t (0, 0) h.2.1
theorem Blk.free (h : Blk w0 g t cs W) (i : Nat) : W.frozen? ⟨g, i, none⟩ = false := by
  have := h.2.1
  simp [World.frozen?, this]
theorem Blk.later (h : Blk w0 g t cs W) : Later w0 W := h.2.2
theorem Blk.call (h : Blk w0 g t cs W) (hb : Below W.heap.size W W') : Blk w0 g t cs W' :=
  ⟨h.1, (hb.block g h.lt).trans h.2.1, h.2.2.call hb⟩
theorem Blk.made (w0 W : World) (t : TypeId) (cs : Array Value) (h : Later w0 W) (g : Nat) (hg : g = W.heap.size) : Blk w0 g t cs (W.alloc (.cells cs t)) := by
  subst hg
  exact ⟨h.size, heap_alloc_new W _, h.alloc _⟩
theorem Blk.drew (h : Blk w0 g t cs W) : Blk w0 g t cs W.drew := ⟨h.1, h.2.1, h.2.2.drew⟩
theorem Blk.alloc (h : Blk w0 g t cs W) (o : Obj) : Blk w0 g t cs (W.alloc o) := h.call ((Below.refl _ _).alloc (Nat.le_refl _) _)
theorem Blk.set_ (h : Blk w0 g t cs W) (i : Nat) (u : Value) : Blk w0 g t (cs.setIfInBounds i u) (W.setCell ⟨g, i, none⟩ u) := by
  refine ⟨h.1, ?_, h.2.2.setCell h.1 _⟩
  have := h.2.1
  simp [World.setCell, Array.getElem?_modify, this]
theorem Blk.far (h : Blk w0 g t cs W) {p : Addr} (hp : g ≠ p.block) (h0 : w0.heap.size ≤ p.block) (u : Value) : Blk w0 g t cs (W.setCell p u) :=
  ⟨h.1, (Below.heap_setCell W p u g hp).trans h.2.1, h.2.2.setCell h0 u⟩
theorem Blk.under {B : Nat} (h : Blk w0 g t cs W) (hg : g < B) (hb : Below B W W') : Blk w0 g t cs W' :=
  ⟨h.1, (hb.block g hg).trans h.2.1, Below.trans h.2.2 (hb.mono (by have := h.1; omega))⟩
/-- of a world that is known by its steps -/
theorem Blk.of_heap (h0 : w0.heap.size ≤ g) (h : W.heap[g]? = some (.cells cs t (0, 0))) (hL : Later w0 W) : Blk w0 g t cs W := ⟨h0, h, hL⟩
end

end Go.Proofs.YtjinbhnpcdlkiaaGreatDoor


namespace Go.Proofs.YtjinbhnpcdlkiaaGreatDoor
open Go.RowKit

theorem I64_of_may {l : List Int} (h : mayL l = true) : I64 l := fun x hx => by
  have := mayL_iff.1 h x hx
  omega

theorem trim_any (A : Option Addr) (n c : Nat) (l : List Int) (w : World) (h : IL w A n c l) (hl : I64 l) (hn : n ≤ 100000000) :
    Calls Tryz.prog 66 #[.slice A n c] w (RO w (trimL l)) := by
  have hcap := h.cap
  have hle := h.le
  have hz : zerosL l ≤ n := by have := zerosL_le l; have := h.len; omega
  have hc := trimL_drop l
  generalize hzz : zerosL l = z at *
  have HC := Lib.hid hc
  have HZ := Lib.hid hzz
  clear hc hzz
  go_enter Tryz.func66, Tryz.ntmps66
  go_wp2_with (first
    | (go_at_call 84; refine (zeros_any _ _ _ l _ h hl).mono ?_; rw [HZ.out]; rintro e w' ⟨rfl, rfl⟩)
    | (go_at_call 83; go_must (refine (clone_any _ _ _ (l.drop z) _ (h.drop hz _ (by intro hk; first | (exfalso; omega) | rfl | exact if_neg (by omega))) (by omega)).mono ?_); rintro e w' ⟨A', n', c', rfl, hO, hB⟩))
  all_goals
    go_ret
    exact ⟨_, _, _, rfl, by rw [HC.out]; exact hO, hB⟩

/-- The digit at a place from the end on. -/
theorem from_any (A : Option Addr) (n c i : Nat) (l : List Int) (w : World) (h : IL w A n c l) (hi : i ≤ 1000000) :
    Calls Tryz.prog 86 #[.slice A n c, .int .i64 (i : Int)] w fun e w' => e = .returned (.int .i64 (digL l i)) ∧ w = w' := by
  have hcap := h.cap
  have hle := h.le
  have hlen := h.len
  by_cases hlt : i < n
  · obtain ⟨b, off, rfl, hc⟩ := h.at_ (k := n - 1 - i) (by omega)
    have e1 : digL l i = l.getD (n - 1 - i) 0 := by unfold digL; rw [if_pos (by omega), hlen]
    have E1 := Lib.hid e1
    clear e1 hlen
    go_enter Tryz.func86, Tryz.ntmps86
    go_wp2
    go_ret
    exact ⟨ret_int (by rw [E1.out]; simp), rfl⟩
  · have e1 : digL l i = 0 := by unfold digL; rw [if_neg (by omega)]
    have E1 := Lib.hid e1
    clear e1 hlen
    go_enter Tryz.func86, Tryz.ntmps86
    go_wp2
    go_ret
    exact ⟨ret_int (by rw [E1.out]), rfl⟩

end Go.Proofs.YtjinbhnpcdlkiaaGreatDoor


namespace Go.Proofs.YtjinbhnpcdlkiaaGreatDoor
open Go.RowKit

/-! ### Plain: one round of the carry -/
/-- What the rounds have kept: digits, the lowest first, and what is left. -/
def Carried (f : Nat → Int) (i : Nat) (o : List Int) (rest : Int) : Prop :=
  mayL o = true ∧ o.length = i ∧ val o.reverse + rest * 10 ^ i = sumTo f i ∧ -1000000 ≤ rest ∧ rest ≤ 1000000
theorem Carried.zero (f : Nat → Int) : Carried f 0 [] 0 := ⟨rfl, rfl, rfl, by omega, by omega⟩
theorem rev_snoc_val (o : List Int) (d : Int) : val (o ++ [d]).reverse = d * 10 ^ o.length + val o.reverse := by
  rw [List.reverse_append, List.reverse_singleton, List.singleton_append, val_cons, List.length_reverse]
theorem Carried.step {f : Nat → Int} {i : Nat} {o : List Int} {rest d r : Int} (h : Carried f i o rest) (hf : -100000 ≤ f i) (hf2 : f i ≤ 100000)
    (hd : d = (rest + f i) % 10) (hr : r = (rest + f i) / 10) : Carried f (i + 1) (o ++ [d]) r := by
  obtain ⟨h1, h2, h3, h4, h5⟩ := h
  refine ⟨?_, by simp [h2], ?_, by omega, by omega⟩
  · simp [h1, isDig]; omega
  · rw [rev_snoc_val, h2, sumTo, ← h3, Int.pow_succ]
    have e : rest + f i = 10 * r + d := by omega
    have e2 : (rest + f i) * 10 ^ i = (10 * r + d) * 10 ^ i := by rw [e]
    rw [Int.add_mul, Int.add_mul] at e2
    have e3 : r * (10 ^ i * 10) = 10 * r * 10 ^ i := by rw [Int.mul_comm 10 r, Int.mul_assoc, Int.mul_comm 10]
    rw [e3]
    omega
/-- Behind the rounds: what is left goes on digit by digit. -/
def Spilt (s : Int) (o : List Int) (rest : Int) : Prop := mayL o = true ∧ val o.reverse + rest * 10 ^ o.length = s ∧ 0 ≤ rest ∧ rest ≤ 1000000
theorem Spilt.step {s : Int} {o : List Int} {rest d r : Int} (h : Spilt s o rest) (hd : d = rest % 10) (hr : r = rest / 10) : Spilt s (o ++ [d]) r := by
  obtain ⟨h1, h2, h3, h4⟩ := h
  refine ⟨?_, ?_, by omega, by omega⟩
  · simp [h1, isDig]; omega
  · rw [rev_snoc_val, List.length_append, List.length_singleton, Int.pow_succ, ← h2]
    have e : rest = 10 * r + d := by omega
    have e2 : rest * 10 ^ o.length = (10 * r + d) * 10 ^ o.length := by rw [← e]
    rw [Int.add_mul] at e2
    have e3 : r * (10 ^ o.length * 10) = 10 * r * 10 ^ o.length := by rw [Int.mul_comm 10 r, Int.mul_assoc, Int.mul_comm 10]
    rw [e3]
    omega
theorem mayL_reverse {l : List Int} (h : mayL l = true) : mayL l.reverse = true := mayL_iff.2 fun x hx => mayL_iff.1 h x (List.mem_reverse.1 hx)
theorem Carried.spilt {f : Nat → Int} {i : Nat} {o : List Int} {rest : Int} (h : Carried f i o rest) (hs : 0 ≤ sumTo f i) : Spilt (sumTo f i) o rest := by
  obtain ⟨h1, h2, h3, h4, h5⟩ := h
  have hb := val_bd (mayL_reverse h1)
  rw [List.length_reverse, h2] at hb
  have hp := ten_pos i
  refine ⟨h1, by rw [h2]; exact h3, ?_, h5⟩
  rcases Int.lt_or_le rest 0 with h | h
  · exfalso
    have : rest * 10 ^ i ≤ -1 * 10 ^ i := Int.mul_le_mul_of_nonneg_right (by omega) (by omega)
    omega
  · exact h
theorem Spilt.done {s : Int} {o : List Int} (h : Spilt s o 0) : trimL o.reverse = ofN s.toNat := by
  obtain ⟨h1, h2, _, _⟩ := h
  rw [trimL_ofN (mayL_reverse h1)]
  congr 1
  omega

end Go.Proofs.YtjinbhnpcdlkiaaGreatDoor


namespace Go.Proofs.YtjinbhnpcdlkiaaGreatDoor
open Go.RowKit

/-- Behind k exchanges. -/
def revAt (l : List Int) (k i : Nat) : Int := if i < k ∨ l.length - k ≤ i then l.getD (l.length - 1 - i) 0 else l.getD i 0
def revTo (l : List Int) (k : Nat) : List Int := (List.range l.length).map (revAt l k)
theorem revTo_zero (l : List Int) : revTo l 0 = l := by
  apply List.ext_getElem
  · simp [revTo]
  · intro i h1 h2
    simp [revTo, revAt, List.getD, List.getElem?_eq_getElem h2]
    omega
theorem revTo_done {l : List Int} {k : Nat} (h : l.length ≤ 2 * k + 1) : revTo l k = l.reverse := by
  apply List.ext_getElem
  · simp [revTo]
  · intro i h1 h2
    have hi : i < l.length := by simpa [revTo] using h1
    rw [List.getElem_reverse]
    simp only [revTo, List.getElem_map, List.getElem_range, revAt]
    have hx : l.length - 1 - i < l.length := by omega
    by_cases hc : i < k ∨ l.length - k ≤ i
    · rw [if_pos hc]
      simp [List.getD, List.getElem?_eq_getElem hx]
    · rw [if_neg hc]
      have hi2 : i = l.length - 1 - i := by omega
      simp [List.getD, List.getElem?_eq_getElem hi]
      congr 1
theorem revTo_get {l : List Int} {k i : Nat} (hi : i < l.length) : ((revTo l k).map (Value.int .i64))[i]? = some (.int .i64 (revAt l k i)) := by
  simp [revTo, List.getElem?_range hi]
theorem revTo_step {l : List Int} {k : Nat} (h : 2 * k + 1 < l.length) :
    (((revTo l k).map (Value.int .i64)).set k (.int .i64 (l.getD (l.length - 1 - k) 0))).set (l.length - 1 - k) (.int .i64 (l.getD k 0)) = (revTo l (k + 1)).map (Value.int .i64) := by
  apply List.ext_getElem
  · simp [revTo]
  · intro i h1 h2
    have hi : i < l.length := by simpa [revTo] using h2
    simp only [List.getElem_set, List.getElem_map, revTo, List.getElem_range, revAt]
    by_cases h3 : l.length - 1 - k = i
    · rw [if_pos h3, if_pos (by omega)]
      congr 2
      omega
    · rw [if_neg h3]
      by_cases h4 : k = i
      · rw [if_pos h4, if_pos (by omega), h4]
      · rw [if_neg h4]
        congr 1
        by_cases h5 : i < k ∨ l.length - k ≤ i
        · rw [if_pos h5, if_pos (by omega)]
        · rw [if_neg h5, if_neg (by omega)]

set_option maxHeartbeats 400000 in
theorem reverse_any (B : Nat) (A : Option Addr) (n c : Nat) (l : List Int) (w : World) (h : w.ownsRow B 3 1 (.slice A n c) n (l.map (Value.int .i64))) (hn : n ≤ 10000000) :
    Calls Tryz.prog 97 #[.slice A n c] w fun e w' => e = .returned (.tuple #[]) ∧ w'.ownsRow B 3 1 (.slice A n c) n (l.reverse.map (Value.int .i64)) ∧ Below B w w' := by
  have hlen : l.length = n := by have := h.1; simpa using this
  by_cases h0 : n = 0
  · subst h0
    have hl0 : l = [] := List.eq_nil_of_length_eq_zero hlen
    subst hl0
    clear hlen
    go_enter Tryz.func97, Tryz.ntmps97
    go_wp2
    go_loop [2, 3] (fun i j => i = .int .i64 0 ∧ j = .int .i64 (-1)) (fun _ _ => 0)
    case atStart => exact ⟨rfl, rfl⟩
    case round =>
      obtain ⟨rfl, rfl⟩ := hrel
      go_wp2
      go_end0
      exact ⟨rfl, h, Below.refl _ _⟩
  · rcases h.2 with ⟨_, h1⟩ | ⟨g, cap, cur, hv, hg, _⟩
    · omega
    · injection hv with hA _ hcap
      subst hA hcap
      have HL := Lib.hid hlen
      have hB := Below.refl B w
      have ho : w.ownsRow B 3 1 (.slice (some ⟨g, 0, none⟩) n c) n ((revTo l 0).map (Value.int .i64)) := by rw [revTo_zero]; exact h
      clear h hlen
      go_enter Tryz.func97, Tryz.ntmps97
      go_wp2
      go_loopw [2, 3] (fun i j wr => ∃ k : Nat, 2 * k ≤ n ∧ i = .int .i64 k ∧ j = .int .i64 ((n : Int) - 1 - k) ∧ wr.ownsRow B 3 1 (.slice (some ⟨g, 0, none⟩) n c) n ((revTo l k).map (Value.int .i64)) ∧ Below B w wr)
        (fun i _ _ => n - (intOf i).toNat)
      case atStart => exact ⟨0, by omega, rfl, by go_num, ho, hB⟩
      case round =>
        obtain ⟨k, hk, rfl, rfl, hO, hBr⟩ := hrel
        by_cases hlt : 2 * k + 1 < n
        · have c1 := (hO.cellAt k (by omega)).trans (revTo_get (k := k) (by rw [HL.out]; omega))
          have c2 := (hO.cellAt (n - 1 - k) (by omega)).trans (revTo_get (k := k) (by rw [HL.out]; omega))
          have f1 := hO.frozenAt k
          have f2 := hO.frozenAt (n - 1 - k)
          have e1 : revAt l k k = l.getD k 0 := by unfold revAt; rw [if_neg (by rw [HL.out]; omega)]
          have e2 : revAt l k (n - 1 - k) = l.getD (n - 1 - k) 0 := by unfold revAt; rw [if_neg (by rw [HL.out]; omega)]
          rw [e1] at c1
          rw [e2] at c2
          clear e1 e2
          go_wp2
          have s1 := hO.stored k (.int .i64 (l.getD (n - 1 - k) 0))
          have s2 := s1.1.stored (n - 1 - k) (.int .i64 (l.getD k 0))
          have hst := revTo_step (l := l) (k := k) (by rw [HL.out]; exact hlt)
          rw [HL.out] at hst
          rw [hst] at s2
          have S2 := Lib.hid s2.1
          clear hst s1 s2 hO
          go_region
          go_wp2
          go_roundw
          case rel => exact ⟨k + 1, by omega, by go_num, by go_num, S2.out.drew, ((hBr.setCell (by simpa using hg) _).setCell (by simpa using hg) _).drew⟩
          case measure => simp [intOf]; omega
        · go_wp2
          go_end0
          exact ⟨rfl, by rw [← revTo_done (k := k) (by rw [HL.out]; omega)]; exact hO, hBr⟩

end Go.Proofs.YtjinbhnpcdlkiaaGreatDoor

