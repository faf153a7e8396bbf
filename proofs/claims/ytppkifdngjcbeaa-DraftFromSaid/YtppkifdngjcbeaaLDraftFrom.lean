/- The walk of DraftFrom. No condition. -/
import Derived.Test.YtppkifdngjcbeaaDe5
import Derived.Test.YtppkifdngjcbeaaTexts
import Derived.Test.YtppkifdngjcbeaaDe10
import Derived.Test.YtppkifdngjcbeaaDe5g
import Derived.Test.YtppkifdngjcbeaaDe6
import Derived.Test.YtppkifdngjcbeaaCanon3
import Derived.Test.YtppkifdngjcbeaaDe3
import Derived.Test.YtppkifdngjcbeaaDf1
import Derived.Deep.DeepCutAuto
import Derived.Test.YtppkifdngjcbeaaDr4
import Derived.Test.YtppkifdngjcbeaaDr5
import Derived.Test.YtppkifdngjcbeaaDe4
import Derived.Test.YtppkifdngjcbeaaDr9
import Derived.Test.YtppkifdngjcbeaaEd2
import Derived.BigQuiet
namespace Go.Proofs.Ytppkifdngjcbeaa
open Go.RowKit

/-- A decimal's text. -/
def cutL (t : List UInt8) (s : Nat) : List UInt8 := if 0 < s then t.take (t.length - s) ++ (46 :: t.drop (t.length - s)) else t
def printL (d : Dc) : List UInt8 := if mayDc d then (if d.neg then [45] else []) ++ cutL (textL (wideL d.l (d.s.toNat + 1))) d.s.toNat else []
theorem bs_extract (t : List UInt8) (i j : Nat) : (bs t).extract i j = bs ((t.drop i).take (j - i)) := by
  have h : ((bs t).extract i j).data.toList = (t.drop i).take (j - i) := by
    rw [ByteArray.data_extract]
    simp [bs]
  rw [← bs_back ((bs t).extract i j), h]
theorem mayL_wide {l : List Int} (h : mayL l = true) (k : Nat) : mayL (wideL l k) = true := by unfold wideL; rw [mayL_append, h, mayL_replicate]; rfl
theorem textL_length {l : List Int} (h : mayL l = true) : (textL l).length = l.length := by rw [textL_may h]; simp

end Go.Proofs.Ytppkifdngjcbeaa


namespace Go.Proofs.Ytppkifdngjcbeaa
open Go.RowKit

theorem IL.one1 (w : World) (e : TypeId) (x : Int) (b : Nat) (hb : b = w.heap.size) : IL (w.alloc (.cells #[.int .i64 x] e)) (some ⟨b, 0, none⟩) 1 1 [x] := by
  subst hb; exact VL.lit w e 1 [.int .i64 x] rfl (by omega)
theorem IL.one3 (w : World) (e : TypeId) (x y z : Int) (b : Nat) (hb : b = w.heap.size) : IL (w.alloc (.cells #[.int .i64 x, .int .i64 y, .int .i64 z] e)) (some ⟨b, 0, none⟩) 3 3 [x, y, z] := by
  subst hb; exact VL.lit w e 3 [.int .i64 x, .int .i64 y, .int .i64 z] rfl (by omega)
theorem I64_lit {l : List Int} (h : l.all (fun x => decide (-1000 ≤ x) && decide (x ≤ 1000)) = true) : I64 l := fun x hx => by
  have := List.all_eq_true.1 h x hx
  simp at this
  omega
theorem lives6_add : addDc ⟨false, [5], 1⟩ ⟨true, [1, 2, 5], 2⟩ = (⟨true, [7, 5], 2⟩, 0) := by rfl
theorem lives6_p1 : bs (printL ⟨true, [7, 5], 2⟩) = { data := #[45, 48, 46, 55, 53] } := by rfl
theorem lives6_p2 : bs (printL ⟨false, [7], 2⟩) = { data := #[48, 46, 48, 55] } := by rfl

end Go.Proofs.Ytppkifdngjcbeaa


namespace Go.Proofs.Ytppkifdngjcbeaa
open Go.RowKit

/-- A made decimal. -/
def GoodDc (X : Dc) (q : Nat) : Prop := mayL X.l = true ∧ 0 ≤ X.s ∧ X.s ≤ 9 ∧ X.l.length ≤ q
theorem cgood_ex {A : Option Addr} {n c : Nat} {l : List Int} (b : Bool) (s : Int) (q : Nat) (hl : I64 l) (hs : -9223372036854775808 ≤ s ∧ s ≤ 9223372036854775807) (hq : q ≤ 1000) :
    ∃ X : Dc, GoodDc X q ∧ Hid (X = ⟨b, goodL l q, around s 10⟩) ∧ Hid (∀ W, IL W A n c l → Calls Try.prog 17 #[.agg #[.bool b, .slice A n c, .int .i64 s], .int .i64 (q : Int)] W (RC W X)) := by
  refine ⟨⟨b, goodL l q, around s 10⟩, ⟨mayL_good _ _, ?_, ?_, ?_⟩, rfl, fun W hW => cgood_any b s q W hW hl hs (by omega)⟩
  · exact (around_bd s 10 (by omega)).1
  · have := (around_bd s 10 (by omega)).2
    simp only
    omega
  · simp only
    rw [goodL_len]; omega
theorem cmpDc_trans {x y z : Dc} (h1 : cmpDc x y ≤ 0) (h2 : cmpDc y z ≤ 0) : cmpDc x z ≤ 0 := by
  rw [cmpDc_at x y (max x.s.toNat (max y.s.toNat z.s.toNat)) (by omega) (by omega)] at h1
  rw [cmpDc_at y z (max x.s.toNat (max y.s.toNat z.s.toNat)) (by omega) (by omega)] at h2
  rw [cmpDc_at x z (max x.s.toNat (max y.s.toNat z.s.toNat)) (by omega) (by omega)]
  unfold cmpI at *
  split at h1
  · split at h2
    · rw [if_pos (by omega)]; omega
    · split at h2
      · omega
      · rw [if_pos (by omega)]; omega
  · split at h1
    · omega
    · split at h2
      · rw [if_pos (by omega)]; omega
      · split at h2
        · omega
        · rw [if_neg (by omega), if_neg (by omega)]; omega
theorem cmpDc_bd (x y : Dc) : -1 ≤ cmpDc x y ∧ cmpDc x y ≤ 1 := cmpI_bd _ _

/-- A decimal's value in memory: three cells of a block, and its digits. -/
def DcAt (g : Nat) (A : Option Addr) (n c : Nat) (X : Dc) (W : World) : Prop :=
  (W.cell? ⟨g, 0, none⟩ = some (.bool X.neg) ∧ W.cell? ⟨g, 1, none⟩ = some (.slice A n c) ∧ W.cell? ⟨g, 2, none⟩ = some (.int .i64 X.s)) ∧ IL W A n c X.l
theorem DcAt.later {g : Nat} {A : Option Addr} {n c : Nat} {X : Dc} {W W' : World} (h : DcAt g A n c X W) (hL : Later W W') : DcAt g A n c X W' :=
  ⟨⟨hL.cell h.1.1, hL.cell h.1.2.1, hL.cell h.1.2.2⟩, h.2.later hL⟩
theorem Blk.dc {w0 W : World} {g : Nat} {t : TypeId} {A : Option Addr} {n c : Nat} {X : Dc} (h : Blk w0 g t #[.bool X.neg, .slice A n c, .int .i64 X.s] W) (hI : IL W A n c X.l) : DcAt g A n c X W := ⟨h.cells3.1, hI⟩
theorem DcAt.k0 {g : Nat} {A : Option Addr} {n c : Nat} {X : Dc} {W : World} (h : DcAt g A n c X W) (s : Ext W) : s.world.cell? ⟨g, 0, none⟩ = some (.bool X.neg) := Ext.cell h.1.1 s
theorem DcAt.k1 {g : Nat} {A : Option Addr} {n c : Nat} {X : Dc} {W : World} (h : DcAt g A n c X W) (s : Ext W) : s.world.cell? ⟨g, 1, none⟩ = some (.slice A n c) := Ext.cell h.1.2.1 s
theorem DcAt.k2 {g : Nat} {A : Option Addr} {n c : Nat} {X : Dc} {W : World} (h : DcAt g A n c X W) (s : Ext W) : s.world.cell? ⟨g, 2, none⟩ = some (.int .i64 X.s) := Ext.cell h.1.2.2 s
theorem DcAt.il {g : Nat} {A : Option Addr} {n c : Nat} {X : Dc} {W : World} (h : DcAt g A n c X W) (s : Ext W) : IL s.world A n c X.l := h.2.ext s

theorem rccompare_at {g : Nat} {A : Option Addr} {n c : Nat} {X : Dc} {g2 : Nat} {A2 : Option Addr} {n2 c2 : Nat} {Y : Dc} {W : World} (h : DcAt g A n c X W) (h2 : DcAt g2 A2 n2 c2 Y W) {q q2 : Nat} (hX : GoodDc X q) (hY : GoodDc Y q2) (hq : q ≤ 10000) (hq2 : q2 ≤ 10000) (s : Ext W) :
    Calls Try.prog 25 #[.agg #[.bool X.neg, .slice A n c, .int .i64 X.s], .agg #[.bool Y.neg, .slice A2 n2 c2, .int .i64 Y.s]] s.world (RV s.world (.int .i64 (cmpDc X Y))) :=
  rccompare_any X.neg Y.neg X.s Y.s s.world (h.il s) (h2.il s) hX.1 hY.1 (by have := h.2.len; have := hX.2.2.2; omega) (by have := h2.2.len; have := hY.2.2.2; omega) hX.2.1 (by have := hX.2.2.1; omega) hY.2.1 (by have := hY.2.2.1; omega)

end Go.Proofs.Ytppkifdngjcbeaa


namespace Go.Proofs.Ytppkifdngjcbeaa
open Go.RowKit

def DB (w0 : World) (g : Nat) (t : TypeId) (A : Option Addr) (n c : Nat) (X : Dc) (W : World) : Prop :=
  Blk w0 g t #[.bool X.neg, .slice A n c, .int .i64 X.s] W ∧ IL W A n c X.l
section
variable {w0 W W' : World} {g : Nat} {t : TypeId} {A : Option Addr} {n c : Nat} {X : Dc}
theorem DB.alloc (h : DB w0 g t A n c X W) (o : Obj) : DB w0 g t A n c X (W.alloc o) := ⟨h.1.alloc o, h.2.alloc o⟩
theorem DB.call (h : DB w0 g t A n c X W) (hb : Below W.heap.size W W') : DB w0 g t A n c X W' := ⟨h.1.call hb, h.2.below hb⟩
theorem DB.made (w0 W : World) (t : TypeId) {A : Option Addr} {n c : Nat} {X : Dc} (hL : Later w0 W) (hI : IL W A n c X.l) (g : Nat) (hg : g = W.heap.size) :
    DB w0 g t A n c X (W.alloc (.cells #[.bool X.neg, .slice A n c, .int .i64 X.s] t)) := ⟨Blk.made w0 W t _ hL g hg, hI.alloc _⟩
theorem DB.later (h : DB w0 g t A n c X W) : Later w0 W := h.1.later
theorem DB.il (h : DB w0 g t A n c X W) : IL W A n c X.l := h.2
theorem DB.at_ (h : DB w0 g t A n c X W) : DcAt g A n c X W := ⟨h.1.cells3.1, h.2⟩
theorem DB.c0 (h : DB w0 g t A n c X W) : W.cell? ⟨g, 0, none⟩ = some (.bool X.neg) := h.1.cells3.1.1
theorem DB.c1 (h : DB w0 g t A n c X W) : W.cell? ⟨g, 1, none⟩ = some (.slice A n c) := h.1.cells3.1.2.1
theorem DB.c2 (h : DB w0 g t A n c X W) : W.cell? ⟨g, 2, none⟩ = some (.int .i64 X.s) := h.1.cells3.1.2.2
theorem DB.len (h : DB w0 g t A n c X W) : X.l.length = n := h.2.len
end
/-- What is read of a later world. -/
theorem DcAt.call {g : Nat} {A : Option Addr} {n c : Nat} {X : Dc} {W W' : World} (h : DcAt g A n c X W) (hb : Below W.heap.size W W') : DcAt g A n c X W' := h.later hb
/-- A decimal's value: where its digits lie, and how they read. -/
structure CV where
  A : Option Addr
  n : Nat
  c : Nat
  X : Dc
def CV.ok (x : CV) (W : World) : Prop := IL W x.A x.n x.c x.X.l
theorem CV.ok.later {x : CV} {W W' : World} (h : x.ok W) (hb : Later W W') : x.ok W' := IL.later h hb
/-- The three cells of a decimal from an offset on. -/
def CV.at_ (x : CV) (W : World) (g o : Nat) : Prop :=
  W.cell? ⟨g, o, none⟩ = some (.bool x.X.neg) ∧ W.cell? ⟨g, o + 1, none⟩ = some (.slice x.A x.n x.c) ∧ W.cell? ⟨g, o + 2, none⟩ = some (.int .i64 x.X.s)
theorem CV.at_.later {x : CV} {W W' : World} {g o : Nat} (h : x.at_ W g o) (hb : Later W W') : x.at_ W' g o := ⟨hb.cell h.1, hb.cell h.2.1, hb.cell h.2.2⟩
/-- A decimal stored into a block of the call's own. -/
theorem DB.store {w0 W : World} {g : Nat} {t : TypeId} {a b c : Value} (h : Blk w0 g t #[a, b, c] W) {A : Option Addr} {n q : Nat} {X : Dc} (hI : IL W A n q X.l) (hp : 0 < n → ∀ a, A = some a → a.block ≠ g) :
    DB w0 g t A n q X (((W.setCell ⟨g, 0, none⟩ (.bool X.neg)).setCell ⟨g, 1, none⟩ (.slice A n q)).setCell ⟨g, 2, none⟩ (.int .i64 X.s)) :=
  ⟨h.store3 _ _ _, hI.set3 hp _ _ _⟩
theorem DB.from_ {w0 w1 W : World} {g : Nat} {t : TypeId} {A : Option Addr} {n c : Nat} {X : Dc} (hL : Later w0 w1) (h : DB w1 g t A n c X W) : DB w0 g t A n c X W :=
  ⟨⟨Nat.le_trans hL.size h.1.1, h.1.2.1, below_from hL h.later⟩, h.2⟩
theorem IL.block_lt {W : World} {A : Option Addr} {n c : Nat} {l : List Int} (h : IL W A n c l) : 0 < n → ∀ a, A = some a → a.block < W.heap.size := by
  intro hn a ha
  obtain ⟨b, off, e, hb, _⟩ := h.2.2.2 hn
  rw [ha] at e
  rw [Option.some.inj e]
  exact hb
theorem IL.apart {W : World} {A : Option Addr} {n c : Nat} {l : List Int} (h : IL W A n c l) {g : Nat} (hg : W.heap.size ≤ g) : 0 < n → ∀ a, A = some a → a.block ≠ g := fun hn a ha => by
  have := h.block_lt hn a ha
  omega

end Go.Proofs.Ytppkifdngjcbeaa


namespace Go.Proofs.Ytppkifdngjcbeaa

theorem canon_up_to {M N : Nat} (h : M ≤ N) (v : Int) : canon M v = canon N (v * 10 ^ (N - M)) := by
  have := canon_shift M (N - M) v
  rw [show M + (N - M) = N from by omega] at this
  exact this.symm
theorem at_up {d : Dc} {M N : Nat} (hd : d.s.toNat ≤ M) (h : M ≤ N) : d.at_ M * 10 ^ (N - M) = d.at_ N := by
  have := at_mul d M (N - M) hd
  rw [show M + (N - M) = N from by omega] at this
  exact this.symm
theorem add_at (a b : Dc) (N : Nat) (ha : a.s.toNat ≤ N) (hb : b.s.toNat ≤ N) :
    canon (max a.s.toNat b.s.toNat) (a.at_ (max a.s.toNat b.s.toNat) + b.at_ (max a.s.toNat b.s.toNat)) = canon N (a.at_ N + b.at_ N) := by
  rw [canon_up_to (M := max a.s.toNat b.s.toNat) (N := N) (by omega), Int.add_mul, at_up (by omega) (by omega), at_up (by omega) (by omega)]
theorem mayDc_canon (s : Nat) (hs : s ≤ 1000) (z : Int) : mayDc (canon s z) = true := by
  have h := canonic s z
  exact mayDc_iff.2 ⟨h.may, h.lo, by have := h.hi; omega⟩
theorem addDc_at {a b : Dc} (ha : mayDc a = true) (hb : mayDc b = true) (N : Nat) (h1 : a.s.toNat ≤ N) (h2 : b.s.toNat ≤ N) : addDc a b = (canon N (a.at_ N + b.at_ N), 0) := by
  unfold addDc
  rw [ha, hb, add_at a b N h1 h2]
  rfl
theorem mayDc_minus (d : Dc) : mayDc (minusDc d) = mayDc d := rfl
theorem minus_at (d : Dc) (N : Nat) : (minusDc d).at_ N = -(d.at_ N) := by
  unfold Dc.at_ minusDc Dc.z
  cases d.neg <;> simp [Int.neg_mul]
theorem canon_at_self {s : Nat} (z : Int) : (canon s z).at_ s = z := by
  have := canon_at_eq s s z (Nat.le_refl _)
  simpa using this
theorem add_back {x y : Dc} (hx : mayDc x = true) (hy : mayDc y = true) : addDc (addDc x y).1 (minusDc y) = (trimDc x, 0) := by
  obtain ⟨hxl, hx0, hx1⟩ := mayDc_iff.1 hx
  obtain ⟨hyl, hy0, hy1⟩ := mayDc_iff.1 hy
  have e := addDc_at hx hy (max x.s.toNat y.s.toNat) (by omega) (by omega)
  have hl := canon_le (max x.s.toNat y.s.toNat) (x.at_ (max x.s.toNat y.s.toNat) + y.at_ (max x.s.toNat y.s.toNat))
  rw [e]
  rw [addDc_at (N := max x.s.toNat y.s.toNat) (mayDc_canon _ (by omega) _) (by rw [mayDc_minus]; exact hy) hl (by show y.s.toNat ≤ _; omega), canon_at_self, minus_at, show ∀ p q : Int, p + q + -q = p from fun p q => by omega,
    canon_at _ _ (by omega), trimDc_canon hxl hx0]
theorem times_none {x : Dc} (hx : mayDc x = true) (k : Int) (h1 : -1000 ≤ k) (h2 : k ≤ 1000) : addDc (timesDc x k).1 (timesDc x (-k)).1 = (Dc.zero, 0) := by
  obtain ⟨hxl, hx0, hx1⟩ := mayDc_iff.1 hx
  have e1 : (timesDc x k).1 = canon x.s.toNat (k * x.z) := by unfold timesDc; rw [if_pos hx, if_neg (by omega)]
  have e2 : (timesDc x (-k)).1 = canon x.s.toNat (-(k * x.z)) := by unfold timesDc; rw [if_pos hx, if_neg (by omega), Int.neg_mul]
  rw [e1, e2, addDc_at (N := x.s.toNat) (mayDc_canon _ (by omega) _) (mayDc_canon _ (by omega) _) (canon_le _ _) (canon_le _ _), canon_at_self, canon_at_self, show k * x.z + -(k * x.z) = 0 from by omega, canon_zero]
theorem times_ok {x : Dc} (hx : mayDc x = true) (k : Int) (h1 : -1000 ≤ k) (h2 : k ≤ 1000) : (timesDc x k).2 = 0 := by
  unfold timesDc; rw [if_pos hx, if_neg (by omega)]
theorem align_back {x : Dc} {s : Int} (hs0 : (alignDc x s).2 = 0) : (alignDc x s).1.s = s ∧ cmpDc (alignDc x s).1 x = 0 := by
  unfold alignDc at hs0 ⊢
  by_cases hx : mayDc x = true
  · rw [if_pos hx] at hs0 ⊢
    by_cases hr : s < (trimDc x).s ∨ 1000 < s
    · rw [if_pos hr] at hs0; simp at hs0
    · rw [if_neg hr]
      obtain ⟨hxl, hx0, hx1⟩ := mayDc_iff.1 hx
      have hc := trimDc_canonic hxl hx0
      have hlo := hc.lo
      refine ⟨rfl, ?_⟩
      obtain ⟨k, rfl⟩ : ∃ k : Nat, s = (k : Int) := ⟨s.toNat, by omega⟩
      simp only
      rw [align_scaled hc k (by omega)]
      have hz : (scaled k ((trimDc x).at_ k)).z = (trimDc x).at_ k := by
        unfold scaled Dc.z
        simp only [val_digs]
        exact natAbs_val
      have hs : (scaled k ((trimDc x).at_ k)).s.toNat = k := by simp [scaled]
      have h2 := trimDc_at hxl hx0 (max k x.s.toNat) (by omega)
      rw [cmpDc_at _ _ (max k x.s.toNat) (by omega) (by omega), ← h2.1]
      have e : (scaled k ((trimDc x).at_ k)).at_ (max k x.s.toNat) = (trimDc x).at_ (max k x.s.toNat) := by
        rw [show (scaled k ((trimDc x).at_ k)).at_ (max k x.s.toNat) = (scaled k ((trimDc x).at_ k)).z * 10 ^ (max k x.s.toNat - (scaled k ((trimDc x).at_ k)).s.toNat) from rfl, hz, hs]
        exact at_up (by omega) (by omega)
      rw [e]
      unfold cmpI
      simp
  · rw [if_neg hx] at hs0; simp at hs0
theorem parts_len (l : List Int) (s : Nat) : (partsS l s).2.length = s := by
  unfold partsS
  have := wideL_len l s
  simp only [List.length_drop]
  omega
theorem parts_len1 (l : List Int) (s : Nat) : (partsS l s).1.length ≤ max l.length s := by
  unfold partsS
  have h1 := wideL_len l s
  have h2 := trimL_len ((wideL l s).take ((wideL l s).length - s))
  simp only [List.length_take] at h2 ⊢
  omega
theorem headed_at {l : List Int} (h : headed l) (hn : 0 < l.length) : l.getD 0 0 ≠ 0 := by
  cases l with
  | nil => simp at hn
  | cons d r => simpa using h d r rfl
theorem parts_headed (l : List Int) (s : Nat) : headed (partsS l s).1 := headed_trim _
theorem parts_val (l : List Int) (s : Nat) : val ((partsS l s).1 ++ (partsS l s).2) = val l := by
  have h1 := parts_len l s
  rw [val_append, h1]
  unfold partsS at *
  simp only at *
  rw [val_trim]
  have h2 := val_append ((wideL l s).take ((wideL l s).length - s)) ((wideL l s).drop ((wideL l s).length - s))
  rw [h1, List.take_append_drop] at h2
  rw [← h2]
  unfold wideL
  exact val_zeros_append _ _
theorem parts_may {l : List Int} (h : mayL l = true) (s : Nat) : mayL ((partsS l s).1 ++ (partsS l s).2) = true := by
  have hw : mayL (wideL l s) = true := by
    unfold wideL
    refine mayL_iff.2 fun x hx => ?_
    rcases List.mem_append.1 hx with hx | hx
    · exact mayL_iff.1 (mayL_replicate _) x hx
    · exact mayL_iff.1 h x hx
  refine mayL_iff.2 fun x hx => ?_
  rcases List.mem_append.1 hx with hx | hx
  · exact mayL_iff.1 (mayL_trim (mayL_take hw _)) x hx
  · exact mayL_iff.1 (mayL_drop hw _) x hx
theorem parts_cmpL {l : List Int} (h : mayL l = true) (s : Nat) : cmpL ((partsS l s).1 ++ (partsS l s).2) l = 0 := by
  rw [cmpL_val (parts_may h s) h, parts_val]; unfold cmpI; simp
theorem parts_cmpDc (b : Bool) (l : List Int) (s : Nat) : cmpDc ⟨b, (partsS l s).1 ++ (partsS l s).2, (s : Int)⟩ ⟨b, l, (s : Int)⟩ = 0 := by
  unfold cmpDc Dc.at_ Dc.z
  simp only [parts_val]
  unfold cmpI
  simp

theorem canon_len {s k : Nat} {z : Int} (h : z.natAbs < 10 ^ k) : (canon s z).l.length ≤ k := by
  by_cases hz : z = 0
  · subst hz; rw [canon_zero]; simp [Dc.zero]
  · rw [strip_canon s z hz]
    have h1 := stripZ_len s (digs z)
    have h2 := ofN_len (n := z.natAbs) (k := k) (by exact_mod_cast h)
    simp only
    unfold digs at h1
    unfold digs
    omega
theorem z_bd {d : Dc} (h : mayL d.l = true) {M : Nat} (hM : d.l.length ≤ M) : d.z.natAbs < 10 ^ M := by
  have h1 := val_bd h
  have h2 := pow_le hM
  have e : ((d.z.natAbs : Nat) : Int) < ((10 ^ M : Nat) : Int) := by
    push_cast
    unfold Dc.z
    cases d.neg <;> simp <;> omega
  exact_mod_cast e
theorem at_bd {d : Dc} (h : mayL d.l = true) {M N : Nat} (hM : d.l.length ≤ M) : (d.at_ N).natAbs < 10 ^ (M + N) := by
  have h1 := z_bd h hM
  unfold Dc.at_
  rw [Int.natAbs_mul, Int.natAbs_pow]
  have e : (10 : Nat) ^ (N - d.s.toNat) ≤ 10 ^ N := Nat.pow_le_pow_right (by omega) (by omega)
  have e2 : (10 : Int).natAbs = 10 := rfl
  rw [e2, Nat.pow_add]
  exact Nat.lt_of_le_of_lt (Nat.mul_le_mul_left _ e) (Nat.mul_lt_mul_of_pos_right h1 (Nat.pow_pos (by omega)))
theorem times_len {d : Dc} (h : mayL d.l = true) {M : Nat} (hM : d.l.length ≤ M) (k : Int) : (timesDc d k).1.l.length ≤ M + 4 := by
  unfold timesDc
  split
  · split
    · simp [Dc.zero]
    · refine canon_len ?_
      have h1 := z_bd h hM
      rw [Int.natAbs_mul]
      have h2 : k.natAbs ≤ 1000 := by omega
      have e := Nat.mul_le_mul_right d.z.natAbs h2
      rw [Nat.pow_add]
      omega
  · simp [Dc.zero]
theorem add_len {a b : Dc} (ha : mayL a.l = true) (hb : mayL b.l = true) {M N : Nat} (h1 : a.l.length ≤ M) (h2 : b.l.length ≤ M) (h3 : a.s.toNat ≤ N) (h4 : b.s.toNat ≤ N) : (addDc a b).1.l.length ≤ M + N + 1 := by
  unfold addDc
  split
  · rw [add_at a b N h3 h4]
    refine canon_len ?_
    have e1 := at_bd (N := N) ha h1
    have e2 := at_bd (N := N) hb h2
    rw [Nat.pow_succ]
    omega
  · simp [Dc.zero]
theorem mayL_times {d : Dc} (k : Int) : mayL (timesDc d k).1.l = true := by
  unfold timesDc
  split
  · split
    · rfl
    · exact (canonic _ _).may
  · rfl
theorem times_s {d : Dc} (h : d.s ≤ 1000) (k : Int) : 0 ≤ (timesDc d k).1.s ∧ (timesDc d k).1.s ≤ 1000 := by
  unfold timesDc
  split
  · split
    · simp [Dc.zero]
    · have := canonic d.s.toNat (k * d.z)
      have h1 := this.lo
      have h2 := this.hi
      simp only
      omega
  · simp [Dc.zero]
theorem add_s (a b : Dc) : 0 ≤ (addDc a b).1.s ∧ (addDc a b).1.s ≤ 1000 := by
  unfold addDc
  split
  · rename_i h
    simp only [Bool.and_eq_true] at h
    have h1 := mayDc_iff.1 h.1
    have h2 := mayDc_iff.1 h.2
    have := canonic (max a.s.toNat b.s.toNat) (a.at_ (max a.s.toNat b.s.toNat) + b.at_ (max a.s.toNat b.s.toNat))
    have h3 := this.lo
    have h4 := this.hi
    simp only
    omega
  · simp [Dc.zero]
theorem mayL_add (a b : Dc) : mayL (addDc a b).1.l = true := by
  unfold addDc
  split
  · exact (canonic _ _).may
  · rfl

end Go.Proofs.Ytppkifdngjcbeaa


namespace Go.Proofs.Ytppkifdngjcbeaa
open Go.RowKit

theorem LL.drew {w : World} {A : Option Addr} {n c : Nat} {ls : List (List Int)} (h : LL w A n c ls) : LL w.drew A n c ls := h
theorem blk_s4 {w0 W : World} {g : Nat} {t : TypeId} {a b c d : Value} (h : Blk w0 g t #[a, b, c, d] W) :
    (W.cell? ⟨g, 0, none⟩ = some a ∧ W.cell? ⟨g, 1, none⟩ = some b ∧ W.cell? ⟨g, 2, none⟩ = some c ∧ W.cell? ⟨g, 3, none⟩ = some d) ∧ Blk w0 g t #[a, b, c, d] W := ⟨⟨h.cell 0, h.cell 1, h.cell 2, h.cell 3⟩, h⟩

set_option maxHeartbeats 2000000 in
theorem ddec_any {A : Option Addr} {n c : Nat} {l : List Int} {E : Option Addr} {m k : Nat} {f : List Int} (b p : Bool) (w : World) (h : IL w A n c l) (g : IL w E m k f) (hl : I64 l) (hf : I64 f) (hn : n ≤ 10000) (hm : m ≤ 10000) :
    Calls Try.prog 26 #[.agg #[.bool b, .slice A n c, .bool p, .slice E m k]] w (RC w (decD ⟨b, l, p, f⟩)) := by
  have hI : I64 (l ++ f) := fun x hx => (List.mem_append.1 hx).elim (hl x) (hf x)
  have e1 := h.len
  have e2 := g.len
  have htr := Lib.hid (fun A n c W hW hn => dtrim_any (A := A) (n := n) (c := c) (l := l ++ f) b (m : Int) W hW hI hn (by omega) (by omega))
  have hco := Lib.hid (fun A n c W (hW : LL W A n c [l, f]) => show Calls Try.prog 71 #[.slice A n c] W (RO W (l ++ f)) by
    have := concat_any A n c [l, f] W hW (by simp) (fun q hq => by
      rcases List.mem_cons.1 hq with rfl | hq
      · omega
      · rcases List.mem_cons.1 hq with rfl | hq
        · omega
        · cases hq)
    have e : [l, f].flatten = l ++ f := by simp
    rw [e] at this
    exact this)
  have hD : Hid (decD ⟨b, l, p, f⟩ = trimDc ⟨b, l ++ f, (m : Int)⟩) := by rw [Hid, decD, e2]
  rw [hD.out]
  have hlen : (l ++ f).length ≤ 20000 := by simp; omega
  generalize trimDc ⟨b, l ++ f, (m : Int)⟩ = D at *
  have hX0 := (Blk.made w w 38 #[.bool b, .slice A n c, .bool p, .slice E m k] (Later.refl w) _ rfl).alloc (.cells #[.bool false, .slice none 0 0, .int .i64 0] 41)
  have hR0 := Blk.made w (w.alloc (.cells #[.bool b, .slice A n c, .bool p, .slice E m k] 38)) 41 #[.bool false, .slice none 0 0, .int .i64 0] ((Later.refl w).alloc _) (w.heap.size + 1) (by simp)
  have hIb := (h.alloc (.cells #[.bool b, .slice A n c, .bool p, .slice E m k] 38)).alloc (.cells #[.bool false, .slice none 0 0, .int .i64 0] 41)
  have gIb := (g.alloc (.cells #[.bool b, .slice A n c, .bool p, .slice E m k] 38)).alloc (.cells #[.bool false, .slice none 0 0, .int .i64 0] 41)
  clear hD
  go_enter Try.func26, Try.ntmps26
  go_upto_region 1 with fail
  obtain ⟨wb, hwb⟩ : ∃ wb, wb = (w.alloc (.cells #[.bool b, .slice A n c, .bool p, .slice E m k] 38)).alloc (.cells #[.bool false, .slice none 0 0, .int .i64 0] 41) := ⟨_, rfl⟩
  rw [← hwb] at hX0 hR0 hIb gIb
  rw [← hwb]
  clear hwb
  have HX := Lib.hid hX0
  have HR := Lib.hid hR0
  clear hX0 hR0
  go_region_held3 (fun W => (W.cell? ⟨w.heap.size, 0, none⟩ = some (.bool b) ∧ W.cell? ⟨w.heap.size, 1, none⟩ = some (.slice A n c) ∧ W.cell? ⟨w.heap.size, 2, none⟩ = some (.bool p) ∧ W.cell? ⟨w.heap.size, 3, none⟩ = some (.slice E m k)) ∧ Blk w w.heap.size 38 #[.bool b, .slice A n c, .bool p, .slice E m k] W)
    ((refine blk_s4 ?_; repeat (first | exact HX.out | exact And.right (by assumption) | refine Blk.drew ?_ | refine Blk.alloc ?_ _ | refine Blk.call ?_ hB2 | refine Blk.call ?_ hB1 | refine Blk.far ?_ (by simp <;> omega) (by simp <;> omega) _)))
    (first
      | (go_at_call 71; refine (hco.out _ _ _ _ (LL.drew (LL.pair1 hIb gIb _ _ rfl))).mono ?_; rintro e w1 ⟨A1, n1, c1, rfl, hO1, hB1⟩; have hR1 := ((HR.out.alloc _).drew.call hB1))
      | (go_at_call 63; refine (htr.out _ _ _ _ hO1.il (by have := hO1.len; omega)).mono ?_; rintro e w2 ⟨A2, n2, c2, rfl, hI2, hB2, hN2⟩; have hR2 := hR1.call hB2; have hlt := hR1.lt; obtain ⟨⟨y0, y1, y2⟩, ⟨y3, y4, y5⟩⟩ := hR2.cells3))
  all_goals
    go_wp2_with fail
    obtain ⟨⟨z0, z1, z2⟩, _⟩ := (hR2.store3 (.bool D.neg) (.slice A2 n2 c2) (.int .i64 D.s)).cells3
    exact bodyPost_ret (v := .agg #[.bool D.neg, .slice A2 n2 c2, .int .i64 D.s]) (by generalize World.setCell (World.setCell (World.setCell _ _ _) _ _) _ _ = W3 at z0 z1 z2 ⊢; simp [results, Try.results26, go_sem, z0, z1, z2]) rfl
      ⟨A2, n2, c2, rfl, hI2.set3 (fun hz a ha => by have := hN2 hz a ha; omega) _ _ _, below_set3 hR2.later (Nat.le_succ _) _ _ _, fun hz a ha => by have := hN2 hz a ha; omega⟩

end Go.Proofs.Ytppkifdngjcbeaa


namespace Go.Proofs.Ytppkifdngjcbeaa
open Go.RowKit

/-- A number's draft, of its digits ahead of the point and behind it. -/
def fromD (b : Bool) (P : List Int × List Int) (i j : Nat) : Dr :=
  if P.1.length = 0 ∧ P.2.length = 0 ∧ i = 0 ∧ j = 0 then ⟨b, [0], false, []⟩ else ⟨b, wideL P.1 i, decide (0 < P.2.length ∨ 0 < j), P.2 ++ List.replicate (j - P.2.length) 0⟩
/-- A number's draft, and the code. -/
def fromS (x : Dc) (i j : Int) : Dr × Int :=
  if mayDc x then if 0 ≤ i ∧ i ≤ 64 ∧ 0 ≤ j ∧ j ≤ 64 then (fromD (trimDc x).neg (partsS (trimDc x).l (trimDc x).s.toNat) i.toNat j.toNat, 0) else (Dr.none, 3) else (Dr.none, 1)
theorem none_zero (A : Option Addr) (B : Nat) : 0 < 0 → ∀ a, A = some a → B ≤ a.block := fun h => absurd h (by omega)
theorem strip_le (k : Nat) (l : List Int) : (stripZ k l).2 ≤ k ∧ (stripZ k l).1.length ≤ l.length := by
  induction k generalizing l with
  | zero => exact ⟨Nat.le_refl _, Nat.le_refl _⟩
  | succ k ih =>
    simp only [stripZ]
    split
    · have := ih l.dropLast
      rw [List.length_dropLast] at this
      omega
    · exact ⟨Nat.le_refl _, Nat.le_refl _⟩
theorem trim_scale (b : Bool) (l : List Int) (s : Nat) : ∃ k : Nat, (trimDc ⟨b, l, s⟩).s = k ∧ k ≤ s ∧ (trimDc ⟨b, l, s⟩).l.length ≤ l.length := by
  rw [trimDc_eq]
  have ht : (trimL l).length ≤ l.length := by rw [trimL_len]; omega
  split
  · exact ⟨0, rfl, Nat.zero_le _, Nat.zero_le _⟩
  · have := strip_le s (trimL l)
    exact ⟨_, rfl, this.1, by show (stripZ s (trimL l)).1.length ≤ _; omega⟩

theorem strip_mem (k : Nat) (l : List Int) : ∀ x, x ∈ (stripZ k l).1 → x ∈ l := by
  induction k generalizing l with
  | zero => exact fun x hx => hx
  | succ k ih =>
    simp only [stripZ]
    split
    · exact fun x hx => List.dropLast_subset _ (ih _ x hx)
    · exact fun x hx => hx
theorem trim_I64 (b : Bool) {l : List Int} (s : Nat) (h : I64 l) : I64 (trimDc ⟨b, l, s⟩).l := by
  rw [trimDc_eq]
  split
  · intro x hx; cases hx
  · intro x hx
    have h2 := strip_mem _ _ x hx
    rw [trimL_drop] at h2
    exact h x (List.mem_of_mem_drop h2)

theorem from1_any (x : Int) (w : World) (h1 : -9223372036854775808 ≤ x) (h2 : x ≤ 9223372036854775807) :
    Calls Try.prog 61 #[.int .i64 x] w fun e w' => e = .returned (.bool (decide (0 ≤ x) && decide (x ≤ 64))) ∧ w = w' := by
  by_cases h : x < 0
  · go_enter Try.func61, Try.ntmps61
    go_wp2
    go_ret
    exact ⟨ret_bool (by first | (simp; done) | (simp; omega)), rfl⟩
  · go_enter Try.func61, Try.ntmps61
    go_wp2
    go_ret
    exact ⟨ret_bool (by first | (rw [Bool.eq_iff_iff]; done) | (rw [Bool.eq_iff_iff]; simp; done) | (rw [Bool.eq_iff_iff]; simp; omega)), rfl⟩

set_option maxHeartbeats 2000000 in
theorem dfrom_any {A : Option Addr} {n c : Nat} {l : List Int} (b : Bool) (s i j : Int) (w : World) (h : IL w A n c l) (hl : I64 l) (hn : n ≤ 10000) (hs : -9223372036854775808 ≤ s ∧ s ≤ 9223372036854775807)
    (hi : -9223372036854775808 ≤ i ∧ i ≤ 9223372036854775807) (hj : -9223372036854775808 ≤ j ∧ j ≤ 9223372036854775807) :
    Calls Try.prog 20 #[.agg #[.bool b, .slice A n c, .int .i64 s], .int .i64 i, .int .i64 j] w (RDE w (fromS ⟨b, l, s⟩ i j).1 (fromS ⟨b, l, s⟩ i j).2) := by
  have hmay := Lib.hid (fun W hW => cmay_any (A := A) (n := n) (c := c) (l := l) b s W hW hl hs)
  have hin := Lib.hid (fun W => from1_any i W hi.1 hi.2)
  have hjn := Lib.hid (fun W => from1_any j W hj.1 hj.2)
  have hX : Blk w w.heap.size 41 #[.bool b, .slice A n c, .int .i64 s] ((w.alloc (.cells #[.bool b, .slice A n c, .int .i64 s] 41)).alloc (.cells #[.bool false, .slice none 0 0, .bool false, .slice none 0 0] 38)) := (Blk.made w w _ _ (Later.refl w) _ rfl).alloc _
  have hR : Fresh4 w (w.heap.size + 1) 38 (.bool false) (.slice none 0 0) (.bool false) (.slice none 0 0) ((w.alloc (.cells #[.bool b, .slice A n c, .int .i64 s] 41)).alloc (.cells #[.bool false, .slice none 0 0, .bool false, .slice none 0 0] 38)) := Fresh4.made w _ _ _ _ _ _ ((Later.refl w).alloc _) _ (by simp)
  generalize hD : fromS ⟨b, l, s⟩ i j = D
  cases hm1 : mayDc ⟨b, l, s⟩
  · have HD : Hid (D = (Dr.none, 1)) := by rw [Hid, ← hD, fromS, hm1]; rfl
    rw [hm1] at hmay
    clear hD hm1
    go_enter Try.func20, Try.ntmps20
    go_wp2_with fail
    refine (hmay.out _ ((h.alloc _).alloc _)).mono ?_
    rintro e w1 ⟨rfl, hB⟩
    have hR1 := hR.call hB
    obtain ⟨⟨c0, c1', c2', c3⟩, ⟨f0, f1, f2, f3⟩⟩ := hR1.cells
    go_wp2_with fail
    rw [HD.out]
    obtain ⟨⟨z0, z1, z2, z3⟩, _⟩ := (hR1.store (.bool false) (.slice none 0 0) (.bool false) (.slice none 0 0)).cells
    exact bodyPost_ret (v := .tuple #[.agg #[.bool false, .slice none 0 0, .bool false, .slice none 0 0], .int .i64 1]) (by generalize World.setCell (World.setCell (World.setCell (World.setCell _ _ _) _ _) _ _) _ _ = W3 at z0 z1 z2 z3 ⊢; simp [results, Try.results20, go_sem, z0, z1, z2, z3]) rfl
      ⟨none, 0, 0, none, 0, 0, rfl, IL.nil _, IL.nil _, below_set4 hR1.2.2 (Nat.le_succ _) _ _ _ _, none_newer _, none_newer _⟩
  · rw [hm1] at hmay
    obtain ⟨hml, hs0, hs1⟩ := mayDc_iff.1 hm1
    simp only at hml hs0 hs1
    by_cases h0 : 0 ≤ i ∧ i ≤ 64
    case neg =>
      have HD : Hid (D = (Dr.none, 3)) := by rw [Hid, ← hD, fromS, hm1, if_pos rfl, if_neg (by omega)]
      have hin0 : (decide (0 ≤ i) && decide (i ≤ 64)) = false := by rw [Bool.eq_false_iff]; intro q; simp at q; exact h0 q
      rw [hin0] at hin
      clear hD hm1 hml hin0 h0
      go_enter Try.func20, Try.ntmps20
      go_wp2_with fail
      refine (hmay.out _ ((h.alloc _).alloc _)).mono ?_
      rintro e w1 ⟨rfl, hB⟩
      have hR1 := hR.call hB
      obtain ⟨⟨c0, c1', c2', c3⟩, ⟨f0, f1, f2, f3⟩⟩ := hR1.cells
      go_wp2_with fail
      refine (hin.out _).mono ?_
      rintro e w2 ⟨rfl, rfl⟩
      go_wp2_with fail
      rw [HD.out]
      obtain ⟨⟨z0, z1, z2, z3⟩, _⟩ := (hR1.store (.bool false) (.slice none 0 0) (.bool false) (.slice none 0 0)).cells
      exact bodyPost_ret (v := .tuple #[.agg #[.bool false, .slice none 0 0, .bool false, .slice none 0 0], .int .i64 3]) (by generalize World.setCell (World.setCell (World.setCell (World.setCell _ _ _) _ _) _ _) _ _ = W3 at z0 z1 z2 z3 ⊢; simp [results, Try.results20, go_sem, z0, z1, z2, z3]) rfl
        ⟨none, 0, 0, none, 0, 0, rfl, IL.nil _, IL.nil _, below_set4 hR1.2.2 (Nat.le_succ _) _ _ _ _, none_newer _, none_newer _⟩
    have hin0 : (decide (0 ≤ i) && decide (i ≤ 64)) = true := by simp; exact h0
    rw [hin0] at hin
    by_cases h2 : 0 ≤ j ∧ j ≤ 64
    case neg =>
      have HD : Hid (D = (Dr.none, 3)) := by rw [Hid, ← hD, fromS, hm1, if_pos rfl, if_neg (by omega)]
      have hjn0 : (decide (0 ≤ j) && decide (j ≤ 64)) = false := by rw [Bool.eq_false_iff]; intro q; simp at q; exact h2 q
      rw [hjn0] at hjn
      clear hD hm1 hml hjn0 h2
      go_enter Try.func20, Try.ntmps20
      go_wp2_with fail
      refine (hmay.out _ ((h.alloc _).alloc _)).mono ?_
      rintro e w1 ⟨rfl, hB⟩
      have hR1 := hR.call hB
      obtain ⟨⟨c0, c1', c2', c3⟩, ⟨f0, f1, f2, f3⟩⟩ := hR1.cells
      go_wp2_with fail
      refine (hin.out _).mono ?_
      rintro e w2 ⟨rfl, rfl⟩
      go_wp2_with fail
      refine (hjn.out _).mono ?_
      rintro e w2 ⟨rfl, rfl⟩
      go_wp2_with fail
      rw [HD.out]
      obtain ⟨⟨z0, z1, z2, z3⟩, _⟩ := (hR1.store (.bool false) (.slice none 0 0) (.bool false) (.slice none 0 0)).cells
      exact bodyPost_ret (v := .tuple #[.agg #[.bool false, .slice none 0 0, .bool false, .slice none 0 0], .int .i64 3]) (by generalize World.setCell (World.setCell (World.setCell (World.setCell _ _ _) _ _) _ _) _ _ = W3 at z0 z1 z2 z3 ⊢; simp [results, Try.results20, go_sem, z0, z1, z2, z3]) rfl
        ⟨none, 0, 0, none, 0, 0, rfl, IL.nil _, IL.nil _, below_set4 hR1.2.2 (Nat.le_succ _) _ _ _ _, none_newer _, none_newer _⟩
    have hjn0 : (decide (0 ≤ j) && decide (j ≤ 64)) = true := by simp; exact h2
    rw [hjn0] at hjn
    obtain ⟨i', rfl⟩ := Int.eq_ofNat_of_zero_le h0.1
    obtain ⟨j', rfl⟩ := Int.eq_ofNat_of_zero_le h2.1
    obtain ⟨s', rfl⟩ := Int.eq_ofNat_of_zero_le hs0
    have hi64 : i' ≤ 64 := by omega
    have hj64 : j' ≤ 64 := by omega
    have hs64 : s' ≤ 1000 := by omega
    obtain ⟨q, hq, hqs, hql⟩ := trim_scale b l s'
    have htr := Lib.hid (fun W hW => dtrim_any (A := A) (n := n) (c := c) (l := l) b (s' : Int) W hW hl (by omega) (by omega) (by omega))
    have hmt : I64 (trimDc ⟨b, l, (s' : Int)⟩).l := trim_I64 b s' hl
    have HD0 : Hid (D = (fromD (trimDc ⟨b, l, (s' : Int)⟩).neg (partsS (trimDc ⟨b, l, (s' : Int)⟩).l q) i' j', 0)) := by
      rw [Hid, ← hD, fromS, hm1, if_pos rfl, if_pos (by omega), hq]; rfl
    have hlen := h.len
    clear hD hm1 hml hs0 hs1 h0 h2 hin0 hjn0 hi hj hs
    generalize trimDc ⟨b, l, (s' : Int)⟩ = T at *
    obtain ⟨tb, tl, ts⟩ := T
    simp only at hq hql hmt HD0
    subst hq
    go_enter Try.func20, Try.ntmps20
    go_wp2_with fail
    refine (hmay.out _ ((h.alloc _).alloc _)).mono ?_
    rintro e w1 ⟨rfl, hB⟩
    have hX1 := hX.call hB
    have hR1 := hR.call hB
    obtain ⟨x0, x1, x2⟩ := hX1.cells3.1
    go_wp2_with fail
    refine (hin.out _).mono ?_
    rintro e w2 ⟨rfl, rfl⟩
    go_wp2_with fail
    refine (hjn.out _).mono ?_
    rintro e w2 ⟨rfl, rfl⟩
    go_wp2_with fail
    refine (htr.out _ (h.later hR1.2.2)).mono ?_
    rintro e w2 ⟨A2, n2, c2, rfl, hI2, hB2, hN2⟩
    have hR2 := hR1.call hB2
    have hg2 : w.heap.size + 2 ≤ w2.heap.size := hR2.lt
    have hn2 : n2 ≤ 10000 := by have := hI2.len; simp only at this; omega
    have hT2 := Blk.made w w2 41 #[.bool tb, .slice A2 n2 c2, .int .i64 (q : Int)] hR2.2.2 _ rfl
    have hRT := hR2.alloc (.cells #[.bool tb, .slice A2 n2 c2, .int .i64 (q : Int)] 41)
    have hIT := hI2.alloc (.cells #[.bool tb, .slice A2 n2 c2, .int .i64 (q : Int)] 41)
    clear hX1 x0 x1 x2 hX hR hR1 hR2 hmay hin hjn htr
    have hpa := Lib.hid (fun W hW => parts_any (A := A2) (n := n2) (c := c2) (l := tl) tb q W hW hmt (by omega) (by omega))
    have hpl : (partsS tl q).1.length ≤ 11000 ∧ (partsS tl q).2.length ≤ 11000 := by
      have e1 := wideL_len tl q
      have e2 : (partsS tl q).1 = trimL ((wideL tl q).take ((wideL tl q).length - q)) := rfl
      have e3 : (partsS tl q).2 = (wideL tl q).drop ((wideL tl q).length - q) := rfl
      have e4 := trimL_len ((wideL tl q).take ((wideL tl q).length - q))
      rw [e2, e3, e4]
      simp only [List.length_take, List.length_drop]
      omega
    generalize partsS tl q = P at *
    obtain ⟨P1, P2⟩ := P
    simp only at hpl HD0 hpa
    go_upto_region 7 with fail
    obtain ⟨v1, hv1⟩ : ∃ v1, v1 = w2.alloc (.cells #[.bool tb, .slice A2 n2 c2, .int .i64 (q : Int)] 41) := ⟨_, rfl⟩
    rw [← hv1] at hT2 hRT hIT
    rw [← hv1]
    have hg : w.heap.size + 2 ≤ w2.heap.size := hg2
    clear hv1
    generalize w2.heap.size = gT at *
    obtain ⟨t0, t1, t2⟩ := hT2.cells3.1
    go_wp2_with fail
    refine (hpa.out _ hIT).mono ?_
    rintro e w3 ⟨A3, n3, c3, A4, n4, c4, rfl, hI3, hI4, hB3⟩
    have hR3 := hRT.call hB3
    have hT3 := hT2.call hB3
    have hn3 : P1.length = n3 := hI3.len
    have hn4 : P2.length = n4 := hI4.len
    have HP1 := Lib.hid hn3
    clear hT2 hRT hIT hpa t0 t1 t2
    go_upto_region 8 with fail
    obtain ⟨d, hd⟩ : ∃ d, d = i' - n3 := ⟨_, rfl⟩
    have hmk := run_make_row' (P := Try.prog) 23 3 (.int .i64 0) 8 Try.underlying23 int_info rfl .i64 .i64 d (by omega) (by omega)
    rw [made_zeros] at hmk
    have hmax : (if (i' : Int) - (n3 : Int) < 0 then 0 else (i' : Int) - (n3 : Int)) = (d : Int) := by split <;> omega
    have hwr : IntKind.i64.wrap ((i' : Int) - (n3 : Int)) = (i' : Int) - (n3 : Int) := IntWalk.i64_in _ (by omega)
    have hdh : Hid (d = i' - n3) := hd
    have hdb : d + n3 ≤ 20000 := by omega
    clear hd
    have hO0 : OL (w3.alloc (.cells (List.replicate d (Value.int .i64 0)).toArray 3)) w3.heap.size (some ⟨w3.heap.size, 0, none⟩) d d (List.replicate d 0) :=
      OL.full (IL.of_heap (t := 3) (by rw [List.map_replicate]; exact (Blk.made w3 w3 3 _ (Later.refl _) _ rfl).2.1) (by simp) (by omega)) (fun q => by cases q) _ (fun _ => ⟨_, rfl, Nat.le_refl _⟩)
    generalize List.replicate d (Value.int .i64 0) = zs at *
    have HO0 := Lib.hid hO0
    clear hO0
    go_wp2_with (first
      | (at_builtin; refine wpList_append_OL w3.heap.size rfl (.tmp 41) (.tmp 42) rfl rfl rfl HO0.out (hI3.alloc _) (by simp) (by omega) ?_; intro A5 c5 w5 hO5 hB5 _))
    have hB35 : Below w3.heap.size w3 w5 := ((Below.refl _ _).alloc (Nat.le_refl _) _).trans hB5
    have hR5 := hR3.call hB35
    have hT5 := hT3.call hB35
    have hI4' := hI4.below hB35
    have hz3 := hR3.lt
    clear hmk hmax hwr HO0 hI3 hI4 hR3 hT3
    go_upto_region 9 with fail
    obtain ⟨e9, he9⟩ : ∃ d, d = j' - n4 := ⟨_, rfl⟩
    have hmax : (if (j' : Int) - (n4 : Int) < 0 then 0 else (j' : Int) - (n4 : Int)) = (e9 : Int) := by split <;> omega
    have hwr : IntKind.i64.wrap ((j' : Int) - (n4 : Int)) = (j' : Int) - (n4 : Int) := IntWalk.i64_in _ (by omega)
    have heh : Hid (e9 = j' - n4) := he9
    have heb : n4 + e9 ≤ 20000 := by omega
    clear he9
    go_wp2_with fail
    refine (clone_any _ _ _ P2 _ hI4' (by omega)).mono ?_
    rintro e w6 ⟨A6, n6, c6, rfl, hO6, hB6⟩
    obtain rfl : n6 = n4 := by have := hO6.len; omega
    have hz5 := hB35.size
    go_upto_region 10 with (first
      | (at_builtin; refine wpList_append_zeros w5.heap.size rfl (.tmp 45) (.tmp 50) rfl rfl rfl hO6 hB6.size (by omega) ?_; intro A7 c7 w7 hO7 hB7))
    have hB57 := hB6.trans hB7
    have hR7 := hR5.call hB57
    have hT7 := hT5.call hB57
    have hO5' := hO5.il.below hB57
    have hz7 := hR7.lt
    have hzt := hT5.lt
    have hap5 : 0 < d + n3 → ∀ a, A5 = some a → w.heap.size + 2 ≤ a.block := hO5.newer (by omega)
    have hap7 : 0 < n6 + e9 → ∀ a, A7 = some a → w.heap.size + 2 ≤ a.block := hO7.newer (by omega)
    have hL7 : Hid (List.replicate d 0 ++ P1 = wideL P1 i') := by rw [Hid, wideL, hn3, hdh.out]
    have hsP : Hid (i' = 0 → n3 = 0 → d = 0) := fun q r => by rw [hdh.out]; omega
    have hsQ : Hid (j' = 0 → e9 = 0) := fun q => by rw [heh.out]; omega
    have hsR : Hid (d = 0 → n3 = 0 → i' = 0) := fun q r => by have := hdh.out; omega
    have hsS : Hid (e9 = 0 → n6 = 0 → j' = 0) := fun q r => by have := heh.out; omega
    obtain ⟨NA, hNA⟩ : ∃ x, Hid (x = d + n3) := ⟨_, rfl⟩
    obtain ⟨NB, hNB⟩ : ∃ x, Hid (x = n6 + e9) := ⟨_, rfl⟩
    rw [hL7.out, ← hNA.out] at hO5'
    have hL9 : Hid (List.replicate e9 (0 : Int) = List.replicate (j' - n6) 0) := by rw [Hid, heh.out]
    rw [← hNA.out, ← hNB.out]
    rw [← hNA.out] at hap5
    rw [← hNB.out] at hap7
    rw [← hNB.out, hL9.out] at hO7
    have hNAb : NA ≤ 20000 := by rw [hNA.out]; omega
    have hNBb : NB ≤ 20000 := by rw [hNB.out]; omega
    clear hdb heb hn3 hR5 hT5 hI4' hO6 hB6 hB7 hB57 hO5 hB5 hB35 hz5 hmax hwr
    by_cases hz : NA = 0 ∧ NB = 0
    · have HD : Hid (D = (⟨tb, [0], false, []⟩, 0)) := by
        have e1 := hNA.out
        have e2 := hNB.out
        have e3 := hsR.out (by omega) (by omega)
        have e4 := hsS.out (by omega) (by omega)
        rw [Hid, HD0.out, fromD, if_pos ⟨by show P1.length = 0; rw [HP1.out]; omega, by show P2.length = 0; omega, e3, e4⟩]
      have hz1 : (((NA : Int) + (NB : Int)) == (0 : Int)) = true := by simp; omega
      have hz2 : decide (0 < NB) = false := by simp; omega
      have hzB := Lib.hid hz.2
      clear hz
      clear hsP hsQ hsR hsS hNA hNB hL7
      go_upto_region 12 with fail
      have hR8 := hR7.alloc (.cells #[.int .i64 0] 3)
      have hT8 := hT7.alloc (.cells #[.int .i64 0] 3)
      have hI8 := IL.one w7 3 0
      have hO8 := hO7.il.alloc (.cells #[.int .i64 0] 3)
      generalize World.alloc w7 _ = w8 at *
      obtain ⟨t0, t1, t2⟩ := hT8.cells3.1
      obtain ⟨⟨c0, c1', c2', c3⟩, ⟨f0, f1, f2, f3⟩⟩ := hR8.cells
      go_wp2_with fail
      rw [HD.out]
      obtain ⟨⟨z0, z1, z2, z3⟩, _⟩ := (hR8.store (.bool tb) (.slice (some ⟨w7.heap.size, 0, none⟩) 1 1) (.bool false) (.slice A7 NB c7)).cells
      refine bodyPost_ret (v := .tuple #[.agg #[.bool tb, .slice (some ⟨w7.heap.size, 0, none⟩) 1 1, .bool false, .slice A7 NB c7], .int .i64 0]) (by generalize World.setCell (World.setCell (World.setCell (World.setCell _ _ _) _ _) _ _) _ _ = W3 at z0 z1 z2 z3 ⊢; simp [results, Try.results20, go_sem, z0, z1, z2, z3]) rfl ?_
      have q := hO8.set4 (g := w.heap.size + 1) (fun hz a ha => by have := hap7 hz a ha; omega) (.bool tb) (.slice (some ⟨w7.heap.size, 0, none⟩) 1 1) (.bool false) (.slice A7 NB c7)
      have e : P2 ++ List.replicate (j' - n6) 0 = [] := List.eq_nil_of_length_eq_zero (by have := hO8.len; have := hzB.out; omega)
      rw [e] at q
      exact ⟨_, 1, 1, A7, NB, c7, rfl, hI8.set4 (fun _ a ha => by obtain rfl := Option.some.inj ha; show w7.heap.size ≠ _; omega) _ _ _ _, q, below_set4 hR8.2.2 (Nat.le_succ _) _ _ _ _, fun _ a ha => by obtain rfl := Option.some.inj ha; show _ ≤ w7.heap.size; omega, fun hz a ha => by have := hap7 hz a ha; omega⟩
    · have hsum : (((NA : Int) + (NB : Int)) == (0 : Int)) = false := by simp; omega
      have HD1 : Hid (D = (⟨tb, wideL P1 i', decide (0 < NB), P2 ++ List.replicate (j' - n6) 0⟩, 0)) := by
        have e1 := hNA.out
        have e2 := hNB.out
        have e5 := HP1.out
        rw [Hid, HD0.out, fromD, if_neg (fun q => hz (by obtain ⟨r1, r2, r3, r4⟩ : P1.length = 0 ∧ P2.length = 0 ∧ i' = 0 ∧ j' = 0 := q; have q1 := hsP.out r3 (by omega); have q2 := hsQ.out r4; omega))]
        have e6 : decide (0 < P2.length ∨ 0 < j') = decide (0 < NB) := by
          rw [Bool.eq_iff_iff]
          simp only [decide_eq_true_eq]
          constructor
          · intro q
            by_cases r : NB = 0
            · have := hsS.out (by omega) (by omega); omega
            · omega
          · intro q
            by_cases r : j' = 0
            · have := hsQ.out r; omega
            · omega
        show ((⟨tb, wideL P1 i', decide (0 < P2.length ∨ 0 < j'), P2 ++ List.replicate (j' - P2.length) 0⟩ : Dr), (0 : Int)) = _
        rw [e6, hn4]
      clear hz hsP hsQ hsR hsS hNA hNB hL7 HD0
      obtain ⟨t0, t1, t2⟩ := hT7.cells3.1
      obtain ⟨⟨c0, c1', c2', c3⟩, ⟨f0, f1, f2, f3⟩⟩ := hR7.cells
      have HD := HD1
      go_wp2_with fail
      rw [HD.out]
      obtain ⟨⟨z0, z1, z2, z3⟩, _⟩ := (hR7.store (.bool tb) (.slice A5 NA c5) (.bool (decide (0 < NB))) (.slice A7 NB c7)).cells
      exact bodyPost_ret (v := .tuple #[.agg #[.bool tb, .slice A5 NA c5, .bool (decide (0 < NB)), .slice A7 NB c7], .int .i64 0]) (by generalize World.setCell (World.setCell (World.setCell (World.setCell _ _ _) _ _) _ _) _ _ = W3 at z0 z1 z2 z3 ⊢; simp [results, Try.results20, go_sem, z0, z1, z2, z3]) rfl
        ⟨A5, NA, c5, A7, NB, c7, rfl, hO5'.set4 (fun hz a ha => by have := hap5 hz a ha; omega) _ _ _ _, hO7.il.set4 (fun hz a ha => by have := hap7 hz a ha; omega) _ _ _ _, below_set4 hR7.2.2 (Nat.le_succ _) _ _ _ _, fun hz a ha => by have := hap5 hz a ha; omega, fun hz a ha => by have := hap7 hz a ha; omega⟩

end Go.Proofs.Ytppkifdngjcbeaa


namespace Go.Proofs.Ytppkifdngjcbeaa
open Go.RowKit

theorem IL.grown0 {w w' : World} {A : Option Addr} {n c : Nat} {l : List Int} {row : Option Nat} (h : IL w A n c l) (hg : w.grownBy w' row) (hr : 0 < n → ∀ a, A = some a → some a.block ≠ row) : IL w' A n c l := by
  rcases Nat.eq_zero_or_pos n with h0 | h0
  · subst h0
    have e : l = [] := List.eq_nil_of_length_eq_zero h.len
    subst e
    exact IL.empty _ _ _ h.cap
  · exact h.grown hg (hr h0)
theorem IL.blk_lt {w : World} {A : Option Addr} {n c : Nat} {l : List Int} (h : IL w A n c l) (hz : 0 < n) : ∀ a, A = some a → a.block < w.heap.size := fun a ha => by
  obtain ⟨b, off, e, hb, _⟩ := h.2.2.2 hz
  rw [e] at ha
  obtain rfl := Option.some.inj ha
  exact hb
/-- How many numbers stand in the fourth cell's slice. -/
def lenAt (g : Nat) (W : World) : Nat := match W.cell? ⟨g, 3, none⟩ with
  | some (.slice _ n _) => n
  | _ => 0
theorem lenAt_eq {g : Nat} {W : World} {A : Option Addr} {n c : Nat} (h : W.cell? ⟨g, 3, none⟩ = some (.slice A n c)) : lenAt g W = n := by unfold lenAt; rw [h]
set_option maxHeartbeats 4000000 in
theorem rfrom_any {A : Option Addr} {n c : Nat} {l : List Int} (b : Bool) (s i j : Int) (w : World) (h : IL w A n c l) (hl : I64 l) (hn : n ≤ 10000) (hs : -9223372036854775808 ≤ s ∧ s ≤ 9223372036854775807)
    (hi : -9223372036854775808 ≤ i ∧ i ≤ 9223372036854775807) (hj : -9223372036854775808 ≤ j ∧ j ≤ 9223372036854775807) :
    Calls Try.prog 21 #[.agg #[.bool b, .slice A n c, .int .i64 s], .int .i64 i, .int .i64 j] w (RDE w (fromS ⟨b, l, s⟩ i j).1 (fromS ⟨b, l, s⟩ i j).2) := by
  have hmay := Lib.hid (fun W hW => rcmay_any (A := A) (n := n) (c := c) (l := l) b s W hW hs)
  have hX : Blk w w.heap.size 34 #[.bool b, .slice A n c, .int .i64 s] ((w.alloc (.cells #[.bool b, .slice A n c, .int .i64 s] 34)).alloc (.cells #[.bool false, .slice none 0 0, .bool false, .slice none 0 0] 42)) := (Blk.made w w _ _ (Later.refl w) _ rfl).alloc _
  have hR : Fresh4 w (w.heap.size + 1) 42 (.bool false) (.slice none 0 0) (.bool false) (.slice none 0 0) ((w.alloc (.cells #[.bool b, .slice A n c, .int .i64 s] 34)).alloc (.cells #[.bool false, .slice none 0 0, .bool false, .slice none 0 0] 42)) := Fresh4.made w _ _ _ _ _ _ ((Later.refl w).alloc _) _ (by simp)
  generalize hD : fromS ⟨b, l, s⟩ i j = D
  cases hm1 : mayDc ⟨b, l, s⟩
  · have HD : Hid (D = (Dr.none, 1)) := by rw [Hid, ← hD, fromS, hm1]; rfl
    rw [hm1] at hmay
    clear hD hm1
    go_enter Try.func21, Try.ntmps21
    go_wp2_with fail
    refine (hmay.out _ ((h.alloc _).alloc _)).mono ?_
    rintro e w1 ⟨rfl, hB⟩
    have hR1 := hR.call hB
    obtain ⟨⟨c0, c1', c2', c3⟩, ⟨f0, f1, f2, f3⟩⟩ := hR1.cells
    go_wp2_with fail
    rw [HD.out]
    obtain ⟨⟨z0, z1, z2, z3⟩, _⟩ := (hR1.store (.bool false) (.slice none 0 0) (.bool false) (.slice none 0 0)).cells
    exact bodyPost_ret (v := .tuple #[.agg #[.bool false, .slice none 0 0, .bool false, .slice none 0 0], .int .i64 1]) (by generalize World.setCell (World.setCell (World.setCell (World.setCell _ _ _) _ _) _ _) _ _ = W3 at z0 z1 z2 z3 ⊢; simp [results, Try.results21, go_sem, z0, z1, z2, z3]) rfl
      ⟨none, 0, 0, none, 0, 0, rfl, IL.nil _, IL.nil _, below_set4 hR1.2.2 (Nat.le_succ _) _ _ _ _, none_newer _, none_newer _⟩
  · rw [hm1] at hmay
    obtain ⟨hml, hs0, hs1⟩ := mayDc_iff.1 hm1
    simp only at hml hs0 hs1
    by_cases h0 : 0 ≤ i ∧ i ≤ 64 ∧ 0 ≤ j ∧ j ≤ 64
    case neg =>
      have HD : Hid (D = (Dr.none, 3)) := by rw [Hid, ← hD, fromS, hm1, if_pos rfl, if_neg h0]
      clear hD hm1 hml
      have hcs : i < 0 ∨ (¬ i < 0 ∧ 64 < i) ∨ (¬ i < 0 ∧ ¬ 64 < i ∧ j < 0) ∨ (¬ i < 0 ∧ ¬ 64 < i ∧ ¬ j < 0 ∧ 64 < j) := by omega
      clear h0
      rcases hcs with q0 | ⟨q0, q1⟩ | ⟨q0, q1, q2⟩ | ⟨q0, q1, q2, q3⟩
      all_goals
        go_enter Try.func21, Try.ntmps21
        go_wp2_with fail
        refine (hmay.out _ ((h.alloc _).alloc _)).mono ?_
        rintro e w1 ⟨rfl, hB⟩
        have hR1 := hR.call hB
        obtain ⟨⟨c0, c1', c2', c3⟩, ⟨f0, f1, f2, f3⟩⟩ := hR1.cells
        go_wp2_with fail
        rw [HD.out]
        obtain ⟨⟨z0, z1, z2, z3⟩, _⟩ := (hR1.store (.bool false) (.slice none 0 0) (.bool false) (.slice none 0 0)).cells
        exact bodyPost_ret (v := .tuple #[.agg #[.bool false, .slice none 0 0, .bool false, .slice none 0 0], .int .i64 3]) (by generalize World.setCell (World.setCell (World.setCell (World.setCell _ _ _) _ _) _ _) _ _ = W3 at z0 z1 z2 z3 ⊢; simp [results, Try.results21, go_sem, z0, z1, z2, z3]) rfl
          ⟨none, 0, 0, none, 0, 0, rfl, IL.nil _, IL.nil _, below_set4 hR1.2.2 (Nat.le_succ _) _ _ _ _, none_newer _, none_newer _⟩
    obtain ⟨i', rfl⟩ := Int.eq_ofNat_of_zero_le h0.1
    obtain ⟨j', rfl⟩ := Int.eq_ofNat_of_zero_le h0.2.2.1
    obtain ⟨s', rfl⟩ := Int.eq_ofNat_of_zero_le hs0
    have hi64 : i' ≤ 64 := by omega
    have hj64 : j' ≤ 64 := by omega
    have hs64 : s' ≤ 1000 := by omega
    obtain ⟨q, hq, hqs, hql⟩ := trim_scale b l s'
    have htr := Lib.hid (fun W hW => rdtrim_any (A := A) (n := n) (c := c) (l := l) b (s' : Int) W hW hl (by omega) (by omega) (by omega))
    have HD0 : Hid (D = (fromD (trimDc ⟨b, l, (s' : Int)⟩).neg (partsS (trimDc ⟨b, l, (s' : Int)⟩).l q) i' j', 0)) := by
      rw [Hid, ← hD, fromS, hm1, if_pos rfl, if_pos h0, hq]; rfl
    have hlen := h.len
    clear hD hm1 hml hs0 hs1 h0 hi hj hs
    generalize trimDc ⟨b, l, (s' : Int)⟩ = T at *
    obtain ⟨tb, tl, ts⟩ := T
    simp only at hq hql HD0
    subst hq
    have ki0 : ¬ ((i' : Int) < 0) := by omega
    have ki1 : ¬ ((64 : Int) < (i' : Int)) := by omega
    have kj0 : ¬ ((j' : Int) < 0) := by omega
    have kj1 : ¬ ((64 : Int) < (j' : Int)) := by omega
    go_enter Try.func21, Try.ntmps21
    go_wp2_with fail
    refine (hmay.out _ ((h.alloc _).alloc _)).mono ?_
    rintro e w1 ⟨rfl, hB⟩
    have hX1 := hX.call hB
    have hR1 := hR.call hB
    obtain ⟨x0, x1, x2⟩ := hX1.cells3.1
    go_wp2_with fail
    refine (htr.out _ (h.later hR1.2.2)).mono ?_
    rintro e w2 ⟨A2, n2, c2, rfl, hI2, hB2, hN2⟩
    have hR2 := hR1.call hB2
    have hg2 : w.heap.size + 2 ≤ w2.heap.size := hR2.lt
    have hn2 : n2 ≤ 10000 := by have := hI2.len; simp only at this; omega
    have hT2 := Blk.made w w2 34 #[.bool tb, .slice A2 n2 c2, .int .i64 (q : Int)] hR2.2.2 _ rfl
    have hRT := hR2.alloc (.cells #[.bool tb, .slice A2 n2 c2, .int .i64 (q : Int)] 34)
    have hIT := hI2.alloc (.cells #[.bool tb, .slice A2 n2 c2, .int .i64 (q : Int)] 34)
    clear hX1 x0 x1 x2 hX hR hR1 hR2 hmay htr ki0 ki1 kj0 kj1
    have hpa := Lib.hid (fun W hW => rparts_any (A := A2) (n := n2) (c := c2) (l := tl) tb q W hW (by omega) (by omega))
    have hpl : (partsS tl q).1.length ≤ 11000 ∧ (partsS tl q).2.length ≤ 11000 := by
      have e1 := wideL_len tl q
      have e2 : (partsS tl q).1 = trimL ((wideL tl q).take ((wideL tl q).length - q)) := rfl
      have e3 : (partsS tl q).2 = (wideL tl q).drop ((wideL tl q).length - q) := rfl
      have e4 := trimL_len ((wideL tl q).take ((wideL tl q).length - q))
      rw [e2, e3, e4]
      simp only [List.length_take, List.length_drop]
      omega
    generalize partsS tl q = P at *
    obtain ⟨P1, P2⟩ := P
    simp only at hpl HD0 hpa
    go_upto_region 7 with fail
    obtain ⟨v1, hv1⟩ : ∃ v1, v1 = w2.alloc (.cells #[.bool tb, .slice A2 n2 c2, .int .i64 (q : Int)] 34) := ⟨_, rfl⟩
    rw [← hv1] at hT2 hRT hIT
    rw [← hv1]
    have hg : w.heap.size + 2 ≤ w2.heap.size := hg2
    clear hv1
    generalize w2.heap.size = gT at *
    obtain ⟨t0, t1, t2⟩ := hT2.cells3.1
    go_wp2_with fail
    refine (hpa.out _ hIT).mono ?_
    rintro e w3 ⟨A3, n3, c3, A4, n4, c4, rfl, hI3, hI4, hB3⟩
    have hR3 := hRT.call hB3
    have hT3 := hT2.call hB3
    have hn3 : P1.length = n3 := hI3.len
    have hn4 : P2.length = n4 := hI4.len
    clear hT2 hRT hIT hpa t0 t1 t2
    obtain ⟨t0, t1, t2⟩ := hT3.cells3.1
    go_upto_region 9 with fail
    have hF := Fresh4.made w3 w3 42 (.bool tb) (.slice none 0 0) (.bool false) (.slice none 0 0) (Later.refl w3) _ rfl
    have hzR := hR3.lt
    clear t0 t1 t2 hT3 hB3
    generalize World.alloc w3 _ = w4 at *
    go_wp2_with fail
    go_loopw [13] (fun v wr => ∃ (k : Nat) (A' : Option Addr) (c' : Nat), v = .int .i64 ((n3 + k : Nat) : Int) ∧ k ≤ i' - n3 ∧ Fresh4 w3 w3.heap.size 42 (.bool tb) (.slice A' k c') (.bool false) (.slice none 0 0) wr ∧ OL wr (w3.heap.size + 1) A' k c' (List.replicate k 0)) (fun v _ => i' - (intOf v).toNat)
    case atStart => exact ⟨0, none, 0, rfl, Nat.zero_le _, hF, OL.nil _ _⟩
    case round =>
      clear hF w4
      obtain ⟨k, A', c', rfl, hk, hF, hO⟩ := hrel
      obtain ⟨⟨c0, c1', c2', c3'⟩, ⟨f0, f1, f2, f3⟩⟩ := hF.cells
      have hsz := hF.lt
      by_cases hlt : n3 + k < i'
      · have hal := fun o => (hF.alloc o).cells.1.2.1
        have hO' := Lib.hid hO
        have hF' := Lib.hid hF
        clear hO hF
        go_wp2_with (first
          | (at_builtin; refine wpList_append_OL (w3.heap.size + 1) rfl (.tmp 52) (.tmp 53) rfl rfl rfl (hO'.out.alloc _) (IL.one _ _ _) (by simp; omega) (by omega) ?_; intro A5 c5 w5 hO5 hB5 _; obtain ⟨⟨_, y1, _, _⟩, ⟨_, y2, _, _⟩⟩ := ((hF'.out.alloc _).under (by omega) hB5).cells))
        go_roundw
        case rel =>
          have hF5 := (hF'.out.alloc (.cells #[.int .i64 0] 3)).under (B := w3.heap.size + 1) (by omega) hB5
          exact ⟨k + 1, A5, c5, by first | rfl | go_num | (congr 1; omega), by omega, hF5.set1 _, by rw [List.replicate_succ']; exact hO5.set_ (p := ⟨w3.heap.size, 1, none⟩) (fun a ha => by have := (hO5.blk (by omega) a ha).1; simp only; omega) _⟩
        case measure => simp [intOf]; omega
      have hkd : Hid (k = i' - n3) := by rw [Hid]; omega
      have hkb : k ≤ 64 := by omega
      have hI3' : IL wr A3 n3 c3 P1 := hI3.later hF.2.2
      have hF' := Lib.hid hF
      have hO' := Lib.hid hO
      clear hk
      go_upto_region 14 with (first
        | (at_builtin; refine wpList_append_OL (w3.heap.size + 1) rfl (.tmp 57) (.tmp 58) rfl rfl rfl hO hI3' (by omega) (by omega) ?_; intro A5 c5 w5 hO5 hB5 _; obtain ⟨⟨_, y1, _, _⟩, ⟨_, y2, _, _⟩⟩ := (hF'.out.under (by omega) hB5).cells))
      have hF5 := (hF'.out.under (B := w3.heap.size + 1) (by omega) hB5).set1 (.slice A5 (k + n3) c5)
      have hO5' := hO5.il.set_ (p := ⟨w3.heap.size, 1, none⟩) (fun _ a ha => by have := (hO5.blk (by omega) a ha).1; simp only; omega) (.slice A5 (k + n3) c5)
      have hap5 : 0 < k + n3 → ∀ a, A5 = some a → w3.heap.size + 1 ≤ a.block := fun _ a ha => (hO5.blk (by omega) a ha).1
      have hL5 : Hid (List.replicate k 0 ++ P1 = wideL P1 i') := by rw [Hid, wideL, hn3, hkd.out]
      rw [hL5.out] at hO5'
      clear hO hO' hF hF' hI3' y1 y2 hO5 hB5 c0 c1' c2' c3' f0 f1 f2 f3 hlt hsz hL5
      generalize World.setCell w5 _ _ = w6 at *
      obtain ⟨NA, hNA⟩ : ∃ x, Hid (x = k + n3) := ⟨_, rfl⟩
      have HP1 := Lib.hid hn3
      rw [← hNA.out] at hF5 hO5' hap5
      rw [← hNA.out]
      have hNAb : NA ≤ 20000 := by rw [hNA.out]; omega
      have hsA : Hid (NA = 0 ↔ P1.length = 0 ∧ i' = 0) := by rw [Hid, hNA.out, HP1.out, hkd.out]; omega
      obtain ⟨g, hge⟩ : ∃ g, g = w3.heap.size := ⟨_, rfl⟩
      rw [← hge] at hF5 hap5 hzR
      rw [← hge]
      have hwg : w3.heap.size ≤ g := by omega
      have hI4' : IL w6 A4 n4 c4 P2 := hI4.later hF5.2.2
      have hR6 := hR3.call hF5.2.2
      clear hge hn3 hkd hNA HP1 hI3 hI4 hR3
      have hlt5 := hO5'.blk_lt
      obtain ⟨⟨c0, c1', c2', c3'⟩, ⟨f0, f1, f2, f3⟩⟩ := hF5.cells
      have hF' := Lib.hid hF5
      have hsz := hF5.lt
      clear hF5
      go_upto_region 15 with (first
        | (at_builtin; refine wpList_append_OL w6.heap.size rfl (.tmp 62) (.tmp 63) rfl rfl rfl (OL.nil _ _) hI4' (Nat.le_refl _) (by omega) ?_; intro A7 c7 w7 hO7 hB7 hg7; obtain ⟨⟨_, _, _, y1⟩, ⟨_, _, _, y2⟩⟩ := (hF'.out.under (by omega) hB7).cells))
      have hA7 : ∀ a, A7 = some a → w6.heap.size ≤ a.block := by
        rcases hg7.2.2 with e | ⟨gg, e, hgg⟩
        · rw [e]; intro a ha; cases ha
        · rw [e]; intro a ha; obtain rfl := Option.some.inj ha; exact hgg
      rw [List.nil_append] at hO7
      simp only [Nat.zero_add] at hO7 ⊢
      have hF8 := (hF'.out.under (B := w6.heap.size) (by omega) hB7).set3 (.slice A7 n4 c7)
      have hO8 := hO7.set_ (p := ⟨g, 3, none⟩) (fun a ha => by have := hA7 a ha; simp only; omega) (.slice A7 n4 c7)
      have hI8 := (hO5'.below hB7).set_ (p := ⟨g, 3, none⟩) (fun hz a ha => by have := hap5 hz a ha; simp only; omega) (.slice A7 n4 c7)
      have hR8 := (hR6.under (B := w6.heap.size) (by omega) hB7).far (p := ⟨g, 3, none⟩) (by simp only; omega) (by simp only; omega) (.slice A7 n4 c7)
      have hz68 : w6.heap.size ≤ (World.setCell w7 ⟨g, 3, none⟩ (.slice A7 n4 c7)).heap.size := by rw [size_setCell]; exact hB7.size
      clear hF' hO7 hO5' hR6 y1 y2 hB7 hg7 c0 c1' c2' c3' f0 f1 f2 f3 hI4'
      generalize World.setCell w7 _ _ = w8 at *
      go_loopw [] (fun wr => ∃ (k : Nat) (A' : Option Addr) (c' : Nat), k ≤ j' - n4 ∧ Fresh4 w3 g 42 (.bool tb) (.slice A5 NA c5) (.bool false) (.slice A' (n4 + k) c') wr ∧ OL wr w6.heap.size A' (n4 + k) c' (P2 ++ List.replicate k 0) ∧ IL wr A5 NA c5 (wideL P1 i') ∧ Fresh4 w (w.heap.size + 1) 42 (.bool false) (.slice none 0 0) (.bool false) (.slice none 0 0) wr ∧ (∀ a, A' = some a → w6.heap.size ≤ a.block) ∧ w6.heap.size ≤ wr.heap.size) (fun wr => j' - lenAt g wr)
      case atStart => exact ⟨0, A7, c7, Nat.zero_le _, hF8, by simpa using hO8, hI8, hR8, hA7, hz68⟩
      case round =>
        clear hF8 hO8 hI8 hR8 hA7
        obtain ⟨k2, A', c', hk, hF, hO, hI, hR9, hA', hz6⟩ := hrel
        obtain ⟨⟨c0, c1', c2', c3'⟩, ⟨f0, f1, f2, f3⟩⟩ := hF.cells
        have hlen8 := lenAt_eq c3'
        have hsz := hF.lt
        by_cases hlt : n4 + k2 < j'
        · have hal := fun o => (hF.alloc o).cells.1.2.2.2
          have hO' := Lib.hid hO
          have hF' := Lib.hid hF
          clear hO hF
          go_wp2_with (first
            | (at_builtin; refine wpList_append_OL w6.heap.size rfl (.tmp 72) (.tmp 73) rfl rfl rfl (hO'.out.alloc _) (IL.one _ _ _) (by simp; omega) (by omega) ?_; intro A8 c8 w9 hO9 hB9 hg9; obtain ⟨⟨_, _, _, y1⟩, ⟨_, _, _, y2⟩⟩ := ((hF'.out.alloc _).under (by omega) hB9).cells))
          go_roundw
          case rel =>
            have hF9 := ((hF'.out.alloc (.cells #[.int .i64 0] 3)).under (B := w6.heap.size) (by omega) hB9).set3 (.slice A8 (n4 + k2 + 1) c8)
            have hA8 : ∀ a, A8 = some a → w6.heap.size ≤ a.block := by
              rcases hg9.2.2 with e | ⟨gg, e, hgg⟩
              · rw [e]; exact hA'
              · rw [e]; intro a ha; obtain rfl := Option.some.inj ha; have : w6.heap.size ≤ gg := by simp at hgg; omega
                exact this
            refine ⟨k2 + 1, A8, c8, by omega, hF9, ?_, ?_, ?_, hA8, by rw [size_setCell]; have := hB9.size; rw [World.size_alloc] at this; omega⟩
            · rw [List.replicate_succ', ← List.append_assoc]; exact hO9.set_ (p := ⟨g, 3, none⟩) (fun a ha => by have := hA8 a ha; simp only; omega) _
            · refine ((hI.alloc _).grown0 hg9.1 (fun hz a ha => ?_)).set_ (p := ⟨g, 3, none⟩) (fun hz a ha => by have := hap5 hz a ha; simp only; omega) _
              have := hlt5 hz a ha
              rcases A' with _ | a2
              · simp [Value.ownBlock]
              · have := hA' a2 rfl
                simp [Value.ownBlock]
                omega
            · exact ((hR9.alloc _).under (B := w6.heap.size) (by omega) hB9).far (p := ⟨g, 3, none⟩) (by simp only; omega) (by simp only; omega) _
          case measure =>
            have hF9 := (((hF'.out.alloc (.cells #[.int .i64 0] 3)).under (B := w6.heap.size) (by omega) hB9).set3 (.slice A8 (n4 + k2 + 1) c8)).cells.1.2.2.2
            have e := lenAt_eq hF9
            rw [hlen8]
            show j' - lenAt g (World.setCell w9 _ _) < _
            rw [e]
            omega
        have hL9 : Hid (List.replicate k2 (0 : Int) = List.replicate (j' - P2.length) 0) := by rw [Hid, hn4]; congr 1; omega
        have hsB : Hid (n4 + k2 = 0 ↔ P2.length = 0 ∧ j' = 0) := by rw [Hid, hn4]; omega
        rw [hL9.out] at hO
        clear hlen8 hL9
        obtain ⟨NB, hNB⟩ : ∃ x, Hid (x = n4 + k2) := ⟨_, rfl⟩
        rw [← hNB.out] at hO hF hsB c3'
        have hNBb : NB ≤ 20000 := by rw [hNB.out]; omega
        have hNBj : ¬ (NB : Int) < (j' : Int) := by rw [hNB.out]; omega
        clear hNB hk hlt
        have hF9 := hF.set2 (.bool (decide (0 < NB)))
        have hO9 := hO.set_ (p := ⟨g, 2, none⟩) (fun a ha => by have := hA' a ha; simp only; omega) (.bool (decide (0 < NB)))
        have hI9 := hI.set_ (p := ⟨g, 2, none⟩) (fun hz a ha => by have := hap5 hz a ha; simp only; omega) (.bool (decide (0 < NB)))
        have hR10 := hR9.far (p := ⟨g, 2, none⟩) (by simp only; omega) (by simp only; omega) (.bool (decide (0 < NB)))
        go_upto_region 18 with fail
        clear hF hO hI hR9 hA' c0 c1' c2' c3' f0 f1 f2 f3 hsz
        generalize World.setCell wr _ _ = w9 at *
        obtain ⟨⟨c0, c1', c2', c3'⟩, ⟨f0, f1, f2, f3⟩⟩ := hF9.cells
        have hap7 : 0 < NB → ∀ a, A' = some a → w6.heap.size ≤ a.block := hO9.newer (Nat.le_refl _)
        have hsz := hF9.lt
        by_cases hz : NA = 0 ∧ NB = 0
        · obtain ⟨hA0, hB0⟩ := hz
          have HD : Hid (D = (⟨tb, [0], false, []⟩, 0)) := by
            have e1 := hsA.out.1 hA0
            have e2 := hsB.out.1 hB0
            rw [Hid, HD0.out, fromD, if_pos ⟨e1.1, e2.1, e1.2, e2.2⟩]
          have HB0 := Lib.hid hB0
          have hz1 : ((NA : Int) == (0 : Int)) = true := by simp; omega
          have hz2 : decide (0 < NB) = false := by simp; omega
          rw [hz2] at c2' hF9
          clear hA0 hB0 HD0
          have hF10 := (hF9.set1 (.slice (some ⟨w9.heap.size, 0, none⟩) 1 1)).alloc (.cells #[.int .i64 0] 3)
          have hI10 := IL.one (w9.setCell ⟨g, 1, none⟩ (.slice (some ⟨w9.heap.size, 0, none⟩) 1 1)) 3 0
          rw [size_setCell] at hI10
          have hO10 := (hO9.il.set_ (p := ⟨g, 1, none⟩) (fun hz a ha => by have := hap7 hz a ha; simp only; omega) (.slice (some ⟨w9.heap.size, 0, none⟩) 1 1)).alloc (.cells #[.int .i64 0] 3)
          have hR11 := (hR10.far (p := ⟨g, 1, none⟩) (by simp only; omega) (by simp only; omega) (.slice (some ⟨w9.heap.size, 0, none⟩) 1 1)).alloc (.cells #[.int .i64 0] 3)
          have hzz : w.heap.size + 2 ≤ w9.heap.size := hR10.lt
          have hk1 := fun o => (hF9.alloc o).cells
          go_upto_region 20 with fail
          clear c0 c1' c2' c3' f0 f1 f2 f3 hF9 hk1
          obtain ⟨g9, hg9⟩ : ∃ x, x = w9.heap.size := ⟨_, rfl⟩
          rw [← hg9] at hF10 hI10 hO10 hR11 hzz
          rw [← hg9]
          clear hg9
          generalize World.alloc (World.setCell w9 _ _) _ = w10 at *
          obtain ⟨⟨c0, c1', c2', c3'⟩, ⟨f0, f1, f2, f3⟩⟩ := hF10.cells
          obtain ⟨⟨r0, r1, r2, r3⟩, ⟨s0, s1, s2, s3⟩⟩ := hR11.cells
          go_wp2_with fail
          rw [HD.out]
          obtain ⟨⟨z0, z1, z2, z3⟩, _⟩ := (hR11.store (.bool tb) (.slice (some ⟨g9, 0, none⟩) 1 1) (.bool false) (.slice A' NB c')).cells
          refine bodyPost_ret (v := .tuple #[.agg #[.bool tb, .slice (some ⟨g9, 0, none⟩) 1 1, .bool false, .slice A' NB c'], .int .i64 0]) (by generalize World.setCell (World.setCell (World.setCell (World.setCell _ _ _) _ _) _ _) _ _ = W3 at z0 z1 z2 z3 ⊢; simp [results, Try.results21, go_sem, z0, z1, z2, z3]) rfl ?_
          have q := hO10.set4 (g := w.heap.size + 1) (fun hz a ha => by have := hap7 hz a ha; omega) (.bool tb) (.slice (some ⟨g9, 0, none⟩) 1 1) (.bool false) (.slice A' NB c')
          have e : P2 ++ List.replicate (j' - P2.length) 0 = [] := List.eq_nil_of_length_eq_zero (by have := hO10.len; have := HB0.out; omega)
          rw [e] at q
          exact ⟨_, 1, 1, A', NB, c', rfl, hI10.set4 (fun _ a ha => by obtain rfl := Option.some.inj ha; show g9 ≠ _; omega) _ _ _ _, q, below_set4 hR11.2.2 (Nat.le_succ _) _ _ _ _, fun _ a ha => by obtain rfl := Option.some.inj ha; show _ ≤ g9; omega, fun hz a ha => by have := hap7 hz a ha; omega⟩
        · have HD : Hid (D = (⟨tb, wideL P1 i', decide (0 < NB), P2 ++ List.replicate (j' - P2.length) 0⟩, 0)) := by
            have e1 := hsA.out
            have e2 := hsB.out
            rw [Hid, HD0.out, fromD, if_neg (fun q => hz (by obtain ⟨r1, r2, r3, r4⟩ : P1.length = 0 ∧ P2.length = 0 ∧ i' = 0 ∧ j' = 0 := q; exact ⟨e1.2 ⟨r1, r3⟩, e2.2 ⟨r2, r4⟩⟩))]
            have e6 : decide (0 < P2.length ∨ 0 < j') = decide (0 < NB) := by
              rw [Bool.eq_iff_iff]
              simp only [decide_eq_true_eq]
              omega
            show ((⟨tb, wideL P1 i', decide (0 < P2.length ∨ 0 < j'), P2 ++ List.replicate (j' - P2.length) 0⟩ : Dr), (0 : Int)) = _
            rw [e6]
          obtain ⟨⟨r0, r1, r2, r3⟩, ⟨s0, s1, s2, s3⟩⟩ := hR10.cells
          have hcs : (NA = 0 ∧ 0 < NB) ∨ NA ≠ 0 := by omega
          clear hz
          rcases hcs with ⟨hA0, hB0⟩ | hA0
          · have hz1 : ((NA : Int) == (0 : Int)) = true := by simp; omega
            have hz2 : decide (0 < NB) = true := by simp; omega
            rw [hz2] at c2' hF9 HD
            clear hA0 hB0 HD0
            go_wp2_with fail
            rw [HD.out]
            obtain ⟨⟨z0, z1, z2, z3⟩, _⟩ := (hR10.store (.bool tb) (.slice A5 NA c5) (.bool true) (.slice A' NB c')).cells
            exact bodyPost_ret (v := .tuple #[.agg #[.bool tb, .slice A5 NA c5, .bool true, .slice A' NB c'], .int .i64 0]) (by generalize World.setCell (World.setCell (World.setCell (World.setCell _ _ _) _ _) _ _) _ _ = W3 at z0 z1 z2 z3 ⊢; simp [results, Try.results21, go_sem, z0, z1, z2, z3]) rfl
              ⟨A5, NA, c5, A', NB, c', rfl, hI9.set4 (fun hz a ha => by have := hap5 hz a ha; omega) _ _ _ _, hO9.il.set4 (fun hz a ha => by have := hap7 hz a ha; omega) _ _ _ _, below_set4 hR10.2.2 (Nat.le_succ _) _ _ _ _, fun hz a ha => by have := hap5 hz a ha; omega, fun hz a ha => by have := hap7 hz a ha; omega⟩
          · have hz1 : ((NA : Int) == (0 : Int)) = false := by simp; omega
            clear hA0 HD0
            go_wp2_with fail
            rw [HD.out]
            obtain ⟨⟨z0, z1, z2, z3⟩, _⟩ := (hR10.store (.bool tb) (.slice A5 NA c5) (.bool (decide (0 < NB))) (.slice A' NB c')).cells
            exact bodyPost_ret (v := .tuple #[.agg #[.bool tb, .slice A5 NA c5, .bool (decide (0 < NB)), .slice A' NB c'], .int .i64 0]) (by generalize World.setCell (World.setCell (World.setCell (World.setCell _ _ _) _ _) _ _) _ _ = W3 at z0 z1 z2 z3 ⊢; simp [results, Try.results21, go_sem, z0, z1, z2, z3]) rfl
              ⟨A5, NA, c5, A', NB, c', rfl, hI9.set4 (fun hz a ha => by have := hap5 hz a ha; omega) _ _ _ _, hO9.il.set4 (fun hz a ha => by have := hap7 hz a ha; omega) _ _ _ _, below_set4 hR10.2.2 (Nat.le_succ _) _ _ _ _, fun hz a ha => by have := hap5 hz a ha; omega, fun hz a ha => by have := hap7 hz a ha; omega⟩

end Go.Proofs.Ytppkifdngjcbeaa


namespace Go.Proofs.Ytppkifdngjcbeaa
open Go.RowKit

theorem canon_of_trim {x : Dc} (h : mayL x.l = true) (h0 : 0 ≤ x.s) : canon (trimDc x).s.toNat (trimDc x).z = trimDc x := by
  rw [trimDc_canon h h0]; exact canon_self _ _
theorem from_dec {T : Dc} (hs : 0 ≤ T.s) (hT : canon T.s.toNat T.z = T) (hm : mayL T.l = true) (i j : Nat) :
    mayD (fromD T.neg (partsS T.l T.s.toNat) i j).neg (fromD T.neg (partsS T.l T.s.toNat) i j).int (fromD T.neg (partsS T.l T.s.toNat) i j).sep (fromD T.neg (partsS T.l T.s.toNat) i j).frac = true ∧
      decD (fromD T.neg (partsS T.l T.s.toNat) i j) = T ∧ i ≤ (fromD T.neg (partsS T.l T.s.toNat) i j).int.length ∧ j ≤ (fromD T.neg (partsS T.l T.s.toNat) i j).frac.length ∧
      0 < (atomsD (fromD T.neg (partsS T.l T.s.toNat) i j).int (fromD T.neg (partsS T.l T.s.toNat) i j).sep (fromD T.neg (partsS T.l T.s.toNat) i j).frac).length := by
  obtain ⟨q, hq⟩ := Int.eq_ofNat_of_zero_le hs
  rw [hq] at hT ⊢
  simp only [Int.toNat_natCast] at hT ⊢
  have hl2 := parts_len T.l q
  have hv := parts_val T.l q
  have hmp := parts_may hm q
  generalize partsS T.l q = P at *
  obtain ⟨P1, P2⟩ := P
  simp only at hl2 hv hmp
  have hz : T.z = if T.neg then -val (P1 ++ P2) else val (P1 ++ P2) := by rw [hv]; rfl
  have hm1 : ∀ x, x ∈ P1 → 0 ≤ x ∧ x ≤ 9 := fun x hx => mayL_iff.1 hmp x (List.mem_append.2 (.inl hx))
  have hm2 : ∀ x, x ∈ P2 → 0 ≤ x ∧ x ≤ 9 := fun x hx => mayL_iff.1 hmp x (List.mem_append.2 (.inr hx))
  unfold fromD
  split
  · rename_i h
    obtain ⟨g1, g2, g3, g4⟩ := h
    simp only at g1 g2
    have e1 : P1 = [] := List.eq_nil_of_length_eq_zero g1
    have e2 : P2 = [] := List.eq_nil_of_length_eq_zero g2
    subst e1 e2 g3 g4
    have hq0 : q = 0 := by rw [← hl2]; rfl
    subst hq0
    have hz0 : T.z = 0 := by rw [hz]; simp [val]
    rw [hz0, canon_zero] at hT
    refine ⟨by simp [mayD, mayL, isDig], ?_, Nat.zero_le _, Nat.zero_le _, by simp [atomsD]⟩
    unfold decD
    rw [trimDc_canon (by simp [mayL, isDig]) (by simp)]
    have : (⟨T.neg, [0] ++ [], ((([] : List Int).length : Nat) : Int)⟩ : Dc).z = 0 := by simp [Dc.z, val]
    rw [this, canon_zero]
    exact hT
  · rename_i h
    have hmw : mayL (wideL P1 i) = true := mayL_iff.2 fun x hx => by
      rcases List.mem_append.1 hx with hx | hx
      · have := List.eq_of_mem_replicate hx; omega
      · exact hm1 x hx
    have hmf : mayL (P2 ++ List.replicate (j - P2.length) 0) = true := mayL_iff.2 fun x hx => by
      rcases List.mem_append.1 hx with hx | hx
      · exact hm2 x hx
      · have := List.eq_of_mem_replicate hx; omega
    have hwl := wideL_len P1 i
    refine ⟨?_, ?_, by show i ≤ (wideL P1 i).length; rw [hwl]; exact Nat.le_max_right _ _, by show j ≤ (P2 ++ List.replicate (j - P2.length) (0 : Int)).length; simp; omega, ?_⟩
    · show mayD T.neg (wideL P1 i) (decide (0 < P2.length ∨ 0 < j)) (P2 ++ List.replicate (j - P2.length) 0) = true
      unfold mayD
      rw [hmw, hmf]
      simp only [Bool.true_and, Bool.or_eq_true, decide_eq_true_eq, beq_iff_eq]
      by_cases hc : 0 < P2.length ∨ 0 < j
      · exact .inl hc
      · right; rw [List.length_append, List.length_replicate]; omega
    · unfold decD
      show trimDc ⟨T.neg, wideL P1 i ++ (P2 ++ List.replicate (j - P2.length) 0), ((P2 ++ List.replicate (j - P2.length) (0 : Int)).length : Int)⟩ = T
      rw [trimDc_canon (by rw [mayL_iff]; intro x hx; exact (List.mem_append.1 hx).elim (mayL_iff.1 hmw x) (mayL_iff.1 hmf x)) (by simp only; omega)]
      have e1 : (⟨T.neg, wideL P1 i ++ (P2 ++ List.replicate (j - P2.length) 0), ((P2 ++ List.replicate (j - P2.length) (0 : Int)).length : Int)⟩ : Dc).z = T.z * 10 ^ (j - P2.length) := by
        have e2 : val (wideL P1 i ++ (P2 ++ List.replicate (j - P2.length) 0)) = val (P1 ++ P2) * 10 ^ (j - P2.length) := by
          unfold wideL
          rw [List.append_assoc, val_zeros_append, ← List.append_assoc, val_append_zeros]
        rw [hz]
        unfold Dc.z
        simp only
        rw [e2]
        split <;> simp [Int.neg_mul]
      rw [e1]
      have e3 : (((P2 ++ List.replicate (j - P2.length) (0 : Int)).length : Nat) : Int).toNat = q + (j - P2.length) := by simp; omega
      simp only [e3]
      rw [canon_shift, hT]
    · show 0 < (atomsD (wideL P1 i) (decide (0 < P2.length ∨ 0 < j)) (P2 ++ List.replicate (j - P2.length) 0)).length
      unfold atomsD
      have hh : P1.length = 0 → P2.length = 0 → i = 0 → j = 0 → False := fun r1 r2 r3 r4 => h ⟨r1, r2, r3, r4⟩
      clear h
      by_cases hc : 0 < P2.length ∨ 0 < j
      · rw [decide_eq_true hc]; simp; omega
      · rw [List.length_append]
        have hq : 0 < (wideL P1 i).length := by
          rw [hwl]
          rcases Nat.eq_zero_or_pos (max P1.length i) with g | g
          · exact (hh (by omega) (by omega) (by omega) (by omega)).elim
          · exact g
        omega
/-- What is made of a number that may be. -/
theorem from_ok {x : Dc} (hx : mayDc x = true) {i j : Int} (hi : 0 ≤ i ∧ i ≤ 64) (hj : 0 ≤ j ∧ j ≤ 64) :
    (fromS x i j).2 = 0 ∧ mayD (fromS x i j).1.neg (fromS x i j).1.int (fromS x i j).1.sep (fromS x i j).1.frac = true ∧ decD (fromS x i j).1 = trimDc x ∧
      i ≤ (fromS x i j).1.int.length ∧ j ≤ (fromS x i j).1.frac.length ∧ 0 < (atomsD (fromS x i j).1.int (fromS x i j).1.sep (fromS x i j).1.frac).length := by
  obtain ⟨h1, h2, h3⟩ := mayDc_iff.1 hx
  obtain ⟨i', rfl⟩ := Int.eq_ofNat_of_zero_le hi.1
  obtain ⟨j', rfl⟩ := Int.eq_ofNat_of_zero_le hj.1
  have hT := canon_of_trim h1 h2
  have hmd : mayDc (trimDc x) = true := by rw [trimDc_canon h1 h2]; exact mayDc_canon _ (by omega) _
  obtain ⟨m1, m2, _⟩ := mayDc_iff.1 hmd
  have e : fromS x (i' : Int) (j' : Int) = (fromD (trimDc x).neg (partsS (trimDc x).l (trimDc x).s.toNat) i' j', 0) := by
    unfold fromS
    rw [if_pos hx, if_pos ⟨hi.1, hi.2, hj.1, hj.2⟩]
    rfl
  rw [e]
  obtain ⟨r1, r2, r3, r4, r5⟩ := from_dec m2 hT m1 i' j'
  exact ⟨rfl, r1, r2, Int.ofNat_le.2 r3, Int.ofNat_le.2 r4, r5⟩
/-- How long its lists are. -/
theorem from_len {x : Dc} (hx : mayDc x = true) {i j : Int} (hi : 0 ≤ i ∧ i ≤ 64) (hj : 0 ≤ j ∧ j ≤ 64) (hl : x.l.length ≤ 100) :
    (fromS x i j).1.int.length ≤ 2000 ∧ (fromS x i j).1.frac.length ≤ 2000 := by
  obtain ⟨h1, h2, h3⟩ := mayDc_iff.1 hx
  have e0 := trimDc_len x
  have e1 : (trimDc x).s.toNat ≤ x.s.toNat := by rw [trimDc_canon h1 h2]; exact canon_le _ _
  have e2 := parts_len (trimDc x).l (trimDc x).s.toNat
  have e3 := parts_len1 (trimDc x).l (trimDc x).s.toNat
  unfold fromS
  rw [if_pos hx, if_pos ⟨hi.1, hi.2, hj.1, hj.2⟩]
  show (fromD _ _ i.toNat j.toNat).int.length ≤ 2000 ∧ (fromD _ _ i.toNat j.toNat).frac.length ≤ 2000
  generalize partsS (trimDc x).l (trimDc x).s.toNat = P at *
  unfold fromD
  split
  · exact ⟨by simp, by simp⟩
  · have e4 := wideL_len P.1 i.toNat
    refine ⟨?_, ?_⟩
    · show (wideL P.1 i.toNat).length ≤ 2000
      omega
    · show (P.2 ++ List.replicate (j.toNat - P.2.length) (0 : Int)).length ≤ 2000
      rw [List.length_append, List.length_replicate]
      omega

end Go.Proofs.Ytppkifdngjcbeaa


namespace Go.Proofs.Ytppkifdngjcbeaa
open Go.RowKit
set_option linter.unusedSimpArgs false

set_option maxRecDepth 100000 in
set_option maxHeartbeats 8000000 in
theorem draftFrom_walk (w : World) {A0 : Option Addr} {n0 c0 : Nat} {l0 : List Int} {a0 a1 a2 : Int} (b0 : Bool) (w0 : IL w A0 n0 c0 l0) (i0 : I64 l0) (x0 : -9223372036854775808 ≤ a0 ∧ a0 ≤ 9223372036854775807)
    (w1 : -9223372036854775808 ≤ a1 ∧ a1 ≤ 9223372036854775807) (w2 : -9223372036854775808 ≤ a2 ∧ a2 ≤ 9223372036854775807) :
    Calls Try.prog 4 #[.agg #[.bool b0, .slice A0 n0 c0, .int .i64 a0], .int .i64 a1, .int .i64 a2] w fun e w' => e = .returned (.bool true) ∧ Below w.heap.size w w' := by
  obtain ⟨X, hX, _, hg⟩ := cgood_ex (A := A0) (n := n0) (c := c0) b0 a0 12 i0 x0 (by omega)
  obtain ⟨m0, r0, hm0, hr0, hfew⟩ : ∃ (m0 : Nat) (r0 : List Int), m0 ≤ 12 ∧ I64 r0 ∧ Hid (∀ W, IL W A0 n0 c0 l0 → Calls Try.prog 18 #[.agg #[.bool b0, .slice A0 n0 c0, .int .i64 a0], .int .i64 12] W (fun e w' => e = .returned (.agg #[.bool b0, .slice A0 m0 c0, .int .i64 a0]) ∧ IL w' A0 m0 c0 r0 ∧ Below W.heap.size W w')) :=
    ⟨min n0 12, l0.take 12, by omega, i0.take_ 12, fun W hW => cfew_any b0 a0 12 W hW (by omega)⟩
  obtain ⟨ra, hra, hka⟩ : ∃ k : Int, (0 ≤ k ∧ k < 13) ∧ Hid (∀ W, Calls Try.prog 19 #[.int .i64 a1, .int .i64 13] W fun e w' => e = .returned (.int .i64 k) ∧ W = w') :=
    ⟨_, around_bd a1 13 (by omega), fun W => around_any a1 13 W w1.1 w1.2 (by omega) (by omega)⟩
  obtain ⟨rb, hrb, hkb⟩ : ∃ k : Int, (0 ≤ k ∧ k < 13) ∧ Hid (∀ W, Calls Try.prog 19 #[.int .i64 a2, .int .i64 13] W fun e w' => e = .returned (.int .i64 k) ∧ W = w') :=
    ⟨_, around_bd a2 13 (by omega), fun W => around_any a2 13 W w2.1 w2.2 (by omega) (by omega)⟩
  have hmX : mayDc X = true := mayDc_iff.2 ⟨hX.1, hX.2.1, by have := hX.2.2.1; omega⟩
  have iX := I64_of_may hX.1
  have sX : -9223372036854775808 ≤ X.s ∧ X.s ≤ 9223372036854775807 := by have := hX.2.1; have := hX.2.2.1; omega
  have lX := hX.2.2.2
  have bX := hX.2.2.1
  have bX0 := hX.2.1
  have mX := hX.1
  have hcX : cmpDc (trimDc X) X = 0 := by rw [cmpDc_trimL hX.1 hX.2.1, cmpDc_self]
  obtain ⟨T, hT⟩ : ∃ T, trimDc X = T := ⟨_, rfl⟩
  have hTl : mayL T.l = true ∧ 0 ≤ T.s ∧ T.s ≤ 1000 ∧ T.l.length ≤ 12 := by
    have e0 := trimDc_len X
    rw [hT] at e0
    have e1 : mayDc (trimDc X) = true := by rw [trimDc_canon hX.1 hX.2.1]; exact mayDc_canon _ (by omega) _
    rw [hT] at e1
    obtain ⟨q1, q2, q3⟩ := mayDc_iff.1 e1
    exact ⟨q1, q2, q3, by omega⟩
  obtain ⟨D1, ⟨f1, f2, f3, f4, f5⟩, ⟨f6, f7⟩, hP1, hR1⟩ : ∃ D : Dr, (mayD D.neg D.int D.sep D.frac = true ∧ Hid (decD D = T) ∧ ra ≤ (D.int.length : Int) ∧ rb ≤ (D.frac.length : Int) ∧ 0 < (atomsD D.int D.sep D.frac).length) ∧ (D.int.length ≤ 2000 ∧ D.frac.length ≤ 2000) ∧
      Hid (∀ A n c W, IL W A n c X.l → Calls Try.prog 20 #[.agg #[.bool X.neg, .slice A n c, .int .i64 X.s], .int .i64 ra, .int .i64 rb] W (RDV W D 0)) ∧
      Hid (∀ A n c W, IL W A n c X.l → Calls Try.prog 21 #[.agg #[.bool X.neg, .slice A n c, .int .i64 X.s], .int .i64 ra, .int .i64 rb] W (RDV W D 0)) := by
    obtain ⟨g1, g2, g3, g4, g5, g6⟩ := from_ok hmX (i := ra) (j := rb) (by omega) (by omega)
    refine ⟨(fromS X ra rb).1, ⟨g2, g3.trans hT, g4, g5, g6⟩, from_len hmX (by omega) (by omega) (by omega), fun A n c W hW => ?_, fun A n c W hW => ?_⟩
    · have := dfrom_any X.neg X.s ra rb W hW iX (by have := hW.len; omega) sX (by omega) (by omega)
      rw [show (⟨X.neg, X.l, X.s⟩ : Dc) = X from rfl, g1] at this
      exact this.mono fun _ _ h => h.dv
    · have := rfrom_any X.neg X.s ra rb W hW iX (by have := hW.len; omega) sX (by omega) (by omega)
      rw [show (⟨X.neg, X.l, X.s⟩ : Dc) = X from rfl, g1] at this
      exact this.mono fun _ _ h => h.dv
  have hFr : ∀ i j : Int, (-9223372036854775808 ≤ i ∧ i ≤ 9223372036854775807) → (-9223372036854775808 ≤ j ∧ j ≤ 9223372036854775807) → ∃ D : Dr × Int,
      Hid (∀ W, IL W A0 m0 c0 r0 → Calls Try.prog 20 #[.agg #[.bool b0, .slice A0 m0 c0, .int .i64 a0], .int .i64 i, .int .i64 j] W (RDV W D.1 D.2)) ∧
      Hid (∀ W, IL W A0 m0 c0 r0 → Calls Try.prog 21 #[.agg #[.bool b0, .slice A0 m0 c0, .int .i64 a0], .int .i64 i, .int .i64 j] W (RDV W D.1 D.2)) := fun i j hi hj =>
    ⟨fromS ⟨b0, r0, a0⟩ i j, fun W hW => (dfrom_any b0 a0 i j W hW hr0 (by omega) x0 hi hj).mono fun _ _ h => h.dv, fun W hW => (rfrom_any b0 a0 i j W hW hr0 (by omega) x0 hi hj).mono fun _ _ h => h.dv⟩
  obtain ⟨⟨D2, e2⟩, hP2, hR2⟩ := hFr a1 a2 w1 w2
  obtain ⟨⟨D3, e3⟩, hP3, hR3⟩ := hFr ra rb (by omega) (by omega)
  clear hFr
  go_enter Try.func4, Try.ntmps4
  go_wp2_with fail
  refine (hg.out _ (w0.alloc _)).mono ?_
  rintro e w2 ⟨A2, n2, c2, rfl, hI2, hB2, _⟩
  have hp2 := (Blk.made w w 34 #[.bool b0, .slice A0 n0 c0, .int .i64 a0] (Later.refl w) _ rfl).call hB2
  have hL2 := hp2.later
  have q0 := fun o => (hp2.alloc o).cells3.1.1
  have q1 := fun o => (hp2.alloc o).cells3.1.2.1
  have q2 := fun o => (hp2.alloc o).cells3.1.2.2
  have hx2 := DB.made w w2 34 hL2 hI2 _ rfl
  go_wp2_with fail
  refine (hfew.out _ ((w0.later hL2).alloc _)).mono ?_
  rintro e w3 ⟨rfl, hI3, hB3⟩
  have hx3 := hx2.call hB3
  clear hx2
  clear q0 q1 q2 hp2 hI2
  have hf3 := DB.made w w3 34 hx3.later (X := ⟨b0, r0, a0⟩) hI3 _ rfl
  have qx0 := fun o => (hx3.alloc o).c0
  have qx1 := fun o => (hx3.alloc o).c1
  have qx2 := fun o => (hx3.alloc o).c2
  go_wp2_with fail
  refine (hka.out _).mono ?_
  rintro e w3x ⟨rfl, rfl⟩
  go_wp2_with fail
  refine (hkb.out _).mono ?_
  rintro e w3x ⟨rfl, rfl⟩
  go_wp2_with fail
  refine (hP1.out _ _ _ _ (hx3.alloc _).il).mono ?_
  rintro e w4 ⟨y1, rfl, hS1, ho1, hB4, _, _⟩
  clear qx0 qx1 qx2
  have hx4 := (hx3.alloc _).call hB4
  have hf4 := hf3.call hB4
  clear hx3 hf3
  have hd14 := DBk.made w w4 38 y1 hx4.later ho1 _ rfl
  have qx0 := fun o => (hx4.alloc o).c0
  have qx1 := fun o => (hx4.alloc o).c1
  have qx2 := fun o => (hx4.alloc o).c2
  go_wp2_with fail
  refine (hR1.out _ _ _ _ (hx4.alloc _).il).mono ?_
  rintro e w5 ⟨y2, rfl, hS2, ho2, hB5, _, _⟩
  clear qx0 qx1 qx2
  have hx5 := (hx4.alloc _).call hB5
  have hf5 := (hf4.alloc _).call hB5
  have hd15 := hd14.call hB5
  clear hx4 hf4 hd14
  have hd25 := DBk.made w w5 42 y2 hx5.later ho2 _ rfl
  have qf0 := fun o => (hf5.alloc o).c0
  have qf1 := fun o => (hf5.alloc o).c1
  have qf2 := fun o => (hf5.alloc o).c2
  go_wp2_with fail
  refine (hP2.out _ (hf5.alloc _).il).mono ?_
  rintro e w6 ⟨y3, rfl, hS3, ho3, hB6, _, _⟩
  clear qf0 qf1 qf2
  have hx6 := (hx5.alloc _).call hB6
  have hf6 := (hf5.alloc _).call hB6
  have hd16 := (hd15.alloc _).call hB6
  have hd26 := hd25.call hB6
  clear hx5 hf5 hd15 hd25
  have hd36 := DBk.made w w6 38 y3 hx6.later ho3 _ rfl
  have qf0 := fun o => (hf6.alloc o).c0
  have qf1 := fun o => (hf6.alloc o).c1
  have qf2 := fun o => (hf6.alloc o).c2
  go_wp2_with fail
  refine (hR2.out _ (hf6.alloc _).il).mono ?_
  rintro e w7 ⟨y4, rfl, hS4, ho4, hB7, _, _⟩
  clear qf0 qf1 qf2
  have hx7 := (hx6.alloc _).call hB7
  have hf7 := (hf6.alloc _).call hB7
  have hd17 := (hd16.alloc _).call hB7
  have hd27 := (hd26.alloc _).call hB7
  have hd37 := hd36.call hB7
  clear hx6 hf6 hd16 hd26 hd36
  have hd47 := DBk.made w w7 42 y4 hx7.later ho4 _ rfl
  have qf0 := fun o => (hf7.alloc o).c0
  have qf1 := fun o => (hf7.alloc o).c1
  have qf2 := fun o => (hf7.alloc o).c2
  go_wp2_with fail
  refine (hP3.out _ (hf7.alloc _).il).mono ?_
  rintro e w8 ⟨y5, rfl, hS5, ho5, hB8, _, _⟩
  clear qf0 qf1 qf2
  have hx8 := (hx7.alloc _).call hB8
  have hf8 := (hf7.alloc _).call hB8
  have hd18 := (hd17.alloc _).call hB8
  have hd28 := (hd27.alloc _).call hB8
  have hd38 := (hd37.alloc _).call hB8
  have hd48 := hd47.call hB8
  clear hx7 hf7 hd17 hd27 hd37 hd47
  have hd58 := DBk.made w w8 38 y5 hx8.later ho5 _ rfl
  have qf0 := fun o => (hf8.alloc o).c0
  have qf1 := fun o => (hf8.alloc o).c1
  have qf2 := fun o => (hf8.alloc o).c2
  go_wp2_with fail
  refine (hR3.out _ (hf8.alloc _).il).mono ?_
  rintro e w9 ⟨y6, rfl, hS6, ho6, hB9, _, _⟩
  clear qf0 qf1 qf2
  have hx9 := (hx8.alloc _).call hB9
  have hf9 := (hf8.alloc _).call hB9
  have hd19 := (hd18.alloc _).call hB9
  have hd29 := (hd28.alloc _).call hB9
  have hd39 := (hd38.alloc _).call hB9
  have hd49 := (hd48.alloc _).call hB9
  have hd59 := hd58.call hB9
  clear hx8 hf8 hd18 hd28 hd38 hd48 hd58
  have hd69 := DBk.made w w9 42 y6 hx9.later ho6 _ rfl
  go_upto_region 11 with fail
  have zx := hx9.alloc (.cells #[.bool y6.b, .slice y6.A y6.n y6.c, .bool y6.p, .slice y6.E y6.m y6.q] 42)
  clear hx9
  have zd1 := hd19.alloc (.cells #[.bool y6.b, .slice y6.A y6.n y6.c, .bool y6.p, .slice y6.E y6.m y6.q] 42)
  clear hd19
  have zd2 := hd29.alloc (.cells #[.bool y6.b, .slice y6.A y6.n y6.c, .bool y6.p, .slice y6.E y6.m y6.q] 42)
  clear hd29
  have zd3 := hd39.alloc (.cells #[.bool y6.b, .slice y6.A y6.n y6.c, .bool y6.p, .slice y6.E y6.m y6.q] 42)
  clear hd39
  have zd4 := hd49.alloc (.cells #[.bool y6.b, .slice y6.A y6.n y6.c, .bool y6.p, .slice y6.E y6.m y6.q] 42)
  clear hd49
  have zd5 := hd59.alloc (.cells #[.bool y6.b, .slice y6.A y6.n y6.c, .bool y6.p, .slice y6.E y6.m y6.q] 42)
  clear hd59
  have zd6 := hd69
  clear hd69 hf9
  generalize hwz : World.alloc w9 _ = wz at *
  clear hwz
  have hLz := zx.later
  have hsm1 := Lib.hid (fun s : Ext wz => show Calls Try.prog 22 #[.agg #[.bool y1.b, .slice y1.A y1.n y1.c, .bool y1.p, .slice y1.E y1.m y1.q], .agg #[.bool y2.b, .slice y2.A y2.n y2.c, .bool y2.p, .slice y2.E y2.m y2.q]] s.world (RV s.world (.bool true)) by
    have := rdsame_any y1.b y1.p y2.b y2.p s.world (zd1.ok.below s.h).1 (zd1.ok.below s.h).2 (zd2.ok.below s.h).1 (zd2.ok.below s.h).2
    rw [show (⟨y1.b, y1.l, y1.p, y1.f⟩ : Dr) = ⟨y2.b, y2.l, y2.p, y2.f⟩ from hS1.out.trans hS2.out.symm, sameD_refl] at this
    exact this)
  have hsm2 := Lib.hid (fun s : Ext wz => show Calls Try.prog 22 #[.agg #[.bool y3.b, .slice y3.A y3.n y3.c, .bool y3.p, .slice y3.E y3.m y3.q], .agg #[.bool y4.b, .slice y4.A y4.n y4.c, .bool y4.p, .slice y4.E y4.m y4.q]] s.world (RV s.world (.bool true)) by
    have := rdsame_any y3.b y3.p y4.b y4.p s.world (zd3.ok.below s.h).1 (zd3.ok.below s.h).2 (zd4.ok.below s.h).1 (zd4.ok.below s.h).2
    rw [show (⟨y3.b, y3.l, y3.p, y3.f⟩ : Dr) = ⟨y4.b, y4.l, y4.p, y4.f⟩ from hS3.out.trans hS4.out.symm, sameD_refl] at this
    exact this)
  have hsm3 := Lib.hid (fun s : Ext wz => show Calls Try.prog 22 #[.agg #[.bool y5.b, .slice y5.A y5.n y5.c, .bool y5.p, .slice y5.E y5.m y5.q], .agg #[.bool y6.b, .slice y6.A y6.n y6.c, .bool y6.p, .slice y6.E y6.m y6.q]] s.world (RV s.world (.bool true)) by
    have := rdsame_any y5.b y5.p y6.b y6.p s.world (zd5.ok.below s.h).1 (zd5.ok.below s.h).2 (zd6.ok.below s.h).1 (zd6.ok.below s.h).2
    rw [show (⟨y5.b, y5.l, y5.p, y5.f⟩ : Dr) = ⟨y6.b, y6.l, y6.p, y6.f⟩ from hS5.out.trans hS6.out.symm, sameD_refl] at this
    exact this)
  have K10 := fun s : Ext wz => Ext.cell zd1.c0 s
  have K11 := fun s : Ext wz => Ext.cell zd1.c1 s
  have K12 := fun s : Ext wz => Ext.cell zd1.c2 s
  have K13 := fun s : Ext wz => Ext.cell zd1.c3 s
  have K20 := fun s : Ext wz => Ext.cell zd2.c0 s
  have K21 := fun s : Ext wz => Ext.cell zd2.c1 s
  have K22 := fun s : Ext wz => Ext.cell zd2.c2 s
  have K23 := fun s : Ext wz => Ext.cell zd2.c3 s
  have K30 := fun s : Ext wz => Ext.cell zd3.c0 s
  have K31 := fun s : Ext wz => Ext.cell zd3.c1 s
  have K32 := fun s : Ext wz => Ext.cell zd3.c2 s
  have K33 := fun s : Ext wz => Ext.cell zd3.c3 s
  have K40 := fun s : Ext wz => Ext.cell zd4.c0 s
  have K41 := fun s : Ext wz => Ext.cell zd4.c1 s
  have K42 := fun s : Ext wz => Ext.cell zd4.c2 s
  have K43 := fun s : Ext wz => Ext.cell zd4.c3 s
  have K50 := fun s : Ext wz => Ext.cell zd5.c0 s
  have K51 := fun s : Ext wz => Ext.cell zd5.c1 s
  have K52 := fun s : Ext wz => Ext.cell zd5.c2 s
  have K53 := fun s : Ext wz => Ext.cell zd5.c3 s
  have K60 := fun s : Ext wz => Ext.cell zd6.c0 s
  have K61 := fun s : Ext wz => Ext.cell zd6.c1 s
  have K62 := fun s : Ext wz => Ext.cell zd6.c2 s
  have K63 := fun s : Ext wz => Ext.cell zd6.c3 s
  refine wp_region_ext (by kernel_rfl) (by kernel_rfl) ?_
  iterate 25 (go_big_quiet_step (first
    | (go_at_call 23; exact quiet_ext _ (as_any _ _ _ _ _ _ _ _ _))
    | (go_at_call 22; exact quiet_ext _ (hsm1.out _))))
  iterate 7 (go_big_quiet_step (first
    | (go_at_call 23; exact quiet_ext _ (as_any _ _ _ _ _ _ _ _ _))
    | (go_at_call 22; exact quiet_ext _ (hsm2.out _))))
  repeat (go_big_quiet_step (first
    | (go_at_call 23; exact quiet_ext _ (as_any _ _ _ _ _ _ _ _ _))
    | (go_at_call 22; exact quiet_ext _ (hsm3.out _))))
  refine wpQuiet_nil ?_
  rintro _ ⟨s, rfl⟩
  clear K10 K11 K12 K13 K20 K21 K22 K23 K30 K31 K32 K33 K40 K41 K42 K43 K50 K51 K52 K53 K60 K61 K62 K63 hsm1 hsm2 hsm3
  have vd := zd1.call s.h
  have vx := zx.call s.h
  clear zd1 zd2 zd3 zd4 zd5 zd6 zx
  obtain ⟨u1, hu1⟩ : ∃ wm, wm = s.world := ⟨_, rfl⟩
  rw [← hu1] at vd vx
  rw [← hu1]
  clear hu1 s
  have hdd : Hid (y1.d = D1) := hS1
  have e1 : D1.int = y1.l := by rw [← hdd.out]; rfl
  have e2' : D1.frac = y1.f := by rw [← hdd.out]; rfl
  have e3' : D1.neg = y1.b := by rw [← hdd.out]; rfl
  have e4 : D1.sep = y1.p := by rw [← hdd.out]; rfl
  rw [e1, e2', e3', e4] at f1
  rw [e1] at f3
  rw [e2'] at f4
  rw [e1, e2', e4] at f5
  have hln1 := vd.ok.1.len
  have hln2 := vd.ok.2.len
  rw [hln1] at f3
  rw [hln2] at f4
  have hb1 : y1.n ≤ 2000 := by rw [← hln1, ← e1]; exact f6
  have hb2 : y1.m ≤ 2000 := by rw [← hln2, ← e2']; exact f7
  obtain ⟨hml, hmf⟩ : mayL y1.l = true ∧ mayL y1.f = true := by
    unfold mayD at f1
    simp only [Bool.and_eq_true] at f1
    exact f1.1
  have hm1 := Lib.hid (fun W (hW : Later u1 W) => show Calls Try.prog 24 #[.agg #[.bool y1.b, .slice y1.A y1.n y1.c, .bool y1.p, .slice y1.E y1.m y1.q]] W (RV W (.bool true)) by
    have := dmay_any y1.b y1.p W (vd.call hW).ok.1 (vd.call hW).ok.2 (I64_of_may hml) (I64_of_may hmf)
    rw [f1] at this
    exact this)
  have hd1 := Lib.hid (fun W (hW : Later u1 W) => show Calls Try.prog 26 #[.agg #[.bool y1.b, .slice y1.A y1.n y1.c, .bool y1.p, .slice y1.E y1.m y1.q]] W (RC W T) by
    have := ddec_any y1.b y1.p W (vd.call hW).ok.1 (vd.call hW).ok.2 (I64_of_may hml) (I64_of_may hmf) (by omega) (by omega)
    rw [show (⟨y1.b, y1.l, y1.p, y1.f⟩ : Dr) = D1 from hdd.out, f2.out] at this
    exact this)
  have hcp := Lib.hid (fun (A : Option Addr) (n c : Nat) W (hW : Later u1 W) (hI : IL W A n c T.l) => show Calls Try.prog 25 #[.agg #[.bool T.neg, .slice A n c, .int .i64 T.s], .agg #[.bool X.neg, .slice A2 n2 c2, .int .i64 X.s]] W (RV W (.int .i64 0)) by
    have := rccompare_any T.neg X.neg T.s X.s W hI (vx.call hW).il hTl.1 mX (by have := hI.len; omega) (by have := (vx.call hW).il.len; omega) (by omega) (by omega) (by omega) (by omega)
    rw [show cmpDc ⟨T.neg, T.l, T.s⟩ ⟨X.neg, X.l, X.s⟩ = 0 from by rw [← hT]; exact hcX] at this
    exact this)
  obtain ⟨nz, hnz, hln⟩ : ∃ nz : Nat, 0 < nz ∧ Hid (∀ W, Later u1 W → Calls Try.prog 27 #[.agg #[.bool y1.b, .slice y1.A y1.n y1.c, .bool y1.p, .slice y1.E y1.m y1.q]] W (RV W (.int .i64 (nz : Int)))) :=
    ⟨_, f5, fun W hW => len_any y1.b y1.p W (vd.call hW).ok.1 (vd.call hW).ok.2 (by omega) (by omega)⟩
  have HS : Hid (∀ W, Later u1 W → ((W.cell? ⟨w4.heap.size, 0, none⟩ = some (.bool y1.b) ∧ W.cell? ⟨w4.heap.size, 1, none⟩ = some (.slice y1.A y1.n y1.c) ∧ W.cell? ⟨w4.heap.size, 2, none⟩ = some (.bool y1.p) ∧ W.cell? ⟨w4.heap.size, 3, none⟩ = some (.slice y1.E y1.m y1.q)) ∧ (W.cell? ⟨w2.heap.size, 0, none⟩ = some (.bool X.neg) ∧ W.cell? ⟨w2.heap.size, 1, none⟩ = some (.slice A2 n2 c2) ∧ W.cell? ⟨w2.heap.size, 2, none⟩ = some (.int .i64 X.s))) ∧ Later u1 W) := fun W hW => ⟨⟨⟨(vd.call hW).c0, (vd.call hW).c1, (vd.call hW).c2, (vd.call hW).c3⟩, ⟨(vx.call hW).c0, (vx.call hW).c1, (vx.call hW).c2⟩⟩, hW⟩
  have hLu : Later w u1 := vd.later
  clear vd vx f1 f2 f5 f6 f7 e1 e2' e3' e4 hln1 hln2 hT hTl hcX hdd hml hmf mX
  go_upto_region 13 with fail
  go_region_held3 (fun W => ((W.cell? ⟨w4.heap.size, 0, none⟩ = some (.bool y1.b) ∧ W.cell? ⟨w4.heap.size, 1, none⟩ = some (.slice y1.A y1.n y1.c) ∧ W.cell? ⟨w4.heap.size, 2, none⟩ = some (.bool y1.p) ∧ W.cell? ⟨w4.heap.size, 3, none⟩ = some (.slice y1.E y1.m y1.q)) ∧ (W.cell? ⟨w2.heap.size, 0, none⟩ = some (.bool X.neg) ∧ W.cell? ⟨w2.heap.size, 1, none⟩ = some (.slice A2 n2 c2) ∧ W.cell? ⟨w2.heap.size, 2, none⟩ = some (.int .i64 X.s))) ∧ Later u1 W)
    ((refine HS.out _ ?_; repeat (first | exact And.right (by assumption) | exact Later.refl _ | refine Later.call ?_ hB | refine Later.drew ?_)))
    (first
      | (go_at_call 24; refine (hm1.out _ (And.right (by assumption))).mono ?_; rintro e w8 ⟨rfl, hB⟩)
      | (go_at_call 26; refine (hd1.out _ (And.right (by assumption))).mono ?_; rintro e w9 ⟨A9, n9, c9, rfl, hI9, hB, _⟩)
      | (go_at_call 25; refine (hcp.out _ _ _ _ (And.right (by assumption)) hI9).mono ?_; rintro e w8 ⟨rfl, hB⟩)
      | (go_at_call 27; refine (hln.out _ (And.right (by assumption))).mono ?_; rintro e w8 ⟨rfl, hB⟩)
      | (go_at_call 28; refine (lives14_any _).mono ?_; rintro e w8 ⟨rfl, hB⟩))
  all_goals
    go_wp2_with fail
    go_ret
    exact ⟨rfl, below_from hLu (And.right (by assumption))⟩

end Go.Proofs.Ytppkifdngjcbeaa

