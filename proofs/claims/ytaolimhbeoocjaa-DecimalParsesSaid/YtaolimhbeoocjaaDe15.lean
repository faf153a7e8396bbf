/- What the laws of layer 6 share: decimals that may be, made of any; comparing is an order. No condition. -/
import Derived.Test.YtaolimhbeoocjaaDe14
import Derived.Test.YtaolimhbeoocjaaDe5g
import Derived.Test.YtaolimhbeoocjaaDe6
namespace Go.Proofs.Ytaolimhbeoocjaa
open Go.RowKit

/-- A made decimal. -/
def GoodDc (X : Dc) (q : Nat) : Prop := mayL X.l = true ∧ 0 ≤ X.s ∧ X.s ≤ 9 ∧ X.l.length ≤ q
theorem cgood_ex {A : Option Addr} {n c : Nat} {l : List Int} (b : Bool) (s : Int) (q : Nat) (hl : I64 l) (hs : -9223372036854775808 ≤ s ∧ s ≤ 9223372036854775807) (hq : q ≤ 1000) :
    ∃ X : Dc, GoodDc X q ∧ Hid (X = ⟨b, goodL l q, around s 10⟩) ∧ Hid (∀ W, IL W A n c l → Calls Try.prog 6 #[.agg #[.bool b, .slice A n c, .int .i64 s], .int .i64 (q : Int)] W (RC W X)) := by
  refine ⟨⟨b, goodL l q, around s 10⟩, ⟨mayL_good _ _, ?_, ?_, ?_⟩, rfl, fun W hW => cgood_any b s q W hW hl hs (by omega)⟩
  · exact (around_bd s 10 (by omega)).1
  · have := (around_bd s 10 (by omega)).2
    simp only
    omega
  · simp only
    rw [goodL_len]; omega
theorem cmpDc_trans {x y z : Dc} (h1 : cmpDc x y ≤ 0) (h2 : cmpDc y z ≤ 0) : cmpDc x z ≤ 0 := by
  rw [cmpDc_at x y (max x.s.toNat (max y.s.toNat z.s.toNat)) (by omega) (by omega)] at h1
  rw [cmpDc_at y z (max x.s.toNat (max y.s.toNat z.s.toNat)) (by omega) (by omega)] at h2
  rw [cmpDc_at x z (max x.s.toNat (max y.s.toNat z.s.toNat)) (by omega) (by omega)]
  unfold cmpI at *
  split at h1
  · split at h2
    · rw [if_pos (by omega)]; omega
    · split at h2
      · omega
      · rw [if_pos (by omega)]; omega
  · split at h1
    · omega
    · split at h2
      · rw [if_pos (by omega)]; omega
      · split at h2
        · omega
        · rw [if_neg (by omega), if_neg (by omega)]; omega
theorem cmpDc_bd (x y : Dc) : -1 ≤ cmpDc x y ∧ cmpDc x y ≤ 1 := cmpI_bd _ _

/-- A decimal's value in memory: three cells of a block, and its digits. -/
def DcAt (g : Nat) (A : Option Addr) (n c : Nat) (X : Dc) (W : World) : Prop :=
  (W.cell? ⟨g, 0, none⟩ = some (.bool X.neg) ∧ W.cell? ⟨g, 1, none⟩ = some (.slice A n c) ∧ W.cell? ⟨g, 2, none⟩ = some (.int .i64 X.s)) ∧ IL W A n c X.l
theorem DcAt.later {g : Nat} {A : Option Addr} {n c : Nat} {X : Dc} {W W' : World} (h : DcAt g A n c X W) (hL : Later W W') : DcAt g A n c X W' :=
  ⟨⟨hL.cell h.1.1, hL.cell h.1.2.1, hL.cell h.1.2.2⟩, h.2.later hL⟩
theorem Blk.dc {w0 W : World} {g : Nat} {t : TypeId} {A : Option Addr} {n c : Nat} {X : Dc} (h : Blk w0 g t #[.bool X.neg, .slice A n c, .int .i64 X.s] W) (hI : IL W A n c X.l) : DcAt g A n c X W := ⟨h.cells3.1, hI⟩
theorem DcAt.k0 {g : Nat} {A : Option Addr} {n c : Nat} {X : Dc} {W : World} (h : DcAt g A n c X W) (s : Ext W) : s.world.cell? ⟨g, 0, none⟩ = some (.bool X.neg) := Ext.cell h.1.1 s
theorem DcAt.k1 {g : Nat} {A : Option Addr} {n c : Nat} {X : Dc} {W : World} (h : DcAt g A n c X W) (s : Ext W) : s.world.cell? ⟨g, 1, none⟩ = some (.slice A n c) := Ext.cell h.1.2.1 s
theorem DcAt.k2 {g : Nat} {A : Option Addr} {n c : Nat} {X : Dc} {W : World} (h : DcAt g A n c X W) (s : Ext W) : s.world.cell? ⟨g, 2, none⟩ = some (.int .i64 X.s) := Ext.cell h.1.2.2 s
theorem DcAt.il {g : Nat} {A : Option Addr} {n c : Nat} {X : Dc} {W : World} (h : DcAt g A n c X W) (s : Ext W) : IL s.world A n c X.l := h.2.ext s

theorem rccompare_at {g : Nat} {A : Option Addr} {n c : Nat} {X : Dc} {g2 : Nat} {A2 : Option Addr} {n2 c2 : Nat} {Y : Dc} {W : World} (h : DcAt g A n c X W) (h2 : DcAt g2 A2 n2 c2 Y W) {q q2 : Nat} (hX : GoodDc X q) (hY : GoodDc Y q2) (hq : q ≤ 10000) (hq2 : q2 ≤ 10000) (s : Ext W) :
    Calls Try.prog 19 #[.agg #[.bool X.neg, .slice A n c, .int .i64 X.s], .agg #[.bool Y.neg, .slice A2 n2 c2, .int .i64 Y.s]] s.world (RV s.world (.int .i64 (cmpDc X Y))) :=
  rccompare_any X.neg Y.neg X.s Y.s s.world (h.il s) (h2.il s) hX.1 hY.1 (by have := h.2.len; have := hX.2.2.2; omega) (by have := h2.2.len; have := hY.2.2.2; omega) hX.2.1 (by have := hX.2.2.1; omega) hY.2.1 (by have := hY.2.2.1; omega)

end Go.Proofs.Ytaolimhbeoocjaa
