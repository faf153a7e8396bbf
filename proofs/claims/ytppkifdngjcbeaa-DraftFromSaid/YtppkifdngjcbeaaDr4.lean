/- The walk of the draft of atoms. No condition. -/
import Derived.Test.YtppkifdngjcbeaaDr3
namespace Go.Proofs.Ytppkifdngjcbeaa
open Go.RowKit

def Dr.none : Dr := ⟨false, [], false, []⟩
/-- The draft of atoms, and the code. -/
def ofS (b : Bool) (l : List Int) : Dr × Int :=
  if oddL l then (Dr.none, 1) else if l.any (· == 10) then (if (postL l).any (· == 10) then (Dr.none, 6) else (⟨b, preL l, true, postL l⟩, 0)) else (⟨b, l, false, []⟩, 0)

theorem IL.set4 {W : World} {A : Option Addr} {n c : Nat} {l : List Int} (h : IL W A n c l) {g : Nat} (hp : 0 < n → ∀ a, A = some a → a.block ≠ g) (u0 u1 u2 u3 : Value) :
    IL ((((W.setCell ⟨g, 0, none⟩ u0).setCell ⟨g, 1, none⟩ u1).setCell ⟨g, 2, none⟩ u2).setCell ⟨g, 3, none⟩ u3) A n c l :=
  (((h.set_ (p := ⟨g, 0, none⟩) hp _).set_ (p := ⟨g, 1, none⟩) hp _).set_ (p := ⟨g, 2, none⟩) hp _).set_ (p := ⟨g, 3, none⟩) hp _
theorem below_set4 {w0 W : World} {B : Nat} (h : Below B w0 W) {g : Nat} (hg : B ≤ g) (u0 u1 u2 u3 : Value) :
    Below B w0 ((((W.setCell ⟨g, 0, none⟩ u0).setCell ⟨g, 1, none⟩ u1).setCell ⟨g, 2, none⟩ u2).setCell ⟨g, 3, none⟩ u3) :=
  (((h.setCell (p := ⟨g, 0, none⟩) hg _).setCell (p := ⟨g, 1, none⟩) hg _).setCell (p := ⟨g, 2, none⟩) hg _).setCell (p := ⟨g, 3, none⟩) hg _
theorem Fresh4.store {w0 W : World} {g : Nat} {t : TypeId} {a b c d : Value} (h : Fresh4 w0 g t a b c d W) (u0 u1 u2 u3 : Value) :
    Fresh4 w0 g t u0 u1 u2 u3 ((((W.setCell ⟨g, 0, none⟩ u0).setCell ⟨g, 1, none⟩ u1).setCell ⟨g, 2, none⟩ u2).setCell ⟨g, 3, none⟩ u3) :=
  (((h.set0 _).set1 _).set2 _).set3 _
theorem IL.dropv {w : World} {A A' : Option Addr} {n c k n' c' : Nat} {l : List Int} (h : IL w A n c l) (hk : k ≤ n) (hn : n' = n - k) (hc : c' = c - k) (hA : k < n → A' = A.map (·.add k)) : IL w A' n' c' (l.drop k) := by
  subst hn hc; exact h.drop hk A' hA
theorem IL.takev {w : World} {A A' : Option Addr} {n c k c' : Nat} {l : List Int} (h : IL w A n c l) (hk : k ≤ n) (hc : c' = c) (hA : 0 < k → A' = A) : IL w A' k c' (l.take k) := by
  subst hc; exact h.take hk (Nat.le_trans hk h.le) (Nat.le_refl _) A' hA
theorem OL.apart {W : World} {B n c g : Nat} {A : Option Addr} {l : List Int} (h : OL W B A n c l) (hg : g < B) : 0 < n → ∀ a, A = some a → a.block ≠ g := fun hn a ha => by
  have := (h.away hn a ha).1
  omega

set_option maxHeartbeats 1000000 in
theorem of_draft {A : Option Addr} {n c : Nat} {l : List Int} (b : Bool) (w : World) (h : IL w A n c l) (hl : I64 l) (hn : n ≤ 1000000) :
    Calls Try.prog 92 #[.bool b, .slice A n c] w (RDE w (ofS b l).1 (ofS b l).2) := by
  have hle := h.le
  have hcap := h.cap
  have hR := Fresh4.made w w 38 (.bool false) (.slice none 0 0) (.bool false) (.slice none 0 0) (Later.refl w) _ rfl
  have hbx : Below w.heap.size w (w.alloc (.cells #[.bool false, .slice none 0 0, .bool false, .slice none 0 0] 38)) := (Below.refl _ _).alloc (Nat.le_refl _) _
  have ho := Lib.hid (fun W hW => dodd_any A n c l W hW hl)
  have hi := Lib.hid (fun W hW => index_any 10 A n c l W hW)
  have hix := idx_pre l 0
  generalize hD : ofS b l = D
  cases h1 : oddL l
  · rw [h1] at ho
    cases h2 : l.any (· == 10)
    · rw [h2] at hix
      simp only [Bool.false_eq_true, if_false] at hix
      rw [hix] at hi
      have HD : Hid (D = (⟨b, l, false, []⟩, 0)) := by rw [Hid, ← hD, ofS, h1, h2]; rfl
      clear hD h1 h2 hix
      go_enter Try.func92, Try.ntmps92
      go_wp2_with fail
      refine (ho.out _ (h.alloc _)).mono ?_
      rintro e w1 ⟨rfl, rfl⟩
      go_wp2_with fail
      refine (hi.out _ (h.alloc _)).mono ?_
      rintro e w1 ⟨rfl, rfl⟩
      go_wp2_with fail
      refine (clone_any _ _ _ l _ (h.alloc _) (by omega)).mono ?_
      rintro e w1 ⟨A1, n1, c1, rfl, hO, hB⟩
      have hR2 := hR.call hB
      obtain ⟨⟨c0, c1', c2, c3⟩, ⟨f0, f1, f2, f3⟩⟩ := hR2.cells
      have hap := hO.apart (g := w.heap.size) (by simp)
      go_wp2_with fail
      rw [HD.out]
      obtain ⟨⟨z0, z1, z2, z3⟩, _⟩ := (hR2.store (.bool b) (.slice A1 n1 c1) (.bool false) (.slice none 0 0)).cells
      exact bodyPost_ret (v := .tuple #[.agg #[.bool b, .slice A1 n1 c1, .bool false, .slice none 0 0], .int .i64 0]) (by generalize World.setCell (World.setCell (World.setCell (World.setCell _ _ _) _ _) _ _) _ _ = W3 at z0 z1 z2 z3 ⊢; simp [results, Try.results92, go_sem, z0, z1, z2, z3]) rfl
        ⟨A1, n1, c1, none, 0, 0, rfl, hO.il.set4 hap _ _ _ _, IL.nil _, below_set4 (below_from hbx hB) (Nat.le_refl _) _ _ _ _, hO.newer (by simp), none_newer _⟩
    · rw [h2] at hix
      simp only [if_true, Nat.zero_add] at hix
      obtain ⟨hpo, hlt⟩ := post_drop l h2
      have htk := pre_take l
      have hlen := h.len
      cases h3 : (postL l).any (· == 10)
      · have HD : Hid (D = (⟨b, preL l, true, postL l⟩, 0)) := by rw [Hid, ← hD, ofS, h1, h2, h3]; rfl
        generalize hq : (preL l).length = q at *
        clear hq
        rw [hix] at hi
        have hqn : q < n := by omega
        rw [← hpo] at h3
        have hr := Lib.hid (fun W A' n' c' hW => contains_any 10 A' n' c' (l.drop (q + 1)) W hW)
        rw [h3] at hr
        have HP := Lib.hid hpo
        have HT := Lib.hid htk
        clear hD h1 h2 h3 hix hpo htk hlt hlen
        go_enter Try.func92, Try.ntmps92
        go_wp2_with fail
        refine (ho.out _ (h.alloc _)).mono ?_
        rintro e w1 ⟨rfl, rfl⟩
        go_wp2_with fail
        refine (hi.out _ (h.alloc _)).mono ?_
        rintro e w1 ⟨rfl, rfl⟩
        go_wp2_with fail
        all_goals
          refine (hr.out _ _ _ _ ((IL.alloc (by assumption) _).dropv (by omega) (by omega) (by omega) (fun hk => by first | rfl | (exfalso; omega)))).mono ?_
          rintro e w1 ⟨rfl, rfl⟩
          go_wp2_with fail
          refine (clone_any _ _ _ (l.take q) _ ((IL.alloc (by assumption) _).takev (by omega) (by omega) (fun _ => by first | rfl | assumption | omega)) (by omega)).mono ?_
          rintro e w1 ⟨A1, n1, c1, rfl, hO, hB⟩
          go_wp2_with fail
          refine (clone_any _ _ _ (l.drop (q + 1)) _ (((IL.alloc (by assumption) _).below hB).dropv (by omega) (by omega) (by omega) (fun hk => by first | rfl | (exfalso; omega))) (by omega)).mono ?_
          rintro e w2 ⟨A2, n2, c2, rfl, hO2, hB2⟩
          have hR2 := (hR.call hB).call hB2
          obtain ⟨⟨c0, c1', c2', c3⟩, ⟨f0, f1, f2, f3⟩⟩ := hR2.cells
          have hap := hO.apart (g := w.heap.size) (by simp)
          have hap2 := hO2.apart (g := w.heap.size) (by have := (hR.call hB).lt; exact this)
          go_wp2_with fail
          rw [HD.out]
          obtain ⟨⟨z0, z1, z2, z3⟩, _⟩ := (hR2.store (.bool b) (.slice A1 n1 c1) (.bool true) (.slice A2 n2 c2)).cells
          exact bodyPost_ret (v := .tuple #[.agg #[.bool b, .slice A1 n1 c1, .bool true, .slice A2 n2 c2], .int .i64 0]) (by generalize World.setCell (World.setCell (World.setCell (World.setCell _ _ _) _ _) _ _) _ _ = W3 at z0 z1 z2 z3 ⊢; simp [results, Try.results92, go_sem, z0, z1, z2, z3]) rfl
            ⟨A1, n1, c1, A2, n2, c2, rfl, by rw [← HT.out]; exact (hO.il.below hB2).set4 hap _ _ _ _, by rw [← HP.out]; exact hO2.il.set4 hap2 _ _ _ _, below_set4 (below_from (below_from hbx hB) hB2) (Nat.le_refl _) _ _ _ _, hO.newer (by simp), hO2.newer (by have := (hR.call hB).lt; omega)⟩
      · have HD : Hid (D = (Dr.none, 6)) := by rw [Hid, ← hD, ofS, h1, h2, h3]; rfl
        generalize hq : (preL l).length = q at *
        clear hq
        rw [hix] at hi
        have hqn : q < n := by omega
        rw [← hpo] at h3
        have hr := Lib.hid (fun W A' n' c' hW => contains_any 10 A' n' c' (l.drop (q + 1)) W hW)
        rw [h3] at hr
        clear hD h1 h2 h3 hix hpo htk hlt hlen
        obtain ⟨⟨c0, c1', c2', c3⟩, ⟨f0, f1, f2, f3⟩⟩ := hR.cells
        go_enter Try.func92, Try.ntmps92
        go_wp2_with fail
        refine (ho.out _ (h.alloc _)).mono ?_
        rintro e w1 ⟨rfl, rfl⟩
        go_wp2_with fail
        refine (hi.out _ (h.alloc _)).mono ?_
        rintro e w1 ⟨rfl, rfl⟩
        go_wp2_with fail
        all_goals
          refine (hr.out _ _ _ _ ((IL.alloc (by assumption) _).dropv (by omega) (by omega) (by omega) (fun hk => by first | rfl | (exfalso; omega)))).mono ?_
          rintro e w1 ⟨rfl, rfl⟩
          go_wp2_with fail
          rw [HD.out]
          exact bodyPost_ret (v := .tuple #[.agg #[.bool false, .slice none 0 0, .bool false, .slice none 0 0], .int .i64 6]) (by simp [results, Try.results92, go_sem]) rfl
            ⟨none, 0, 0, none, 0, 0, rfl, IL.nil _, IL.nil _, hbx, none_newer _, none_newer _⟩
  · rw [h1] at ho
    have HD : Hid (D = (Dr.none, 1)) := by rw [Hid, ← hD, ofS, h1]; rfl
    clear hD h1 hix
    obtain ⟨⟨c0, c1', c2', c3⟩, ⟨f0, f1, f2, f3⟩⟩ := hR.cells
    go_enter Try.func92, Try.ntmps92
    go_wp2_with fail
    refine (ho.out _ (h.alloc _)).mono ?_
    rintro e w1 ⟨rfl, rfl⟩
    go_wp2_with fail
    rw [HD.out]
    exact bodyPost_ret (v := .tuple #[.agg #[.bool false, .slice none 0 0, .bool false, .slice none 0 0], .int .i64 1]) (by simp [results, Try.results92, go_sem]) rfl
      ⟨none, 0, 0, none, 0, 0, rfl, IL.nil _, IL.nil _, hbx, none_newer _, none_newer _⟩

end Go.Proofs.Ytppkifdngjcbeaa
