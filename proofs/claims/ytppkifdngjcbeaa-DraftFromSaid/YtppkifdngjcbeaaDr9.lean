/- The walk of what lives in layer 14. No condition. -/
import Derived.Test.YtppkifdngjcbeaaDr8
import Derived.Test.YtppkifdngjcbeaaL5
namespace Go.Proofs.Ytppkifdngjcbeaa
open Go.RowKit

theorem spl_lives : spliceS ⟨false, [1, 2], true, []⟩ 1 1 [1] = (⟨false, [1, 1, 2], true, []⟩, 0) := by rfl
theorem text_lives : bs (textD ⟨false, [1, 1, 2], true, []⟩) = { data := #[49, 49, 50, 46] } := by rfl

set_option maxHeartbeats 1000000 in
theorem lives14_any (w : World) : Calls Try.prog 28 #[] w (RV w (.bool true)) := by
  have b12 : ∀ x, x ∈ [(1 : Int), 2] → -9223372036854775808 ≤ x ∧ x ≤ 9223372036854775807 := by simp
  have b1 : ∀ x, x ∈ [(1 : Int)] → -9223372036854775808 ≤ x ∧ x ≤ 9223372036854775807 := by simp
  have b0 : I64 [] := fun x hx => by cases hx
  have b112 : I64 [1, 1, 2] := by unfold I64; simp
  have hsp := Lib.hid (fun (A : Option Addr) (n c : Nat) (E : Option Addr) (m k : Nat) (S : Option Addr) (ns cs : Nat) (W : World) (h1 : IL W A n c [1, 2]) (h2 : IL W E m k []) (h3 : IL W S ns cs [1]) => show Calls Try.prog 73 #[.agg #[.bool false, .slice A n c, .bool true, .slice E m k], .int .i64 1, .int .i64 1, .slice S ns cs] W (RDE W ⟨false, [1, 1, 2], true, []⟩ 0) by
    have e1 := h1.len
    have e2 := h2.len
    have e3 := h3.len
    simp at e1 e2 e3
    have := splice_any false true 1 1 W h1 h2 h3 b12 b0 b1 (by omega) (by omega) (by omega) (by omega) (by omega)
    rw [spl_lives] at this
    exact this)
  have htx := Lib.hid (fun (A : Option Addr) (n c : Nat) (E : Option Addr) (m k : Nat) (W : World) (h1 : IL W A n c [1, 1, 2]) (h2 : IL W E m k []) => show Calls Try.prog 74 #[.agg #[.bool false, .slice A n c, .bool true, .slice E m k]] W (RV W (.string { data := #[49, 49, 50, 46] })) by
    have e1 := h1.len
    have e2 := h2.len
    simp at e1 e2
    have := dtext_any false true W h1 h2 b112 b0 (by omega) (by omega)
    rw [text_lives] at this
    exact this)
  have hat := Lib.hid (fun (A : Option Addr) (n c : Nat) (E : Option Addr) (m k : Nat) (W : World) (h1 : IL W A n c [1, 1, 2]) (h2 : IL W E m k []) => show Calls Try.prog 72 #[.agg #[.bool false, .slice A n c, .bool true, .slice E m k]] W (RO W [1, 1, 2, 10]) by
    have e1 := h1.len
    have e2 := h2.len
    simp at e1 e2
    exact atoms_any false true W h1 h2 (by omega) (by omega))
  have hsm := Lib.hid (fun (A : Option Addr) (n c : Nat) (A2 : Option Addr) (n2 c2 : Nat) (W : World) (h1 : IL W A n c [1, 1, 2, 10]) (h2 : IL W A2 n2 c2 [1, 1, 2, 10]) => show Calls Try.prog 15 #[.slice A n c, .slice A2 n2 c2] W (RQ W (.bool true)) from same_any A n c _ A2 n2 c2 _ W h1 h2)
  clear b12 b1 b0 b112
  go_enter Try.func28, Try.ntmps28
  go_wp2_with fail
  refine (hsp.out _ _ _ _ _ _ _ _ _ _ (IL.alloc (IL.lit2 _ _ _ _ _ (by simp)) _) (IL.nil _) (IL.lit1 _ _ _ _ (by simp))).mono ?_
  rintro e w1 ⟨A, n, c, E, m, k, rfl, hI, hJ, hB, _, _⟩
  have hF := Fresh4.made w1 w1 38 (.bool false) (.slice A n c) (.bool true) (.slice E m k) (Later.refl w1) _ rfl
  go_wp2_with fail
  refine (htx.out _ _ _ _ _ _ _ (hI.alloc _) (hJ.alloc _)).mono ?_
  rintro e w2 ⟨rfl, hB2⟩
  have hF2 := hF.call hB2
  obtain ⟨⟨q0, q1, q2, q3⟩, _⟩ := hF2.cells
  go_wp2_with fail
  refine (hat.out _ _ _ _ _ _ _ (hI.later hF2.2.2) (hJ.later hF2.2.2)).mono ?_
  rintro e w3 ⟨A3, n3, c3, rfl, hO, hB3⟩
  go_wp2_with fail
  refine (hsm.out _ _ _ _ _ _ _ (hO.il.alloc _) (IL.lit4 _ _ _ _ _ _ _ (by simp))).mono ?_
  rintro e w4 ⟨rfl, j, rfl⟩
  go_wp2_with fail
  go_ret
  have hb1 : Below w.heap.size w w1 := ((((Below.refl _ _).alloc (Nat.le_refl _) _).alloc (by simp) _).trans (hB.mono (by simp; omega)))
  exact ⟨rfl, ((below_from (below_from hb1 hF2.2.2) hB3).alloc (by have := hb1.size; have := hF2.2.2.size; have := hB3.size; omega) _).trans (below_drewN _ _ _)⟩

end Go.Proofs.Ytppkifdngjcbeaa
