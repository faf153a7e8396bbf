/- What the laws of layer 6 share: decimals as each side has them, and what lives. No condition. -/
import Derived.Test.YtaolimhbeoocjaaDe10
import Derived.Test.YtaolimhbeoocjaaDe13
namespace Go.Proofs.Ytaolimhbeoocjaa
open Go.RowKit

theorem of6_any {A : Option Addr} {n c : Nat} (b : Bool) (s : Int) (w : World) : Calls Try.prog 16 #[.agg #[.bool b, .slice A n c, .int .i64 s]] w (RV w (.agg #[.bool b, .slice A n c, .int .i64 s])) := by
  go_enter Try.func16, Try.ntmps16
  go_wp2
  exact bodyPost_ret (v := .agg #[.bool b, .slice A n c, .int .i64 s]) (by simp [results, Try.results16, go_sem]) rfl ⟨rfl, ((Below.refl _ _).alloc (Nat.le_refl _) _).alloc (by simp) _⟩
theorem as6_any {A : Option Addr} {n c : Nat} (b : Bool) (s : Int) (w : World) : Calls Try.prog 13 #[.agg #[.bool b, .slice A n c, .int .i64 s]] w (RV w (.agg #[.bool b, .slice A n c, .int .i64 s])) := by
  go_enter Try.func13, Try.ntmps13
  go_wp2
  exact bodyPost_ret (v := .agg #[.bool b, .slice A n c, .int .i64 s]) (by simp [results, Try.results13, go_sem]) rfl ⟨rfl, ((Below.refl _ _).alloc (Nat.le_refl _) _).alloc (by simp) _⟩

theorem IL.one1 (w : World) (e : TypeId) (x : Int) (b : Nat) (hb : b = w.heap.size) : IL (w.alloc (.cells #[.int .i64 x] e)) (some ⟨b, 0, none⟩) 1 1 [x] := by
  subst hb; exact VL.lit w e 1 [.int .i64 x] rfl (by omega)
theorem IL.one3 (w : World) (e : TypeId) (x y z : Int) (b : Nat) (hb : b = w.heap.size) : IL (w.alloc (.cells #[.int .i64 x, .int .i64 y, .int .i64 z] e)) (some ⟨b, 0, none⟩) 3 3 [x, y, z] := by
  subst hb; exact VL.lit w e 3 [.int .i64 x, .int .i64 y, .int .i64 z] rfl (by omega)
theorem I64_lit {l : List Int} (h : l.all (fun x => decide (-1000 ≤ x) && decide (x ≤ 1000)) = true) : I64 l := fun x hx => by
  have := List.all_eq_true.1 h x hx
  simp at this
  omega
theorem lives6_add : addDc ⟨false, [5], 1⟩ ⟨true, [1, 2, 5], 2⟩ = (⟨true, [7, 5], 2⟩, 0) := by rfl
theorem lives6_p1 : bs (printL ⟨true, [7, 5], 2⟩) = { data := #[45, 48, 46, 55, 53] } := by rfl
theorem lives6_p2 : bs (printL ⟨false, [7], 2⟩) = { data := #[48, 46, 48, 55] } := by rfl

set_option maxHeartbeats 2000000 in
theorem lives6_any (w : World) : Calls Try.prog 7 #[] w (RV w (.bool true)) := by
  have ha := Lib.hid (fun (A : Option Addr) (n c : Nat) (A2 : Option Addr) (n2 c2 : Nat) (W : World) (h1 : IL W A n c [5]) (h2 : IL W A2 n2 c2 [1, 2, 5]) => show Calls Try.prog 22 #[.agg #[.bool false, .slice A n c, .int .i64 1], .agg #[.bool true, .slice A2 n2 c2, .int .i64 2]] W (RCE W ⟨true, [7, 5], 2⟩ 0) by
    have e1 := h1.len
    have e2 := h2.len
    simp at e1 e2
    have := cadd_any false true 1 2 W h1 h2 (I64_lit rfl) (I64_lit rfl) (by omega) (by omega) (by omega) (by omega)
    rw [lives6_add] at this
    exact this)
  have hp1 := Lib.hid (fun (A : Option Addr) (n c : Nat) (W : World) (h1 : IL W A n c [7, 5]) => show Calls Try.prog 15 #[.agg #[.bool true, .slice A n c, .int .i64 2]] W (RV W (.string { data := #[45, 48, 46, 55, 53] })) by
    have e1 := h1.len
    simp at e1
    have := cprint_any true 2 W h1 (I64_lit rfl) (by omega) (by omega)
    rw [lives6_p1] at this
    exact this)
  have hp2 := Lib.hid (fun (A : Option Addr) (n c : Nat) (W : World) (h1 : IL W A n c [7]) => show Calls Try.prog 15 #[.agg #[.bool false, .slice A n c, .int .i64 2]] W (RV W (.string { data := #[48, 46, 48, 55] })) by
    have e1 := h1.len
    simp at e1
    have := cprint_any false 2 W h1 (I64_lit rfl) (by omega) (by omega)
    rw [lives6_p2] at this
    exact this)
  go_enter Try.func7, Try.ntmps7
  go_wp2_with fail
  refine (ha.out _ _ _ _ _ _ _ ((IL.one1 _ _ _ _ rfl).alloc _) (IL.one3 _ _ _ _ _ _ (by simp))).mono ?_
  rintro e w1 ⟨A, n, c, rfl, hI, hB, _⟩
  have hL1 : Later w w1 := ((((Later.refl w).alloc _).alloc _).call hB)
  have hF := Blk.made w w1 32 #[.bool true, .slice A n c, .int .i64 2] hL1 _ rfl
  obtain ⟨⟨q0, q1, q2⟩, _⟩ := hF.cells3
  go_wp2_with fail
  refine (hp1.out _ _ _ _ (hI.alloc _)).mono ?_
  rintro e w2 ⟨rfl, hB2⟩
  go_wp2_with fail
  refine (hp2.out _ _ _ _ (IL.one1 _ _ _ _ rfl)).mono ?_
  rintro e w3 ⟨rfl, hB3⟩
  go_wp2_with fail
  go_ret
  exact ⟨rfl, ((hF.later.call hB2).alloc _).call hB3⟩

end Go.Proofs.Ytaolimhbeoocjaa
