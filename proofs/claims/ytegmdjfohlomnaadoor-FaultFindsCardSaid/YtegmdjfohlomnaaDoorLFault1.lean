/- The walks of four laws of the faults. No condition. -/
import Derived.Test.YtegmdjfohlomnaaDoorFl6
namespace Go.Proofs.YtegmdjfohlomnaaDoor
open Go.RowKit

set_option maxHeartbeats 1000000 in
theorem faultNone_walk (w : World) (hG : Gl w) {s : ByteArray} (_hs : s.size ≤ 9223372036854775807) :
    Calls Tryd.prog 5 #[.string s] w fun e w' => e = .returned (.bool true) ∧ Below w.heap.size w w' := by
  go_enter Tryd.func5, Tryd.ntmps5
  go_wp2_with fail
  refine (of_ok w).mono ?_
  rintro e w1 ⟨rfl, rfl⟩
  go_wp2_with fail
  refine (wrap_nil _ _).mono ?_
  rintro e w2 ⟨rfl, rfl⟩
  go_wp2_with fail
  refine (code_nil _).mono ?_
  rintro e w3 ⟨rfl, hb3⟩
  go_wp2_with fail
  refine (path_nil _).mono ?_
  rintro e w4 ⟨rfl, hb4⟩
  have hb24 := below_from hb3 hb4
  go_wp2_with fail
  refine (depth_nil _).mono ?_
  rintro e w5 ⟨rfl, hb5⟩
  have hb25 := below_from hb24 hb5
  go_wp2_with fail
  refine (lives_any _ (hG.below hb25)).mono ?_
  rintro e w6 ⟨rfl, hb6⟩
  go_wp2_with fail
  go_ret
  exact ⟨rfl, below_from hb25 hb6⟩

set_option maxHeartbeats 1000000 in
theorem faultFinds_walk (w : World) (hG : Gl w) {n0 : Int} (_hn : -9223372036854775808 ≤ n0 ∧ n0 ≤ 9223372036854775807) {A : Option Addr} {n c : Nat} {ss : List ByteArray} (h : SL w A n c ss) :
    Calls Tryd.prog 4 #[.int .i64 n0, .slice A n c] w fun e w' => e = .returned (.bool true) ∧ Below w.heap.size w w' := by
  have hpl : (pathS ss 6).length ≤ 6 := by rw [pathS_len]; omega
  have hbeg := Lib.hid (begin_any n0 A n c ss w h)
  generalize pathS ss 6 = P at *
  generalize codeS n0 = C at *
  go_enter Tryd.func4, Tryd.ntmps4
  go_wp2_with fail
  refine hbeg.out.mono ?_
  rintro e w1 ⟨v, A1, n1, c1, rfl, hC1, hS1, hb1⟩
  have hn1 := hS1.len
  obtain ⟨tv, yv, rfl⟩ := hC1.iface
  go_wp2_with fail
  refine (code_any C _ P _ _ (hG.below hb1) hC1 (Nat.le_refl _)).mono ?_
  rintro e w2 ⟨rfl, hb2⟩
  have hb12 := below_from hb1 hb2
  have hC2 := hC1.below hb2 (Nat.le_refl _)
  go_wp2_with fail
  refine (path_any C _ P _ _ (hG.below hb12) hC2 (Below.size hb2) (by omega)).mono ?_
  rintro e w3 ⟨A3, n3, c3, rfl, hO3, hb3⟩
  have hb13 := below_from hb12 hb3
  have hC3 := hC2.below hb3 (Below.size hb2)
  go_wp2_with fail
  refine (texts_any _ _ _ _ _ _ _ _ _ hO3.sl (VL.below (VL.below hS1 hb2) hb3)).mono ?_
  rintro e w4 ⟨rfl, k4, rfl⟩
  have hPP := decide_eq_true (rfl : P = P)
  have hs13 : w1.heap.size ≤ w3.heap.size := Nat.le_trans (Below.size hb2) (Below.size hb3)
  go_wp2_with fail
  refine (depth_any C _ P _ _ (hG.below (hb13.trans (below_drewN _ _ _))) (hC3.below (below_drewN w3.heap.size w3 k4) hs13) (hs13 : w1.heap.size ≤ w3.heap.size) (by omega)).mono ?_
  rintro e w5 ⟨rfl, hb5⟩
  subst hn1
  have hb15 := below_from (hb13.trans (below_drewN _ _ _)) hb5
  go_wp2_with fail
  refine (lives_any _ (hG.below hb15)).mono ?_
  rintro e w6 ⟨rfl, hb6⟩
  go_wp2_with fail
  go_ret
  exact ⟨rfl, below_from hb15 hb6⟩

end Go.Proofs.YtegmdjfohlomnaaDoor
