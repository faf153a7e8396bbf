/- The walk of the law FaultTexts. No condition. -/
import Derived.Test.YtegmdjfohlomnaaDoorFl9
namespace Go.Proofs.YtegmdjfohlomnaaDoor
open Go.RowKit

theorem codeS_bd {n : Int} (h : -9223372036854775808 ≤ n ∧ n ≤ 9223372036854775807) : -9223372036854775808 ≤ codeS n ∧ codeS n ≤ 9223372036854775807 := by unfold codeS; split <;> omega
set_option maxHeartbeats 1000000 in
theorem faultTexts_walk (w : World) (hG : Gl w) {n0 : Int} (hn : -9223372036854775808 ≤ n0 ∧ n0 ≤ 9223372036854775807) {A : Option Addr} {n c : Nat} {ss : List ByteArray} (h : SL w A n c ss) :
    Calls Tryd.prog 3 #[.int .i64 n0, .slice A n c] w fun e w' => e = .returned (.bool true) ∧ Below w.heap.size w w' := by
  have hpl : (pathS ss 6).length ≤ 6 := by rw [pathS_len]; omega
  have hps := Lib.hid (pathS_size ss 6)
  have hbeg := Lib.hid (begin_any n0 A n c ss w h)
  have hcb := codeS_bd hn
  generalize pathS ss 6 = P at *
  generalize codeS n0 = C at *
  have hts := Lib.hid (textB_size hps.out (by omega) hcb.1 hcb.2)
  go_enter Tryd.func3, Tryd.ntmps3
  go_wp2_with fail
  refine hbeg.out.mono ?_
  rintro e w1 ⟨v, A1, n1, c1, rfl, hC1, hS1, hb1⟩
  have hn1 := hS1.len
  obtain ⟨tv, yv, rfl⟩ := hC1.iface
  go_wp2_with fail
  refine (text_any C _ P _ _ (hG.below hb1) hC1 (Nat.le_refl _) (by omega) hcb.1 hcb.2 (Nat.le_trans hts.out (by decide))).mono ?_
  rintro e w2 ⟨rfl, hb2⟩
  have hb12 := below_from hb1 hb2
  have hrt := Lib.hid (rtext_any A1 n1 c1 P C w2 (VL.below hS1 hb2) hps.out (by omega) hcb.1 hcb.2)
  generalize textB P C = tx at *
  have htt : (tx.toList == tx.toList) = true := beq_self_eq_true _
  go_wp2_with fail
  refine hrt.out.mono ?_
  rintro e w3 ⟨rfl, hb3⟩
  have hb13 := below_from hb12 hb3
  go_wp2_with fail
  refine (text_nil _).mono ?_
  rintro e w4 ⟨rfl, hb4⟩
  have hb14 := below_from hb13 hb4
  go_wp2_with fail
  refine (lives_any _ (hG.below hb14)).mono ?_
  rintro e w5 ⟨rfl, hb5⟩
  go_wp2_with fail
  go_ret
  exact ⟨rfl, below_from hb14 hb5⟩

end Go.Proofs.YtegmdjfohlomnaaDoor
