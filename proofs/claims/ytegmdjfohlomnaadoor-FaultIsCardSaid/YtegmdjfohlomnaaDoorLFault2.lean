/- The walks of the laws FaultHas and FaultIs. No condition. -/
import Derived.Test.YtegmdjfohlomnaaDoorFl6
namespace Go.Proofs.YtegmdjfohlomnaaDoor
open Go.RowKit

set_option maxHeartbeats 1000000 in
theorem faultIs_walk (w : World) (hG : Gl w) {n0 : Int} (_hn : -9223372036854775808 ≤ n0 ∧ n0 ≤ 9223372036854775807) {o : Int} (_ho : -9223372036854775808 ≤ o ∧ o ≤ 9223372036854775807) {A : Option Addr} {n c : Nat} {ss : List ByteArray} (h : SL w A n c ss) :
    Calls Tryd.prog 8 #[.int .i64 n0, .int .i64 o, .slice A n c] w fun e w' => e = .returned (.bool true) ∧ Below w.heap.size w w' := by
  have hbeg := Lib.hid (begin_any n0 A n c ss w h)
  have hcn := codeS_ne n0
  generalize pathS ss 6 = P at *
  generalize codeS n0 = C at *
  have h0 : (C == 0) = false := by simpa using hcn
  have hs : (C == C) = true := beq_self_eq_true _
  by_cases ho : o = C
  · subst ho
    go_enter Tryd.func8, Tryd.ntmps8
    go_wp2_with fail
    refine hbeg.out.mono ?_
    rintro e w1 ⟨v, A1, n1, c1, rfl, hC1, hS1, hb1⟩
    obtain ⟨tv, yv, rfl⟩ := hC1.iface
    go_wp2_with fail
    refine (is_code o o _ P _ _ hC1).mono ?_
    rintro e w2 ⟨rfl, rfl⟩
    go_wp2_with fail
    refine (lives_any _ (hG.below hb1)).mono ?_
    rintro e w3 ⟨rfl, hb3⟩
    go_wp2_with fail
    go_ret
    exact ⟨rfl, below_from hb1 hb3⟩
  · have h1 : (o == C) = false := by simpa using ho
    have h2 : (C == o) = false := by simpa using fun e => ho e.symm
    go_enter Tryd.func8, Tryd.ntmps8
    go_wp2_with fail
    refine hbeg.out.mono ?_
    rintro e w1 ⟨v, A1, n1, c1, rfl, hC1, hS1, hb1⟩
    obtain ⟨tv, yv, rfl⟩ := hC1.iface
    go_wp2_with fail
    refine (is_code C C _ P _ _ hC1).mono ?_
    rintro e w2 ⟨rfl, rfl⟩
    go_wp2_with fail
    refine (is_code C o _ P _ _ hC1).mono ?_
    rintro e w2 ⟨rfl, rfl⟩
    go_wp2_with fail
    refine (lives_any _ (hG.below hb1)).mono ?_
    rintro e w3 ⟨rfl, hb3⟩
    go_wp2_with fail
    go_ret
    exact ⟨rfl, below_from hb1 hb3⟩

set_option maxHeartbeats 1000000 in
theorem faultHas_walk (w : World) (hG : Gl w) {n0 : Int} (_hn : -9223372036854775808 ≤ n0 ∧ n0 ≤ 9223372036854775807) {o : Int} (_ho : -9223372036854775808 ≤ o ∧ o ≤ 9223372036854775807) {A : Option Addr} {n c : Nat} {ss : List ByteArray} (h : SL w A n c ss) :
    Calls Tryd.prog 9 #[.int .i64 n0, .int .i64 o, .slice A n c] w fun e w' => e = .returned (.bool true) ∧ Below w.heap.size w w' := by
  have hbeg := Lib.hid (begin_any n0 A n c ss w h)
  have hcn := codeS_ne n0
  generalize pathS ss 6 = P at *
  generalize codeS n0 = C at *
  have h0 : (C == 0) = false := by simpa using hcn
  have hs : (C == C) = true := beq_self_eq_true _
  by_cases ho : o = C
  · subst ho
    go_enter Tryd.func9, Tryd.ntmps9
    go_wp2_with fail
    refine hbeg.out.mono ?_
    rintro e w1 ⟨v, A1, n1, c1, rfl, hC1, hS1, hb1⟩
    obtain ⟨tv, yv, rfl⟩ := hC1.iface
    go_wp2_with fail
    refine (has_any o o _ P _ _ hC1).mono ?_
    rintro e w2 ⟨rfl, hb2⟩
    have hC2 := hC1.below hb2 (Nat.le_refl _)
    have hb12 := below_from hb1 hb2
    go_wp2_with fail
    refine (has_any o o _ P _ _ hC2).mono ?_
    rintro e w3 ⟨rfl, hb3⟩
    have hb13 := below_from hb12 hb3
    go_wp2_with fail
    refine (has_nil 0 _).mono ?_
    rintro e w4 ⟨rfl, hb4⟩
    have hb14 := below_from hb13 hb4
    go_wp2_with fail
    refine (has_nil o _).mono ?_
    rintro e w5 ⟨rfl, hb5⟩
    have hb15 := below_from hb14 hb5
    go_wp2_with fail
    refine (lives_any _ (hG.below hb15)).mono ?_
    rintro e w6 ⟨rfl, hb6⟩
    go_wp2_with fail
    go_ret
    exact ⟨rfl, below_from hb15 hb6⟩
  · have h1 : (o == C) = false := by simpa using ho
    have h2 : (C == o) = false := by simpa using fun e => ho e.symm
    go_enter Tryd.func9, Tryd.ntmps9
    go_wp2_with fail
    refine hbeg.out.mono ?_
    rintro e w1 ⟨v, A1, n1, c1, rfl, hC1, hS1, hb1⟩
    obtain ⟨tv, yv, rfl⟩ := hC1.iface
    go_wp2_with fail
    refine (has_any C C _ P _ _ hC1).mono ?_
    rintro e w2 ⟨rfl, hb2⟩
    have hC2 := hC1.below hb2 (Nat.le_refl _)
    have hb12 := below_from hb1 hb2
    go_wp2_with fail
    refine (has_any C o _ P _ _ hC2).mono ?_
    rintro e w3 ⟨rfl, hb3⟩
    have hb13 := below_from hb12 hb3
    go_wp2_with fail
    refine (has_nil 0 _).mono ?_
    rintro e w4 ⟨rfl, hb4⟩
    have hb14 := below_from hb13 hb4
    go_wp2_with fail
    refine (has_nil C _).mono ?_
    rintro e w5 ⟨rfl, hb5⟩
    have hb15 := below_from hb14 hb5
    go_wp2_with fail
    refine (lives_any _ (hG.below hb15)).mono ?_
    rintro e w6 ⟨rfl, hb6⟩
    go_wp2_with fail
    go_ret
    exact ⟨rfl, below_from hb15 hb6⟩

end Go.Proofs.YtegmdjfohlomnaaDoor
