/- The walk of RoundNames. No condition. -/
import Derived.Test.YtnndiikogaoeiaaRo7
namespace Go.Proofs.Ytnndiikogaoeiaa
open Go.RowKit

set_option maxRecDepth 100000 in
set_option maxHeartbeats 4000000 in
theorem roundNames_walk (w : World) {a0 : Int} (w0 : -9223372036854775808 ≤ a0 ∧ a0 ≤ 9223372036854775807) {s1 : ByteArray} (w1 : s1.size ≤ 9223372036854775807) :
    Calls Try.prog 10 #[.int .i64 a0, .string s1] w fun e w' => e = .returned (.bool true) ∧ Below w.heap.size w w' := by
  obtain ⟨q, hq, hqa⟩ : ∃ k : Int, (0 ≤ k ∧ k < 7) ∧ Hid (∀ W, Calls Try.prog 20 #[.int .i64 a0, .int .i64 7] W fun e w' => e = .returned (.int .i64 k) ∧ W = w') :=
    ⟨_, around_bd a0 7 (by omega), fun W => around_any a0 7 W w0.1 w0.2 (by omega) (by omega)⟩
  obtain ⟨q, rfl⟩ : ∃ j : Nat, q = (j : Int) := ⟨q.toNat, by omega⟩
  have hq7 : q < 7 := by omega
  obtain ⟨s, hs⟩ : ∃ s, Hid (∀ W, Calls Try.prog 40 #[.string s1, .int .i64 12] W fun e w' => e = .returned (.string s) ∧ W = w') := ⟨few7 s1 12, fun W => few7_any s1 12 W w1 (by omega)⟩
  have hm1 := Lib.hid (fun W => show Calls Try.prog 41 #[.string (nameB (q : Int))] W fun e w' => e = .returned (.tuple #[.int .i64 (q : Int), .int .i64 0]) ∧ Below W.heap.size W w' by
    have := mode_any (nameB (q : Int)) W
    rw [modeS_name hq7, if_neg (by omega), if_neg (by omega)] at this
    exact this)
  have hm2 := Lib.hid (fun W => mode_any s W)
  have hMb := modeS_bd s
  have hMe : Hid (∀ i : Nat, i < 7 → (modeS s = i ↔ s = nameB i)) := fun i hi => ⟨modeS_inv hi, fun e => by rw [e]; exact modeS_name hi⟩
  generalize modeS s = M at *
  have hn1 := Lib.hid (fun W => name_any (q : Int) W)
  have hn2 := Lib.hid (fun W => name_any a0 W)
  go_enter Try.func10, Try.ntmps10
  go_upto_region 2 with fail
  generalize hgw : World.alloc w _ = wa
  have hN : NamesAt w.heap.size wa := by rw [← hgw]; exact names_at w _ rfl
  have hLa : Later w wa := by rw [← hgw]; exact (Later.refl w).alloc _
  clear hgw
  have hc := hN q hq7
  go_wp2_with fail
  refine (hqa.out _).mono ?_
  rintro e wx ⟨rfl, rfl⟩
  go_wp2_with fail
  refine (hs.out _).mono ?_
  rintro e wx ⟨rfl, rfl⟩
  go_wp2_with fail
  refine (hm1.out _).mono ?_
  rintro e w2 ⟨rfl, hB2⟩
  have hN2 := hN.later hB2
  have hL2 := below_from hLa hB2
  clear hN hc hLa hB2 hqa hs hm1
  go_wp2_with fail
  go_loopw [9, 10] (fun v i wr => ∃ (k : Nat) (V : Int), k ≤ 7 ∧ i = .int .i64 k ∧ v = .int .i64 V ∧ Hid (V = if M < k then M else -1) ∧ Later w2 wr) (fun _ i _ => 7 - (intOf i).toNat)
  case atStart => exact ⟨0, -1, by omega, rfl, rfl, by rw [Hid]; split <;> omega, Later.refl _⟩
  case round =>
    obtain ⟨k, V, hk, rfl, rfl, hv, hL⟩ := hrel
    by_cases hlt : k < 7
    · have hc := (hN2.later hL) k hlt
      have hi3 : (k : Int) < 7 := by omega
      have hi0 : (0 : Int) ≤ (k : Int) := by omega
      have hMk := (hMe.out k hlt)
      by_cases he : s = nameB k
      · have hMk2 := hMk.2 he
        have hnew : Hid ((k : Int) = if M < ((k + 1 : Nat) : Int) then M else -1) := by rw [Hid, if_pos (by omega)]; exact hMk2.symm
        clear hMk hMk2 hMe
        subst he
        go_wp2_with fail
        go_roundw
        case rel => first | exact ⟨k + 1, _, by omega, by go_num, rfl, hnew, hL⟩ | ((repeat apply Exists.intro); exact ⟨⟨k + 1, _, by omega, by go_num, rfl, hnew, hL⟩, rfl⟩)
        case measure => simp [intOf]; omega
      · have hMk2 : M ≠ k := fun h => he (hMk.1 h)
        have hnew : Hid (V = if M < ((k + 1 : Nat) : Int) then M else -1) := by
          rw [Hid, hv.out]
          by_cases h1 : M < (k : Int)
          · rw [if_pos h1, if_pos (by omega)]
          · rw [if_neg h1, if_neg (by omega)]
        have hb := str_ne (fun h => he h.symm : nameB k ≠ s)
        clear hMk hMk2 hMe hv
        go_wp2_with fail
        go_roundw
        case rel => first | exact ⟨k + 1, _, by omega, by go_num, rfl, hnew, hL⟩ | ((repeat apply Exists.intro); exact ⟨⟨k + 1, _, by omega, by go_num, rfl, hnew, hL⟩, rfl⟩)
        case measure => simp [intOf]; omega
    · have : k = 7 := by omega
      subst this
      have hv2 := hv.out
      rw [if_pos (by omega)] at hv2
      replace hv2 := hv2.symm
      subst hv2
      clear hMe
      go_wp2_with fail
      refine (hm2.out _).mono ?_
      rintro e w3 ⟨rfl, hB3⟩
      have hN3 := hN2.later (below_from hL hB3)
      have hL3 := below_from hL2 (below_from hL hB3)
      clear hm2 hB3 hL hN2 hL2
      have KN := fun s : Ext w3 => hN3.ext hq7 s
      have hi3 : (q : Int) < 7 := by omega
      have hi0 : (0 : Int) ≤ (q : Int) := by omega
      go_upto_region 12 with fail
      have hac : (0 ≤ a0 ∧ a0 < 7) ∨ a0 < 0 ∨ (0 ≤ a0 ∧ 7 ≤ a0) := by omega
      by_cases hM : M < 0
      · have hM1 : M = -1 := by omega
        subst hM1
        rcases hac with ⟨ha1, ha2⟩ | ha | ⟨ha0, ha⟩
        · have hx := nameB_some ⟨ha1, ha2⟩
          generalize nameB a0 = t at *
          generalize nameB (q : Int) = u at *
          refine wp_region_ext (by kernel_rfl) (by kernel_rfl) ?_
          repeat (go_big_quiet_step (first
            | (go_at_call 42; with_reducible exact quiet_ext _ (hn1.out _))
            | (go_at_call 42; exact quiet_ext _ (hn2.out _))
            | (go_at_call 26; exact quiet_ext _ (lives7_any _))))
          refine wpQuiet_nil ?_
          rintro _ ⟨s9, rfl⟩
          go_wp2_with fail
          go_ret
          exact ⟨rfl, below_from hL3 s9.h⟩
        · have hx : (nameB a0).toList.isEmpty = true := by rw [nameB_none (by omega)]; decide +kernel
          have hbb : decide (0 ≤ a0) = false := by simp; omega
          generalize nameB a0 = t at *
          generalize nameB (q : Int) = u at *
          refine wp_region_ext (by kernel_rfl) (by kernel_rfl) ?_
          repeat (go_big_quiet_step (first
            | (go_at_call 42; with_reducible exact quiet_ext _ (hn1.out _))
            | (go_at_call 42; exact quiet_ext _ (hn2.out _))
            | (go_at_call 26; exact quiet_ext _ (lives7_any _))))
          refine wpQuiet_nil ?_
          rintro _ ⟨s9, rfl⟩
          go_wp2_with fail
          go_ret
          exact ⟨rfl, below_from hL3 s9.h⟩
        · have hx : (nameB a0).toList.isEmpty = true := by rw [nameB_none (by omega)]; decide +kernel
          have hbb : decide (a0 < 7) = false := by simp; omega
          generalize nameB a0 = t at *
          generalize nameB (q : Int) = u at *
          refine wp_region_ext (by kernel_rfl) (by kernel_rfl) ?_
          repeat (go_big_quiet_step (first
            | (go_at_call 42; with_reducible exact quiet_ext _ (hn1.out _))
            | (go_at_call 42; exact quiet_ext _ (hn2.out _))
            | (go_at_call 26; exact quiet_ext _ (lives7_any _))))
          refine wpQuiet_nil ?_
          rintro _ ⟨s9, rfl⟩
          go_wp2_with fail
          go_ret
          exact ⟨rfl, below_from hL3 s9.h⟩
      · rw [if_neg hM, if_neg hM]
        have hM0 : 0 ≤ M := by omega
        have hmx : max M 0 = M := by omega
        rcases hac with ⟨ha1, ha2⟩ | ha | ⟨ha0, ha⟩
        · have hx := nameB_some ⟨ha1, ha2⟩
          generalize nameB a0 = t at *
          generalize nameB (q : Int) = u at *
          refine wp_region_ext (by kernel_rfl) (by kernel_rfl) ?_
          repeat (go_big_quiet_step (first
            | (go_at_call 42; with_reducible exact quiet_ext _ (hn1.out _))
            | (go_at_call 42; exact quiet_ext _ (hn2.out _))
            | (go_at_call 26; exact quiet_ext _ (lives7_any _))))
          refine wpQuiet_nil ?_
          rintro _ ⟨s9, rfl⟩
          go_wp2_with fail
          go_ret
          exact ⟨rfl, below_from hL3 s9.h⟩
        · have hx : (nameB a0).toList.isEmpty = true := by rw [nameB_none (by omega)]; decide +kernel
          have hbb : decide (0 ≤ a0) = false := by simp; omega
          generalize nameB a0 = t at *
          generalize nameB (q : Int) = u at *
          refine wp_region_ext (by kernel_rfl) (by kernel_rfl) ?_
          repeat (go_big_quiet_step (first
            | (go_at_call 42; with_reducible exact quiet_ext _ (hn1.out _))
            | (go_at_call 42; exact quiet_ext _ (hn2.out _))
            | (go_at_call 26; exact quiet_ext _ (lives7_any _))))
          refine wpQuiet_nil ?_
          rintro _ ⟨s9, rfl⟩
          go_wp2_with fail
          go_ret
          exact ⟨rfl, below_from hL3 s9.h⟩
        · have hx : (nameB a0).toList.isEmpty = true := by rw [nameB_none (by omega)]; decide +kernel
          have hbb : decide (a0 < 7) = false := by simp; omega
          generalize nameB a0 = t at *
          generalize nameB (q : Int) = u at *
          refine wp_region_ext (by kernel_rfl) (by kernel_rfl) ?_
          repeat (go_big_quiet_step (first
            | (go_at_call 42; with_reducible exact quiet_ext _ (hn1.out _))
            | (go_at_call 42; exact quiet_ext _ (hn2.out _))
            | (go_at_call 26; exact quiet_ext _ (lives7_any _))))
          refine wpQuiet_nil ?_
          rintro _ ⟨s9, rfl⟩
          go_wp2_with fail
          go_ret
          exact ⟨rfl, below_from hL3 s9.h⟩

end Go.Proofs.Ytnndiikogaoeiaa
