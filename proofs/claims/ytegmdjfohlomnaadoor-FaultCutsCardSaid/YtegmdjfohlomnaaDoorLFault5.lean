/- The walk of the law FaultCuts. No condition. -/
import Derived.Test.YtegmdjfohlomnaaDoorFl7
import Derived.Deep.DeepCutAuto
import Derived.Deep.RegionWith
namespace Go.Proofs.YtegmdjfohlomnaaDoor
open Go.RowKit
set_option linter.unusedVariables false

set_option maxHeartbeats 2000000 in
theorem faultCuts_walk (w : World) (hG : Gl w) {n0 : Int} (hn : -9223372036854775808 ≤ n0 ∧ n0 ≤ 9223372036854775807) {A : Option Addr} {n c : Nat} {ss : List ByteArray} (h : SL w A n c ss) {m : Int} (hm : -9223372036854775808 ≤ m ∧ m ≤ 9223372036854775807) :
    Calls Tryd.prog 7 #[.int .i64 n0, .slice A n c, .int .i64 m] w fun e w' => e = .returned (.bool true) ∧ Below w.heap.size w w' := by
  have hpl : (pathS ss 6).length ≤ 6 := by rw [pathS_len]; omega
  have hbeg := Lib.hid (begin_any n0 A n c ss w h)
  have har := Lib.hid (fun W => around_any m 8 W hm.1 hm.2 (by omega) (by omega))
  have hab := around_bd m 8 (by omega)
  generalize pathS ss 6 = P at *
  generalize codeS n0 = C at *
  generalize around m 8 = a8 at *
  go_enter Tryd.func7, Tryd.ntmps7
  go_wp2_with fail
  refine hbeg.out.mono ?_
  rintro e w1 ⟨v, A1, n1, c1, rfl, hC1, hS1, hb1⟩
  have hn1 := Lib.hid hS1.len
  obtain ⟨tv, yv, rfl⟩ := hC1.iface
  have hle1 := VL.le hS1
  have hcap1 := VL.cap hS1
  go_wp2_with fail
  refine (har.out _).mono ?_
  rintro e w2 ⟨rfl, rfl⟩
  go_wp2_with fail
  have hbA : Below w1.heap.size w1 (w1.alloc (.cells #[.int .i64 m, .int .i64 a8] 3)) := (Below.refl _ _).alloc (Nat.le_refl _) _
  have hK : ∀ k : Nat, k < 2 → ∃ x, (w1.alloc (.cells #[.int .i64 m, .int .i64 a8] 3)).cell? ⟨w1.heap.size, k, none⟩ = some (.int .i64 x) ∧ -9223372036854775808 ≤ x ∧ x ≤ 9223372036854775807 := by
    intro k hk
    rcases (show k = 0 ∨ k = 1 by omega) with rfl | rfl
    · exact ⟨m, by simp, hm⟩
    · exact ⟨a8, by simp, by omega, by omega⟩
  have hKH := Lib.hid hK
  clear hK
  have hsA : w1.heap.size < (w1.alloc (.cells #[.int .i64 m, .int .i64 a8] 3)).heap.size := by simp
  generalize w1.alloc (.cells #[.int .i64 m, .int .i64 a8] 3) = wl at *
  go_loopw [11] (fun i wr => ∃ k : Nat, k ≤ 2 ∧ i = .int .i64 k ∧ Below wl.heap.size wl wr) (fun i _ => 2 - (intOf i).toNat)
  case atStart => exact ⟨0, by omega, rfl, Below.refl _ _⟩
  case round =>
    obtain ⟨k, hk, rfl, hbr⟩ := hrel
    have hsr := Below.size hbr
    have hb1r : Below w1.heap.size w1 wr := below_from hbA hbr
    have hbwr : Below w.heap.size w wr := below_from hb1 hb1r
    by_cases hlt : k < 2
    · obtain ⟨x, hx, hx0, hx1⟩ := hKH.out k hlt
      have hxr : wr.cell? ⟨w1.heap.size, k, none⟩ = some (.int .i64 x) := (hbr.cell hsA).trans hx
      have hk0 : (0 : Int) ≤ (k : Int) := by omega
      have hkc : (k : Int) < 2 := by omega
      obtain ⟨kk, hkk, hmx, hdk⟩ : ∃ (kk : Nat), kk ≤ n1 ∧ max (min x (n1 : Int)) 0 = (kk : Int) ∧ P.drop (Int.toNat x) = P.drop kk := by
        have hPl : P.length = n1 := hn1.out
        by_cases h1 : (n1 : Int) < x
        · exact ⟨n1, Nat.le_refl _, by omega, by rw [List.drop_of_length_le (by omega), List.drop_of_length_le (by omega)]⟩
        · exact ⟨x.toNat, by omega, by omega, rfl⟩
      have hkk1 : (kk : Int) ≤ n1 := by omega
      have hcut := Lib.hid (cut_any C _ P _ x wr (hG.below hbwr) (hC1.below hb1r (Nat.le_refl _)) (by have := Below.size hb1r; omega) hx0 hx1)
      go_wp2_with fail
      refine hcut.out.mono ?_
      rintro e w3 ⟨v3, rfl, hC3, hb3⟩
      have hsw := Below.size hb1r
      have hs3 := Below.size hb3
      obtain ⟨t3, y3, rfl⟩ := hC3.iface
      have hbw3 : Below w.heap.size w w3 := below_from hbwr hb3
      have hdl : (P.drop (Int.toNat x)).length ≤ 1000 := by rw [List.length_drop]; omega
      have hcode := Lib.hid (fun W (hb : Below w3.heap.size w3 W) => code_any C _ _ _ W (hG.below (below_from hbw3 hb)) (hC3.below hb hs3) (Nat.le_trans hs3 (Below.size hb)))
      have hpath := Lib.hid (fun W (hb : Below w3.heap.size w3 W) => path_any C _ _ _ W (hG.below (below_from hbw3 hb)) (hC3.below hb hs3) (Nat.le_trans hs3 (Below.size hb)) hdl)
      have hS3 : SL w3 A1 n1 c1 P := VL.below (VL.below hS1 hb1r) hb3
      have hSd : SL w3 (if c1 = kk then A1 else A1.map (·.add kk)) (n1 - kk) (c1 - kk) (P.drop kk) := by have := VL.drop_if hS3 (k := kk) hkk; rwa [← List.map_drop] at this
      rw [hdk] at hpath
      have hpp := decide_eq_true (rfl : P.drop kk = P.drop kk)
      clear hdk hdl hC3 hmx hcut hxr hx0 hx1 hx hb1r
      generalize P.drop kk = PK at *
      go_wp2_with fail
      obtain ⟨AA, hAA⟩ : ∃ AA, (if c1 = kk then A1 else Option.map (fun x => x.add kk) A1) = AA := ⟨_, rfl⟩
      rw [show (A1.map (·.add kk)) = Option.map (fun x => x.add kk) A1 from rfl, hAA] at hSd
      have hsame := Lib.hid (fun A5 n5 c5 W (hW : Below w3.heap.size w3 W) (hO : SL W A5 n5 c5 PK) => texts_any A5 n5 c5 PK _ _ _ PK W hO (VL.below hSd hW))
      simp only [eq_self, decide_true] at hsame
      clear hSd hS3 hS1 hpl
      go_cut [59] (fun v W => v = .bool false ∧ Below w3.heap.size w3 W)
      case first =>
        go_region_with (first
          | (go_at_call 14; refine (hcode.out _ ((Below.refl _ _).drew)).mono ?_; rintro e w4 ⟨rfl, hb4⟩
             have hb34 : Below w3.heap.size w3 w4 := ((Below.refl _ _).drew).trans hb4)
          | (go_at_call 16; refine (hpath.out _ hb34).mono ?_; rintro e w5 ⟨A5, n5, c5, rfl, hO5, hb5⟩
             have hb35 : Below w3.heap.size w3 w5 := below_from hb34 hb5)
          | (go_at_call 15; refine (hsame.out _ _ _ _ hb35 hO5.sl).mono ?_; rintro e w6 ⟨rfl, k6, rfl⟩))
        all_goals
          go_wp2_with fail
          go_meet
          have hb36 : Below w3.heap.size w3 (w5.drewN k6) := hb35.trans ⟨rfl, rfl, rfl, Nat.le_refl _, fun _ _ => rfl⟩
          first | exact ⟨rfl, hb36⟩ | (refine ⟨?_, hb36⟩; rfl) | (refine ⟨?_, hb36⟩; simp)
      case rest =>
        obtain ⟨rfl, hK⟩ := hcut
        obtain ⟨w9, hw9⟩ : ∃ wm, wm = wc := ⟨_, rfl⟩
        rw [← hw9] at hK
        rw [← hw9]
        clear hw9
        go_wp2_with fail
        go_roundw
        case rel => exact ⟨k + 1, by omega, by go_num, below_from hbr (below_from hb3 hK)⟩
        case measure => simp [intOf]; omega
    · have hk2 : k = 2 := by omega
      subst hk2
      go_wp2_with fail
      refine (cut_nil m _ hm.1 hm.2).mono ?_
      rintro e w3 ⟨rfl, hb3⟩
      have hb13 := below_from hbwr hb3
      go_wp2_with fail
      refine (lives_any _ (hG.below hb13)).mono ?_
      rintro e w4 ⟨rfl, hb4⟩
      go_wp2_with fail
      go_ret
      exact ⟨rfl, below_from hb13 hb4⟩

end Go.Proofs.YtegmdjfohlomnaaDoor
