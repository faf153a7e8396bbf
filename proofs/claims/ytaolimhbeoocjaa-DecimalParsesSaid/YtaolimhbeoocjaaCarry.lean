/- The walk of the carry, for each closure that it is called with. No condition. -/
import Derived.Test.YtaolimhbeoocjaaRev
namespace Go.Proofs.Ytaolimhbeoocjaa
open Go.RowKit

theorem tmod_ten (z : Int) : -9 ≤ z.tmod 10 ∧ z.tmod 10 ≤ 9 ∧ (z.tmod 10 + 10) % 10 = z % 10 := by
  rcases Int.lt_or_le z 0 with h | h
  · obtain ⟨m, rfl⟩ : ∃ m : Int, z = -m := ⟨-z, by omega⟩
    rw [Int.neg_tmod, Int.tmod_eq_emod_of_nonneg (show (0 : Int) ≤ m by omega)]
    omega
  · rw [Int.tmod_eq_emod_of_nonneg h]
    omega
theorem carry_d {z : Int} : (wrap64 (z.tmod 10 + 10)).tmod 10 = z % 10 := by
  obtain ⟨h1, h2, h3⟩ := tmod_ten z
  rw [IntWalk.wrap64_in _ ⟨by omega, by omega⟩, Int.tmod_eq_emod_of_nonneg (show (0 : Int) ≤ z.tmod 10 + 10 by omega), h3]
theorem carry_r {z : Int} (h1 : -2000000 ≤ z) (h2 : z ≤ 2000000) : wrap64 ((wrap64 (z - z % 10)).tdiv 10) = z / 10 := by
  rw [IntWalk.wrap64_in (z - z % 10) ⟨by omega, by omega⟩]
  have e : z - z % 10 = 10 * (z / 10) := by omega
  rw [e, Int.mul_tdiv_cancel_left _ (by omega), IntWalk.wrap64_in (z / 10) ⟨by omega, by omega⟩]

set_option maxHeartbeats 1000000 in
theorem carry_sum (n : Nat) (p1 p2 : Addr) (f : Nat → Int) (w : World) (hn : n ≤ 100000) (hf : ∀ i, i < n → -100000 ≤ f i ∧ f i ≤ 100000) (hs : 0 ≤ sumTo f n)
    (hat : ∀ (i : Nat) (W : World), i < n → Below w.heap.size w W → Calls Try.prog 47 #[.int .i64 (i : Int), .pointer (some p1), .pointer (some p2)] W (RQ W (.int .i64 (f i)))) :
    Calls Try.prog 46 #[.int .i64 (n : Int), .func (.func 47) #[] #[.pointer (some p1), .pointer (some p2)]] w (RO w (ofN (sumTo f n).toNat)) := by
  have HAT := Lib.hid hat
  have HS := Lib.hid hs
  have HF := Lib.hid hf
  clear hat hs hf
  go_enter Try.func46, Try.ntmps46
  go_wp2_with fail
  go_loopw [5, 6, 10] (fun v r i wr => ∃ (k : Nat) (A' : Option Addr) (c' : Nat) (o : List Int) (rest : Int), k ≤ n ∧ i = .int .i64 k ∧ v = .slice A' k c' ∧ r = .int .i64 rest ∧
      wr.ownsRow w.heap.size 3 1 (.slice A' k c') k (o.map (Value.int .i64)) ∧ Carried f k o rest ∧ Below w.heap.size w wr)
    (fun _ _ i _ => n - (intOf i).toNat)
  case atStart => exact ⟨0, none, 0, [], 0, Nat.zero_le _, rfl, rfl, rfl, World.ownsRow_nil _ _ _ _, Carried.zero f, Below.refl _ _⟩
  case round =>
    obtain ⟨k, A', c', o, rest, hk, rfl, rfl, rfl, hO, hC, hB⟩ := hrel
    have hr1 := hC.2.2.2.1
    have hr2 := hC.2.2.2.2
    have hsz := hB.size
    by_cases hlt : k < n
    · have hfk := HF.out k hlt
      have hst := Lib.hid (fun d r hd hr => hC.step (d := d) (r := r) hfk.1 hfk.2 hd hr)
      have hcall := Lib.hid (HAT.out k wr hlt hB)
      generalize hfe : f k = y at *
      clear hfe
      go_wp2_with (first
        | (go_at_call 47; refine (hcall.out).mono ?_; rintro e w' ⟨rfl, j, rfl⟩)
        | (at_builtin; refine wpList_append_OL w.heap.size rfl _ _ rfl rfl rfl (OL.alloc (OL.drewN (show OL _ _ _ _ _ o from ⟨VL.of_own hO, .inr hO⟩) _) _) (IL.one _ _ _) (by simp; omega) (by omega) ?_; intro A2 c2 w2 _ hB2 hX2; have hO2 := Lib.hid (hX2.2.1 (by omega)); clear hX2))
      go_roundw
      case rel => exact ⟨k + 1, A2, c2, _, _, by omega, by go_num, rfl, rfl, hO2.out, hst.out _ _ carry_d (by rw [carry_d]; exact carry_r (by omega) (by omega)), ((hB.trans (below_drewN _ _ _)).alloc hsz _).trans hB2⟩
      case measure => simp [intOf]; omega
    · have hkn : k = n := by omega
      subst hkn
      have hSp := Lib.hid (hC.spilt HS.out)
      have hr0 : 0 ≤ rest := hSp.out.2.2.1
      clear hC
      generalize hS : sumTo f k = S at *
      have HSS := Lib.hid hS
      clear hS
      go_wp2_with fail
      go_loopw [5, 6] (fun v r wr => ∃ (m : Nat) (A' : Option Addr) (c' : Nat) (o : List Int) (rest : Int), (m : Int) + rest ≤ k + 1000000 ∧ 0 ≤ rest ∧ v = .slice A' m c' ∧ r = .int .i64 rest ∧
          wr.ownsRow w.heap.size 3 1 (.slice A' m c') m (o.map (Value.int .i64)) ∧ Spilt S o rest ∧ Below w.heap.size w wr)
        (fun _ r _ => (intOf r).toNat)
      case atStart => exact ⟨k, A', c', o, rest, by omega, hr0, rfl, rfl, hO, hSp.out, hB⟩
      case round =>
        obtain ⟨m, A', c', o, rest, hm, hr0, rfl, rfl, hO, hSp, hB⟩ := hrel
        have hr2 := hSp.2.2.2
        have hsz := hB.size
        by_cases hp : 0 < rest
        · go_wp2_with (first
            | (at_builtin; refine wpList_append_OL w.heap.size rfl _ _ rfl rfl rfl (OL.alloc (show OL _ _ _ _ _ o from ⟨VL.of_own hO, .inr hO⟩) _) (IL.one _ _ _) (by simp; omega) (by omega) ?_; intro A2 c2 w2 _ hB2 hX2; have hO2 := Lib.hid (hX2.2.1 (by omega)); clear hX2))
          go_roundw
          case rel => exact ⟨m + 1, A2, c2, _, _, by omega, by omega, rfl, rfl, hO2.out, hSp.step rfl rfl, (hB.alloc hsz _).trans hB2⟩
          case measure => simp [intOf]; omega
        · obtain rfl : rest = 0 := by omega
          have hI : I64 o.reverse := I64_of_may (mayL_reverse hSp.1)
          go_wp2_with (first
            | (go_at_call 58; refine (reverse_any w.heap.size _ _ _ o _ hO (by omega)).mono ?_; rintro e w3 ⟨rfl, hO3, hB3⟩)
            | (go_at_call 49; refine (trim_any _ _ _ o.reverse _ (VL.of_own hO3) hI (by omega)).mono ?_; rintro e w4 ⟨A4, n4, c4, rfl, hO4, hB4⟩))
          go_ret
          exact ⟨_, _, _, rfl, by rw [← hSp.done]; exact hO4.mono (Nat.le_trans hsz hB3.size), (hB.trans hB3).trans (hB4.mono (Nat.le_trans hsz hB3.size))⟩

set_option maxHeartbeats 1000000 in
theorem carry_sub (n : Nat) (p1 p2 : Addr) (f : Nat → Int) (w : World) (hn : n ≤ 100000) (hf : ∀ i, i < n → -100000 ≤ f i ∧ f i ≤ 100000) (hs : 0 ≤ sumTo f n)
    (hat : ∀ (i : Nat) (W : World), i < n → Below w.heap.size w W → Calls Try.prog 53 #[.int .i64 (i : Int), .pointer (some p1), .pointer (some p2)] W (RQ W (.int .i64 (f i)))) :
    Calls Try.prog 46 #[.int .i64 (n : Int), .func (.func 53) #[] #[.pointer (some p1), .pointer (some p2)]] w (RO w (ofN (sumTo f n).toNat)) := by
  have HAT := Lib.hid hat
  have HS := Lib.hid hs
  have HF := Lib.hid hf
  clear hat hs hf
  go_enter Try.func46, Try.ntmps46
  go_wp2_with fail
  go_loopw [5, 6, 10] (fun v r i wr => ∃ (k : Nat) (A' : Option Addr) (c' : Nat) (o : List Int) (rest : Int), k ≤ n ∧ i = .int .i64 k ∧ v = .slice A' k c' ∧ r = .int .i64 rest ∧
      wr.ownsRow w.heap.size 3 1 (.slice A' k c') k (o.map (Value.int .i64)) ∧ Carried f k o rest ∧ Below w.heap.size w wr)
    (fun _ _ i _ => n - (intOf i).toNat)
  case atStart => exact ⟨0, none, 0, [], 0, Nat.zero_le _, rfl, rfl, rfl, World.ownsRow_nil _ _ _ _, Carried.zero f, Below.refl _ _⟩
  case round =>
    obtain ⟨k, A', c', o, rest, hk, rfl, rfl, rfl, hO, hC, hB⟩ := hrel
    have hr1 := hC.2.2.2.1
    have hr2 := hC.2.2.2.2
    have hsz := hB.size
    by_cases hlt : k < n
    · have hfk := HF.out k hlt
      have hst := Lib.hid (fun d r hd hr => hC.step (d := d) (r := r) hfk.1 hfk.2 hd hr)
      have hcall := Lib.hid (HAT.out k wr hlt hB)
      generalize hfe : f k = y at *
      clear hfe
      go_wp2_with (first
        | (go_at_call 53; refine (hcall.out).mono ?_; rintro e w' ⟨rfl, j, rfl⟩)
        | (at_builtin; refine wpList_append_OL w.heap.size rfl _ _ rfl rfl rfl (OL.alloc (OL.drewN (show OL _ _ _ _ _ o from ⟨VL.of_own hO, .inr hO⟩) _) _) (IL.one _ _ _) (by simp; omega) (by omega) ?_; intro A2 c2 w2 _ hB2 hX2; have hO2 := Lib.hid (hX2.2.1 (by omega)); clear hX2))
      go_roundw
      case rel => exact ⟨k + 1, A2, c2, _, _, by omega, by go_num, rfl, rfl, hO2.out, hst.out _ _ carry_d (by rw [carry_d]; exact carry_r (by omega) (by omega)), ((hB.trans (below_drewN _ _ _)).alloc hsz _).trans hB2⟩
      case measure => simp [intOf]; omega
    · have hkn : k = n := by omega
      subst hkn
      have hSp := Lib.hid (hC.spilt HS.out)
      have hr0 : 0 ≤ rest := hSp.out.2.2.1
      clear hC
      generalize hS : sumTo f k = S at *
      have HSS := Lib.hid hS
      clear hS
      go_wp2_with fail
      go_loopw [5, 6] (fun v r wr => ∃ (m : Nat) (A' : Option Addr) (c' : Nat) (o : List Int) (rest : Int), (m : Int) + rest ≤ k + 1000000 ∧ 0 ≤ rest ∧ v = .slice A' m c' ∧ r = .int .i64 rest ∧
          wr.ownsRow w.heap.size 3 1 (.slice A' m c') m (o.map (Value.int .i64)) ∧ Spilt S o rest ∧ Below w.heap.size w wr)
        (fun _ r _ => (intOf r).toNat)
      case atStart => exact ⟨k, A', c', o, rest, by omega, hr0, rfl, rfl, hO, hSp.out, hB⟩
      case round =>
        obtain ⟨m, A', c', o, rest, hm, hr0, rfl, rfl, hO, hSp, hB⟩ := hrel
        have hr2 := hSp.2.2.2
        have hsz := hB.size
        by_cases hp : 0 < rest
        · go_wp2_with (first
            | (at_builtin; refine wpList_append_OL w.heap.size rfl _ _ rfl rfl rfl (OL.alloc (show OL _ _ _ _ _ o from ⟨VL.of_own hO, .inr hO⟩) _) (IL.one _ _ _) (by simp; omega) (by omega) ?_; intro A2 c2 w2 _ hB2 hX2; have hO2 := Lib.hid (hX2.2.1 (by omega)); clear hX2))
          go_roundw
          case rel => exact ⟨m + 1, A2, c2, _, _, by omega, by omega, rfl, rfl, hO2.out, hSp.step rfl rfl, (hB.alloc hsz _).trans hB2⟩
          case measure => simp [intOf]; omega
        · obtain rfl : rest = 0 := by omega
          have hI : I64 o.reverse := I64_of_may (mayL_reverse hSp.1)
          go_wp2_with (first
            | (go_at_call 58; refine (reverse_any w.heap.size _ _ _ o _ hO (by omega)).mono ?_; rintro e w3 ⟨rfl, hO3, hB3⟩)
            | (go_at_call 49; refine (trim_any _ _ _ o.reverse _ (VL.of_own hO3) hI (by omega)).mono ?_; rintro e w4 ⟨A4, n4, c4, rfl, hO4, hB4⟩))
          go_ret
          exact ⟨_, _, _, rfl, by rw [← hSp.done]; exact hO4.mono (Nat.le_trans hsz hB3.size), (hB.trans hB3).trans (hB4.mono (Nat.le_trans hsz hB3.size))⟩

end Go.Proofs.Ytaolimhbeoocjaa
