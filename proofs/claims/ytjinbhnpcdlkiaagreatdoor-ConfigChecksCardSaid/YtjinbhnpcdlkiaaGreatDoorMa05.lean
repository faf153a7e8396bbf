/- The walks of the comparisons. No condition. -/
import Derived.Test.YtjinbhnpcdlkiaaGreatDoorMa04
namespace Go.Proofs.YtjinbhnpcdlkiaaGreatDoor
open Go.RowKit

theorem tmod_ten (z : Int) : -9 ≤ z.tmod 10 ∧ z.tmod 10 ≤ 9 ∧ (z.tmod 10 + 10) % 10 = z % 10 := by
  rcases Int.lt_or_le z 0 with h | h
  · obtain ⟨m, rfl⟩ : ∃ m : Int, z = -m := ⟨-z, by omega⟩
    rw [Int.neg_tmod, Int.tmod_eq_emod_of_nonneg (show (0 : Int) ≤ m by omega)]
    omega
  · rw [Int.tmod_eq_emod_of_nonneg h]
    omega
theorem carry_d {z : Int} : (wrap64 (z.tmod 10 + 10)).tmod 10 = z % 10 := by
  obtain ⟨h1, h2, h3⟩ := tmod_ten z
  rw [IntWalk.wrap64_in _ ⟨by omega, by omega⟩, Int.tmod_eq_emod_of_nonneg (show (0 : Int) ≤ z.tmod 10 + 10 by omega), h3]
theorem carry_r {z : Int} (h1 : -2000000 ≤ z) (h2 : z ≤ 2000000) : wrap64 ((wrap64 (z - z % 10)).tdiv 10) = z / 10 := by
  rw [IntWalk.wrap64_in (z - z % 10) ⟨by omega, by omega⟩]
  have e : z - z % 10 = 10 * (z / 10) := by omega
  rw [e, Int.mul_tdiv_cancel_left _ (by omega), IntWalk.wrap64_in (z / 10) ⟨by omega, by omega⟩]

set_option maxHeartbeats 1000000 in
theorem carry_sum (n : Nat) (p1 p2 : Addr) (f : Nat → Int) (w : World) (hn : n ≤ 100000) (hf : ∀ i, i < n → -100000 ≤ f i ∧ f i ≤ 100000) (hs : 0 ≤ sumTo f n)
    (hat : ∀ (i : Nat) (W : World), i < n → Below w.heap.size w W → Calls Tryz.prog 88 #[.int .i64 (i : Int), .pointer (some p1), .pointer (some p2)] W (RQ W (.int .i64 (f i)))) :
    Calls Tryz.prog 87 #[.int .i64 (n : Int), .func (.func 88) #[] #[.pointer (some p1), .pointer (some p2)]] w (RO w (ofN (sumTo f n).toNat)) := by
  have HAT := Lib.hid hat
  have HS := Lib.hid hs
  have HF := Lib.hid hf
  clear hat hs hf
  go_enter Tryz.func87, Tryz.ntmps87
  go_wp2_with fail
  go_loopw [5, 6, 10] (fun v r i wr => ∃ (k : Nat) (A' : Option Addr) (c' : Nat) (o : List Int) (rest : Int), k ≤ n ∧ i = .int .i64 k ∧ v = .slice A' k c' ∧ r = .int .i64 rest ∧
      wr.ownsRow w.heap.size 3 1 (.slice A' k c') k (o.map (Value.int .i64)) ∧ Carried f k o rest ∧ Below w.heap.size w wr)
    (fun _ _ i _ => n - (intOf i).toNat)
  case atStart => exact ⟨0, none, 0, [], 0, Nat.zero_le _, rfl, rfl, rfl, World.ownsRow_nil _ _ _ _, Carried.zero f, Below.refl _ _⟩
  case round =>
    obtain ⟨k, A', c', o, rest, hk, rfl, rfl, rfl, hO, hC, hB⟩ := hrel
    have hr1 := hC.2.2.2.1
    have hr2 := hC.2.2.2.2
    have hsz := hB.size
    by_cases hlt : k < n
    · have hfk := HF.out k hlt
      have hst := Lib.hid (fun d r hd hr => hC.step (d := d) (r := r) hfk.1 hfk.2 hd hr)
      have hcall := Lib.hid (HAT.out k wr hlt hB)
      generalize hfe : f k = y at *
      clear hfe
      go_wp2_with (first
        | (go_at_call 88; refine (hcall.out).mono ?_; rintro e w' ⟨rfl, j, rfl⟩)
        | (at_builtin; refine wpList_append_OL w.heap.size rfl _ _ rfl rfl rfl (OL.alloc (OL.drewN (show OL _ _ _ _ _ o from ⟨VL.of_own hO, .inr hO⟩) _) _) (IL.one _ _ _) (by simp; omega) (by omega) ?_; intro A2 c2 w2 _ hB2 hX2; have hO2 := Lib.hid (hX2.2.1 (by omega)); clear hX2))
      go_roundw
      case rel => exact ⟨k + 1, A2, c2, _, _, by omega, by go_num, rfl, rfl, hO2.out, hst.out _ _ carry_d (by rw [carry_d]; exact carry_r (by omega) (by omega)), ((hB.trans (below_drewN _ _ _)).alloc hsz _).trans hB2⟩
      case measure => simp [intOf]; omega
    · have hkn : k = n := by omega
      subst hkn
      have hSp := Lib.hid (hC.spilt HS.out)
      have hr0 : 0 ≤ rest := hSp.out.2.2.1
      clear hC
      generalize hS : sumTo f k = S at *
      have HSS := Lib.hid hS
      clear hS
      go_wp2_with fail
      go_loopw [5, 6] (fun v r wr => ∃ (m : Nat) (A' : Option Addr) (c' : Nat) (o : List Int) (rest : Int), (m : Int) + rest ≤ k + 1000000 ∧ 0 ≤ rest ∧ v = .slice A' m c' ∧ r = .int .i64 rest ∧
          wr.ownsRow w.heap.size 3 1 (.slice A' m c') m (o.map (Value.int .i64)) ∧ Spilt S o rest ∧ Below w.heap.size w wr)
        (fun _ r _ => (intOf r).toNat)
      case atStart => exact ⟨k, A', c', o, rest, by omega, hr0, rfl, rfl, hO, hSp.out, hB⟩
      case round =>
        obtain ⟨m, A', c', o, rest, hm, hr0, rfl, rfl, hO, hSp, hB⟩ := hrel
        have hr2 := hSp.2.2.2
        have hsz := hB.size
        by_cases hp : 0 < rest
        · go_wp2_with (first
            | (at_builtin; refine wpList_append_OL w.heap.size rfl _ _ rfl rfl rfl (OL.alloc (show OL _ _ _ _ _ o from ⟨VL.of_own hO, .inr hO⟩) _) (IL.one _ _ _) (by simp; omega) (by omega) ?_; intro A2 c2 w2 _ hB2 hX2; have hO2 := Lib.hid (hX2.2.1 (by omega)); clear hX2))
          go_roundw
          case rel => exact ⟨m + 1, A2, c2, _, _, by omega, by omega, rfl, rfl, hO2.out, hSp.step rfl rfl, (hB.alloc hsz _).trans hB2⟩
          case measure => simp [intOf]; omega
        · obtain rfl : rest = 0 := by omega
          have hI : I64 o.reverse := I64_of_may (mayL_reverse hSp.1)
          go_wp2_with (first
            | (go_at_call 97; refine (reverse_any w.heap.size _ _ _ o _ hO (by omega)).mono ?_; rintro e w3 ⟨rfl, hO3, hB3⟩)
            | (go_at_call 66; refine (trim_any _ _ _ o.reverse _ (VL.of_own hO3) hI (by omega)).mono ?_; rintro e w4 ⟨A4, n4, c4, rfl, hO4, hB4⟩))
          go_ret
          exact ⟨_, _, _, rfl, by rw [← hSp.done]; exact hO4.mono (Nat.le_trans hsz hB3.size), (hB.trans hB3).trans (hB4.mono (Nat.le_trans hsz hB3.size))⟩

set_option maxHeartbeats 1000000 in
theorem carry_sub (n : Nat) (p1 p2 : Addr) (f : Nat → Int) (w : World) (hn : n ≤ 100000) (hf : ∀ i, i < n → -100000 ≤ f i ∧ f i ≤ 100000) (hs : 0 ≤ sumTo f n)
    (hat : ∀ (i : Nat) (W : World), i < n → Below w.heap.size w W → Calls Tryz.prog 92 #[.int .i64 (i : Int), .pointer (some p1), .pointer (some p2)] W (RQ W (.int .i64 (f i)))) :
    Calls Tryz.prog 87 #[.int .i64 (n : Int), .func (.func 92) #[] #[.pointer (some p1), .pointer (some p2)]] w (RO w (ofN (sumTo f n).toNat)) := by
  have HAT := Lib.hid hat
  have HS := Lib.hid hs
  have HF := Lib.hid hf
  clear hat hs hf
  go_enter Tryz.func87, Tryz.ntmps87
  go_wp2_with fail
  go_loopw [5, 6, 10] (fun v r i wr => ∃ (k : Nat) (A' : Option Addr) (c' : Nat) (o : List Int) (rest : Int), k ≤ n ∧ i = .int .i64 k ∧ v = .slice A' k c' ∧ r = .int .i64 rest ∧
      wr.ownsRow w.heap.size 3 1 (.slice A' k c') k (o.map (Value.int .i64)) ∧ Carried f k o rest ∧ Below w.heap.size w wr)
    (fun _ _ i _ => n - (intOf i).toNat)
  case atStart => exact ⟨0, none, 0, [], 0, Nat.zero_le _, rfl, rfl, rfl, World.ownsRow_nil _ _ _ _, Carried.zero f, Below.refl _ _⟩
  case round =>
    obtain ⟨k, A', c', o, rest, hk, rfl, rfl, rfl, hO, hC, hB⟩ := hrel
    have hr1 := hC.2.2.2.1
    have hr2 := hC.2.2.2.2
    have hsz := hB.size
    by_cases hlt : k < n
    · have hfk := HF.out k hlt
      have hst := Lib.hid (fun d r hd hr => hC.step (d := d) (r := r) hfk.1 hfk.2 hd hr)
      have hcall := Lib.hid (HAT.out k wr hlt hB)
      generalize hfe : f k = y at *
      clear hfe
      go_wp2_with (first
        | (go_at_call 92; refine (hcall.out).mono ?_; rintro e w' ⟨rfl, j, rfl⟩)
        | (at_builtin; refine wpList_append_OL w.heap.size rfl _ _ rfl rfl rfl (OL.alloc (OL.drewN (show OL _ _ _ _ _ o from ⟨VL.of_own hO, .inr hO⟩) _) _) (IL.one _ _ _) (by simp; omega) (by omega) ?_; intro A2 c2 w2 _ hB2 hX2; have hO2 := Lib.hid (hX2.2.1 (by omega)); clear hX2))
      go_roundw
      case rel => exact ⟨k + 1, A2, c2, _, _, by omega, by go_num, rfl, rfl, hO2.out, hst.out _ _ carry_d (by rw [carry_d]; exact carry_r (by omega) (by omega)), ((hB.trans (below_drewN _ _ _)).alloc hsz _).trans hB2⟩
      case measure => simp [intOf]; omega
    · have hkn : k = n := by omega
      subst hkn
      have hSp := Lib.hid (hC.spilt HS.out)
      have hr0 : 0 ≤ rest := hSp.out.2.2.1
      clear hC
      generalize hS : sumTo f k = S at *
      have HSS := Lib.hid hS
      clear hS
      go_wp2_with fail
      go_loopw [5, 6] (fun v r wr => ∃ (m : Nat) (A' : Option Addr) (c' : Nat) (o : List Int) (rest : Int), (m : Int) + rest ≤ k + 1000000 ∧ 0 ≤ rest ∧ v = .slice A' m c' ∧ r = .int .i64 rest ∧
          wr.ownsRow w.heap.size 3 1 (.slice A' m c') m (o.map (Value.int .i64)) ∧ Spilt S o rest ∧ Below w.heap.size w wr)
        (fun _ r _ => (intOf r).toNat)
      case atStart => exact ⟨k, A', c', o, rest, by omega, hr0, rfl, rfl, hO, hSp.out, hB⟩
      case round =>
        obtain ⟨m, A', c', o, rest, hm, hr0, rfl, rfl, hO, hSp, hB⟩ := hrel
        have hr2 := hSp.2.2.2
        have hsz := hB.size
        by_cases hp : 0 < rest
        · go_wp2_with (first
            | (at_builtin; refine wpList_append_OL w.heap.size rfl _ _ rfl rfl rfl (OL.alloc (show OL _ _ _ _ _ o from ⟨VL.of_own hO, .inr hO⟩) _) (IL.one _ _ _) (by simp; omega) (by omega) ?_; intro A2 c2 w2 _ hB2 hX2; have hO2 := Lib.hid (hX2.2.1 (by omega)); clear hX2))
          go_roundw
          case rel => exact ⟨m + 1, A2, c2, _, _, by omega, by omega, rfl, rfl, hO2.out, hSp.step rfl rfl, (hB.alloc hsz _).trans hB2⟩
          case measure => simp [intOf]; omega
        · obtain rfl : rest = 0 := by omega
          have hI : I64 o.reverse := I64_of_may (mayL_reverse hSp.1)
          go_wp2_with (first
            | (go_at_call 97; refine (reverse_any w.heap.size _ _ _ o _ hO (by omega)).mono ?_; rintro e w3 ⟨rfl, hO3, hB3⟩)
            | (go_at_call 66; refine (trim_any _ _ _ o.reverse _ (VL.of_own hO3) hI (by omega)).mono ?_; rintro e w4 ⟨A4, n4, c4, rfl, hO4, hB4⟩))
          go_ret
          exact ⟨_, _, _, rfl, by rw [← hSp.done]; exact hO4.mono (Nat.le_trans hsz hB3.size), (hB.trans hB3).trans (hB4.mono (Nat.le_trans hsz hB3.size))⟩

set_option maxHeartbeats 1000000 in
theorem carry_times (n : Nat) (p1 p2 : Addr) (f : Nat → Int) (w : World) (hn : n ≤ 100000) (hf : ∀ i, i < n → -100000 ≤ f i ∧ f i ≤ 100000) (hs : 0 ≤ sumTo f n)
    (hat : ∀ (i : Nat) (W : World), i < n → Below w.heap.size w W → Calls Tryz.prog 91 #[.int .i64 (i : Int), .pointer (some p1), .pointer (some p2)] W (RQ W (.int .i64 (f i)))) :
    Calls Tryz.prog 87 #[.int .i64 (n : Int), .func (.func 91) #[] #[.pointer (some p1), .pointer (some p2)]] w (RO w (ofN (sumTo f n).toNat)) := by
  have HAT := Lib.hid hat
  have HS := Lib.hid hs
  have HF := Lib.hid hf
  clear hat hs hf
  go_enter Tryz.func87, Tryz.ntmps87
  go_wp2_with fail
  go_loopw [5, 6, 10] (fun v r i wr => ∃ (k : Nat) (A' : Option Addr) (c' : Nat) (o : List Int) (rest : Int), k ≤ n ∧ i = .int .i64 k ∧ v = .slice A' k c' ∧ r = .int .i64 rest ∧
      wr.ownsRow w.heap.size 3 1 (.slice A' k c') k (o.map (Value.int .i64)) ∧ Carried f k o rest ∧ Below w.heap.size w wr)
    (fun _ _ i _ => n - (intOf i).toNat)
  case atStart => exact ⟨0, none, 0, [], 0, Nat.zero_le _, rfl, rfl, rfl, World.ownsRow_nil _ _ _ _, Carried.zero f, Below.refl _ _⟩
  case round =>
    obtain ⟨k, A', c', o, rest, hk, rfl, rfl, rfl, hO, hC, hB⟩ := hrel
    have hr1 := hC.2.2.2.1
    have hr2 := hC.2.2.2.2
    have hsz := hB.size
    by_cases hlt : k < n
    · have hfk := HF.out k hlt
      have hst := Lib.hid (fun d r hd hr => hC.step (d := d) (r := r) hfk.1 hfk.2 hd hr)
      have hcall := Lib.hid (HAT.out k wr hlt hB)
      generalize hfe : f k = y at *
      clear hfe
      go_wp2_with (first
        | (go_at_call 91; refine (hcall.out).mono ?_; rintro e w' ⟨rfl, j, rfl⟩)
        | (at_builtin; refine wpList_append_OL w.heap.size rfl _ _ rfl rfl rfl (OL.alloc (OL.drewN (show OL _ _ _ _ _ o from ⟨VL.of_own hO, .inr hO⟩) _) _) (IL.one _ _ _) (by simp; omega) (by omega) ?_; intro A2 c2 w2 _ hB2 hX2; have hO2 := Lib.hid (hX2.2.1 (by omega)); clear hX2))
      go_roundw
      case rel => exact ⟨k + 1, A2, c2, _, _, by omega, by go_num, rfl, rfl, hO2.out, hst.out _ _ carry_d (by rw [carry_d]; exact carry_r (by omega) (by omega)), ((hB.trans (below_drewN _ _ _)).alloc hsz _).trans hB2⟩
      case measure => simp [intOf]; omega
    · have hkn : k = n := by omega
      subst hkn
      have hSp := Lib.hid (hC.spilt HS.out)
      have hr0 : 0 ≤ rest := hSp.out.2.2.1
      clear hC
      generalize hS : sumTo f k = S at *
      have HSS := Lib.hid hS
      clear hS
      go_wp2_with fail
      go_loopw [5, 6] (fun v r wr => ∃ (m : Nat) (A' : Option Addr) (c' : Nat) (o : List Int) (rest : Int), (m : Int) + rest ≤ k + 1000000 ∧ 0 ≤ rest ∧ v = .slice A' m c' ∧ r = .int .i64 rest ∧
          wr.ownsRow w.heap.size 3 1 (.slice A' m c') m (o.map (Value.int .i64)) ∧ Spilt S o rest ∧ Below w.heap.size w wr)
        (fun _ r _ => (intOf r).toNat)
      case atStart => exact ⟨k, A', c', o, rest, by omega, hr0, rfl, rfl, hO, hSp.out, hB⟩
      case round =>
        obtain ⟨m, A', c', o, rest, hm, hr0, rfl, rfl, hO, hSp, hB⟩ := hrel
        have hr2 := hSp.2.2.2
        have hsz := hB.size
        by_cases hp : 0 < rest
        · go_wp2_with (first
            | (at_builtin; refine wpList_append_OL w.heap.size rfl _ _ rfl rfl rfl (OL.alloc (show OL _ _ _ _ _ o from ⟨VL.of_own hO, .inr hO⟩) _) (IL.one _ _ _) (by simp; omega) (by omega) ?_; intro A2 c2 w2 _ hB2 hX2; have hO2 := Lib.hid (hX2.2.1 (by omega)); clear hX2))
          go_roundw
          case rel => exact ⟨m + 1, A2, c2, _, _, by omega, by omega, rfl, rfl, hO2.out, hSp.step rfl rfl, (hB.alloc hsz _).trans hB2⟩
          case measure => simp [intOf]; omega
        · obtain rfl : rest = 0 := by omega
          have hI : I64 o.reverse := I64_of_may (mayL_reverse hSp.1)
          go_wp2_with (first
            | (go_at_call 97; refine (reverse_any w.heap.size _ _ _ o _ hO (by omega)).mono ?_; rintro e w3 ⟨rfl, hO3, hB3⟩)
            | (go_at_call 66; refine (trim_any _ _ _ o.reverse _ (VL.of_own hO3) hI (by omega)).mono ?_; rintro e w4 ⟨A4, n4, c4, rfl, hO4, hB4⟩))
          go_ret
          exact ⟨_, _, _, rfl, by rw [← hSp.done]; exact hO4.mono (Nat.le_trans hsz hB3.size), (hB.trans hB3).trans (hB4.mono (Nat.le_trans hsz hB3.size))⟩

end Go.Proofs.YtjinbhnpcdlkiaaGreatDoor


namespace Go.Proofs.YtjinbhnpcdlkiaaGreatDoor
open Go.RowKit

theorem quiet_left {P : Program} {f : FuncId} {args : Array Value} {w : World} {n : Nat} {v : Value}
    (h : Calls P f args (w.drewN n) fun e w' => e = .returned v ∧ w.drewN n = w') : Calls P f args (w.drewN n) fun e w'' => e = .returned v ∧ ∃ m, w'' = w.drewN m :=
  h.mono fun _ _ ⟨he, hm⟩ => ⟨he, n, hm.symm⟩

theorem sum1_any (i : Nat) (p1 p2 : Addr) (A : Option Addr) (n c : Nat) (l : List Int) (A2 : Option Addr) (n2 c2 : Nat) (l2 : List Int) (w : World)
    (hc1 : w.cell? p1 = some (.slice A n c)) (hc2 : w.cell? p2 = some (.slice A2 n2 c2)) (h : IL w A n c l) (h2 : IL w A2 n2 c2 l2) (hm : mayL l = true) (hm2 : mayL l2 = true) (hi : i ≤ 1000000) :
    Calls Tryz.prog 88 #[.int .i64 (i : Int), .pointer (some p1), .pointer (some p2)] w (RQ w (.int .i64 (digL l i + digL l2 i))) := by
  have f1 := from_any (l := l) (i := i) A n c
  have f2 := from_any (l := l2) (i := i) A2 n2 c2
  have b1 := digL_may hm i
  have b2 := digL_may hm2 i
  generalize digL l i = x at *
  generalize digL l2 i = y at *
  have F1 := Lib.hid f1
  have F2 := Lib.hid f2
  clear f1 f2
  go_enter Tryz.func88, Tryz.ntmps88
  go_wp2
  go_quiet (first
    | (go_at_call 86; with_reducible exact quiet_left (F1.out _ (h.drewN _) hi))
    | (go_at_call 86; with_reducible exact quiet_left (F2.out _ (h2.drewN _) hi)))
  go_wp2
  go_ret
  exact ⟨rfl, _, rfl⟩

theorem sub1_any (i : Nat) (p1 p2 : Addr) (A : Option Addr) (n c : Nat) (l : List Int) (A2 : Option Addr) (n2 c2 : Nat) (l2 : List Int) (w : World)
    (hc1 : w.cell? p1 = some (.slice A n c)) (hc2 : w.cell? p2 = some (.slice A2 n2 c2)) (h : IL w A n c l) (h2 : IL w A2 n2 c2 l2) (hm : mayL l = true) (hm2 : mayL l2 = true) (hi : i ≤ 1000000) :
    Calls Tryz.prog 92 #[.int .i64 (i : Int), .pointer (some p1), .pointer (some p2)] w (RQ w (.int .i64 (digL l i - digL l2 i))) := by
  have f1 := from_any (l := l) (i := i) A n c
  have f2 := from_any (l := l2) (i := i) A2 n2 c2
  have b1 := digL_may hm i
  have b2 := digL_may hm2 i
  generalize digL l i = x at *
  generalize digL l2 i = y at *
  have F1 := Lib.hid f1
  have F2 := Lib.hid f2
  clear f1 f2
  go_enter Tryz.func92, Tryz.ntmps92
  go_wp2
  go_quiet (first
    | (go_at_call 86; with_reducible exact quiet_left (F1.out _ (h.drewN _) hi))
    | (go_at_call 86; with_reducible exact quiet_left (F2.out _ (h2.drewN _) hi)))
  go_wp2
  go_ret
  exact ⟨rfl, _, rfl⟩

theorem times1_any (i : Nat) (k : Int) (p1 p2 : Addr) (A : Option Addr) (n c : Nat) (l : List Int) (w : World)
    (hc1 : w.cell? p1 = some (.int .i64 k)) (hc2 : w.cell? p2 = some (.slice A n c)) (h : IL w A n c l) (hm : mayL l = true) (hi : i ≤ 1000000) (hk : 0 ≤ k) (hk2 : k ≤ 1000) :
    Calls Tryz.prog 91 #[.int .i64 (i : Int), .pointer (some p1), .pointer (some p2)] w (RQ w (.int .i64 (k * digL l i))) := by
  have f1 := from_any (l := l) (i := i) A n c
  have b1 := digL_may hm i
  generalize digL l i = x at *
  have F1 := Lib.hid f1
  have hb := Int.mul_nonneg hk b1.1
  have hb2 : k * x ≤ 1000 * 9 := Int.mul_le_mul hk2 b1.2 b1.1 (by omega)
  clear f1
  go_enter Tryz.func91, Tryz.ntmps91
  go_wp2
  go_quiet (first
    | (go_at_call 86; with_reducible exact quiet_left (F1.out _ (h.drewN _) hi)))
  go_wp2
  go_ret
  exact ⟨rfl, _, rfl⟩

/-! ### Lists of lists -/
/-- The slice value reads as lists of integers. -/
def LL (w : World) (A : Option Addr) (n c : Nat) (ls : List (List Int)) : Prop :=
  ∃ vs, VL w A n c vs ∧ vs.length = ls.length ∧ ∀ k, k < ls.length → ∃ A' n' c', vs[k]? = some (.slice A' n' c') ∧ IL w A' n' c' (ls.getD k [])
theorem LL.len {w : World} {A : Option Addr} {n c : Nat} {ls : List (List Int)} (h : LL w A n c ls) : ls.length = n := by
  obtain ⟨vs, h1, h2, _⟩ := h
  rw [← h2, h1.len]
theorem LL.le {w : World} {A : Option Addr} {n c : Nat} {ls : List (List Int)} (h : LL w A n c ls) : n ≤ c := by obtain ⟨vs, h1, _⟩ := h; exact h1.le
theorem LL.cap {w : World} {A : Option Addr} {n c : Nat} {ls : List (List Int)} (h : LL w A n c ls) : c ≤ 9223372036854775807 := by obtain ⟨vs, h1, _⟩ := h; exact h1.cap
theorem LL.below {w w' : World} {A : Option Addr} {n c : Nat} {ls : List (List Int)} (h : LL w A n c ls) (hb : Below w.heap.size w w') : LL w' A n c ls := by
  obtain ⟨vs, h1, h2, h3⟩ := h
  refine ⟨vs, h1.below hb, h2, fun k hk => ?_⟩
  obtain ⟨A', n', c', g1, g2⟩ := h3 k hk
  exact ⟨A', n', c', g1, g2.below hb⟩
theorem LL.at_ {w : World} {A : Option Addr} {n c : Nat} {ls : List (List Int)} (h : LL w A n c ls) {k : Nat} (hk : k < n) :
    ∃ b off A' n' c', A = some ⟨b, off, none⟩ ∧ w.cell? ⟨b, off + k, none⟩ = some (.slice A' n' c') ∧ IL w A' n' c' (ls.getD k []) := by
  have hl := h.len
  obtain ⟨vs, h1, h2, h3⟩ := h
  obtain ⟨A', n', c', g1, g2⟩ := h3 k (by omega)
  obtain ⟨b, off, v, e, gv, hc⟩ := h1.at_ hk
  rw [g1] at gv
  injection gv with gv
  exact ⟨b, off, A', n', c', e, by rw [hc, gv], g2⟩

def sumV (ls : List (List Int)) : Int := ls.foldl (fun a l => a + val l) 0
theorem sumV_snoc (ls : List (List Int)) (l : List Int) : sumV (ls ++ [l]) = sumV ls + val l := by simp [sumV, List.foldl_append]
def mayLL (ls : List (List Int)) : Bool := ls.all mayL
theorem mayLL_iff {ls : List (List Int)} : mayLL ls = true ↔ ∀ l, l ∈ ls → mayL l = true := by simp [mayLL]
theorem pow_mono {a b M : Nat} (h : a ≤ b) (h2 : M < 10 ^ a) : M < 10 ^ b := Nat.lt_of_lt_of_le h2 (Nat.pow_le_pow_right (by omega) h)
theorem sumV_bd (M : Nat) (ls : List (List Int)) (hm : mayLL ls = true) (hl : ∀ l, l ∈ ls → l.length ≤ M) : 0 ≤ sumV ls ∧ sumV ls < 10 ^ (M + ls.length) := by
  generalize hn : ls.length = n
  induction n generalizing ls with
  | zero =>
    have := List.eq_nil_of_length_eq_zero hn
    subst this
    have := ten_pos (M + 0)
    simp only [sumV, List.foldl_nil]
    omega
  | succ n ih =>
    rcases List.eq_nil_or_concat ls with rfl | ⟨r, x, rfl⟩
    · simp at hn
    · simp only [List.concat_eq_append] at hm hl hn ⊢
      rw [sumV_snoc]
      have hr := ih r (mayLL_iff.2 fun l h => mayLL_iff.1 hm l (by simp [h])) (fun l h => hl l (by simp [h])) (by simpa using hn)
      have hx := val_bd (mayLL_iff.1 hm x (by simp))
      have hp := pow_le (show x.length ≤ M + n by have := hl x (by simp); omega)
      have e : (10 : Int) ^ (M + (n + 1)) = 10 ^ (M + n) * 10 := by rw [← Nat.add_assoc, Int.pow_succ]
      omega
theorem toNat_pow {z : Int} {k : Nat} (h0 : 0 ≤ z) (h : z < 10 ^ k) : z.toNat < 10 ^ k := by
  have : ((z.toNat : Nat) : Int) < ((10 ^ k : Nat) : Int) := by
    rw [Int.toNat_of_nonneg h0]
    simpa using h
  exact_mod_cast this
theorem ofN_sumV_len (M : Nat) (ls : List (List Int)) (hm : mayLL ls = true) (hl : ∀ l, l ∈ ls → l.length ≤ M) : (ofN (sumV ls).toNat).length ≤ M + ls.length := by
  have := sumV_bd M ls hm hl
  exact ofN_len (toNat_pow this.1 this.2)

/-- A list of integers and a code. -/
def RLE (w : World) (l : List Int) (code : Int) (e : Ending) (w' : World) : Prop :=
  ∃ A n c, e = .returned (.tuple #[.slice A n c, .int .i64 code]) ∧ OL w' w.heap.size A n c l ∧ Below w.heap.size w w'

theorem take_snoc_getD {α : Type} (ls : List α) (d : α) (k : Nat) (h : k < ls.length) : ls.take (k + 1) = ls.take k ++ [ls.getD k d] := by
  rw [List.take_succ_eq_append_getElem h]
  simp [List.getD, List.getElem?_eq_getElem h]
theorem mayLL_snoc (ls : List (List Int)) (l : List Int) : mayLL (ls ++ [l]) = (mayLL ls && mayL l) := by simp [mayLL]
theorem getD_mem' {ls : List (List Int)} {k : Nat} (h : k < ls.length) : ls.getD k [] ∈ ls := by
  have : ls.getD k [] = ls[k] := by simp [List.getD, List.getElem?_eq_getElem h]
  rw [this]; exact List.getElem_mem h

/-- What the sum of lists is: or the error. -/
def sumR (ls : List (List Int)) : List Int × Int := if mayLL ls then (ofN (sumV ls).toNat, 0) else ([], 1)

set_option maxHeartbeats 1000000 in
theorem sum_any (A : Option Addr) (n c : Nat) (ls : List (List Int)) (w : World) (h : LL w A n c ls) (hn : ls.length ≤ 100) (hl : ∀ l, l ∈ ls → l.length ≤ 50000 ∧ I64 l) :
    Calls Tryz.prog 77 #[.slice A n c] w (RLE w (sumR ls).1 (sumR ls).2) := by
  have hle := h.le
  have hcap := h.cap
  have hlen := Lib.hid h.len
  have hn' : n ≤ 100 := by rw [← hlen.out]; exact hn
  have HL := Lib.hid hl
  clear hl hn
  go_enter Tryz.func77, Tryz.ntmps77
  go_wp2_with fail
  go_loopw [4, 10] (fun v i wr => ∃ (k : Nat) (A' : Option Addr) (m c' : Nat), k ≤ n ∧ i = .int .i64 k ∧ v = .slice A' m c' ∧
      Hid (mayLL (ls.take k) = true) ∧ OL wr w.heap.size A' m c' (ofN (sumV (ls.take k)).toNat) ∧ Below w.heap.size w wr)
    (fun _ i _ => n - (intOf i).toNat)
  case atStart => exact ⟨0, none, 0, 0, Nat.zero_le _, rfl, rfl, rfl, OL.nil _ _, Below.refl _ _⟩
  case round =>
    obtain ⟨k, A', m, c', hk, rfl, rfl, hM, hO, hB⟩ := hrel
    have hsz := hB.size
    by_cases hlt : k < n
    · have hkl : k < ls.length := by rw [hlen.out]; exact hlt
      obtain ⟨b, off, E, q, d, rfl, hc, hE⟩ := (h.below hB).at_ hlt
      have hmem := getD_mem' hkl
      have hs := Lib.hid (take_snoc_getD ls [] k hkl)
      have hIx := (HL.out _ hmem).2
      have hlx : q ≤ 50000 := by rw [← hE.len]; exact (HL.out _ hmem).1
      have hml : m ≤ 51000 := by
        rw [← hO.len]
        have := ofN_sumV_len 50000 (ls.take k) hM.out (fun l hl => (HL.out l (List.mem_of_mem_take hl)).1)
        have h2 := List.length_take_le k ls
        omega
      have hS0 := (sumV_bd 50000 (ls.take k) hM.out (fun l hl => (HL.out l (List.mem_of_mem_take hl)).1)).1
      generalize ls.getD k [] = x at *
      cases hmx : mayL x
      · have hr : sumR ls = ([], 1) := by
          unfold sumR
          rw [if_neg]
          rw [Bool.not_eq_true, ← Bool.not_eq_true]
          intro hall
          have hy := mayLL_iff.1 hall x hmem
          rw [hmx] at hy
          cases hy
        have HR := Lib.hid hr
        have HMX := Lib.hid hmx
        clear hr hmx
        go_wp2_with (first
          | (go_at_call 78; refine (may_any _ _ _ x _ (hE.alloc _) hIx).mono ?_; rw [HMX.out]; rintro e w' ⟨rfl, rfl⟩))
        go_ret2
        exact ⟨_, _, _, by rw [HR.out]; rfl, by rw [HR.out]; exact OL.nil _ _, hB.alloc hsz _⟩
      · have HMX := Lib.hid hmx
        have hmS : mayL (ofN (sumV (ls.take k)).toNat) = true := mayL_ofN _
        have hv1 : Hid (val (ofN (sumV (ls.take k)).toNat) = sumV (ls.take k)) := by
          rw [Hid, val_ofN, Int.toNat_of_nonneg hS0]
        generalize ofN (sumV (ls.take k)).toNat = S at *
        have HMS := Lib.hid hmS
        clear hmx hmS
        have hcl : ∀ (i : Nat) (W : World), i < max m q → Below ((wr.alloc (.cells #[.slice E q d] 26)).alloc (.cells #[.slice A' m c'] 26)).heap.size ((wr.alloc (.cells #[.slice E q d] 26)).alloc (.cells #[.slice A' m c'] 26)) W →
            Calls Tryz.prog 88 #[.int .i64 (i : Int), .pointer (some ⟨wr.heap.size + 1, 0, none⟩), .pointer (some ⟨wr.heap.size, 0, none⟩)] W (RQ W (.int .i64 (digL S i + digL x i))) := by
          intro i W hi hBW
          refine sum1_any i _ _ A' m c' S E q d x W ?_ ?_ ?_ ?_ HMS.out HMX.out (by omega)
          · rw [hBW.cell (by simp), World.cell?_alloc_at _ _ _ _ (by simp)]; rfl
          · rw [hBW.cell (by simp; omega), World.cell?_alloc_past _ _ _ (by simp), World.cell?_alloc_at _ _ _ _ rfl]; rfl
          · exact ((hO.il.alloc _).alloc _).below hBW
          · exact ((hE.alloc _).alloc _).below hBW
        have HCL := Lib.hid hcl
        have HSUM : Hid (∀ M, m ≤ M → q ≤ M → sumTo (fun i => digL S i + digL x i) M = sumV (ls.take (k + 1))) := by
          intro M h1 h2
          rw [sumTo_add, sumTo_val (by rw [hO.len]; exact h1), sumTo_val (by rw [hE.len]; exact h2), hs.out, sumV_snoc, hv1.out]
        have HS1 := Lib.hid ((sumV_bd 50000 (ls.take (k + 1)) (by rw [hs.out, mayLL_snoc, hM.out, HMX.out]; rfl) (fun l hl => (HL.out l (List.mem_of_mem_take hl)).1)).1)
        have HF : Hid (∀ i : Nat, -100000 ≤ digL S i + digL x i ∧ digL S i + digL x i ≤ 100000) := by
          intro i
          have b1 := digL_may HMS.out i
          have b2 := digL_may HMX.out i
          omega
        clear hcl
        rcases Nat.lt_or_ge m q with hmq | hmq
        all_goals
          go_wp2_with (first
            | (go_at_call 78; refine (may_any _ _ _ x _ (hE.alloc _) hIx).mono ?_; rw [HMX.out]; rintro e w' ⟨rfl, rfl⟩)
            | (go_at_call 87; refine (carry_sum _ _ _ (fun i => digL S i + digL x i) _ (by omega) (fun i _ => HF.out i) (by rw [HSUM.out _ (by omega) (by omega)]; exact HS1.out) (fun i W hi hb => HCL.out i W (by omega) hb)).mono ?_; rintro e w3 ⟨A3, n3, c3, rfl, hO3, hB3⟩))
          go_roundw
          case rel => exact ⟨k + 1, A3, n3, c3, by omega, by go_num, rfl, by rw [Hid, hs.out, mayLL_snoc, hM.out, HMX.out]; rfl, by rw [HSUM.out _ (by omega) (by omega)] at hO3; exact hO3.mono (by simp; omega), ((hB.alloc hsz _).alloc (by simp; omega) _).trans (hB3.mono (by simp; omega))⟩
          case measure => simp [intOf]; omega
    · have hkn : k = n := by omega
      subst hkn
      have hr : sumR ls = (ofN (sumV (ls.take k)).toNat, 0) := by
        have e : ls.take k = ls := List.take_of_length_le (by rw [hlen.out]; omega)
        have hM' := hM.out
        rw [e] at hM' ⊢
        unfold sumR
        rw [if_pos hM']
      have HR := Lib.hid hr
      clear hr
      go_wp2_with fail
      go_ret2
      exact ⟨_, _, _, by rw [HR.out]; rfl, by rw [HR.out]; exact hO, hB⟩

end Go.Proofs.YtjinbhnpcdlkiaaGreatDoor


namespace Go.Proofs.YtjinbhnpcdlkiaaGreatDoor
open Go.RowKit

theorem cmp_any (a b : Int) (w : World) (_ha : -9223372036854775808 ≤ a ∧ a ≤ 9223372036854775807) (_hb : -9223372036854775808 ≤ b ∧ b ≤ 9223372036854775807) :
    Calls Tryz.prog 69 #[.int .i64 a, .int .i64 b] w fun e w' => e = .returned (.int .i64 (cmpI a b)) ∧ w = w' := by
  rcases Int.lt_or_le a b with h | h
  · have e1 : Hid (cmpI a b = -1) := by unfold Hid cmpI; rw [if_pos h]
    go_enter Tryz.func69, Tryz.ntmps69
    go_wp2
    go_ret
    exact ⟨ret_int (by rw [e1.out]), rfl⟩
  · rcases Int.lt_or_le b a with h2 | h2
    · have e1 : Hid (cmpI a b = 1) := by unfold Hid cmpI; rw [if_neg (by omega), if_pos h2]
      go_enter Tryz.func69, Tryz.ntmps69
      go_wp2
      go_ret
      exact ⟨ret_int (by rw [e1.out]), rfl⟩
    · have e1 : Hid (cmpI a b = 0) := by unfold Hid cmpI; rw [if_neg (by omega), if_neg (by omega)]
      go_enter Tryz.func69, Tryz.ntmps69
      go_wp2
      go_ret
      exact ⟨ret_int (by rw [e1.out]), rfl⟩

theorem lexC_drop {a b : List Int} {k : Nat} (ha : k < a.length) (hb : k < b.length) :
    lexC (a.drop k) (b.drop k) = if cmpI (a.getD k 0) (b.getD k 0) ≠ 0 then cmpI (a.getD k 0) (b.getD k 0) else lexC (a.drop (k + 1)) (b.drop (k + 1)) := by
  rw [List.drop_eq_getElem_cons ha, List.drop_eq_getElem_cons hb]
  simp only [lexC, cmpI, List.getD, List.getElem?_eq_getElem ha, List.getElem?_eq_getElem hb, Option.getD_some]
  split
  · simp
  · split
    · simp
    · simp
theorem cmpI_cases (a b : Int) : cmpI a b = -1 ∨ cmpI a b = 0 ∨ cmpI a b = 1 := by
  unfold cmpI
  split
  · exact .inl rfl
  · split
    · exact .inr (.inr rfl)
    · exact .inr (.inl rfl)
theorem lexC_cases (a b : List Int) : lexC a b = -1 ∨ lexC a b = 0 ∨ lexC a b = 1 := by
  induction a generalizing b with
  | nil => cases b <;> simp [lexC]
  | cons x a ih =>
    cases b with
    | nil => simp [lexC]
    | cons y b =>
      simp only [lexC]
      split
      · exact .inl rfl
      · split
        · exact .inr (.inr rfl)
        · exact ih b
theorem cmpL_cases (a b : List Int) : cmpL a b = -1 ∨ cmpL a b = 0 ∨ cmpL a b = 1 := by
  unfold cmpL
  split
  · exact .inl rfl
  · split
    · exact .inr (.inr rfl)
    · exact lexC_cases _ _

set_option maxHeartbeats 1000000 in
theorem lex_any (A : Option Addr) (n c : Nat) (l : List Int) (A2 : Option Addr) (n2 c2 : Nat) (l2 : List Int) (w : World) (h : IL w A n c l) (h2 : IL w A2 n2 c2 l2) (hl : I64 l) (hl2 : I64 l2) :
    Calls Tryz.prog 70 #[.slice A n c, .slice A2 n2 c2] w fun e w' => e = .returned (.int .i64 (lexC l l2)) ∧ w = w' := by
  have hle := h.le
  have hcap := h.cap
  have hle2 := h2.le
  have hcap2 := h2.cap
  have hlen := Lib.hid h.len
  have hlen2 := Lib.hid h2.len
  go_enter Tryz.func70, Tryz.ntmps70
  go_wp2_with fail
  go_loop [11] (fun i => ∃ k : Nat, k ≤ n ∧ k ≤ n2 ∧ i = .int .i64 k ∧ Hid (lexC l l2 = lexC (l.drop k) (l2.drop k))) (fun i => n - (intOf i).toNat)
  case atStart => exact ⟨0, Nat.zero_le _, Nat.zero_le _, rfl, rfl⟩
  case round =>
    obtain ⟨k, hk, hk2, rfl, hI⟩ := hrel
    by_cases hlt : k < n
    · obtain ⟨b, off, rfl, hc⟩ := h.at_ hlt
      by_cases hlt2 : k < n2
      · obtain ⟨b2, off2, rfl, hc2⟩ := h2.at_ hlt2
        have hx := hl.getD k
        have hy := hl2.getD k
        have hst := Lib.hid (lexC_drop (a := l) (b := l2) (k := k) (by rw [hlen.out]; exact hlt) (by rw [hlen2.out]; exact hlt2))
        generalize l.getD k 0 = x at *
        generalize l2.getD k 0 = y at *
        have hcc := cmpI_cases x y
        have hcall := Lib.hid (cmp_any x y w hx hy)
        generalize cmpI x y = z at *
        by_cases hz : z = 0
        · subst hz
          clear hcc
          go_wp2_with (first
            | (go_at_call 69; refine hcall.out.mono ?_; rintro e w' ⟨rfl, rfl⟩))
          go_round
          case rel => exact ⟨k + 1, by omega, by omega, by go_num, by rw [Hid, hI.out, hst.out]; rfl⟩
          case measure => simp [intOf]; omega
        · have hzz : (z != 0) = true := by simpa using hz
          go_wp2_with (first
            | (go_at_call 69; refine hcall.out.mono ?_; rintro e w' ⟨rfl, rfl⟩))
          go_ret
          exact ⟨ret_int (by rw [hI.out, hst.out, if_pos hz]), rfl⟩
      · have e1 : Hid (lexC (l.drop k) (l2.drop k) = 1) := by
          rw [Hid, List.drop_eq_getElem_cons (show k < l.length by rw [hlen.out]; exact hlt), List.drop_of_length_le (show l2.length ≤ k by rw [hlen2.out]; omega)]; rfl
        go_wp2
        go_ret
        exact ⟨ret_int (by rw [hI.out, e1.out]), rfl⟩
    · have hkn : k = n := by omega
      subst hkn
      by_cases hlt2 : k < n2
      · have e1 : Hid (lexC (l.drop k) (l2.drop k) = -1) := by
          rw [Hid, List.drop_eq_getElem_cons (show k < l2.length by rw [hlen2.out]; exact hlt2), List.drop_of_length_le (show l.length ≤ k by rw [hlen.out]; omega)]; rfl
        go_wp2
        go_ret
        exact ⟨ret_int (by rw [hI.out, e1.out]), rfl⟩
      · have e1 : Hid (lexC (l.drop k) (l2.drop k) = 0) := by
          rw [Hid, List.drop_of_length_le (show l2.length ≤ k by rw [hlen2.out]; omega), List.drop_of_length_le (show l.length ≤ k by rw [hlen.out]; omega)]; rfl
        go_wp2
        go_ret
        exact ⟨ret_int (by rw [hI.out, e1.out]), rfl⟩

theorem or_any (A : Option Addr) (c : Nat) (x y z : Int) (w : World) (h : IL w A 2 c [x, y]) (hz : z = if x ≠ 0 then x else y) :
    Calls Tryz.prog 68 #[.slice A 2 c] w fun e w' => e = .returned (.int .i64 z) ∧ w = w' := by
  have HZ := Lib.hid hz
  clear hz
  obtain ⟨b, off, rfl, hc⟩ := h.at_ (k := 0) (by omega)
  obtain ⟨b', off', e, hc'⟩ := h.at_ (k := 1) (by omega)
  injection e with e
  injection e with e1 e2
  subst e1 e2
  have hc0 : w.cell? ⟨b, off, none⟩ = some (.int .i64 x) := by simpa using hc
  have hc1 : w.cell? ⟨b, off + 1, none⟩ = some (.int .i64 y) := by simpa using hc'
  clear hc hc'
  by_cases hx : x = 0
  · subst hx
    go_enter Tryz.func68, Tryz.ntmps68
    go_wp2_with fail
    go_loop [5, 8] (fun v i => ∃ k : Nat, k ≤ 2 ∧ i = .int .i64 k ∧ Hid (k = 2 → y = 0)) (fun _ i => 2 - (intOf i).toNat)
    case atStart => exact ⟨0, by omega, rfl, fun h => absurd h (by omega)⟩
    case round =>
      obtain ⟨k, hk, rfl, hI⟩ := hrel
      rcases (show k = 0 ∨ k = 1 ∨ k = 2 by omega) with rfl | rfl | rfl
      · go_wp2
        go_round
        case rel => exact ⟨1, by omega, rfl, fun h => absurd h (by omega)⟩
        case measure => simp [intOf]
      · by_cases hy : y = 0
        · subst hy
          go_wp2
          go_round
          case rel => exact ⟨2, by omega, rfl, fun _ => trivial⟩
          case measure => simp [intOf]
        · go_wp2
          go_ret
          exact ⟨ret_int (by rw [HZ.out]; simp), rfl⟩
      · have hy := hI.out rfl
        subst hy
        go_wp2
        go_ret
        exact ⟨ret_int (by rw [HZ.out]; simp), rfl⟩
  · go_enter Tryz.func68, Tryz.ntmps68
    go_wp2_with fail
    go_loop [5, 8] (fun v i => i = .int .i64 0) (fun _ i => 0)
    case atStart => exact rfl
    case round =>
      subst hrel
      go_wp2
      go_ret
      exact ⟨ret_int (by rw [HZ.out]; simp [hx]), rfl⟩

/-- What the comparison is: of the lengths, then of the digits. -/
theorem cmpL_eq (a b : List Int) : cmpL a b = if cmpI ((trimL a).length : Int) ((trimL b).length : Int) ≠ 0 then cmpI ((trimL a).length : Int) ((trimL b).length : Int) else lexC (trimL a) (trimL b) := by
  unfold cmpL
  by_cases h1 : (trimL a).length < (trimL b).length
  · have e : cmpI ((trimL a).length : Int) ((trimL b).length : Int) = -1 := by unfold cmpI; rw [if_pos (by omega)]
    rw [if_pos h1, e]; rfl
  · rw [if_neg h1]
    by_cases h2 : (trimL b).length < (trimL a).length
    · have e : cmpI ((trimL a).length : Int) ((trimL b).length : Int) = 1 := by unfold cmpI; rw [if_neg (by omega), if_pos (by omega)]
      rw [if_pos h2, e]; rfl
    · have e : cmpI ((trimL a).length : Int) ((trimL b).length : Int) = 0 := by unfold cmpI; rw [if_neg (by omega), if_neg (by omega)]
      rw [if_neg h2, e]; rfl

theorem I64_drop {l : List Int} (h : I64 l) (k : Nat) : I64 (l.drop k) := fun x hx => h x (List.mem_of_mem_drop hx)
theorem I64_take {l : List Int} (h : I64 l) (k : Nat) : I64 (l.take k) := fun x hx => h x (List.mem_of_mem_take hx)
theorem I64_trim {l : List Int} (h : I64 l) : I64 (trimL l) := by rw [trimL_drop]; exact I64_drop h _

set_option maxHeartbeats 1000000 in
theorem compare_any (A : Option Addr) (n c : Nat) (l : List Int) (A2 : Option Addr) (n2 c2 : Nat) (l2 : List Int) (w : World) (h : IL w A n c l) (h2 : IL w A2 n2 c2 l2) (hl : I64 l) (hl2 : I64 l2)
    (hn : n ≤ 100000000) (hn2 : n2 ≤ 100000000) :
    Calls Tryz.prog 44 #[.slice A n c, .slice A2 n2 c2] w (RV w (.int .i64 (cmpL l l2))) := by
  have hq := Lib.hid (cmpL_eq l l2)
  have ht1 := Lib.hid (trim_any A n c l w h hl hn)
  have hI1 := I64_trim hl
  have hI2 := I64_trim hl2
  have hb1 : (trimL l).length ≤ n := by rw [trimL_len, h.len]; omega
  have hb2 : (trimL l2).length ≤ n2 := by rw [trimL_len, h2.len]; omega
  have ht2 := fun W hW => Lib.hid (trim_any A2 n2 c2 l2 W hW hl2 hn2)
  have HT2 := Lib.hid ht2
  clear ht2 hl hl2
  generalize trimL l = t1 at *
  generalize trimL l2 = t2 at *
  go_enter Tryz.func44, Tryz.ntmps44
  go_wp2_with fail
  refine ht1.out.mono ?_
  rintro e w1 ⟨A', n', c', rfl, hO, hB⟩
  go_wp2_with fail
  refine (HT2.out _ (h2.below hB)).out.mono ?_
  rintro e w2 ⟨A2', n2', c2', rfl, hO2, hB2⟩
  have hI := hO.il.below hB2
  have hn' : n' ≤ 100000000 := by rw [← hO.len]; omega
  have hn2' : n2' ≤ 100000000 := by rw [← hO2.len]; omega
  have HL1 := Lib.hid hO.len
  have HL2 := Lib.hid hO2.len
  have hcmp := Lib.hid (cmp_any (n' : Int) (n2' : Int) w2 ⟨by omega, by omega⟩ ⟨by omega, by omega⟩)
  have hlex := Lib.hid (lex_any _ _ _ t1 _ _ _ t2 w2 hI hO2.il hI1 hI2)
  rw [Hid, HL1.out, HL2.out] at hq
  have HQ := Lib.hid hq
  clear hq
  generalize cmpI (n' : Int) (n2' : Int) = x at *
  generalize lexC t1 t2 = y at *
  go_wp2_with (first
    | (go_at_call 69; refine hcmp.out.mono ?_; rintro e w' ⟨rfl, rfl⟩)
    | (go_at_call 70; refine hlex.out.mono ?_; rintro e w' ⟨rfl, rfl⟩)
    | (go_at_call 68; refine (or_any _ _ x y _ _ (VL.lit _ _ 2 [.int .i64 x, .int .i64 y] rfl (by omega)) HQ.out).mono ?_; rintro e w' ⟨rfl, rfl⟩))
  go_ret
  exact ⟨rfl, ((below_from hB hB2).alloc (by have := (below_from hB hB2).size; omega) _)⟩

end Go.Proofs.YtjinbhnpcdlkiaaGreatDoor

