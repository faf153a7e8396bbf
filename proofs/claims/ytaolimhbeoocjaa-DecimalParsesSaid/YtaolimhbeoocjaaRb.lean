/- The walks of the document's sums, differences, multiples, shifts. No condition. -/
import Derived.Test.YtaolimhbeoocjaaRa
import Derived.Test.YtaolimhbeoocjaaZeros
namespace Go.Proofs.Ytaolimhbeoocjaa
open Go.RowKit

/-! ### Plain: as at school -/
/-- What the rounds have kept: digits, the highest first, and what is over. -/
def School (f : Nat → Int) (i : Nat) (o : List Int) (over : Int) : Prop :=
  mayL o = true ∧ o.length = i ∧ val o + over * 10 ^ i = sumTo f i ∧ -1 ≤ over ∧ over ≤ 1000
theorem School.zero (f : Nat → Int) : School f 0 [] 0 := ⟨rfl, rfl, rfl, by omega, by omega⟩
theorem School.step {f : Nat → Int} {i : Nat} {o : List Int} {over d r : Int} (h : School f i o over) (hd : 0 ≤ d ∧ d ≤ 9) (hr : -1 ≤ r ∧ r ≤ 1000)
    (he : over + f i = 10 * r + d) : School f (i + 1) (d :: o) r := by
  obtain ⟨h1, h2, h3, h4, h5⟩ := h
  refine ⟨?_, by simp [h2], ?_, hr.1, hr.2⟩
  · simp [h1, isDig]; omega
  · rw [val_cons, h2, sumTo, ← h3, Int.pow_succ]
    have e2 : (over + f i) * 10 ^ i = (10 * r + d) * 10 ^ i := by rw [he]
    rw [Int.add_mul, Int.add_mul] at e2
    have e3 : r * (10 ^ i * 10) = 10 * r * 10 ^ i := by rw [Int.mul_comm 10 r, Int.mul_assoc, Int.mul_comm 10]
    rw [e3]
    omega
theorem School.done {f : Nat → Int} {i : Nat} {o : List Int} (h : School f i o 0) : trimL o = ofN (sumTo f i).toNat := by
  obtain ⟨h1, h2, h3, _, _⟩ := h
  rw [trimL_ofN h1]
  congr 1
  omega
theorem School.last {f : Nat → Int} {i : Nat} {o : List Int} {over : Int} (h : School f i o over) (h0 : 0 ≤ over) (h9 : over ≤ 9) : trimL (over :: o) = ofN (sumTo f i).toNat := by
  obtain ⟨h1, h2, h3, _, _⟩ := h
  rw [trimL_ofN (by simp [h1, isDig]; omega), val_cons, h2]
  congr 1
  omega
theorem School.none_lent {f : Nat → Int} {i : Nat} {o : List Int} {lent : Int} (h : School f i o lent) (hs : 0 ≤ sumTo f i) : 0 ≤ lent := by
  obtain ⟨h1, h2, h3, h4, h5⟩ := h
  have hb := val_bd h1
  rw [h2] at hb
  rcases Int.lt_or_le lent 0 with h | h
  · exfalso
    have : lent = -1 := by omega
    subst this
    omega
  · exact h
/-- Behind the rounds of so many times: what is over goes on digit by digit. -/
def Over (s : Int) (o : List Int) (over : Int) : Prop := mayL o = true ∧ val o + over * 10 ^ o.length = s ∧ 0 ≤ over ∧ over ≤ 1000
theorem Over.step {s : Int} {o : List Int} {over d r : Int} (h : Over s o over) (hd : d = over % 10) (hr : r = over / 10) : Over s (d :: o) r := by
  obtain ⟨h1, h2, h3, h4⟩ := h
  refine ⟨?_, ?_, by omega, by omega⟩
  · simp [h1, isDig]; omega
  · rw [val_cons, List.length_cons, Int.pow_succ, ← h2]
    have e : over = 10 * r + d := by omega
    have e2 : over * 10 ^ o.length = (10 * r + d) * 10 ^ o.length := by rw [← e]
    rw [Int.add_mul] at e2
    have e3 : r * (10 ^ o.length * 10) = 10 * r * 10 ^ o.length := by rw [Int.mul_comm 10 r, Int.mul_assoc, Int.mul_comm 10]
    rw [e3]
    omega
theorem Over.done {s : Int} {o : List Int} (h : Over s o 0) : trimL o = ofN s.toNat := by
  obtain ⟨h1, h2, _, _⟩ := h
  rw [trimL_ofN h1]
  congr 1
  omega

/-! ### Shifts -/
def shiftL (l : List Int) (k : Int) : List Int := if k < 0 then l.take (l.length - (-k).toNat) else l ++ List.replicate k.toNat 0

set_option maxHeartbeats 1000000 in
theorem rshift_any (A : Option Addr) (n c : Nat) (l : List Int) (k : Int) (w : World) (h : IL w A n c l) (hn : n ≤ 1000000) (hk : -1000000 ≤ k) (hk2 : k ≤ 1000000) :
    Calls Try.prog 34 #[.slice A n c, .int .i64 k] w (RO w (shiftL l k)) := by
  have hcap := h.cap
  have hle := h.le
  have hlen := Lib.hid h.len
  rcases Int.lt_or_le k 0 with hneg | hneg
  · have hr : Hid (shiftL l k = l.take (n - (-k).toNat)) := by unfold Hid shiftL; rw [if_pos hneg, hlen.out]
    rcases Int.lt_or_le ((n : Int) + k) 0 with hs | hs
    · have hz : Hid (l.take (n - (-k).toNat) = []) := by
        have : n - (-k).toNat = 0 := by omega
        rw [Hid, this]; rfl
      go_enter Try.func34, Try.ntmps34
      go_wp2_with (first
        | (at_builtin; go_must (refine wpList_append_OL w.heap.size rfl _ _ rfl rfl rfl (OL.nil _ _) (IL.empty _ _ _ (by omega)) (Nat.le_refl _) (by omega) ?_); intro A2 c2 w2 hO2 hB2 _))
      all_goals
        go_ret
        exact ⟨_, _, _, rfl, by rw [hr.out, hz.out]; simpa using hO2, hB2⟩
    · have hr2 : Hid (shiftL l k = l.take ((n : Int) + k).toNat) := by rw [Hid, hr.out]; congr 1; omega
      go_enter Try.func34, Try.ntmps34
      go_wp2_with (first
        | (at_builtin; refine wpList_append_OL w.heap.size rfl _ _ rfl rfl rfl (OL.nil _ _) (h.take (k := ((n : Int) + k).toNat) (by omega) (by omega) (Nat.le_refl _) _ (by intro hkn; first | rfl | exact if_neg (by omega))) (Nat.le_refl _) (by omega) ?_; intro A2 c2 w2 hO2 hB2 _))
      all_goals
        go_ret
        exact ⟨_, _, _, rfl, by rw [hr2.out]; simpa using hO2, hB2⟩
  · obtain ⟨m, rfl⟩ := Int.eq_ofNat_of_zero_le hneg
    have hr : Hid (shiftL l (m : Int) = l ++ List.replicate m 0) := by unfold Hid shiftL; rw [if_neg (by omega)]; rfl
    go_enter Try.func34, Try.ntmps34
    go_wp2_with (first
        | (at_builtin; refine wpList_append_OL w.heap.size rfl _ _ rfl rfl rfl (OL.nil _ _) h (Nat.le_refl _) (by omega) ?_; intro A2 c2 w2 hO2 hB2 _))
    go_loopw [5, 6] (fun v i wr => ∃ (j : Nat) (A' : Option Addr) (c' : Nat), j ≤ m ∧ i = .int .i64 j ∧ v = .slice A' (n + j) c' ∧ OL wr w.heap.size A' (n + j) c' (l ++ List.replicate j 0) ∧ Below w.heap.size w wr)
      (fun _ i _ => m - (intOf i).toNat)
    case atStart => exact ⟨0, A2, c2, Nat.zero_le _, rfl, by simp, by simpa using hO2, hB2⟩
    case round =>
      obtain ⟨j, A', c', hj, rfl, rfl, hO, hB⟩ := hrel
      have hsz := hB.size
      by_cases hlt : j < m
      · go_wp2_with (first
          | (at_builtin; refine wpList_append_OL w.heap.size rfl _ _ rfl rfl rfl (hO.alloc _) (IL.one _ _ _) (by simp; omega) (by omega) ?_; intro A3 c3 w3 hO3 hB3 _))
        go_roundw
        case rel => exact ⟨j + 1, A3, c3, by omega, by go_num, rfl, by rw [List.replicate_succ', ← List.append_assoc]; exact hO3, (hB.alloc hsz _).trans hB3⟩
        case measure => simp [intOf]; omega
      · have hjm : j = m := by omega
        subst hjm
        go_wp2
        go_ret
        exact ⟨_, _, _, rfl, by rw [hr.out]; exact hO, hB⟩

theorem rcmp_lens {a b : List Int} (h : a.length = b.length) : ∀ k, k < a.length → lexC (a.drop k) (b.drop k) = if a.getD k 0 < b.getD k 0 then -1 else if b.getD k 0 < a.getD k 0 then 1 else lexC (a.drop (k + 1)) (b.drop (k + 1)) := by
  intro k hk
  rw [lexC_drop hk (by omega)]
  unfold cmpI
  split
  · rfl
  · split
    · rfl
    · rfl

set_option maxHeartbeats 1000000 in
theorem rcompare_any (A : Option Addr) (n c : Nat) (l : List Int) (A2 : Option Addr) (n2 c2 : Nat) (l2 : List Int) (w : World) (h : IL w A n c l) (h2 : IL w A2 n2 c2 l2)
    (hn : n ≤ 100000000) (hn2 : n2 ≤ 100000000) :
    Calls Try.prog 33 #[.slice A n c, .slice A2 n2 c2] w (RV w (.int .i64 (cmpL l l2))) := by
  have hq : Hid (cmpL l l2 = if (trimL l).length < (trimL l2).length then -1 else if (trimL l2).length < (trimL l).length then 1 else lexC (trimL l) (trimL l2)) := rfl
  have hb1 : (trimL l).length ≤ n := by rw [trimL_len, h.len]; omega
  have hb2 : (trimL l2).length ≤ n2 := by rw [trimL_len, h2.len]; omega
  have ht1 := Lib.hid (rtrim_any A n c l w h hn)
  have ht2 := Lib.hid (fun W hW => rtrim_any A2 n2 c2 l2 W hW hn2)
  generalize trimL l = t1 at *
  generalize trimL l2 = t2 at *
  go_enter Try.func33, Try.ntmps33
  go_wp2_with fail
  refine ht1.out.mono ?_
  rintro e w1 ⟨A', n', c', rfl, hO, hB⟩
  go_wp2_with fail
  refine (ht2.out _ (h2.below hB)).mono ?_
  rintro e w2 ⟨A2', n2', c2', rfl, hO2, hB2⟩
  have hI := hO.il.below hB2
  have hI2 := hO2.il
  have HL1 := Lib.hid hI.len
  have HL2 := Lib.hid hI2.len
  have hn' : n' ≤ 100000000 := by rw [← HL1.out]; omega
  have hn2' : n2' ≤ 100000000 := by rw [← HL2.out]; omega
  have hBB := below_from hB hB2
  rw [Hid, HL1.out, HL2.out] at hq
  have HQ := Lib.hid hq
  clear hq hb1 hb2 ht1 ht2 hO hO2 hB hB2
  rcases Nat.lt_or_ge n' n2' with h1 | h1
  · go_wp2_with fail
    go_ret
    exact ⟨ret_int (by rw [HQ.out, if_pos h1]), hBB⟩
  · rcases Nat.lt_or_ge n2' n' with h3 | h3
    · go_wp2_with fail
      go_ret
      exact ⟨ret_int (by rw [HQ.out, if_neg (by omega), if_pos h3]), hBB⟩
    · obtain rfl : n' = n2' := by omega
      have hz : Hid (cmpL l l2 = lexC t1 t2) := by rw [Hid, HQ.out, if_neg (by omega), if_neg (by omega)]
      clear HQ h1 h3
      go_wp2_with fail
      go_loopw [7] (fun i wr => ∃ k j : Nat, k ≤ n' ∧ i = .int .i64 k ∧ Hid (lexC t1 t2 = lexC (t1.drop k) (t2.drop k)) ∧ wr = w2.drewN j) (fun i _ => n' - (intOf i).toNat)
      case atStart => exact ⟨0, 0, Nat.zero_le _, rfl, rfl, rfl⟩
      case round =>
        obtain ⟨k, j, hk, rfl, hK, rfl⟩ := hrel
        by_cases hlt : k < n'
        · obtain ⟨b, off, rfl, hc⟩ := hI.at_ hlt
          obtain ⟨b2, off2, rfl, hc2⟩ := hI2.at_ hlt
          have hst := Lib.hid (rcmp_lens (a := t1) (b := t2) (by rw [HL1.out, HL2.out]) k (by rw [HL1.out]; exact hlt))
          generalize t1.getD k 0 = x at *
          generalize t2.getD k 0 = y at *
          have hlt' : (k : Int) < (n' : Int) := by omega
          have hk0 : (0 : Int) ≤ (k : Int) := by omega
          rcases Int.lt_or_le x y with hxy | hxy
          · have hd : decide (x < y) = true := by simpa using hxy
            go_wp2
            go_quiet (fail)
            go_wp2
            go_ret
            exact ⟨ret_int (by rw [hz.out, hK.out, hst.out, if_pos hxy]), hBB.trans ((below_drewN _ _ _).trans (below_drewN _ _ _))⟩
          · have hd : decide (x < y) = false := by simpa using hxy
            rcases Int.lt_or_le y x with hyx | hyx
            · have hd2 : decide (y < x) = true := by simpa using hyx
              go_wp2
              go_quiet (fail)
              go_wp2
              go_quiet (fail)
              go_wp2
              go_ret
              exact ⟨ret_int (by rw [hz.out, hK.out, hst.out, if_neg (by omega), if_pos hyx]), hBB.trans ((below_drewN _ _ _).trans ((below_drewN _ _ _).trans (below_drewN _ _ _)))⟩
            · have hd2 : decide (y < x) = false := by simpa using hyx
              go_wp2
              go_quiet (fail)
              go_wp2
              go_quiet (fail)
              go_wp2
              go_roundw
              case rel => exact ⟨k + 1, _, by omega, by go_num, by rw [Hid, hK.out, hst.out, if_neg (by omega), if_neg (by omega)], by first | rfl | (simp only [World.drewN_drewN]; rfl)⟩
              case measure => simp [intOf]; omega
        · have hkn : k = n' := by omega
          subst hkn
          go_wp2
          go_ret
          exact ⟨ret_int (by rw [hz.out, hK.out, List.drop_of_length_le (by rw [HL1.out]; omega), List.drop_of_length_le (by rw [HL2.out]; omega)]; rfl), hBB.trans (below_drewN _ _ _)⟩

end Go.Proofs.Ytaolimhbeoocjaa
