/- The walk of the program's Shift. No condition. -/
import Derived.Test.YtaolimhbeoocjaaRb
namespace Go.Proofs.Ytaolimhbeoocjaa
open Go.RowKit

def shiftR (l : List Int) (k : Int) : List Int × Int := if mayL l then (if k < -1000 ∨ 1000 < k then ([], 3) else (shiftL l k, 0)) else ([], 1)

set_option maxHeartbeats 1000000 in
theorem shift_any (A : Option Addr) (n c : Nat) (l : List Int) (k : Int) (w : World) (h : IL w A n c l) (hl : I64 l) (hn : n ≤ 1000000) (hk : -9223372036854775808 ≤ k ∧ k ≤ 9223372036854775807) :
    Calls Try.prog 45 #[.slice A n c, .int .i64 k] w (RLE w (shiftR l k).1 (shiftR l k).2) := by
  have hcap := h.cap
  have hle := h.le
  have hlen := Lib.hid h.len
  have hm1 := Lib.hid (may_any A n c l w h hl)
  cases ha : mayL l
  · have hr : Hid (shiftR l k = ([], 1)) := by unfold Hid shiftR; rw [ha]; rfl
    rw [ha] at hm1
    clear ha
    go_enter Try.func45, Try.ntmps45
    go_wp2_with (first | (go_at_call 30; refine hm1.out.mono ?_; rintro e w' ⟨rfl, rfl⟩))
    go_ret2
    exact ⟨_, _, _, by rw [hr.out]; rfl, by rw [hr.out]; exact OL.nil _ _, Below.refl _ _⟩
  · rw [ha] at hm1
    have HA := Lib.hid ha
    clear ha
    by_cases hk0 : k < -1000
    · have hr : Hid (shiftR l k = ([], 3)) := by unfold Hid shiftR; rw [HA.out, if_pos rfl, if_pos (.inl hk0)]
      go_enter Try.func45, Try.ntmps45
      go_wp2_with (first | (go_at_call 30; refine hm1.out.mono ?_; rintro e w' ⟨rfl, rfl⟩))
      go_ret2
      exact ⟨_, _, _, by rw [hr.out]; rfl, by rw [hr.out]; exact OL.nil _ _, Below.refl _ _⟩
    · by_cases hk1 : 1000 < k
      · have hr : Hid (shiftR l k = ([], 3)) := by unfold Hid shiftR; rw [HA.out, if_pos rfl, if_pos (.inr hk1)]
        go_enter Try.func45, Try.ntmps45
        go_wp2_with (first | (go_at_call 30; refine hm1.out.mono ?_; rintro e w' ⟨rfl, rfl⟩))
        go_ret2
        exact ⟨_, _, _, by rw [hr.out]; rfl, by rw [hr.out]; exact OL.nil _ _, Below.refl _ _⟩
      · have hr0 : Hid (shiftR l k = (shiftL l k, 0)) := by unfold Hid shiftR; rw [HA.out, if_pos rfl, if_neg (by omega)]
        rcases Int.lt_or_le k 0 with hneg | hneg
        · rcases Int.lt_or_le ((n : Int) + k) 0 with hs | hs
          · have hr : Hid (shiftR l k = ([], 0)) := by
              have : l.length - (-k).toNat = 0 := by rw [hlen.out]; omega
              rw [Hid, hr0.out, shiftL, if_pos hneg, this]; rfl
            go_enter Try.func45, Try.ntmps45
            go_wp2_with (first
              | (go_at_call 30; refine hm1.out.mono ?_; rintro e w' ⟨rfl, rfl⟩)
              | (go_at_call 57; refine (clone_any _ _ _ [] _ (IL.empty _ _ _ (by omega)) (by omega)).mono ?_; rintro e w' ⟨A', n', c', rfl, hO, hB⟩))
            all_goals
              go_ret2
              exact ⟨_, _, _, by rw [hr.out]; rfl, by rw [hr.out]; exact hO, hB⟩
          · have hr : Hid (shiftR l k = (l.take ((n : Int) + k).toNat, 0)) := by
              rw [Hid, hr0.out, shiftL, if_pos hneg, hlen.out]; congr 2; omega
            go_enter Try.func45, Try.ntmps45
            go_wp2_with (first
              | (go_at_call 30; refine hm1.out.mono ?_; rintro e w' ⟨rfl, rfl⟩)
              | (go_at_call 57; refine (clone_any _ _ _ _ _ (h.take (k := ((n : Int) + k).toNat) (by omega) (by omega) (Nat.le_refl _) _ (by intro hkn; first | rfl | exact if_neg (by omega))) (by omega)).mono ?_; rintro e w' ⟨A', n', c', rfl, hO, hB⟩))
            all_goals
              go_ret2
              exact ⟨_, _, _, by rw [hr.out]; rfl, by rw [hr.out]; exact hO, hB⟩
        · obtain ⟨m, rfl⟩ := Int.eq_ofNat_of_zero_le hneg
          have hr : Hid (shiftR l (m : Int) = (l ++ List.replicate m 0, 0)) := by rw [Hid, hr0.out, shiftL, if_neg (by omega)]; rfl
          go_enter Try.func45, Try.ntmps45
          go_wp2_with fail
          refine hm1.out.mono ?_
          rintro e w' ⟨rfl, rfl⟩
          go_wp2_with fail
          refine (clone_any _ _ _ l _ h (by omega)).mono ?_
          rintro e w' ⟨A', n', c', rfl, hO, hB⟩
          have hn' : n' = n := by rw [← hO.len]; exact hlen.out
          subst hn'
          go_wp2_with (first
            | (at_builtin; refine wpList_append_zeros w.heap.size rfl _ _ rfl rfl rfl hO hB.size (by omega) ?_; intro A2 c2 w2 hO2 hB2))
          go_ret2
          exact ⟨_, _, _, by rw [hr.out]; rfl, by rw [hr.out]; exact hO2, hB.trans hB2⟩

end Go.Proofs.Ytaolimhbeoocjaa
