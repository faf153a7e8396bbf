/- The walks of the program's Sub, Times, Shift, Odd. No condition. -/
import Derived.Test.YtaolimhbeoocjaaCmp
namespace Go.Proofs.Ytaolimhbeoocjaa
open Go.RowKit

def subR (a b : List Int) : List Int × Int := if mayL a && mayL b then (if val a < val b then ([], 3) else (ofN (val a - val b).toNat, 0)) else ([], 1)

set_option maxHeartbeats 1000000 in
theorem sub_any (A : Option Addr) (n c : Nat) (l : List Int) (A2 : Option Addr) (n2 c2 : Nat) (l2 : List Int) (w : World) (h : IL w A n c l) (h2 : IL w A2 n2 c2 l2) (hl : I64 l) (hl2 : I64 l2)
    (hn : n ≤ 50000) (hn2 : n2 ≤ 50000) :
    Calls Try.prog 39 #[.slice A n c, .slice A2 n2 c2] w (RLE w (subR l l2).1 (subR l l2).2) := by
  have h' := (h.alloc (.cells #[.slice A n c] 22)).alloc (.cells #[.slice A2 n2 c2] 22)
  have h2' := (h2.alloc (.cells #[.slice A n c] 22)).alloc (.cells #[.slice A2 n2 c2] 22)
  have hm1 := Lib.hid (fun W hW => may_any A n c l W hW hl)
  have hm2 := Lib.hid (fun W hW => may_any A2 n2 c2 l2 W hW hl2)
  have hb : Below w.heap.size w ((w.alloc (.cells #[.slice A n c] 22)).alloc (.cells #[.slice A2 n2 c2] 22)) := ((Below.refl _ _).alloc (Nat.le_refl _) _).alloc (by simp) _
  cases ha : mayL l
  · have hr : Hid (subR l l2 = ([], 1)) := by unfold Hid subR; rw [ha]; rfl
    rw [ha] at hm1
    clear ha
    go_enter Try.func39, Try.ntmps39
    go_wp2_with (first | (go_at_call 30; refine (hm1.out _ h').mono ?_; rintro e w' ⟨rfl, rfl⟩))
    go_ret2
    exact ⟨_, _, _, by rw [hr.out]; rfl, by rw [hr.out]; exact OL.nil _ _, hb⟩
  · rw [ha] at hm1
    have HA := Lib.hid ha
    clear ha
    cases hb2 : mayL l2
    · have hr : Hid (subR l l2 = ([], 1)) := by unfold Hid subR; rw [HA.out, hb2]; rfl
      rw [hb2] at hm2
      clear hb2
      go_enter Try.func39, Try.ntmps39
      go_wp2_with fail
      refine (hm1.out _ h').mono ?_
      rintro e w' ⟨rfl, rfl⟩
      go_wp2_with fail
      refine (hm2.out _ h2').mono ?_
      rintro e w' ⟨rfl, rfl⟩
      go_wp2_with fail
      go_ret2
      exact ⟨_, _, _, by rw [hr.out]; rfl, by rw [hr.out]; exact OL.nil _ _, hb⟩
    · rw [hb2] at hm2
      have HB2 := Lib.hid hb2
      clear hb2
      have hcv := cmpL_val HA.out HB2.out
      have hcmp := Lib.hid (compare_any A n c l A2 n2 c2 l2 _ h' h2' hl hl2 (by omega) (by omega))
      rw [hcv] at hcmp
      by_cases hlt : val l < val l2
      · have hr : Hid (subR l l2 = ([], 3)) := by unfold Hid subR; rw [HA.out, HB2.out, if_pos (show (true && true) = true from rfl), if_pos hlt]
        have e1 : cmpI (val l) (val l2) = -1 := by unfold cmpI; rw [if_pos hlt]
        rw [e1] at hcmp
        clear e1 hcv hlt
        go_enter Try.func39, Try.ntmps39
        go_wp2_with fail
        refine (hm1.out _ h').mono ?_
        rintro e w' ⟨rfl, rfl⟩
        go_wp2_with fail
        refine (hm2.out _ h2').mono ?_
        rintro e w' ⟨rfl, rfl⟩
        go_wp2_with fail
        refine hcmp.out.mono ?_
        rintro e w3 ⟨rfl, hB3⟩
        go_wp2_with fail
        go_ret2
        exact ⟨_, _, _, by rw [hr.out]; rfl, by rw [hr.out]; exact OL.nil _ _, below_from hb hB3⟩
      · have hr : Hid (subR l l2 = (ofN (val l - val l2).toNat, 0)) := by unfold Hid subR; rw [HA.out, HB2.out, if_pos (show (true && true) = true from rfl), if_neg hlt]
        have e1 : 0 ≤ cmpI (val l) (val l2) := by unfold cmpI; rw [if_neg hlt]; split <;> omega
        have HSUM : Hid (∀ M, n ≤ M → n2 ≤ M → sumTo (fun i => digL l i - digL l2 i) M = val l - val l2) := by
          intro M q1 q2
          rw [sumTo_sub, sumTo_val (by rw [h.len]; exact q1), sumTo_val (by rw [h2.len]; exact q2)]
        have hge : Hid (0 ≤ val l - val l2) := by unfold Hid; omega
        have HF : Hid (∀ i : Nat, -100000 ≤ digL l i - digL l2 i ∧ digL l i - digL l2 i ≤ 100000) := by
          intro i
          have b1 := digL_may HA.out i
          have b2 := digL_may HB2.out i
          omega
        clear hcv hlt
        generalize cmpI (val l) (val l2) = z at *
        have HCL : Hid (∀ (W2 : World), Below ((w.alloc (.cells #[.slice A n c] 22)).alloc (.cells #[.slice A2 n2 c2] 22)).heap.size ((w.alloc (.cells #[.slice A n c] 22)).alloc (.cells #[.slice A2 n2 c2] 22)) W2 → ∀ (i : Nat) (W : World), i < max n n2 → Below W2.heap.size W2 W →
            Calls Try.prog 53 #[.int .i64 (i : Int), .pointer (some ⟨w.heap.size, 0, none⟩), .pointer (some ⟨w.heap.size + 1, 0, none⟩)] W (RQ W (.int .i64 (digL l i - digL l2 i)))) := by
          intro W2 hBW2 i W hi hBW
          have hBB := below_from hBW2 hBW
          refine sub1_any i _ _ A n c l A2 n2 c2 l2 W ?_ ?_ (h'.below hBB) (h2'.below hBB) HA.out HB2.out (by omega)
          · rw [hBB.cell (by simp; omega), World.cell?_alloc_past _ _ _ (by simp), World.cell?_alloc_at _ _ _ _ rfl]; rfl
          · rw [hBB.cell (by simp), World.cell?_alloc_at _ _ _ _ (by simp)]; rfl
        go_enter Try.func39, Try.ntmps39
        go_wp2_with fail
        refine (hm1.out _ h').mono ?_
        rintro e w' ⟨rfl, rfl⟩
        go_wp2_with fail
        refine (hm2.out _ h2').mono ?_
        rintro e w' ⟨rfl, rfl⟩
        go_wp2_with fail
        refine hcmp.out.mono ?_
        rintro e w3 ⟨rfl, hB3⟩
        have c1 : w3.cell? ⟨w.heap.size, 0, none⟩ = some (.slice A n c) := by
          rw [hB3.cell (by simp; omega), World.cell?_alloc_past _ _ _ (by simp), World.cell?_alloc_at _ _ _ _ rfl]; rfl
        have c2' : w3.cell? ⟨w.heap.size + 1, 0, none⟩ = some (.slice A2 n2 c2) := by
          rw [hB3.cell (by simp), World.cell?_alloc_at _ _ _ _ (by simp)]; rfl
        rcases Nat.lt_or_ge n n2 with hmq | hmq
        all_goals
          go_wp2_with fail
          refine (carry_sub _ _ _ (fun i => digL l i - digL l2 i) _ (by omega) (fun i _ => HF.out i) (by rw [HSUM.out _ (by omega) (by omega)]; exact hge.out) (fun i W hi hb => HCL.out _ hB3 i W (by omega) hb)).mono ?_
          rintro e w4 ⟨A4, n4, c4, rfl, hO4, hB4⟩
          rw [HSUM.out _ (by omega) (by omega)] at hO4
          go_wp2_with fail
          go_ret2
          exact ⟨_, _, _, by rw [hr.out]; rfl, by rw [hr.out]; exact hO4.mono (below_from hb hB3).size, below_from (below_from hb hB3) hB4⟩

def timesR (l : List Int) (k : Int) : List Int × Int := if mayL l then (if k < 0 ∨ 1000 < k then ([], 3) else (ofN (k * val l).toNat, 0)) else ([], 1)

end Go.Proofs.Ytaolimhbeoocjaa
