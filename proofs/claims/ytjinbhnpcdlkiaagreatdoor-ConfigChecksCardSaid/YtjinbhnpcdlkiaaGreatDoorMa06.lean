/- The walks of decimals: the trim one, on both sides. No condition. -/
import Derived.Test.YtjinbhnpcdlkiaaGreatDoorMa05
import Derived.Test.YtjinbhnpcdlkiaaGreatDoorMa04
import Derived.Test.YtjinbhnpcdlkiaaGreatDoorMa01
import Derived.RegionTactic
import Derived.BigRegion
namespace Go.Proofs.YtjinbhnpcdlkiaaGreatDoor
open Go.RowKit

def subR (a b : List Int) : List Int × Int := if mayL a && mayL b then (if val a < val b then ([], 3) else (ofN (val a - val b).toNat, 0)) else ([], 1)

set_option maxHeartbeats 1000000 in
theorem sub_any (A : Option Addr) (n c : Nat) (l : List Int) (A2 : Option Addr) (n2 c2 : Nat) (l2 : List Int) (w : World) (h : IL w A n c l) (h2 : IL w A2 n2 c2 l2) (hl : I64 l) (hl2 : I64 l2)
    (hn : n ≤ 50000) (hn2 : n2 ≤ 50000) :
    Calls Tryz.prog 80 #[.slice A n c, .slice A2 n2 c2] w (RLE w (subR l l2).1 (subR l l2).2) := by
  have h' := (h.alloc (.cells #[.slice A n c] 26)).alloc (.cells #[.slice A2 n2 c2] 26)
  have h2' := (h2.alloc (.cells #[.slice A n c] 26)).alloc (.cells #[.slice A2 n2 c2] 26)
  have hm1 := Lib.hid (fun W hW => may_any A n c l W hW hl)
  have hm2 := Lib.hid (fun W hW => may_any A2 n2 c2 l2 W hW hl2)
  have hb : Below w.heap.size w ((w.alloc (.cells #[.slice A n c] 26)).alloc (.cells #[.slice A2 n2 c2] 26)) := ((Below.refl _ _).alloc (Nat.le_refl _) _).alloc (by simp) _
  cases ha : mayL l
  · have hr : Hid (subR l l2 = ([], 1)) := by unfold Hid subR; rw [ha]; rfl
    rw [ha] at hm1
    clear ha
    go_enter Tryz.func80, Tryz.ntmps80
    go_wp2_with (first | (go_at_call 78; refine (hm1.out _ h').mono ?_; rintro e w' ⟨rfl, rfl⟩))
    go_ret2
    exact ⟨_, _, _, by rw [hr.out]; rfl, by rw [hr.out]; exact OL.nil _ _, hb⟩
  · rw [ha] at hm1
    have HA := Lib.hid ha
    clear ha
    cases hb2 : mayL l2
    · have hr : Hid (subR l l2 = ([], 1)) := by unfold Hid subR; rw [HA.out, hb2]; rfl
      rw [hb2] at hm2
      clear hb2
      go_enter Tryz.func80, Tryz.ntmps80
      go_wp2_with fail
      refine (hm1.out _ h').mono ?_
      rintro e w' ⟨rfl, rfl⟩
      go_wp2_with fail
      refine (hm2.out _ h2').mono ?_
      rintro e w' ⟨rfl, rfl⟩
      go_wp2_with fail
      go_ret2
      exact ⟨_, _, _, by rw [hr.out]; rfl, by rw [hr.out]; exact OL.nil _ _, hb⟩
    · rw [hb2] at hm2
      have HB2 := Lib.hid hb2
      clear hb2
      have hcv := cmpL_val HA.out HB2.out
      have hcmp := Lib.hid (compare_any A n c l A2 n2 c2 l2 _ h' h2' hl hl2 (by omega) (by omega))
      rw [hcv] at hcmp
      by_cases hlt : val l < val l2
      · have hr : Hid (subR l l2 = ([], 3)) := by unfold Hid subR; rw [HA.out, HB2.out, if_pos (show (true && true) = true from rfl), if_pos hlt]
        have e1 : cmpI (val l) (val l2) = -1 := by unfold cmpI; rw [if_pos hlt]
        rw [e1] at hcmp
        clear e1 hcv hlt
        go_enter Tryz.func80, Tryz.ntmps80
        go_wp2_with fail
        refine (hm1.out _ h').mono ?_
        rintro e w' ⟨rfl, rfl⟩
        go_wp2_with fail
        refine (hm2.out _ h2').mono ?_
        rintro e w' ⟨rfl, rfl⟩
        go_wp2_with fail
        refine hcmp.out.mono ?_
        rintro e w3 ⟨rfl, hB3⟩
        go_wp2_with fail
        go_ret2
        exact ⟨_, _, _, by rw [hr.out]; rfl, by rw [hr.out]; exact OL.nil _ _, below_from hb hB3⟩
      · have hr : Hid (subR l l2 = (ofN (val l - val l2).toNat, 0)) := by unfold Hid subR; rw [HA.out, HB2.out, if_pos (show (true && true) = true from rfl), if_neg hlt]
        have e1 : 0 ≤ cmpI (val l) (val l2) := by unfold cmpI; rw [if_neg hlt]; split <;> omega
        have HSUM : Hid (∀ M, n ≤ M → n2 ≤ M → sumTo (fun i => digL l i - digL l2 i) M = val l - val l2) := by
          intro M q1 q2
          rw [sumTo_sub, sumTo_val (by rw [h.len]; exact q1), sumTo_val (by rw [h2.len]; exact q2)]
        have hge : Hid (0 ≤ val l - val l2) := by unfold Hid; omega
        have HF : Hid (∀ i : Nat, -100000 ≤ digL l i - digL l2 i ∧ digL l i - digL l2 i ≤ 100000) := by
          intro i
          have b1 := digL_may HA.out i
          have b2 := digL_may HB2.out i
          omega
        clear hcv hlt
        generalize cmpI (val l) (val l2) = z at *
        have HCL : Hid (∀ (W2 : World), Below ((w.alloc (.cells #[.slice A n c] 26)).alloc (.cells #[.slice A2 n2 c2] 26)).heap.size ((w.alloc (.cells #[.slice A n c] 26)).alloc (.cells #[.slice A2 n2 c2] 26)) W2 → ∀ (i : Nat) (W : World), i < max n n2 → Below W2.heap.size W2 W →
            Calls Tryz.prog 92 #[.int .i64 (i : Int), .pointer (some ⟨w.heap.size, 0, none⟩), .pointer (some ⟨w.heap.size + 1, 0, none⟩)] W (RQ W (.int .i64 (digL l i - digL l2 i)))) := by
          intro W2 hBW2 i W hi hBW
          have hBB := below_from hBW2 hBW
          refine sub1_any i _ _ A n c l A2 n2 c2 l2 W ?_ ?_ (h'.below hBB) (h2'.below hBB) HA.out HB2.out (by omega)
          · rw [hBB.cell (by simp; omega), World.cell?_alloc_past _ _ _ (by simp), World.cell?_alloc_at _ _ _ _ rfl]; rfl
          · rw [hBB.cell (by simp), World.cell?_alloc_at _ _ _ _ (by simp)]; rfl
        go_enter Tryz.func80, Tryz.ntmps80
        go_wp2_with fail
        refine (hm1.out _ h').mono ?_
        rintro e w' ⟨rfl, rfl⟩
        go_wp2_with fail
        refine (hm2.out _ h2').mono ?_
        rintro e w' ⟨rfl, rfl⟩
        go_wp2_with fail
        refine hcmp.out.mono ?_
        rintro e w3 ⟨rfl, hB3⟩
        have c1 : w3.cell? ⟨w.heap.size, 0, none⟩ = some (.slice A n c) := by
          rw [hB3.cell (by simp; omega), World.cell?_alloc_past _ _ _ (by simp), World.cell?_alloc_at _ _ _ _ rfl]; rfl
        have c2' : w3.cell? ⟨w.heap.size + 1, 0, none⟩ = some (.slice A2 n2 c2) := by
          rw [hB3.cell (by simp), World.cell?_alloc_at _ _ _ _ (by simp)]; rfl
        rcases Nat.lt_or_ge n n2 with hmq | hmq
        all_goals
          go_wp2_with fail
          refine (carry_sub _ _ _ (fun i => digL l i - digL l2 i) _ (by omega) (fun i _ => HF.out i) (by rw [HSUM.out _ (by omega) (by omega)]; exact hge.out) (fun i W hi hb => HCL.out _ hB3 i W (by omega) hb)).mono ?_
          rintro e w4 ⟨A4, n4, c4, rfl, hO4, hB4⟩
          rw [HSUM.out _ (by omega) (by omega)] at hO4
          go_wp2_with fail
          go_ret2
          exact ⟨_, _, _, by rw [hr.out]; rfl, by rw [hr.out]; exact hO4.mono (below_from hb hB3).size, below_from (below_from hb hB3) hB4⟩

def timesR (l : List Int) (k : Int) : List Int × Int := if mayL l then (if k < 0 ∨ 1000 < k then ([], 3) else (ofN (k * val l).toNat, 0)) else ([], 1)

set_option maxHeartbeats 1000000 in
theorem times_any (A : Option Addr) (n c : Nat) (l : List Int) (k : Int) (w : World) (h : IL w A n c l) (hl : I64 l) (hn : n ≤ 50000) (hk : -9223372036854775808 ≤ k ∧ k ≤ 9223372036854775807) :
    Calls Tryz.prog 79 #[.slice A n c, .int .i64 k] w (RLE w (timesR l k).1 (timesR l k).2) := by
  have h' := (h.alloc (.cells #[.slice A n c] 26)).alloc (.cells #[.int .i64 k] 3)
  have hm1 := Lib.hid (fun W hW => may_any A n c l W hW hl)
  have hb : Below w.heap.size w ((w.alloc (.cells #[.slice A n c] 26)).alloc (.cells #[.int .i64 k] 3)) := ((Below.refl _ _).alloc (Nat.le_refl _) _).alloc (by simp) _
  cases ha : mayL l
  · have hr : Hid (timesR l k = ([], 1)) := by unfold Hid timesR; rw [ha]; rfl
    rw [ha] at hm1
    clear ha
    go_enter Tryz.func79, Tryz.ntmps79
    go_wp2_with (first | (go_at_call 78; refine (hm1.out _ h').mono ?_; rintro e w' ⟨rfl, rfl⟩))
    go_ret2
    exact ⟨_, _, _, by rw [hr.out]; rfl, by rw [hr.out]; exact OL.nil _ _, hb⟩
  · rw [ha] at hm1
    have HA := Lib.hid ha
    clear ha
    by_cases hk0 : k < 0
    · have hr : Hid (timesR l k = ([], 3)) := by unfold Hid timesR; rw [HA.out, if_pos rfl, if_pos (.inl hk0)]
      go_enter Tryz.func79, Tryz.ntmps79
      go_wp2_with (first | (go_at_call 78; refine (hm1.out _ h').mono ?_; rintro e w' ⟨rfl, rfl⟩))
      go_ret2
      exact ⟨_, _, _, by rw [hr.out]; rfl, by rw [hr.out]; exact OL.nil _ _, hb⟩
    · by_cases hk1 : 1000 < k
      · have hr : Hid (timesR l k = ([], 3)) := by unfold Hid timesR; rw [HA.out, if_pos rfl, if_pos (.inr hk1)]
        go_enter Tryz.func79, Tryz.ntmps79
        go_wp2_with (first | (go_at_call 78; refine (hm1.out _ h').mono ?_; rintro e w' ⟨rfl, rfl⟩))
        go_ret2
        exact ⟨_, _, _, by rw [hr.out]; rfl, by rw [hr.out]; exact OL.nil _ _, hb⟩
      · have hr : Hid (timesR l k = (ofN (k * val l).toNat, 0)) := by unfold Hid timesR; rw [HA.out, if_pos rfl, if_neg (by omega)]
        have hv := (val_bd HA.out).1
        have HSUM : Hid (sumTo (fun i => k * digL l i) n = k * val l) := by
          rw [Hid, sumTo_mul, sumTo_val (by rw [h.len]; omega)]
        have hge : Hid (0 ≤ k * val l) := Int.mul_nonneg (by omega) hv
        have HF : Hid (∀ i : Nat, -100000 ≤ k * digL l i ∧ k * digL l i ≤ 100000) := by
          intro i
          have b1 := digL_may HA.out i
          have q1 := Int.mul_nonneg (show 0 ≤ k by omega) b1.1
          have q2 : k * digL l i ≤ 1000 * 9 := Int.mul_le_mul (by omega) b1.2 b1.1 (by omega)
          omega
        clear hv
        have HCL : Hid (∀ (i : Nat) (W : World), i < n → Below ((w.alloc (.cells #[.slice A n c] 26)).alloc (.cells #[.int .i64 k] 3)).heap.size ((w.alloc (.cells #[.slice A n c] 26)).alloc (.cells #[.int .i64 k] 3)) W →
            Calls Tryz.prog 91 #[.int .i64 (i : Int), .pointer (some ⟨w.heap.size + 1, 0, none⟩), .pointer (some ⟨w.heap.size, 0, none⟩)] W (RQ W (.int .i64 (k * digL l i)))) := by
          intro i W hi hBW
          refine times1_any i k _ _ A n c l W ?_ ?_ (h'.below hBW) HA.out (by omega) (by omega) (by omega)
          · rw [hBW.cell (by simp), World.cell?_alloc_at _ _ _ _ (by simp)]; rfl
          · rw [hBW.cell (by simp; omega), World.cell?_alloc_past _ _ _ (by simp), World.cell?_alloc_at _ _ _ _ rfl]; rfl
        go_enter Tryz.func79, Tryz.ntmps79
        go_wp2_with fail
        refine (hm1.out _ h').mono ?_
        rintro e w' ⟨rfl, rfl⟩
        go_wp2_with fail
        refine (carry_times _ _ _ (fun i => k * digL l i) _ (by omega) (fun i _ => HF.out i) (by rw [HSUM.out]; exact hge.out) HCL.out).mono ?_
        rintro e w4 ⟨A4, n4, c4, rfl, hO4, hB4⟩
        rw [HSUM.out] at hO4
        go_wp2_with fail
        go_ret2
        exact ⟨_, _, _, by rw [hr.out]; rfl, by rw [hr.out]; exact hO4.mono hb.size, below_from hb hB4⟩

theorem odd_any (A : Option Addr) (n c : Nat) (l : List Int) (w : World) (h : IL w A n c l) (hm : mayL l = true) :
    Calls Tryz.prog 76 #[.slice A n c] w fun e w' => e = .returned (.bool (digL l 0 % 2 == 1)) ∧ w = w' := by
  have f1 := Lib.hid (from_any A n c 0 l w h (by omega))
  have b1 := digL_may hm 0
  generalize digL l 0 = x at *
  go_enter Tryz.func76, Tryz.ntmps76
  go_wp2_with (first | (go_at_call 86; refine f1.out.mono ?_; rintro e w' ⟨rfl, rfl⟩))
  go_ret
  exact ⟨rfl, rfl⟩

end Go.Proofs.YtjinbhnpcdlkiaaGreatDoor


namespace Go.Proofs.YtjinbhnpcdlkiaaGreatDoor
open Go.RowKit

/-- From here on the lists are the same. -/
theorem eq_from {a b : List Int} {k : Nat} (ha : k < a.length) (hb : k < b.length) : (a.drop k == b.drop k) = ((a.getD k 0 == b.getD k 0) && (a.drop (k + 1) == b.drop (k + 1))) := by
  simp only [List.getD, List.getElem?_eq_getElem ha, List.getElem?_eq_getElem hb, Option.getD_some]
  rw [List.drop_eq_getElem_cons ha, List.drop_eq_getElem_cons hb]
  rfl

set_option maxHeartbeats 400000 in
theorem same_any (A : Option Addr) (n c : Nat) (l : List Int) (A2 : Option Addr) (n2 c2 : Nat) (l2 : List Int) (w : World) (h : IL w A n c l) (h2 : IL w A2 n2 c2 l2) :
    Calls Tryz.prog 51 #[.slice A n c, .slice A2 n2 c2] w (RQ w (.bool (l == l2))) := by
  have hle := h.le
  have hcap := h.cap
  have hle2 := h2.le
  have hcap2 := h2.cap
  have hlen := Lib.hid h.len
  have hlen2 := Lib.hid h2.len
  by_cases hn : n = n2
  · subst hn
    go_enter Tryz.func51, Tryz.ntmps51
    go_wp2
    go_loopw [5] (fun i wr => ∃ k j : Nat, k ≤ n ∧ i = .int .i64 k ∧ Hid ((l == l2) = (l.drop k == l2.drop k)) ∧ wr = w.drewN j) (fun i _ => n - (intOf i).toNat)
    case atStart => exact ⟨0, 0, Nat.zero_le _, rfl, rfl, rfl⟩
    case round =>
      obtain ⟨k, j, hk, rfl, hI, rfl⟩ := hrel
      by_cases hlt : k < n
      · obtain ⟨b, off, rfl, hc⟩ := h.at_ hlt
        obtain ⟨b2, off2, rfl, hc2⟩ := h2.at_ hlt
        have hst := Lib.hid (eq_from (a := l) (b := l2) (k := k) (by rw [hlen.out]; exact hlt) (by rw [hlen2.out]; exact hlt))
        generalize l.getD k 0 = x at *
        generalize l2.getD k 0 = y at *
        have hlt' : (k : Int) < (n : Int) := by omega
        have hk0 : (0 : Int) ≤ (k : Int) := by omega
        by_cases hxy : x = y
        · have hxx : Hid ((x == y) = true) := by simpa [Hid] using hxy
          have hne : (x != y) = false := by simpa using hxy
          clear hxy
          go_wp2
          go_quiet (fail)
          go_wp2
          go_roundw
          case rel => exact ⟨k + 1, _, by omega, by go_num, by rw [Hid, hI.out, hst.out, hxx.out]; rfl, by first | rfl | exact World.drewN_drewN _ _ _⟩
          case measure => simp [intOf]; omega
        · have hxx : Hid ((x == y) = false) := by simpa [Hid] using hxy
          have hne : (x != y) = true := by simpa using hxy
          clear hxy
          go_wp2
          go_quiet (fail)
          go_wp2
          go_ret
          exact ⟨ret_bool (by rw [hI.out, hst.out, hxx.out]; rfl), _, by first | rfl | exact World.drewN_drewN _ _ _⟩
      · have hkn : k = n := by omega
        subst hkn
        go_wp2
        go_ret
        exact ⟨ret_bool (by rw [hI.out, List.drop_of_length_le (by rw [hlen.out]; omega), List.drop_of_length_le (by rw [hlen2.out]; omega)]; rfl), j, rfl⟩
  · have e1 : (l == l2) = false := by
      rw [beq_eq_false_iff_ne]
      intro he
      exact hn (by rw [← hlen.out, ← hlen2.out, he])
    have E1 := Lib.hid e1
    clear e1
    go_enter Tryz.func51, Tryz.ntmps51
    go_wp2
    go_ret
    exact ⟨ret_bool (by rw [E1.out]), 0, rfl⟩

theorem trimL_from {l : List Int} {k : Nat} (h : k < l.length) (h0 : l.getD k 0 = 0) : trimL (l.drop k) = trimL (l.drop (k + 1)) := by
  rw [List.drop_eq_getElem_cons h]
  have : l[k] = 0 := by simpa [List.getD, List.getElem?_eq_getElem h] using h0
  rw [this, trimL_cons_zero]
theorem trimL_stop {l : List Int} {k : Nat} (h : k < l.length) (h0 : l.getD k 0 ≠ 0) : trimL (l.drop k) = l.drop k := by
  rw [List.drop_eq_getElem_cons h]
  exact trimL_cons_ne (by simpa [List.getD, List.getElem?_eq_getElem h] using h0) _

set_option maxHeartbeats 400000 in
theorem rtrim_any (A : Option Addr) (n c : Nat) (l : List Int) (w : World) (h : IL w A n c l) (hn : n ≤ 100000000) :
    Calls Tryz.prog 46 #[.slice A n c] w (RO w (trimL l)) := by
  have hle := h.le
  have hcap := h.cap
  have hlen := Lib.hid h.len
  go_enter Tryz.func46, Tryz.ntmps46
  go_wp2
  go_loop [3] (fun i => ∃ k : Nat, k ≤ n ∧ i = .int .i64 k ∧ Hid (trimL l = trimL (l.drop k))) (fun i => n - (intOf i).toNat)
  case atStart => exact ⟨0, Nat.zero_le _, rfl, rfl⟩
  case round =>
    obtain ⟨k, hk, rfl, hI⟩ := hrel
    by_cases hlt : k < n
    · obtain ⟨b, off, rfl, hc⟩ := h.at_ hlt
      by_cases hx : l.getD k 0 = 0
      · have hst := Lib.hid (trimL_from (by rw [hlen.out]; exact hlt) hx)
        rw [hx] at hc
        clear hx
        go_wp2
        go_round
        case rel => exact ⟨k + 1, by omega, by go_num, by rw [Hid, hI.out, hst.out]⟩
        case measure => simp [intOf]; omega
      · have hst := Lib.hid (trimL_stop (by rw [hlen.out]; exact hlt) hx)
        generalize l.getD k 0 = x at *
        have hxx : (x == 0) = false := by simpa using hx
        go_wp2_with (first
          | (at_builtin; refine wpList_append_OL w.heap.size rfl _ _ rfl rfl rfl (OL.nil _ _) (h.drop hk _ (by intro hkn; first | (exfalso; omega) | rfl | exact if_neg (by omega) | simp [Addr.add_lit])) (Nat.le_refl _) (by omega) ?_; intro A2 c2 w2 hO2 hB2 _))
        go_ret
        exact ⟨_, _, _, rfl, by rw [hI.out, hst.out]; simpa using hO2, hB2⟩
    · have hkn : k = n := by omega
      subst hkn
      have hend : Hid (trimL (l.drop k) = []) := by rw [Hid, List.drop_of_length_le (by rw [hlen.out]; omega)]; rfl
      go_wp2_with (first
        | (at_builtin; refine wpList_append_OL w.heap.size rfl _ _ rfl rfl rfl (OL.nil _ _) (IL.empty _ _ _ (by omega)) (Nat.le_refl _) (by omega) ?_; intro A2 c2 w2 hO2 hB2 _))
      all_goals
        go_ret
        exact ⟨_, _, _, rfl, by rw [hI.out, hend.out]; simpa using hO2, hB2⟩

theorem mayL_from {l : List Int} {k : Nat} (h : k < l.length) : mayL (l.drop k) = (isDig (l.getD k 0) && mayL (l.drop (k + 1))) := by
  simp only [List.getD, List.getElem?_eq_getElem h, Option.getD_some]
  rw [List.drop_eq_getElem_cons h, mayL_cons]

set_option maxHeartbeats 400000 in
theorem rmay_any (A : Option Addr) (n c : Nat) (l : List Int) (w : World) (h : IL w A n c l) :
    Calls Tryz.prog 59 #[.slice A n c] w fun e w' => e = .returned (.bool (mayL l)) ∧ w = w' := by
  have hle := h.le
  have hcap := h.cap
  have hlen := Lib.hid h.len
  go_enter Tryz.func59, Tryz.ntmps59
  go_wp2
  go_loop [3] (fun i => ∃ k : Nat, k ≤ n ∧ i = .int .i64 k ∧ Hid (mayL l = mayL (l.drop k))) (fun i => n - (intOf i).toNat)
  case atStart => exact ⟨0, Nat.zero_le _, rfl, rfl⟩
  case round =>
    obtain ⟨k, hk, rfl, hI⟩ := hrel
    by_cases hlt : k < n
    · obtain ⟨b, off, rfl, hc⟩ := h.at_ hlt
      have hst := Lib.hid (mayL_from (l := l) (k := k) (by rw [hlen.out]; exact hlt))
      generalize l.getD k 0 = x at *
      by_cases h0 : x < 0
      · have hd : Hid (isDig x = false) := by simp [Hid, isDig]; omega
        go_wp2
        go_ret
        exact ⟨ret_bool (by rw [hI.out, hst.out, hd.out]; rfl), rfl⟩
      · by_cases h9 : 9 < x
        · have hd : Hid (isDig x = false) := by simp [Hid, isDig]; omega
          go_wp2
          go_ret
          exact ⟨ret_bool (by rw [hI.out, hst.out, hd.out]; rfl), rfl⟩
        · have hd : Hid (isDig x = true) := by simp [Hid, isDig]; omega
          go_wp2
          go_round
          case rel => exact ⟨k + 1, by omega, by go_num, by rw [Hid, hI.out, hst.out, hd.out]; rfl⟩
          case measure => simp [intOf]; omega
    · have hkn : k = n := by omega
      subst hkn
      go_wp2
      go_ret
      exact ⟨ret_bool (by rw [hI.out, List.drop_of_length_le (by rw [hlen.out]; omega)]; rfl), rfl⟩

end Go.Proofs.YtjinbhnpcdlkiaaGreatDoor


namespace Go.Proofs.YtjinbhnpcdlkiaaGreatDoor
open Go.RowKit

/-- What a call hands back that makes a decimal; its digits lie in memory of its own. -/
def RC (w : World) (d : Dc) (e : Ending) (w' : World) : Prop :=
  ∃ A n c, e = .returned (.agg #[.bool d.neg, .slice A n c, .int .i64 d.s]) ∧ IL w' A n c d.l ∧ Below w.heap.size w w' ∧ (0 < n → ∀ a, A = some a → w.heap.size ≤ a.block)
def RCE (w : World) (d : Dc) (code : Int) (e : Ending) (w' : World) : Prop :=
  ∃ A n c, e = .returned (.tuple #[.agg #[.bool d.neg, .slice A n c, .int .i64 d.s], .int .i64 code]) ∧ IL w' A n c d.l ∧ Below w.heap.size w w' ∧ (0 < n → ∀ a, A = some a → w.heap.size ≤ a.block)

theorem none_new (B : Nat) : 0 < 0 → ∀ a : Addr, none = some a → B ≤ a.block := fun h => absurd h (by omega)
theorem stripZ_stop {k : Nat} {l : List Int} (h : k = 0 ∨ l.getLast? ≠ some 0) : stripZ k l = (l, k) := by
  cases k with
  | zero => rfl
  | succ k =>
    rcases h with h | h
    · omega
    · simp only [stripZ]; rw [if_neg h]
theorem stripZ_go {k : Nat} {l : List Int} (h : l.getLast? = some 0) : stripZ (k + 1) l = stripZ k l.dropLast := by
  simp only [stripZ]; rw [if_pos h]
theorem stripZ_ne {s : Nat} {l : List Int} (h : headed l) (hn : l ≠ []) : (stripZ s l).1 ≠ [] := by
  induction s generalizing l with
  | zero => exact hn
  | succ s ih =>
    simp only [stripZ]
    split
    · next hl =>
      rcases snoc_or l with rfl | ⟨r, d, rfl⟩
      · exact absurd rfl hn
      · simp at hl
        subst hl
        simp only [List.dropLast_concat]
        refine ih (headed_snoc h) ?_
        intro hr
        subst hr
        exact h 0 [] rfl rfl
    · exact hn
theorem last_getD {l : List Int} {n : Nat} (h : l.length = n) (hn : 0 < n) : l.getLast? = some (l.getD (n - 1) 0) := by
  subst h
  rw [List.getLast?_eq_getElem?, List.getD]
  rw [List.getElem?_eq_getElem (show l.length - 1 < l.length by omega)]
  rfl
theorem dropLast_take {l : List Int} {n : Nat} (h : l.length = n) : l.dropLast = l.take (n - 1) := by
  subst h; exact List.dropLast_eq_take
theorem trimDc_eq (b : Bool) (l : List Int) (s : Nat) : trimDc ⟨b, l, s⟩ = if trimL l = [] then Dc.zero else ⟨b, (stripZ s (trimL l)).1, (stripZ s (trimL l)).2⟩ := rfl

theorem IL.set3 {W : World} {A : Option Addr} {n c : Nat} {l : List Int} (h : IL W A n c l) {g : Nat} (hp : 0 < n → ∀ a, A = some a → a.block ≠ g) (u0 u1 u2 : Value) :
    IL (((W.setCell ⟨g, 0, none⟩ u0).setCell ⟨g, 1, none⟩ u1).setCell ⟨g, 2, none⟩ u2) A n c l :=
  ((h.set_ (p := ⟨g, 0, none⟩) hp _).set_ (p := ⟨g, 1, none⟩) hp _).set_ (p := ⟨g, 2, none⟩) hp _
theorem below_set3 {w0 W : World} {B : Nat} (h : Below B w0 W) {g : Nat} (hg : B ≤ g) (u0 u1 u2 : Value) :
    Below B w0 (((W.setCell ⟨g, 0, none⟩ u0).setCell ⟨g, 1, none⟩ u1).setCell ⟨g, 2, none⟩ u2) :=
  ((h.setCell (p := ⟨g, 0, none⟩) hg _).setCell (p := ⟨g, 1, none⟩) hg _).setCell (p := ⟨g, 2, none⟩) hg _
theorem Blk.store3 {w0 W : World} {g : Nat} {t : TypeId} {a b c : Value} (h : Blk w0 g t #[a, b, c] W) (u0 u1 u2 : Value) :
    Blk w0 g t #[u0, u1, u2] (((W.setCell ⟨g, 0, none⟩ u0).setCell ⟨g, 1, none⟩ u1).setCell ⟨g, 2, none⟩ u2) := ((h.set_ 0 u0).set_ 1 u1).set_ 2 u2
theorem Blk.cells3 {w0 W : World} {g : Nat} {t : TypeId} {a b c : Value} (h : Blk w0 g t #[a, b, c] W) :
    (W.cell? ⟨g, 0, none⟩ = some a ∧ W.cell? ⟨g, 1, none⟩ = some b ∧ W.cell? ⟨g, 2, none⟩ = some c) ∧ (W.frozen? ⟨g, 0, none⟩ = false ∧ W.frozen? ⟨g, 1, none⟩ = false ∧ W.frozen? ⟨g, 2, none⟩ = false) :=
  ⟨⟨h.cell 0, h.cell 1, h.cell 2⟩, h.free 0, h.free 1, h.free 2⟩
theorem I64.drop_ {a : List Int} (ha : I64 a) (k : Nat) : I64 (a.drop k) := fun x hx => ha x (List.mem_of_mem_drop hx)
theorem I64.take_ {a : List Int} (ha : I64 a) (k : Nat) : I64 (a.take k) := fun x hx => ha x (List.mem_of_mem_take hx)

set_option maxHeartbeats 1000000 in
theorem dtrim_any {A : Option Addr} {n c : Nat} {l : List Int} (b : Bool) (s : Int) (w : World) (h : IL w A n c l) (hl : I64 l) (hn : n ≤ 100000000) (hs0 : 0 ≤ s) (hs : s ≤ 1000000) :
    Calls Tryz.prog 42 #[.agg #[.bool b, .slice A n c, .int .i64 s]] w (RC w (trimDc ⟨b, l, s⟩)) := by
  obtain ⟨s', rfl⟩ := Int.eq_ofNat_of_zero_le hs0
  have ht := Lib.hid (fun W hW => trim_any A n c l W hW hl hn)
  have hD := trimDc_eq b l s'
  generalize trimDc ⟨b, l, (s' : Int)⟩ = D at *
  have hhd := headed_trim l
  have htl : (trimL l).length ≤ l.length := by rw [trimL_len]; omega
  have hti : I64 (trimL l) := by rw [trimL_drop]; exact hl.drop_ _
  have hln := h.len
  generalize trimL l = t at *
  have HD := Lib.hid hD
  clear hD
  go_enter Tryz.func42, Tryz.ntmps42
  go_wp2_with fail
  refine (ht.out _ ((h.alloc _).alloc _)).mono ?_
  rintro e w1 ⟨A1, n1, c1, rfl, hO, hB⟩
  have hX : Blk w w.heap.size 36 #[.bool b, .slice A n c, .int .i64 (s' : Int)] w1 := ((Blk.made w w _ _ (Later.refl w) _ rfl).alloc _).call hB
  have hR : Blk w (w.heap.size + 1) 36 #[.bool false, .slice none 0 0, .int .i64 0] w1 := (Blk.made w _ _ _ ((Later.refl w).alloc _) _ (by simp)).call hB
  have hn1 : n1 ≤ 100000000 := by have := hO.len; omega
  have hc1 := hO.il.cap
  have hle1 := hO.il.le
  have hne1 : 0 < n1 → ∀ a, A1 = some a → w.heap.size + 2 ≤ a.block := fun hz a ha => by
    obtain ⟨a', ha', hb'⟩ := hO.new hz
    subst ha
    obtain rfl := Option.some.inj ha'
    simpa using hb'
  have hI1 := hO.il
  clear hO hB ht
  go_wp2_with fail
  go_loopw [3] (fun v wr => ∃ (k n' : Nat) (l' : List Int), v = .slice A1 n' c1 ∧ n' ≤ n1 ∧ k ≤ s' ∧ IL wr A1 n' c1 l' ∧ Blk w w.heap.size 36 #[.bool b, .slice A n c, .int .i64 (k : Int)] wr ∧ Blk w (w.heap.size + 1) 36 #[.bool false, .slice none 0 0, .int .i64 0] wr ∧ Hid (stripZ s' t = stripZ k l'))
    (fun v _ => match v with | .slice _ n _ => n | _ => 0)
  case atStart => exact ⟨s', n1, t, rfl, Nat.le_refl _, Nat.le_refl _, hI1, hX, hR, rfl⟩
  case round =>
    obtain ⟨k, n', l', rfl, hn', hk, hI, hX, hR, hS⟩ := hrel
    obtain ⟨⟨q0, q1, q2⟩, ⟨f0, f1, f2⟩⟩ := hX.cells3
    obtain ⟨⟨r0, r1, r2⟩, ⟨g0, g1, g2⟩⟩ := hR.cells3
    have HX := Lib.hid hX
    have HR := Lib.hid hR
    have hlen' := Lib.hid hI.len
    clear hX hR
    by_cases hrd : 0 < k ∧ 0 < n' ∧ l'.getD (n' - 1) 0 = 0
    · obtain ⟨hk0, hn0, hl0⟩ := hrd
      obtain ⟨bb, off, rfl, hc⟩ := hI.at_ (k := n' - 1) (by omega)
      rw [hl0] at hc
      have hgo : Hid (stripZ k l' = stripZ (k - 1) (l'.take (n' - 1))) := by
        obtain ⟨k', rfl⟩ : ∃ k', k = k' + 1 := ⟨k - 1, by omega⟩
        rw [Hid, stripZ_go (by rw [last_getD hlen'.out hn0, hl0]), dropLast_take hlen'.out]; rfl
      have hI2 := hI.take (k := n' - 1) (c' := c1) (by omega) (by omega) (Nat.le_refl _) (some ⟨bb, off, none⟩) (fun _ => rfl)
      have hbk : bb ≠ w.heap.size := by have := hne1 (by omega) _ rfl; simp at this; omega
      clear hl0
      have hwr : IntKind.i64.wrap ((k : Int) - 1) = (k : Int) - 1 := IntWalk.i64_in _ (by omega)
      go_wp2
      go_region
      all_goals
        go_wp2
        go_roundw
        case rel =>
          have hX2 := HX.out.drew.set_ 2 (.int .i64 ((k : Int) - 1))
          have hI3 := (hI2.drew).set_ (p := ⟨w.heap.size, 2, none⟩) (fun _ a ha => by obtain rfl := Option.some.inj ha; exact hbk) (.int .i64 ((k : Int) - 1))
          have hR2 := HR.out.drew.far (p := ⟨w.heap.size, 2, none⟩) (by simp) (Nat.le_refl _) (.int .i64 ((k : Int) - 1))
          have ek : ((k : Int) - 1) = ((k - 1 : Nat) : Int) := by omega
          exact ⟨k - 1, n' - 1, _, rfl, by omega, by omega, hI3, by rw [← ek]; exact hX2, hR2, by rw [Hid, hS.out, hgo.out]⟩
        case measure => simp; omega
    · have hst : stripZ s' t = (l', k) := by
        rw [hS.out]
        refine stripZ_stop ?_
        rcases Nat.eq_zero_or_pos k with hk0 | hk0
        · exact .inl hk0
        · right
          rcases Nat.eq_zero_or_pos n' with hn0 | hn0
          · rw [List.eq_nil_of_length_eq_zero (hlen'.out.trans hn0)]; simp
          · rw [last_getD hlen'.out hn0]
            intro hh
            exact hrd ⟨hk0, hn0, Option.some.inj hh⟩
      have hap : ∀ g, g < w.heap.size + 2 → 0 < n' → ∀ a, A1 = some a → a.block ≠ g := fun g hg hz a ha => by have := hne1 (by omega) a ha; omega
      have hnew : 0 < n' → ∀ a, A1 = some a → w.heap.size ≤ a.block := fun hz a ha => by have := hne1 (by omega) a ha; omega
      have hbw := HX.out.later
      rcases Nat.eq_zero_or_pos n' with hn0 | hn0
      · have hl0 : l' = [] := List.eq_nil_of_length_eq_zero (hlen'.out.trans hn0)
        have ht0 : t = [] := by
          rcases Classical.em (t = []) with q | q
          · exact q
          · have := stripZ_ne (s := s') hhd q
            rw [hst] at this
            exact absurd hl0 this
        have HD2 : Hid (D = Dc.zero) := by rw [Hid, HD.out, if_pos ht0]
        subst hn0
        clear hst hl0 ht0 hrd
        rcases Nat.eq_zero_or_pos k with hk0 | hk0
        · subst hk0
          go_wp2
          rw [HD2.out]
          obtain ⟨⟨z0, z1, z2⟩, _⟩ := (HR.out.store3 (.bool false) (.slice none 0 0) (.int .i64 0)).cells3
          exact bodyPost_ret (v := .agg #[.bool false, .slice none 0 0, .int .i64 0]) (by generalize World.setCell (World.setCell (World.setCell _ _ _) _ _) _ _ = W3 at z0 z1 z2 ⊢; simp [results, Tryz.results42, go_sem, z0, z1, z2]) rfl
            ⟨none, 0, 0, rfl, IL.nil _, below_set3 hbw (Nat.le_succ _) _ _ _, none_new _⟩
        · go_wp2
          rw [HD2.out]
          obtain ⟨⟨z0, z1, z2⟩, _⟩ := (HR.out.store3 (.bool false) (.slice none 0 0) (.int .i64 0)).cells3
          exact bodyPost_ret (v := .agg #[.bool false, .slice none 0 0, .int .i64 0]) (by generalize World.setCell (World.setCell (World.setCell _ _ _) _ _) _ _ = W3 at z0 z1 z2 ⊢; simp [results, Tryz.results42, go_sem, z0, z1, z2]) rfl
            ⟨none, 0, 0, rfl, IL.nil _, below_set3 hbw (Nat.le_succ _) _ _ _, none_new _⟩
      · have ht0 : t ≠ [] := by
          intro q
          have e : ∀ j, (stripZ j ([] : List Int)).1 = [] := fun j => by cases j <;> rfl
          have h1 := e s'
          rw [← q, hst] at h1
          have h2 := hlen'.out
          have h3 : l' = [] := h1.trans q
          rw [h3] at h2
          simp at h2; omega
        have HD2 : Hid (D = ⟨b, l', (k : Int)⟩) := by rw [Hid, HD.out, if_neg ht0, hst]
        clear hst ht0
        rcases Nat.eq_zero_or_pos k with hk0 | hk0
        · subst hk0
          clear hrd
          go_wp2
          rw [HD2.out]
          obtain ⟨⟨z0, z1, z2⟩, _⟩ := (HR.out.store3 (.bool b) (.slice A1 n' c1) (.int .i64 0)).cells3
          exact bodyPost_ret (v := .agg #[.bool b, .slice A1 n' c1, .int .i64 0]) (by generalize World.setCell (World.setCell (World.setCell _ _ _) _ _) _ _ = W3 at z0 z1 z2 ⊢; simp [results, Tryz.results42, go_sem, z0, z1, z2]) rfl
            ⟨A1, n', c1, rfl, hI.set3 (hap _ (by omega)) _ _ _, below_set3 hbw (Nat.le_succ _) _ _ _, hnew⟩
        · obtain ⟨bb, off, rfl, hc⟩ := hI.at_ (k := n' - 1) (by omega)
          have hl0 : l'.getD (n' - 1) 0 ≠ 0 := fun q => hrd ⟨hk0, hn0, q⟩
          generalize l'.getD (n' - 1) 0 = y at *
          have hy : (y == 0) = false := by simpa using hl0
          have hy2 : decide (y = 0) = false := by simpa using hl0
          clear hrd hl0
          go_wp2
          rw [HD2.out]
          obtain ⟨⟨z0, z1, z2⟩, _⟩ := (HR.out.store3 (.bool b) (.slice (some ⟨bb, off, none⟩) n' c1) (.int .i64 k)).cells3
          exact bodyPost_ret (v := .agg #[.bool b, .slice (some ⟨bb, off, none⟩) n' c1, .int .i64 k]) (by generalize World.setCell (World.setCell (World.setCell _ _ _) _ _) _ _ = W3 at z0 z1 z2 ⊢; simp [results, Tryz.results42, go_sem, z0, z1, z2]) rfl
            ⟨_, n', c1, rfl, hI.set3 (hap _ (by omega)) _ _ _, below_set3 hbw (Nat.le_succ _) _ _ _, hnew⟩

set_option maxHeartbeats 1000000 in
theorem rdtrim_any {A : Option Addr} {n c : Nat} {l : List Int} (b : Bool) (s : Int) (w : World) (h : IL w A n c l) (hl : I64 l) (hn : n ≤ 100000000) (hs0 : 0 ≤ s) (hs : s ≤ 1000000) :
    Calls Tryz.prog 27 #[.agg #[.bool b, .slice A n c, .int .i64 s]] w (RC w (trimDc ⟨b, l, s⟩)) := by
  obtain ⟨s', rfl⟩ := Int.eq_ofNat_of_zero_le hs0
  have ht := Lib.hid (fun W hW => rtrim_any A n c l W hW hn)
  have hD := trimDc_eq b l s'
  generalize trimDc ⟨b, l, (s' : Int)⟩ = D at *
  have hhd := headed_trim l
  have htl : (trimL l).length ≤ l.length := by rw [trimL_len]; omega
  have hti : I64 (trimL l) := by rw [trimL_drop]; exact hl.drop_ _
  have hln := h.len
  generalize trimL l = t at *
  have HD := Lib.hid hD
  clear hD
  go_enter Tryz.func27, Tryz.ntmps27
  go_wp2_with fail
  refine (ht.out _ ((h.alloc _).alloc _)).mono ?_
  rintro e w1 ⟨A1, n1, c1, rfl, hO, hB⟩
  have hX : Blk w w.heap.size 28 #[.bool b, .slice A n c, .int .i64 (s' : Int)] w1 := ((Blk.made w w _ _ (Later.refl w) _ rfl).alloc _).call hB
  have hR : Blk w (w.heap.size + 1) 28 #[.bool false, .slice none 0 0, .int .i64 0] w1 := (Blk.made w _ _ _ ((Later.refl w).alloc _) _ (by simp)).call hB
  have hlen1 := hO.len
  have hn1 : n1 ≤ 100000000 := by omega
  have hc1 := hO.il.cap
  have hle1 := hO.il.le
  have hne1 : 0 < n1 → ∀ a, A1 = some a → w.heap.size + 2 ≤ a.block := fun hz a ha => by
    obtain ⟨a', ha', hb'⟩ := hO.new hz
    subst ha
    obtain rfl := Option.some.inj ha'
    simpa using hb'
  have hI1 := hO.il
  obtain ⟨⟨q0, q1, q2⟩, ⟨f0, f1, f2⟩⟩ := hX.cells3
  obtain ⟨⟨r0, r1, r2⟩, ⟨g0, g1, g2⟩⟩ := hR.cells3
  have HX := Lib.hid hX
  have HR := Lib.hid hR
  have hbw := hX.later
  clear hX hR hO hB ht
  rcases Nat.eq_zero_or_pos n1 with hz | hz
  · have HD2 : Hid (D = Dc.zero) := by rw [Hid, HD.out, if_pos (List.eq_nil_of_length_eq_zero (hlen1.trans hz))]
    subst hz
    clear hlen1
    go_wp2
    rw [HD2.out]
    obtain ⟨⟨z0, z1, z2⟩, _⟩ := (HR.out.store3 (.bool false) (.slice none 0 0) (.int .i64 0)).cells3
    exact bodyPost_ret (v := .agg #[.bool false, .slice none 0 0, .int .i64 0]) (by generalize World.setCell (World.setCell (World.setCell _ _ _) _ _) _ _ = W3 at z0 z1 z2 ⊢; simp [results, Tryz.results27, go_sem, z0, z1, z2]) rfl
      ⟨none, 0, 0, rfl, IL.nil _, below_set3 hbw (Nat.le_succ _) _ _ _, none_new _⟩
  · have htn : t ≠ [] := fun q => by rw [q] at hlen1; simp at hlen1; omega
    have HD2 : Hid (D = ⟨b, (stripZ s' t).1, (stripZ s' t).2⟩) := by rw [Hid, HD.out, if_neg htn]
    have hns := fun k => stripZ_ne (s := k) hhd htn
    clear hlen1 hhd
    go_wp2
    go_loop [3, 4] (fun v x => ∃ (k n' : Nat) (l' : List Int), v = .slice A1 n' c1 ∧ x = .int .i64 k ∧ 0 < n' ∧ n' ≤ n1 ∧ k ≤ s' ∧ IL w1 A1 n' c1 l' ∧ Hid (stripZ s' t = stripZ k l'))
      (fun _ x => (intOf x).toNat)
    case atStart => exact ⟨s', n1, t, rfl, rfl, hz, Nat.le_refl _, Nat.le_refl _, hI1, rfl⟩
    case round =>
      obtain ⟨k, n', l', rfl, rfl, hn0, hn', hk, hI, hS⟩ := hrel
      have hlen' := Lib.hid hI.len
      have hap : ∀ g, g < w.heap.size + 2 → 0 < n' → ∀ a, A1 = some a → a.block ≠ g := fun g hg hz a ha => by have := hne1 (by omega) a ha; omega
      have hnew : 0 < n' → ∀ a, A1 = some a → w.heap.size ≤ a.block := fun hz a ha => by have := hne1 (by omega) a ha; omega
      have hwm : (if (n' : Int) - 1 < 0 then (0 : Int) else (n' : Int) - 1) = (n' : Int) - 1 := if_neg (by omega)
      rcases Nat.eq_zero_or_pos k with hk0 | hk0
      · subst hk0
        have HD3 : Hid (D = ⟨b, l', 0⟩) := by rw [Hid, HD2.out, hS.out]; rfl
        go_wp2
        rw [HD3.out]
        obtain ⟨⟨z0, z1, z2⟩, _⟩ := (HR.out.store3 (.bool b) (.slice A1 n' c1) (.int .i64 0)).cells3
        exact bodyPost_ret (v := .agg #[.bool b, .slice A1 n' c1, .int .i64 0]) (by generalize World.setCell (World.setCell (World.setCell _ _ _) _ _) _ _ = W3 at z0 z1 z2 ⊢; simp [results, Tryz.results27, go_sem, z0, z1, z2]) rfl
          ⟨A1, n', c1, rfl, hI.set3 (hap _ (by omega)) _ _ _, below_set3 hbw (Nat.le_succ _) _ _ _, hnew⟩
      · obtain ⟨bb, off, rfl, hc⟩ := hI.at_ (k := n' - 1) (by omega)
        by_cases hl0 : l'.getD (n' - 1) 0 = 0
        · have hgo : Hid (stripZ k l' = stripZ (k - 1) (l'.take (n' - 1))) := by
            obtain ⟨k', rfl⟩ : ∃ k', k = k' + 1 := ⟨k - 1, by omega⟩
            rw [Hid, stripZ_go (by rw [last_getD hlen'.out hn0, hl0]), dropLast_take hlen'.out]; rfl
          have hI2 := hI.take (k := n' - 1) (c' := c1) (by omega) (by omega) (Nat.le_refl _) (some ⟨bb, off, none⟩) (fun _ => rfl)
          have hn1' : 0 < n' - 1 := by
            rcases Nat.eq_zero_or_pos (n' - 1) with q | q
            · exfalso
              refine hns s' ?_
              have e : ∀ j, (stripZ j ([] : List Int)).1 = [] := fun j => by cases j <;> rfl
              have h1 : l'.take (n' - 1) = [] := by rw [q]; rfl
              rw [hS.out, hgo.out, h1, e]
            · exact q
          rw [hl0] at hc
          clear hl0 hns
          go_wp2
          go_round
          case rel => exact ⟨k - 1, n' - 1, _, rfl, by first | rfl | (congr 1; omega), hn1', by omega, by omega, hI2, by rw [Hid, hS.out, hgo.out]⟩
          case measure => simp [intOf]; omega
        · have hst : stripZ k l' = (l', k) := stripZ_stop (.inr (by rw [last_getD hlen'.out hn0]; intro hh; exact hl0 (Option.some.inj hh)))
          have HD3 : Hid (D = ⟨b, l', (k : Int)⟩) := by rw [Hid, HD2.out, hS.out, hst]
          generalize l'.getD (n' - 1) 0 = y at *
          have hy : (y == 0) = false := by simpa using hl0
          have hy2 : decide (y = 0) = false := by simpa using hl0
          clear hst hl0 hns
          go_wp2
          rw [HD3.out]
          obtain ⟨⟨z0, z1, z2⟩, _⟩ := (HR.out.store3 (.bool b) (.slice (some ⟨bb, off, none⟩) n' c1) (.int .i64 k)).cells3
          exact bodyPost_ret (v := .agg #[.bool b, .slice (some ⟨bb, off, none⟩) n' c1, .int .i64 k]) (by generalize World.setCell (World.setCell (World.setCell _ _ _) _ _) _ _ = W3 at z0 z1 z2 ⊢; simp [results, Tryz.results27, go_sem, z0, z1, z2]) rfl
            ⟨_, n', c1, rfl, hI.set3 (hap _ (by omega)) _ _ _, below_set3 hbw (Nat.le_succ _) _ _ _, hnew⟩

end Go.Proofs.YtjinbhnpcdlkiaaGreatDoor

