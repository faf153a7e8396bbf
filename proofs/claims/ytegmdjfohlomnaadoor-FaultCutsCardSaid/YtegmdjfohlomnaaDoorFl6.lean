/- The walks of the law's own example and of its beginning. No condition. -/
import Derived.Test.YtegmdjfohlomnaaDoorFl5
namespace Go.Proofs.YtegmdjfohlomnaaDoor
open Go.RowKit

theorem live_text : (textB [{ data := #[115, 116, 101, 112] }, { data := #[109, 105, 110] }] 3).toList = [115, 116, 101, 112, 58, 32, 109, 105, 110, 58, 32, 51] := by decide +kernel
theorem live_len : (textB [{ data := #[115, 116, 101, 112] }, { data := #[109, 105, 110] }] 3).size ≤ 140737488355328 := by decide +kernel
set_option maxHeartbeats 1000000 in
theorem lives_any (w : World) (hG : Gl w) : Calls Tryd.prog 13 #[] w (RV w (.bool true)) := by
  have hlt := Lib.hid live_text
  have hll := Lib.hid live_len
  go_enter Tryd.func13, Tryd.ntmps13
  go_wp2_with fail
  refine (of_code 3 (by decide) w).mono ?_
  rintro e w1 ⟨rfl, rfl⟩
  go_wp2_with fail
  refine (wrap_any _ _ [] w1.heap.size 3 _ rfl (Nat.le_refl _)).mono ?_
  rintro e w2 ⟨rfl, hC2, hb2⟩
  generalize Value.iface 40 (.pointer (some ⟨w1.heap.size, 0, none⟩)) = v2 at *
  go_wp2_with fail
  refine (wrap_any _ v2 [_] _ 3 _ hC2 (Nat.le_refl _)).mono ?_
  rintro e w3 ⟨rfl, hC3, hb3⟩
  generalize Value.iface 40 (.pointer (some ⟨w2.heap.size, 0, none⟩)) = v3 at *
  have hb13 : Below w1.heap.size w1 w3 := below_from hb2 hb3
  go_wp2_with fail
  refine (text_any 3 v3 _ _ _ (hG.below hb13) hC3 (Nat.le_refl _) (by decide) (by decide) (by decide) hll.out).mono ?_
  rintro e w4 ⟨rfl, hb4⟩
  generalize textB [{ data := #[115, 116, 101, 112] }, { data := #[109, 105, 110] }] 3 = tx at *
  have hlt2 : (tx.toList == [115, 116, 101, 112, 58, 32, 109, 105, 110, 58, 32, 51]) = true := by rw [hlt.out]; rfl
  have hb14 : Below w1.heap.size w1 w4 := below_from hb13 hb4
  go_wp2_with fail
  refine (path_any 3 v3 _ _ _ (hG.below hb14) (hC3.below hb4 (Nat.le_refl _)) (Below.size hb4) (by decide)).mono ?_
  rintro e w5 ⟨A, n, c, rfl, hO5, hb5⟩
  have hn := hO5.sl.len
  go_wp2_with fail
  refine (texts_any _ _ _ _ _ _ _ [{ data := #[115, 116, 101, 112] }, { data := #[109, 105, 110] }] _ (VL.alloc hO5.sl _) (VL.lit w5 _ 2 [.string { data := #[115, 116, 101, 112] }, .string { data := #[109, 105, 110] }] rfl (by omega))).mono ?_
  rintro e w6 ⟨rfl, k, rfl⟩
  go_wp2_with fail
  go_ret
  exact ⟨rfl, (below_from hb14 hb5).trans (((Below.refl _ _).alloc (Below.size (below_from hb14 hb5)) _).trans (below_drewN _ _ _))⟩

/-- The path that the law's beginning makes: the innermost is the first text. -/
def pathS (ss : List ByteArray) (k : Nat) : List ByteArray := ((ss.take k).map fun s => fewB s 12).reverse
theorem pathS_succ {ss : List ByteArray} {k : Nat} (h : k < ss.length) : pathS ss (k + 1) = fewB (ss.getD k ⟨#[]⟩) 12 :: pathS ss k := by
  unfold pathS
  rw [List.take_succ_eq_append_getElem h, List.map_append, List.reverse_append]
  simp [List.getD, List.getElem?_eq_getElem h]
theorem pathS_len (ss : List ByteArray) (k : Nat) : (pathS ss k).length = min k ss.length := by simp [pathS]
theorem pathS_size (ss : List ByteArray) (k : Nat) : ∀ s ∈ pathS ss k, s.size ≤ 12 := fun s hs => by
  obtain ⟨t, _, rfl⟩ := List.mem_map.1 (List.mem_reverse.1 hs)
  exact fewB_size t 12
def codeS (n : Int) : Int := if n = 0 then 1 else n
theorem codeS_ne (n : Int) : codeS n ≠ 0 := by unfold codeS; split <;> omega
theorem begin_loop (ss : List ByteArray) : pathS ss 6 = pathS ss (min 6 ss.length) := by
  unfold pathS
  congr 2
  rcases Nat.le_total 6 ss.length with h | h
  · rw [Nat.min_eq_left h]
  · rw [Nat.min_eq_right h, List.take_of_length_le h, List.take_of_length_le (Nat.le_refl _)]

set_option maxHeartbeats 1000000 in
theorem begin_any (n0 : Int) (A : Option Addr) (n c : Nat) (ss : List ByteArray) (w : World) (h : SL w A n c ss) :
    Calls Tryd.prog 10 #[.int .i64 n0, .slice A n c] w fun e w' => ∃ v A' n' c', e = .returned (.tuple #[v, .int .i64 (codeS n0), .slice A' n' c']) ∧ Ch w' (pathS ss 6) w'.heap.size (codeS n0) v ∧ SL w' A' n' c' (pathS ss 6) ∧ Below w.heap.size w w' := by
  have hle := VL.le h
  have hcap := VL.cap h
  have hlen := Lib.hid h.len
  have hcc := Lib.hid (codeS_ne n0)
  rw [begin_loop ss]
  generalize hPe : pathS ss (min 6 ss.length) = PP
  have hPP := Lib.hid hPe
  clear hPe
  go_enter Tryd.func10, Tryd.ntmps10
  by_cases hz : n0 = 0
  · subst hz
    have hz2 : codeS 0 = 1 := rfl
    rw [hz2] at hcc ⊢
    go_wp2_with (go_at_call 19; refine (of_code _ hcc.out _).mono ?_; rintro e w1 ⟨rfl, rfl⟩)
    go_loopw [7, 8, 9] (fun v p i wr => ∃ (k : Nat) (A' : Option Addr) (c' : Nat), k ≤ n ∧ k ≤ 6 ∧ i = .int .i64 k ∧ p = .slice A' k c' ∧ Ch wr (pathS ss k) wr.heap.size 1 v ∧ SL wr A' k c' (pathS ss k) ∧ Below w1.heap.size w1 wr)
      (fun _ _ i _ => n - (intOf i).toNat)
    case atStart => exact ⟨0, none, 0, Nat.zero_le _, Nat.zero_le _, rfl, rfl, rfl, VL.nil _, Below.refl _ _⟩
    case round =>
      obtain ⟨k, A', c', hkn, hk6, rfl, rfl, hCh, hS, hb⟩ := hrel
      by_cases hlt : k < n
      · by_cases hl6 : k < 6
        · obtain ⟨b, off, rfl, hc⟩ := SL.at_ (VL.below h hb) hlt
          have hst := Lib.hid (pathS_succ (ss := ss) (k := k) (by rw [hlen.out]; exact hlt))
          have hpl := Lib.hid (pathS_len ss k)
          have hlc : (k : Int) < (n : Int) := by omega
          have hl6c : (k : Int) < 6 := by omega
          have hk0 : (0 : Int) ≤ (k : Int) := by omega
          generalize ss.getD k ⟨#[]⟩ = s at *
          have hfew := Lib.hid (fun W => few_any s 12 W (by omega))
          generalize fewB s 12 = t at *
          go_wp2_with (go_at_call 20; refine (hfew.out _).mono ?_; rintro e w2 ⟨rfl, rfl⟩)
          refine (wrap_any t _ _ _ _ _ hCh (Nat.le_refl _)).mono ?_
          rintro e w2 ⟨rfl, hC2, hb2⟩
          generalize Value.iface 40 (.pointer (some ⟨_, 0, none⟩)) = v2 at *
          go_wp2_with fail
          refine (front_any t _ _ _ _ _ (VL.below hS hb2) (by omega)).mono ?_
          rintro e w3 ⟨A3, n3, c3, rfl, hO3, hb3⟩
          obtain rfl : n3 = k + 1 := by
            have h1 := hO3.sl.len
            have h2 := hpl.out
            have h3 := hlen.out
            simp only [List.length_cons] at h1
            omega
          go_wp2_with fail
          go_roundw
          case rel => exact ⟨k + 1, A3, c3, by omega, by omega, by go_num, rfl, by rw [hst.out]; exact (hC2.below hb3 (Nat.le_refl _)).mono (Below.size hb3), by rw [hst.out]; exact hO3.sl, below_from (below_from hb hb2) hb3⟩
          case measure => simp [intOf]; omega
        · have hk : k = 6 := by omega
          have hm : min 6 ss.length = k := by have := hlen.out; omega
          subst hk
          have hPk := hPP.out
          rw [hm] at hPk
          rw [hPk] at hCh hS
          clear hPk
          go_wp2
          go_ret3
          exact ⟨_, _, _, _, rfl, hCh, hS, hb⟩
      · have hk : k = n := by omega
        have hm : min 6 ss.length = k := by have := hlen.out; omega
        subst hk
        have hPk := hPP.out
        rw [hm] at hPk
        rw [hPk] at hCh hS
        clear hPk
        go_wp2
        go_ret3
        exact ⟨_, _, _, _, rfl, hCh, hS, hb⟩
  · have hz2 : codeS n0 = n0 := if_neg hz
    rw [hz2] at hcc ⊢
    have hz3 : (n0 == 0) = false := by simpa using hz
    go_wp2_with (go_at_call 19; refine (of_code _ hcc.out _).mono ?_; rintro e w1 ⟨rfl, rfl⟩)
    go_loopw [7, 8, 9] (fun v p i wr => ∃ (k : Nat) (A' : Option Addr) (c' : Nat), k ≤ n ∧ k ≤ 6 ∧ i = .int .i64 k ∧ p = .slice A' k c' ∧ Ch wr (pathS ss k) wr.heap.size n0 v ∧ SL wr A' k c' (pathS ss k) ∧ Below w1.heap.size w1 wr)
      (fun _ _ i _ => n - (intOf i).toNat)
    case atStart => exact ⟨0, none, 0, Nat.zero_le _, Nat.zero_le _, rfl, rfl, rfl, VL.nil _, Below.refl _ _⟩
    case round =>
      obtain ⟨k, A', c', hkn, hk6, rfl, rfl, hCh, hS, hb⟩ := hrel
      by_cases hlt : k < n
      · by_cases hl6 : k < 6
        · obtain ⟨b, off, rfl, hc⟩ := SL.at_ (VL.below h hb) hlt
          have hst := Lib.hid (pathS_succ (ss := ss) (k := k) (by rw [hlen.out]; exact hlt))
          have hpl := Lib.hid (pathS_len ss k)
          have hlc : (k : Int) < (n : Int) := by omega
          have hl6c : (k : Int) < 6 := by omega
          have hk0 : (0 : Int) ≤ (k : Int) := by omega
          generalize ss.getD k ⟨#[]⟩ = s at *
          have hfew := Lib.hid (fun W => few_any s 12 W (by omega))
          generalize fewB s 12 = t at *
          go_wp2_with (go_at_call 20; refine (hfew.out _).mono ?_; rintro e w2 ⟨rfl, rfl⟩)
          refine (wrap_any t _ _ _ _ _ hCh (Nat.le_refl _)).mono ?_
          rintro e w2 ⟨rfl, hC2, hb2⟩
          generalize Value.iface 40 (.pointer (some ⟨_, 0, none⟩)) = v2 at *
          go_wp2_with fail
          refine (front_any t _ _ _ _ _ (VL.below hS hb2) (by omega)).mono ?_
          rintro e w3 ⟨A3, n3, c3, rfl, hO3, hb3⟩
          obtain rfl : n3 = k + 1 := by
            have h1 := hO3.sl.len
            have h2 := hpl.out
            have h3 := hlen.out
            simp only [List.length_cons] at h1
            omega
          go_wp2_with fail
          go_roundw
          case rel => exact ⟨k + 1, A3, c3, by omega, by omega, by go_num, rfl, by rw [hst.out]; exact (hC2.below hb3 (Nat.le_refl _)).mono (Below.size hb3), by rw [hst.out]; exact hO3.sl, below_from (below_from hb hb2) hb3⟩
          case measure => simp [intOf]; omega
        · have hk : k = 6 := by omega
          have hm : min 6 ss.length = k := by have := hlen.out; omega
          subst hk
          have hPk := hPP.out
          rw [hm] at hPk
          rw [hPk] at hCh hS
          clear hPk
          go_wp2
          go_ret3
          exact ⟨_, _, _, _, rfl, hCh, hS, hb⟩
      · have hk : k = n := by omega
        have hm : min 6 ss.length = k := by have := hlen.out; omega
        subst hk
        have hPk := hPP.out
        rw [hm] at hPk
        rw [hPk] at hCh hS
        clear hPk
        go_wp2
        go_ret3
        exact ⟨_, _, _, _, rfl, hCh, hS, hb⟩

end Go.Proofs.YtegmdjfohlomnaaDoor
