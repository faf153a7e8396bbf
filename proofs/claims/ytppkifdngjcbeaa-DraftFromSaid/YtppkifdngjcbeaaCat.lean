/- The walks of slices.Grow (of nil) and slices.Concat. No condition. -/
import Derived.Test.YtppkifdngjcbeaaZeros
import Derived.Test.YtppkifdngjcbeaaSum
namespace Go.Proofs.Ytppkifdngjcbeaa
open Go.RowKit

theorem run_zeros_nil (w : World) (ty : TypeId) (k : Nat) (h0 : 0 < k) (hn : k ≤ 1000000000) :
    ∃ A' c' w', (Builtin.append_ #[23, 3] ty #[.slice none 0 0, .int .i64 (k : Int)]).run Try.prog w = .ok (.slice A' k c') w' ∧ OL w' w.heap.size A' 0 c' [] ∧ k ≤ c' ∧ c' ≤ 9223372036854775807 ∧ Below w.heap.size w w' := by
  obtain ⟨i0, hi0, hz0, hz1, hz2⟩ := info_parts int_info
  have hw : IntKind.i64.wrap (k : Int) = k := by rw [IntKind.wrap_i64]; omega
  have h48 : ¬ (281474976710656 < (k : Int) * (i0.bytes : Int)) := by rw [hz2]; omega
  have hneg : ¬ ((k : Int) < 0) := by omega
  have hg : (0 : Nat) < 0 + k := by omega
  have hold : (Builtin.firstCells i0.size 0 (.slice none 0 0)).run Try.prog w.drew = .ok ([] : List Value).toArray w.drew := by
    rw [hz1]
    simp [Builtin.firstCells]
  have hfit : Builtin.nextslicecap (0 + k) 0 * i0.bytes ≤ 281474976710656 := by
    rw [hz2]
    exact growslice_fits hg (by omega)
  have hr := Lib.run_append_grow_zeros (P := Try.prog) w 23 3 ty 3 i0 (.int .i64 0) .i64 .i64 Try.underlying23 Try.underlying3 hi0 hz0 none 0 0 [] hold k h0 (by omega) hg (by omega) (by rw [hz2]; omega) hfit
  have hge := grownCap_ge w (0 + k) 0 3
  have hcm : grownCap w (0 + k) 0 3 ≤ maxLen := grownCap_le_maxLen w (0 + k) 0 3 (by simp only [maxLen]; omega)
  rw [Nat.zero_add] at hr hge hcm
  refine ⟨_, _, _, hr, ⟨VL.empty _ _ _ (by simpa [maxLen] using hcm), .inr ⟨rfl, .inr ⟨w.heap.size, _, _, rfl, Nat.le_refl _, heap_alloc_new w.drew _, Nat.zero_le _, hcm, ?_, ?_⟩⟩⟩, hge, by simpa [maxLen] using hcm, ⟨rfl, rfl, rfl, by simp, fun q hq => Below.heap_alloc w.drew _ q (by simp; omega)⟩⟩
  · simp only [Array.size_append, List.size_toArray, size_zeroCells, Value.cells, List.length_cons, List.length_nil]
    omega
  · simp

theorem wpList_zeros_nil {w : World} {ops : Array Oper} {rest : List Oper} {o : Oper} {a : Act} {Q : Exit → Act → World → Prop} {k : Nat}
    (hgd : o.guard = none) (s x : Operand)
    (ho : o.op = .call { callee := .builtin .append, args := #[s, x], argTypes := #[23, 3] }) (hs : a.eval s = .slice none 0 0) (hx : a.eval x = .int .i64 (k : Int))
    (h0 : 0 < k) (hn : k ≤ 1000000000)
    (h : ∀ A' c' w', OL w' w.heap.size A' 0 c' [] → k ≤ c' → c' ≤ 9223372036854775807 → Below w.heap.size w w' → wpList Try.prog ops Q rest (a.put o.dst (.slice A' k c')) w') : wpList Try.prog ops Q (o :: rest) a w := by
  obtain ⟨A', c', w', hr, h3, h5, h6, h4⟩ := run_zeros_nil w o.type k h0 hn
  exact Lib.wpList_append_run w hgd s x _ _ ho _ _ hs hx _ w' hr (h A' c' w' h3 h5 h6 h4)

theorem grow_any (k : Nat) (w : World) (hn : k ≤ 1000000000) :
    Calls Try.prog 90 #[.slice none 0 0, .int .i64 (k : Int)] w fun e w' => ∃ A c, e = .returned (.slice A 0 c) ∧ OL w' w.heap.size A 0 c [] ∧ Below w.heap.size w w' := by
  rcases Nat.eq_zero_or_pos k with h0 | h0
  · subst h0
    go_enter Try.func90, Try.ntmps90
    go_wp2_with fail
    go_ret
    exact ⟨_, _, rfl, OL.nil _ _, Below.refl _ _⟩
  · go_enter Try.func90, Try.ntmps90
    go_wp2_with (first
      | (at_builtin; refine wpList_zeros_nil rfl _ _ rfl rfl rfl h0 hn ?_; intro A2 c2 w2 hO2 hk2 hm2 hB2))
    go_ret
    exact ⟨_, _, rfl, hO2, hB2⟩

theorem flat_succ (ls : List (List Int)) (k : Nat) (hk : k < ls.length) : (ls.take (k + 1)).flatten = (ls.take k).flatten ++ ls.getD k [] := by
  rw [List.take_succ_eq_append_getElem hk, List.flatten_append]
  simp [List.getD, List.getElem?_eq_getElem hk]
theorem flat_len (ls : List (List Int)) (M : Nat) (hl : ∀ l, l ∈ ls → l.length ≤ M) : ls.flatten.length ≤ ls.length * M := by
  induction ls with
  | nil => simp
  | cons x l ih =>
    have := ih (fun y hy => hl y (by simp [hy]))
    have := hl x (by simp)
    simp only [List.flatten_cons, List.length_append, List.length_cons, Nat.succ_mul]
    omega

set_option maxHeartbeats 1000000 in
theorem concat_any (A : Option Addr) (n c : Nat) (ls : List (List Int)) (w : World) (h : LL w A n c ls) (hn : ls.length ≤ 100) (hl : ∀ l, l ∈ ls → l.length ≤ 10000) :
    Calls Try.prog 71 #[.slice A n c] w (RO w ls.flatten) := by
  have hle := h.le
  have hcap := h.cap
  have hlen := Lib.hid h.len
  have hn' : n ≤ 100 := by rw [← hlen.out]; exact hn
  have hfl : ∀ k, (ls.take k).flatten.length ≤ 1000000 := fun k => by
    have h1 := flat_len (ls.take k) 10000 (fun l hh => hl l (List.mem_of_mem_take hh))
    have h2 : (ls.take k).length ≤ 100 := Nat.le_trans (List.length_take_le' _ _) hn
    have h3 : (ls.take k).length * 10000 ≤ 100 * 10000 := Nat.mul_le_mul_right _ h2
    omega
  have HFL := Lib.hid hfl
  have HST := Lib.hid (flat_succ ls)
  clear hfl hl hn
  go_enter Try.func71, Try.ntmps71
  go_wp2_with fail
  go_loop [3, 11] (fun v x => ∃ k : Nat, k ≤ n ∧ x = .int .i64 k ∧ v = .int .i64 ((ls.take k).flatten.length : Nat)) (fun _ x => n - (intOf x).toNat)
  case atStart => exact ⟨0, Nat.zero_le _, rfl, rfl⟩
  case round =>
    obtain ⟨k, hk, rfl, rfl⟩ := hrel
    have hf1 := HFL.out k
    have hf2 := HFL.out (k + 1)
    by_cases hlt : k < n
    · obtain ⟨b, off, A1, n1, c1, rfl, hc, hI⟩ := h.at_ hlt
      have hs := HST.out k (by rw [hlen.out]; exact hlt)
      have hle1 := hI.le
      have hcap1 := hI.cap
      have e2 : Hid ((ls.take (k + 1)).flatten.length = (ls.take k).flatten.length + n1) := by rw [Hid, hs, List.length_append, hI.len]
      rw [e2.out] at hf2
      generalize (ls.take k).flatten.length = q at *
      clear hs hI
      go_wp2_with fail
      go_round
      case rel => exact ⟨k + 1, by omega, by go_num, by rw [e2.out]; first | rfl | go_num⟩
      case measure => simp [intOf]; omega
    · have hkn : k = n := by omega
      have hall : ls.take k = ls := List.take_of_length_le (by rw [hlen.out]; omega)
      rw [hall] at hf1 ⊢
      subst hkn
      generalize hq : ls.flatten.length = q at *
      clear hall hq
      go_wp2_with fail
      refine (grow_any q _ (by omega)).mono ?_
      rintro e w1 ⟨A1, c1, rfl, hO1, hB1⟩
      have h1 := h.below hB1
      clear hf1 hf2
      go_wp2_with fail
      go_loopw [6, 27] (fun v x wr => ∃ (k' : Nat) (A' : Option Addr) (m c' : Nat), k' ≤ k ∧ x = .int .i64 k' ∧ v = .slice A' m c' ∧ OL wr w.heap.size A' m c' (ls.take k').flatten ∧ Below w.heap.size w wr) (fun _ x _ => k - (intOf x).toNat)
      case atStart => exact ⟨0, _, _, _, Nat.zero_le _, rfl, rfl, hO1, hB1⟩
      case round =>
        obtain ⟨k', A', m, c', hk', rfl, rfl, hO, hB⟩ := hrel
        have hf1 := HFL.out k'
        by_cases hlt' : k' < k
        · obtain ⟨b, off, A3, n3, c3, rfl, hc, hI⟩ := (h.below hB).at_ hlt'
          have hs := Lib.hid (HST.out k' (by rw [hlen.out]; exact hlt'))
          have hf2 := HFL.out (k' + 1)
          rw [hs.out, List.length_append, hI.len] at hf2
          have hm := hO.len
          go_wp2_with (first
            | (at_builtin; refine wpList_append_OL w.heap.size rfl _ _ rfl rfl rfl hO hI hB.size (by omega) ?_; intro A2 c2 w2 hO2 hB2 hg2))
          go_roundw
          case rel => exact ⟨k' + 1, A2, _, c2, by omega, by go_num, rfl, by rw [hs.out]; exact hO2, hB.trans hB2⟩
          case measure => simp [intOf]; omega
        · have hkn : k' = k := by omega
          subst hkn
          have hall : ls.take k' = ls := List.take_of_length_le (by rw [hlen.out]; omega)
          rw [hall] at hO
          clear hall
          go_wp2_with fail
          go_ret
          exact ⟨_, _, _, rfl, hO, hB⟩

end Go.Proofs.Ytppkifdngjcbeaa
