/- The walks of the document's functions on lists of digits: the same, without noughts ahead, which is greater. No condition. -/
import Derived.Test.YtaolimhbeoocjaaOps
namespace Go.Proofs.Ytaolimhbeoocjaa
open Go.RowKit

/-- From here on the lists are the same. -/
theorem eq_from {a b : List Int} {k : Nat} (ha : k < a.length) (hb : k < b.length) : (a.drop k == b.drop k) = ((a.getD k 0 == b.getD k 0) && (a.drop (k + 1) == b.drop (k + 1))) := by
  simp only [List.getD, List.getElem?_eq_getElem ha, List.getElem?_eq_getElem hb, Option.getD_some]
  rw [List.drop_eq_getElem_cons ha, List.drop_eq_getElem_cons hb]
  rfl

set_option maxHeartbeats 400000 in
theorem same_any (A : Option Addr) (n c : Nat) (l : List Int) (A2 : Option Addr) (n2 c2 : Nat) (l2 : List Int) (w : World) (h : IL w A n c l) (h2 : IL w A2 n2 c2 l2) :
    Calls Try.prog 27 #[.slice A n c, .slice A2 n2 c2] w (RQ w (.bool (l == l2))) := by
  have hle := h.le
  have hcap := h.cap
  have hle2 := h2.le
  have hcap2 := h2.cap
  have hlen := Lib.hid h.len
  have hlen2 := Lib.hid h2.len
  by_cases hn : n = n2
  · subst hn
    go_enter Try.func27, Try.ntmps27
    go_wp2
    go_loopw [5] (fun i wr => ∃ k j : Nat, k ≤ n ∧ i = .int .i64 k ∧ Hid ((l == l2) = (l.drop k == l2.drop k)) ∧ wr = w.drewN j) (fun i _ => n - (intOf i).toNat)
    case atStart => exact ⟨0, 0, Nat.zero_le _, rfl, rfl, rfl⟩
    case round =>
      obtain ⟨k, j, hk, rfl, hI, rfl⟩ := hrel
      by_cases hlt : k < n
      · obtain ⟨b, off, rfl, hc⟩ := h.at_ hlt
        obtain ⟨b2, off2, rfl, hc2⟩ := h2.at_ hlt
        have hst := Lib.hid (eq_from (a := l) (b := l2) (k := k) (by rw [hlen.out]; exact hlt) (by rw [hlen2.out]; exact hlt))
        generalize l.getD k 0 = x at *
        generalize l2.getD k 0 = y at *
        have hlt' : (k : Int) < (n : Int) := by omega
        have hk0 : (0 : Int) ≤ (k : Int) := by omega
        by_cases hxy : x = y
        · have hxx : Hid ((x == y) = true) := by simpa [Hid] using hxy
          have hne : (x != y) = false := by simpa using hxy
          clear hxy
          go_wp2
          go_quiet (fail)
          go_wp2
          go_roundw
          case rel => exact ⟨k + 1, _, by omega, by go_num, by rw [Hid, hI.out, hst.out, hxx.out]; rfl, by first | rfl | exact World.drewN_drewN _ _ _⟩
          case measure => simp [intOf]; omega
        · have hxx : Hid ((x == y) = false) := by simpa [Hid] using hxy
          have hne : (x != y) = true := by simpa using hxy
          clear hxy
          go_wp2
          go_quiet (fail)
          go_wp2
          go_ret
          exact ⟨ret_bool (by rw [hI.out, hst.out, hxx.out]; rfl), _, by first | rfl | exact World.drewN_drewN _ _ _⟩
      · have hkn : k = n := by omega
        subst hkn
        go_wp2
        go_ret
        exact ⟨ret_bool (by rw [hI.out, List.drop_of_length_le (by rw [hlen.out]; omega), List.drop_of_length_le (by rw [hlen2.out]; omega)]; rfl), j, rfl⟩
  · have e1 : (l == l2) = false := by
      rw [beq_eq_false_iff_ne]
      intro he
      exact hn (by rw [← hlen.out, ← hlen2.out, he])
    have E1 := Lib.hid e1
    clear e1
    go_enter Try.func27, Try.ntmps27
    go_wp2
    go_ret
    exact ⟨ret_bool (by rw [E1.out]), 0, rfl⟩

theorem trimL_from {l : List Int} {k : Nat} (h : k < l.length) (h0 : l.getD k 0 = 0) : trimL (l.drop k) = trimL (l.drop (k + 1)) := by
  rw [List.drop_eq_getElem_cons h]
  have : l[k] = 0 := by simpa [List.getD, List.getElem?_eq_getElem h] using h0
  rw [this, trimL_cons_zero]
theorem trimL_stop {l : List Int} {k : Nat} (h : k < l.length) (h0 : l.getD k 0 ≠ 0) : trimL (l.drop k) = l.drop k := by
  rw [List.drop_eq_getElem_cons h]
  exact trimL_cons_ne (by simpa [List.getD, List.getElem?_eq_getElem h] using h0) _

set_option maxHeartbeats 400000 in
theorem rtrim_any (A : Option Addr) (n c : Nat) (l : List Int) (w : World) (h : IL w A n c l) (hn : n ≤ 100000000) :
    Calls Try.prog 44 #[.slice A n c] w (RO w (trimL l)) := by
  have hle := h.le
  have hcap := h.cap
  have hlen := Lib.hid h.len
  go_enter Try.func44, Try.ntmps44
  go_wp2
  go_loop [3] (fun i => ∃ k : Nat, k ≤ n ∧ i = .int .i64 k ∧ Hid (trimL l = trimL (l.drop k))) (fun i => n - (intOf i).toNat)
  case atStart => exact ⟨0, Nat.zero_le _, rfl, rfl⟩
  case round =>
    obtain ⟨k, hk, rfl, hI⟩ := hrel
    by_cases hlt : k < n
    · obtain ⟨b, off, rfl, hc⟩ := h.at_ hlt
      by_cases hx : l.getD k 0 = 0
      · have hst := Lib.hid (trimL_from (by rw [hlen.out]; exact hlt) hx)
        rw [hx] at hc
        clear hx
        go_wp2
        go_round
        case rel => exact ⟨k + 1, by omega, by go_num, by rw [Hid, hI.out, hst.out]⟩
        case measure => simp [intOf]; omega
      · have hst := Lib.hid (trimL_stop (by rw [hlen.out]; exact hlt) hx)
        generalize l.getD k 0 = x at *
        have hxx : (x == 0) = false := by simpa using hx
        go_wp2_with (first
          | (at_builtin; refine wpList_append_OL w.heap.size rfl _ _ rfl rfl rfl (OL.nil _ _) (h.drop hk _ (by intro hkn; first | (exfalso; omega) | rfl | exact if_neg (by omega) | simp [Addr.add_lit])) (Nat.le_refl _) (by omega) ?_; intro A2 c2 w2 hO2 hB2 _))
        go_ret
        exact ⟨_, _, _, rfl, by rw [hI.out, hst.out]; simpa using hO2, hB2⟩
    · have hkn : k = n := by omega
      subst hkn
      have hend : Hid (trimL (l.drop k) = []) := by rw [Hid, List.drop_of_length_le (by rw [hlen.out]; omega)]; rfl
      go_wp2_with (first
        | (at_builtin; refine wpList_append_OL w.heap.size rfl _ _ rfl rfl rfl (OL.nil _ _) (IL.empty _ _ _ (by omega)) (Nat.le_refl _) (by omega) ?_; intro A2 c2 w2 hO2 hB2 _))
      all_goals
        go_ret
        exact ⟨_, _, _, rfl, by rw [hI.out, hend.out]; simpa using hO2, hB2⟩

theorem mayL_from {l : List Int} {k : Nat} (h : k < l.length) : mayL (l.drop k) = (isDig (l.getD k 0) && mayL (l.drop (k + 1))) := by
  simp only [List.getD, List.getElem?_eq_getElem h, Option.getD_some]
  rw [List.drop_eq_getElem_cons h, mayL_cons]

set_option maxHeartbeats 400000 in
theorem rmay_any (A : Option Addr) (n c : Nat) (l : List Int) (w : World) (h : IL w A n c l) :
    Calls Try.prog 31 #[.slice A n c] w fun e w' => e = .returned (.bool (mayL l)) ∧ w = w' := by
  have hle := h.le
  have hcap := h.cap
  have hlen := Lib.hid h.len
  go_enter Try.func31, Try.ntmps31
  go_wp2
  go_loop [3] (fun i => ∃ k : Nat, k ≤ n ∧ i = .int .i64 k ∧ Hid (mayL l = mayL (l.drop k))) (fun i => n - (intOf i).toNat)
  case atStart => exact ⟨0, Nat.zero_le _, rfl, rfl⟩
  case round =>
    obtain ⟨k, hk, rfl, hI⟩ := hrel
    by_cases hlt : k < n
    · obtain ⟨b, off, rfl, hc⟩ := h.at_ hlt
      have hst := Lib.hid (mayL_from (l := l) (k := k) (by rw [hlen.out]; exact hlt))
      generalize l.getD k 0 = x at *
      by_cases h0 : x < 0
      · have hd : Hid (isDig x = false) := by simp [Hid, isDig]; omega
        go_wp2
        go_ret
        exact ⟨ret_bool (by rw [hI.out, hst.out, hd.out]; rfl), rfl⟩
      · by_cases h9 : 9 < x
        · have hd : Hid (isDig x = false) := by simp [Hid, isDig]; omega
          go_wp2
          go_ret
          exact ⟨ret_bool (by rw [hI.out, hst.out, hd.out]; rfl), rfl⟩
        · have hd : Hid (isDig x = true) := by simp [Hid, isDig]; omega
          go_wp2
          go_round
          case rel => exact ⟨k + 1, by omega, by go_num, by rw [Hid, hI.out, hst.out, hd.out]; rfl⟩
          case measure => simp [intOf]; omega
    · have hkn : k = n := by omega
      subst hkn
      go_wp2
      go_ret
      exact ⟨ret_bool (by rw [hI.out, List.drop_of_length_le (by rw [hlen.out]; omega)]; rfl), rfl⟩

end Go.Proofs.Ytaolimhbeoocjaa
