/- The walks of small functions of the program: what looks for a number, cuts and copies. No condition. -/
import Derived.Test.YtaolimhbeoocjaaDa
namespace Go.Proofs.Ytaolimhbeoocjaa
open Go.RowKit

theorem below_from {w w1 w' : World} (h1 : Below w.heap.size w w1) (h2 : Below w1.heap.size w1 w') : Below w.heap.size w w' := h1.trans (h2.mono h1.size)
theorem RO.from_ {w w1 : World} {l : List Int} {e : Ending} {w' : World} (h : RO w1 l e w') (hb : Below w.heap.size w w1) : RO w l e w' := by
  obtain ⟨A, n, c, he, ho, hb'⟩ := h
  exact ⟨A, n, c, he, ho.mono hb.size, below_from hb hb'⟩

/-! ### slices.IndexFunc -/
def idxP (p : Int → Bool) : List Int → Nat → Int
  | [], _ => -1
  | x :: l, k => if p x then (k : Int) else idxP p l (k + 1)
theorem idxP_drop (p : Int → Bool) (l : List Int) (k : Nat) (hk : k < l.length) : idxP p (l.drop k) k = if p (l.getD k 0) then (k : Int) else idxP p (l.drop (k + 1)) (k + 1) := by
  rw [List.drop_eq_getElem_cons hk]
  simp [idxP, List.getD, List.getElem?_eq_getElem hk]
theorem idxP_ge (p : Int → Bool) (l : List Int) (k : Nat) : idxP p l k = -1 ∨ (k ≤ idxP p l k ∧ idxP p l k < k + l.length) := by
  induction l generalizing k with
  | nil => exact .inl rfl
  | cons x l ih =>
    simp only [idxP]
    split
    · exact .inr ⟨by omega, by simp; omega⟩
    · rcases ih (k + 1) with h | h
      · exact .inl h
      · exact .inr ⟨by omega, by simp; omega⟩
theorem idxP_any (p : Int → Bool) (l : List Int) (k : Nat) : (0 ≤ idxP p l k) ↔ l.any p = true := by
  induction l generalizing k with
  | nil => simp [idxP]
  | cons x l ih =>
    simp only [idxP, List.any_cons, Bool.or_eq_true]
    split
    · simp [*]
    · rw [ih]; simp [*]

set_option maxHeartbeats 400000 in
theorem indexFunc_zeros (p : Int → Bool) (hp : ∀ (x : Int) (W : World), -9223372036854775808 ≤ x → x ≤ 9223372036854775807 → Calls Try.prog 65 #[.int .i64 x] W fun e W' => e = .returned (.bool (p x)) ∧ W = W')
    (A : Option Addr) (n c : Nat) (l : List Int) (w : World) (h : IL w A n c l) (hl : I64 l) :
    Calls Try.prog 56 #[.slice A n c, .func (.func 65) #[] #[]] w fun e w' => e = .returned (.int .i64 (idxP p l 0)) ∧ w = w' := by
  have hle := h.le
  have hcap := h.cap
  have hlen := Lib.hid h.len
  have Hp := Lib.hid hp
  clear hp
  go_enter Try.func56, Try.ntmps56
  go_wp2_with fail
  go_loop [5, 8] (fun j i => ∃ k : Nat, k ≤ n ∧ i = .int .i64 k ∧ Hid (idxP p l 0 = idxP p (l.drop k) k)) (fun _ i => n - (intOf i).toNat)
  case atStart => exact ⟨0, Nat.zero_le _, rfl, rfl⟩
  case round =>
    obtain ⟨k, hk, rfl, hI⟩ := hrel
    by_cases hlt : k < n
    · obtain ⟨b, off, rfl, hc⟩ := h.at_ hlt
      have hx := hl.getD k
      have hst := Lib.hid (idxP_drop p l k (by rw [hlen.out]; exact hlt))
      generalize hxe : l.getD k 0 = x at *
      clear hxe
      cases hpx : p x
      · go_wp2_with fail
        refine (Hp.out _ _ hx.1 hx.2).mono ?_
        rw [hpx]
        rintro e w' ⟨rfl, rfl⟩
        go_wp2_with fail
        go_round
        case rel => exact ⟨k + 1, by omega, by go_num, by rw [Hid, hI.out, hst.out, hpx]; rfl⟩
        case measure => simp [intOf]; omega
      · go_wp2_with fail
        refine (Hp.out _ _ hx.1 hx.2).mono ?_
        rw [hpx]
        rintro e w' ⟨rfl, rfl⟩
        go_wp2_with fail
        go_ret
        exact ⟨ret_int (by rw [hI.out, hst.out, hpx]; rfl), rfl⟩
    · have hkn : k = n := by omega
      subst hkn
      go_wp2
      go_ret
      exact ⟨ret_int (by rw [hI.out, List.drop_of_length_le (by rw [hlen.out]; omega)]; rfl), rfl⟩

set_option maxHeartbeats 400000 in
theorem indexFunc_may (p : Int → Bool) (hp : ∀ (x : Int) (W : World), -9223372036854775808 ≤ x → x ≤ 9223372036854775807 → Calls Try.prog 43 #[.int .i64 x] W fun e W' => e = .returned (.bool (p x)) ∧ W = W')
    (A : Option Addr) (n c : Nat) (l : List Int) (w : World) (h : IL w A n c l) (hl : I64 l) :
    Calls Try.prog 56 #[.slice A n c, .func (.func 43) #[] #[]] w fun e w' => e = .returned (.int .i64 (idxP p l 0)) ∧ w = w' := by
  have hle := h.le
  have hcap := h.cap
  have hlen := Lib.hid h.len
  have Hp := Lib.hid hp
  clear hp
  go_enter Try.func56, Try.ntmps56
  go_wp2_with fail
  go_loop [5, 8] (fun j i => ∃ k : Nat, k ≤ n ∧ i = .int .i64 k ∧ Hid (idxP p l 0 = idxP p (l.drop k) k)) (fun _ i => n - (intOf i).toNat)
  case atStart => exact ⟨0, Nat.zero_le _, rfl, rfl⟩
  case round =>
    obtain ⟨k, hk, rfl, hI⟩ := hrel
    by_cases hlt : k < n
    · obtain ⟨b, off, rfl, hc⟩ := h.at_ hlt
      have hx := hl.getD k
      have hst := Lib.hid (idxP_drop p l k (by rw [hlen.out]; exact hlt))
      generalize hxe : l.getD k 0 = x at *
      clear hxe
      cases hpx : p x
      · go_wp2_with fail
        refine (Hp.out _ _ hx.1 hx.2).mono ?_
        rw [hpx]
        rintro e w' ⟨rfl, rfl⟩
        go_wp2_with fail
        go_round
        case rel => exact ⟨k + 1, by omega, by go_num, by rw [Hid, hI.out, hst.out, hpx]; rfl⟩
        case measure => simp [intOf]; omega
      · go_wp2_with fail
        refine (Hp.out _ _ hx.1 hx.2).mono ?_
        rw [hpx]
        rintro e w' ⟨rfl, rfl⟩
        go_wp2_with fail
        go_ret
        exact ⟨ret_int (by rw [hI.out, hst.out, hpx]; rfl), rfl⟩
    · have hkn : k = n := by omega
      subst hkn
      go_wp2
      go_ret
      exact ⟨ret_int (by rw [hI.out, List.drop_of_length_le (by rw [hlen.out]; omega)]; rfl), rfl⟩

theorem zeros1_any (x : Int) (w : World) (_h1 : -9223372036854775808 ≤ x) (_h2 : x ≤ 9223372036854775807) :
    Calls Try.prog 65 #[.int .i64 x] w fun e w' => e = .returned (.bool (x != 0)) ∧ w = w' := by
  go_enter Try.func65, Try.ntmps65
  go_wp2
  go_ret
  exact ⟨rfl, rfl⟩
theorem may1_any (x : Int) (w : World) (h1 : -9223372036854775808 ≤ x) (h2 : x ≤ 9223372036854775807) :
    Calls Try.prog 43 #[.int .i64 x] w fun e w' => e = .returned (.bool (!isDig x)) ∧ w = w' := by
  by_cases h : x < 0
  · go_enter Try.func43, Try.ntmps43
    go_wp2
    go_ret
    exact ⟨ret_bool (by simp [isDig]; omega), rfl⟩
  · go_enter Try.func43, Try.ntmps43
    go_wp2
    go_ret
    exact ⟨ret_bool (by rw [Bool.eq_iff_iff]; simp [isDig]; omega), rfl⟩

theorem idx_zeros (l : List Int) (k : Nat) : idxP (· != 0) l k = if zerosL l = l.length then -1 else ((k + zerosL l : Nat) : Int) := by
  induction l generalizing k with
  | nil => rfl
  | cons x l ih =>
    have hz := zerosL_le l
    by_cases h : x = 0
    · subst h
      have e1 : zerosL (0 :: l) = zerosL l + 1 := by simp [zerosL]
      simp only [idxP, bne_self_eq_false, Bool.false_eq_true, if_false]
      rw [ih, e1, List.length_cons]
      by_cases h2 : zerosL l = l.length
      · rw [if_pos h2, if_pos (by omega)]
      · rw [if_neg h2, if_neg (by omega)]; omega
    · have e1 : zerosL (x :: l) = 0 := by simp [zerosL, h]
      simp only [idxP]
      rw [if_pos (by simpa using h), e1, if_neg (by simp)]
      simp

theorem zeros_any (A : Option Addr) (n c : Nat) (l : List Int) (w : World) (h : IL w A n c l) (hl : I64 l) :
    Calls Try.prog 59 #[.slice A n c] w fun e w' => e = .returned (.int .i64 (zerosL l)) ∧ w = w' := by
  have hcap := h.cap
  have hle := h.le
  have hlen := h.len
  have hz := zerosL_le l
  have e1 := idx_zeros l 0
  by_cases h1 : zerosL l = l.length
  · rw [if_pos h1] at e1
    have E1 := Lib.hid e1
    have H1 := Lib.hid h1
    have HL := Lib.hid hlen
    clear e1 h1 hlen
    go_enter Try.func59, Try.ntmps59
    go_wp2_with (first | (go_at_call 56; refine (indexFunc_zeros _ zeros1_any _ _ _ l _ h hl).mono ?_; rw [E1.out]; rintro e w' ⟨rfl, rfl⟩))
    go_ret
    exact ⟨ret_int (by rw [H1.out, HL.out]), rfl⟩
  · rw [if_neg h1] at e1
    have hp : (0 : Int) ≤ idxP (· != 0) l 0 := by omega
    generalize hy : idxP (· != 0) l 0 = y at *
    have E1 := Lib.hid e1
    have HY := Lib.hid hy
    clear e1 h1 hlen hy
    go_enter Try.func59, Try.ntmps59
    go_wp2_with (first | (go_at_call 56; refine (indexFunc_zeros _ zeros1_any _ _ _ l _ h hl).mono ?_; rw [HY.out]; rintro e w' ⟨rfl, rfl⟩))
    go_ret
    exact ⟨ret_int (by rw [E1.out]; simp), rfl⟩

theorem mayL_any (l : List Int) : mayL l = !(l.any fun x => !isDig x) := by
  induction l with
  | nil => rfl
  | cons x l ih => simp [ih]

theorem containsFunc_may (A : Option Addr) (n c : Nat) (l : List Int) (w : World) (h : IL w A n c l) (hl : I64 l) :
    Calls Try.prog 42 #[.slice A n c, .func (.func 43) #[] #[]] w fun e w' => e = .returned (.bool (!mayL l)) ∧ w = w' := by
  have e1 : decide (0 ≤ idxP (fun x => !isDig x) l 0) = !mayL l := by
    rw [mayL_any, Bool.not_not, Bool.eq_iff_iff]; simp only [decide_eq_true_eq]; exact idxP_any _ l 0
  generalize hy : idxP (fun x => !isDig x) l 0 = y at *
  have HY := Lib.hid hy
  have E1 := Lib.hid e1
  clear hy e1
  go_enter Try.func42, Try.ntmps42
  go_wp2_with (first | (go_at_call 56; refine (indexFunc_may _ may1_any _ _ _ l _ h hl).mono ?_; rw [HY.out]; rintro e w' ⟨rfl, rfl⟩))
  go_ret
  exact ⟨ret_bool (by rw [← E1.out]), rfl⟩

theorem may_any (A : Option Addr) (n c : Nat) (l : List Int) (w : World) (h : IL w A n c l) (hl : I64 l) :
    Calls Try.prog 30 #[.slice A n c] w fun e w' => e = .returned (.bool (mayL l)) ∧ w = w' := by
  generalize hb : mayL l = b
  have HB := Lib.hid hb
  clear hb
  go_enter Try.func30, Try.ntmps30
  go_wp2_with (first | (go_at_call 42; refine (containsFunc_may _ _ _ l _ h hl).mono ?_; rw [HB.out]; rintro e w' ⟨rfl, rfl⟩))
  go_ret
  exact ⟨ret_bool (by simp), rfl⟩

/-- slices.Clone. -/
theorem clone_any (A : Option Addr) (n c : Nat) (l : List Int) (w : World) (h : IL w A n c l) (hn : n ≤ 100000000) :
    Calls Try.prog 57 #[.slice A n c] w (RO w l) := by
  have hle := h.le
  rcases A with _ | a
  · have hn0 : n = 0 := by
      rcases Nat.eq_zero_or_pos n with h0 | h0
      · exact h0
      · obtain ⟨_, _, e, _⟩ := h.at_ h0
        cases e
    have hl0 : l = [] := List.eq_nil_of_length_eq_zero (by rw [h.len, hn0])
    subst hl0
    clear hle
    subst hn0
    have hnil := fun W => Lib.run_eql_slice_nil (P := Try.prog) W 22 3 none 0 c 0 0 Try.underlying22
    go_enter Try.func57, Try.ntmps57
    go_wp2
    go_ret
    exact ⟨_, _, _, rfl, OL.nil _ _, Below.refl _ _⟩
  · have hnil := fun W => Lib.run_eql_slice_nil (P := Try.prog) W 22 3 (some a) n c 0 0 Try.underlying22
    go_enter Try.func57, Try.ntmps57
    go_wp2_with (first
      | (at_builtin; go_must (refine wpList_append_OL w.heap.size rfl _ _ rfl rfl rfl (l := []) (OL.full (IL.empty _ _ _ (by omega)) (by intro h; cases h) _ (fun h => absurd h (by omega))) (h.alloc _) (by simp) (by omega) ?_; intro A2 c2 w2 hO2 hB2 hg2)))
    go_ret
    exact ⟨_, _, _, rfl, by simpa using hO2, ((Below.refl _ _).alloc (Nat.le_refl _) _).trans hB2⟩

end Go.Proofs.Ytaolimhbeoocjaa
