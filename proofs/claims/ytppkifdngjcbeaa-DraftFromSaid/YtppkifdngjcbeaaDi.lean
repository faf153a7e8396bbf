/- The walks of what the drafts look for in lists. No condition. -/
import Derived.Test.YtppkifdngjcbeaaRb
import Derived.Test.YtppkifdngjcbeaaExt
namespace Go.Proofs.Ytppkifdngjcbeaa
open Go.RowKit

/-! ### What is no atom -/
def isAtom (x : Int) : Bool := decide (0 ≤ x) && decide (x ≤ 10)
def oddL (l : List Int) : Bool := l.any fun x => !isAtom x

theorem odd1_any (x : Int) (w : World) (h1 : -9223372036854775808 ≤ x) (h2 : x ≤ 9223372036854775807) :
    Calls Try.prog 107 #[.int .i64 x] w fun e w' => e = .returned (.bool (!isAtom x)) ∧ w = w' := by
  by_cases h : x < 0
  · go_enter Try.func107, Try.ntmps107
    go_wp2
    go_ret
    exact ⟨ret_bool (by simp [isAtom]; omega), rfl⟩
  · go_enter Try.func107, Try.ntmps107
    go_wp2
    go_ret
    exact ⟨ret_bool (by rw [Bool.eq_iff_iff]; simp [isAtom]; omega), rfl⟩

set_option maxHeartbeats 400000 in
theorem indexFunc_odd (p : Int → Bool) (hp : ∀ (x : Int) (W : World), -9223372036854775808 ≤ x → x ≤ 9223372036854775807 → Calls Try.prog 107 #[.int .i64 x] W fun e W' => e = .returned (.bool (p x)) ∧ W = W')
    (A : Option Addr) (n c : Nat) (l : List Int) (w : World) (h : IL w A n c l) (hl : I64 l) :
    Calls Try.prog 102 #[.slice A n c, .func (.func 107) #[] #[]] w fun e w' => e = .returned (.int .i64 (idxP p l 0)) ∧ w = w' := by
  have hle := h.le
  have hcap := h.cap
  have hlen := Lib.hid h.len
  have Hp := Lib.hid hp
  clear hp
  go_enter Try.func102, Try.ntmps102
  go_wp2_with fail
  go_loop [5, 8] (fun j i => ∃ k : Nat, k ≤ n ∧ i = .int .i64 k ∧ Hid (idxP p l 0 = idxP p (l.drop k) k)) (fun _ i => n - (intOf i).toNat)
  case atStart => exact ⟨0, Nat.zero_le _, rfl, rfl⟩
  case round =>
    obtain ⟨k, hk, rfl, hI⟩ := hrel
    by_cases hlt : k < n
    · obtain ⟨b, off, rfl, hc⟩ := h.at_ hlt
      have hx := hl.getD k
      have hst := Lib.hid (idxP_drop p l k (by rw [hlen.out]; exact hlt))
      generalize hxe : l.getD k 0 = x at *
      clear hxe
      cases hpx : p x
      · go_wp2_with fail
        refine (Hp.out _ _ hx.1 hx.2).mono ?_
        rw [hpx]
        rintro e w' ⟨rfl, rfl⟩
        go_wp2_with fail
        go_round
        case rel => exact ⟨k + 1, by omega, by go_num, by rw [Hid, hI.out, hst.out, hpx]; rfl⟩
        case measure => simp [intOf]; omega
      · go_wp2_with fail
        refine (Hp.out _ _ hx.1 hx.2).mono ?_
        rw [hpx]
        rintro e w' ⟨rfl, rfl⟩
        go_wp2_with fail
        go_ret
        exact ⟨ret_int (by rw [hI.out, hst.out, hpx]; rfl), rfl⟩
    · have hkn : k = n := by omega
      subst hkn
      go_wp2
      go_ret
      exact ⟨ret_int (by rw [hI.out, List.drop_of_length_le (by rw [hlen.out]; omega)]; rfl), rfl⟩

theorem containsFunc_odd (A : Option Addr) (n c : Nat) (l : List Int) (w : World) (h : IL w A n c l) (hl : I64 l) :
    Calls Try.prog 83 #[.slice A n c, .func (.func 107) #[] #[]] w fun e w' => e = .returned (.bool (oddL l)) ∧ w = w' := by
  have e1 : decide (0 ≤ idxP (fun x => !isAtom x) l 0) = oddL l := by
    rw [oddL, Bool.eq_iff_iff]; simp only [decide_eq_true_eq]; exact idxP_any _ l 0
  generalize hy : idxP (fun x => !isAtom x) l 0 = y at *
  have HY := Lib.hid hy
  have E1 := Lib.hid e1
  clear hy e1
  go_enter Try.func83, Try.ntmps83
  go_wp2_with (first | (go_at_call 102; refine (indexFunc_odd _ odd1_any _ _ _ l _ h hl).mono ?_; rw [HY.out]; rintro e w' ⟨rfl, rfl⟩))
  go_ret
  exact ⟨ret_bool (by rw [← E1.out]), rfl⟩

theorem dodd_any (A : Option Addr) (n c : Nat) (l : List Int) (w : World) (h : IL w A n c l) (hl : I64 l) :
    Calls Try.prog 91 #[.slice A n c] w fun e w' => e = .returned (.bool (oddL l)) ∧ w = w' := by
  generalize hb : oddL l = b
  have HB := Lib.hid hb
  clear hb
  go_enter Try.func91, Try.ntmps91
  go_wp2_with (first | (go_at_call 83; refine (containsFunc_odd _ _ _ l _ h hl).mono ?_; rw [HB.out]; rintro e w' ⟨rfl, rfl⟩))
  go_ret
  exact ⟨rfl, rfl⟩

/-! ### Where a number is -/
set_option maxHeartbeats 400000 in
theorem index_any (v : Int) (A : Option Addr) (n c : Nat) (l : List Int) (w : World) (h : IL w A n c l) :
    Calls Try.prog 108 #[.slice A n c, .int .i64 v] w fun e w' => e = .returned (.int .i64 (idxP (· == v) l 0)) ∧ w = w' := by
  have hle := h.le
  have hcap := h.cap
  have hlen := Lib.hid h.len
  go_enter Try.func108, Try.ntmps108
  go_wp2_with fail
  go_loop [5, 8] (fun j i => ∃ k : Nat, k ≤ n ∧ i = .int .i64 k ∧ Hid (idxP (· == v) l 0 = idxP (· == v) (l.drop k) k)) (fun _ i => n - (intOf i).toNat)
  case atStart => exact ⟨0, Nat.zero_le _, rfl, rfl⟩
  case round =>
    obtain ⟨k, hk, rfl, hI⟩ := hrel
    by_cases hlt : k < n
    · obtain ⟨b, off, rfl, hc⟩ := h.at_ hlt
      have hst := Lib.hid (idxP_drop (· == v) l k (by rw [hlen.out]; exact hlt))
      generalize hxe : l.getD k 0 = x at *
      clear hxe
      by_cases hxv : v = x
      · have hxx : Hid ((x == v) = true) := by simp [Hid, hxv]
        have hee : (v == x) = true := by simpa using hxv
        clear hxv
        go_wp2_with fail
        go_ret
        exact ⟨ret_int (by rw [hI.out, hst.out, hxx.out]; rfl), rfl⟩
      · have hxx : Hid ((x == v) = false) := by simp [Hid]; omega
        have hee : (v == x) = false := by simpa using hxv
        clear hxv
        go_wp2_with fail
        go_round
        case rel => exact ⟨k + 1, by omega, by go_num, by rw [Hid, hI.out, hst.out, hxx.out]; rfl⟩
        case measure => simp [intOf]; omega
    · have hkn : k = n := by omega
      subst hkn
      go_wp2
      go_ret
      exact ⟨ret_int (by rw [hI.out, List.drop_of_length_le (by rw [hlen.out]; omega)]; rfl), rfl⟩

theorem contains_any (v : Int) (A : Option Addr) (n c : Nat) (l : List Int) (w : World) (h : IL w A n c l) :
    Calls Try.prog 109 #[.slice A n c, .int .i64 v] w fun e w' => e = .returned (.bool (l.any (· == v))) ∧ w = w' := by
  have e1 : decide (0 ≤ idxP (· == v) l 0) = l.any (· == v) := by
    rw [Bool.eq_iff_iff]; simp only [decide_eq_true_eq]; exact idxP_any _ l 0
  generalize hy : idxP (· == v) l 0 = y at *
  have HY := Lib.hid hy
  have E1 := Lib.hid e1
  clear hy e1
  go_enter Try.func109, Try.ntmps109
  go_wp2_with (first | (go_at_call 108; refine (index_any _ _ _ _ l _ h).mono ?_; rw [HY.out]; rintro e w' ⟨rfl, rfl⟩))
  go_ret
  exact ⟨ret_bool (by rw [← E1.out]), rfl⟩

/-! ### The draft of atoms, by definition -/
def preL (l : List Int) : List Int := l.takeWhile fun x => !(x == 10)
def postL (l : List Int) : List Int := (l.dropWhile fun x => !(x == 10)).tail
theorem idx_pre (l : List Int) (k : Nat) : idxP (· == 10) l k = if l.any (· == 10) then ((k + (preL l).length : Nat) : Int) else -1 := by
  induction l generalizing k with
  | nil => rfl
  | cons x l ih =>
    by_cases h : x = 10
    · subst h; simp [idxP, preL]
    · have hx : (x == 10) = false := by simpa using h
      simp only [idxP, preL, List.any_cons, hx, Bool.false_or, Bool.false_eq_true, if_false, List.takeWhile_cons, Bool.not_false, if_true, List.length_cons]
      rw [ih]
      simp only [preL]
      split
      · omega
      · rfl
theorem pre_take (l : List Int) : l.take (preL l).length = preL l := by
  unfold preL
  induction l with
  | nil => rfl
  | cons x l ih =>
    rw [List.takeWhile_cons]
    split
    · simp [ih]
    · rfl
theorem post_drop (l : List Int) (h : l.any (· == 10) = true) : l.drop ((preL l).length + 1) = postL l ∧ (preL l).length < l.length := by
  unfold preL postL
  induction l with
  | nil => simp at h
  | cons x l ih =>
    by_cases hx : x = 10
    · subst hx; simp
    · have hx2 : (x == 10) = false := by simpa using hx
      rw [List.any_cons, hx2, Bool.false_or] at h
      have := ih h
      simp only [List.takeWhile_cons, List.dropWhile_cons, hx2, Bool.not_false, if_true, List.length_cons, List.drop_succ_cons]
      exact ⟨this.1, by omega⟩

end Go.Proofs.Ytppkifdngjcbeaa
