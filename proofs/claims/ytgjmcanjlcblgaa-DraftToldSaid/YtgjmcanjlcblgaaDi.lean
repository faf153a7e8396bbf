/- The walks of what the drafts look for in lists. No condition. -/
import Derived.Test.YtgjmcanjlcblgaaRb
import Derived.Test.YtgjmcanjlcblgaaExt
namespace Go.Proofs.Ytgjmcanjlcblgaa
open Go.RowKit

set_option maxHeartbeats 400000 in
theorem equal_any (A : Option Addr) (n c : Nat) (l : List Int) (A2 : Option Addr) (n2 c2 : Nat) (l2 : List Int) (w : World) (h : IL w A n c l) (h2 : IL w A2 n2 c2 l2) :
    Calls Try.prog 70 #[.slice A n c, .slice A2 n2 c2] w (RQ w (.bool (l == l2))) := by
  have hle := h.le
  have hcap := h.cap
  have hle2 := h2.le
  have hcap2 := h2.cap
  have hlen := Lib.hid h.len
  have hlen2 := Lib.hid h2.len
  by_cases hn : n = n2
  · subst hn
    go_enter Try.func70, Try.ntmps70
    go_wp2
    go_loopw [5, 13] (fun _ i wr => ∃ k j : Nat, k ≤ n ∧ i = .int .i64 k ∧ Hid ((l == l2) = (l.drop k == l2.drop k)) ∧ wr = w.drewN j) (fun _ i _ => n - (intOf i).toNat)
    case atStart => exact ⟨0, 0, Nat.zero_le _, rfl, rfl, rfl⟩
    case round =>
      obtain ⟨k, j, hk, rfl, hI, rfl⟩ := hrel
      by_cases hlt : k < n
      · obtain ⟨b, off, rfl, hc⟩ := h.at_ hlt
        obtain ⟨b2, off2, rfl, hc2⟩ := h2.at_ hlt
        have hst := Lib.hid (eq_from (a := l) (b := l2) (k := k) (by rw [hlen.out]; exact hlt) (by rw [hlen2.out]; exact hlt))
        generalize l.getD k 0 = x at *
        generalize l2.getD k 0 = y at *
        have hlt' : (k : Int) < (n : Int) := by omega
        have hk0 : (0 : Int) ≤ (k : Int) := by omega
        by_cases hxy : x = y
        · have hxx : Hid ((x == y) = true) := by simpa [Hid] using hxy
          have hne : (x != y) = false := by simpa using hxy
          clear hxy
          go_wp2
          go_quiet (fail)
          go_wp2
          go_roundw
          case rel => exact ⟨k + 1, _, by omega, by go_num, by rw [Hid, hI.out, hst.out, hxx.out]; rfl, by first | rfl | exact World.drewN_drewN _ _ _⟩
          case measure => simp [intOf]; omega
        · have hxx : Hid ((x == y) = false) := by simpa [Hid] using hxy
          have hne : (x != y) = true := by simpa using hxy
          clear hxy
          go_wp2
          go_quiet (fail)
          go_wp2
          go_ret
          exact ⟨ret_bool (by rw [hI.out, hst.out, hxx.out]; rfl), _, by first | rfl | exact World.drewN_drewN _ _ _⟩
      · have hkn : k = n := by omega
        subst hkn
        go_wp2
        go_ret
        exact ⟨ret_bool (by rw [hI.out, List.drop_of_length_le (by rw [hlen.out]; omega), List.drop_of_length_le (by rw [hlen2.out]; omega)]; rfl), j, rfl⟩
  · have e1 : (l == l2) = false := by
      rw [beq_eq_false_iff_ne]
      intro he
      exact hn (by rw [← hlen.out, ← hlen2.out, he])
    have E1 := Lib.hid e1
    clear e1
    go_enter Try.func70, Try.ntmps70
    go_wp2
    go_ret
    exact ⟨ret_bool (by rw [E1.out]), 0, rfl⟩

/-! ### What is no atom -/
def isAtom (x : Int) : Bool := decide (0 ≤ x) && decide (x ≤ 10)
def oddL (l : List Int) : Bool := l.any fun x => !isAtom x

theorem odd1_any (x : Int) (w : World) (h1 : -9223372036854775808 ≤ x) (h2 : x ≤ 9223372036854775807) :
    Calls Try.prog 94 #[.int .i64 x] w fun e w' => e = .returned (.bool (!isAtom x)) ∧ w = w' := by
  by_cases h : x < 0
  · go_enter Try.func94, Try.ntmps94
    go_wp2
    go_ret
    exact ⟨ret_bool (by simp [isAtom]; omega), rfl⟩
  · go_enter Try.func94, Try.ntmps94
    go_wp2
    go_ret
    exact ⟨ret_bool (by rw [Bool.eq_iff_iff]; simp [isAtom]; omega), rfl⟩

set_option maxHeartbeats 400000 in
theorem indexFunc_odd (p : Int → Bool) (hp : ∀ (x : Int) (W : World), -9223372036854775808 ≤ x → x ≤ 9223372036854775807 → Calls Try.prog 94 #[.int .i64 x] W fun e W' => e = .returned (.bool (p x)) ∧ W = W')
    (A : Option Addr) (n c : Nat) (l : List Int) (w : World) (h : IL w A n c l) (hl : I64 l) :
    Calls Try.prog 81 #[.slice A n c, .func (.func 94) #[] #[]] w fun e w' => e = .returned (.int .i64 (idxP p l 0)) ∧ w = w' := by
  have hle := h.le
  have hcap := h.cap
  have hlen := Lib.hid h.len
  have Hp := Lib.hid hp
  clear hp
  go_enter Try.func81, Try.ntmps81
  go_wp2_with fail
  go_loop [5, 8] (fun j i => ∃ k : Nat, k ≤ n ∧ i = .int .i64 k ∧ Hid (idxP p l 0 = idxP p (l.drop k) k)) (fun _ i => n - (intOf i).toNat)
  case atStart => exact ⟨0, Nat.zero_le _, rfl, rfl⟩
  case round =>
    obtain ⟨k, hk, rfl, hI⟩ := hrel
    by_cases hlt : k < n
    · obtain ⟨b, off, rfl, hc⟩ := h.at_ hlt
      have hx := hl.getD k
      have hst := Lib.hid (idxP_drop p l k (by rw [hlen.out]; exact hlt))
      generalize hxe : l.getD k 0 = x at *
      clear hxe
      cases hpx : p x
      · go_wp2_with fail
        refine (Hp.out _ _ hx.1 hx.2).mono ?_
        rw [hpx]
        rintro e w' ⟨rfl, rfl⟩
        go_wp2_with fail
        go_round
        case rel => exact ⟨k + 1, by omega, by go_num, by rw [Hid, hI.out, hst.out, hpx]; rfl⟩
        case measure => simp [intOf]; omega
      · go_wp2_with fail
        refine (Hp.out _ _ hx.1 hx.2).mono ?_
        rw [hpx]
        rintro e w' ⟨rfl, rfl⟩
        go_wp2_with fail
        go_ret
        exact ⟨ret_int (by rw [hI.out, hst.out, hpx]; rfl), rfl⟩
    · have hkn : k = n := by omega
      subst hkn
      go_wp2
      go_ret
      exact ⟨ret_int (by rw [hI.out, List.drop_of_length_le (by rw [hlen.out]; omega)]; rfl), rfl⟩

theorem containsFunc_odd (A : Option Addr) (n c : Nat) (l : List Int) (w : World) (h : IL w A n c l) (hl : I64 l) :
    Calls Try.prog 87 #[.slice A n c, .func (.func 94) #[] #[]] w fun e w' => e = .returned (.bool (oddL l)) ∧ w = w' := by
  have e1 : decide (0 ≤ idxP (fun x => !isAtom x) l 0) = oddL l := by
    rw [oddL, Bool.eq_iff_iff]; simp only [decide_eq_true_eq]; exact idxP_any _ l 0
  generalize hy : idxP (fun x => !isAtom x) l 0 = y at *
  have HY := Lib.hid hy
  have E1 := Lib.hid e1
  clear hy e1
  go_enter Try.func87, Try.ntmps87
  go_wp2_with (first | (go_at_call 81; refine (indexFunc_odd _ odd1_any _ _ _ l _ h hl).mono ?_; rw [HY.out]; rintro e w' ⟨rfl, rfl⟩))
  go_ret
  exact ⟨ret_bool (by rw [← E1.out]), rfl⟩

theorem dodd_any (A : Option Addr) (n c : Nat) (l : List Int) (w : World) (h : IL w A n c l) (hl : I64 l) :
    Calls Try.prog 67 #[.slice A n c] w fun e w' => e = .returned (.bool (oddL l)) ∧ w = w' := by
  generalize hb : oddL l = b
  have HB := Lib.hid hb
  clear hb
  go_enter Try.func67, Try.ntmps67
  go_wp2_with (first | (go_at_call 87; refine (containsFunc_odd _ _ _ l _ h hl).mono ?_; rw [HB.out]; rintro e w' ⟨rfl, rfl⟩))
  go_ret
  exact ⟨rfl, rfl⟩

/-! ### Where a number is -/
set_option maxHeartbeats 400000 in
theorem index_any (v : Int) (A : Option Addr) (n c : Nat) (l : List Int) (w : World) (h : IL w A n c l) :
    Calls Try.prog 95 #[.slice A n c, .int .i64 v] w fun e w' => e = .returned (.int .i64 (idxP (· == v) l 0)) ∧ w = w' := by
  have hle := h.le
  have hcap := h.cap
  have hlen := Lib.hid h.len
  go_enter Try.func95, Try.ntmps95
  go_wp2_with fail
  go_loop [5, 8] (fun j i => ∃ k : Nat, k ≤ n ∧ i = .int .i64 k ∧ Hid (idxP (· == v) l 0 = idxP (· == v) (l.drop k) k)) (fun _ i => n - (intOf i).toNat)
  case atStart => exact ⟨0, Nat.zero_le _, rfl, rfl⟩
  case round =>
    obtain ⟨k, hk, rfl, hI⟩ := hrel
    by_cases hlt : k < n
    · obtain ⟨b, off, rfl, hc⟩ := h.at_ hlt
      have hst := Lib.hid (idxP_drop (· == v) l k (by rw [hlen.out]; exact hlt))
      generalize hxe : l.getD k 0 = x at *
      clear hxe
      by_cases hxv : v = x
      · have hxx : Hid ((x == v) = true) := by simp [Hid, hxv]
        have hee : (v == x) = true := by simpa using hxv
        clear hxv
        go_wp2_with fail
        go_ret
        exact ⟨ret_int (by rw [hI.out, hst.out, hxx.out]; rfl), rfl⟩
      · have hxx : Hid ((x == v) = false) := by simp [Hid]; omega
        have hee : (v == x) = false := by simpa using hxv
        clear hxv
        go_wp2_with fail
        go_round
        case rel => exact ⟨k + 1, by omega, by go_num, by rw [Hid, hI.out, hst.out, hxx.out]; rfl⟩
        case measure => simp [intOf]; omega
    · have hkn : k = n := by omega
      subst hkn
      go_wp2
      go_ret
      exact ⟨ret_int (by rw [hI.out, List.drop_of_length_le (by rw [hlen.out]; omega)]; rfl), rfl⟩

theorem contains_any (v : Int) (A : Option Addr) (n c : Nat) (l : List Int) (w : World) (h : IL w A n c l) :
    Calls Try.prog 96 #[.slice A n c, .int .i64 v] w fun e w' => e = .returned (.bool (l.any (· == v))) ∧ w = w' := by
  have e1 : decide (0 ≤ idxP (· == v) l 0) = l.any (· == v) := by
    rw [Bool.eq_iff_iff]; simp only [decide_eq_true_eq]; exact idxP_any _ l 0
  generalize hy : idxP (· == v) l 0 = y at *
  have HY := Lib.hid hy
  have E1 := Lib.hid e1
  clear hy e1
  go_enter Try.func96, Try.ntmps96
  go_wp2_with (first | (go_at_call 95; refine (index_any _ _ _ _ l _ h).mono ?_; rw [HY.out]; rintro e w' ⟨rfl, rfl⟩))
  go_ret
  exact ⟨ret_bool (by rw [← E1.out]), rfl⟩

/-! ### The draft of atoms, by definition -/
def preL (l : List Int) : List Int := l.takeWhile fun x => !(x == 10)
def postL (l : List Int) : List Int := (l.dropWhile fun x => !(x == 10)).tail
theorem idx_pre (l : List Int) (k : Nat) : idxP (· == 10) l k = if l.any (· == 10) then ((k + (preL l).length : Nat) : Int) else -1 := by
  induction l generalizing k with
  | nil => rfl
  | cons x l ih =>
    by_cases h : x = 10
    · subst h; simp [idxP, preL]
    · have hx : (x == 10) = false := by simpa using h
      simp only [idxP, preL, List.any_cons, hx, Bool.false_or, Bool.false_eq_true, if_false, List.takeWhile_cons, Bool.not_false, if_true, List.length_cons]
      rw [ih]
      simp only [preL]
      split
      · omega
      · rfl
theorem pre_take (l : List Int) : l.take (preL l).length = preL l := by
  unfold preL
  induction l with
  | nil => rfl
  | cons x l ih =>
    rw [List.takeWhile_cons]
    split
    · simp [ih]
    · rfl
theorem post_drop (l : List Int) (h : l.any (· == 10) = true) : l.drop ((preL l).length + 1) = postL l ∧ (preL l).length < l.length := by
  unfold preL postL
  induction l with
  | nil => simp at h
  | cons x l ih =>
    by_cases hx : x = 10
    · subst hx; simp
    · have hx2 : (x == 10) = false := by simpa using hx
      rw [List.any_cons, hx2, Bool.false_or] at h
      have := ih h
      simp only [List.takeWhile_cons, List.dropWhile_cons, hx2, Bool.not_false, if_true, List.length_cons, List.drop_succ_cons]
      exact ⟨this.1, by omega⟩

end Go.Proofs.Ytgjmcanjlcblgaa
