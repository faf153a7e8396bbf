/- The walks of the program's arithmetic on lists of digits. No condition. -/
import Derived.Test.YtaolimhbeoocjaaDb
import Derived.Lib.SliceRun
namespace Go.Proofs.Ytaolimhbeoocjaa
open Go.RowKit

theorem I64_of_may {l : List Int} (h : mayL l = true) : I64 l := fun x hx => by
  have := mayL_iff.1 h x hx
  omega

theorem trim_any (A : Option Addr) (n c : Nat) (l : List Int) (w : World) (h : IL w A n c l) (hl : I64 l) (hn : n ≤ 100000000) :
    Calls Try.prog 49 #[.slice A n c] w (RO w (trimL l)) := by
  have hcap := h.cap
  have hle := h.le
  have hz : zerosL l ≤ n := by have := zerosL_le l; have := h.len; omega
  have hc := trimL_drop l
  generalize hzz : zerosL l = z at *
  have HC := Lib.hid hc
  have HZ := Lib.hid hzz
  clear hc hzz
  go_enter Try.func49, Try.ntmps49
  go_wp2_with (first
    | (go_at_call 59; refine (zeros_any _ _ _ l _ h hl).mono ?_; rw [HZ.out]; rintro e w' ⟨rfl, rfl⟩)
    | (go_at_call 57; go_must (refine (clone_any _ _ _ (l.drop z) _ (h.drop hz _ (by intro hk; first | (exfalso; omega) | rfl | exact if_neg (by omega))) (by omega)).mono ?_); rintro e w' ⟨A', n', c', rfl, hO, hB⟩))
  all_goals
    go_ret
    exact ⟨_, _, _, rfl, by rw [HC.out]; exact hO, hB⟩

/-- The digit at a place from the end on. -/
theorem from_any (A : Option Addr) (n c i : Nat) (l : List Int) (w : World) (h : IL w A n c l) (hi : i ≤ 1000000) :
    Calls Try.prog 48 #[.slice A n c, .int .i64 (i : Int)] w fun e w' => e = .returned (.int .i64 (digL l i)) ∧ w = w' := by
  have hcap := h.cap
  have hle := h.le
  have hlen := h.len
  by_cases hlt : i < n
  · obtain ⟨b, off, rfl, hc⟩ := h.at_ (k := n - 1 - i) (by omega)
    have e1 : digL l i = l.getD (n - 1 - i) 0 := by unfold digL; rw [if_pos (by omega), hlen]
    have E1 := Lib.hid e1
    clear e1 hlen
    go_enter Try.func48, Try.ntmps48
    go_wp2
    go_ret
    exact ⟨ret_int (by rw [E1.out]; simp), rfl⟩
  · have e1 : digL l i = 0 := by unfold digL; rw [if_neg (by omega)]
    have E1 := Lib.hid e1
    clear e1 hlen
    go_enter Try.func48, Try.ntmps48
    go_wp2
    go_ret
    exact ⟨ret_int (by rw [E1.out]), rfl⟩

end Go.Proofs.Ytaolimhbeoocjaa
