/- The walks of small functions of the program. No condition. -/
import Derived.Test.YtaolimhbeoocjaaKit
import Derived.Test.YtaolimhbeoocjaaSpec
namespace Go.Proofs.Ytaolimhbeoocjaa
open Go.RowKit

/-- What a call hands back that makes a list of integers. -/
def RL (w : World) (l : List Int) (e : Ending) (w' : World) : Prop := ∃ A n c, e = .returned (.slice A n c) ∧ IL w' A n c l ∧ Below w.heap.size w w'
/-- What a call hands back that only computes, whatever it makes. -/
def RV (w : World) (v : Value) (e : Ending) (w' : World) : Prop := e = .returned v ∧ Below w.heap.size w w'
/-- It only reads: a value, and draws. -/
def RQ (w : World) (v : Value) (e : Ending) (w' : World) : Prop := e = .returned v ∧ ∃ k, w' = w.drewN k
theorem below_drewN (B : Nat) (w : World) (k : Nat) : Below B w (w.drewN k) := ⟨rfl, rfl, rfl, Nat.le_refl _, fun _ _ => rfl⟩
theorem RQ.rv {w : World} {v : Value} {e : Ending} {w' : World} (h : RQ w v e w') : RV w v e w' := by
  obtain ⟨he, k, rfl⟩ := h
  exact ⟨he, below_drewN _ _ _⟩
/-- What a call hands back that makes a list of integers of its own. -/
def RO (w : World) (l : List Int) (e : Ending) (w' : World) : Prop := ∃ A n c, e = .returned (.slice A n c) ∧ OL w' w.heap.size A n c l ∧ Below w.heap.size w w'
theorem RO.rl {w : World} {l : List Int} {e : Ending} {w' : World} (h : RO w l e w') : RL w l e w' := by
  obtain ⟨A, n, c, he, ho, hb⟩ := h
  exact ⟨A, n, c, he, ho.il, hb⟩

theorem ret_int {k : IntKind} {a b : Int} (h : a = b) : Ending.returned (.int k a) = .returned (.int k b) := by rw [h]
theorem ret_bool {a b : Bool} (h : a = b) : Ending.returned (.bool a) = .returned (.bool b) := by rw [h]

def I64 (l : List Int) : Prop := ∀ x, x ∈ l → -9223372036854775808 ≤ x ∧ x ≤ 9223372036854775807
theorem I64.getD {l : List Int} (h : I64 l) (k : Nat) : -9223372036854775808 ≤ l.getD k 0 ∧ l.getD k 0 ≤ 9223372036854775807 := by
  by_cases hk : k < l.length
  · have : l.getD k 0 = l[k] := by simp [List.getD, List.getElem?_eq_getElem hk]
    rw [this]
    exact h _ (List.getElem_mem hk)
  · have : l.getD k 0 = 0 := by simp [List.getD, List.getElem?_eq_none (show l.length ≤ k by omega)]
    omega

theorem around_any (n m : Int) (w : World) (hn : -9223372036854775808 ≤ n) (hn2 : n ≤ 9223372036854775807) (hm : 1 ≤ m) (hm2 : m ≤ 100000) :
    Calls Try.prog 8 #[.int .i64 n, .int .i64 m] w fun e w' => e = .returned (.int .i64 (around n m)) ∧ w = w' := by
  go_enter Try.func8, Try.ntmps8
  go_wp2
  · go_ret
    exact ⟨ret_int (by unfold around; rw [if_pos (by assumption)]; rw [← Int.neg_tmod]; exact Int.tmod_eq_emod_of_nonneg (show (0 : Int) ≤ -(n + 1) by omega)), rfl⟩
  · go_ret
    exact ⟨ret_int (by unfold around; rw [if_neg (by omega)]), rfl⟩

theorem goodL_succ (l : List Int) (k : Nat) (hk : k < l.length) : goodL l (k + 1) = goodL l k ++ [around (l.getD k 0) 10] := by
  unfold goodL
  have e : l.getD k 0 = l[k] := by simp [List.getD, List.getElem?_eq_getElem hk]
  rw [List.take_succ_eq_append_getElem hk, List.map_append, e]
  rfl
theorem goodL_all (l : List Int) (k m : Nat) (h : l.length ≤ k) (h2 : l.length ≤ m) : goodL l k = goodL l m := by
  unfold goodL
  rw [List.take_of_length_le h, List.take_of_length_le h2]

set_option maxHeartbeats 400000 in
theorem goodo_any (A : Option Addr) (n c most : Nat) (l : List Int) (w : World) (h : IL w A n c l) (hl : I64 l) (hm : most ≤ 100000) :
    Calls Try.prog 21 #[.slice A n c, .int .i64 (most : Int)] w (RO w (goodL l most)) := by
  have hle := h.le
  have hcap := h.cap
  have hlen := Lib.hid h.len
  go_enter Try.func21, Try.ntmps21
  go_wp2
  go_loopw [5, 6] (fun v i wr => ∃ (k : Nat) (A' : Option Addr) (c' : Nat), k ≤ n ∧ k ≤ most ∧ i = .int .i64 k ∧ v = .slice A' k c' ∧ OL wr w.heap.size A' k c' (goodL l k) ∧ Below w.heap.size w wr)
    (fun _ i _ => n - (intOf i).toNat)
  case atStart => exact ⟨0, none, 0, Nat.zero_le _, Nat.zero_le _, rfl, rfl, by simpa [goodL] using OL.nil _ _, Below.refl _ _⟩
  case round =>
    obtain ⟨k, A', c', hk, hkm, rfl, rfl, hO, hB⟩ := hrel
    have hsz := hB.size
    by_cases hlt : k < n
    · by_cases hlm : k < most
      · obtain ⟨b, off, rfl, hc⟩ := (h.below hB).at_ hlt
        have hx := hl.getD k
        generalize hxe : l.getD k 0 = x at *
        have Hxe := Lib.hid hxe
        clear hxe
        go_wp2_with (first
          | (go_at_call 8; refine (around_any _ _ _ hx.1 hx.2 (by omega) (by omega)).mono ?_; rintro e w' ⟨rfl, rfl⟩)
          | (at_builtin; refine wpList_append_OL w.heap.size rfl _ _ rfl rfl rfl (hO.alloc _) (IL.one _ _ _) (by simp; omega) (by omega) ?_; intro A2 c2 w2 hO2 hB2 hg2))
        go_roundw
        case rel => exact ⟨k + 1, A2, c2, by omega, by omega, by go_num, rfl, by rw [goodL_succ l k (by rw [hlen.out]; exact hlt), Hxe.out]; exact hO2, (hB.alloc hsz _).trans hB2⟩
        case measure => simp [intOf]; omega
      · have hkm' : k = most := by omega
        subst hkm'
        go_wp2
        go_ret
        exact ⟨_, _, _, rfl, hO, hB⟩
    · have hkn : k = n := by omega
      subst hkn
      go_wp2
      go_ret
      exact ⟨_, _, _, rfl, by rw [goodL_all l most k (by rw [hlen.out]; omega) (by rw [hlen.out]; omega)]; exact hO, hB⟩

theorem good_any (A : Option Addr) (n c most : Nat) (l : List Int) (w : World) (h : IL w A n c l) (hl : I64 l) (hm : most ≤ 100000) :
    Calls Try.prog 21 #[.slice A n c, .int .i64 (most : Int)] w (RL w (goodL l most)) :=
  (goodo_any A n c most l w h hl hm).mono fun _ _ h => RO.rl h

end Go.Proofs.Ytaolimhbeoocjaa
