/- The walks of small functions of the program. No condition. -/
import Derived.Test.YtegmdjfohlomnaaDoorKit
import Derived.Test.YtegmdjfohlomnaaDoorSpec
namespace Go.Proofs.YtegmdjfohlomnaaDoor
open Go.RowKit

/-- What a call hands back that makes a list of integers. -/
def RL (w : World) (l : List Int) (e : Ending) (w' : World) : Prop := ∃ A n c, e = .returned (.slice A n c) ∧ IL w' A n c l ∧ Below w.heap.size w w'
/-- What a call hands back that only computes, whatever it makes. -/
def RV (w : World) (v : Value) (e : Ending) (w' : World) : Prop := e = .returned v ∧ Below w.heap.size w w'
/-- It only reads: a value, and draws. -/
def RQ (w : World) (v : Value) (e : Ending) (w' : World) : Prop := e = .returned v ∧ ∃ k, w' = w.drewN k
theorem below_drewN (B : Nat) (w : World) (k : Nat) : Below B w (w.drewN k) := ⟨rfl, rfl, rfl, Nat.le_refl _, fun _ _ => rfl⟩
theorem RQ.rv {w : World} {v : Value} {e : Ending} {w' : World} (h : RQ w v e w') : RV w v e w' := by
  obtain ⟨he, k, rfl⟩ := h
  exact ⟨he, below_drewN _ _ _⟩
/-- What a call hands back that makes a list of integers of its own. -/
def RO (w : World) (l : List Int) (e : Ending) (w' : World) : Prop := ∃ A n c, e = .returned (.slice A n c) ∧ OL w' w.heap.size A n c l ∧ Below w.heap.size w w'
theorem RO.rl {w : World} {l : List Int} {e : Ending} {w' : World} (h : RO w l e w') : RL w l e w' := by
  obtain ⟨A, n, c, he, ho, hb⟩ := h
  exact ⟨A, n, c, he, ho.il, hb⟩

theorem ret_int {k : IntKind} {a b : Int} (h : a = b) : Ending.returned (.int k a) = .returned (.int k b) := by rw [h]
theorem ret_bool {a b : Bool} (h : a = b) : Ending.returned (.bool a) = .returned (.bool b) := by rw [h]

def I64 (l : List Int) : Prop := ∀ x, x ∈ l → -9223372036854775808 ≤ x ∧ x ≤ 9223372036854775807
theorem I64.getD {l : List Int} (h : I64 l) (k : Nat) : -9223372036854775808 ≤ l.getD k 0 ∧ l.getD k 0 ≤ 9223372036854775807 := by
  by_cases hk : k < l.length
  · have : l.getD k 0 = l[k] := by simp [List.getD, List.getElem?_eq_getElem hk]
    rw [this]
    exact h _ (List.getElem_mem hk)
  · have : l.getD k 0 = 0 := by simp [List.getD, List.getElem?_eq_none (show l.length ≤ k by omega)]
    omega

theorem around_any (n m : Int) (w : World) (hn : -9223372036854775808 ≤ n) (hn2 : n ≤ 9223372036854775807) (hm : 1 ≤ m) (hm2 : m ≤ 100000) :
    Calls Tryd.prog 25 #[.int .i64 n, .int .i64 m] w fun e w' => e = .returned (.int .i64 (around n m)) ∧ w = w' := by
  go_enter Tryd.func25, Tryd.ntmps25
  go_wp2
  · go_ret
    exact ⟨ret_int (by unfold around; rw [if_pos (by assumption)]; rw [← Int.neg_tmod]; exact Int.tmod_eq_emod_of_nonneg (show (0 : Int) ≤ -(n + 1) by omega)), rfl⟩
  · go_ret
    exact ⟨ret_int (by unfold around; rw [if_neg (by omega)]), rfl⟩

theorem goodL_succ (l : List Int) (k : Nat) (hk : k < l.length) : goodL l (k + 1) = goodL l k ++ [around (l.getD k 0) 10] := by
  unfold goodL
  have e : l.getD k 0 = l[k] := by simp [List.getD, List.getElem?_eq_getElem hk]
  rw [List.take_succ_eq_append_getElem hk, List.map_append, e]
  rfl
theorem goodL_all (l : List Int) (k m : Nat) (h : l.length ≤ k) (h2 : l.length ≤ m) : goodL l k = goodL l m := by
  unfold goodL
  rw [List.take_of_length_le h, List.take_of_length_le h2]

end Go.Proofs.YtegmdjfohlomnaaDoor
