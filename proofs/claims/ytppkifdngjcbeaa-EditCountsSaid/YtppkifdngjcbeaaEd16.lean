/- Made points, in a row of the call's own; a row's numbers, changed in place. No condition. -/
import Derived.Test.YtppkifdngjcbeaaDr2
namespace Go.Proofs.Ytppkifdngjcbeaa
open Go.RowKit

set_option maxHeartbeats 400000 in
theorem points_own (A : Option Addr) (n c most : Nat) (l : List Int) (w : World) (h : IL w A n c l) (hl : I64 l) (hm : most ≤ 100000) :
    Calls Try.prog 38 #[.slice A n c, .int .i64 (most : Int)] w
      (fun e w' => ∃ (A' : Option Addr) (n' c' : Nat), e = .returned (.slice A' n' c') ∧ w'.ownsRow w.heap.size 3 1 (.slice A' n' c') n' ((goodL11 l most).map (Value.int .i64)) ∧ Below w.heap.size w w') := by
  have hle := h.le
  have hcap := h.cap
  have hlen := Lib.hid h.len
  go_enter Try.func38, Try.ntmps38
  go_wp2
  go_loopw [5, 6] (fun v i wr => ∃ (k : Nat) (A' : Option Addr) (c' : Nat), k ≤ n ∧ k ≤ most ∧ i = .int .i64 k ∧ v = .slice A' k c' ∧ wr.ownsRow w.heap.size 3 1 (.slice A' k c') k ((goodL11 l k).map (Value.int .i64)) ∧ Below w.heap.size w wr)
    (fun _ i _ => n - (intOf i).toNat)
  case atStart => exact ⟨0, none, 0, Nat.zero_le _, Nat.zero_le _, rfl, rfl, by simpa [goodL11] using World.ownsRow_nil w _ _ 1, Below.refl _ _⟩
  case round =>
    obtain ⟨k, A', c', hk, hkm, rfl, rfl, hR, hB⟩ := hrel
    have hsz := hB.size
    by_cases hlt : k < n
    · by_cases hlm : k < most
      · obtain ⟨b, off, rfl, hc⟩ := (h.below hB).at_ hlt
        have hx := hl.getD k
        have hO : OL wr w.heap.size A' k c' (goodL11 l k) := ⟨VL.of_own hR, .inr hR⟩
        clear hR
        generalize hxe : l.getD k 0 = x at *
        have Hxe := Lib.hid hxe
        clear hxe
        go_wp2_with (first
          | (go_at_call 19; refine (around_any _ _ _ hx.1 hx.2 (by omega) (by omega)).mono ?_; rintro e w' ⟨rfl, rfl⟩)
          | (at_builtin; refine wpList_append_OL w.heap.size rfl _ _ rfl rfl rfl (hO.alloc _) (IL.one _ _ _) (by simp; omega) (by omega) ?_; intro A2 c2 w2 _hO2 hB2 hg2))
        go_roundw
        case rel => exact ⟨k + 1, A2, c2, by omega, by omega, by go_num, rfl, by rw [goodL11_succ l k (by rw [hlen.out]; exact hlt), Hxe.out]; exact hg2.2.1 (by omega), (hB.alloc hsz _).trans hB2⟩
        case measure => simp [intOf]; omega
      · have hkm' : k = most := by omega
        subst hkm'
        go_wp2
        go_ret
        exact ⟨_, _, _, rfl, hR, hB⟩
    · have hkn : k = n := by omega
      subst hkn
      go_wp2
      go_ret
      exact ⟨_, _, _, rfl, by rw [goodL11_all l most k (by rw [hlen.out]; omega) (by rw [hlen.out]; omega)]; exact hR, hB⟩

/-- The first k of them, each without its tens. -/
def modTo (l : List Int) (k : Nat) : List Int := (l.take k).map (fun x => x % 10) ++ l.drop k
theorem modTo_zero (l : List Int) : modTo l 0 = l := by simp [modTo]
theorem modTo_all (l : List Int) {k : Nat} (h : l.length ≤ k) : modTo l k = l.map (fun x => x % 10) := by simp [modTo, List.take_of_length_le h, List.drop_of_length_le h]
theorem modTo_len (l : List Int) (k : Nat) : (modTo l k).length = l.length := by simp [modTo]; omega
theorem modTo_at {l : List Int} {k : Nat} (h : k < l.length) : ((modTo l k).map (Value.int .i64))[k]? = some (.int .i64 (l.getD k 0)) := by
  have e : (List.take k l).length = k := by simp; omega
  simp [modTo, List.getElem?_append_right, Nat.min_eq_left (Nat.le_of_lt h), List.getElem?_drop, List.getD, List.getElem?_eq_getElem h]
theorem modTo_step {l : List Int} {k : Nat} (h : k < l.length) : ((modTo l k).map (Value.int .i64)).set k (.int .i64 (l.getD k 0 % 10)) = (modTo l (k + 1)).map (Value.int .i64) := by
  have e : l.getD k 0 = l[k] := by simp [List.getD, List.getElem?_eq_getElem h]
  unfold modTo
  rw [List.take_succ_eq_append_getElem h, List.drop_eq_getElem_cons h, e, List.map_append, List.map_append, List.map_append, List.map_append]
  rw [List.set_append_right _ _ (by simp; omega)]
  have hd : List.drop k (List.map (Value.int IntKind.i64) l) = Value.int IntKind.i64 l[k] :: List.drop (k + 1) (List.map (Value.int IntKind.i64) l) := by
    rw [← List.map_drop, List.drop_eq_getElem_cons h, List.map_cons, ← List.map_drop]
  simp [Nat.min_eq_left (Nat.le_of_lt h), hd]
theorem tmod_digit {x : Int} (h : 0 ≤ x) : x.tmod 10 = x % 10 := Int.tmod_eq_emod_of_nonneg h

end Go.Proofs.Ytppkifdngjcbeaa
