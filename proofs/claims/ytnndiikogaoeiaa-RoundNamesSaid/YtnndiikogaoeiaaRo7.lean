/- The walks of round.Mode, and of slices.Index of strings. No condition. -/
import Derived.Test.YtnndiikogaoeiaaRo5
namespace Go.Proofs.Ytnndiikogaoeiaa
open Go.RowKit

def modeS (s : ByteArray) : Int :=
  if s = nameB 0 then 0 else if s = nameB 1 then 1 else if s = nameB 2 then 2 else if s = nameB 3 then 3 else if s = nameB 4 then 4 else if s = nameB 5 then 5 else if s = nameB 6 then 6 else -1
theorem modeS_at {s : ByteArray} {i : Nat} (hi : i < 7) (h0 : ∀ j : Nat, j < i → s ≠ nameB j) (h : s = nameB i) : modeS s = i := by
  have hc : i = 0 ∨ i = 1 ∨ i = 2 ∨ i = 3 ∨ i = 4 ∨ i = 5 ∨ i = 6 := by omega
  unfold modeS
  rcases hc with rfl | rfl | rfl | rfl | rfl | rfl | rfl
  · rw [if_pos (show s = nameB 0 from h)]; rfl
  · rw [if_neg (show s ≠ nameB 0 from h0 0 (by omega)), if_pos (show s = nameB 1 from h)]; rfl
  · rw [if_neg (show s ≠ nameB 0 from h0 0 (by omega)), if_neg (show s ≠ nameB 1 from h0 1 (by omega)), if_pos (show s = nameB 2 from h)]; rfl
  · rw [if_neg (show s ≠ nameB 0 from h0 0 (by omega)), if_neg (show s ≠ nameB 1 from h0 1 (by omega)), if_neg (show s ≠ nameB 2 from h0 2 (by omega)), if_pos (show s = nameB 3 from h)]; rfl
  · rw [if_neg (show s ≠ nameB 0 from h0 0 (by omega)), if_neg (show s ≠ nameB 1 from h0 1 (by omega)), if_neg (show s ≠ nameB 2 from h0 2 (by omega)), if_neg (show s ≠ nameB 3 from h0 3 (by omega)), if_pos (show s = nameB 4 from h)]; rfl
  · rw [if_neg (show s ≠ nameB 0 from h0 0 (by omega)), if_neg (show s ≠ nameB 1 from h0 1 (by omega)), if_neg (show s ≠ nameB 2 from h0 2 (by omega)), if_neg (show s ≠ nameB 3 from h0 3 (by omega)), if_neg (show s ≠ nameB 4 from h0 4 (by omega)), if_pos (show s = nameB 5 from h)]; rfl
  · rw [if_neg (show s ≠ nameB 0 from h0 0 (by omega)), if_neg (show s ≠ nameB 1 from h0 1 (by omega)), if_neg (show s ≠ nameB 2 from h0 2 (by omega)), if_neg (show s ≠ nameB 3 from h0 3 (by omega)), if_neg (show s ≠ nameB 4 from h0 4 (by omega)), if_neg (show s ≠ nameB 5 from h0 5 (by omega)), if_pos (show s = nameB 6 from h)]; rfl
theorem modeS_none {s : ByteArray} (h0 : ∀ j : Nat, j < 7 → s ≠ nameB j) : modeS s = -1 := by
  unfold modeS
  rw [if_neg (show s ≠ nameB 0 from h0 0 (by omega)), if_neg (show s ≠ nameB 1 from h0 1 (by omega)), if_neg (show s ≠ nameB 2 from h0 2 (by omega)), if_neg (show s ≠ nameB 3 from h0 3 (by omega)), if_neg (show s ≠ nameB 4 from h0 4 (by omega)), if_neg (show s ≠ nameB 5 from h0 5 (by omega)), if_neg (show s ≠ nameB 6 from h0 6 (by omega))]
theorem modeS_bd (s : ByteArray) : -1 ≤ modeS s ∧ modeS s < 7 := by
  unfold modeS
  repeat (first | (split; omega) | omega)
/-- The names lie there. -/
def NamesAt (b : Nat) (W : World) : Prop := ∀ i : Nat, i < 7 → W.cell? ⟨b, i, none⟩ = some (.string (nameB i))
theorem names_at (w : World) (b : Nat) (hb : b = w.heap.size) : NamesAt b (w.alloc (.cells nameCells 9)) := by
  intro i hi
  subst hb
  rw [World.cell?_alloc_at _ _ _ _ rfl]
  have hc : i = 0 ∨ i = 1 ∨ i = 2 ∨ i = 3 ∨ i = 4 ∨ i = 5 ∨ i = 6 := by omega
  rcases hc with rfl | rfl | rfl | rfl | rfl | rfl | rfl <;> rfl

theorem str_ne {s t : ByteArray} (h : s ≠ t) : (s.toList == t.toList) = false := by
  rw [beq_eq_false_iff_ne]
  intro hh
  rw [ByteArray.toList_eq, ByteArray.toList_eq] at hh
  exact h (ByteArray.ext (Array.toList_inj.1 hh))
theorem modeS_name {i : Nat} (hi : i < 7) : modeS (nameB i) = i := by
  have hc : i = 0 ∨ i = 1 ∨ i = 2 ∨ i = 3 ∨ i = 4 ∨ i = 5 ∨ i = 6 := by omega
  rcases hc with rfl | rfl | rfl | rfl | rfl | rfl | rfl <;> decide +kernel
theorem modeS_inv {s : ByteArray} {i : Nat} (hi : i < 7) (h : modeS s = i) : s = nameB i := by
  have key : ∀ j : Nat, j < 7 → s = nameB j → s = nameB i := fun j hj e => by
    have := modeS_name hj
    rw [← e, h] at this
    have hij : i = j := by omega
    rw [hij]
    exact e
  by_cases h0 : s = nameB 0
  · exact key 0 (by omega) h0
  by_cases h1 : s = nameB 1
  · exact key 1 (by omega) h1
  by_cases h2 : s = nameB 2
  · exact key 2 (by omega) h2
  by_cases h3 : s = nameB 3
  · exact key 3 (by omega) h3
  by_cases h4 : s = nameB 4
  · exact key 4 (by omega) h4
  by_cases h5 : s = nameB 5
  · exact key 5 (by omega) h5
  by_cases h6 : s = nameB 6
  · exact key 6 (by omega) h6
  unfold modeS at h
  rw [if_neg h0, if_neg h1, if_neg h2, if_neg h3, if_neg h4, if_neg h5, if_neg h6] at h
  omega
theorem NamesAt.later {b : Nat} {W W' : World} (h : NamesAt b W) (hL : Later W W') : NamesAt b W' := fun i hi => hL.cell (h i hi)

set_option maxHeartbeats 1000000 in
theorem index_any (b : Nat) (s : ByteArray) (w : World) (h : NamesAt b w) :
    Calls Try.prog 73 #[.slice (some ⟨b, 0, none⟩) 7 7, .string s] w (RV w (.int .i64 (modeS s))) := by
  go_enter Try.func73, Try.ntmps73
  go_wp2
  go_loopw [8] (fun v wr => ∃ i : Nat, i ≤ 7 ∧ v = .int .i64 i ∧ Later w wr ∧ Hid (∀ j : Nat, j < i → s ≠ nameB j)) (fun v _ => 7 - (intOf v).toNat)
  case atStart => exact ⟨0, by omega, rfl, Later.refl _, fun j hj => by omega⟩
  case round =>
    obtain ⟨i, hi, rfl, hL, hno⟩ := hrel
    by_cases hlt : i < 7
    · have hc := (h.later hL) i hlt
      have hi3 : (i : Int) < 7 := by omega
      have hi0 : (0 : Int) ≤ (i : Int) := by omega
      by_cases he : s = nameB i
      · have hr := Lib.hid (modeS_at hlt hno.out he)
        rw [hr.out]
        subst he
        go_wp2
        go_ret
        exact ⟨rfl, hL⟩
      · have hb := str_ne he
        have hno2 := Lib.hid (show ∀ j : Nat, j < i + 1 → s ≠ nameB j from fun j hj => by by_cases hji : j = i; (subst hji; exact he); exact hno.out j (by omega))
        go_wp2
        go_roundw
        case rel => first | exact ⟨i + 1, by omega, by go_num, hL, hno2⟩ | ((repeat apply Exists.intro); exact ⟨⟨i + 1, by omega, by go_num, hL, hno2⟩, rfl⟩)
        case measure => simp [intOf]; omega
    · have : i = 7 := by omega
      subst this
      have hr := Lib.hid (modeS_none hno.out)
      go_wp2
      go_ret
      exact ⟨by rw [hr.out]; rfl, hL⟩

set_option maxHeartbeats 1000000 in
theorem mode_any (s : ByteArray) (w : World) :
    Calls Try.prog 41 #[.string s] w fun e w' => e = .returned (.tuple #[.int .i64 (if modeS s < 0 then 0 else modeS s), .int .i64 (if modeS s < 0 then 7 else 0)]) ∧ Below w.heap.size w w' := by
  have hb := modeS_bd s
  have hi := Lib.hid (index_any w.heap.size s (w.alloc (.cells nameCells 9)) (names_at w _ rfl))
  generalize modeS s = k at *
  by_cases hk : k < 0
  · have hk1 : k = -1 := by omega
    subst hk1
    go_enter Try.func41, Try.ntmps41
    go_wp2_with fail
    refine (names_any w).mono ?_
    rintro e w1 ⟨rfl, rfl⟩
    go_wp2_with fail
    refine hi.out.mono ?_
    rintro e w1 ⟨rfl, hB⟩
    go_wp2_with fail
    go_ret2
    exact ⟨rfl, ((Later.refl w).alloc _).call hB⟩
  · rw [if_neg hk, if_neg hk]
    go_enter Try.func41, Try.ntmps41
    go_wp2_with fail
    refine (names_any w).mono ?_
    rintro e w1 ⟨rfl, rfl⟩
    go_wp2_with fail
    refine hi.out.mono ?_
    rintro e w1 ⟨rfl, hB⟩
    go_wp2_with fail
    go_ret2
    exact ⟨rfl, ((Later.refl w).alloc _).call hB⟩

def few7 (s : ByteArray) (m : Nat) : ByteArray := if m < s.size then s.extract 0 m else s
theorem few7_any (s : ByteArray) (m : Nat) (w : World) (_hs : s.size ≤ 9223372036854775807) (hm : m ≤ 1000000) :
    Calls Try.prog 40 #[.string s, .int .i64 (m : Int)] w fun e w' => e = .returned (.string (few7 s m)) ∧ w = w' := by
  by_cases h : m < s.size
  · have hr : Hid (few7 s m = s.extract 0 m) := by unfold Hid few7; rw [if_pos h]
    go_enter Try.func40, Try.ntmps40
    go_wp2
    go_ret
    exact ⟨by rw [hr.out]; rfl, rfl⟩
  · have hr : Hid (few7 s m = s) := by unfold Hid few7; rw [if_neg h]
    go_enter Try.func40, Try.ntmps40
    go_wp2
    go_ret
    exact ⟨by rw [hr.out]; rfl, rfl⟩
theorem NamesAt.ext {b : Nat} {W : World} (h : NamesAt b W) {i : Nat} (hi : i < 7) (s : Ext W) : s.world.cell? ⟨b, i, none⟩ = some (.string (nameB i)) := Ext.cell (h i hi) s
theorem nameB_none {n : Int} (h : ¬ (0 ≤ n ∧ n < 7)) : nameB n = { data := #[] } := by
  unfold nameB
  rw [if_neg (by omega), if_neg (by omega), if_neg (by omega), if_neg (by omega), if_neg (by omega), if_neg (by omega), if_neg (by omega)]
theorem nameB_some {n : Int} (h : 0 ≤ n ∧ n < 7) : (nameB n).toList.isEmpty = false := by
  rcases seven (m := n) (by omega) with rfl | rfl | rfl | rfl | rfl | rfl | rfl <;> decide +kernel

end Go.Proofs.Ytnndiikogaoeiaa
