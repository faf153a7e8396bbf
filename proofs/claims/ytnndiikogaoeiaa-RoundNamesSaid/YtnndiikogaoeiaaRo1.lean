/- The walks of small functions of rounding: names, which way a rest goes. No condition. -/
import Derived.Test.YtnndiikogaoeiaaDe8
import Derived.Test.YtnndiikogaoeiaaDcb
import Derived.Test.YtnndiikogaoeiaaRound
namespace Go.Proofs.Ytnndiikogaoeiaa
open Go.RowKit

def nameB (m : Int) : ByteArray :=
  if m = 0 then { data := #[100, 111, 119, 110] } else if m = 1 then { data := #[117, 112] } else if m = 2 then { data := #[102, 108, 111, 111, 114] } else if m = 3 then { data := #[99, 101, 105, 108] }
  else if m = 4 then { data := #[104, 97, 108, 102, 100, 111, 119, 110] } else if m = 5 then { data := #[104, 97, 108, 102, 117, 112] } else if m = 6 then { data := #[104, 97, 108, 102, 101, 118, 101, 110] } else { data := #[] }
def nameCells : Array Value := #[.string (nameB 0), .string (nameB 1), .string (nameB 2), .string (nameB 3), .string (nameB 4), .string (nameB 5), .string (nameB 6)]

theorem names_any (w : World) : Calls Try.prog 74 #[] w fun e w' => e = .returned (.slice (some ⟨w.heap.size, 0, none⟩) 7 7) ∧ w' = w.alloc (.cells nameCells 9) := by
  go_enter Try.func74, Try.ntmps74
  go_wp2
  go_ret
  exact ⟨rfl, rfl⟩
theorem seven {m : Int} (h : 0 ≤ m ∧ m ≤ 6) : m = 0 ∨ m = 1 ∨ m = 2 ∨ m = 3 ∨ m = 4 ∨ m = 5 ∨ m = 6 := by omega

theorem name_any (m : Int) (w : World) : Calls Try.prog 42 #[.int .i64 m] w (RV w (.string (nameB m))) := by
  by_cases h : 0 ≤ m ∧ m ≤ 6
  · have hc : ∀ i, (w.alloc (.cells nameCells 9)).cell? ⟨w.heap.size, i, none⟩ = nameCells[i]? := fun i => by rw [World.cell?_alloc_at _ _ _ _ rfl]
    have h0 : (w.alloc (.cells nameCells 9)).cell? ⟨w.heap.size, 0, none⟩ = some (.string (nameB 0)) := hc 0
    have h1 : (w.alloc (.cells nameCells 9)).cell? ⟨w.heap.size, 1, none⟩ = some (.string (nameB 1)) := hc 1
    have h2 : (w.alloc (.cells nameCells 9)).cell? ⟨w.heap.size, 2, none⟩ = some (.string (nameB 2)) := hc 2
    have h3 : (w.alloc (.cells nameCells 9)).cell? ⟨w.heap.size, 3, none⟩ = some (.string (nameB 3)) := hc 3
    have h4 : (w.alloc (.cells nameCells 9)).cell? ⟨w.heap.size, 4, none⟩ = some (.string (nameB 4)) := hc 4
    have h5 : (w.alloc (.cells nameCells 9)).cell? ⟨w.heap.size, 5, none⟩ = some (.string (nameB 5)) := hc 5
    have h6 : (w.alloc (.cells nameCells 9)).cell? ⟨w.heap.size, 6, none⟩ = some (.string (nameB 6)) := hc 6
    have HB : Below w.heap.size w (w.alloc (.cells nameCells 9)) := (Below.refl _ _).alloc (Nat.le_refl _) _
    have HW : ∃ W, W = w.alloc (.cells nameCells 9) := ⟨_, rfl⟩
    obtain ⟨W, hW⟩ := HW
    rw [← hW] at h0 h1 h2 h3 h4 h5 h6 HB
    have hn := Lib.hid (show Calls Try.prog 74 #[] w fun e w' => e = .returned (.slice (some ⟨w.heap.size, 0, none⟩) 7 7) ∧ w' = W by rw [hW]; exact names_any w)
    clear hc hW
    rcases seven h with rfl | rfl | rfl | rfl | rfl | rfl | rfl
    all_goals
      go_enter Try.func42, Try.ntmps42
      go_wp2_with fail
      refine hn.out.mono ?_
      rintro e w1 ⟨rfl, rfl⟩
      go_wp2_with fail
      go_ret
      exact ⟨rfl, HB⟩
  · have hb : nameB m = { data := #[] } := by
      unfold nameB
      rw [if_neg (by omega), if_neg (by omega), if_neg (by omega), if_neg (by omega), if_neg (by omega), if_neg (by omega), if_neg (by omega)]
    rw [hb]
    clear hb
    rcases Int.lt_or_le m 0 with h1 | h1
    · go_enter Try.func42, Try.ntmps42
      go_wp2_with fail
      go_ret
      exact ⟨rfl, Below.refl _ _⟩
    · have h2 : 6 < m := by omega
      clear h
      go_enter Try.func42, Try.ntmps42
      go_wp2_with fail
      go_ret
      exact ⟨rfl, Below.refl _ _⟩

theorem away_any (m : Int) (neg odd : Bool) (c : Int) (w : World) (hm : 0 ≤ m ∧ m ≤ 6) :
    Calls Try.prog 61 #[.int .i64 m, .bool neg, .bool odd, .int .i64 c] w fun e w' => e = .returned (.bool (awayB m neg odd c)) ∧ w = w' := by
  rcases seven hm with rfl | rfl | rfl | rfl | rfl | rfl | rfl
  · go_enter Try.func61, Try.ntmps61
    go_wp2
    go_ret
    exact ⟨rfl, rfl⟩
  · go_enter Try.func61, Try.ntmps61
    go_wp2
    go_ret
    exact ⟨rfl, rfl⟩
  · go_enter Try.func61, Try.ntmps61
    go_wp2
    go_ret
    exact ⟨rfl, rfl⟩
  · go_enter Try.func61, Try.ntmps61
    go_wp2
    go_ret
    exact ⟨rfl, rfl⟩
  · go_enter Try.func61, Try.ntmps61
    go_wp2
    go_ret
    exact ⟨rfl, rfl⟩
  · go_enter Try.func61, Try.ntmps61
    go_wp2
    go_ret
    exact ⟨rfl, rfl⟩
  · by_cases hc : c = 0
    · subst hc
      go_enter Try.func61, Try.ntmps61
      go_wp2
      go_ret
      exact ⟨rfl, rfl⟩
    · have hb : (c == (0 : Int)) = false := by simpa using hc
      have hv : Hid (awayB 6 neg odd c = decide (0 < c)) := by unfold awayB; simp [Hid, hc]
      rw [hv.out]
      go_enter Try.func61, Try.ntmps61
      go_wp2
      go_ret
      exact ⟨rfl, rfl⟩

theorem exact_any {A : Option Addr} {n c : Nat} {l : List Int} (b : Bool) (s k : Int) (w : World) (h : IL w A n c l) (hl : I64 l) (hs : -9223372036854775808 ≤ s ∧ s ≤ 9223372036854775807) (hk : -9223372036854775808 ≤ k ∧ k ≤ 9223372036854775807) (hn : n ≤ 10000) :
    Calls Try.prog 38 #[.agg #[.bool b, .slice A n c, .int .i64 s], .int .i64 k] w (RV w (.bool ((alignDc ⟨b, l, s⟩ k).2 == 0))) := by
  have ha := Lib.hid (fun W hW => calign_any (A := A) (n := n) (c := c) (l := l) b s k W hW hl hs hk hn)
  generalize alignDc ⟨b, l, s⟩ k = D at *
  obtain ⟨D, ec⟩ := D
  go_enter Try.func38, Try.ntmps38
  go_wp2_with fail
  refine (ha.out _ (h.alloc _)).mono ?_
  rintro e w1 ⟨A1, n1, c1, rfl, hI, hB, _⟩
  go_wp2_with fail
  go_ret
  exact ⟨rfl, (((Later.refl w).alloc _).call hB).alloc _⟩

end Go.Proofs.Ytnndiikogaoeiaa
