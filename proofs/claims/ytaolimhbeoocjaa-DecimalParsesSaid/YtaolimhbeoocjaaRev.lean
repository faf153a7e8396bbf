/- slices.Reverse, in a row of the call's own. No condition. -/
import Derived.Test.YtaolimhbeoocjaaDd
namespace Go.Proofs.Ytaolimhbeoocjaa
open Go.RowKit

/-- Behind k exchanges. -/
def revAt (l : List Int) (k i : Nat) : Int := if i < k ∨ l.length - k ≤ i then l.getD (l.length - 1 - i) 0 else l.getD i 0
def revTo (l : List Int) (k : Nat) : List Int := (List.range l.length).map (revAt l k)
theorem revTo_zero (l : List Int) : revTo l 0 = l := by
  apply List.ext_getElem
  · simp [revTo]
  · intro i h1 h2
    simp [revTo, revAt, List.getD, List.getElem?_eq_getElem h2]
    omega
theorem revTo_done {l : List Int} {k : Nat} (h : l.length ≤ 2 * k + 1) : revTo l k = l.reverse := by
  apply List.ext_getElem
  · simp [revTo]
  · intro i h1 h2
    have hi : i < l.length := by simpa [revTo] using h1
    rw [List.getElem_reverse]
    simp only [revTo, List.getElem_map, List.getElem_range, revAt]
    have hx : l.length - 1 - i < l.length := by omega
    by_cases hc : i < k ∨ l.length - k ≤ i
    · rw [if_pos hc]
      simp [List.getD, List.getElem?_eq_getElem hx]
    · rw [if_neg hc]
      have hi2 : i = l.length - 1 - i := by omega
      simp [List.getD, List.getElem?_eq_getElem hi]
      congr 1
theorem revTo_get {l : List Int} {k i : Nat} (hi : i < l.length) : ((revTo l k).map (Value.int .i64))[i]? = some (.int .i64 (revAt l k i)) := by
  simp [revTo, List.getElem?_range hi]
theorem revTo_step {l : List Int} {k : Nat} (h : 2 * k + 1 < l.length) :
    (((revTo l k).map (Value.int .i64)).set k (.int .i64 (l.getD (l.length - 1 - k) 0))).set (l.length - 1 - k) (.int .i64 (l.getD k 0)) = (revTo l (k + 1)).map (Value.int .i64) := by
  apply List.ext_getElem
  · simp [revTo]
  · intro i h1 h2
    have hi : i < l.length := by simpa [revTo] using h2
    simp only [List.getElem_set, List.getElem_map, revTo, List.getElem_range, revAt]
    by_cases h3 : l.length - 1 - k = i
    · rw [if_pos h3, if_pos (by omega)]
      congr 2
      omega
    · rw [if_neg h3]
      by_cases h4 : k = i
      · rw [if_pos h4, if_pos (by omega), h4]
      · rw [if_neg h4]
        congr 1
        by_cases h5 : i < k ∨ l.length - k ≤ i
        · rw [if_pos h5, if_pos (by omega)]
        · rw [if_neg h5, if_neg (by omega)]

set_option maxHeartbeats 400000 in
theorem reverse_any (B : Nat) (A : Option Addr) (n c : Nat) (l : List Int) (w : World) (h : w.ownsRow B 3 1 (.slice A n c) n (l.map (Value.int .i64))) (hn : n ≤ 10000000) :
    Calls Try.prog 58 #[.slice A n c] w fun e w' => e = .returned (.tuple #[]) ∧ w'.ownsRow B 3 1 (.slice A n c) n (l.reverse.map (Value.int .i64)) ∧ Below B w w' := by
  have hlen : l.length = n := by have := h.1; simpa using this
  by_cases h0 : n = 0
  · subst h0
    have hl0 : l = [] := List.eq_nil_of_length_eq_zero hlen
    subst hl0
    clear hlen
    go_enter Try.func58, Try.ntmps58
    go_wp2
    go_loop [2, 3] (fun i j => i = .int .i64 0 ∧ j = .int .i64 (-1)) (fun _ _ => 0)
    case atStart => exact ⟨rfl, rfl⟩
    case round =>
      obtain ⟨rfl, rfl⟩ := hrel
      go_wp2
      go_end0
      exact ⟨rfl, h, Below.refl _ _⟩
  · rcases h.2 with ⟨_, h1⟩ | ⟨g, cap, cur, hv, hg, _⟩
    · omega
    · injection hv with hA _ hcap
      subst hA hcap
      have HL := Lib.hid hlen
      have hB := Below.refl B w
      have ho : w.ownsRow B 3 1 (.slice (some ⟨g, 0, none⟩) n c) n ((revTo l 0).map (Value.int .i64)) := by rw [revTo_zero]; exact h
      clear h hlen
      go_enter Try.func58, Try.ntmps58
      go_wp2
      go_loopw [2, 3] (fun i j wr => ∃ k : Nat, 2 * k ≤ n ∧ i = .int .i64 k ∧ j = .int .i64 ((n : Int) - 1 - k) ∧ wr.ownsRow B 3 1 (.slice (some ⟨g, 0, none⟩) n c) n ((revTo l k).map (Value.int .i64)) ∧ Below B w wr)
        (fun i _ _ => n - (intOf i).toNat)
      case atStart => exact ⟨0, by omega, rfl, by go_num, ho, hB⟩
      case round =>
        obtain ⟨k, hk, rfl, rfl, hO, hBr⟩ := hrel
        by_cases hlt : 2 * k + 1 < n
        · have c1 := (hO.cellAt k (by omega)).trans (revTo_get (k := k) (by rw [HL.out]; omega))
          have c2 := (hO.cellAt (n - 1 - k) (by omega)).trans (revTo_get (k := k) (by rw [HL.out]; omega))
          have f1 := hO.frozenAt k
          have f2 := hO.frozenAt (n - 1 - k)
          have e1 : revAt l k k = l.getD k 0 := by unfold revAt; rw [if_neg (by rw [HL.out]; omega)]
          have e2 : revAt l k (n - 1 - k) = l.getD (n - 1 - k) 0 := by unfold revAt; rw [if_neg (by rw [HL.out]; omega)]
          rw [e1] at c1
          rw [e2] at c2
          clear e1 e2
          go_wp2
          have s1 := hO.stored k (.int .i64 (l.getD (n - 1 - k) 0))
          have s2 := s1.1.stored (n - 1 - k) (.int .i64 (l.getD k 0))
          have hst := revTo_step (l := l) (k := k) (by rw [HL.out]; exact hlt)
          rw [HL.out] at hst
          rw [hst] at s2
          have S2 := Lib.hid s2.1
          clear hst s1 s2 hO
          go_region
          go_wp2
          go_roundw
          case rel => exact ⟨k + 1, by omega, by go_num, by go_num, S2.out.drew, ((hBr.setCell (by simpa using hg) _).setCell (by simpa using hg) _).drew⟩
          case measure => simp [intOf]; omega
        · go_wp2
          go_end0
          exact ⟨rfl, by rw [← revTo_done (k := k) (by rw [HL.out]; omega)]; exact hO, hBr⟩

end Go.Proofs.Ytaolimhbeoocjaa
