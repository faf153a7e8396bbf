/- A decimal within bounds; the modes' names. No program in sight. No condition. -/
import Derived.Test.YtnndiikogaoeiaaRound4
namespace Go.Proofs.Ytnndiikogaoeiaa

def clampDc (d l h : Dc) : Dc × Int :=
  if mayDc d && mayDc l && mayDc h then (if 0 < cmpDc l h then (Dc.zero, 3) else if cmpDc d l < 0 then (trimDc l, 0) else if 0 < cmpDc d h then (trimDc h, 0) else (trimDc d, 0)) else (Dc.zero, 1)
theorem mayDc_trim {d : Dc} (h : mayDc d = true) : mayDc (trimDc d) = true := by
  obtain ⟨h1, h2, h3⟩ := mayDc_iff.1 h
  have hc := trimDc_canonic h1 h2
  exact mayDc_iff.2 ⟨hc.may, hc.lo, by have := trim_le h1 h2; omega⟩
/-- What is within bounds stays. -/
theorem clamp_again {d l h : Dc} (h0 : (clampDc d l h).2 = 0) : clampDc (clampDc d l h).1 l h = ((clampDc d l h).1, 0) := by
  cases hm : (mayDc d && mayDc l && mayDc h)
  · unfold clampDc at h0
    rw [hm] at h0
    simp at h0
  · have hm' := hm
    simp only [Bool.and_eq_true] at hm'
    obtain ⟨⟨hd, hl⟩, hh⟩ := hm'
    obtain ⟨d1, d2, d3⟩ := mayDc_iff.1 hd
    obtain ⟨l1, l2, l3⟩ := mayDc_iff.1 hl
    obtain ⟨h1, h2, h3⟩ := mayDc_iff.1 hh
    have key : ∀ x : Dc, mayDc x = true → ¬ cmpDc x l < 0 → ¬ 0 < cmpDc x h → ¬ 0 < cmpDc l h → clampDc (trimDc x) l h = (trimDc x, 0) := by
      intro x hx k1 k2 k3
      obtain ⟨x1, x2, x3⟩ := mayDc_iff.1 hx
      unfold clampDc
      rw [mayDc_trim hx, hl, hh, cmpDc_trimL x1 x2, cmpDc_trimL x1 x2, if_neg k3, if_neg k1, if_neg k2, trimDc_idem x1 x2]
      rfl
    have sl := cmpDc_self l
    have sh := cmpDc_self h
    have sw := cmpDc_swap l h
    by_cases q1 : 0 < cmpDc l h
    · unfold clampDc at h0
      rw [hm, if_pos q1] at h0
      simp at h0
    · by_cases q2 : cmpDc d l < 0
      · have e : clampDc d l h = (trimDc l, 0) := by unfold clampDc; rw [hm, if_neg q1, if_pos q2]; rfl
        rw [e]
        exact key l hl (by omega) q1 q1
      · by_cases q3 : 0 < cmpDc d h
        · have e : clampDc d l h = (trimDc h, 0) := by unfold clampDc; rw [hm, if_neg q1, if_neg q2, if_pos q3]; rfl
          rw [e]
          exact key h hh (by omega) (by omega) q1
        · have e : clampDc d l h = (trimDc d, 0) := by unfold clampDc; rw [hm, if_neg q1, if_neg q2, if_neg q3]; rfl
          rw [e]
          exact key d hd q2 q3 q1
theorem clamp_len {d l h : Dc} {M : Nat} (h1 : d.l.length ≤ M) (h2 : l.l.length ≤ M) (h3 : h.l.length ≤ M) : (clampDc d l h).1.l.length ≤ M := by
  have a := trimDc_len d
  have b := trimDc_len l
  have c := trimDc_len h
  unfold clampDc
  split
  · split
    · exact Nat.zero_le _
    · split
      · exact Nat.le_trans b h2
      · split
        · exact Nat.le_trans c h3
        · exact Nat.le_trans a h1
  · exact Nat.zero_le _
theorem clamp_may {d l h : Dc} (h0 : (clampDc d l h).2 = 0) : mayDc (clampDc d l h).1 = true := by
  unfold clampDc at *
  split at h0
  · rename_i hm
    simp only [Bool.and_eq_true] at hm
    obtain ⟨⟨hd, hl⟩, hh⟩ := hm
    rw [hd, hl, hh]
    simp only [Bool.and_self, if_true]
    split at h0
    · simp at h0
    · rename_i q1
      rw [if_neg q1]
      split
      · exact mayDc_trim hl
      · split
        · exact mayDc_trim hh
        · exact mayDc_trim hd
  · simp at h0

end Go.Proofs.Ytnndiikogaoeiaa
