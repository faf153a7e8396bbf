/- More of what keys do to a state. No program in sight. No condition. -/
import Derived.Test.YtppkifdngjcbeaaEd1
namespace Go.Proofs.Ytppkifdngjcbeaa

theorem ins_may {s : St} {x y : Int} {l : List Int} (h : (insS s x y l).2 = 0) : mayS s = true := by
  unfold insS at h
  split at h
  · assumption
  · simp at h
theorem ofS_neg {b : Bool} {l : List Int} (h : (ofS b l).2 = 0) (ho : oddL l = false) : (ofS b l).1.neg = b := by
  rw [ofS_fin b l ho] at h ⊢
  split at h
  · simp at h
  · rename_i hp
    rw [if_neg hp]
theorem splice_neg {d : Dr} {i j : Int} {s : List Int} (h : (spliceS d i j s).2 = 0) : (spliceS d i j s).1.neg = d.neg := by
  unfold spliceS at h ⊢
  split at h
  · rename_i hc
    rw [if_pos hc]
    split at h
    · simp at h
    · rename_i hr
      rw [if_neg hr]
      simp only [Bool.and_eq_true, Bool.not_eq_true'] at hc
      have hd := (atoms_pts (d := d) hc.1).2
      exact ofS_neg h (by rw [odd_append, odd_append, odd_take hd, odd_drop hd, hc.2]; rfl)
  · simp at h
theorem ins_neg {s : St} {x y : Int} {l : List Int} (h : (insS s x y l).2 = 0) : (insS s x y l).1.d.neg = s.d.neg := by
  have hm := ins_may h
  unfold insS at h ⊢
  rw [if_pos hm] at h ⊢
  by_cases hc : (spliceS s.d (frontS s) (backS s) l).2 = 0
  · rw [if_pos hc] at h ⊢
    split at h
    · rename_i hf
      rw [if_pos hf]
      exact splice_neg hc
    · simp at h
  · rw [if_neg hc] at h
    exact absurd h hc
theorem St.negD_self {I : St} {b : Bool} (h : I.d.neg = b) : I = ⟨negD I.d b, I.c, I.a⟩ := by rw [← h]; rfl

end Go.Proofs.Ytppkifdngjcbeaa
