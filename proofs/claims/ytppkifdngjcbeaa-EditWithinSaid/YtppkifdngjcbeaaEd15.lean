/- What comes of keys stays within the limits; how many atoms there are. No program in sight. No condition. -/
import Derived.Test.YtppkifdngjcbeaaEd1b
import Derived.Test.YtppkifdngjcbeaaEd8
namespace Go.Proofs.Ytppkifdngjcbeaa
set_option linter.unusedSimpArgs false

theorem splice_all {d : Dr} {i j : Int} {s : List Int} (h : (spliceS d i j s).2 = 0) :
    mayDr (spliceS d i j s).1 = true ∧ atomsR (spliceS d i j s).1 = (atomsR d).take i.toNat ++ s ++ (atomsR d).drop j.toNat ∧ 0 ≤ i ∧ i ≤ j ∧ j ≤ lenR d := by
  unfold spliceS at h ⊢
  split at h
  · rename_i hc
    rw [if_pos hc]
    split at h
    · simp at h
    · rename_i hr
      rw [if_neg hr]
      simp only [Bool.and_eq_true, Bool.not_eq_true'] at hc
      have hd := (atoms_pts (d := d) hc.1).2
      have ho : oddL ((atomsR d).take i.toNat ++ s ++ (atomsR d).drop j.toNat) = false := by rw [odd_append, odd_append, odd_take hd, odd_drop hd, hc.2]; rfl
      have hp : pts ((atomsR d).take i.toNat ++ s ++ (atomsR d).drop j.toNat) ≤ 1 := by
        rw [ofS_fin _ _ ho] at h
        split at h
        · simp at h
        · omega
      obtain ⟨x, e, _, e2, e3⟩ := ofS_back d.neg ho hp
      rw [e]
      exact ⟨e2, e3, by omega, by omega, by unfold lenR; omega⟩
  · simp at h
theorem negD_may (d : Dr) (b : Bool) : mayDr (negD d b) = mayDr d := rfl
theorem lenR_splice {d x : Dr} {i j : Int} {s : List Int} (h : atomsR x = (atomsR d).take i.toNat ++ s ++ (atomsR d).drop j.toNat) (h0 : 0 ≤ i) (h1 : i ≤ j) (h2 : j ≤ lenR d) :
    lenR x = lenR d - (j - i) + s.length := by
  unfold lenR at h2 ⊢
  rw [h]
  simp only [List.length_append, List.length_take, List.length_drop]
  omega
theorem ins_within {s : St} {x y : Int} {l : List Int} (h : (insS s x y l).2 = 0) : mayS (insS s x y l).1 = true ∧ fitsD (insS s x y l).1.d x y = true := by
  have hm := ins_may h
  unfold insS at h ⊢
  rw [if_pos hm] at h ⊢
  by_cases hc : (spliceS s.d (frontS s) (backS s) l).2 = 0
  · rw [if_pos hc] at h ⊢
    split at h
    · rename_i hf
      rw [if_pos hf]
      obtain ⟨m1, m2, m3, m4, m5⟩ := splice_all hc
      have hl := lenR_splice m2 m3 m4 m5
      exact ⟨mayS_iff.2 ⟨m1, ⟨by simp only; omega, by simp only; omega⟩, by simp only; omega, by simp only; omega⟩, hf⟩
    · simp at h
  · rw [if_neg hc] at h
    exact absurd h hc
theorem spanE_bd {s : St} (hm : mayS s = true) (what : Int) : 0 ≤ (spanE s what).1 ∧ (spanE s what).1 ≤ (spanE s what).2 ∧ (spanE s what).2 ≤ lenR s.d := by
  have hf := front_back hm
  obtain ⟨_, h1, _⟩ := mayS_iff.1 hm
  have ht := toS_bd h1 what
  unfold spanE
  split
  · exact ⟨by simp only; omega, by simp only; omega, by simp only; omega⟩
  · split
    · simp only
      split <;> split <;> omega
    · exact hf
theorem erase_within {s : St} {x y what : Int} (h : (eraseS s x y what).2 = 0) : mayS (eraseS s x y what).1 = true ∧ fitsD (eraseS s x y what).1.d x y = true := by
  unfold eraseS at h ⊢
  split at h
  · rename_i hc
    rw [if_pos hc]
    have hm : mayS s = true := by simp only [Bool.and_eq_true] at hc; exact hc.1.1
    split at h
    · simp at h
    · rename_i h7
      rw [if_neg h7]
      split at h
      · rename_i hf
        rw [if_pos hf]
        obtain ⟨b0, b1, b2⟩ := spanE_bd hm what
        obtain ⟨z, e, _, e2, e3⟩ := splice_cut (mayS_iff.1 hm).1 b0 b1 b2
        rw [e] at hf ⊢
        have hl : lenR z = lenR s.d - ((spanE s what).2 - (spanE s what).1) + ([] : List Int).length := lenR_splice (by rw [List.append_nil]; exact e3) b0 b1 b2
        have hl2 : lenR (negD z (s.d.neg && !(what == 6))) = lenR z := rfl
        simp only [List.length_nil] at hl
        exact ⟨mayS_iff.2 ⟨e2, ⟨b0, by simp only; omega⟩, b0, by simp only; omega⟩, hf⟩
      · simp at h
  · simp at h
theorem move_within {s : St} {how : Int} {keep : Bool} (h : (moveS s how keep).2 = 0) : mayS (moveS s how keep).1 = true ∧ (moveS s how keep).1.d = s.d := by
  unfold moveS at h ⊢
  split at h
  · rename_i hc
    rw [if_pos hc]
    have hm : mayS s = true := by simp only [Bool.and_eq_true] at hc; exact hc.1.1
    have hf := front_back hm
    obtain ⟨h0, h1, h2⟩ := mayS_iff.1 hm
    have ht := toS_bd h1 how
    have hT : 0 ≤ moveT s how keep ∧ moveT s how keep ≤ lenR s.d := by
      unfold moveT
      split
      · exact ht
      · split
        · omega
        · split <;> omega
    refine ⟨mayS_iff.2 ⟨h0, hT, ?_⟩, rfl⟩
    show 0 ≤ (if keep then s.a else moveT s how keep) ∧ (if keep then s.a else moveT s how keep) ≤ lenR s.d
    split
    · exact h2
    · exact hT
  · simp at h
theorem ins_count {s : St} {l : List Int} (hm : mayS s = true) (hl : mayL l = true) (h1 : s.d.int.length ≤ 6) (h2 : s.d.frac.length ≤ 6) (h3 : l.length ≤ 6) :
    (insS s 64 64 l).2 = 0 ∧ (insS s 64 64 l).1.c = frontS s + l.length ∧ (insS s 64 64 l).1.a = frontS s + l.length ∧ lenR (insS s 64 64 l).1.d = lenR s.d - (backS s - frontS s) + l.length := by
  obtain ⟨b0, b1, b2⟩ := front_back hm
  have hd := (mayS_iff.1 hm).1
  obtain ⟨p1, p2⟩ := atoms_pts hd
  have hol : oddL l = false := odd_of fun x hx => by have := mayL_iff.1 hl x hx; omega
  have hp := take_drop_pts (atomsR s.d) (i := (frontS s).toNat) (j := (backS s).toNat) (by omega)
  obtain ⟨x, e, _, e2, e3⟩ := ofS_back s.d.neg (X := (atomsR s.d).take (frontS s).toNat ++ l ++ (atomsR s.d).drop (backS s).toNat)
    (by rw [odd_append, odd_append, odd_take p2, odd_drop p2, hol]; rfl) (by rw [pts_append] at hp; rw [pts_append, pts_append, pts_dig hl]; omega)
  have hs : spliceS s.d (frontS s) (backS s) l = (x, 0) := by rw [splice_in hd b0 b1 b2 hol]; exact e
  have hA : lenR x = lenR s.d - (backS s - frontS s) + l.length := lenR_splice e3 b0 b1 b2
  have hn : lenR s.d ≤ 13 := by
    have := atoms_len s.d.int s.d.sep s.d.frac
    have e5 : lenR s.d = ((atomsD s.d.int s.d.sep s.d.frac).length : Int) := rfl
    omega
  have hx : (x.int.length : Int) ≤ lenR x ∧ (x.frac.length : Int) ≤ lenR x := by
    have : lenR x = ((x.int ++ ((if x.sep then [10] else []) ++ x.frac)).length : Int) := rfl
    rw [this]
    simp only [List.length_append]
    omega
  have hf : fitsD x 64 64 = true := by unfold fitsD; simp only [Bool.and_eq_true, decide_eq_true_eq]; omega
  unfold insS
  rw [if_pos hm, hs, if_pos rfl, if_pos hf]
  exact ⟨rfl, rfl, rfl, hA⟩

end Go.Proofs.Ytppkifdngjcbeaa
