/- What a text is as a decimal (plain). No condition. -/
import Derived.Test.YtaolimhbeoocjaaDe13
import Derived.Test.YtaolimhbeoocjaaCanon3
namespace Go.Proofs.Ytaolimhbeoocjaa
open Go.RowKit

def pointB (p : List UInt8) : Bool := p.any (· == 46)
def wholeB (p : List UInt8) : List UInt8 := p.takeWhile (· != 46)
def restB (p : List UInt8) : List UInt8 := p.drop ((wholeB p).length + 1)
theorem whole_no {p : List UInt8} (h : pointB p = false) : wholeB p = p := by
  unfold pointB at h
  unfold wholeB
  induction p with
  | nil => rfl
  | cons x r ih =>
    simp only [List.any_cons, Bool.or_eq_false_iff] at h
    rw [List.takeWhile_cons_of_pos (by simpa using h.1), ih h.2]
theorem whole_len {p : List UInt8} (h : pointB p = true) : (wholeB p).length + 1 ≤ p.length := by
  unfold pointB at h
  unfold wholeB
  induction p with
  | nil => cases h
  | cons x r ih =>
    by_cases hx : x = 46
    · subst hx; simp
    · have : (r.any fun x => x == 46) = true := by simpa [hx] using h
      rw [List.takeWhile_cons_of_pos (by simpa using hx)]
      have := ih this
      simp only [List.length_cons]
      omega
theorem rest_no {p : List UInt8} (h : pointB p = false) : restB p = [] := by
  unfold restB
  rw [whole_no h]
  exact List.drop_of_length_le (by omega)
theorem point_no {p : List UInt8} {c : UInt8} (h : pointB p = false) (hc : c ≠ 46) : pointB (p ++ [c]) = false := by
  unfold pointB at *
  rw [List.any_append, h]
  simpa using hc
theorem point_dot {p : List UInt8} (h : pointB p = false) : pointB (p ++ [46]) = true ∧ wholeB (p ++ [46]) = p ∧ restB (p ++ [46]) = [] := by
  have e : wholeB (p ++ [46]) = p := by
    unfold wholeB
    rw [List.takeWhile_append, if_pos]
    · simp
    · show (wholeB p).length = p.length
      rw [whole_no h]
  refine ⟨by unfold pointB; simp, e, ?_⟩
  unfold restB
  rw [e]
  exact List.drop_of_length_le (by simp)
theorem point_in {p : List UInt8} (c : UInt8) (h : pointB p = true) : pointB (p ++ [c]) = true ∧ wholeB (p ++ [c]) = wholeB p ∧ restB (p ++ [c]) = restB p ++ [c] := by
  have hl := whole_len h
  have e : wholeB (p ++ [c]) = wholeB p := by
    show (p ++ [c]).takeWhile _ = _
    rw [List.takeWhile_append, if_neg]
    · rfl
    · show ¬ (wholeB p).length = p.length
      omega
  refine ⟨by unfold pointB at *; rw [List.any_append, h]; rfl, e, ?_⟩
  unfold restB
  rw [e, List.drop_append_of_le_length hl]
/-- No byte that may not be so far. -/
def okB (p : List UInt8) : Bool := (wholeB p).all isB && (restB p).all isB
theorem ok_snoc {p : List UInt8} {c : UInt8} (h : okB (p ++ [c]) = true) : okB p = true := by
  cases hp : pointB p
  · by_cases hc : c = 46
    · subst hc
      obtain ⟨_, e1, e2⟩ := point_dot hp
      unfold okB at h ⊢
      rw [e1] at h
      rw [whole_no hp, rest_no hp]
      simp only [Bool.and_eq_true] at h ⊢
      exact ⟨h.1, rfl⟩
    · have e1 := whole_no (point_no hp hc)
      unfold okB at h ⊢
      rw [e1, List.all_append] at h
      rw [whole_no hp, rest_no hp]
      simp only [Bool.and_eq_true] at h ⊢
      exact ⟨h.1.1, rfl⟩
  · obtain ⟨_, e1, e2⟩ := point_in c hp
    unfold okB at h ⊢
    rw [e1, e2, List.all_append] at h
    simp only [Bool.and_eq_true] at h ⊢
    exact ⟨h.1, h.2.1⟩
theorem ok_take {b : List UInt8} (k : Nat) (h : okB b = true) : okB (b.take k) = true := by
  have : ∀ j, okB (b.take (b.length - j)) = true := by
    intro j
    induction j with
    | zero => rw [Nat.sub_zero, List.take_length]; exact h
    | succ j ih =>
      by_cases hj : j < b.length
      · have e : b.length - j = (b.length - (j + 1)) + 1 := by omega
        rw [e, List.take_succ_eq_append_getElem (by omega)] at ih
        exact ok_snoc ih
      · rw [show b.length - (j + 1) = b.length - j by omega]; exact ih
  by_cases hk : k ≤ b.length
  · have := this (b.length - k)
    rw [show b.length - (b.length - k) = k by omega] at this
    exact this
  · rw [List.take_of_length_le (by omega)]; exact h
def isDs (l : List UInt8) : Bool := !l.isEmpty && l.all isB
def negB (t : List UInt8) : Bool := t.head? == some 45
def bodyB (t : List UInt8) : List UInt8 := if negB t then t.drop 1 else t
/-- The decimal of a text's body, its sign told, or the error. -/
def parseB (b : Bool) (p : List UInt8) : Dc × Int :=
  if isDs (wholeB p) && (!pointB p || isDs (restB p)) then if (restB p).length ≤ 1000 then (⟨b, digsOf (wholeB p ++ restB p), ((restB p).length : Int)⟩, 0) else (Dc.zero, 3) else (Dc.zero, 2)
def parseS (t : List UInt8) : Dc × Int := parseB (negB t) (bodyB t)
theorem parse_nok {b : Bool} {p : List UInt8} (h : okB p = false) : parseB b p = (Dc.zero, 2) := by
  unfold parseB
  rw [if_neg]
  intro hh
  simp only [Bool.and_eq_true, Bool.or_eq_true, isDs, Bool.not_eq_true'] at hh
  have h1 : (restB p).all isB = true := by
    rcases hh.2 with q | q
    · rw [rest_no q]; rfl
    · exact q.2
  unfold okB at h
  rw [hh.1.2, h1] at h
  cases h
theorem parse_bad_at {b : Bool} {p : List UInt8} {k : Nat} (hk : k < p.length) (h : okB (p.take k ++ [p[k]]) = false) : parseB b p = (Dc.zero, 2) := by
  refine parse_nok ?_
  cases ho : okB p
  · rfl
  · have := ok_take (k + 1) ho
    rw [List.take_succ_eq_append_getElem hk, h] at this
    cases this
theorem ok_point {p : List UInt8} {c : UInt8} (hp : pointB p = true) : okB (p ++ [c]) = (okB p && isB c) := by
  obtain ⟨_, e1, e2⟩ := point_in c hp
  unfold okB
  rw [e1, e2, List.all_append]
  simp [Bool.and_assoc]
theorem ok_nopoint {p : List UInt8} {c : UInt8} (hp : pointB p = false) (hc : c ≠ 46) : okB (p ++ [c]) = (okB p && isB c) := by
  unfold okB
  rw [whole_no (point_no hp hc), rest_no (point_no hp hc), whole_no hp, rest_no hp, List.all_append]
  simp
theorem ok_dot {p : List UInt8} (hp : pointB p = false) : okB (p ++ [46]) = okB p := by
  obtain ⟨_, e1, e2⟩ := point_dot hp
  unfold okB
  rw [e1, e2, whole_no hp, rest_no hp]
theorem digs_text {y : List Int} (h : mayL y = true) : digsOf (textL y) = y := by
  have e := parse_text h
  have h1 : (textL y).all isB = true := by
    cases hh : (textL y).all isB
    · rw [parse_bad hh] at e
      have := congrArg Prod.snd e
      simp at this
    · rfl
  rw [parse_good h1] at e
  exact congrArg Prod.fst e
theorem text_all {y : List Int} (h : mayL y = true) : (textL y).all isB = true := by
  cases hh : (textL y).all isB
  · have e := parse_text h
    rw [parse_bad hh] at e
    have := congrArg Prod.snd e
    simp at this
  · rfl
theorem no_point_all {l : List UInt8} (h : l.all isB = true) : pointB l = false := by
  unfold pointB
  rw [List.any_eq_false]
  intro x hx
  have := List.all_eq_true.1 h x hx
  intro q
  have e : x = 46 := by simpa using q
  subst e
  revert this; decide
/-- What is printed is parsed as the same number, in as many digits as were printed. -/
theorem parse_print {d : Dc} (h : mayDc d = true) : parseS (printL d) = (⟨d.neg, wideL d.l (d.s.toNat + 1), d.s⟩, 0) := by
  obtain ⟨h1, h2, h3⟩ := mayDc_iff.1 h
  obtain ⟨s, hs⟩ := Int.eq_ofNat_of_zero_le h2
  have hm := mayL_wide h1 (d.s.toNat + 1)
  have hl := wideL_len d.l (d.s.toNat + 1)
  have ht := text_all hm
  have hd := digs_text hm
  have htl := textL_length hm
  unfold printL
  rw [if_pos h]
  rw [hs] at hm hl ht hd htl ⊢
  simp only [Int.toNat_natCast] at hm hl ht hd htl ⊢
  generalize wideL d.l (s + 1) = y at *
  generalize textL y = t at *
  have htn : s + 1 ≤ t.length := by omega
  have key : ∀ b : Bool, parseB b (cutL t s) = (⟨b, y, (s : Int)⟩, 0) := by
    intro b
    unfold cutL
    split
    · rename_i hs0
      obtain ⟨a, ha⟩ : ∃ a, t.length = a + s := ⟨t.length - s, by omega⟩
      rw [show t.length - s = a by omega]
      have hta : (t.take a).all isB = true := by rw [List.all_eq_true] at ht ⊢; exact fun x hx => ht x (List.mem_of_mem_take hx)
      have htd : (t.drop a).all isB = true := by rw [List.all_eq_true] at ht ⊢; exact fun x hx => ht x (List.mem_of_mem_drop hx)
      have ew : wholeB (t.take a ++ 46 :: t.drop a) = t.take a := by
        unfold wholeB
        rw [List.takeWhile_append, if_pos]
        · simp
        · show (wholeB (t.take a)).length = _
          rw [whole_no (no_point_all hta)]
      have er : restB (t.take a ++ 46 :: t.drop a) = t.drop a := by
        unfold restB
        rw [ew, List.drop_append]
        simp
      have ep : pointB (t.take a ++ 46 :: t.drop a) = true := by unfold pointB; simp
      unfold parseB
      rw [ew, er, ep, List.take_append_drop]
      have g1 : (t.take a).isEmpty = false := by
        rw [List.isEmpty_eq_false_iff]
        intro q
        have := congrArg List.length q
        rw [List.length_take] at this
        rw [List.length_nil] at this
        omega
      have g2 : (t.drop a).isEmpty = false := by
        rw [List.isEmpty_eq_false_iff]
        intro q
        have := congrArg List.length q
        rw [List.length_drop] at this
        rw [List.length_nil] at this
        omega
      have g3 : (t.drop a).length = s := by rw [List.length_drop]; omega
      rw [if_pos (by simp [isDs, g1, g2, hta, htd]), g3, if_pos (by omega), hd]
    · have hs0 : s = 0 := by omega
      subst hs0
      have hp := no_point_all ht
      unfold parseB
      rw [whole_no hp, rest_no hp, hp, List.append_nil]
      have g1 : t.isEmpty = false := by
        rw [List.isEmpty_eq_false_iff]
        intro q
        rw [q] at htn
        simp at htn
      rw [if_pos (by simp [isDs, g1, ht]), if_pos (by simp), hd]
      rfl
  have hh : negB (cutL t s) = false := by
    have hx : ∀ x, (cutL t s).head? = some x → isB x = true := by
      intro x hx
      have : x ∈ t := by
        unfold cutL at hx
        split at hx
        · have hne : (t.take (t.length - s)) ≠ [] := by
            intro q
            have := congrArg List.length q
            rw [List.length_take] at this
            rw [List.length_nil] at this
            omega
          obtain ⟨y0, r0, hy⟩ := List.exists_cons_of_ne_nil hne
          rw [hy] at hx
          have e : y0 = x := by simpa using hx
          exact List.mem_of_mem_take (by rw [hy, e]; exact List.mem_cons_self)
        · exact List.mem_of_mem_head? hx
      exact List.all_eq_true.1 ht x this
    cases hn : negB (cutL t s)
    · rfl
    · unfold negB at hn
      have := hx 45 (by simpa using hn)
      revert this; decide
  cases hb : d.neg
  · unfold parseS bodyB
    simp only [Bool.false_eq_true, if_false, List.nil_append]
    rw [hh]
    simp only [Bool.false_eq_true, if_false]
    exact key false
  · unfold parseS bodyB
    simp only [if_true]
    have : negB ([45] ++ cutL t s) = true := by simp [negB]
    rw [this]
    simp only [if_true]
    exact key true
theorem wide_wide (l : List Int) (k : Nat) : wideL (wideL l k) k = wideL l k := by
  have := wideL_len l k
  show List.replicate (k - (wideL l k).length) 0 ++ wideL l k = wideL l k
  rw [show k - (wideL l k).length = 0 by omega]
  rfl
/-- What was parsed back is the same number, and is printed so again. -/
theorem print_back {d : Dc} (h : mayDc d = true) : cmpDc ⟨d.neg, wideL d.l (d.s.toNat + 1), d.s⟩ d = 0 ∧ printL ⟨d.neg, wideL d.l (d.s.toNat + 1), d.s⟩ = printL d ∧ mayDc ⟨d.neg, wideL d.l (d.s.toNat + 1), d.s⟩ = true := by
  obtain ⟨h1, h2, h3⟩ := mayDc_iff.1 h
  have hm := mayL_wide h1 (d.s.toNat + 1)
  have hmd : mayDc ⟨d.neg, wideL d.l (d.s.toNat + 1), d.s⟩ = true := mayDc_iff.2 ⟨hm, h2, h3⟩
  refine ⟨?_, ?_, hmd⟩
  · have hz : (⟨d.neg, wideL d.l (d.s.toNat + 1), d.s⟩ : Dc).z = d.z := by
      unfold Dc.z
      simp only
      rw [show val (wideL d.l (d.s.toNat + 1)) = val d.l from by unfold wideL; exact val_zeros_append _ _]
    have : ∀ K, (⟨d.neg, wideL d.l (d.s.toNat + 1), d.s⟩ : Dc).at_ K = d.at_ K := fun K => by unfold Dc.at_; rw [hz]
    unfold cmpDc cmpI
    rw [this]
    simp
  · unfold printL
    rw [if_pos h, if_pos hmd]
    simp only [wide_wide]

end Go.Proofs.Ytaolimhbeoocjaa
