/- A drawn region whose first operations only read or call, and whose last ones come in one order. No condition. -/
import Derived.Test.YtjinbhnpcdlkiaaGreatDoorMa18
import Derived.Deep.QuietTactic
namespace Go.Proofs.YtjinbhnpcdlkiaaGreatDoor
open Go.RowKit

/-- How many of the first n have not come up. -/
def unl (listed : Array Bool) : Nat → Nat
  | 0 => 0
  | n + 1 => unl listed n + if listed.getD n true then 0 else 1
theorem unl_zero {listed : Array Bool} : ∀ {n : Nat}, unl listed n = 0 → ∀ i, i < n → listed.getD i true = true
  | 0, _, _, h => absurd h (by omega)
  | n + 1, h, i, hi => by
    simp only [unl] at h
    by_cases e : i = n
    · subst e
      cases hc : listed.getD i true with
      | true => rfl
      | false => rw [hc] at h; simp at h
    · exact unl_zero (n := n) (by omega) i (by omega)
theorem unl_pos {listed : Array Bool} : ∀ {n : Nat}, 0 < unl listed n → ∃ i, i < n ∧ listed.getD i true = false
  | 0, h => absurd h (by simp [unl])
  | n + 1, h => by
    simp only [unl] at h
    cases hc : listed.getD n true with
    | false => exact ⟨n, by omega, hc⟩
    | true =>
      rw [hc] at h
      obtain ⟨i, h1, h2⟩ := unl_pos (n := n) (by simpa using h)
      exact ⟨i, by omega, h2⟩
theorem unl_other {listed : Array Bool} {i : Nat} : ∀ {n : Nat}, n ≤ i → unl (listed.setIfInBounds i true) n = unl listed n
  | 0, _ => rfl
  | n + 1, h => by
    simp only [unl]
    rw [unl_other (n := n) (by omega), getD_set_ne true (by omega)]
theorem unl_set {listed : Array Bool} {i : Nat} (hu : listed.getD i true = false) : ∀ {n : Nat}, i < n → unl (listed.setIfInBounds i true) n + 1 = unl listed n
  | 0, h => absurd h (by omega)
  | n + 1, h => by
    simp only [unl]
    by_cases e : i = n
    · subst e
      rw [unl_other (Nat.le_refl _), hu]
      have hs : i < listed.size := by
        rcases Nat.lt_or_ge i listed.size with h' | h'
        · exact h'
        · simp [Array.getElem?_eq_none h'] at hu
      simp [hs]
    · rw [getD_set_ne true (by omega)]
      have := unl_set hu (n := n) (by omega)
      omega
/-- Each operation waits for earlier ones alone. -/
def backB (l : List Oper) : Bool := (List.range l.length).all fun i => match l[i]? with
  | none => true
  | some o => o.after.all fun e => decide (e.on < i)
def guardB (n : Nat) (l : List Oper) : Bool := l.all fun o => match o.guard with
  | none => true
  | some (j, _) => decide (j < n)
theorem backB_spec {l : List Oper} (h : backB l = true) {i : Nat} {o : Oper} (hi : l[i]? = some o) : ∀ e ∈ o.after, e.on < i := by
  have hlt := (List.getElem?_eq_some_iff.1 hi).1
  have h1 := List.all_eq_true.1 h i (List.mem_range.2 hlt)
  rw [hi] at h1
  intro e he
  have := Array.all_eq_true_iff_forall_mem.1 h1 e he
  simpa using this
section
variable {P : Program} {l : List Oper} {C : World → Prop} {Q : Exit → Act → World → Prop} {n : Nat}
theorem wanted_head {o : Oper} (hg : guardB n (l.take n) = true) (ho : o ∈ l.take n) (tmps : Array Value) :
    Region.wanted o (yielded (l.take n).toArray tmps) = Region.wanted o (yielded l.toArray tmps) := by
  have h1 := List.all_eq_true.1 hg o ho
  unfold Region.wanted
  cases hgd : o.guard with
  | none => rfl
  | some p =>
    obtain ⟨j, want⟩ := p
    rw [hgd] at h1
    have hj : j < n := by simpa using h1
    have : yielded (l.take n).toArray tmps j = yielded l.toArray tmps j := by
      unfold yielded
      have e : (l.take n).toArray[j]? = l.toArray[j]? := by simp [hj]
      rw [e]
    simp only [this]
theorem ready_some (hb : backB l = true) (hn : n ≤ l.length) {listed : Array Bool} (hsz : listed.size = l.length) (h : 0 < unl listed n) : Region.ready .any l.toArray listed ≠ [] := by
  obtain ⟨i0, h0, hu0⟩ := unl_pos h
  have key : ∀ i, i < n → listed.getD i true = false → ∃ j, j ∈ Region.ready .any l.toArray listed := by
    intro i
    induction i using Nat.strongRecOn with
    | _ i ih =>
      intro hi hu
      have ho : l[i]? = some l[i] := List.getElem?_eq_getElem (by omega)
      by_cases hall : ∀ e ∈ l[i].after, listed.getD e.on true = true
      · refine ⟨i, mem_ready.2 ⟨hu, l[i], by simp, fun e he _ => ?_⟩⟩
        have hlt := backB_spec hb ho e he
        have h2 := hall e he
        have hs : e.on < listed.size := by omega
        simp [hs] at h2 ⊢
        exact h2
      · have : ∃ e ∈ l[i].after, listed.getD e.on true = false := by
          by_cases hh : ∃ e ∈ l[i].after, listed.getD e.on true = false
          · exact hh
          · exact absurd (fun e he => by
              cases hc : listed.getD e.on true with
              | true => rfl
              | false => exact absurd ⟨e, he, hc⟩ hh) hall
        obtain ⟨e, he, hf⟩ := this
        have hlt := backB_spec hb ho e he
        exact ih e.on hlt (by omega) hf
  intro hnil
  obtain ⟨j, hj⟩ := key i0 h0 hu0
  rw [hnil] at hj
  cases hj
theorem wpAny_of_heads (hb : backB l = true) (hg : guardB n (l.take n) = true) (hs : Region.sinkB .any l.toArray n = true) (hc : Region.chainB .any l.toArray n = true) (hn : n < l.length)
    (hseq : Region.seqB .any l.toArray (l.length - n) n ((List.replicate n true ++ List.replicate (l.length - n) false).toArray) = true) :
    ∀ (f : Nat) (listed listed' : Array Bool) (a : Act) (w : World), HeadInv .any l.toArray n listed → listed'.size = n → (∀ j, j < n → listed'[j]? = listed[j]?) → unl listed n = f → C w →
      wpAnyQ P .any (l.take n).toArray C (fun a' => ∀ w', C w' → wpList P l.toArray Q (l.drop n) a' w') f listed' a → wpAny P .any l.toArray Q (f + (l.length - n)) listed a w := by
  intro f
  induction f with
  | zero =>
    intro listed listed' a w inv hsz hsame hun hw h
    have hsl : listed.size = l.length := by simpa using inv.size
    have e : listed = (List.replicate n true ++ List.replicate (l.length - n) false).toArray := by
      apply Array.ext
      · simp [hsl]; omega
      · intro i h1 h2
        rcases Nat.lt_or_ge i n with hi | hi
        · have := unl_zero hun i hi
          have hb' : listed[i] = true := by simpa [h1] using this
          rw [hb']
          simp [hi]
        · have := inv.tail i hi (by simpa [hsl] using h1)
          have hb' : listed[i] = false := by simpa [h1] using this
          rw [hb']
          simp [List.getElem_append, Nat.not_lt.2 hi]
    rw [Nat.zero_add]
    have hdl : (l.drop n).length = l.length - n := by simp
    have := wpAny_of_seq (P := P) (md := .any) (Q' := Q) (ops := l.toArray) (l.drop n) n listed a w (fun j => by simp [List.getElem?_drop]) (by rw [hdl, e]; exact hseq) (h.2 w hw)
    rwa [hdl] at this
  | succ f ih =>
    intro listed listed' a w inv hsz hsame hun hw h
    have hsl : listed.size = l.length := by simpa using inv.size
    have hne := ready_some (n := n) hb (by omega) hsl (by omega)
    obtain ⟨i0, h0, hu0⟩ := unl_pos (show 0 < unl listed n by omega)
    rw [show f + 1 + (l.length - n) = (f + (l.length - n)) + 1 by omega]
    refine ⟨fun hnil => absurd hnil hne, fun i hi => ?_⟩
    have hin : i < n := by
      rcases Nat.lt_or_ge i n with h' | h'
      · exact h'
      · exact absurd hi (tail_waits hs hc (by simpa using hn) inv _ i0 rfl h0 hu0 i h')
    obtain ⟨hiu, o, ho, hall⟩ := mem_ready.1 hi
    have ho' : l[i]? = some o := by simpa using ho
    have hot : (l.take n).toArray[i]? = some o := by simp [hin, ho']
    have hmem : o ∈ l.take n := List.mem_of_getElem? (i := i) (by simpa using hot)
    have hi' : i ∈ Region.ready .any (l.take n).toArray listed' := by
      refine mem_ready.2 ⟨?_, o, hot, fun e he hbn => ?_⟩
      · have := hsame i hin
        simp only [Array.getD_eq_getD_getElem?] at hiu ⊢
        rw [this]; exact hiu
      · have h1 := hall e he hbn
        have hlt := backB_spec hb ho' e he
        have := hsame e.on (by omega)
        simp only [Array.getD_eq_getD_getElem?] at h1 ⊢
        rw [this]; exact h1
    have hq := h.2 i hi'
    have hq2 : qOp P l.toArray C i (wpAnyQ P .any (l.take n).toArray C (fun a' => ∀ w', C w' → wpList P l.toArray Q (l.drop n) a' w') f (listed'.setIfInBounds i true)) a := by
      unfold qOp at hq ⊢
      rw [hot] at hq
      rw [ho]
      simp only at hq ⊢
      rw [wanted_head hg hmem] at hq
      exact hq
    refine wpOp_of_qOp hw (fun a' w' hw' hk => ih _ _ a' w' (inv.set hi hin) (by simpa using hsz) (fun j hj => ?_) (by have := unl_set hiu hin; omega) hw' hk) hq2
    have := hsame j hj
    by_cases e : i = j
    · subst e
      have h1 : i < listed'.size := by omega
      have h2 : i < listed.size := by omega
      simp [h1, h2]
    · rw [Array.getElem?_setIfInBounds_ne e, Array.getElem?_setIfInBounds_ne e]
      exact this
/-- One walk of the text's order serves every order. -/
theorem wp_region_quiet_tail {id : Nat} {a : Act} {w : World} (n : Nat) (hm : P.follows .mixedOrders = true) (hB : Region.lexB .any (l.take n).toArray = true) (hb : backB l = true) (hg : guardB n (l.take n) = true)
    (hs : Region.sinkB .any l.toArray n = true) (hc : Region.chainB .any l.toArray n = true) (hn : n < l.length)
    (hseq : Region.seqB .any l.toArray (l.length - n) n ((List.replicate n true ++ List.replicate (l.length - n) false).toArray) = true) (hC : C w.drew)
    (h : wpQuiet P (l.take n).toArray C (fun a' => ∀ w', C w' → wpList P l.toArray Q (l.drop n) a' w') (l.take n) a) : (Code.region id l.toArray true).wp P Q a w := by
  simp only [Region.lexB, Bool.and_eq_true] at hB
  refine wp_region_any hm ?_
  have htl : (l.take n).length = n := by simp; omega
  have inv0 : HeadInv .any l.toArray n (Array.replicate l.toArray.size false) :=
    ⟨by simp, fun j oj _ hl => (by rw [getD_replicate_false] at hl; cases hl), fun t _ ht => getD_in (by simpa using ht) (getD_replicate_false _ _)⟩
  have hlex := wpAnyQ_lex (P := P) (C := C) (md := .any) hB.1 (l.take n) 0 (Array.replicate (l.take n).toArray.size false) a (by simp) (by simpa using hB.2) h
  have hu : ∀ m, m ≤ l.length → unl (Array.replicate l.toArray.size false) m = m := fun m hm => by
    induction m with
    | zero => rfl
    | succ m ih =>
      have h1 : m < l.length := by omega
      simp only [unl]
      rw [ih (by omega)]
      simp [h1]
  have := wpAny_of_heads (P := P) (C := C) (Q := Q) hb hg hs hc hn hseq (l.take n).length _ _ a w.drew inv0 (by simp; omega) (fun j hj => by
    have h1 : j < l.length := by omega
    have h2 : j < min n l.length := by omega
    simp [h1, h2]) (by rw [htl]; exact hu n (by omega)) hC hlex
  rw [htl, show n + (l.length - n) = l.length by omega] at this
  have e : l.toArray.size = l.length := by simp
  rw [e]
  rw [e] at this
  exact this
end
/-- A struct that is built, in a region's quiet part. -/
theorem wpQuiet_build {P : Program} {ops : Array Oper} {rest : List Oper} {o : Oper} {a : Act} {C : World → Prop} {Q : Act → Prop} {t : TypeId} {ps : List (Nat × Operand)} (vs : List (Nat × Value)) (cells : Array Value) (hg : o.guard = none) (ho : o.op = .build t ps.toArray)
    (hv : (ps.map fun p => (p.1, a.eval p.2)) = vs) (hp : P.built t vs = some cells) (h : wpQuiet P ops C Q rest (a.put o.dst (.agg cells))) : wpQuiet P ops C Q (o :: rest) a := by
  refine wpQuiet_step fun K hK => ?_
  rw [if_pos (by simp [Region.wanted, hg])]
  have hp' : P.built t (ps.toArray.map fun (i, x) => (i, a.eval x)).toList = some cells := by
    rw [← hp, ← hv]
    simp
  refine ⟨.agg cells, fun w _ => ?_, hK _ h⟩
  unfold Oper.quietAt execOp
  simp only [ho, Sem.run_bind, run_build w t _ cells hp', Result.andThen_ok]
  exact ⟨rfl, rfl⟩
/-- The same, of what is later. -/
theorem wp_ext_tail {P : Program} {id : Nat} {l : List Oper} {Q : Exit → Act → World → Prop} {a : Act} {w : World} (n : Nat) (hm : P.follows .mixedOrders = true) (hB : Region.lexB .any (l.take n).toArray = true) (hb : backB l = true) (hg : guardB n (l.take n) = true)
    (hs : Region.sinkB .any l.toArray n = true) (hc : Region.chainB .any l.toArray n = true) (hn : n < l.length)
    (hseq : Region.seqB .any l.toArray (l.length - n) n ((List.replicate n true ++ List.replicate (l.length - n) false).toArray) = true)
    (h : wpQuiet P (l.take n).toArray (fun W => ∃ s : Ext w, W = s.world) (fun a' => ∀ w', (∃ s : Ext w, w' = s.world) → wpList P l.toArray Q (l.drop n) a' w') (l.take n) a) : (Code.region id l.toArray true).wp P Q a w :=
  wp_region_quiet_tail (C := fun W => ∃ s : Ext w, W = s.world) n hm hB hb hg hs hc hn hseq ⟨(⟨w.drew, ⟨rfl, rfl, rfl, Nat.le_refl _, fun _ _ => rfl⟩⟩ : Ext w), rfl⟩ h

end Go.Proofs.YtjinbhnpcdlkiaaGreatDoor

