/- An append behind a slice that has no room: what was there stays. No condition. -/
import Derived.Test.YtickhmlhciafgaaGreatMa28
import Derived.Test.YtickhmlhciafgaaGreatMa16
namespace Go.Proofs.YtickhmlhciafgaaGreat
open Go.RowKit
set_option linter.unusedVariables false

/-- What comes ahead of operation i in the walk: free ones first, then the others in the text's order. -/
def upto (isf : Nat → Bool) (i j : Nat) : Bool := if isf i then isf j && decide (j < i) else isf j || decide (j < i)
/-- Closed: what is free waits for what is free alone. -/
def freeB (l : List Oper) (n : Nat) (isf isc : Nat → Bool) : Bool := (List.range n).all fun i => !isf i || (!isc i && match l[i]? with
  | none => true
  | some o => o.after.all fun e => !(Region.binds .any e) || !(decide (e.on < n)) || isf e.on)
/-- Closed: what comes behind call c, and is not free, waits for it. -/
def depF (l : List Oper) (n : Nat) (isf : Nat → Bool) (c : Nat) : Bool := (List.range n).all fun j => decide (j ≤ c) || isf j || (match l[j]? with
  | none => true
  | some o => o.after.any fun e => Region.binds .any e && decide (c ≤ e.on) && !isf e.on)
def callsF (l : List Oper) (n : Nat) (isf isc : Nat → Bool) : Bool := (List.range n).all fun c => !isc c || depF l n isf c
section
variable {l : List Oper} {n c : Nat} {isf isc : Nat → Bool}
theorem freeB_spec (h : freeB l n isf isc = true) {i : Nat} (hi : i < n) (hf : isf i = true) : isc i = false ∧ ∀ o, l[i]? = some o → ∀ e ∈ o.after, Region.binds .any e = true → e.on < n → isf e.on = true := by
  have h1 := List.all_eq_true.1 h i (List.mem_range.2 hi)
  rw [hf] at h1
  simp only [Bool.not_true, Bool.false_or, Bool.and_eq_true, Bool.not_eq_true'] at h1
  refine ⟨h1.1, fun o ho e he hb hn => ?_⟩
  have h2 := h1.2
  rw [ho] at h2
  have := Array.all_eq_true_iff_forall_mem.1 h2 e he
  simpa [hb, hn] using this
theorem depF_spec (h : depF l n isf c = true) {j : Nat} (hj : j < n) (hc : c < j) (hf : isf j = false) {o : Oper} (ho : l[j]? = some o) : ∃ e ∈ o.after, Region.binds .any e = true ∧ c ≤ e.on ∧ isf e.on = false := by
  have h1 := List.all_eq_true.1 h j (List.mem_range.2 hj)
  rw [ho, hf] at h1
  simp only [Bool.or_false, Bool.or_eq_true, decide_eq_true_eq] at h1
  rcases h1 with h1 | h1
  · omega
  · obtain ⟨e, he, h2⟩ := Array.any_eq_true'.1 h1
    simp only [Bool.and_eq_true, decide_eq_true_eq, Bool.not_eq_true'] at h2
    exact ⟨e, he, h2.1.1, h2.1.2, h2.2⟩
theorem callsF_spec (h : callsF l n isf isc = true) {c : Nat} (hc : c < n) (hi : isc c = true) : depF l n isf c = true := by
  have h1 := List.all_eq_true.1 h c (List.mem_range.2 hc)
  rw [hi] at h1
  simpa using h1
theorem upto_of (hfr : freeB l n isf isc = true) {i j : Nat} (hi : i < n) (hj : j < n) (hlt : j < i) {o : Oper} (ho : l[i]? = some o) {e : Edge} (he : e ∈ o.after) (hej : e.on = j) (hb : Region.binds .any e = true) : upto isf i j = true := by
  unfold upto
  split
  · rename_i hf
    have := (freeB_spec hfr hi hf).2 o ho e he hb (by omega)
    rw [hej] at this
    simp [this, hlt]
  · simp [hlt]
end
/-- The walk: the free operations first. -/
def wpFree (P : Program) (w : World) (isf : Nat → Bool) (Q : Act → Prop) : Nat → List Oper → Act → Prop
  | _, [], a => Q a
  | i, o :: rest, a => if isf i = true then ∃ v, (∀ W, Later w W → Oper.quietUpon P (fun W' => Below W.heap.size W W') W v ((execOp a.eval o).run P W)) ∧ wpFree P w isf Q (i + 1) rest (a.put o.dst v)
    else wpFree P w isf Q (i + 1) rest a
/-- Then the others, in the text's order. -/
def wpQN (P : Program) (w : World) (isf isc : Nat → Bool) (Q : Inv w → Act → Prop) : Inv w → Nat → List Oper → Act → Prop
  | I, _, [], a => Q I a
  | I, i, o :: rest, a => if isf i = true then wpQN P w isf isc Q I (i + 1) rest a else
    if isc i = true then ∃ (V : Value → Prop) (J : Value → Inv w), (∀ u W, V u → (J u).C W → I.C W) ∧ (∀ W, I.C W → callUponM P V I J W ((execOp a.eval o).run P W)) ∧ ∀ u, V u → wpQN P w isf isc Q (J u) (i + 1) rest (a.put o.dst u) else
    ∃ v, (∀ W, I.C W → Oper.quietUpon P (fun W' => Below W.heap.size W W') W v ((execOp a.eval o).run P W)) ∧ wpQN P w isf isc Q I (i + 1) rest (a.put o.dst v)
section
variable {P : Program} {l : List Oper} {w : World} {n c : Nat} {isf : Nat → Bool} {Q : Exit → Act → World → Prop} {a0 : Act} {isc : Nat → Bool} {I : Inv w} {V : Value → Prop}
theorem wpAny_of_QNB (hb : backC l = true) (hfr : freeB l n isf isc = true) (hp : plainC l n n 1000000 = true) (hs : Region.sinkB .any l.toArray n = true) (hc : Region.chainB .any l.toArray n = true) (hsel : Region.noSelect l.toArray = true) (hn : n < l.length)
    (hseq : Region.seqB .any l.toArray (l.length - n) n ((List.replicate n true ++ List.replicate (l.length - n) false).toArray) = true)
    (vs : Nat → Value) (hv : ∀ j o, (l.take n)[j]? = some o → isc j = false → ∀ W, I.C W → Oper.quietUpon P (fun W' => Below W.heap.size W W') W (vs j) ((execOp (mkA (dstOf l) vs a0 (upto isf j) n).eval o).run P W))
    (hQ : ∀ W, I.C W → wpList P l.toArray Q (l.drop n) (mkA (dstOf l) vs a0 (fun _ => true) n) W) :
    ∀ (f : Nat) (listed : Array Bool) (vc : Nat → Value) (W : World), HeadInv .any l.toArray n listed → unl listed n = f → (∀ j, j < n → vc j = vs j) → I.C W → (∀ j, j < n → isc j = true → listed.getD j true = true) →
      wpAny P .any l.toArray Q (f + (l.length - n)) listed (mkA (dstOf l) vc a0 (fun j => listed.getD j true) n) W := by
  intro f
  have hds := plainC_ds hp
  induction f with
  | zero =>
    intro listed vc W inv hun hvc hF hcl
    have hsl : listed.size = l.length := by simpa using inv.size
    have e : listed = (List.replicate n true ++ List.replicate (l.length - n) false).toArray := by
      apply Array.ext
      · simp [hsl]; omega
      · intro i h1 h2
        rcases Nat.lt_or_ge i n with hi | hi
        · have := unl_zero hun i hi
          have hb' : listed[i] = true := by simpa [h1] using this
          rw [hb']
          simp [hi]
        · have := inv.tail i hi (by simpa [hsl] using h1)
          have hb' : listed[i] = false := by simpa [h1] using this
          rw [hb']
          simp [List.getElem_append, Nat.not_lt.2 hi]
    have ea : mkA (dstOf l) vc a0 (fun j => listed.getD j true) n = mkA (dstOf l) vs a0 (fun _ => true) n :=
      mkA_congr n (fun j hj => unl_zero hun j hj) (fun j hj _ => hvc j hj)
    rw [Nat.zero_add, ea]
    have hdl : (l.drop n).length = l.length - n := by simp
    have := wpAny_of_seq (P := P) (md := .any) (Q' := Q) (ops := l.toArray) (l.drop n) n listed _ W (fun j => by simp [List.getElem?_drop]) (by rw [hdl, e]; exact hseq) (hQ W hF)
    rwa [hdl] at this
  | succ f ih =>
    intro listed vc W inv hun hvc hF hcl
    have hsl : listed.size = l.length := by simpa using inv.size
    have hne := ready_someC (n := n) hb (by omega) hsl (by omega)
    obtain ⟨i0, h0, hu0⟩ := unl_pos (show 0 < unl listed n by omega)
    rw [show f + 1 + (l.length - n) = (f + (l.length - n)) + 1 by omega]
    refine ⟨fun hnil => absurd hnil hne, fun i hi => ?_⟩
    have hin : i < n := by
      rcases Nat.lt_or_ge i n with h' | h'
      · exact h'
      · exact absurd hi (tail_waits hs hc (by simpa using hn) inv _ i0 rfl h0 hu0 i h')
    obtain ⟨hiu, o, ho, hall⟩ := mem_ready.1 hi
    have ho' : l[i]? = some o := by simpa using ho
    have hot : (l.take n)[i]? = some o := by rw [List.getElem?_take, if_pos hin]; exact ho'
    have hdi : dstOf l i = o.dst := by simp [dstOf, ho']
    have hgd := plainC_guard hp hin ho'
    have hun' : unl (listed.setIfInBounds i true) n = f := by have := unl_set hiu hin; omega
    have hci : isc i = false := by
      cases e : isc i with
      | false => rfl
      | true => rw [hcl i hin e] at hiu; cases hiu
    have hcl' : ∀ j, j < n → isc j = true → (listed.setIfInBounds i true).getD j true = true := fun j hj hjc => by
      rw [getD_set_ne true (fun e => by subst e; rw [hci] at hjc; cases hjc)]; exact hcl j hj hjc
    have hset : ∀ j, j < n → ((listed.getD j true || j == i) = (listed.setIfInBounds i true).getD j true) := fun j hj => by
      by_cases e : i = j
      · subst e
        have h1 : i < listed.size := by omega
        simp [h1]
      · rw [getD_set_ne true e]
        have : (j == i) = false := by simpa using fun h => e h.symm
        simp [this]
    have hlist : ∀ e ∈ o.after, Region.binds .any e = true → e.on < n → listed.getD e.on true = true := fun e he heb hlt => by
      have h2 := hall e he heb
      have h3 : e.on < listed.size := by omega
      simp [h3] at h2 ⊢
      exact h2
    unfold wpOp
    rw [ho]
    simp only
    rw [if_pos (by simp [Region.wanted, hgd])]
    refine .inl ?_
    have hq := hv i o hot hci W hF
    have hex : execOp (mkA (dstOf l) vc a0 (fun j => listed.getD j true) n).eval o = execOp (mkA (dstOf l) vs a0 (upto isf i) n).eval o := by
      refine execOp_congr o (fun cs b => Region.noSelect_spec hsel i o cs b ho) fun x hx => ?_
      refine mkA_agree hds fun s hxs j hj hdj => ?_
      subst hxs
      obtain ⟨_, e, he, hej, heb⟩ := (plainC_at hp hin hj ho' hdj).2 hx
      have hlt := backC_spec hb ho' e he heb
      have h5 := hlist e he heb (by omega)
      rw [hej] at h5 hlt
      exact ⟨h5, upto_of hfr hin hj hlt ho' he hej heb, hvc j hj⟩
    have hput : ∀ u, u = vs i → (mkA (dstOf l) vc a0 (fun j => listed.getD j true) n).put o.dst u = mkA (dstOf l) vc a0 (fun j => (listed.setIfInBounds i true).getD j true) n := fun u hu => by
      rw [hu, ← hvc i hin, ← hdi, mkA_put hiu n hin hds]
      exact mkA_congr n hset (fun _ _ _ => rfl)
    unfold Oper.wp
    rw [hex]
    generalize (execOp (mkA (dstOf l) vs a0 (upto isf i) n).eval o).run P W = r at hq ⊢
    cases r with
    | ok nx W' =>
      cases nx <;> simp only [Oper.quietUpon] at hq <;> simp only [Oper.upon]
      case value u =>
        obtain ⟨e1, e2⟩ := hq
        rw [e1, hput u e2]
        exact ih _ _ _ (inv.set hi hin) hun' hvc hF hcl'
      case skip =>
        obtain ⟨e1, e2⟩ := hq
        rw [e1, hput undef e2.symm]
        exact ih _ _ _ (inv.set hi hin) hun' hvc hF hcl'
      case enter g args =>
        obtain ⟨e1, hcl2⟩ := hq
        rw [e1]
        refine hcl2.mono fun e W'' ⟨he, hB⟩ => ?_
        subst he
        simp only
        rw [hput _ rfl]
        exact ih _ _ _ (inv.set hi hin) hun' hvc (I.f1 _ _ hF hB) hcl'
    | halt x W' => simp only [Oper.quietUpon] at hq
def StageN (P : Program) (l : List Oper) (w : World) (n : Nat) (Q : Exit → Act → World → Prop) (a0 : Act) (isf isc : Nat → Bool) (lo : Nat) (I : Inv w) (vs : Nat → Value) : Prop :=
  ∀ (f : Nat) (listed : Array Bool) (vc : Nat → Value) (W : World), HeadInv .any l.toArray n listed → unl listed n = f → (∀ j, j < n → isf j = true ∨ j < lo → vc j = vs j) → I.C W → (∀ j, j < n → isc j = true → j < lo → listed.getD j true = true) → (∀ j, j < n → lo ≤ j → isf j = false → listed.getD j true = false) →
      wpAny P .any l.toArray Q (f + (l.length - n)) listed (mkA (dstOf l) vc a0 (fun j => listed.getD j true) n) W
theorem wpAny_of_QNA (hb : backC l = true) (isc : Nat → Bool) (hfr : freeB l n isf isc = true) (hp : plainC l n n 1000000 = true) (hdep : depF l n isf c = true) (hs : Region.sinkB .any l.toArray n = true) (hc : Region.chainB .any l.toArray n = true) (hsel : Region.noSelect l.toArray = true) (hn : n < l.length) (hcn : c < n)
    {oc : Oper} (hoc : l[c]? = some oc) (vs : Nat → Value) (hisc : isc c = true) (I : Inv w) (J : Value → Inv w)
    (hv : ∀ j o, isf j = true ∨ j < c → (l.take n)[j]? = some o → isc j = false → ∀ W, I.C W → Oper.quietUpon P (fun W' => Below W.heap.size W W') W (vs j) ((execOp (mkA (dstOf l) vs a0 (upto isf j) n).eval o).run P W))
    (hcl : ∀ W, I.C W → callUponM P V I J W ((execOp (mkA (dstOf l) vs a0 (upto isf c) n).eval oc).run P W))
    (hnext : ∀ u, V u → ∃ vsu : Nat → Value, (∀ j, isf j = true ∨ j < c → vsu j = vs j) ∧ vsu c = u ∧ StageN P l w n Q a0 isf isc (c + 1) (J u) vsu) :
    ∀ (f : Nat) (listed : Array Bool) (vc : Nat → Value) (W : World), HeadInv .any l.toArray n listed → unl listed n = f → (∀ j, j < n → isf j = true ∨ j < c → vc j = vs j) → I.C W → (∀ j, j < n → isc j = true → j < c → listed.getD j true = true) → listed.getD c true = false → (∀ j, j < n → c < j → isf j = false → listed.getD j true = false) →
      wpAny P .any l.toArray Q (f + (l.length - n)) listed (mkA (dstOf l) vc a0 (fun j => listed.getD j true) n) W := by
  intro f
  have hds := plainC_ds hp
  induction f with
  | zero =>
    intro listed vc W inv hun hvc hF hdone hcu hlow
    have := unl_zero hun c hcn
    rw [hcu] at this
    cases this
  | succ f ih =>
    intro listed vc W inv hun hvc hF hdone hcu hlow
    have hsl : listed.size = l.length := by simpa using inv.size
    have hne := ready_someC (n := n) hb (by omega) hsl (by omega)
    obtain ⟨i0, h0, hu0⟩ := unl_pos (show 0 < unl listed n by omega)
    rw [show f + 1 + (l.length - n) = (f + (l.length - n)) + 1 by omega]
    refine ⟨fun hnil => absurd hnil hne, fun i hi => ?_⟩
    have hin : i < n := by
      rcases Nat.lt_or_ge i n with h' | h'
      · exact h'
      · exact absurd hi (tail_waits hs hc (by simpa using hn) inv _ i0 rfl h0 hu0 i h')
    obtain ⟨hiu, o, ho, hall⟩ := mem_ready.1 hi
    have ho' : l[i]? = some o := by simpa using ho
    have hot : (l.take n)[i]? = some o := by rw [List.getElem?_take, if_pos hin]; exact ho'
    have hdi : dstOf l i = o.dst := by simp [dstOf, ho']
    have hgd := plainC_guard hp hin ho'
    have hun' : unl (listed.setIfInBounds i true) n = f := by have := unl_set hiu hin; omega
    have hset : ∀ j, j < n → ((listed.getD j true || j == i) = (listed.setIfInBounds i true).getD j true) := fun j hj => by
      by_cases e : i = j
      · subst e
        have h1 : i < listed.size := by omega
        simp [h1]
      · rw [getD_set_ne true e]
        have : (j == i) = false := by simpa using fun h => e h.symm
        simp [this]
    have hself : (listed.setIfInBounds i true).getD i true = true := by rw [← hset i hin]; simp
    have hlist : ∀ e ∈ o.after, Region.binds .any e = true → e.on < n → listed.getD e.on true = true := fun e he heb hlt => by
      have h2 := hall e he heb
      have h3 : e.on < listed.size := by omega
      simp [h3] at h2 ⊢
      exact h2
    have hic : isf i = true ∨ i ≤ c := by
      rcases Nat.lt_or_ge c i with h' | h'
      · cases hfi : isf i with
        | true => exact .inl rfl
        | false =>
          obtain ⟨e, he, heb, hce, hem⟩ := depF_spec hdep hin h' hfi ho'
          have hlt := backC_spec hb ho' e he heb
          have h5 := hlist e he heb (by omega)
          by_cases hec : e.on = c
          · rw [hec, hcu] at h5; cases h5
          · rw [hlow e.on (by omega) (by omega) hem] at h5; cases h5
      · exact .inr h'
    have hex : execOp (mkA (dstOf l) vc a0 (fun j => listed.getD j true) n).eval o = execOp (mkA (dstOf l) vs a0 (upto isf i) n).eval o := by
      refine execOp_congr o (fun cs b => Region.noSelect_spec hsel i o cs b ho) fun x hx => ?_
      refine mkA_agree hds fun s hxs j hj hdj => ?_
      subst hxs
      obtain ⟨_, e, he, hej, heb⟩ := (plainC_at hp hin hj ho' hdj).2 hx
      have hlt := backC_spec hb ho' e he heb
      have h5 := hlist e he heb (by omega)
      rw [hej] at h5 hlt
      refine ⟨h5, upto_of hfr hin hj hlt ho' he hej heb, hvc j hj ?_⟩
      rcases hic with hf | hf
      · have := (freeB_spec hfr hin hf).2 o ho' e he heb (by omega)
        rw [hej] at this
        exact .inl this
      · exact .inr (by omega)
    unfold wpOp
    rw [ho]
    simp only
    rw [if_pos (by simp [Region.wanted, hgd])]
    refine .inl ?_
    by_cases hci : i = c
    · subst hci
      have : o = oc := Option.some.inj (ho'.symm.trans hoc)
      subst this
      have hq := hcl W hF
      unfold Oper.wp
      rw [hex]
      generalize (execOp (mkA (dstOf l) vs a0 (upto isf i) n).eval o).run P W = r at hq ⊢
      cases r with
      | halt x W' => simp only [callUponM] at hq
      | ok nx W' =>
        cases nx <;> simp only [callUponM] at hq
        case enter g args =>
          obtain ⟨e1, hcall⟩ := hq
          simp only [Oper.upon]
          rw [e1]
          refine hcall.mono fun e W'' ⟨u, he, hV, hF2, hB, hap⟩ => ?_
          subst he
          simp only
          obtain ⟨vsu, v1, v2, v3⟩ := hnext u hV
          have ea : (mkA (dstOf l) vc a0 (fun j => listed.getD j true) n).put o.dst u = mkA (dstOf l) vsu a0 (fun j => (listed.setIfInBounds i true).getD j true) n := by
            have e3 : mkA (dstOf l) vc a0 (fun j => listed.getD j true) n = mkA (dstOf l) vsu a0 (fun j => listed.getD j true) n :=
              mkA_congr n (fun _ _ => rfl) (fun j hj hjl => by
                have hjc : isf j = true ∨ j < i := by
                  cases hfj : isf j with
                  | true => exact .inl rfl
                  | false =>
                    rcases Nat.lt_or_ge j i with h' | h'
                    · exact .inr h'
                    · by_cases hji : j = i
                      · rw [hji, hcu] at hjl; cases hjl
                      · rw [hlow j hj (by omega) hfj] at hjl; cases hjl
                rw [hvc j hj hjc, v1 j hjc])
            have e4 := mkA_put (ds := dstOf l) (vs := vsu) (a0 := a0) (L := fun j => listed.getD j true) hiu n hin hds
            rw [v2] at e4
            rw [e3, ← hdi, e4, mkA_congr n hset (fun _ _ _ => rfl)]
          rw [ea]
          refine v3 f _ _ W'' (inv.set hi hin) hun' (fun j _ _ => rfl) hF2 (fun j h1 h2 h3 => ?_) (fun j h1 h2 h3 => ?_)
          · by_cases hji : j = i
            · subst hji; exact hself
            · rw [getD_set_ne true (Ne.symm hji)]; exact hdone j h1 h2 (by omega)
          · rw [getD_set_ne true (by omega)]; exact hlow j h1 (by omega) h3
    · have hlt : isf i = true ∨ i < c := hic.imp id (fun h => by omega)
      have hisi : isc i = false := by
        rcases hlt with hf | hlt
        · exact (freeB_spec hfr hin hf).1
        · cases e : isc i with
          | false => rfl
          | true => rw [hdone i hin e hlt] at hiu; cases hiu
      have hq := hv i o hlt hot hisi W hF
      have hdone' : ∀ j, j < n → isc j = true → j < c → (listed.setIfInBounds i true).getD j true = true := fun j h1 h2 h3 => by
        rw [getD_set_ne true (fun e => by subst e; rw [hisi] at h2; cases h2)]; exact hdone j h1 h2 h3
      have hput : ∀ u, u = vs i → (mkA (dstOf l) vc a0 (fun j => listed.getD j true) n).put o.dst u = mkA (dstOf l) vc a0 (fun j => (listed.setIfInBounds i true).getD j true) n := fun u hu => by
        rw [hu, ← hvc i hin hlt, ← hdi, mkA_put hiu n hin hds]
        exact mkA_congr n hset (fun _ _ _ => rfl)
      have hcu' : (listed.setIfInBounds i true).getD c true = false := by rw [getD_set_ne true hci]; exact hcu
      have hlow' : ∀ j, j < n → c < j → isf j = false → (listed.setIfInBounds i true).getD j true = false := fun j h1 h2 h3 => by
        have : i ≠ j := fun e => by
          subst e
          rcases hlt with h | h
          · rw [h] at h3; cases h3
          · omega
        rw [getD_set_ne true this]; exact hlow j h1 h2 h3
      unfold Oper.wp
      rw [hex]
      generalize (execOp (mkA (dstOf l) vs a0 (upto isf i) n).eval o).run P W = r at hq ⊢
      cases r with
      | ok nx W' =>
        cases nx <;> simp only [Oper.quietUpon] at hq <;> simp only [Oper.upon]
        case value u =>
          obtain ⟨e1, e2⟩ := hq
          rw [e1, hput u e2]
          exact ih _ _ _ (inv.set hi hin) hun' hvc hF hdone' hcu' hlow'
        case skip =>
          obtain ⟨e1, e2⟩ := hq
          rw [e1, hput undef e2.symm]
          exact ih _ _ _ (inv.set hi hin) hun' hvc hF hdone' hcu' hlow'
        case enter g args =>
          obtain ⟨e1, hcl2⟩ := hq
          rw [e1]
          refine hcl2.mono fun e W'' ⟨he, hB⟩ => ?_
          subst he
          simp only
          rw [hput _ rfl]
          exact ih _ _ _ (inv.set hi hin) hun' hvc (I.f1 _ _ hF hB) hdone' hcu' hlow'
      | halt x W' => simp only [Oper.quietUpon] at hq
theorem upto_low {isf : Nat → Bool} {i j : Nat} (h : isf i = false) : upto isf i j = (isf j || decide (j < i)) := by unfold upto; rw [h]; rfl
theorem upto_free {isf : Nat → Bool} {i j : Nat} (h : isf i = true) : upto isf i j = (isf j && decide (j < i)) := by unfold upto; rw [h]; rfl
/-- The free ones' values. -/
theorem wpFree_chain {QF : Act → Prop} : ∀ (rest : List Oper) (i : Nat) (a : Act) (vs0 : Nat → Value), (∀ j, rest[j]? = (l.take n)[i + j]?) → i + rest.length = n → a = mkA (dstOf l) vs0 a0 (fun j => isf j && decide (j < i)) n → (∀ j k, j < k → k < n → ∀ d, dstOf l j = some d → dstOf l k ≠ some d) →
      wpFree P w isf QF i rest a → ∃ vs : Nat → Value, (∀ j, j < i → vs j = vs0 j) ∧ (∀ j o, i ≤ j → (l.take n)[j]? = some o → isf j = true → ∀ W, Later w W → Oper.quietUpon P (fun W' => Below W.heap.size W W') W (vs j) ((execOp (mkA (dstOf l) vs a0 (upto isf j) n).eval o).run P W)) ∧ QF (mkA (dstOf l) vs a0 isf n)
  | [], i, a, vs0, hr, hlen, ha, hds, h => by
    simp only [List.length_nil, Nat.add_zero] at hlen
    subst hlen
    refine ⟨vs0, fun _ _ => rfl, fun j o hij ho _ => ?_, ?_⟩
    · have := hr (j - i)
      rw [show i + (j - i) = j by omega, ho] at this
      simp at this
    · rw [ha] at h
      rw [mkA_congr (L' := fun j => isf j && decide (j < i)) i (fun j hj => by simp [hj]) (fun _ _ _ => rfl)]
      exact h
  | o :: rest, i, a, vs0, hr, hlen, ha, hds, h => by
    have h0 : (l.take n)[i]? = some o := by simpa using (hr 0).symm
    have hin : i < n := by simp at hlen; omega
    have hl0 : l[i]? = some o := by
      rw [List.getElem?_take, if_pos hin] at h0; exact h0
    have hr' : ∀ j, rest[j]? = (l.take n)[i + 1 + j]? := fun j => by
      have := hr (j + 1)
      rw [List.getElem?_cons_succ] at this
      rw [this, show i + (j + 1) = i + 1 + j by omega]
    have hlen' : i + 1 + rest.length = n := by simp at hlen; omega
    have hd : dstOf l i = o.dst := by simp [dstOf, hl0]
    simp only [wpFree] at h
    cases hf : isf i with
    | true =>
      rw [hf, if_pos rfl] at h
      obtain ⟨v, hv, hk⟩ := h
      have hcg : ∀ L : Nat → Bool, (∀ j, j < n → L j = true → j ≠ i) → mkA (dstOf l) (fun j => if j = i then v else vs0 j) a0 L n = mkA (dstOf l) vs0 a0 L n := fun L hL => mkA_congr n (fun _ _ => rfl) (fun j hj hl => if_neg (hL j hj hl))
      have hput : a.put o.dst v = mkA (dstOf l) (fun j => if j = i then v else vs0 j) a0 (fun j => isf j && decide (j < i + 1)) n := by
        have e := mkA_put (ds := dstOf l) (vs := fun j => if j = i then v else vs0 j) (a0 := a0) (L := fun j => isf j && decide (j < i)) (i := i) (by simp) n hin hds
        rw [if_pos rfl, hd, hcg _ (fun j _ hl => by
          have : j < i := by simp at hl; exact hl.2
          omega), ← ha] at e
        rw [e]
        refine mkA_congr n (fun j hj => ?_) (fun _ _ _ => rfl)
        by_cases hji : j = i
        · subst hji; simp [hf]
        · have e1 : (j == i) = false := by simpa using hji
          have e2 : decide (j < i + 1) = decide (j < i) := by simp; omega
          simp [e1, e2]
      obtain ⟨vs, e1, e2, e3⟩ := wpFree_chain rest (i + 1) (a.put o.dst v) (fun j => if j = i then v else vs0 j) hr' hlen' hput hds hk
      have hlow : ∀ j, j < i → vs j = vs0 j := fun j hj => by rw [e1 j (by omega)]; exact if_neg (by omega)
      refine ⟨vs, hlow, fun j o' hij ho' hjf => ?_, e3⟩
      by_cases hji : j = i
      · subst hji
        have : o' = o := Option.some.inj (ho'.symm.trans h0)
        subst this
        have e4 : vs j = v := by rw [e1 j (by omega)]; exact if_pos rfl
        have e5 : mkA (dstOf l) vs a0 (upto isf j) n = a := by
          rw [ha]
          refine mkA_congr n (fun q hq => by rw [upto_free hf]) (fun q hq hl => hlow q ?_)
          rw [upto_free hf] at hl
          simp at hl
          exact hl.2
        rw [e4, e5]
        exact hv
      · exact e2 j o' (by omega) ho' hjf
    | false =>
      rw [hf, if_neg Bool.false_ne_true] at h
      obtain ⟨vs, e1, e2, e3⟩ := wpFree_chain rest (i + 1) a vs0 hr' hlen' (by
        rw [ha]
        refine mkA_congr n (fun j hj => ?_) (fun _ _ _ => rfl)
        by_cases hji : j = i
        · subst hji; simp [hf]
        · have e2 : decide (j < i + 1) = decide (j < i) := by simp; omega
          simp [e2]) hds h
      refine ⟨vs, fun j hj => e1 j (by omega), fun j o' hij ho' hjf => e2 j o' (by
        have : j ≠ i := fun e => by subst e; rw [hf] at hjf; cases hjf
        omega) ho' hjf, e3⟩
theorem wpQN_stage (hb : backC l = true) (hfr : freeB l n isf isc = true) (hp : plainC l n n 1000000 = true) (hcs : callsF l n isf isc = true) (hs : Region.sinkB .any l.toArray n = true) (hc : Region.chainB .any l.toArray n = true) (hsel : Region.noSelect l.toArray = true) (hn : n < l.length)
    (hseq : Region.seqB .any l.toArray (l.length - n) n ((List.replicate n true ++ List.replicate (l.length - n) false).toArray) = true) :
    ∀ (rest : List Oper) (i lo : Nat) (I : Inv w) (a : Act) (vs0 : Nat → Value), (∀ j, rest[j]? = (l.take n)[i + j]?) → i + rest.length = n → lo ≤ i → (∀ j, lo ≤ j → j < i → isc j = false) → a = mkA (dstOf l) vs0 a0 (fun j => isf j || decide (j < i)) n →
      (∀ j o, isf j = true ∨ j < i → (l.take n)[j]? = some o → isc j = false → ∀ W, I.C W → Oper.quietUpon P (fun W' => Below W.heap.size W W') W (vs0 j) ((execOp (mkA (dstOf l) vs0 a0 (upto isf j) n).eval o).run P W)) →
      wpQN P w isf isc (fun I a' => ∀ W, I.C W → wpList P l.toArray Q (l.drop n) a' W) I i rest a →
      ∃ vs : Nat → Value, (∀ j, isf j = true ∨ j < i → vs j = vs0 j) ∧ StageN P l w n Q a0 isf isc lo I vs
  | [], i, lo, I, a, vs0, hr, hlen, hlo, hnc, ha, hv0, h => by
    simp only [List.length_nil, Nat.add_zero] at hlen
    subst hlen
    subst ha
    refine ⟨vs0, fun _ _ => rfl, fun f listed vc W inv hun hvc hF hdone hlow => ?_⟩
    have e : mkA (dstOf l) vc a0 (fun j => listed.getD j true) i = mkA (dstOf l) vs0 a0 (fun j => listed.getD j true) i :=
      mkA_congr i (fun _ _ => rfl) (fun j hj hjl => by
        refine hvc j hj ?_
        cases hfj : isf j with
        | true => exact .inl rfl
        | false =>
          rcases Nat.lt_or_ge j lo with h' | h'
          · exact .inr h'
          · rw [hlow j hj h' hfj] at hjl; cases hjl)
    rw [e]
    exact wpAny_of_QNB (P := P) (Q := Q) (w := w) (a0 := a0) (isc := isc) (isf := isf) (I := I) hb hfr hp hs hc hsel hn hseq vs0 (fun j oj hoj hjc => hv0 j oj (.inr (by
      rw [List.getElem?_take] at hoj
      split at hoj
      · assumption
      · cases hoj)) hoj hjc) (fun W hW => by
        rw [mkA_congr (L' := fun j => isf j || decide (j < i)) i (fun j hj => by simp [hj]) (fun _ _ _ => rfl)]
        exact h W hW) f listed _ W inv hun (fun j _ => rfl) hF (fun j hj hjc => hdone j hj hjc (by
        rcases Nat.lt_or_ge j lo with h' | h'
        · exact h'
        · rw [hnc j h' hj] at hjc; cases hjc))
  | o :: rest, i, lo, I, a, vs0, hr, hlen, hlo, hnc, ha, hv0, h => by
    have hds := plainC_ds hp
    have h0 : (l.take n)[i]? = some o := by simpa using (hr 0).symm
    have hin : i < n := by simp at hlen; omega
    have hl0 : l[i]? = some o := by
      rw [List.getElem?_take, if_pos hin] at h0; exact h0
    have hr' : ∀ j, rest[j]? = (l.take n)[i + 1 + j]? := fun j => by
      have := hr (j + 1)
      rw [List.getElem?_cons_succ] at this
      rw [this, show i + (j + 1) = i + 1 + j by omega]
    have hlen' : i + 1 + rest.length = n := by simp at hlen; omega
    have hd : dstOf l i = o.dst := by simp [dstOf, hl0]
    simp only [wpQN] at h
    cases hfi : isf i with
    | true =>
      rw [hfi, if_pos rfl] at h
      have hci := (freeB_spec hfr hin hfi).1
      obtain ⟨vs, e1, e2⟩ := wpQN_stage hb hfr hp hcs hs hc hsel hn hseq rest (i + 1) lo I a vs0 hr' hlen' (by omega) (fun j h1 h2 => by
          by_cases hji : j = i
          · rw [hji]; exact hci
          · exact hnc j h1 (by omega)) (by
          rw [ha]
          refine mkA_congr n (fun j hj => ?_) (fun _ _ _ => rfl)
          by_cases hji : j = i
          · subst hji; simp [hfi]
          · have e2 : decide (j < i + 1) = decide (j < i) := by simp; omega
            simp [e2]) (fun j oj hj hoj hjc W hW => hv0 j oj (by
          by_cases hji : j = i
          · subst hji; exact .inl hfi
          · exact hj.imp id (fun h => by omega)) hoj hjc W hW) h
      exact ⟨vs, fun j hj => e1 j (hj.imp id (fun h => by omega)), e2⟩
    | false =>
    rw [hfi, if_neg Bool.false_ne_true] at h
    have hput : ∀ v, a.put o.dst v = mkA (dstOf l) (fun j => if j = i then v else vs0 j) a0 (fun j => isf j || decide (j < i + 1)) n := fun v => by
      have e := mkA_put (ds := dstOf l) (vs := fun j => if j = i then v else vs0 j) (a0 := a0) (L := fun j => isf j || decide (j < i)) (i := i) (by simp [hfi]) n hin hds
      rw [if_pos rfl, hd] at e
      rw [ha, show mkA (dstOf l) vs0 a0 (fun j => isf j || decide (j < i)) n = mkA (dstOf l) (fun j => if j = i then v else vs0 j) a0 (fun j => isf j || decide (j < i)) n from mkA_congr n (fun _ _ => rfl) (fun j hj hl => (if_neg (fun e => by subst e; simp [hfi] at hl)).symm), e]
      refine mkA_congr n (fun j hj => ?_) (fun _ _ _ => rfl)
      by_cases hji : j = i
      · subst hji; simp
      · have e1 : (j == i) = false := by simpa using hji
        have e2 : decide (j < i + 1) = decide (j < i) := by simp; omega
        simp [e1, e2]
    have hcg : ∀ v j, isf j = true ∨ j < i + 1 → mkA (dstOf l) (fun j => if j = i then v else vs0 j) a0 (upto isf j) n = mkA (dstOf l) vs0 a0 (upto isf j) n := fun v j hj => mkA_congr n (fun _ _ => rfl) (fun q hq hl => if_neg (fun e => by
      subst e
      cases hfj : isf j with
      | true => rw [upto_free hfj, hfi] at hl; simp at hl
      | false =>
        rw [upto_low hfj, hfi] at hl
        have : q < j := by simpa using hl
        rcases hj with h' | h'
        · rw [hfj] at h'; cases h'
        · omega))
    have haj : a = mkA (dstOf l) vs0 a0 (upto isf i) n := by
      rw [ha]
      exact mkA_congr n (fun j hj => by rw [upto_low hfi]) (fun _ _ _ => rfl)
    cases hic : isc i with
    | true =>
      rw [hic, if_pos rfl] at h
      obtain ⟨V, J, hIJ, hcl, hu⟩ := h
      have hdep := callsF_spec hcs hin hic
      refine ⟨vs0, fun _ _ => rfl, fun f listed vc W inv hun hvc hF hdone hlow => ?_⟩
      have e : mkA (dstOf l) vc a0 (fun j => listed.getD j true) n = mkA (dstOf l) vs0 a0 (fun j => listed.getD j true) n :=
        mkA_congr n (fun _ _ => rfl) (fun j hj hjl => by
          refine hvc j hj ?_
          cases hfj : isf j with
          | true => exact .inl rfl
          | false =>
            rcases Nat.lt_or_ge j lo with h' | h'
            · exact .inr h'
            · rw [hlow j hj h' hfj] at hjl; cases hjl)
      rw [e]
      refine wpAny_of_QNA (P := P) (Q := Q) (w := w) (a0 := a0) (V := V) (c := i) hb isc hfr hp hdep hs hc hsel hn hin hl0 vs0 hic I J hv0 (fun W hW => by rw [← haj]; exact hcl W hW) (fun u hV => ?_) f listed _ W inv hun (fun j _ _ => rfl) hF (fun j h1 h2 h3 => hdone j h1 h2 (by
        rcases Nat.lt_or_ge j lo with h' | h'
        · exact h'
        · rw [hnc j h' h3] at h2; cases h2)) (hlow i hin hlo hfi) (fun j h1 h2 h3 => hlow j h1 (by omega) h3)
      obtain ⟨vs, e1, e2⟩ := wpQN_stage hb hfr hp hcs hs hc hsel hn hseq rest (i + 1) (i + 1) (J u) (a.put o.dst u) (fun j => if j = i then u else vs0 j) hr' hlen' (Nat.le_refl _) (fun j h1 h2 => by omega) (hput u) (fun j oj hj hoj hjc W hW => by
          have hji : j ≠ i := fun e => by subst e; rw [hic] at hjc; cases hjc
          rw [if_neg hji, hcg u j hj]
          exact hv0 j oj (hj.imp id (fun h => by omega)) hoj hjc W (hIJ u W hV hW)) (hu u hV)
      refine ⟨vs, fun j hj => (e1 j (hj.imp id (fun h => by omega))).trans (if_neg (fun e => ?_)), (e1 i (.inr (by omega))).trans (if_pos rfl), e2⟩
      subst e
      rcases hj with h' | h'
      · rw [hfi] at h'; cases h'
      · omega
    | false =>
      rw [hic, if_neg Bool.false_ne_true] at h
      obtain ⟨v, hv, hk⟩ := h
      obtain ⟨vs, e1, e2⟩ := wpQN_stage hb hfr hp hcs hs hc hsel hn hseq rest (i + 1) lo I (a.put o.dst v) (fun j => if j = i then v else vs0 j) hr' hlen' (by omega) (fun j h1 h2 => by
          by_cases hji : j = i
          · rw [hji]; exact hic
          · exact hnc j h1 (by omega)) (hput v) (fun j oj hj hoj hjc W hW => by
          rw [hcg v j hj]
          by_cases hji : j = i
          · subst hji
            have : oj = o := Option.some.inj (hoj.symm.trans h0)
            subst this
            rw [if_pos rfl, ← haj]
            exact hv W hW
          · rw [if_neg hji]
            exact hv0 j oj (hj.imp id (fun h => by omega)) hoj hjc W hW) hk
      refine ⟨vs, fun j hj => (e1 j (hj.imp id (fun h => by omega))).trans (if_neg (fun e => ?_)), e2⟩
      subst e
      rcases hj with h' | h'
      · rw [hfi] at h'; cases h'
      · omega
/-- The closed facts of such a region. -/
structure RegN (P : Program) (l : List Oper) (n : Nat) (isf isc : Nat → Bool) : Prop where
  back : backC l = true
  free : freeB l n isf isc = true
  plain : plainC l n n 1000000 = true
  calls : callsF l n isf isc = true
  sink : Region.sinkB .any l.toArray n = true
  chain : Region.chainB .any l.toArray n = true
  sel : Region.noSelect l.toArray = true
  seq : Region.seqB .any l.toArray (l.length - n) n ((List.replicate n true ++ List.replicate (l.length - n) false).toArray) = true
  num : decide (n < l.length) = true
  mix : P.follows .mixedOrders = true
/-- One walk (the free operations first) serves every order: calls that make memory, one behind the other, and a forced tail. -/
theorem wp_made_tail {id : Nat} {a : Act} {w : World} (n : Nat) (isf isc : Nat → Bool) (R : RegN P l n isf isc)
    (h : wpFree P w isf (fun a1 => wpQN P w isf isc (fun I a' => ∀ W, I.C W → wpList P l.toArray Q (l.drop n) a' W) (Inv.base w) 0 (l.take n) a1) 0 (l.take n) a) : (Code.region id l.toArray true).wp P Q a w := by
  have hn : n < l.length := by simpa using R.num
  refine wp_region_any R.mix ?_
  have htl : (l.take n).length = n := by simp; omega
  have inv0 : HeadInv .any l.toArray n (Array.replicate l.toArray.size false) :=
    ⟨by simp, fun j oj _ hl => (by rw [getD_replicate_false] at hl; cases hl), fun t _ ht => getD_in (by simpa using ht) (getD_replicate_false _ _)⟩
  have key : ∀ vs j, j ≤ l.length → mkA (dstOf l) vs a (fun j => (Array.replicate l.toArray.size false).getD j true) j = a := fun vs j hj => by
    induction j with
    | zero => rfl
    | succ j ih =>
      have h1 : j < l.length := by omega
      simp only [mkA]
      rw [ih (by omega)]
      simp [h1]
  have none0 : ∀ vs m, mkA (dstOf l) vs a (fun _ => false) m = a := fun vs m => by
    induction m with
    | zero => rfl
    | succ m ih => simp only [mkA]; rw [ih]; simp
  obtain ⟨vf, _, hvf, hq⟩ := wpFree_chain (P := P) (w := w) (l := l) (n := n) (a0 := a) (isf := isf) (l.take n) 0 a (fun _ => undef) (by simp) (by omega) (by
    rw [mkA_congr (L' := fun _ => false) n (fun j _ => by simp) (fun _ _ _ => rfl), none0]) (plainC_ds R.plain) h
  obtain ⟨vs, hvs, hst⟩ := wpQN_stage (P := P) (Q := Q) (w := w) (a0 := a) (isc := isc) (isf := isf) R.back R.free R.plain R.calls R.sink R.chain R.sel hn R.seq (l.take n) 0 0 (Inv.base w) (mkA (dstOf l) vf a isf n) vf (by simp) (by omega) (Nat.le_refl _) (fun j h1 h2 => by omega) (mkA_congr n (fun j _ => by simp) (fun _ _ _ => rfl)) (fun j o hj hoj hjc W hW => hvf j o (Nat.zero_le _) hoj (hj.resolve_right (by omega)) W hW) hq
  have hun : ∀ j, j ≤ l.length → unl (Array.replicate l.toArray.size false) j = j := fun j hj => by
    induction j with
    | zero => rfl
    | succ j ih =>
      have h1 : j < l.length := by omega
      simp only [unl]
      rw [ih (by omega)]
      simp [h1]
  have hfa : ∀ j, j < l.length → (Array.replicate l.toArray.size false).getD j true = false := fun j hj => by simp [hj]
  have hL : Later w w.drew := (Later.refl w).drew
  have := hst n (Array.replicate l.toArray.size false) vs w.drew inv0 (hun n (by omega)) (fun _ _ _ => rfl) hL (fun j _ _ h3 => by omega) (fun j h1 _ _ => hfa j (by omega))
  rw [show n + (l.length - n) = l.length by omega] at this
  rw [key vs n (by omega)] at this
  have e : l.toArray.size = l.length := by simp
  rw [e]
  rw [e] at this
  exact this
end

end Go.Proofs.YtickhmlhciafgaaGreat


namespace Go.Proofs.YtickhmlhciafgaaGreat
open Go.RowKit

section
variable {w : World} {A A2 : Option Addr} {n c n2 c2 B : Nat} {vs vs2 : List Value} {e : TypeId}
theorem run_append_full {t e : TypeId} {z : Value} {bytes : Nat} (ht : Tryz.prog.underlying t = some (.slice e)) (hinfo : (Tryz.prog.info? e).map (fun i => (i.zero, i.size, i.bytes)) = some (some z, 1, bytes)) (hz : z.cells.size = 1) (hby : bytes ≤ 64)
    (ty : TypeId) (B : Nat) (hB : B ≤ w.heap.size) (h1 : VL w A n n vs) (hA : A = none → n = 0) (hnB : 0 < n → ∃ a, A = some a ∧ B ≤ a.block) (h2 : VL w A2 n2 c2 vs2) (hc2 : ∀ u ∈ vs2, u.oneCell' = true) (hn : n + n2 ≤ 1000000000) :
    ∃ A' c' w', (Builtin.append_ #[t, t] ty #[.slice A n n, .slice A2 n2 c2]).run Tryz.prog w = .ok (.slice A' (n + n2) c') w' ∧ OV w' B e A' (n + n2) c' (vs ++ vs2) ∧ Below w.heap.size w w' := by
  rcases Nat.eq_zero_or_pos n with hn0 | hn0
  · have hl : vs = [] := List.eq_nil_of_length_eq_zero (by rw [h1.1, hn0])
    subst hn0 hl
    have ho : OV w w.heap.size e A 0 0 [] := ⟨h1, .inl ⟨Nat.le_refl _, fun _ => rfl, fun h => absurd h (by omega)⟩⟩
    obtain ⟨A', c', w', hr, h3, h4, _⟩ := run_append_OV ht hinfo hz hby ty (Nat.le_refl _) ho h2 hc2 hn
    exact ⟨A', c', w', hr, h3.mono hB, h4⟩
  · obtain ⟨i0, hi0, hz0, hz1, hz2⟩ := info_parts hinfo
    rcases A with _ | a
    · have := hA rfl
      omega
    rcases Nat.eq_zero_or_pos n2 with h0 | h0
    · subst h0
      have hl2 : vs2 = [] := List.eq_nil_of_length_eq_zero h2.1
      subst hl2
      refine ⟨some a, n, w, ?_, by simpa using OV.full h1 hA B e hnB, Below.refl _ _⟩
      rcases A2 with _ | a2 <;>
        simp [Builtin.append_, run_underlying ht, sizeOf, typeInfo, hi0, Builtin.lenOf, Builtin.firstCells, loadCells, loadCellsFrom, storeCells]
    · obtain ⟨b2, off2, e2, hb2, _⟩ := h2.2.2.2 h0
      subst e2
      have hnews := h2.news _ rfl h0
      have hlen2 := h2.1
      have hbytes : (n + n2) * bytes ≤ 140737488355328 := Nat.le_trans (Nat.mul_le_mul hn hby) (by omega)
      have holds : ∀ j u, vs[j]? = some u → w.cell? (a.add j) = some u := h1.news a rfl hn0
      obtain ⟨v', w', hr, ho, hg⟩ := run_append_arg_grows (P := Tryz.prog) w t ty e i0 z 1 bytes ht hi0 hz0 hz1 hz2 hz (by omega)
          a n n vs (by simp [h1.1]) holds ⟨b2, off2, none⟩ n2 c2 vs2 (by simp [hlen2]) hnews (by omega) (by simp only [maxLen]; omega) hbytes
      obtain ⟨A', c', rfl⟩ := own_value ho (by omega)
      exact ⟨A', c', w', hr, ⟨VL.of_own ho, .inr (own_base ho hB)⟩, (Below.refl _ _).grown hg (Nat.le_refl _) (by simp)⟩
end

theorem wpList_append_full {w : World} {ops : Array Oper} {rest : List Oper} {o : Oper} {a : Act} {Q : Exit → Act → World → Prop} {A A2 : Option Addr} {n n2 c2 : Nat} {l l2 : List Int}
    (B : Nat) (hgd : o.guard = none) (s x : Operand)
    (ho : o.op = .call { callee := .builtin .append, args := #[s, x], argTypes := #[22, 22] }) (hs : a.eval s = .slice A n n) (hx : a.eval x = .slice A2 n2 c2)
    (h1 : IL w A n n l) (hA : A = none → n = 0) (hnB : 0 < n → ∃ a, A = some a ∧ B ≤ a.block) (h2 : IL w A2 n2 c2 l2) (hB : B ≤ w.heap.size) (hn : n + n2 ≤ 1000000000)
    (h : ∀ A' c' w', OL w' B A' (n + n2) c' (l ++ l2) → Below w.heap.size w w' → wpList Tryz.prog ops Q rest (a.put o.dst (.slice A' (n + n2) c')) w') : wpList Tryz.prog ops Q (o :: rest) a w := by
  obtain ⟨A', c', w', hr, h3, h4⟩ := run_append_full Tryz.underlying22 int_info rfl (by omega) o.type B hB h1 hA hnB h2 (ints_oneCell _ _) hn
  exact Lib.wpList_append_run w hgd s x _ _ ho _ _ hs hx _ w' hr (h A' c' w' (by unfold OL; rw [List.map_append]; exact h3) h4)

end Go.Proofs.YtickhmlhciafgaaGreat

