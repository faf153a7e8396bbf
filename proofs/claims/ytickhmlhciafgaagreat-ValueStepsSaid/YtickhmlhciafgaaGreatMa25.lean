/- A drawn region whose first operations only read, call, make one block and store a struct into it, and whose last ones come in one order. No condition. -/
import Derived.Test.YtickhmlhciafgaaGreatMa21
namespace Go.Proofs.YtickhmlhciafgaaGreat
open Go.RowKit

section
variable (ds : Nat → Option Tmp) (vs : Nat → Value) (a0 : Act)
/-- The frame behind the operations of L among the first n. -/
def mkA (L : Nat → Bool) : Nat → Act
  | 0 => a0
  | n + 1 => if L n then (mkA L n).put (ds n) (vs n) else mkA L n
end
section
variable {ds : Nat → Option Tmp} {vs vs' : Nat → Value} {a0 : Act} {L L' : Nat → Bool}
theorem put_size (a : Act) (d : Option Tmp) (v : Value) : (a.put d v).tmps.size = a.tmps.size := by cases d <;> simp [Act.put]
theorem mkA_size : ∀ n, (mkA ds vs a0 L n).tmps.size = a0.tmps.size
  | 0 => rfl
  | n + 1 => by
    simp only [mkA]
    split
    · rw [put_size, mkA_size n]
    · exact mkA_size n
theorem mkA_congr : ∀ n, (∀ j, j < n → L j = L' j) → (∀ j, j < n → L j = true → vs j = vs' j) → mkA ds vs a0 L n = mkA ds vs' a0 L' n
  | 0, _, _ => rfl
  | n + 1, h, hv => by
    simp only [mkA]
    rw [mkA_congr n (fun j hj => h j (by omega)) (fun j hj => hv j (by omega)), ← h n (by omega)]
    split
    · rename_i hl; rw [hv n (by omega) hl]
    · rfl
theorem mkA_put {i : Nat} (hL : L i = false) : ∀ n, i < n → (∀ j k, j < k → k < n → ∀ d, ds j = some d → ds k ≠ some d) → (mkA ds vs a0 L n).put (ds i) (vs i) = mkA ds vs a0 (fun j => L j || j == i) n
  | 0, h, _ => absurd h (by omega)
  | n + 1, h, hd => by
    by_cases e : i = n
    · subst e
      have h1 : mkA ds vs a0 (fun j => L j || j == i) i = mkA ds vs a0 L i := mkA_congr i (fun j hj => by
        have : (j == i) = false := by simpa using (by omega : j ≠ i)
        simp [this]) (fun _ _ _ => rfl)
      simp only [mkA, hL, h1, beq_self_eq_true, Bool.or_true, if_true]
      rfl
    · have ih := mkA_put hL n (by omega) (fun j k h1 h2 => hd j k h1 (by omega))
      have hne : (n == i) = false := by simpa using (by omega : n ≠ i)
      simp only [mkA, hne, Bool.or_false]
      split
      · rw [← ih]
        exact (Act.put_comm _ _ _ (fun d h1 h2 => hd i n (by omega) (by omega) d h2 h1)).symm ▸ rfl
      · exact ih
theorem eval_put_on (a : Act) (s : Tmp) (v : Value) : (a.put (some s) v).eval (.tmp s) = if s < a.tmps.size then v else undef := by
  by_cases h : s < a.tmps.size
  · simp [Act.put, Act.eval, h]
  · simp [Act.put, Act.eval, h]
theorem mkA_off {s : Tmp} : ∀ n, (∀ j, j < n → L j = true → ds j ≠ some s) → (mkA ds vs a0 L n).eval (.tmp s) = a0.eval (.tmp s)
  | 0, _ => rfl
  | n + 1, h => by
    simp only [mkA]
    split
    · rename_i hl
      rw [Act.eval_put (fun d hd e => h n (by omega) hl (by rw [hd]; exact congrArg some (Operand.tmp.inj e).symm))]
      exact mkA_off n (fun j hj => h j (by omega))
    · exact mkA_off n (fun j hj => h j (by omega))
theorem mkA_on {s : Tmp} {i : Nat} (hs : ds i = some s) (hL : L i = true) : ∀ n, i < n → (∀ j k, j < k → k < n → ∀ d, ds j = some d → ds k ≠ some d) → (mkA ds vs a0 L n).eval (.tmp s) = if s < a0.tmps.size then vs i else undef
  | 0, h, _ => absurd h (by omega)
  | n + 1, h, hd => by
    simp only [mkA]
    by_cases e : i = n
    · subst e
      rw [hL, if_pos rfl, hs, eval_put_on, mkA_size]
    · have ih := mkA_on hs hL n (by omega) (fun j k h1 h2 => hd j k h1 (by omega))
      split
      · rw [Act.eval_put (fun d h1 e2 => hd i n (by omega) (by omega) s hs (by rw [h1]; exact congrArg some (Operand.tmp.inj e2).symm))]
        exact ih
      · exact ih
/-- Two sets agree at an operand whose operations are in both. -/
theorem mkA_agree {n : Nat} (hd : ∀ j k, j < k → k < n → ∀ d, ds j = some d → ds k ≠ some d) {x : Operand} (hx : ∀ s, x = .tmp s → ∀ j, j < n → ds j = some s → L j = true ∧ L' j = true ∧ vs j = vs' j) :
    (mkA ds vs a0 L n).eval x = (mkA ds vs' a0 L' n).eval x := by
  cases x with
  | tmp s =>
    by_cases h : ∃ j, j < n ∧ ds j = some s
    · obtain ⟨j, hj, hs⟩ := h
      obtain ⟨h1, h2, h3⟩ := hx s rfl j hj hs
      rw [mkA_on hs h1 n hj hd, mkA_on hs h2 n hj hd, h3]
    · rw [mkA_off n (fun j hj _ e => h ⟨j, hj, e⟩), mkA_off n (fun j hj _ e => h ⟨j, hj, e⟩)]
  | const v => rfl
  | global g => rfl
  | func f => rfl
end

/-- The walk of the text's order, the block's making (number m) passed over; each call's value and what it leaves, in every later world. -/
def wpQV (P : Program) (w : World) (m k : Nat) (Q : Act → Prop) : Nat → List Oper → Act → Prop
  | _, [], a => Q a
  | i, o :: rest, a => if i = m ∨ i = k then wpQV P w m k Q (i + 1) rest a else
    ∃ v, (∀ s : Ext w, Oper.quietUpon P (fun W => Below s.world.heap.size s.world W) s.world v ((execOp a.eval o).run P s.world)) ∧ wpQV P w m k Q (i + 1) rest (a.put o.dst v)
theorem wpQV_nil {P : Program} {w : World} {m k i : Nat} {Q : Act → Prop} {a : Act} (h : Q a) : wpQV P w m k Q i [] a := h
theorem wpQV_pass {P : Program} {w : World} {m k i : Nat} {Q : Act → Prop} {a : Act} {o : Oper} {rest : List Oper} (hi : i = m ∨ i = k) (h : wpQV P w m k Q (i + 1) rest a) : wpQV P w m k Q i (o :: rest) a := by
  simp only [wpQV]; rw [if_pos hi]; exact h
theorem wpQV_step {P : Program} {w : World} {m k i : Nat} {Q : Act → Prop} {a : Act} {o : Oper} {rest : List Oper} (hi : ¬ (i = m ∨ i = k))
    (h : ∀ K : Act → Prop, (∀ a, wpQV P w m k Q (i + 1) rest a → K a) → ∃ v, (∀ s : Ext w, Oper.quietUpon P (fun W => Below s.world.heap.size s.world W) s.world v ((execOp a.eval o).run P s.world)) ∧ K (a.put o.dst v)) : wpQV P w m k Q i (o :: rest) a := by
  simp only [wpQV]; rw [if_neg hi]; exact h _ (fun _ h => h)
section
variable {P : Program} {l : List Oper} {w : World} {n m k : Nat} {Q : Act → Prop} {a0 : Act}
/-- Neither the block's making nor the store. -/
def non (m k j : Nat) : Bool := j != m && j != k
def dstOf (l : List Oper) (i : Nat) : Option Tmp := l[i]?.bind (·.dst)
theorem wpQV_chain : ∀ (rest : List Oper) (i : Nat) (a : Act) (vs0 : Nat → Value), (∀ j, rest[j]? = (l.take n)[i + j]?) → a = mkA (dstOf l) vs0 a0 (fun j => non m k j) i → i + rest.length ≤ n → wpQV P w m k Q i rest a →
    ∃ vs : Nat → Value, (∀ j, j < i → vs j = vs0 j) ∧ (∀ j o, i ≤ j → (l.take n)[j]? = some o → non m k j = true →
      ∀ s : Ext w, Oper.quietUpon P (fun W => Below s.world.heap.size s.world W) s.world (vs j) ((execOp (mkA (dstOf l) vs a0 (fun j => non m k j) j).eval o).run P s.world)) ∧ Q (mkA (dstOf l) vs a0 (fun j => non m k j) (i + rest.length))
  | [], i, a, vs0, hr, ha, _, h => by
    subst ha
    refine ⟨vs0, fun _ _ => rfl, fun j o hij ho _ => ?_, h⟩
    have := hr (j - i)
    rw [show i + (j - i) = j by omega, ho] at this
    simp at this
  | o :: rest, i, a, vs0, hr, ha, hle, h => by
    have h0 : (l.take n)[i]? = some o := by simpa using (hr 0).symm
    have hin : i < n := by simp at hle; omega
    have hl0 : l[i]? = some o := by
      rw [List.getElem?_take, if_pos hin] at h0; exact h0
    have hr' : ∀ j, rest[j]? = (l.take n)[i + 1 + j]? := fun j => by
      have := hr (j + 1)
      rw [List.getElem?_cons_succ] at this
      rw [this, show i + (j + 1) = i + 1 + j by omega]
    have hd : dstOf l i = o.dst := by simp [dstOf, hl0]
    simp only [wpQV] at h
    by_cases hm : i = m ∨ i = k
    · rw [if_pos hm] at h
      have hf : non m k i = false := by
        unfold non
        rcases hm with hm | hm <;> simp [hm]
      obtain ⟨vs, e1, e2, e3⟩ := wpQV_chain rest (i + 1) a vs0 hr' (by rw [ha]; simp [mkA, hf]) (by simp at hle ⊢; omega) h
      refine ⟨vs, fun j hj => e1 j (by omega), fun j o' hij ho' hjm => ?_, by rw [List.length_cons, show i + (rest.length + 1) = i + 1 + rest.length by omega]; exact e3⟩
      have hji : j ≠ i := fun e => by subst e; rw [hf] at hjm; cases hjm
      exact e2 j o' (by omega) ho' hjm
    · rw [if_neg hm] at h
      obtain ⟨v, hv, hk⟩ := h
      have hb : non m k i = true := by simpa [non, not_or] using hm
      obtain ⟨vs, e1, e2, e3⟩ := wpQV_chain rest (i + 1) (a.put o.dst v) (fun j => if j = i then v else vs0 j) hr' (by
        simp only [mkA, hb, if_true]
        rw [ha, hd]
        congr 1
        exact mkA_congr i (fun _ _ => rfl) (fun j hj _ => (if_neg (by omega)).symm)) (by simp at hle ⊢; omega) hk
      have hlow : ∀ j, j < i → vs j = vs0 j := fun j hj => by rw [e1 j (by omega)]; exact if_neg (by omega)
      refine ⟨vs, hlow, fun j o' hij ho' hjm => ?_, by rw [List.length_cons, show i + (rest.length + 1) = i + 1 + rest.length by omega]; exact e3⟩
      by_cases hji : j = i
      · subst hji
        have : o' = o := Option.some.inj (ho'.symm.trans h0)
        subst this
        have e4 : vs j = v := by rw [e1 j (by omega)]; exact if_pos rfl
        have e5 : mkA (dstOf l) vs a0 (fun j => non m k j) j = a := by rw [ha]; exact mkA_congr j (fun _ _ => rfl) (fun k hk _ => hlow k hk)
        rw [e4, e5]
        exact hv
      · exact e2 j o' (by omega) ho' hjm
end

/-- Closed: each operation waits for earlier ones alone. -/
def backC (l : List Oper) : Bool := (List.range l.length).all fun i => match l[i]? with
  | none => true
  | some o => o.after.all fun e => !(Region.binds .any e) || decide (e.on < i)
theorem backC_spec {l : List Oper} (h : backC l = true) {i : Nat} {o : Oper} (hi : l[i]? = some o) : ∀ e ∈ o.after, Region.binds .any e = true → e.on < i := by
  have hlt := (List.getElem?_eq_some_iff.1 hi).1
  have h1 := List.all_eq_true.1 h i (List.mem_range.2 hlt)
  rw [hi] at h1
  intro e he hb
  have := Array.all_eq_true_iff_forall_mem.1 h1 e he
  simpa [hb] using this
/-- Closed: no guard among the first n; none of them but the store reads the block's slot; what one reads of another it waits for; no slot twice; the store has none. -/
def plainC (l : List Oper) (n m k : Nat) : Bool :=
  (dstOf l k).isNone && (List.range n).all fun i => match l[i]? with
  | none => false
  | some o => o.guard.isNone && (List.range n).all fun j => match dstOf l j with
    | none => true
    | some d => (!(decide (i < j)) || o.dst != some d) &&
      (!(o.op.operands.toList.any fun x => match x with | .tmp t => t == d | _ => false) || ((j != m || i == k) && o.after.any fun e => e.on == j && Region.binds .any e))
section
variable {P : Program} {l : List Oper} {w : World} {n m k nn : Nat} {Q : Exit → Act → World → Prop} {a0 : Act} {t ty : TypeId} {z us : Array Value} {xp yv : Operand}
theorem plainC_k (h : plainC l n m k = true) : dstOf l k = none := by
  simp only [plainC, Bool.and_eq_true] at h
  exact Option.isNone_iff_eq_none.1 h.1
theorem plainC_guard (h : plainC l n m k = true) {i : Nat} (hi : i < n) {o : Oper} (ho : l[i]? = some o) : o.guard = none := by
  simp only [plainC, Bool.and_eq_true] at h
  have h1 := List.all_eq_true.1 h.2 i (List.mem_range.2 hi)
  rw [ho] at h1
  simp only [Bool.and_eq_true] at h1
  exact Option.isNone_iff_eq_none.1 h1.1
theorem plainC_at (h : plainC l n m k = true) {i j : Nat} (hi : i < n) (hj : j < n) {o : Oper} (ho : l[i]? = some o) {d : Tmp} (hd : dstOf l j = some d) :
    (i < j → o.dst ≠ some d) ∧ (Operand.tmp d ∈ o.op.operands → (j ≠ m ∨ i = k) ∧ ∃ e ∈ o.after, e.on = j ∧ Region.binds .any e = true) := by
  simp only [plainC, Bool.and_eq_true] at h
  have h1 := List.all_eq_true.1 h.2 i (List.mem_range.2 hi)
  rw [ho] at h1
  simp only [Bool.and_eq_true] at h1
  have h2 := List.all_eq_true.1 h1.2 j (List.mem_range.2 hj)
  rw [hd] at h2
  simp only [Bool.and_eq_true, Bool.or_eq_true, Bool.not_eq_true', decide_eq_false_iff_not, bne_iff_ne, ne_eq, beq_iff_eq] at h2
  refine ⟨fun hij => h2.1.resolve_left (fun hn => hn hij), fun hm => ?_⟩
  rcases h2.2 with h3 | h3
  · have : (o.op.operands.toList.any fun x => match x with | .tmp t => t == d | _ => false) = true := List.any_eq_true.2 ⟨.tmp d, by simpa using hm, by simp⟩
    rw [this] at h3; cases h3
  · obtain ⟨e, he, h4⟩ := Array.any_eq_true'.1 h3.2
    simp only [Bool.and_eq_true, beq_iff_eq] at h4
    exact ⟨h3.1, e, he, h4.1, h4.2⟩
theorem plainC_ds (h : plainC l n m k = true) : ∀ i j, i < j → j < n → ∀ d, dstOf l i = some d → dstOf l j ≠ some d := fun i j hij hj d h1 h2 => by
  have hi : i < n := by omega
  cases ho : l[i]? with
  | none => simp [dstOf, ho] at h1
  | some o =>
    have h3 : o.dst = some d := by simpa [dstOf, ho] using h1
    exact (plainC_at h hi hj ho h2).1 hij h3
theorem mkA_upto {ds : Nat → Option Tmp} {vs : Nat → Value} {L : Nat → Bool} {i : Nat} : ∀ n, i ≤ n → mkA ds vs a0 L i = mkA ds vs a0 (fun j => L j && decide (j < i)) n
  | 0, h => by
    have : i = 0 := by omega
    subst this; rfl
  | n + 1, h => by
    by_cases e : i = n + 1
    · subst e
      exact mkA_congr _ (fun j hj => by simp [hj]) (fun _ _ _ => rfl)
    · have ih := mkA_upto (ds := ds) (vs := vs) (L := L) (i := i) n (by omega)
      have hn : ¬ n < i := by omega
      simp only [mkA, hn, decide_false, Bool.and_false]
      exact ih
theorem ready_someC (hb : backC l = true) (hn : n ≤ l.length) {listed : Array Bool} (hsz : listed.size = l.length) (h : 0 < unl listed n) : Region.ready .any l.toArray listed ≠ [] := by
  obtain ⟨i0, h0, hu0⟩ := unl_pos h
  have key : ∀ i, i < n → listed.getD i true = false → ∃ j, j ∈ Region.ready .any l.toArray listed := by
    intro i
    induction i using Nat.strongRecOn with
    | _ i ih =>
      intro hi hu
      have ho : l[i]? = some l[i] := List.getElem?_eq_getElem (by omega)
      by_cases hh : ∃ e ∈ l[i].after, Region.binds .any e = true ∧ listed.getD e.on true = false
      · obtain ⟨e, he, hbn, hf⟩ := hh
        have hlt := backC_spec hb ho e he hbn
        exact ih e.on hlt (by omega) hf
      · refine ⟨i, mem_ready.2 ⟨hu, l[i], by simp, fun e he hbn => ?_⟩⟩
        have hlt := backC_spec hb ho e he hbn
        have hs : e.on < listed.size := by omega
        cases hc : listed.getD e.on true with
        | false => exact absurd ⟨e, he, hbn, hc⟩ hh
        | true => simp [hs] at hc ⊢; exact hc
  intro hnil
  obtain ⟨j, hj⟩ := key i0 h0 hu0
  rw [hnil] at hj
  cases hj
theorem wpAny_of_QS (hb : backC l = true) (hp : plainC l n m k = true) (hs : Region.sinkB .any l.toArray n = true) (hc : Region.chainB .any l.toArray n = true) (hsel : Region.noSelect l.toArray = true) (hn : n < l.length) (hmn : m < n) (hkn : k < n) (hmk : m ≠ k)
    (hseq : Region.seqB .any l.toArray (l.length - n) n ((List.replicate n true ++ List.replicate (l.length - n) false).toArray) = true)
    {om : Oper} (hom : l[m]? = some om) (hal : ∀ (W : World) (a : Act) (K : Act → World → Prop), K (a.put om.dst (.pointer (some ⟨W.heap.size, 0, none⟩))) (W.alloc (.cells z t)) → om.wp P a W K Q)
    {ok : Oper} (hok : l[k]? = some ok) (hst : ok.op = .store ty xp yv) (hT : RowT P ty nn) (hz : z.size = nn) (hu : us.size = nn) (h1 : us.all (·.oneCell') = true)
    {dm : Tmp} (hdm : om.dst = some dm) (hxp : xp = .tmp dm) (hwait : ∃ e ∈ ok.after, e.on = m ∧ Region.binds .any e = true) (hsz : dm < a0.tmps.size)
    (vs : Nat → Value) (hv : ∀ j o, (l.take n)[j]? = some o → non m k j = true → ∀ s : Ext w, Oper.quietUpon P (fun W => Below s.world.heap.size s.world W) s.world (vs j) ((execOp (mkA (dstOf l) vs a0 (fun j => non m k j) j).eval o).run P s.world))
    (hyv : (mkA (dstOf l) vs a0 (fun j => non m k j) n).eval yv = .agg us) (hyd : yv ≠ .tmp dm)
    (hQ : ∀ (W : World) (b : Nat), Blk w b t us W → wpList P l.toArray Q (l.drop n) ((mkA (dstOf l) vs a0 (fun j => non m k j) n).put om.dst (.pointer (some ⟨b, 0, none⟩))) W) :
    ∀ (f : Nat) (listed : Array Bool) (vc : Nat → Value) (W : World), HeadInv .any l.toArray n listed → unl listed n = f → (∀ j, j ≠ m → vc j = vs j) → Later w W →
      (listed.getD m true = true → ∃ b, vc m = .pointer (some ⟨b, 0, none⟩) ∧ (if listed.getD k true = true then Blk w b t us W else Blk w b t z W)) →
      wpAny P .any l.toArray Q (f + (l.length - n)) listed (mkA (dstOf l) vc a0 (fun j => listed.getD j true) n) W := by
  intro f
  have hdm' : dstOf l m = om.dst := by simp [dstOf, hom]
  have hdk : dstOf l k = none := plainC_k hp
  have hds := plainC_ds hp
  induction f with
  | zero =>
    intro listed vc W inv hun hvc hL hph
    have hsl : listed.size = l.length := by simpa using inv.size
    have e : listed = (List.replicate n true ++ List.replicate (l.length - n) false).toArray := by
      apply Array.ext
      · simp [hsl]; omega
      · intro i h1 h2
        rcases Nat.lt_or_ge i n with hi | hi
        · have := unl_zero hun i hi
          have hb' : listed[i] = true := by simpa [h1] using this
          rw [hb']
          simp [hi]
        · have := inv.tail i hi (by simpa [hsl] using h1)
          have hb' : listed[i] = false := by simpa [h1] using this
          rw [hb']
          simp [List.getElem_append, Nat.not_lt.2 hi]
    obtain ⟨b, hbv, hB⟩ := hph (unl_zero hun m hmn)
    rw [if_pos (unl_zero hun k hkn)] at hB
    have ea : mkA (dstOf l) vc a0 (fun j => listed.getD j true) n = (mkA (dstOf l) vs a0 (fun j => non m k j) n).put om.dst (.pointer (some ⟨b, 0, none⟩)) := by
      rw [← hdm', ← hbv, show mkA (dstOf l) vs a0 (fun j => non m k j) n = mkA (dstOf l) vc a0 (fun j => non m k j) n from mkA_congr n (fun _ _ => rfl) (fun j _ hj => (hvc j (by intro e; subst e; simp [non] at hj)).symm)]
      rw [mkA_put (by simp [non]) n hmn hds]
      have h3 := mkA_put (ds := dstOf l) (vs := vc) (a0 := a0) (L := fun j => non m k j || j == m) (i := k) (by simp [non, Ne.symm hmk]) n hkn hds
      rw [hdk] at h3
      rw [show mkA (dstOf l) vc a0 (fun j => non m k j || j == m) n = (mkA (dstOf l) vc a0 (fun j => non m k j || j == m) n).put none (vc k) from rfl, h3]
      refine mkA_congr n (fun j hj => ?_) (fun _ _ _ => rfl)
      rw [unl_zero hun j hj]
      by_cases hjm : j = m <;> by_cases hjk : j = k <;> simp [non, hjm, hjk]
    rw [Nat.zero_add, ea]
    have hdl : (l.drop n).length = l.length - n := by simp
    have := wpAny_of_seq (P := P) (md := .any) (Q' := Q) (ops := l.toArray) (l.drop n) n listed _ W (fun j => by simp [List.getElem?_drop]) (by rw [hdl, e]; exact hseq) (hQ W b hB)
    rwa [hdl] at this
  | succ f ih =>
    intro listed vc W inv hun hvc hL hph
    have hsl : listed.size = l.length := by simpa using inv.size
    have hne := ready_someC (n := n) hb (by omega) hsl (by omega)
    obtain ⟨i0, h0, hu0⟩ := unl_pos (show 0 < unl listed n by omega)
    rw [show f + 1 + (l.length - n) = (f + (l.length - n)) + 1 by omega]
    refine ⟨fun hnil => absurd hnil hne, fun i hi => ?_⟩
    have hin : i < n := by
      rcases Nat.lt_or_ge i n with h' | h'
      · exact h'
      · exact absurd hi (tail_waits hs hc (by simpa using hn) inv _ i0 rfl h0 hu0 i h')
    obtain ⟨hiu, o, ho, hall⟩ := mem_ready.1 hi
    have ho' : l[i]? = some o := by simpa using ho
    have hot : (l.take n)[i]? = some o := by rw [List.getElem?_take, if_pos hin]; exact ho'
    have hdi : dstOf l i = o.dst := by simp [dstOf, ho']
    have hgd := plainC_guard hp hin ho'
    have hun' : unl (listed.setIfInBounds i true) n = f := by have := unl_set hiu hin; omega
    have hset : ∀ j, j < n → ((listed.getD j true || j == i) = (listed.setIfInBounds i true).getD j true) := fun j hj => by
      by_cases e : i = j
      · subst e
        have h1 : i < listed.size := by omega
        simp [h1]
      · rw [getD_set_ne true e]
        have : (j == i) = false := by simpa using fun h => e h.symm
        simp [this]
    have hself : (listed.setIfInBounds i true).getD i true = true := by rw [← hset i hin]; simp
    have hlist : ∀ e ∈ o.after, Region.binds .any e = true → e.on < n → listed.getD e.on true = true := fun e he heb hlt => by
      have h2 := hall e he heb
      have h3 : e.on < listed.size := by omega
      simp [h3] at h2 ⊢
      exact h2
    unfold wpOp
    rw [ho]
    simp only
    rw [if_pos (by simp [Region.wanted, hgd])]
    refine .inl ?_
    by_cases him : i = m
    · subst him
      have : o = om := Option.some.inj (ho'.symm.trans hom)
      subst this
      refine hal W _ _ ?_
      have e1 : mkA (dstOf l) vc a0 (fun j => listed.getD j true) n = mkA (dstOf l) (fun j => if j = i then .pointer (some ⟨W.heap.size, 0, none⟩) else vc j) a0 (fun j => listed.getD j true) n :=
        mkA_congr n (fun _ _ => rfl) (fun j _ hj => by
          have : j ≠ i := fun e => by subst e; rw [hiu] at hj; cases hj
          exact (if_neg this).symm)
      have e2 := mkA_put (ds := dstOf l) (vs := fun j => if j = i then .pointer (some ⟨W.heap.size, 0, none⟩) else vc j) (a0 := a0) (L := fun j => listed.getD j true) hiu n hin hds
      simp only [if_true] at e2
      -- the store waits for the block
      have hku : listed.getD k true = false := by
        cases hc2 : listed.getD k true with
        | false => rfl
        | true =>
          obtain ⟨e, he, hej, heb⟩ := hwait
          have hks : k < listed.size := by omega
          have h5 := inv.closed k ok (by simpa using hok) (by simp [hks] at hc2 ⊢; exact hc2) e he heb
          rw [hej] at h5
          have hms : i < listed.size := by omega
          simp [hms] at h5 hiu
          rw [hiu] at h5
          cases h5
      rw [e1, ← hdi, e2, mkA_congr n hset (fun _ _ _ => rfl)]
      exact ih _ _ _ (inv.set hi hin) hun' (fun j hj => (if_neg hj).trans (hvc j hj)) (hL.alloc _) (fun _ => ⟨W.heap.size, if_pos rfl, by
        rw [getD_set_ne true hmk, hku]
        exact Blk.made w W t z hL _ rfl⟩)
    · have hmset : (listed.setIfInBounds i true).getD m true = listed.getD m true := getD_set_ne true him
      by_cases hik : i = k
      · subst hik
        have : o = ok := Option.some.inj (ho'.symm.trans hok)
        subst this
        obtain ⟨e, he, hej, heb⟩ := hwait
        have hml := hlist e he heb (by omega)
        rw [hej] at hml
        obtain ⟨b, hbv, hB⟩ := hph hml
        rw [hiu] at hB
        simp only [Bool.false_eq_true, if_false] at hB
        have ex : (mkA (dstOf l) vc a0 (fun j => listed.getD j true) n).eval xp = .pointer (some ⟨b, 0, none⟩) := by
          rw [hxp, mkA_on (hdm'.trans hdm) hml n hmn hds, if_pos hsz, hbv]
        have ey : (mkA (dstOf l) vc a0 (fun j => listed.getD j true) n).eval yv = .agg us := by
          rw [← hyv]
          refine mkA_agree hds fun s hxs j hj hdj => ?_
          have hr := (plainC_at hp hin hj ho' hdj).2 (by rw [hst, ← hxs]; simp [Op.operands])
          obtain ⟨_, e', he', hej', heb'⟩ := hr
          have h5 := hlist e' he' heb' (by omega)
          rw [hej'] at h5
          have hjm : j ≠ m := fun e => by
            subst e
            rw [hdm', hdm] at hdj
            exact hyd (by rw [hxs]; exact congrArg Operand.tmp (Option.some.inj hdj).symm)
          have hjk : j ≠ i := fun e => by subst e; rw [hdk] at hdj; cases hdj
          exact ⟨h5, by simp [non, hjm, hjk], hvc j hjm⟩
        have hod : o.dst = none := hdi.symm.trans hdk
        refine wp_store_mid ty xp yv hst b 0 us ex ey (hB.there 0 us.size (by omega)) (by rw [hT.size, hu]) h1 ?_
        have hS := Sto.cells b us.toList 0 W
        rw [hod]
        have e1 : (mkA (dstOf l) vc a0 (fun j => listed.getD j true) n).put none undef = mkA (dstOf l) vc a0 (fun j => (listed.setIfInBounds i true).getD j true) n := by
          have h3 := mkA_put (ds := dstOf l) (vs := vc) (a0 := a0) (L := fun j => listed.getD j true) hiu n hin hds
          rw [hdk] at h3
          exact h3.trans (mkA_congr n hset (fun _ _ _ => rfl))
        rw [e1]
        exact ih _ _ _ (inv.set hi hin) hun' hvc (hS.later hL hB.1) (fun _ => ⟨b, hbv, by rw [hself]; exact hB.stored us (by omega)⟩)
      · have hnon : non m k i = true := by simp [non, him, hik]
        have hkset : (listed.setIfInBounds i true).getD k true = listed.getD k true := getD_set_ne true hik
        have hq := hv i o hot hnon ⟨W, hL⟩
        have hex : execOp (mkA (dstOf l) vc a0 (fun j => listed.getD j true) n).eval o = execOp (mkA (dstOf l) vs a0 (fun j => non m k j) i).eval o := by
          refine execOp_congr o (fun cs b => Region.noSelect_spec hsel i o cs b ho) fun x hx => ?_
          rw [mkA_upto (L := fun j => non m k j) n (by omega)]
          refine mkA_agree hds fun s hxs j hj hdj => ?_
          subst hxs
          obtain ⟨hjm, e, he, hej, heb⟩ := (plainC_at hp hin hj ho' hdj).2 hx
          have hjm : j ≠ m := hjm.resolve_right hik
          have hlt := backC_spec hb ho' e he heb
          have h5 := hlist e he heb (by omega)
          rw [hej] at h5 hlt
          have hjk : j ≠ k := fun e => by subst e; rw [hdk] at hdj; cases hdj
          exact ⟨h5, by simp [non, hjm, hjk, hlt], hvc j hjm⟩
        have hput : ∀ u, u = vs i → (mkA (dstOf l) vc a0 (fun j => listed.getD j true) n).put o.dst u = mkA (dstOf l) vc a0 (fun j => (listed.setIfInBounds i true).getD j true) n := fun u hu => by
          rw [hu, ← hvc i him, ← hdi, mkA_put hiu n hin hds]
          exact mkA_congr n hset (fun _ _ _ => rfl)
        unfold Oper.wp
        rw [hex]
        generalize (execOp (mkA (dstOf l) vs a0 (fun j => non m k j) i).eval o).run P W = r at hq ⊢
        cases r with
        | ok nx W' =>
          cases nx <;> simp only [Oper.quietUpon] at hq <;> simp only [Oper.upon]
          case value u =>
            obtain ⟨e1, e2⟩ := hq
            rw [e1, hput u e2]
            exact ih _ _ _ (inv.set hi hin) hun' hvc hL (fun h => by rw [hkset]; exact hph (hmset ▸ h))
          case skip =>
            obtain ⟨e1, e2⟩ := hq
            rw [e1, hput undef e2.symm]
            exact ih _ _ _ (inv.set hi hin) hun' hvc hL (fun h => by rw [hkset]; exact hph (hmset ▸ h))
          case enter g args =>
            obtain ⟨e1, hcl⟩ := hq
            rw [e1]
            refine hcl.mono fun e W'' ⟨he, hB⟩ => ?_
            subst he
            simp only
            rw [hput _ rfl]
            refine ih _ _ _ (inv.set hi hin) hun' hvc (hL.call hB) (fun h => ?_)
            obtain ⟨b, h1, h2⟩ := hph (hmset ▸ h)
            refine ⟨b, h1, ?_⟩
            rw [hkset]
            split
            · rename_i hh; rw [if_pos hh] at h2; exact h2.call hB
            · rename_i hh; rw [if_neg hh] at h2; exact h2.call hB
        | halt x W' => simp only [Oper.quietUpon] at hq
/-- One walk of the text's order serves every order: a struct is reckoned by calls and stored into a new block. -/
theorem wp_new_tail {id : Nat} {a : Act} {w : World} (n m k : Nat) (hm : P.follows .mixedOrders = true) (hb : backC l = true) (hp : plainC l n m k = true) (hs : Region.sinkB .any l.toArray n = true) (hc : Region.chainB .any l.toArray n = true) (hsel : Region.noSelect l.toArray = true) (hn : n < l.length) (hmn : m < n) (hkn : k < n) (hmk : m ≠ k)
    (hseq : Region.seqB .any l.toArray (l.length - n) n ((List.replicate n true ++ List.replicate (l.length - n) false).toArray) = true)
    {om : Oper} (hom : l[m]? = some om) {ok : Oper} (hok : l[k]? = some ok) (hst : ok.op = .store ty xp yv) (hT : RowT P ty nn) {dm : Tmp} (hdm : om.dst = some dm) (hxp : xp = .tmp dm) (hwait : ∃ e ∈ ok.after, e.on = m ∧ Region.binds .any e = true) (hsz : dm < a.tmps.size) (hyd : yv ≠ .tmp dm) (hz : z.size = nn)
    (hal : ∀ (W : World) (a : Act) (K : Act → World → Prop), K (a.put om.dst (.pointer (some ⟨W.heap.size, 0, none⟩))) (W.alloc (.cells z t)) → om.wp P a W K Q)
    (h : wpQV P w m k (fun a' => ∃ us : Array Value, a'.eval yv = .agg us ∧ us.size = nn ∧ us.all (·.oneCell') = true ∧ ∀ (W : World) (b : Nat), Blk w b t us W → wpList P l.toArray Q (l.drop n) (a'.put om.dst (.pointer (some ⟨b, 0, none⟩))) W) 0 (l.take n) a) : (Code.region id l.toArray true).wp P Q a w := by
  refine wp_region_any hm ?_
  have htl : (l.take n).length = n := by simp; omega
  have inv0 : HeadInv .any l.toArray n (Array.replicate l.toArray.size false) :=
    ⟨by simp, fun j oj _ hl => (by rw [getD_replicate_false] at hl; cases hl), fun t _ ht => getD_in (by simpa using ht) (getD_replicate_false _ _)⟩
  obtain ⟨vs, _, e2, us, u1, u2, u3, e3⟩ := wpQV_chain (l := l) (n := n) (a0 := a) (l.take n) 0 a (fun _ => undef) (by simp) rfl (by omega) h
  rw [htl, Nat.zero_add] at u1 e3
  have hun : ∀ j, j ≤ l.length → unl (Array.replicate l.toArray.size false) j = j := fun j hj => by
    induction j with
    | zero => rfl
    | succ j ih =>
      have h1 : j < l.length := by omega
      simp only [unl]
      rw [ih (by omega)]
      simp [h1]
  have hL : Later w w.drew := (Later.refl w).drew
  have := wpAny_of_QS (P := P) (Q := Q) (w := w) (a0 := a) hb hp hs hc hsel hn hmn hkn hmk hseq hom hal hok hst hT hz u2 u3 hdm hxp hwait hsz vs (fun j o ho hj => e2 j o (by omega) ho hj) u1 hyd e3 n (Array.replicate l.toArray.size false) vs w.drew inv0 (hun n (by omega)) (fun _ _ => rfl) hL (fun hh => by
    have h1 : m < l.length := by omega
    simp [h1] at hh)
  rw [show n + (l.length - n) = l.length by omega] at this
  have key : ∀ j, j ≤ l.length → mkA (dstOf l) vs a (fun j => (Array.replicate l.toArray.size false).getD j true) j = a := fun j hj => by
    induction j with
    | zero => rfl
    | succ j ih =>
      have h1 : j < l.length := by omega
      simp only [mkA]
      rw [ih (by omega)]
      simp [h1]
  rw [key n (by omega)] at this
  have e : l.toArray.size = l.length := by simp
  rw [e]
  rw [e] at this
  exact this
/-- The load of a struct, in such a walk. -/
theorem QV_load {w0 : World} {i : Nat} {q : Act → Prop} {a : Act} {o : Oper} {rest : List Oper} {g : Nat} {tt tl : TypeId} {cs : Array Value} {nl : Nat} (hi : ¬ (i = m ∨ i = k)) (hB : Blk w0 g tt cs w) (off : Nat) (lst : List Value) (hl : (cs.toList.drop off).take lst.length = lst) (hTl : RowT P tl nl) (hnl : lst.length = nl) {x : Operand} (ho : o.op = .load tl x) (hx : a.eval x = .pointer (some ⟨g, off, none⟩))
    (h : wpQV P w m k q (i + 1) rest (a.put o.dst (.agg lst.toArray))) : wpQV P w m k q i (o :: rest) a := by
  obtain ⟨h1, h2⟩ := hTl
  cases hu : P.underlying tl with
  | none => simp [hu] at h1
  | some d =>
    rw [hu] at h1
    refine wpQV_step hi fun K hK => ⟨.agg lst.toArray, fun s => ?_, hK _ h⟩
    have hR := (hB.call s.h).part off lst hl
    unfold execOp
    simp only [ho, hx, Instr.loadAt, Instr.sureAddr, Sem.run_bind, Sem.run_pure, Result.andThen_ok, run_loadVar_mid s.world g off tl lst d hR hu (by simpa using h1) (by rw [h2, hnl])]
    exact ⟨rfl, rfl⟩
end

end Go.Proofs.YtickhmlhciafgaaGreat

