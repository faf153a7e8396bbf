/- A drawn region whose calls make memory, one behind the other, whose last ones make a block and store into it, with free operations: one walk. No condition. -/
import Derived.Test.YtickhmlhciafgaaGreatMa33
namespace Go.Proofs.YtickhmlhciafgaaGreat
open Go.RowKit
set_option linter.unusedVariables false

/-- What comes ahead of operation i: the block's making and the store apart. -/
def upm (isf : Nat → Bool) (m k i j : Nat) : Bool := non m k j && upto isf i j
/-- Closed: what comes behind call c, and is not free, waits for it. -/
def depG (l : List Oper) (n m : Nat) (isf : Nat → Bool) (c : Nat) : Bool := (List.range n).all fun j => decide (j ≤ c) || j == m || isf j || (match l[j]? with
  | none => true
  | some o => o.after.any fun e => Region.binds .any e && decide (c ≤ e.on) && e.on != m && !isf e.on)
theorem depG_spec {l : List Oper} {n m c : Nat} {isf : Nat → Bool} (h : depG l n m isf c = true) {j : Nat} (hj : j < n) (hc : c < j) (hm : j ≠ m) (hf : isf j = false) {o : Oper} (ho : l[j]? = some o) : ∃ e ∈ o.after, Region.binds .any e = true ∧ c ≤ e.on ∧ e.on ≠ m ∧ isf e.on = false := by
  have h1 := List.all_eq_true.1 h j (List.mem_range.2 hj)
  rw [ho, hf] at h1
  simp only [Bool.or_false, Bool.or_eq_true, decide_eq_true_eq, beq_iff_eq] at h1
  rcases h1 with (h1 | h1) | h1
  · omega
  · exact absurd h1 hm
  · obtain ⟨e, he, h2⟩ := Array.any_eq_true'.1 h1
    simp only [Bool.and_eq_true, decide_eq_true_eq, bne_iff_ne, ne_eq, Bool.not_eq_true'] at h2
    exact ⟨e, he, h2.1.1.1, h2.1.1.2, h2.1.2, h2.2⟩
def callsG (l : List Oper) (n m k : Nat) (isf isc : Nat → Bool) : Bool := (List.range n).all fun c => !isc c || (decide (c < k) && c != m && depG l n m isf c)
theorem callsG_spec {l : List Oper} {n m k : Nat} {isf isc : Nat → Bool} (h : callsG l n m k isf isc = true) {c : Nat} (hc : c < n) (hi : isc c = true) : c < k ∧ c ≠ m ∧ depG l n m isf c = true := by
  have h1 := List.all_eq_true.1 h c (List.mem_range.2 hc)
  rw [hi] at h1
  simp only [Bool.not_true, Bool.false_or, Bool.and_eq_true, decide_eq_true_eq, bne_iff_ne, ne_eq] at h1
  exact ⟨h1.1.1, h1.1.2, h1.2⟩
/-- The walk behind the free ones. -/
def wpQF (P : Program) (w : World) (m k : Nat) (isf isc : Nat → Bool) (Q : Inv w → Act → Prop) : Inv w → Nat → List Oper → Act → Prop
  | I, _, [], a => Q I a
  | I, i, o :: rest, a => if isf i = true then wpQF P w m k isf isc Q I (i + 1) rest a else
    if isc i = true then ∃ (V : Value → Prop) (J : Value → Inv w), (∀ u W, V u → (J u).C W → I.C W) ∧ (∀ W, I.C W → callUponM P V I J W ((execOp a.eval o).run P W)) ∧ ∀ u, V u → wpQF P w m k isf isc Q (J u) (i + 1) rest (a.put o.dst u) else
    if i = m ∨ i = k then wpQF P w m k isf isc Q I (i + 1) rest a else
    ∃ v, (∀ W, I.C W → Oper.quietUpon P (fun W' => Below W.heap.size W W') W v ((execOp a.eval o).run P W)) ∧ wpQF P w m k isf isc Q I (i + 1) rest (a.put o.dst v)
section
variable {P : Program} {l : List Oper} {w : World} {n m k c nn : Nat} {Q : Exit → Act → World → Prop} {a0 : Act} {t ty : TypeId} {z us : Array Value} {xp yv : Operand} {isf isc : Nat → Bool} {I : Inv w} {V : Value → Prop}
/-- From here on the region comes to what is asked, behind the calls below lo. -/
def StageF (P : Program) (l : List Oper) (w : World) (n m k : Nat) (t : TypeId) (z : Array Value) (Q : Exit → Act → World → Prop) (a0 : Act) (isf isc : Nat → Bool) (lo : Nat) (I : Inv w) (vs : Nat → Value) : Prop :=
  ∀ (f : Nat) (listed : Array Bool) (vc : Nat → Value) (W : World), HeadInv .any l.toArray n listed → unl listed n = f → (∀ j, j < n → isf j = true ∨ j < lo → j ≠ m → vc j = vs j) → I.C W → (∀ j, j < n → isc j = true → j < lo → listed.getD j true = true) → (∀ j, j < n → lo ≤ j → j ≠ m → isf j = false → listed.getD j true = false) →
      (listed.getD m true = true → ∃ b, vc m = .pointer (some ⟨b, 0, none⟩) ∧ I.ap b ∧ Blk w b t z W) →
      wpAny P .any l.toArray Q (f + (l.length - n)) listed (mkA (dstOf l) vc a0 (fun j => listed.getD j true) n) W
theorem wpAny_of_QFB (hb : backC l = true) (hfr : freeB l n isf isc = true) (hp : plainC l n m k = true) (hs : Region.sinkB .any l.toArray n = true) (hc : Region.chainB .any l.toArray n = true) (hsel : Region.noSelect l.toArray = true) (hn : n < l.length) (hmn : m < n) (hkn : k < n) (hmk : m ≠ k)
    (hseq : Region.seqB .any l.toArray (l.length - n) n ((List.replicate n true ++ List.replicate (l.length - n) false).toArray) = true)
    {om : Oper} (hom : l[m]? = some om) (hal : ∀ (W : World) (a : Act) (K : Act → World → Prop), K (a.put om.dst (.pointer (some ⟨W.heap.size, 0, none⟩))) (W.alloc (.cells z t)) → om.wp P a W K Q)
    {ok : Oper} (hok : l[k]? = some ok) (hst : ok.op = .store ty xp yv) (hT : RowT P ty nn) (hz : z.size = nn) (hu : us.size = nn) (h1 : us.all (·.oneCell') = true)
    {dm : Tmp} (hdm : om.dst = some dm) (hxp : xp = .tmp dm) (hwait : ∃ e ∈ ok.after, e.on = m ∧ Region.binds .any e = true) (hsz : dm < a0.tmps.size)
    (vs : Nat → Value) (hv : ∀ j o, (l.take n)[j]? = some o → non m k j = true → isc j = false → ∀ W, I.C W → Oper.quietUpon P (fun W' => Below W.heap.size W W') W (vs j) ((execOp (mkA (dstOf l) vs a0 (upm isf m k j) n).eval o).run P W))
    (hyv : (mkA (dstOf l) vs a0 (fun j => non m k j) n).eval yv = .agg us) (hyd : yv ≠ .tmp dm)
        (hQ : ∀ (W : World) (b : Nat), Blk w b t us W → I.C W → I.ap b → wpList P l.toArray Q (l.drop n) ((mkA (dstOf l) vs a0 (fun j => non m k j) n).put om.dst (.pointer (some ⟨b, 0, none⟩))) W) :
    ∀ (f : Nat) (listed : Array Bool) (vc : Nat → Value) (W : World), HeadInv .any l.toArray n listed → unl listed n = f → (∀ j, j ≠ m → vc j = vs j) → I.C W → (∀ j, j < n → isc j = true → listed.getD j true = true) →
      (listed.getD m true = true → ∃ b, vc m = .pointer (some ⟨b, 0, none⟩) ∧ I.ap b ∧ (if listed.getD k true = true then Blk w b t us W else Blk w b t z W)) →
      wpAny P .any l.toArray Q (f + (l.length - n)) listed (mkA (dstOf l) vc a0 (fun j => listed.getD j true) n) W := by
  intro f
  have hdm' : dstOf l m = om.dst := by simp [dstOf, hom]
  have hdk : dstOf l k = none := plainC_k hp
  have hds := plainC_ds hp
  induction f with
  | zero =>
    intro listed vc W inv hun hvc hF hcl hph
    have hL := I.later hF
    have hsl : listed.size = l.length := by simpa using inv.size
    have e : listed = (List.replicate n true ++ List.replicate (l.length - n) false).toArray := by
      apply Array.ext
      · simp [hsl]; omega
      · intro i h1 h2
        rcases Nat.lt_or_ge i n with hi | hi
        · have := unl_zero hun i hi
          have hb' : listed[i] = true := by simpa [h1] using this
          rw [hb']
          simp [hi]
        · have := inv.tail i hi (by simpa [hsl] using h1)
          have hb' : listed[i] = false := by simpa [h1] using this
          rw [hb']
          simp [List.getElem_append, Nat.not_lt.2 hi]
    obtain ⟨b, hbv, hap, hB⟩ := hph (unl_zero hun m hmn)
    rw [if_pos (unl_zero hun k hkn)] at hB
    have ea : mkA (dstOf l) vc a0 (fun j => listed.getD j true) n = (mkA (dstOf l) vs a0 (fun j => non m k j) n).put om.dst (.pointer (some ⟨b, 0, none⟩)) := by
      rw [← hdm', ← hbv, show mkA (dstOf l) vs a0 (fun j => non m k j) n = mkA (dstOf l) vc a0 (fun j => non m k j) n from mkA_congr n (fun _ _ => rfl) (fun j _ hj => (hvc j (by intro e; subst e; simp [non] at hj)).symm)]
      rw [mkA_put (by simp [non]) n hmn hds]
      have h3 := mkA_put (ds := dstOf l) (vs := vc) (a0 := a0) (L := fun j => non m k j || j == m) (i := k) (by simp [non, Ne.symm hmk]) n hkn hds
      rw [hdk] at h3
      rw [show mkA (dstOf l) vc a0 (fun j => non m k j || j == m) n = (mkA (dstOf l) vc a0 (fun j => non m k j || j == m) n).put none (vc k) from rfl, h3]
      refine mkA_congr n (fun j hj => ?_) (fun _ _ _ => rfl)
      rw [unl_zero hun j hj]
      by_cases hjm : j = m <;> by_cases hjk : j = k <;> simp [non, hjm, hjk]
    rw [Nat.zero_add, ea]
    have hdl : (l.drop n).length = l.length - n := by simp
    have := wpAny_of_seq (P := P) (md := .any) (Q' := Q) (ops := l.toArray) (l.drop n) n listed _ W (fun j => by simp [List.getElem?_drop]) (by rw [hdl, e]; exact hseq) (hQ W b hB hF hap)
    rwa [hdl] at this
  | succ f ih =>
    intro listed vc W inv hun hvc hF hcl hph
    have hL := I.later hF
    have hsl : listed.size = l.length := by simpa using inv.size
    have hne := ready_someC (n := n) hb (by omega) hsl (by omega)
    obtain ⟨i0, h0, hu0⟩ := unl_pos (show 0 < unl listed n by omega)
    rw [show f + 1 + (l.length - n) = (f + (l.length - n)) + 1 by omega]
    refine ⟨fun hnil => absurd hnil hne, fun i hi => ?_⟩
    have hin : i < n := by
      rcases Nat.lt_or_ge i n with h' | h'
      · exact h'
      · exact absurd hi (tail_waits hs hc (by simpa using hn) inv _ i0 rfl h0 hu0 i h')
    obtain ⟨hiu, o, ho, hall⟩ := mem_ready.1 hi
    have ho' : l[i]? = some o := by simpa using ho
    have hot : (l.take n)[i]? = some o := by rw [List.getElem?_take, if_pos hin]; exact ho'
    have hdi : dstOf l i = o.dst := by simp [dstOf, ho']
    have hgd := plainC_guard hp hin ho'
    have hun' : unl (listed.setIfInBounds i true) n = f := by have := unl_set hiu hin; omega
    have hci : isc i = false := by
      cases e : isc i with
      | false => rfl
      | true => rw [hcl i hin e] at hiu; cases hiu
    have hcl' : ∀ j, j < n → isc j = true → (listed.setIfInBounds i true).getD j true = true := fun j hj hjc => by
      rw [getD_set_ne true (fun e => by subst e; rw [hci] at hjc; cases hjc)]; exact hcl j hj hjc
    have hset : ∀ j, j < n → ((listed.getD j true || j == i) = (listed.setIfInBounds i true).getD j true) := fun j hj => by
      by_cases e : i = j
      · subst e
        have h1 : i < listed.size := by omega
        simp [h1]
      · rw [getD_set_ne true e]
        have : (j == i) = false := by simpa using fun h => e h.symm
        simp [this]
    have hself : (listed.setIfInBounds i true).getD i true = true := by rw [← hset i hin]; simp
    have hlist : ∀ e ∈ o.after, Region.binds .any e = true → e.on < n → listed.getD e.on true = true := fun e he heb hlt => by
      have h2 := hall e he heb
      have h3 : e.on < listed.size := by omega
      simp [h3] at h2 ⊢
      exact h2
    unfold wpOp
    rw [ho]
    simp only
    rw [if_pos (by simp [Region.wanted, hgd])]
    refine .inl ?_
    by_cases him : i = m
    · subst him
      have : o = om := Option.some.inj (ho'.symm.trans hom)
      subst this
      refine hal W _ _ ?_
      have e1 : mkA (dstOf l) vc a0 (fun j => listed.getD j true) n = mkA (dstOf l) (fun j => if j = i then .pointer (some ⟨W.heap.size, 0, none⟩) else vc j) a0 (fun j => listed.getD j true) n :=
        mkA_congr n (fun _ _ => rfl) (fun j _ hj => by
          have : j ≠ i := fun e => by subst e; rw [hiu] at hj; cases hj
          exact (if_neg this).symm)
      have e2 := mkA_put (ds := dstOf l) (vs := fun j => if j = i then .pointer (some ⟨W.heap.size, 0, none⟩) else vc j) (a0 := a0) (L := fun j => listed.getD j true) hiu n hin hds
      simp only [if_true] at e2
      -- the store waits for the block
      have hku : listed.getD k true = false := by
        cases hc2 : listed.getD k true with
        | false => rfl
        | true =>
          obtain ⟨e, he, hej, heb⟩ := hwait
          have hks : k < listed.size := by omega
          have h5 := inv.closed k ok (by simpa using hok) (by simp [hks] at hc2 ⊢; exact hc2) e he heb
          rw [hej] at h5
          have hms : i < listed.size := by omega
          simp [hms] at h5 hiu
          rw [hiu] at h5
          cases h5
      rw [e1, ← hdi, e2, mkA_congr n hset (fun _ _ _ => rfl)]
      exact ih _ _ _ (inv.set hi hin) hun' (fun j hj => (if_neg hj).trans (hvc j hj)) (I.f1 _ _ hF ((Below.refl _ _).alloc (Nat.le_refl _) _)) hcl' (fun _ => ⟨W.heap.size, if_pos rfl, I.f4 W _ hF (Nat.le_refl _), by
        rw [getD_set_ne true hmk, hku]
        exact Blk.made w W t z hL _ rfl⟩)
    · have hmset : (listed.setIfInBounds i true).getD m true = listed.getD m true := getD_set_ne true him
      by_cases hik : i = k
      · subst hik
        have : o = ok := Option.some.inj (ho'.symm.trans hok)
        subst this
        obtain ⟨e, he, hej, heb⟩ := hwait
        have hml := hlist e he heb (by omega)
        rw [hej] at hml
        obtain ⟨b, hbv, hap, hB⟩ := hph hml
        rw [hiu] at hB
        simp only [Bool.false_eq_true, if_false] at hB
        have ex : (mkA (dstOf l) vc a0 (fun j => listed.getD j true) n).eval xp = .pointer (some ⟨b, 0, none⟩) := by
          rw [hxp, mkA_on (hdm'.trans hdm) hml n hmn hds, if_pos hsz, hbv]
        have ey : (mkA (dstOf l) vc a0 (fun j => listed.getD j true) n).eval yv = .agg us := by
          rw [← hyv]
          refine mkA_agree hds fun s hxs j hj hdj => ?_
          have hr := (plainC_at hp hin hj ho' hdj).2 (by rw [hst, ← hxs]; simp [Op.operands])
          obtain ⟨_, e', he', hej', heb'⟩ := hr
          have h5 := hlist e' he' heb' (by omega)
          rw [hej'] at h5
          have hjm : j ≠ m := fun e => by
            subst e
            rw [hdm', hdm] at hdj
            exact hyd (by rw [hxs]; exact congrArg Operand.tmp (Option.some.inj hdj).symm)
          have hjk : j ≠ i := fun e => by subst e; rw [hdk] at hdj; cases hdj
          exact ⟨h5, by simp [non, hjm, hjk], hvc j hjm⟩
        have hod : o.dst = none := hdi.symm.trans hdk
        refine wp_store_mid ty xp yv hst b 0 us ex ey (hB.there 0 us.size (by omega)) (by rw [hT.size, hu]) h1 ?_
        have hS := Sto.cells b us.toList 0 W
        rw [hod]
        have e1 : (mkA (dstOf l) vc a0 (fun j => listed.getD j true) n).put none undef = mkA (dstOf l) vc a0 (fun j => (listed.setIfInBounds i true).getD j true) n := by
          have h3 := mkA_put (ds := dstOf l) (vs := vc) (a0 := a0) (L := fun j => listed.getD j true) hiu n hin hds
          rw [hdk] at h3
          exact h3.trans (mkA_congr n hset (fun _ _ _ => rfl))
        rw [e1]
        exact ih _ _ _ (inv.set hi hin) hun' hvc (I.f2 _ _ b hF hS hap) hcl' (fun _ => ⟨b, hbv, hap, by rw [hself]; exact hB.stored us (by omega)⟩)
      · have hnon : non m k i = true := by simp [non, him, hik]
        have hkset : (listed.setIfInBounds i true).getD k true = listed.getD k true := getD_set_ne true hik
        have hq := hv i o hot hnon hci W hF
        have hex : execOp (mkA (dstOf l) vc a0 (fun j => listed.getD j true) n).eval o = execOp (mkA (dstOf l) vs a0 (upm isf m k i) n).eval o := by
          refine execOp_congr o (fun cs b => Region.noSelect_spec hsel i o cs b ho) fun x hx => ?_
          refine mkA_agree hds fun s hxs j hj hdj => ?_
          subst hxs
          obtain ⟨hjm, e, he, hej, heb⟩ := (plainC_at hp hin hj ho' hdj).2 hx
          have hjm : j ≠ m := hjm.resolve_right hik
          have hlt := backC_spec hb ho' e he heb
          have h5 := hlist e he heb (by omega)
          rw [hej] at h5 hlt
          have hjk : j ≠ k := fun e => by subst e; rw [hdk] at hdj; cases hdj
          exact ⟨h5, by simp [upm, non, hjm, hjk, upto_of hfr hin hj hlt ho' he hej heb], hvc j hjm⟩
        have hput : ∀ u, u = vs i → (mkA (dstOf l) vc a0 (fun j => listed.getD j true) n).put o.dst u = mkA (dstOf l) vc a0 (fun j => (listed.setIfInBounds i true).getD j true) n := fun u hu => by
          rw [hu, ← hvc i him, ← hdi, mkA_put hiu n hin hds]
          exact mkA_congr n hset (fun _ _ _ => rfl)
        unfold Oper.wp
        rw [hex]
        generalize (execOp (mkA (dstOf l) vs a0 (upm isf m k i) n).eval o).run P W = r at hq ⊢
        cases r with
        | ok nx W' =>
          cases nx <;> simp only [Oper.quietUpon] at hq <;> simp only [Oper.upon]
          case value u =>
            obtain ⟨e1, e2⟩ := hq
            rw [e1, hput u e2]
            exact ih _ _ _ (inv.set hi hin) hun' hvc hF hcl' (fun h => by rw [hkset]; exact hph (hmset ▸ h))
          case skip =>
            obtain ⟨e1, e2⟩ := hq
            rw [e1, hput undef e2.symm]
            exact ih _ _ _ (inv.set hi hin) hun' hvc hF hcl' (fun h => by rw [hkset]; exact hph (hmset ▸ h))
          case enter g args =>
            obtain ⟨e1, hcl⟩ := hq
            rw [e1]
            refine hcl.mono fun e W'' ⟨he, hB⟩ => ?_
            subst he
            simp only
            rw [hput _ rfl]
            refine ih _ _ _ (inv.set hi hin) hun' hvc (I.f1 _ _ hF hB) hcl' (fun h => ?_)
            obtain ⟨b, h1, h3, h2⟩ := hph (hmset ▸ h)
            refine ⟨b, h1, h3, ?_⟩
            rw [hkset]
            split
            · rename_i hh; rw [if_pos hh] at h2; exact h2.call hB
            · rename_i hh; rw [if_neg hh] at h2; exact h2.call hB
        | halt x W' => simp only [Oper.quietUpon] at hq
theorem wpAny_of_QFA (hb : backC l = true) (isc : Nat → Bool) (hfr : freeB l n isf isc = true) (hfk : isf k = false) (hp : plainC l n m k = true) (hdep : depG l n m isf c = true) (hs : Region.sinkB .any l.toArray n = true) (hc : Region.chainB .any l.toArray n = true) (hsel : Region.noSelect l.toArray = true) (hn : n < l.length) (hmn : m < n) (hkn : k < n) (hmk : m ≠ k) (hcn : c < n) (hcm : c ≠ m) (hck : c < k)
    (hseq : Region.seqB .any l.toArray (l.length - n) n ((List.replicate n true ++ List.replicate (l.length - n) false).toArray) = true)
    {om : Oper} (hom : l[m]? = some om) (hal : ∀ (W : World) (a : Act) (K : Act → World → Prop), K (a.put om.dst (.pointer (some ⟨W.heap.size, 0, none⟩))) (W.alloc (.cells z t)) → om.wp P a W K Q)
    {ok : Oper} (hok : l[k]? = some ok) (hst : ok.op = .store ty xp yv) (hT : RowT P ty nn) (hz : z.size = nn)
    {dm : Tmp} (hdm : om.dst = some dm) (hxp : xp = .tmp dm) (hwait : ∃ e ∈ ok.after, e.on = m ∧ Region.binds .any e = true) (hsz : dm < a0.tmps.size) (hyd : yv ≠ .tmp dm)
    {oc : Oper} (hoc : l[c]? = some oc) (vs : Nat → Value) (_hisc : isc c = true) (I : Inv w) (J : Value → Inv w)
    (hv : ∀ j o, isf j = true ∨ j < c → (l.take n)[j]? = some o → non m k j = true → isc j = false → ∀ W, I.C W → Oper.quietUpon P (fun W' => Below W.heap.size W W') W (vs j) ((execOp (mkA (dstOf l) vs a0 (upm isf m k j) n).eval o).run P W))
    (hcl : ∀ W, I.C W → callUponM P V I J W ((execOp (mkA (dstOf l) vs a0 (upm isf m k c) n).eval oc).run P W))
    (hnext : ∀ u, V u → ∃ vsu : Nat → Value, (∀ j, isf j = true ∨ j < c → vsu j = vs j) ∧ vsu c = u ∧ StageF P l w n m k t z Q a0 isf isc (c + 1) (J u) vsu) :
    ∀ (f : Nat) (listed : Array Bool) (vc : Nat → Value) (W : World), HeadInv .any l.toArray n listed → unl listed n = f → (∀ j, j < n → isf j = true ∨ j < c → j ≠ m → vc j = vs j) → I.C W → (∀ j, j < n → isc j = true → j < c → listed.getD j true = true) → listed.getD c true = false → (∀ j, j < n → c < j → j ≠ m → isf j = false → listed.getD j true = false) →
      (listed.getD m true = true → ∃ b, vc m = .pointer (some ⟨b, 0, none⟩) ∧ I.ap b ∧ Blk w b t z W) →
      wpAny P .any l.toArray Q (f + (l.length - n)) listed (mkA (dstOf l) vc a0 (fun j => listed.getD j true) n) W := by
  intro f
  have hdm' : dstOf l m = om.dst := by simp [dstOf, hom]
  have hdk : dstOf l k = none := plainC_k hp
  have hds := plainC_ds hp
  induction f with
  | zero =>
    intro listed vc W inv hun hvc hF hdone hcu hlow hph
    have hL := I.later hF
    have := unl_zero hun c hcn
    rw [hcu] at this
    cases this
  | succ f ih =>
    intro listed vc W inv hun hvc hF hdone hcu hlow hph
    have hL := I.later hF
    have hsl : listed.size = l.length := by simpa using inv.size
    have hne := ready_someC (n := n) hb (by omega) hsl (by omega)
    obtain ⟨i0, h0, hu0⟩ := unl_pos (show 0 < unl listed n by omega)
    rw [show f + 1 + (l.length - n) = (f + (l.length - n)) + 1 by omega]
    refine ⟨fun hnil => absurd hnil hne, fun i hi => ?_⟩
    have hin : i < n := by
      rcases Nat.lt_or_ge i n with h' | h'
      · exact h'
      · exact absurd hi (tail_waits hs hc (by simpa using hn) inv _ i0 rfl h0 hu0 i h')
    obtain ⟨hiu, o, ho, hall⟩ := mem_ready.1 hi
    have ho' : l[i]? = some o := by simpa using ho
    have hot : (l.take n)[i]? = some o := by rw [List.getElem?_take, if_pos hin]; exact ho'
    have hdi : dstOf l i = o.dst := by simp [dstOf, ho']
    have hgd := plainC_guard hp hin ho'
    have hun' : unl (listed.setIfInBounds i true) n = f := by have := unl_set hiu hin; omega
    have hset : ∀ j, j < n → ((listed.getD j true || j == i) = (listed.setIfInBounds i true).getD j true) := fun j hj => by
      by_cases e : i = j
      · subst e
        have h1 : i < listed.size := by omega
        simp [h1]
      · rw [getD_set_ne true e]
        have : (j == i) = false := by simpa using fun h => e h.symm
        simp [this]
    have hself : (listed.setIfInBounds i true).getD i true = true := by rw [← hset i hin]; simp
    have hlist : ∀ e ∈ o.after, Region.binds .any e = true → e.on < n → listed.getD e.on true = true := fun e he heb hlt => by
      have h2 := hall e he heb
      have h3 : e.on < listed.size := by omega
      simp [h3] at h2 ⊢
      exact h2
    have hex : (isf i = true ∨ i ≤ c) → i ≠ m → i ≠ k → execOp (mkA (dstOf l) vc a0 (fun j => listed.getD j true) n).eval o = execOp (mkA (dstOf l) vs a0 (upm isf m k i) n).eval o := fun hic him hik => by
      refine execOp_congr o (fun cs b => Region.noSelect_spec hsel i o cs b ho) fun x hx => ?_
      refine mkA_agree hds fun s hxs j hj hdj => ?_
      subst hxs
      obtain ⟨hjm, e, he, hej, heb⟩ := (plainC_at hp hin hj ho' hdj).2 hx
      have hjm : j ≠ m := hjm.resolve_right hik
      have hlt := backC_spec hb ho' e he heb
      have h5 := hlist e he heb (by omega)
      rw [hej] at h5 hlt
      have hjk : j ≠ k := fun e => by subst e; rw [hdk] at hdj; cases hdj
      refine ⟨h5, by simp [upm, non, hjm, hjk, upto_of hfr hin hj hlt ho' he hej heb], hvc j hj ?_ hjm⟩
      rcases hic with hf | hf
      · have := (freeB_spec hfr hin hf).2 o ho' e he heb (by omega)
        rw [hej] at this
        exact .inl this
      · exact .inr (by omega)
    unfold wpOp
    rw [ho]
    simp only
    rw [if_pos (by simp [Region.wanted, hgd])]
    refine .inl ?_
    by_cases him : i = m
    · subst him
      have : o = om := Option.some.inj (ho'.symm.trans hom)
      subst this
      refine hal W _ _ ?_
      have e1 : mkA (dstOf l) vc a0 (fun j => listed.getD j true) n = mkA (dstOf l) (fun j => if j = i then .pointer (some ⟨W.heap.size, 0, none⟩) else vc j) a0 (fun j => listed.getD j true) n :=
        mkA_congr n (fun _ _ => rfl) (fun j _ hj => by
          have : j ≠ i := fun e => by subst e; rw [hiu] at hj; cases hj
          exact (if_neg this).symm)
      have e2 := mkA_put (ds := dstOf l) (vs := fun j => if j = i then .pointer (some ⟨W.heap.size, 0, none⟩) else vc j) (a0 := a0) (L := fun j => listed.getD j true) hiu n hin hds
      simp only [if_true] at e2
      rw [e1, ← hdi, e2, mkA_congr n hset (fun _ _ _ => rfl)]
      exact ih _ _ _ (inv.set hi hin) hun' (fun j hj hjf hjm => (if_neg hjm).trans (hvc j hj hjf hjm)) (I.f1 _ _ hF ((Below.refl _ _).alloc (Nat.le_refl _) _)) (fun j h1 h2 h3 => by
          by_cases hji : j = i
          · subst hji; rw [hself]
          · rw [getD_set_ne true (Ne.symm hji)]; exact hdone j h1 h2 h3) (by rw [getD_set_ne true (Ne.symm hcm)]; exact hcu) (fun j h1 h2 h3 h4 => by rw [getD_set_ne true (Ne.symm h3)]; exact hlow j h1 h2 h3 h4) (fun _ => ⟨W.heap.size, if_pos rfl, I.f4 W _ hF (Nat.le_refl _), Blk.made w W t z hL _ rfl⟩)
    · have hic : isf i = true ∨ i ≤ c := by
        rcases Nat.lt_or_ge c i with h' | h'
        · cases hfi : isf i with
          | true => exact .inl rfl
          | false =>
            obtain ⟨e, he, heb, hce, hem, hef⟩ := depG_spec hdep hin h' him hfi ho'
            have hlt := backC_spec hb ho' e he heb
            have h5 := hlist e he heb (by omega)
            by_cases hec : e.on = c
            · rw [hec, hcu] at h5; cases h5
            · rw [hlow e.on (by omega) (by omega) hem hef] at h5; cases h5
        · exact .inr h'
      have hik : i ≠ k := fun e => by
        rcases hic with h | h
        · rw [e, hfk] at h; cases h
        · omega
      have hmset : (listed.setIfInBounds i true).getD m true = listed.getD m true := getD_set_ne true him
      have hnon : non m k i = true := by simp [non, him, hik]
      by_cases hci : i = c
      · subst hci
        have : o = oc := Option.some.inj (ho'.symm.trans hoc)
        subst this
        have hq := hcl W hF
        unfold Oper.wp
        rw [hex (.inr (Nat.le_refl _)) him hik]
        generalize (execOp (mkA (dstOf l) vs a0 (upm isf m k i) n).eval o).run P W = r at hq ⊢
        cases r with
        | halt x W' => simp only [callUponM] at hq
        | ok nx W' =>
          cases nx <;> simp only [callUponM] at hq
          case enter g args =>
            obtain ⟨e1, hcall⟩ := hq
            simp only [Oper.upon]
            rw [e1]
            refine hcall.mono fun e W'' ⟨u, he, hV, hF2, hB, hap⟩ => ?_
            subst he
            simp only
            obtain ⟨vsu, v1, v2, v3⟩ := hnext u hV
            have ea : (mkA (dstOf l) vc a0 (fun j => listed.getD j true) n).put o.dst u = mkA (dstOf l) (fun j => if j = m then vc m else vsu j) a0 (fun j => (listed.setIfInBounds i true).getD j true) n := by
              have e3 : mkA (dstOf l) vc a0 (fun j => listed.getD j true) n = mkA (dstOf l) (fun j => if j = m then vc m else vsu j) a0 (fun j => listed.getD j true) n :=
                mkA_congr n (fun _ _ => rfl) (fun j hj hjl => by
                  by_cases hjm : j = m
                  · rw [if_pos hjm, hjm]
                  · rw [if_neg hjm]
                    have hjc : isf j = true ∨ j < i := by
                      cases hfj : isf j with
                      | true => exact .inl rfl
                      | false =>
                        rcases Nat.lt_or_ge j i with h' | h'
                        · exact .inr h'
                        · by_cases hji : j = i
                          · rw [hji, hcu] at hjl; cases hjl
                          · rw [hlow j hj (by omega) hjm hfj] at hjl; cases hjl
                    rw [hvc j hj hjc hjm, v1 j hjc])
              have e4 := mkA_put (ds := dstOf l) (vs := fun j => if j = m then vc m else vsu j) (a0 := a0) (L := fun j => listed.getD j true) hiu n hin hds
              rw [show (if i = m then vc m else vsu i) = u by rw [if_neg him]; exact v2] at e4
              rw [e3, ← hdi, e4, mkA_congr n hset (fun _ _ _ => rfl)]
            rw [ea]
            refine v3 f _ _ W'' (inv.set hi hin) hun' (fun j _ _ hjm => if_neg hjm) hF2 (fun j h1 h2 h3 => ?_) (fun j h1 h2 h3 h4 => ?_) (fun hml => ?_)
            · by_cases hji : j = i
              · subst hji; exact hself
              · rw [getD_set_ne true (Ne.symm hji)]; exact hdone j h1 h2 (by omega)
            · rw [getD_set_ne true (by omega)]; exact hlow j h1 (by omega) h3 h4
            · rw [hmset] at hml
              obtain ⟨b, hbv, hbp, hBb⟩ := hph hml
              exact ⟨b, by simp [hbv], hap b hBb.lt hbp, hBb.call hB⟩
      · have hlt : isf i = true ∨ i < c := hic.imp id (fun h => by omega)
        have hisi : isc i = false := by
          rcases hlt with hf | hlt
          · exact (freeB_spec hfr hin hf).1
          · cases e : isc i with
            | false => rfl
            | true => rw [hdone i hin e hlt] at hiu; cases hiu
        have hq := hv i o hlt hot hnon hisi W hF
        have hdone' : ∀ j, j < n → isc j = true → j < c → (listed.setIfInBounds i true).getD j true = true := fun j h1 h2 h3 => by
          rw [getD_set_ne true (fun e => by subst e; rw [hisi] at h2; cases h2)]; exact hdone j h1 h2 h3
        have hput : ∀ u, u = vs i → (mkA (dstOf l) vc a0 (fun j => listed.getD j true) n).put o.dst u = mkA (dstOf l) vc a0 (fun j => (listed.setIfInBounds i true).getD j true) n := fun u hu => by
          rw [hu, ← hvc i hin hlt him, ← hdi, mkA_put hiu n hin hds]
          exact mkA_congr n hset (fun _ _ _ => rfl)
        have hcu' : (listed.setIfInBounds i true).getD c true = false := by rw [getD_set_ne true hci]; exact hcu
        have hlow' : ∀ j, j < n → c < j → j ≠ m → isf j = false → (listed.setIfInBounds i true).getD j true = false := fun j h1 h2 h3 h4 => by
          have : i ≠ j := fun e => by
            subst e
            rcases hlt with h | h
            · rw [h] at h4; cases h4
            · omega
          rw [getD_set_ne true this]; exact hlow j h1 h2 h3 h4
        unfold Oper.wp
        rw [hex (hlt.imp id (fun h => by omega)) him hik]
        generalize (execOp (mkA (dstOf l) vs a0 (upm isf m k i) n).eval o).run P W = r at hq ⊢
        cases r with
        | ok nx W' =>
          cases nx <;> simp only [Oper.quietUpon] at hq <;> simp only [Oper.upon]
          case value u =>
            obtain ⟨e1, e2⟩ := hq
            rw [e1, hput u e2]
            exact ih _ _ _ (inv.set hi hin) hun' hvc hF hdone' hcu' hlow' (fun h => hph (hmset ▸ h))
          case skip =>
            obtain ⟨e1, e2⟩ := hq
            rw [e1, hput undef e2.symm]
            exact ih _ _ _ (inv.set hi hin) hun' hvc hF hdone' hcu' hlow' (fun h => hph (hmset ▸ h))
          case enter g args =>
            obtain ⟨e1, hcl⟩ := hq
            rw [e1]
            refine hcl.mono fun e W'' ⟨he, hB⟩ => ?_
            subst he
            simp only
            rw [hput _ rfl]
            exact ih _ _ _ (inv.set hi hin) hun' hvc (I.f1 _ _ hF hB) hdone' hcu' hlow' (fun h => let ⟨b, h1, h3, h2⟩ := hph (hmset ▸ h); ⟨b, h1, h3, h2.call hB⟩)
        | halt x W' => simp only [Oper.quietUpon] at hq

theorem upm_low {isf : Nat → Bool} {m k i j : Nat} (h : isf i = false) : upm isf m k i j = (non m k j && (isf j || decide (j < i))) := by unfold upm; rw [upto_low h]
theorem upm_free {isf : Nat → Bool} {m k i j : Nat} (h : isf i = true) : upm isf m k i j = (non m k j && (isf j && decide (j < i))) := by unfold upm; rw [upto_free h]
theorem wpQF_stage (hb : backC l = true) (hfr : freeB l n isf isc = true) (hfm : isf m = false) (hfk : isf k = false) (hp : plainC l n m k = true) (hcs : callsG l n m k isf isc = true) (hs : Region.sinkB .any l.toArray n = true) (hc : Region.chainB .any l.toArray n = true) (hsel : Region.noSelect l.toArray = true) (hn : n < l.length) (hmn : m < n) (hkn : k < n) (hmk : m ≠ k)
    (hseq : Region.seqB .any l.toArray (l.length - n) n ((List.replicate n true ++ List.replicate (l.length - n) false).toArray) = true)
    {om : Oper} (hom : l[m]? = some om) (hal : ∀ (W : World) (a : Act) (K : Act → World → Prop), K (a.put om.dst (.pointer (some ⟨W.heap.size, 0, none⟩))) (W.alloc (.cells z t)) → om.wp P a W K Q)
    {ok : Oper} (hok : l[k]? = some ok) (hst : ok.op = .store ty xp yv) (hT : RowT P ty nn) (hz : z.size = nn)
    {dm : Tmp} (hdm : om.dst = some dm) (hxp : xp = .tmp dm) (hwait : ∃ e ∈ ok.after, e.on = m ∧ Region.binds .any e = true) (hsz : dm < a0.tmps.size) (hyd : yv ≠ .tmp dm) :
    ∀ (rest : List Oper) (i lo : Nat) (I : Inv w) (a : Act) (vs0 : Nat → Value), (∀ j, rest[j]? = (l.take n)[i + j]?) → i + rest.length = n → lo ≤ i → lo ≤ k → (∀ j, lo ≤ j → j < i → isc j = false) → a = mkA (dstOf l) vs0 a0 (fun j => non m k j && (isf j || decide (j < i))) n →
      (∀ j o, isf j = true ∨ j < i → (l.take n)[j]? = some o → non m k j = true → isc j = false → ∀ W, I.C W → Oper.quietUpon P (fun W' => Below W.heap.size W W') W (vs0 j) ((execOp (mkA (dstOf l) vs0 a0 (upm isf m k j) n).eval o).run P W)) →
      wpQF P w m k isf isc (fun I a' => ∃ us : Array Value, a'.eval yv = .agg us ∧ us.size = nn ∧ us.all (·.oneCell') = true ∧ ∀ (W : World) (b : Nat), Blk w b t us W → I.C W → I.ap b → wpList P l.toArray Q (l.drop n) (a'.put om.dst (.pointer (some ⟨b, 0, none⟩))) W) I i rest a →
      ∃ vs : Nat → Value, (∀ j, isf j = true ∨ j < i → vs j = vs0 j) ∧ StageF P l w n m k t z Q a0 isf isc lo I vs
  | [], i, lo, I, a, vs0, hr, hlen, hlo, hlk, hnc, ha, hv0, h => by
    simp only [List.length_nil, Nat.add_zero] at hlen
    subst hlen
    obtain ⟨us, u1, u2, u3, u4⟩ := h
    have ha' : a = mkA (dstOf l) vs0 a0 (fun j => non m k j) i := by
      rw [ha]
      exact mkA_congr i (fun j hj => by simp [hj]) (fun _ _ _ => rfl)
    subst ha'
    refine ⟨vs0, fun _ _ => rfl, fun f listed vc W inv hun hvc hF hdone hlow hph => ?_⟩
    have e : mkA (dstOf l) vc a0 (fun j => listed.getD j true) i = mkA (dstOf l) (fun j => if j = m then vc m else vs0 j) a0 (fun j => listed.getD j true) i :=
      mkA_congr i (fun _ _ => rfl) (fun j hj hjl => by
        by_cases hjm : j = m
        · rw [if_pos hjm, hjm]
        · rw [if_neg hjm]
          refine hvc j hj ?_ hjm
          cases hfj : isf j with
          | true => exact .inl rfl
          | false =>
            rcases Nat.lt_or_ge j lo with h' | h'
            · exact .inr h'
            · rw [hlow j hj h' hjm hfj] at hjl; cases hjl)
    rw [e]
    refine wpAny_of_QFB (P := P) (Q := Q) (w := w) (a0 := a0) (isf := isf) (isc := isc) (I := I) hb hfr hp hs hc hsel hn hmn hkn hmk hseq hom hal hok hst hT hz u2 u3 hdm hxp hwait hsz vs0 (fun j oj hoj hjn hjc => hv0 j oj (.inr (by
      rw [List.getElem?_take] at hoj
      split at hoj
      · assumption
      · cases hoj)) hoj hjn hjc) u1 hyd u4 f listed _ W inv hun (fun j hj => if_neg hj) hF (fun j hj hjc => hdone j hj hjc (by
        rcases Nat.lt_or_ge j lo with h' | h'
        · exact h'
        · rw [hnc j h' hj] at hjc; cases hjc)) (fun hml => ?_)
    obtain ⟨b, hbv, hbp, hBb⟩ := hph hml
    refine ⟨b, by simp [hbv], hbp, ?_⟩
    have hku : listed.getD k true = false := hlow k hkn hlk (Ne.symm hmk) hfk
    rw [if_neg (by rw [hku]; exact Bool.false_ne_true)]
    exact hBb
  | o :: rest, i, lo, I, a, vs0, hr, hlen, hlo, hlk, hnc, ha, hv0, h => by
    have hds := plainC_ds hp
    have h0 : (l.take n)[i]? = some o := by simpa using (hr 0).symm
    have hin : i < n := by simp at hlen; omega
    have hl0 : l[i]? = some o := by
      rw [List.getElem?_take, if_pos hin] at h0; exact h0
    have hr' : ∀ j, rest[j]? = (l.take n)[i + 1 + j]? := fun j => by
      have := hr (j + 1)
      rw [List.getElem?_cons_succ] at this
      rw [this, show i + (j + 1) = i + 1 + j by omega]
    have hlen' : i + 1 + rest.length = n := by simp at hlen; omega
    have hd : dstOf l i = o.dst := by simp [dstOf, hl0]
    simp only [wpQF] at h
    cases hfi : isf i with
    | true =>
      rw [hfi, if_pos rfl] at h
      have hci := (freeB_spec hfr hin hfi).1
      obtain ⟨vs, e1, e2⟩ := wpQF_stage hb hfr hfm hfk hp hcs hs hc hsel hn hmn hkn hmk hseq hom hal hok hst hT hz hdm hxp hwait hsz hyd rest (i + 1) lo I a vs0 hr' hlen' (by omega) hlk (fun j h1 h2 => by
          by_cases hji : j = i
          · rw [hji]; exact hci
          · exact hnc j h1 (by omega)) (by
          rw [ha]
          refine mkA_congr n (fun j hj => ?_) (fun _ _ _ => rfl)
          by_cases hji : j = i
          · subst hji; simp [hfi]
          · have e2 : decide (j < i + 1) = decide (j < i) := by simp; omega
            simp [e2]) (fun j oj hj hoj hjn hjc W hW => hv0 j oj (by
          by_cases hji : j = i
          · subst hji; exact .inl hfi
          · exact hj.imp id (fun h => by omega)) hoj hjn hjc W hW) h
      exact ⟨vs, fun j hj => e1 j (hj.imp id (fun h => by omega)), e2⟩
    | false =>
    rw [hfi, if_neg Bool.false_ne_true] at h
    have hput : ∀ v, non m k i = true → a.put o.dst v = mkA (dstOf l) (fun j => if j = i then v else vs0 j) a0 (fun j => non m k j && (isf j || decide (j < i + 1))) n := fun v hnon => by
      have e := mkA_put (ds := dstOf l) (vs := fun j => if j = i then v else vs0 j) (a0 := a0) (L := fun j => non m k j && (isf j || decide (j < i))) (i := i) (by simp [hfi]) n hin hds
      rw [if_pos rfl, hd] at e
      rw [ha, show mkA (dstOf l) vs0 a0 (fun j => non m k j && (isf j || decide (j < i))) n = mkA (dstOf l) (fun j => if j = i then v else vs0 j) a0 (fun j => non m k j && (isf j || decide (j < i))) n from mkA_congr n (fun _ _ => rfl) (fun j hj hl => (if_neg (fun e => by subst e; simp [hfi] at hl)).symm), e]
      refine mkA_congr n (fun j hj => ?_) (fun _ _ _ => rfl)
      by_cases hji : j = i
      · subst hji; simp [hnon]
      · have e1 : (j == i) = false := by simpa using hji
        have e2 : decide (j < i + 1) = decide (j < i) := by simp; omega
        simp [e1, e2]
    have hcg : ∀ v j, isf j = true ∨ j < i + 1 → mkA (dstOf l) (fun j => if j = i then v else vs0 j) a0 (upm isf m k j) n = mkA (dstOf l) vs0 a0 (upm isf m k j) n := fun v j hj => mkA_congr n (fun _ _ => rfl) (fun q hq hl => if_neg (fun e => by
      subst e
      cases hfj : isf j with
      | true => rw [upm_free hfj, hfi] at hl; simp at hl
      | false =>
        rw [upm_low hfj, hfi] at hl
        have : q < j := by simp at hl; exact hl.2
        rcases hj with h' | h'
        · rw [hfj] at h'; cases h'
        · omega))
    have haj : a = mkA (dstOf l) vs0 a0 (upm isf m k i) n := by
      rw [ha]
      exact mkA_congr n (fun j hj => by rw [upm_low hfi]) (fun _ _ _ => rfl)
    cases hic : isc i with
    | true =>
      rw [hic, if_pos rfl] at h
      obtain ⟨V, J, hIJ, hcl, hu⟩ := h
      obtain ⟨hik, him, hdep⟩ := callsG_spec hcs hin hic
      have hnon : non m k i = true := by simp [non, him, show i ≠ k by omega]
      refine ⟨vs0, fun _ _ => rfl, fun f listed vc W inv hun hvc hF hdone hlow hph => ?_⟩
      have e : mkA (dstOf l) vc a0 (fun j => listed.getD j true) n = mkA (dstOf l) (fun j => if j = m then vc m else vs0 j) a0 (fun j => listed.getD j true) n :=
        mkA_congr n (fun _ _ => rfl) (fun j hj hjl => by
          by_cases hjm : j = m
          · rw [if_pos hjm, hjm]
          · rw [if_neg hjm]
            refine hvc j hj ?_ hjm
            cases hfj : isf j with
            | true => exact .inl rfl
            | false =>
              rcases Nat.lt_or_ge j lo with h' | h'
              · exact .inr h'
              · rw [hlow j hj h' hjm hfj] at hjl; cases hjl)
      rw [e]
      refine wpAny_of_QFA (P := P) (Q := Q) (w := w) (a0 := a0) (V := V) (c := i) hb isc hfr hfk hp hdep hs hc hsel hn hmn hkn hmk hin him hik hseq hom hal hok hst hT hz hdm hxp hwait hsz hyd hl0 vs0 hic I J hv0 (fun W hW => by rw [← haj]; exact hcl W hW) (fun u hV => ?_) f listed _ W inv hun (fun j _ _ hjm => if_neg hjm) hF (fun j h1 h2 h3 => hdone j h1 h2 (by
        rcases Nat.lt_or_ge j lo with h' | h'
        · exact h'
        · rw [hnc j h' h3] at h2; cases h2)) (hlow i hin hlo him hfi) (fun j h1 h2 h3 h4 => hlow j h1 (by omega) h3 h4) (fun hml => ?_)
      · obtain ⟨vs, e1, e2⟩ := wpQF_stage hb hfr hfm hfk hp hcs hs hc hsel hn hmn hkn hmk hseq hom hal hok hst hT hz hdm hxp hwait hsz hyd rest (i + 1) (i + 1) (J u) (a.put o.dst u) (fun j => if j = i then u else vs0 j) hr' hlen' (Nat.le_refl _) (by omega) (fun j h1 h2 => by omega) (hput u hnon) (fun j oj hj hoj hjn hjc W hW => by
          have hji : j ≠ i := fun e => by subst e; rw [hic] at hjc; cases hjc
          rw [if_neg hji, hcg u j hj]
          exact hv0 j oj (hj.imp id (fun h => by omega)) hoj hjn hjc W (hIJ u W hV hW)) (hu u hV)
        refine ⟨vs, fun j hj => (e1 j (hj.imp id (fun h => by omega))).trans (if_neg (fun e => ?_)), (e1 i (.inr (by omega))).trans (if_pos rfl), e2⟩
        subst e
        rcases hj with h' | h'
        · rw [hfi] at h'; cases h'
        · omega
      · obtain ⟨b, hbv, hbp, hBb⟩ := hph hml
        exact ⟨b, by simp [hbv], hbp, hBb⟩
    | false =>
      rw [hic, if_neg Bool.false_ne_true] at h
      have hnc' : ∀ j, lo ≤ j → j < i + 1 → isc j = false := fun j h1 h2 => by
        by_cases hji : j = i
        · rw [hji]; exact hic
        · exact hnc j h1 (by omega)
      by_cases hm : i = m ∨ i = k
      · rw [if_pos hm] at h
        have hf : non m k i = false := by
          unfold non
          rcases hm with hm | hm <;> simp [hm]
        obtain ⟨vs, e1, e2⟩ := wpQF_stage hb hfr hfm hfk hp hcs hs hc hsel hn hmn hkn hmk hseq hom hal hok hst hT hz hdm hxp hwait hsz hyd rest (i + 1) lo I a vs0 hr' hlen' (by omega) hlk hnc' (by
          rw [ha]
          refine mkA_congr n (fun j hj => ?_) (fun _ _ _ => rfl)
          by_cases hji : j = i
          · subst hji; simp [hf]
          · have e2 : decide (j < i + 1) = decide (j < i) := by simp; omega
            simp [e2]) (fun j oj hj hoj hjn hjc => hv0 j oj (hj.imp id (fun h => by
          have : j ≠ i := fun e => by subst e; rw [hf] at hjn; cases hjn
          omega)) hoj hjn hjc) h
        exact ⟨vs, fun j hj => e1 j (hj.imp id (fun h => by omega)), e2⟩
      · rw [if_neg hm] at h
        obtain ⟨v, hv, hk⟩ := h
        have hnon : non m k i = true := by simpa [non, not_or] using hm
        obtain ⟨vs, e1, e2⟩ := wpQF_stage hb hfr hfm hfk hp hcs hs hc hsel hn hmn hkn hmk hseq hom hal hok hst hT hz hdm hxp hwait hsz hyd rest (i + 1) lo I (a.put o.dst v) (fun j => if j = i then v else vs0 j) hr' hlen' (by omega) hlk hnc' (hput v hnon) (fun j oj hj hoj hjn hjc W hW => by
          rw [hcg v j hj]
          by_cases hji : j = i
          · subst hji
            have : oj = o := Option.some.inj (hoj.symm.trans h0)
            subst this
            rw [if_pos rfl, ← haj]
            exact hv W hW
          · rw [if_neg hji]
            exact hv0 j oj (hj.imp id (fun h => by omega)) hoj hjn hjc W hW) hk
        refine ⟨vs, fun j hj => (e1 j (hj.imp id (fun h => by omega))).trans (if_neg (fun e => ?_)), e2⟩
        subst e
        rcases hj with h' | h'
        · rw [hfi] at h'; cases h'
        · omega
/-- The closed facts of such a region. -/
structure RegF (P : Program) (l : List Oper) (n m k : Nat) (isf isc : Nat → Bool) : Prop where
  back : backC l = true
  free : freeB l n isf isc = true
  fmk : (!isf m && !isf k) = true
  plain : plainC l n m k = true
  calls : callsG l n m k isf isc = true
  sink : Region.sinkB .any l.toArray n = true
  chain : Region.chainB .any l.toArray n = true
  sel : Region.noSelect l.toArray = true
  seq : Region.seqB .any l.toArray (l.length - n) n ((List.replicate n true ++ List.replicate (l.length - n) false).toArray) = true
  num : (decide (n < l.length) && decide (m < n) && decide (k < n) && m != k) = true
  mix : P.follows .mixedOrders = true
/-- One walk (the free operations first) serves every order. -/
theorem wp_free_tail {id : Nat} {a : Act} {w : World} (n m k : Nat) (isf isc : Nat → Bool) (R : RegF P l n m k isf isc) {om : Oper} (hom : l[m]? = some om) {ok : Oper} (hok : l[k]? = some ok) (hst : ok.op = .store ty xp yv) (hT : RowT P ty nn) {dm : Tmp} (hdm : om.dst = some dm) (hxp : xp = .tmp dm) (hwait : (ok.after.any fun e => e.on == m && Region.binds .any e) = true) (hsz : dm < a.tmps.size) (hyd : yv ≠ .tmp dm) (hz : z.size = nn)
    (hal : ∀ (W : World) (a : Act) (K : Act → World → Prop), K (a.put om.dst (.pointer (some ⟨W.heap.size, 0, none⟩))) (W.alloc (.cells z t)) → om.wp P a W K Q)
    (h : wpFree P w isf (fun a1 => wpQF P w m k isf isc (fun I a' => ∃ us : Array Value, a'.eval yv = .agg us ∧ us.size = nn ∧ us.all (·.oneCell') = true ∧ ∀ (W : World) (b : Nat), Blk w b t us W → I.C W → I.ap b → wpList P l.toArray Q (l.drop n) (a'.put om.dst (.pointer (some ⟨b, 0, none⟩))) W) (Inv.base w) 0 (l.take n) a1) 0 (l.take n) a) : (Code.region id l.toArray true).wp P Q a w := by
  have hnum := R.num
  simp only [Bool.and_eq_true, decide_eq_true_eq, bne_iff_ne, ne_eq] at hnum
  obtain ⟨⟨⟨hn, hmn⟩, hkn⟩, hmk⟩ := hnum
  have hfmk := R.fmk
  simp only [Bool.and_eq_true, Bool.not_eq_true'] at hfmk
  refine wp_region_any R.mix ?_
  have htl : (l.take n).length = n := by simp; omega
  have inv0 : HeadInv .any l.toArray n (Array.replicate l.toArray.size false) :=
    ⟨by simp, fun j oj _ hl => (by rw [getD_replicate_false] at hl; cases hl), fun t _ ht => getD_in (by simpa using ht) (getD_replicate_false _ _)⟩
  obtain ⟨ew, hew, hew2⟩ := Array.any_eq_true'.1 hwait
  simp only [Bool.and_eq_true, beq_iff_eq] at hew2
  have key : ∀ vs j, j ≤ l.length → mkA (dstOf l) vs a (fun j => (Array.replicate l.toArray.size false).getD j true) j = a := fun vs j hj => by
    induction j with
    | zero => rfl
    | succ j ih =>
      have h1 : j < l.length := by omega
      simp only [mkA]
      rw [ih (by omega)]
      simp [h1]
  have none0 : ∀ vs m, mkA (dstOf l) vs a (fun _ => false) m = a := fun vs m => by
    induction m with
    | zero => rfl
    | succ m ih => simp only [mkA]; rw [ih]; simp
  obtain ⟨vf, _, hvf, hq⟩ := wpFree_chain (P := P) (w := w) (l := l) (n := n) (a0 := a) (isf := isf) (l.take n) 0 a (fun _ => undef) (by simp) (by omega) (by
    rw [mkA_congr (L' := fun _ => false) n (fun j _ => by simp) (fun _ _ _ => rfl), none0]) (plainC_ds R.plain) h
  have hnf : ∀ j, isf j = true → non m k j = true := fun j hj => by
    have h1 : j ≠ m := fun e => by rw [e, hfmk.1] at hj; cases hj
    have h2 : j ≠ k := fun e => by rw [e, hfmk.2] at hj; cases hj
    simp [non, h1, h2]
  obtain ⟨vs, _, hst⟩ := wpQF_stage (P := P) (Q := Q) (w := w) (a0 := a) (isf := isf) (isc := isc) R.back R.free hfmk.1 hfmk.2 R.plain R.calls R.sink R.chain R.sel hn hmn hkn hmk R.seq hom hal hok hst hT hz hdm hxp ⟨ew, hew, hew2.1, hew2.2⟩ hsz hyd (l.take n) 0 0 (Inv.base w) (mkA (dstOf l) vf a isf n) vf (by simp) (by omega) (Nat.le_refl _) (Nat.zero_le _) (fun j h1 h2 => by omega)
    (mkA_congr n (fun j _ => by
      cases hfj : isf j with
      | true => simp [hnf j hfj]
      | false => simp) (fun _ _ _ => rfl))
    (fun j o hj hoj hjn hjc W hW => by
      have hjf := hj.resolve_right (by omega)
      have := hvf j o (Nat.zero_le _) hoj hjf W hW
      rw [show mkA (dstOf l) vf a (upm isf m k j) n = mkA (dstOf l) vf a (upto isf j) n from mkA_congr n (fun q _ => by
        rw [upm_free hjf, upto_free hjf]
        cases hfq : isf q with
        | true => simp [hnf q hfq]
        | false => simp) (fun _ _ _ => rfl)]
      exact this) hq
  have hun : ∀ j, j ≤ l.length → unl (Array.replicate l.toArray.size false) j = j := fun j hj => by
    induction j with
    | zero => rfl
    | succ j ih =>
      have h1 : j < l.length := by omega
      simp only [unl]
      rw [ih (by omega)]
      simp [h1]
  have hfa : ∀ j, j < l.length → (Array.replicate l.toArray.size false).getD j true = false := fun j hj => by simp [hj]
  have hL : Later w w.drew := (Later.refl w).drew
  have := hst n (Array.replicate l.toArray.size false) vs w.drew inv0 (hun n (by omega)) (fun _ _ _ _ => rfl) hL (fun j _ _ h3 => by omega) (fun j h1 _ _ _ => hfa j (by omega)) (fun hh => by
      rw [hfa m (by omega)] at hh
      cases hh)
  rw [show n + (l.length - n) = l.length by omega] at this
  rw [key vs n (by omega)] at this
  have e : l.toArray.size = l.length := by simp
  rw [e]
  rw [e] at this
  exact this
theorem wpQF_nil {Q : Inv w → Act → Prop} {i : Nat} {a : Act} (h : Q I a) : wpQF P w m k isf isc Q I i [] a := h
section
variable {w0 : World} {i : Nat} {Q : Inv w → Act → Prop} {a : Act} {o : Oper} {rest : List Oper} {R : World → Ending → World → Prop} {F : Value → World → Prop} {ap : Value → Nat → Prop}
theorem wpQF_free (hi : isf i = true) (h : wpQF P w m k isf isc Q I (i + 1) rest a) : wpQF P w m k isf isc Q I i (o :: rest) a := by
  simp only [wpQF]; rw [if_pos hi]; exact h
theorem wpQF_pass (hi : isf i = false ∧ isc i = false ∧ (i = m ∨ i = k)) (h : wpQF P w m k isf isc Q I (i + 1) rest a) : wpQF P w m k isf isc Q I i (o :: rest) a := by
  simp only [wpQF]; rw [if_neg (by rw [hi.1]; exact Bool.false_ne_true), if_neg (by rw [hi.2.1]; exact Bool.false_ne_true), if_pos hi.2.2]; exact h
theorem wpQF_step (hi : isf i = false ∧ isc i = false ∧ ¬ (i = m ∨ i = k))
    (h : ∀ K : Act → Prop, (∀ a, wpQF P w m k isf isc Q I (i + 1) rest a → K a) → ∃ v, (∀ W, I.C W → Oper.quietUpon P (fun W' => Below W.heap.size W W') W v ((execOp a.eval o).run P W)) ∧ K (a.put o.dst v)) : wpQF P w m k isf isc Q I i (o :: rest) a := by
  simp only [wpQF]; rw [if_neg (by rw [hi.1]; exact Bool.false_ne_true), if_neg (by rw [hi.2.1]; exact Bool.false_ne_true), if_neg hi.2.2]; exact h _ (fun _ h => h)
theorem wpQF_call (U : UpR R V F ap) (hi : isf i = false ∧ isc i = true) (h1 : ∀ W, I.C W → callUponR P R W ((execOp a.eval o).run P W)) (h2 : ∀ u, V u → wpQF P w m k isf isc Q (I.up U u) (i + 1) rest (a.put o.dst u)) : wpQF P w m k isf isc Q I i (o :: rest) a := by
  simp only [wpQF]
  rw [if_neg (by rw [hi.1]; exact Bool.false_ne_true), if_pos hi.2]
  refine ⟨V, I.up U, fun u W hu h => h.1, fun W hW => ?_, h2⟩
  have h3 := h1 W hW
  generalize (execOp a.eval o).run P W = r at h3 ⊢
  cases r with
  | halt x W' => simp only [callUponR] at h3
  | ok nx W' =>
    cases nx <;> simp only [callUponR] at h3
    case enter f args =>
      refine ⟨h3.1, h3.2.mono fun e W' he => ?_⟩
      obtain ⟨u, e1, e2, e3, e4, e5⟩ := U.up W e W' he
      exact ⟨u, e1, e2, ⟨I.f1 _ _ hW e4, e3⟩, e4, fun b hb hI => ⟨hI, e5 b hb⟩⟩
theorem QF_load {g : Nat} {tt tl : TypeId} {cs : Array Value} {nl : Nat} (hB : Blk w0 g tt cs w) (off : Nat) (lst : List Value) (hl : (cs.toList.drop off).take lst.length = lst) (hTl : RowT P tl nl) (hi : isf i = false ∧ isc i = false ∧ ¬ (i = m ∨ i = k)) (hnl : lst.length = nl) {x : Operand} (ho : o.op = .load tl x) (hx : a.eval x = .pointer (some ⟨g, off, none⟩))
    (h : wpQF P w m k isf isc Q I (i + 1) rest (a.put o.dst (.agg lst.toArray))) : wpQF P w m k isf isc Q I i (o :: rest) a := by
  obtain ⟨h1, h2⟩ := hTl
  cases hu : P.underlying tl with
  | none => simp [hu] at h1
  | some d =>
    rw [hu] at h1
    refine wpQF_step hi fun K hK => ⟨.agg lst.toArray, fun W hW => ?_, hK _ h⟩
    have hR := (hB.call (I.later hW)).part off lst hl
    unfold execOp
    simp only [ho, hx, Instr.loadAt, Instr.sureAddr, Sem.run_bind, Sem.run_pure, Result.andThen_ok, run_loadVar_mid W g off tl lst d hR hu (by simpa using h1) (by rw [h2, hnl])]
    exact ⟨rfl, rfl⟩
theorem QF_loadb {g : Nat} {tt tl : TypeId} {cs : Array Value} {nl : Nat} (hB : Blk w0 g tt cs w) (hTl : RowT P tl nl) (hi : isf i = false ∧ isc i = false ∧ ¬ (i = m ∨ i = k)) (hnl : cs.size = nl) {x : Operand} (ho : o.op = .load tl x) (hx : a.eval x = .pointer (some ⟨g, 0, none⟩))
    (h : wpQF P w m k isf isc Q I (i + 1) rest (a.put o.dst (.agg cs))) : wpQF P w m k isf isc Q I i (o :: rest) a :=
  QF_load hB 0 cs.toList (by rw [List.drop_zero, List.take_length]) hTl hi (by simpa using hnl) ho hx (by simpa using h)
end
end

end Go.Proofs.YtickhmlhciafgaaGreat

