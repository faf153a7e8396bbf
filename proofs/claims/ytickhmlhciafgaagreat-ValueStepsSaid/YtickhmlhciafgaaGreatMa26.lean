/- A drawn region whose one call makes memory: one walk of the text's order. No condition. -/
import Derived.Test.YtickhmlhciafgaaGreatMa25
namespace Go.Proofs.YtickhmlhciafgaaGreat
open Go.RowKit

section
variable {P : Program} {l : List Oper} {w : World} {n m k c nn : Nat} {Q : Exit → Act → World → Prop} {a0 : Act} {t ty : TypeId} {z us : Array Value} {xp yv : Operand}
theorem wpAny_of_QB (hb : backC l = true) (hp : plainC l n m k = true) (hs : Region.sinkB .any l.toArray n = true) (hc : Region.chainB .any l.toArray n = true) (hsel : Region.noSelect l.toArray = true) (hn : n < l.length) (hmn : m < n) (hkn : k < n) (hmk : m ≠ k)
    (hseq : Region.seqB .any l.toArray (l.length - n) n ((List.replicate n true ++ List.replicate (l.length - n) false).toArray) = true)
    {om : Oper} (hom : l[m]? = some om) (hal : ∀ (W : World) (a : Act) (K : Act → World → Prop), K (a.put om.dst (.pointer (some ⟨W.heap.size, 0, none⟩))) (W.alloc (.cells z t)) → om.wp P a W K Q)
    {ok : Oper} (hok : l[k]? = some ok) (hst : ok.op = .store ty xp yv) (hT : RowT P ty nn) (hz : z.size = nn) (hu : us.size = nn) (h1 : us.all (·.oneCell') = true)
    {dm : Tmp} (hdm : om.dst = some dm) (hxp : xp = .tmp dm) (hwait : ∃ e ∈ ok.after, e.on = m ∧ Region.binds .any e = true) (hsz : dm < a0.tmps.size)
    (vs : Nat → Value) (hv : ∀ j o, (l.take n)[j]? = some o → non m k j = true → j ≠ c → ∀ s : Ext w, Oper.quietUpon P (fun W => Below s.world.heap.size s.world W) s.world (vs j) ((execOp (mkA (dstOf l) vs a0 (fun j => non m k j) j).eval o).run P s.world))
    (hyv : (mkA (dstOf l) vs a0 (fun j => non m k j) n).eval yv = .agg us) (hyd : yv ≠ .tmp dm)
    (F : World → Prop) (ap : Nat → Prop) (f1 : ∀ W W', F W → Below W.heap.size W W' → F W') (f2 : ∀ W W' b, F W → Sto W W' b → ap b → F W') (f4 : ∀ W b, F W → W.heap.size ≤ b → ap b)
    (hQ : ∀ (W : World) (b : Nat), Blk w b t us W → F W → ap b → wpList P l.toArray Q (l.drop n) ((mkA (dstOf l) vs a0 (fun j => non m k j) n).put om.dst (.pointer (some ⟨b, 0, none⟩))) W) :
    ∀ (f : Nat) (listed : Array Bool) (vc : Nat → Value) (W : World), HeadInv .any l.toArray n listed → unl listed n = f → (∀ j, j ≠ m → vc j = vs j) → Later w W → listed.getD c true = true → F W →
      (listed.getD m true = true → ∃ b, vc m = .pointer (some ⟨b, 0, none⟩) ∧ ap b ∧ (if listed.getD k true = true then Blk w b t us W else Blk w b t z W)) →
      wpAny P .any l.toArray Q (f + (l.length - n)) listed (mkA (dstOf l) vc a0 (fun j => listed.getD j true) n) W := by
  intro f
  have hdm' : dstOf l m = om.dst := by simp [dstOf, hom]
  have hdk : dstOf l k = none := plainC_k hp
  have hds := plainC_ds hp
  induction f with
  | zero =>
    intro listed vc W inv hun hvc hL hcl hF hph
    have hsl : listed.size = l.length := by simpa using inv.size
    have e : listed = (List.replicate n true ++ List.replicate (l.length - n) false).toArray := by
      apply Array.ext
      · simp [hsl]; omega
      · intro i h1 h2
        rcases Nat.lt_or_ge i n with hi | hi
        · have := unl_zero hun i hi
          have hb' : listed[i] = true := by simpa [h1] using this
          rw [hb']
          simp [hi]
        · have := inv.tail i hi (by simpa [hsl] using h1)
          have hb' : listed[i] = false := by simpa [h1] using this
          rw [hb']
          simp [List.getElem_append, Nat.not_lt.2 hi]
    obtain ⟨b, hbv, hap, hB⟩ := hph (unl_zero hun m hmn)
    rw [if_pos (unl_zero hun k hkn)] at hB
    have ea : mkA (dstOf l) vc a0 (fun j => listed.getD j true) n = (mkA (dstOf l) vs a0 (fun j => non m k j) n).put om.dst (.pointer (some ⟨b, 0, none⟩)) := by
      rw [← hdm', ← hbv, show mkA (dstOf l) vs a0 (fun j => non m k j) n = mkA (dstOf l) vc a0 (fun j => non m k j) n from mkA_congr n (fun _ _ => rfl) (fun j _ hj => (hvc j (by intro e; subst e; simp [non] at hj)).symm)]
      rw [mkA_put (by simp [non]) n hmn hds]
      have h3 := mkA_put (ds := dstOf l) (vs := vc) (a0 := a0) (L := fun j => non m k j || j == m) (i := k) (by simp [non, Ne.symm hmk]) n hkn hds
      rw [hdk] at h3
      rw [show mkA (dstOf l) vc a0 (fun j => non m k j || j == m) n = (mkA (dstOf l) vc a0 (fun j => non m k j || j == m) n).put none (vc k) from rfl, h3]
      refine mkA_congr n (fun j hj => ?_) (fun _ _ _ => rfl)
      rw [unl_zero hun j hj]
      by_cases hjm : j = m <;> by_cases hjk : j = k <;> simp [non, hjm, hjk]
    rw [Nat.zero_add, ea]
    have hdl : (l.drop n).length = l.length - n := by simp
    have := wpAny_of_seq (P := P) (md := .any) (Q' := Q) (ops := l.toArray) (l.drop n) n listed _ W (fun j => by simp [List.getElem?_drop]) (by rw [hdl, e]; exact hseq) (hQ W b hB hF hap)
    rwa [hdl] at this
  | succ f ih =>
    intro listed vc W inv hun hvc hL hcl hF hph
    have hsl : listed.size = l.length := by simpa using inv.size
    have hne := ready_someC (n := n) hb (by omega) hsl (by omega)
    obtain ⟨i0, h0, hu0⟩ := unl_pos (show 0 < unl listed n by omega)
    rw [show f + 1 + (l.length - n) = (f + (l.length - n)) + 1 by omega]
    refine ⟨fun hnil => absurd hnil hne, fun i hi => ?_⟩
    have hin : i < n := by
      rcases Nat.lt_or_ge i n with h' | h'
      · exact h'
      · exact absurd hi (tail_waits hs hc (by simpa using hn) inv _ i0 rfl h0 hu0 i h')
    obtain ⟨hiu, o, ho, hall⟩ := mem_ready.1 hi
    have ho' : l[i]? = some o := by simpa using ho
    have hot : (l.take n)[i]? = some o := by rw [List.getElem?_take, if_pos hin]; exact ho'
    have hdi : dstOf l i = o.dst := by simp [dstOf, ho']
    have hgd := plainC_guard hp hin ho'
    have hun' : unl (listed.setIfInBounds i true) n = f := by have := unl_set hiu hin; omega
    have hci : i ≠ c := fun e => by subst e; rw [hiu] at hcl; cases hcl
    have hcl' : (listed.setIfInBounds i true).getD c true = true := by rw [getD_set_ne true hci]; exact hcl
    have hset : ∀ j, j < n → ((listed.getD j true || j == i) = (listed.setIfInBounds i true).getD j true) := fun j hj => by
      by_cases e : i = j
      · subst e
        have h1 : i < listed.size := by omega
        simp [h1]
      · rw [getD_set_ne true e]
        have : (j == i) = false := by simpa using fun h => e h.symm
        simp [this]
    have hself : (listed.setIfInBounds i true).getD i true = true := by rw [← hset i hin]; simp
    have hlist : ∀ e ∈ o.after, Region.binds .any e = true → e.on < n → listed.getD e.on true = true := fun e he heb hlt => by
      have h2 := hall e he heb
      have h3 : e.on < listed.size := by omega
      simp [h3] at h2 ⊢
      exact h2
    unfold wpOp
    rw [ho]
    simp only
    rw [if_pos (by simp [Region.wanted, hgd])]
    refine .inl ?_
    by_cases him : i = m
    · subst him
      have : o = om := Option.some.inj (ho'.symm.trans hom)
      subst this
      refine hal W _ _ ?_
      have e1 : mkA (dstOf l) vc a0 (fun j => listed.getD j true) n = mkA (dstOf l) (fun j => if j = i then .pointer (some ⟨W.heap.size, 0, none⟩) else vc j) a0 (fun j => listed.getD j true) n :=
        mkA_congr n (fun _ _ => rfl) (fun j _ hj => by
          have : j ≠ i := fun e => by subst e; rw [hiu] at hj; cases hj
          exact (if_neg this).symm)
      have e2 := mkA_put (ds := dstOf l) (vs := fun j => if j = i then .pointer (some ⟨W.heap.size, 0, none⟩) else vc j) (a0 := a0) (L := fun j => listed.getD j true) hiu n hin hds
      simp only [if_true] at e2
      -- the store waits for the block
      have hku : listed.getD k true = false := by
        cases hc2 : listed.getD k true with
        | false => rfl
        | true =>
          obtain ⟨e, he, hej, heb⟩ := hwait
          have hks : k < listed.size := by omega
          have h5 := inv.closed k ok (by simpa using hok) (by simp [hks] at hc2 ⊢; exact hc2) e he heb
          rw [hej] at h5
          have hms : i < listed.size := by omega
          simp [hms] at h5 hiu
          rw [hiu] at h5
          cases h5
      rw [e1, ← hdi, e2, mkA_congr n hset (fun _ _ _ => rfl)]
      exact ih _ _ _ (inv.set hi hin) hun' (fun j hj => (if_neg hj).trans (hvc j hj)) (hL.alloc _) hcl' (f1 _ _ hF ((Below.refl _ _).alloc (Nat.le_refl _) _)) (fun _ => ⟨W.heap.size, if_pos rfl, f4 W _ hF (Nat.le_refl _), by
        rw [getD_set_ne true hmk, hku]
        exact Blk.made w W t z hL _ rfl⟩)
    · have hmset : (listed.setIfInBounds i true).getD m true = listed.getD m true := getD_set_ne true him
      by_cases hik : i = k
      · subst hik
        have : o = ok := Option.some.inj (ho'.symm.trans hok)
        subst this
        obtain ⟨e, he, hej, heb⟩ := hwait
        have hml := hlist e he heb (by omega)
        rw [hej] at hml
        obtain ⟨b, hbv, hap, hB⟩ := hph hml
        rw [hiu] at hB
        simp only [Bool.false_eq_true, if_false] at hB
        have ex : (mkA (dstOf l) vc a0 (fun j => listed.getD j true) n).eval xp = .pointer (some ⟨b, 0, none⟩) := by
          rw [hxp, mkA_on (hdm'.trans hdm) hml n hmn hds, if_pos hsz, hbv]
        have ey : (mkA (dstOf l) vc a0 (fun j => listed.getD j true) n).eval yv = .agg us := by
          rw [← hyv]
          refine mkA_agree hds fun s hxs j hj hdj => ?_
          have hr := (plainC_at hp hin hj ho' hdj).2 (by rw [hst, ← hxs]; simp [Op.operands])
          obtain ⟨_, e', he', hej', heb'⟩ := hr
          have h5 := hlist e' he' heb' (by omega)
          rw [hej'] at h5
          have hjm : j ≠ m := fun e => by
            subst e
            rw [hdm', hdm] at hdj
            exact hyd (by rw [hxs]; exact congrArg Operand.tmp (Option.some.inj hdj).symm)
          have hjk : j ≠ i := fun e => by subst e; rw [hdk] at hdj; cases hdj
          exact ⟨h5, by simp [non, hjm, hjk], hvc j hjm⟩
        have hod : o.dst = none := hdi.symm.trans hdk
        refine wp_store_mid ty xp yv hst b 0 us ex ey (hB.there 0 us.size (by omega)) (by rw [hT.size, hu]) h1 ?_
        have hS := Sto.cells b us.toList 0 W
        rw [hod]
        have e1 : (mkA (dstOf l) vc a0 (fun j => listed.getD j true) n).put none undef = mkA (dstOf l) vc a0 (fun j => (listed.setIfInBounds i true).getD j true) n := by
          have h3 := mkA_put (ds := dstOf l) (vs := vc) (a0 := a0) (L := fun j => listed.getD j true) hiu n hin hds
          rw [hdk] at h3
          exact h3.trans (mkA_congr n hset (fun _ _ _ => rfl))
        rw [e1]
        exact ih _ _ _ (inv.set hi hin) hun' hvc (hS.later hL hB.1) hcl' (f2 _ _ b hF hS hap) (fun _ => ⟨b, hbv, hap, by rw [hself]; exact hB.stored us (by omega)⟩)
      · have hnon : non m k i = true := by simp [non, him, hik]
        have hkset : (listed.setIfInBounds i true).getD k true = listed.getD k true := getD_set_ne true hik
        have hq := hv i o hot hnon hci ⟨W, hL⟩
        have hex : execOp (mkA (dstOf l) vc a0 (fun j => listed.getD j true) n).eval o = execOp (mkA (dstOf l) vs a0 (fun j => non m k j) i).eval o := by
          refine execOp_congr o (fun cs b => Region.noSelect_spec hsel i o cs b ho) fun x hx => ?_
          rw [mkA_upto (L := fun j => non m k j) n (by omega)]
          refine mkA_agree hds fun s hxs j hj hdj => ?_
          subst hxs
          obtain ⟨hjm, e, he, hej, heb⟩ := (plainC_at hp hin hj ho' hdj).2 hx
          have hjm : j ≠ m := hjm.resolve_right hik
          have hlt := backC_spec hb ho' e he heb
          have h5 := hlist e he heb (by omega)
          rw [hej] at h5 hlt
          have hjk : j ≠ k := fun e => by subst e; rw [hdk] at hdj; cases hdj
          exact ⟨h5, by simp [non, hjm, hjk, hlt], hvc j hjm⟩
        have hput : ∀ u, u = vs i → (mkA (dstOf l) vc a0 (fun j => listed.getD j true) n).put o.dst u = mkA (dstOf l) vc a0 (fun j => (listed.setIfInBounds i true).getD j true) n := fun u hu => by
          rw [hu, ← hvc i him, ← hdi, mkA_put hiu n hin hds]
          exact mkA_congr n hset (fun _ _ _ => rfl)
        unfold Oper.wp
        rw [hex]
        generalize (execOp (mkA (dstOf l) vs a0 (fun j => non m k j) i).eval o).run P W = r at hq ⊢
        cases r with
        | ok nx W' =>
          cases nx <;> simp only [Oper.quietUpon] at hq <;> simp only [Oper.upon]
          case value u =>
            obtain ⟨e1, e2⟩ := hq
            rw [e1, hput u e2]
            exact ih _ _ _ (inv.set hi hin) hun' hvc hL hcl' hF (fun h => by rw [hkset]; exact hph (hmset ▸ h))
          case skip =>
            obtain ⟨e1, e2⟩ := hq
            rw [e1, hput undef e2.symm]
            exact ih _ _ _ (inv.set hi hin) hun' hvc hL hcl' hF (fun h => by rw [hkset]; exact hph (hmset ▸ h))
          case enter g args =>
            obtain ⟨e1, hcl⟩ := hq
            rw [e1]
            refine hcl.mono fun e W'' ⟨he, hB⟩ => ?_
            subst he
            simp only
            rw [hput _ rfl]
            refine ih _ _ _ (inv.set hi hin) hun' hvc (hL.call hB) hcl' (f1 _ _ hF hB) (fun h => ?_)
            obtain ⟨b, h1, h3, h2⟩ := hph (hmset ▸ h)
            refine ⟨b, h1, h3, ?_⟩
            rw [hkset]
            split
            · rename_i hh; rw [if_pos hh] at h2; exact h2.call hB
            · rename_i hh; rw [if_neg hh] at h2; exact h2.call hB
        | halt x W' => simp only [Oper.quietUpon] at hq
/-- What is asked of the one call that makes memory. -/
def callUpon (P : Program) (W : World) (V : Value → Prop) (F : Value → World → Prop) (ap : Value → Nat → Prop) : Result Next → Prop
  | .ok (.enter f args) w' => w' = W ∧ Calls P f args W (fun e W' => ∃ u, e = .returned u ∧ V u ∧ F u W' ∧ Below W.heap.size W W' ∧ ∀ b, b < W.heap.size → ap u b)
  | _ => False
/-- The walk of the text's order up to that call (number c), and on behind it whatever it hands back. -/
def wpQC (P : Program) (w : World) (m k c : Nat) (V : Value → Prop) (F : Value → World → Prop) (ap : Value → Nat → Prop) (Q : Value → Act → Prop) : Nat → List Oper → Act → Prop
  | _, [], _ => False
  | i, o :: rest, a => if i = c then (∀ s : Ext w, callUpon P s.world V F ap ((execOp a.eval o).run P s.world)) ∧ ∀ u, V u → wpQV P w m k (Q u) (i + 1) rest (a.put o.dst u) else
    if i = m ∨ i = k then wpQC P w m k c V F ap Q (i + 1) rest a else
    ∃ v, (∀ s : Ext w, Oper.quietUpon P (fun W => Below s.world.heap.size s.world W) s.world v ((execOp a.eval o).run P s.world)) ∧ wpQC P w m k c V F ap Q (i + 1) rest (a.put o.dst v)
/-- Closed: what comes behind the call waits for it. -/
def depC (l : List Oper) (n m c : Nat) : Bool := (List.range n).all fun j => decide (j ≤ c) || j == m || (match l[j]? with
  | none => true
  | some o => o.after.any fun e => Region.binds .any e && decide (c ≤ e.on) && e.on != m)
theorem depC_spec (h : depC l n m c = true) {j : Nat} (hj : j < n) (hc : c < j) (hm : j ≠ m) {o : Oper} (ho : l[j]? = some o) : ∃ e ∈ o.after, Region.binds .any e = true ∧ c ≤ e.on ∧ e.on ≠ m := by
  have h1 := List.all_eq_true.1 h j (List.mem_range.2 hj)
  rw [ho] at h1
  simp only [Bool.or_eq_true, decide_eq_true_eq, beq_iff_eq] at h1
  rcases h1 with (h1 | h1) | h1
  · omega
  · exact absurd h1 hm
  · obtain ⟨e, he, h2⟩ := Array.any_eq_true'.1 h1
    simp only [Bool.and_eq_true, decide_eq_true_eq, bne_iff_ne, ne_eq] at h2
    exact ⟨e, he, h2.1.1, h2.1.2, h2.2⟩
variable {V : Value → Prop} {F : Value → World → Prop} {ap : Value → Nat → Prop} {QV : Value → Act → Prop}
theorem wpQC_chain (hcm : non m k c = true) (hcn : c < n) {oc : Oper} (hoc : l[c]? = some oc) : ∀ (rest : List Oper) (i : Nat) (a : Act) (vs0 : Nat → Value), (∀ j, rest[j]? = (l.take n)[i + j]?) → a = mkA (dstOf l) vs0 a0 (fun j => non m k j) i → i + rest.length = n → i ≤ c → wpQC P w m k c V F ap QV i rest a →
    ∃ vs : Nat → Value, (∀ j, j < i → vs j = vs0 j) ∧ (∀ j o, i ≤ j → j < c → (l.take n)[j]? = some o → non m k j = true →
      ∀ s : Ext w, Oper.quietUpon P (fun W => Below s.world.heap.size s.world W) s.world (vs j) ((execOp (mkA (dstOf l) vs a0 (fun j => non m k j) j).eval o).run P s.world)) ∧
      (∀ s : Ext w, callUpon P s.world V F ap ((execOp (mkA (dstOf l) vs a0 (fun j => non m k j) c).eval oc).run P s.world)) ∧
      ∀ u, V u → ∃ vsu : Nat → Value, (∀ j, j < c → vsu j = vs j) ∧ vsu c = u ∧ (∀ j o, c < j → (l.take n)[j]? = some o → non m k j = true →
        ∀ s : Ext w, Oper.quietUpon P (fun W => Below s.world.heap.size s.world W) s.world (vsu j) ((execOp (mkA (dstOf l) vsu a0 (fun j => non m k j) j).eval o).run P s.world)) ∧ QV u (mkA (dstOf l) vsu a0 (fun j => non m k j) n)
  | [], i, a, vs0, hr, ha, hle, hic, h => by simp at hle; omega
  | o :: rest, i, a, vs0, hr, ha, hle, hic, h => by
    have h0 : (l.take n)[i]? = some o := by simpa using (hr 0).symm
    have hin : i < n := by simp at hle; omega
    have hl0 : l[i]? = some o := by
      rw [List.getElem?_take, if_pos hin] at h0; exact h0
    have hr' : ∀ j, rest[j]? = (l.take n)[i + 1 + j]? := fun j => by
      have := hr (j + 1)
      rw [List.getElem?_cons_succ] at this
      rw [this, show i + (j + 1) = i + 1 + j by omega]
    have hd : dstOf l i = o.dst := by simp [dstOf, hl0]
    simp only [wpQC] at h
    by_cases hi : i = c
    · subst hi
      rw [if_pos rfl] at h
      obtain ⟨h1, h2⟩ := h
      have : o = oc := Option.some.inj (hl0.symm.trans hoc)
      subst this
      refine ⟨vs0, fun _ _ => rfl, fun j o' a1 a2 => by omega, fun s => by rw [← ha]; exact h1 s, fun u hu => ?_⟩
      obtain ⟨vs, e1, e2, e3⟩ := wpQV_chain (l := l) (n := n) (a0 := a0) rest (i + 1) (a.put o.dst u) (fun j => if j = i then u else vs0 j) hr' (by
        simp only [mkA, hcm, if_true]
        rw [ha, hd]
        congr 1
        exact mkA_congr i (fun _ _ => rfl) (fun j hj _ => (if_neg (by omega)).symm)) (by simp at hle ⊢; omega) (h2 u hu)
      refine ⟨vs, fun j hj => (e1 j (by omega)).trans (if_neg (by omega)), (e1 i (by omega)).trans (if_pos rfl), fun j o' hj => e2 j o' (by omega), ?_⟩
      have hnn : i + 1 + rest.length = n := by simp at hle; omega
      rw [hnn] at e3
      exact e3
    · rw [if_neg hi] at h
      by_cases hm : i = m ∨ i = k
      · rw [if_pos hm] at h
        have hf : non m k i = false := by
          unfold non
          rcases hm with hm | hm <;> simp [hm]
        obtain ⟨vs, e1, e2, e3⟩ := wpQC_chain hcm hcn hoc rest (i + 1) a vs0 hr' (by rw [ha]; simp [mkA, hf]) (by simp at hle ⊢; omega) (by omega) h
        refine ⟨vs, fun j hj => e1 j (by omega), fun j o' hij hjc ho' hjm => ?_, e3⟩
        have hji : j ≠ i := fun e => by subst e; rw [hf] at hjm; cases hjm
        exact e2 j o' (by omega) hjc ho' hjm
      · rw [if_neg hm] at h
        obtain ⟨v, hv, hk⟩ := h
        have hb : non m k i = true := by simpa [non, not_or] using hm
        obtain ⟨vs, e1, e2, e3⟩ := wpQC_chain hcm hcn hoc rest (i + 1) (a.put o.dst v) (fun j => if j = i then v else vs0 j) hr' (by
          simp only [mkA, hb, if_true]
          rw [ha, hd]
          congr 1
          exact mkA_congr i (fun _ _ => rfl) (fun j hj _ => (if_neg (by omega)).symm)) (by simp at hle ⊢; omega) (by omega) hk
        have hlow : ∀ j, j < i → vs j = vs0 j := fun j hj => by rw [e1 j (by omega)]; exact if_neg (by omega)
        refine ⟨vs, hlow, fun j o' hij hjc ho' hjm => ?_, e3⟩
        by_cases hji : j = i
        · subst hji
          have : o' = o := Option.some.inj (ho'.symm.trans h0)
          subst this
          have e4 : vs j = v := by rw [e1 j (by omega)]; exact if_pos rfl
          have e5 : mkA (dstOf l) vs a0 (fun j => non m k j) j = a := by rw [ha]; exact mkA_congr j (fun _ _ => rfl) (fun k hk _ => hlow k hk)
          rw [e4, e5]
          exact hv
        · exact e2 j o' (by omega) hjc ho' hjm
theorem wpAny_of_QA (hb : backC l = true) (hp : plainC l n m k = true) (hdep : depC l n m c = true) (hs : Region.sinkB .any l.toArray n = true) (hc : Region.chainB .any l.toArray n = true) (hsel : Region.noSelect l.toArray = true) (hn : n < l.length) (hmn : m < n) (hkn : k < n) (hmk : m ≠ k) (hcn : c < n) (hcm : c ≠ m) (hck : c < k)
    (hseq : Region.seqB .any l.toArray (l.length - n) n ((List.replicate n true ++ List.replicate (l.length - n) false).toArray) = true)
    {om : Oper} (hom : l[m]? = some om) (hal : ∀ (W : World) (a : Act) (K : Act → World → Prop), K (a.put om.dst (.pointer (some ⟨W.heap.size, 0, none⟩))) (W.alloc (.cells z t)) → om.wp P a W K Q)
    {ok : Oper} (hok : l[k]? = some ok) (hst : ok.op = .store ty xp yv) (hT : RowT P ty nn) (hz : z.size = nn)
    {dm : Tmp} (hdm : om.dst = some dm) (hxp : xp = .tmp dm) (hwait : ∃ e ∈ ok.after, e.on = m ∧ Region.binds .any e = true) (hsz : dm < a0.tmps.size) (hyd : yv ≠ .tmp dm)
    {oc : Oper} (hoc : l[c]? = some oc) (vs : Nat → Value)
    (f1 : ∀ u W W', F u W → Below W.heap.size W W' → F u W') (f2 : ∀ u W W' b, F u W → Sto W W' b → ap u b → F u W') (f4 : ∀ u W b, F u W → W.heap.size ≤ b → ap u b)
    (hv : ∀ j o, j < c → (l.take n)[j]? = some o → non m k j = true → ∀ s : Ext w, Oper.quietUpon P (fun W => Below s.world.heap.size s.world W) s.world (vs j) ((execOp (mkA (dstOf l) vs a0 (fun j => non m k j) j).eval o).run P s.world))
    (hcl : ∀ s : Ext w, callUpon P s.world V F ap ((execOp (mkA (dstOf l) vs a0 (fun j => non m k j) c).eval oc).run P s.world))
    (hu : ∀ u, V u → ∃ vsu : Nat → Value, (∀ j, j < c → vsu j = vs j) ∧ vsu c = u ∧ (∀ j o, c < j → (l.take n)[j]? = some o → non m k j = true →
        ∀ s : Ext w, Oper.quietUpon P (fun W => Below s.world.heap.size s.world W) s.world (vsu j) ((execOp (mkA (dstOf l) vsu a0 (fun j => non m k j) j).eval o).run P s.world)) ∧
      ∃ us : Array Value, (mkA (dstOf l) vsu a0 (fun j => non m k j) n).eval yv = .agg us ∧ us.size = nn ∧ us.all (·.oneCell') = true ∧
        ∀ (W : World) (b : Nat), Blk w b t us W → F u W → ap u b → wpList P l.toArray Q (l.drop n) ((mkA (dstOf l) vsu a0 (fun j => non m k j) n).put om.dst (.pointer (some ⟨b, 0, none⟩))) W) :
    ∀ (f : Nat) (listed : Array Bool) (vc : Nat → Value) (W : World), HeadInv .any l.toArray n listed → unl listed n = f → (∀ j, j < c → j ≠ m → vc j = vs j) → Later w W → listed.getD c true = false → (∀ j, j < n → c < j → j ≠ m → listed.getD j true = false) →
      (listed.getD m true = true → ∃ b, vc m = .pointer (some ⟨b, 0, none⟩) ∧ Blk w b t z W) →
      wpAny P .any l.toArray Q (f + (l.length - n)) listed (mkA (dstOf l) vc a0 (fun j => listed.getD j true) n) W := by
  intro f
  have hdm' : dstOf l m = om.dst := by simp [dstOf, hom]
  have hdk : dstOf l k = none := plainC_k hp
  have hds := plainC_ds hp
  induction f with
  | zero =>
    intro listed vc W inv hun hvc hL hcu hlow hph
    have := unl_zero hun c hcn
    rw [hcu] at this
    cases this
  | succ f ih =>
    intro listed vc W inv hun hvc hL hcu hlow hph
    have hsl : listed.size = l.length := by simpa using inv.size
    have hne := ready_someC (n := n) hb (by omega) hsl (by omega)
    obtain ⟨i0, h0, hu0⟩ := unl_pos (show 0 < unl listed n by omega)
    rw [show f + 1 + (l.length - n) = (f + (l.length - n)) + 1 by omega]
    refine ⟨fun hnil => absurd hnil hne, fun i hi => ?_⟩
    have hin : i < n := by
      rcases Nat.lt_or_ge i n with h' | h'
      · exact h'
      · exact absurd hi (tail_waits hs hc (by simpa using hn) inv _ i0 rfl h0 hu0 i h')
    obtain ⟨hiu, o, ho, hall⟩ := mem_ready.1 hi
    have ho' : l[i]? = some o := by simpa using ho
    have hot : (l.take n)[i]? = some o := by rw [List.getElem?_take, if_pos hin]; exact ho'
    have hdi : dstOf l i = o.dst := by simp [dstOf, ho']
    have hgd := plainC_guard hp hin ho'
    have hun' : unl (listed.setIfInBounds i true) n = f := by have := unl_set hiu hin; omega
    have hset : ∀ j, j < n → ((listed.getD j true || j == i) = (listed.setIfInBounds i true).getD j true) := fun j hj => by
      by_cases e : i = j
      · subst e
        have h1 : i < listed.size := by omega
        simp [h1]
      · rw [getD_set_ne true e]
        have : (j == i) = false := by simpa using fun h => e h.symm
        simp [this]
    have hself : (listed.setIfInBounds i true).getD i true = true := by rw [← hset i hin]; simp
    have hlist : ∀ e ∈ o.after, Region.binds .any e = true → e.on < n → listed.getD e.on true = true := fun e he heb hlt => by
      have h2 := hall e he heb
      have h3 : e.on < listed.size := by omega
      simp [h3] at h2 ⊢
      exact h2
    have hex : i ≤ c → i ≠ m → execOp (mkA (dstOf l) vc a0 (fun j => listed.getD j true) n).eval o = execOp (mkA (dstOf l) vs a0 (fun j => non m k j) i).eval o := fun hic him => by
      have hik : i ≠ k := by omega
      refine execOp_congr o (fun cs b => Region.noSelect_spec hsel i o cs b ho) fun x hx => ?_
      rw [mkA_upto (L := fun j => non m k j) n (by omega)]
      refine mkA_agree hds fun s hxs j hj hdj => ?_
      subst hxs
      obtain ⟨hjm, e, he, hej, heb⟩ := (plainC_at hp hin hj ho' hdj).2 hx
      have hjm : j ≠ m := hjm.resolve_right hik
      have hlt := backC_spec hb ho' e he heb
      have h5 := hlist e he heb (by omega)
      rw [hej] at h5 hlt
      exact ⟨h5, by simp [non, hjm, show j ≠ k by omega, hlt], hvc j (by omega) hjm⟩
    unfold wpOp
    rw [ho]
    simp only
    rw [if_pos (by simp [Region.wanted, hgd])]
    refine .inl ?_
    by_cases him : i = m
    · subst him
      have : o = om := Option.some.inj (ho'.symm.trans hom)
      subst this
      refine hal W _ _ ?_
      have e1 : mkA (dstOf l) vc a0 (fun j => listed.getD j true) n = mkA (dstOf l) (fun j => if j = i then .pointer (some ⟨W.heap.size, 0, none⟩) else vc j) a0 (fun j => listed.getD j true) n :=
        mkA_congr n (fun _ _ => rfl) (fun j _ hj => by
          have : j ≠ i := fun e => by subst e; rw [hiu] at hj; cases hj
          exact (if_neg this).symm)
      have e2 := mkA_put (ds := dstOf l) (vs := fun j => if j = i then .pointer (some ⟨W.heap.size, 0, none⟩) else vc j) (a0 := a0) (L := fun j => listed.getD j true) hiu n hin hds
      simp only [if_true] at e2
      rw [e1, ← hdi, e2, mkA_congr n hset (fun _ _ _ => rfl)]
      exact ih _ _ _ (inv.set hi hin) hun' (fun j hj hjm => (if_neg hjm).trans (hvc j hj hjm)) (hL.alloc _) (by rw [getD_set_ne true (Ne.symm hcm)]; exact hcu) (fun j h1 h2 h3 => by rw [getD_set_ne true (Ne.symm h3)]; exact hlow j h1 h2 h3) (fun _ => ⟨W.heap.size, if_pos rfl, Blk.made w W t z hL _ rfl⟩)
    · have hic : i ≤ c := by
        rcases Nat.lt_or_ge c i with h' | h'
        · obtain ⟨e, he, heb, hce, hem⟩ := depC_spec hdep hin h' him ho'
          have hlt := backC_spec hb ho' e he heb
          have h5 := hlist e he heb (by omega)
          by_cases hec : e.on = c
          · rw [hec, hcu] at h5; cases h5
          · rw [hlow e.on (by omega) (by omega) hem] at h5; cases h5
        · exact h'
      have hik : i ≠ k := by omega
      have hmset : (listed.setIfInBounds i true).getD m true = listed.getD m true := getD_set_ne true him
      have hnon : non m k i = true := by simp [non, him, hik]
      by_cases hci : i = c
      · subst hci
        have : o = oc := Option.some.inj (ho'.symm.trans hoc)
        subst this
        have hq := hcl ⟨W, hL⟩
        unfold Oper.wp
        rw [hex (Nat.le_refl _) him]
        generalize (execOp (mkA (dstOf l) vs a0 (fun j => non m k j) i).eval o).run P W = r at hq ⊢
        cases r with
        | halt x W' => simp only [callUpon] at hq
        | ok nx W' =>
          cases nx <;> simp only [callUpon] at hq
          case enter g args =>
            obtain ⟨e1, hcall⟩ := hq
            simp only [Oper.upon]
            rw [e1]
            refine hcall.mono fun e W'' ⟨u, he, hV, hF, hB, hap⟩ => ?_
            subst he
            simp only
            obtain ⟨vsu, v1, v2, v3, us, u1, u2, u3, u4⟩ := hu u hV
            have ea : (mkA (dstOf l) vc a0 (fun j => listed.getD j true) n).put o.dst u = mkA (dstOf l) (fun j => if j = m then vc m else vsu j) a0 (fun j => (listed.setIfInBounds i true).getD j true) n := by
              have e3 : mkA (dstOf l) vc a0 (fun j => listed.getD j true) n = mkA (dstOf l) (fun j => if j = m then vc m else vsu j) a0 (fun j => listed.getD j true) n :=
                mkA_congr n (fun _ _ => rfl) (fun j hj hjl => by
                  by_cases hjm : j = m
                  · rw [if_pos hjm, hjm]
                  · rw [if_neg hjm]
                    have hjc : j < i := by
                      rcases Nat.lt_or_ge j i with h' | h'
                      · exact h'
                      · by_cases hji : j = i
                        · rw [hji, hcu] at hjl; cases hjl
                        · rw [hlow j hj (by omega) hjm] at hjl; cases hjl
                    rw [hvc j hjc hjm, v1 j hjc])
              have e4 := mkA_put (ds := dstOf l) (vs := fun j => if j = m then vc m else vsu j) (a0 := a0) (L := fun j => listed.getD j true) hiu n hin hds
              rw [show (if i = m then vc m else vsu i) = u by rw [if_neg him]; exact v2] at e4
              rw [e3, ← hdi, e4, mkA_congr n hset (fun _ _ _ => rfl)]
            rw [ea]
            refine wpAny_of_QB (P := P) (Q := Q) (w := w) (a0 := a0) (c := i) hb hp hs hc hsel hn hmn hkn hmk hseq hom hal hok hst hT hz u2 u3 hdm hxp hwait hsz vsu (fun j oj hoj hjn hjc => ?_) u1 hyd (F u) (ap u) (f1 u) (f2 u) (f4 u) u4 f _ _ W'' (inv.set hi hin) hun' (fun j hj => if_neg hj) (hL.call hB) hself hF (fun hml => ?_)
            · rcases Nat.lt_or_ge j i with h' | h'
              · have := hv j oj h' hoj hjn
                rw [v1 j h', show mkA (dstOf l) vsu a0 (fun j => non m k j) j = mkA (dstOf l) vs a0 (fun j => non m k j) j from mkA_congr j (fun _ _ => rfl) (fun q hq _ => v1 q (by omega))]
                exact this
              · exact v3 j oj (by omega) hoj hjn
            · rw [hmset] at hml
              obtain ⟨b, hbv, hBb⟩ := hph hml
              have hku : (listed.setIfInBounds i true).getD k true = false := by rw [getD_set_ne true hik]; exact hlow k hkn hck (Ne.symm hmk)
              refine ⟨b, by simp [hbv], hap b hBb.lt, ?_⟩
              rw [if_neg (by rw [hku]; exact Bool.false_ne_true)]
              exact hBb.call hB
      · have hlt : i < c := by omega
        have hq := hv i o hlt hot hnon ⟨W, hL⟩
        have hput : ∀ u, u = vs i → (mkA (dstOf l) vc a0 (fun j => listed.getD j true) n).put o.dst u = mkA (dstOf l) vc a0 (fun j => (listed.setIfInBounds i true).getD j true) n := fun u hu => by
          rw [hu, ← hvc i hlt him, ← hdi, mkA_put hiu n hin hds]
          exact mkA_congr n hset (fun _ _ _ => rfl)
        have hcu' : (listed.setIfInBounds i true).getD c true = false := by rw [getD_set_ne true hci]; exact hcu
        have hlow' : ∀ j, j < n → c < j → j ≠ m → (listed.setIfInBounds i true).getD j true = false := fun j h1 h2 h3 => by rw [getD_set_ne true (by omega)]; exact hlow j h1 h2 h3
        unfold Oper.wp
        rw [hex (by omega) him]
        generalize (execOp (mkA (dstOf l) vs a0 (fun j => non m k j) i).eval o).run P W = r at hq ⊢
        cases r with
        | ok nx W' =>
          cases nx <;> simp only [Oper.quietUpon] at hq <;> simp only [Oper.upon]
          case value u =>
            obtain ⟨e1, e2⟩ := hq
            rw [e1, hput u e2]
            exact ih _ _ _ (inv.set hi hin) hun' hvc hL hcu' hlow' (fun h => hph (hmset ▸ h))
          case skip =>
            obtain ⟨e1, e2⟩ := hq
            rw [e1, hput undef e2.symm]
            exact ih _ _ _ (inv.set hi hin) hun' hvc hL hcu' hlow' (fun h => hph (hmset ▸ h))
          case enter g args =>
            obtain ⟨e1, hcl⟩ := hq
            rw [e1]
            refine hcl.mono fun e W'' ⟨he, hB⟩ => ?_
            subst he
            simp only
            rw [hput _ rfl]
            exact ih _ _ _ (inv.set hi hin) hun' hvc (hL.call hB) hcu' hlow' (fun h => let ⟨b, h1, h2⟩ := hph (hmset ▸ h); ⟨b, h1, h2.call hB⟩)
        | halt x W' => simp only [Oper.quietUpon] at hq
/-- The closed facts of such a region. -/
structure RegC (P : Program) (l : List Oper) (n m k c : Nat) : Prop where
  back : backC l = true
  plain : plainC l n m k = true
  dep : depC l n m c = true
  sink : Region.sinkB .any l.toArray n = true
  chain : Region.chainB .any l.toArray n = true
  sel : Region.noSelect l.toArray = true
  seq : Region.seqB .any l.toArray (l.length - n) n ((List.replicate n true ++ List.replicate (l.length - n) false).toArray) = true
  num : (decide (n < l.length) && decide (m < n) && decide (k < n) && decide (c < n) && m != k && c != m && decide (c < k)) = true
  mix : P.follows .mixedOrders = true
/-- One walk of the text's order serves every order: a struct that one call makes is stored into a new block. -/
theorem wp_call_tail {id : Nat} {a : Act} {w : World} (n m k c : Nat) (R : RegC P l n m k c) {om : Oper} (hom : l[m]? = some om) {ok : Oper} (hok : l[k]? = some ok) {oc : Oper} (hoc : l[c]? = some oc) (hst : ok.op = .store ty xp yv) (hT : RowT P ty nn) {dm : Tmp} (hdm : om.dst = some dm) (hxp : xp = .tmp dm) (hwait : (ok.after.any fun e => e.on == m && Region.binds .any e) = true) (hsz : dm < a.tmps.size) (hyd : yv ≠ .tmp dm) (hz : z.size = nn)
    (hal : ∀ (W : World) (a : Act) (K : Act → World → Prop), K (a.put om.dst (.pointer (some ⟨W.heap.size, 0, none⟩))) (W.alloc (.cells z t)) → om.wp P a W K Q)
    (V : Value → Prop) (F : Value → World → Prop) (ap : Value → Nat → Prop)
    (f1 : ∀ u W W', F u W → Below W.heap.size W W' → F u W') (f2 : ∀ u W W' b, F u W → Sto W W' b → ap u b → F u W') (f4 : ∀ u W b, F u W → W.heap.size ≤ b → ap u b)
    (h : wpQC P w m k c V F ap (fun u a' => ∃ us : Array Value, a'.eval yv = .agg us ∧ us.size = nn ∧ us.all (·.oneCell') = true ∧ ∀ (W : World) (b : Nat), Blk w b t us W → F u W → ap u b → wpList P l.toArray Q (l.drop n) (a'.put om.dst (.pointer (some ⟨b, 0, none⟩))) W) 0 (l.take n) a) : (Code.region id l.toArray true).wp P Q a w := by
  have hnum := R.num
  simp only [Bool.and_eq_true, decide_eq_true_eq, bne_iff_ne, ne_eq] at hnum
  obtain ⟨⟨⟨⟨⟨⟨hn, hmn⟩, hkn⟩, hcn⟩, hmk⟩, hcm⟩, hck⟩ := hnum
  refine wp_region_any R.mix ?_
  have htl : (l.take n).length = n := by simp; omega
  have inv0 : HeadInv .any l.toArray n (Array.replicate l.toArray.size false) :=
    ⟨by simp, fun j oj _ hl => (by rw [getD_replicate_false] at hl; cases hl), fun t _ ht => getD_in (by simpa using ht) (getD_replicate_false _ _)⟩
  have hnc : non m k c = true := by simp [non, hcm, show c ≠ k by omega]
  obtain ⟨vs, _, e2, e3, e4⟩ := wpQC_chain (l := l) (n := n) (a0 := a) hnc hcn hoc (l.take n) 0 a (fun _ => undef) (by simp) rfl (by omega) (by omega) h
  have hun : ∀ j, j ≤ l.length → unl (Array.replicate l.toArray.size false) j = j := fun j hj => by
    induction j with
    | zero => rfl
    | succ j ih =>
      have h1 : j < l.length := by omega
      simp only [unl]
      rw [ih (by omega)]
      simp [h1]
  have hfa : ∀ j, j < l.length → (Array.replicate l.toArray.size false).getD j true = false := fun j hj => by simp [hj]
  have hL : Later w w.drew := (Later.refl w).drew
  obtain ⟨ew, hew, hew2⟩ := Array.any_eq_true'.1 hwait
  simp only [Bool.and_eq_true, beq_iff_eq] at hew2
  have := wpAny_of_QA (P := P) (Q := Q) (w := w) (a0 := a) (V := V) (F := F) (ap := ap) R.back R.plain R.dep R.sink R.chain R.sel hn hmn hkn hmk hcn hcm hck R.seq hom hal hok hst hT hz hdm hxp ⟨ew, hew, hew2.1, hew2.2⟩ hsz hyd hoc vs f1 f2 f4 (fun j o hj ho hjn => e2 j o (by omega) hj ho hjn) e3 (fun u hu => let ⟨vsu, v1, v2, v3, us, u1, u2, u3, u4⟩ := e4 u hu; ⟨vsu, v1, v2, v3, us, u1, u2, u3, u4⟩)
    n (Array.replicate l.toArray.size false) vs w.drew inv0 (hun n (by omega)) (fun _ _ _ => rfl) hL (hfa c (by omega)) (fun j h1 _ _ => hfa j (by omega)) (fun hh => by
      rw [hfa m (by omega)] at hh
      cases hh)
  rw [show n + (l.length - n) = l.length by omega] at this
  have key : ∀ j, j ≤ l.length → mkA (dstOf l) vs a (fun j => (Array.replicate l.toArray.size false).getD j true) j = a := fun j hj => by
    induction j with
    | zero => rfl
    | succ j ih =>
      have h1 : j < l.length := by omega
      simp only [mkA]
      rw [ih (by omega)]
      simp [h1]
  rw [key n (by omega)] at this
  have e : l.toArray.size = l.length := by simp
  rw [e]
  rw [e] at this
  exact this
end

end Go.Proofs.YtickhmlhciafgaaGreat

