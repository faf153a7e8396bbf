/- A struct's whole load, and its whole store, by the block that holds it. No condition. -/
import Derived.Test.YtegmdjfohlomnaaDoorBlk
import Derived.Deep.MidRow
import Derived.StillTailTactics
namespace Go.Proofs.YtegmdjfohlomnaaDoor
open Go.RowKit

theorem Blk.range {w0 W : World} {g : Nat} {t : TypeId} {cs : Array Value} (h : Blk w0 g t cs W) : W.rangeAt g 0 cs.toList := fun j v hv => by
  rw [h.cell (0 + j), Nat.zero_add]
  simpa using hv
theorem Blk.part {w0 W : World} {g : Nat} {t : TypeId} {cs : Array Value} (h : Blk w0 g t cs W) (o : Nat) (l : List Value) (hl : (cs.toList.drop o).take l.length = l) : W.rangeAt g o l := fun j v hv => by
  rw [h.cell (o + j)]
  rw [← hl, List.getElem?_take] at hv
  split at hv
  · simpa using hv
  · cases hv
theorem Blk.there {w0 W : World} {g : Nat} {t : TypeId} {cs : Array Value} (h : Blk w0 g t cs W) (o n : Nat) (hn : o + n ≤ cs.size) : W.there g o n := fun j hj =>
  ⟨by rw [h.cell (o + j), Array.getElem?_eq_getElem (by omega)]; rfl, h.free (o + j)⟩
/-- a world in which the cells of block g alone have turned -/
structure Sto (w W' : World) (g : Nat) : Prop where
  os : W'.os = w.os
  tape : W'.tape = w.tape
  output : W'.output = w.output
  size : W'.heap.size = w.heap.size
  block : ∀ k, k ≠ g → W'.heap[k]? = w.heap[k]?
theorem Sto.refl (w : World) (g : Nat) : Sto w w g := ⟨rfl, rfl, rfl, rfl, fun _ _ => rfl⟩
theorem Sto.set (w : World) (p : Addr) (u : Value) : Sto w (w.setCell p u) p.block :=
  ⟨rfl, rfl, rfl, by simp, fun k hk => Below.heap_setCell w p u k hk⟩
theorem Sto.trans {w W W' : World} {g : Nat} (h : Sto w W g) (k : Sto W W' g) : Sto w W' g :=
  ⟨k.os.trans h.os, k.tape.trans h.tape, k.output.trans h.output, k.size.trans h.size, fun i hi => (k.block i hi).trans (h.block i hi)⟩
theorem Sto.cells (g : Nat) : ∀ (vs : List Value) (o : Nat) (w : World), Sto w (w.setCells g o vs) g
  | [], _, w => Sto.refl w g
  | v :: r, o, w => (Sto.set w ⟨g, o, none⟩ v).trans (Sto.cells g r (o + 1) _)
theorem Sto.below {w0 w W' : World} {g B : Nat} (h : Sto w W' g) (hb : Below B w0 w) (hg : B ≤ g) : Below B w0 W' :=
  hb.trans ⟨h.os, h.tape, h.output, by rw [h.size]; exact Nat.le_refl _, fun k hk => h.block k (by omega)⟩
theorem Sto.later {w0 w W' : World} {g : Nat} (h : Sto w W' g) (hb : Later w0 w) (hg : w0.heap.size ≤ g) : Later w0 W' := h.below hb hg
theorem Sto.far {w0 w W' : World} {g g' : Nat} {t : TypeId} {cs : Array Value} (h : Sto w W' g) (hB : Blk w0 g' t cs w) (hne : g' ≠ g) (hg : w0.heap.size ≤ g) : Blk w0 g' t cs W' :=
  ⟨hB.1, (h.block g' hne).trans hB.2.1, h.later hB.2.2 hg⟩
theorem Sto.cell {w W' : World} {g : Nat} (h : Sto w W' g) {p : Addr} (hp : p.block ≠ g) : W'.cell? p = w.cell? p := by
  unfold World.cell?
  rw [h.block p.block hp]
theorem Sto.il {w W' : World} {g : Nat} {A : Option Addr} {n c : Nat} {l : List Int} (h : Sto w W' g) (hI : IL w A n c l) (hp : 0 < n → ∀ a, A = some a → a.block ≠ g) : IL W' A n c l := by
  obtain ⟨h1, h2, h3, h4⟩ := hI
  refine ⟨h1, h2, h3, fun hn => ?_⟩
  obtain ⟨b, off, e, hb, hc⟩ := h4 hn
  refine ⟨b, off, e, by rw [h.size]; exact hb, fun j v hj => ?_⟩
  have hne : b ≠ g := hp hn _ e
  rw [h.cell (p := ⟨b, off + j, none⟩) hne]
  exact hc j v hj
theorem setCells_block (g : Nat) (t : TypeId) : ∀ (vs : List Value) (pre post : List Value) (w : World), w.heap[g]? = some (.cells (pre ++ post).toArray t (0, 0)) → post.length = vs.length →
    (w.setCells g pre.length vs).heap[g]? = some (.cells (pre ++ vs).toArray t (0, 0))
  | [], pre, post, w, h, hl => by
    have : post = [] := List.eq_nil_of_length_eq_zero (by simpa using hl)
    subst this
    exact h
  | v :: r, pre, [], w, h, hl => by simp at hl
  | v :: r, pre, u :: post, w, h, hl => by
    have h' : (w.setCell ⟨g, pre.length, none⟩ v).heap[g]? = some (.cells ((pre ++ [v]) ++ post).toArray t (0, 0)) := by
      have : (w.setCell ⟨g, pre.length, none⟩ v).heap[g]? = some (.cells ((pre ++ u :: post).toArray.setIfInBounds pre.length v) t (0, 0)) := by
        simp [World.setCell, Array.getElem?_modify, h]
      rw [this]
      congr 2
      apply Array.ext'
      simp
    have q := setCells_block g t r (pre ++ [v]) post _ h' (by simpa using hl)
    rw [World.setCells]
    rw [List.append_assoc] at q
    simpa using q
theorem Blk.stored {w0 W : World} {g : Nat} {t : TypeId} {cs : Array Value} (h : Blk w0 g t cs W) (us : Array Value) (hu : us.size = cs.size) : Blk w0 g t us (W.setCells g 0 us.toList) := by
  refine ⟨h.1, ?_, (Sto.cells g us.toList 0 W).later h.2.2 h.1⟩
  have q := setCells_block g t us.toList [] cs.toList W (by simpa using h.2.1) (by simpa using hu.symm)
  simpa using q
/-- Part of a block: from cell o on. -/
theorem Blk.stored_at {w0 W : World} {g : Nat} {t : TypeId} {cs : Array Value} (h : Blk w0 g t cs W) (us : List Value) (o : Nat) (cs' : Array Value)
    (hin : ∀ j, j < us.length → cs'[o + j]? = us[j]?) (hout : ∀ j, j < o ∨ o + us.length ≤ j → cs'[j]? = cs[j]?) (hle : o + us.length ≤ cs.size) : Blk w0 g t cs' (W.setCells g o us) := by
  have key : ∀ (vs : List Value) (o : Nat) (C : Array Value) (w : World), w.heap[g]? = some (.cells C t (0, 0)) → ∃ D : Array Value, (w.setCells g o vs).heap[g]? = some (.cells D t (0, 0)) ∧ D.size = C.size ∧
      (∀ j, j < o ∨ o + vs.length ≤ j → D[j]? = C[j]?) ∧ (o + vs.length ≤ C.size → ∀ j, j < vs.length → D[o + j]? = vs[j]?) := by
    intro vs
    induction vs with
    | nil => exact fun o C w hw => ⟨C, hw, rfl, fun _ _ => rfl, fun _ j hj => absurd hj (by simp)⟩
    | cons v r ih =>
      intro o C w hw
      have hw' : (w.setCell ⟨g, o, none⟩ v).heap[g]? = some (.cells (C.setIfInBounds o v) t (0, 0)) := by simp [World.setCell, Array.getElem?_modify, hw]
      obtain ⟨D, h1, h2, h3, h4⟩ := ih (o + 1) _ _ hw'
      refine ⟨D, h1, by simpa using h2, fun j hj => ?_, fun hle j hj => ?_⟩
      · have : j < o + 1 ∨ o + 1 + r.length ≤ j ∨ j = o := by simp at hj; omega
        rw [h3 j (by simp at hj; omega), Array.getElem?_setIfInBounds]
        have : o ≠ j := by simp at hj; omega
        simp [this]
      · rcases Nat.eq_zero_or_pos j with rfl | hz
        · rw [h3 (o + 0) (.inl (by omega)), Array.getElem?_setIfInBounds]
          have : o < C.size := by simp at hle; omega
          simp [this]
        · obtain ⟨i, rfl⟩ : ∃ i, j = i + 1 := ⟨j - 1, by omega⟩
          have := h4 (by simp at hle ⊢; omega) i (by simpa using hj)
          rw [show o + (i + 1) = o + 1 + i by omega, this]
          simp
  obtain ⟨D, h1, h2, h3, h4⟩ := key us o cs W h.2.1
  refine ⟨h.1, ?_, (Sto.cells g us o W).later h.2.2 h.1⟩
  have : D = cs' := by
    apply Array.ext_getElem?
    intro j
    by_cases hj : j < o ∨ o + us.length ≤ j
    · rw [h3 j hj, hout j hj]
    · obtain ⟨i, rfl⟩ : ∃ i, j = o + i := ⟨j - o, by omega⟩
      rw [h4 hle i (by omega), hin i (by omega)]
  rw [h1, this]

/-- A type that is a struct of n cells. -/
structure RowT (P : Program) (ty : TypeId) (n : Nat) : Prop where
  row : (P.underlying ty).map (·.isRow) = some true
  size : (P.info? ty).map (·.size) = some n
section
variable {P : Program} {ops : Array Oper} {rest : List Oper} {op : Oper} {a : Act} {w w0 : World} {Q : Exit → Act → World → Prop} {g o n : Nat} {t : TypeId} {cs : Array Value}
/-- The load of a struct in a block. -/
theorem wpList_load_part {l : List Value} (hR : w.rangeAt g o l) {ty : TypeId} (hT : RowT P ty n) (hn : l.length = n) {x : Operand} (hgd : op.guard = none) (ho : op.op = .load ty x) (hx : a.eval x = .pointer (some ⟨g, o, none⟩))
    (h : wpList P ops Q rest (a.put op.dst (.agg l.toArray)) w) : wpList P ops Q (op :: rest) a w := by
  obtain ⟨h1, h2⟩ := hT
  cases hu : P.underlying ty with
  | none => simp [hu] at h1
  | some d =>
    rw [hu] at h1
    exact wpList_load_mid hgd ty x ho g o hx l d hR hu (by simpa using h1) (by rw [h2, hn]) h
/-- The load of a struct that is a block. -/
theorem wpList_load_blk (hB : Blk w0 g t cs w) {ty : TypeId} (hT : RowT P ty n) (hn : cs.size = n) {x : Operand} (hgd : op.guard = none) (ho : op.op = .load ty x) (hx : a.eval x = .pointer (some ⟨g, 0, none⟩))
    (h : wpList P ops Q rest (a.put op.dst (.agg cs)) w) : wpList P ops Q (op :: rest) a w :=
  wpList_load_part hB.range hT (by simpa using hn) hgd ho hx (by simpa using h)
/-- The store of a struct into a block of its own. -/
theorem wpList_store_blk (hB : Blk w0 g t cs w) {ty : TypeId} (hT : RowT P ty n) {x y : Operand} {us : Array Value} (hgd : op.guard = none) (ho : op.op = .store ty x y) (hx : a.eval x = .pointer (some ⟨g, 0, none⟩)) (hy : a.eval y = .agg us)
    (hs : us.size = n) (hc : cs.size = n) (h1 : us.all (·.oneCell') = true)
    (h : ∀ W, Blk w0 g t us W → Sto w W g → wpList P ops Q rest (a.put op.dst undef) W) : wpList P ops Q (op :: rest) a w :=
  wpList_store_mid hgd ty x y ho g 0 us hx hy (hB.there 0 us.size (by omega)) (by rw [hT.size, hs]) h1 (h _ (hB.stored us (by omega)) (Sto.cells g _ 0 w))
/-- The store of a struct into a part of a block. -/
theorem wpList_store_part (hB : Blk w0 g t cs w) {ty : TypeId} (hT : RowT P ty n) {x y : Operand} {us : Array Value} (cs' : Array Value) (hgd : op.guard = none) (ho : op.op = .store ty x y) (hx : a.eval x = .pointer (some ⟨g, o, none⟩)) (hy : a.eval y = .agg us)
    (hs : us.size = n) (hc : o + n ≤ cs.size) (h1 : us.all (·.oneCell') = true) (hin : ∀ j, j < n → cs'[o + j]? = us[j]?) (hout : ∀ j, j < o ∨ o + n ≤ j → cs'[j]? = cs[j]?)
    (h : ∀ W, Blk w0 g t cs' W → Sto w W g → wpList P ops Q rest (a.put op.dst undef) W) : wpList P ops Q (op :: rest) a w :=
  wpList_store_mid hgd ty x y ho g o us hx hy (hB.there o us.size (by omega)) (by rw [hT.size, hs]) h1
    (h _ (hB.stored_at us.toList o cs' (fun j hj => by rw [hin j (by simpa [hs] using hj)]; simp) (fun j hj => hout j (by simpa [hs] using hj)) (by simpa [hs] using hc)) (Sto.cells g _ o w))
end

/-- A struct's value, as results read it. -/
theorem loadVar_blk {P : Program} {w0 W : World} {g n : Nat} {t : TypeId} {cs : Array Value} (h : Blk w0 g t cs W) {ty : TypeId} (hT : RowT P ty n) (hn : cs.size = n) : (loadVar ty ⟨g, 0, none⟩).run P W = .ok (.agg cs) W := by
  obtain ⟨h1, h2⟩ := hT
  cases hu : P.underlying ty with
  | none => simp [hu] at h1
  | some d =>
    rw [hu] at h1
    have := run_loadVar_mid W g 0 ty cs.toList d h.range hu (by simpa using h1) (by rw [h2, ← hn]; simp)
    simpa using this
/-- Results: a struct in a cell of its own. -/
theorem results_c {P : Program} {w0 W : World} {g n : Nat} {t : TypeId} {cs : Array Value} (h : Blk w0 g t cs W) {ty : TypeId} (hT : RowT P ty n) (hn : cs.size = n) {fn : Func} {tmps : Array Value} {i : Nat}
    (hf : fn.results = #[.cell i ty]) (hp : tmps.getD i undef = .pointer (some ⟨g, 0, none⟩)) : (results fn tmps).run P W = .ok (.agg cs) W := by
  have hl := loadVar_blk h hT hn
  rw [Array.getD_eq_getD_getElem?] at hp
  simp [results, hf, hp, asAddr, hl]
/-- Results: a struct in a cell of its own, and a value. -/
theorem results_ct {P : Program} {w0 W : World} {g n : Nat} {t : TypeId} {cs : Array Value} (h : Blk w0 g t cs W) {ty : TypeId} (hT : RowT P ty n) (hn : cs.size = n) {fn : Func} {tmps : Array Value} {i k : Nat} {v : Value}
    (hf : fn.results = #[.cell i ty, .tmp k]) (hp : tmps.getD i undef = .pointer (some ⟨g, 0, none⟩)) (hv : tmps.getD k undef = v) : (results fn tmps).run P W = .ok (.tuple #[.agg cs, v]) W := by
  have hl := loadVar_blk h hT hn
  rw [Array.getD_eq_getD_getElem?] at hp hv
  simp [results, hf, hp, hv, asAddr, hl]
/-- Results: a struct in a cell of its own, and two values. -/
theorem results_ctt {P : Program} {w0 W : World} {g n : Nat} {t : TypeId} {cs : Array Value} (h : Blk w0 g t cs W) {ty : TypeId} (hT : RowT P ty n) (hn : cs.size = n) {fn : Func} {tmps : Array Value} {i k m : Nat} {v u : Value}
    (hf : fn.results = #[.cell i ty, .tmp k, .tmp m]) (hp : tmps.getD i undef = .pointer (some ⟨g, 0, none⟩)) (hv : tmps.getD k undef = v) (hu : tmps.getD m undef = u) : (results fn tmps).run P W = .ok (.tuple #[.agg cs, v, u]) W := by
  have hl := loadVar_blk h hT hn
  rw [Array.getD_eq_getD_getElem?] at hp hv hu
  simp [results, hf, hp, hv, hu, asAddr, hl]

/-- A struct that is built, in a region's quiet part, and in a plain one. -/
theorem wpStill_build {P : Program} {ops : Array Oper} {rest : List Oper} {o : Oper} {a : Act} {w : World} {Q : Act → Prop} {t : TypeId} {ps : List (Nat × Operand)} (vs : List (Nat × Value)) (cells : Array Value) (hg : o.guard = none) (ho : o.op = .build t ps.toArray)
    (hv : (ps.map fun p => (p.1, a.eval p.2)) = vs) (hp : P.built t vs = some cells) (h : wpStill P ops w Q rest (a.put o.dst (.agg cells))) : wpStill P ops w Q (o :: rest) a := by
  refine wpStill_step fun K hK => ?_
  rw [if_pos (by simp [Region.wanted, hg])]
  have hp' : P.built t (ps.toArray.map fun (i, x) => (i, a.eval x)).toList = some cells := by
    rw [← hp, ← hv]
    simp
  unfold Oper.still execOp
  simp only [ho, Sem.run_bind, run_build w t _ cells hp', Result.andThen_ok]
  exact ⟨rfl, hK _ h⟩
theorem wpList_build_ {P : Program} {ops : Array Oper} {rest : List Oper} {o : Oper} {a : Act} {w : World} {Q : Exit → Act → World → Prop} {t : TypeId} {ps : List (Nat × Operand)} (vs : List (Nat × Value)) (cells : Array Value) (hg : o.guard = none) (ho : o.op = .build t ps.toArray)
    (hv : (ps.map fun p => (p.1, a.eval p.2)) = vs) (hp : P.built t vs = some cells) (h : wpList P ops Q rest (a.put o.dst (.agg cells)) w) : wpList P ops Q (o :: rest) a w := by
  have hp' : P.built t (ps.toArray.map fun (i, x) => (i, a.eval x)).toList = some cells := by
    rw [← hp, ← hv]
    simp
  exact wpList_build hg t ps.toArray ho (by rw [hp']; rfl) (by rw [hp']; exact h)
/-- A drawn region whose first n operations only read. -/
theorem wp_tail {P : Program} {id : Nat} {Q : Exit → Act → World → Prop} {a : Act} {w : World} {l : List Oper} (n : Nat) (hm : P.follows .mixedOrders = true) (hB : Region.lexTailB .any l.toArray n = true)
    (h : ∀ W, W = w.drew → wpStill P l.toArray W (fun a' => wpList P l.toArray Q (l.drop n) a' W) (l.take n) a) : (Code.region id l.toArray true).wp P Q a w :=
  wp_region_still_tail n hm hB (h _ rfl)

end Go.Proofs.YtegmdjfohlomnaaDoor
