/- Lemmas about memory for every text of this claim: a slice that reads as a list of values, appends, cuts. No condition. -/
import Derived.Test.YtegmdjfohlomnaaDoorProg
import Derived.WalkKit
import Derived.BigQuiet
import Derived.Deep.QuietTactic
import Derived.Deep.RegionHeld3
import Derived.ArgAppend
import Derived.Maps.AppendAt
import Derived.Lib.AppendZeros
import Derived.Lib.Hide
import Derived.WalkSpells
namespace Go.Proofs.YtegmdjfohlomnaaDoor
open Go.RowKit

/-- The slice value reads as the values vs, one cell each. -/
def VL (w : World) (A : Option Addr) (n c : Nat) (vs : List Value) : Prop :=
  vs.length = n ∧ n ≤ c ∧ c ≤ 9223372036854775807 ∧
  (0 < n → ∃ b off, A = some ⟨b, off, none⟩ ∧ b < w.heap.size ∧ ∀ j v, vs[j]? = some v → w.cell? ⟨b, off + j, none⟩ = some v)

/-- The slice value reads as the integers l. -/
def IL (w : World) (A : Option Addr) (n c : Nat) (l : List Int) : Prop := VL w A n c (l.map (Value.int .i64))

/-- A slice to which may be appended without a write to what is older than block B; e: the elements' type. -/
def OV (w : World) (B : Nat) (e : TypeId) (A : Option Addr) (n c : Nat) (vs : List Value) : Prop :=
  VL w A n c vs ∧ ((c ≤ n ∧ (A = none → c = 0) ∧ (0 < n → ∃ a, A = some a ∧ B ≤ a.block)) ∨ w.ownsRow B e 1 (.slice A n c) n vs)

def OL (w : World) (B : Nat) (A : Option Addr) (n c : Nat) (l : List Int) : Prop := OV w B 3 A n c (l.map (Value.int .i64))

section
variable {w w' : World} {A A2 : Option Addr} {n c n2 c2 B : Nat} {vs vs2 : List Value} {e : TypeId}

theorem VL.len (h : VL w A n c vs) : vs.length = n := h.1
theorem VL.le (h : VL w A n c vs) : n ≤ c := h.2.1
theorem VL.cap (h : VL w A n c vs) : c ≤ 9223372036854775807 := h.2.2.1
theorem VL.nil (w : World) : VL w none 0 0 [] := ⟨rfl, Nat.le_refl _, by omega, fun h => absurd h (by omega)⟩
theorem VL.empty (w : World) (A : Option Addr) (c : Nat) (hc : c ≤ 9223372036854775807) : VL w A 0 c [] := ⟨rfl, Nat.zero_le _, hc, fun h => absurd h (by omega)⟩
theorem VL.at_ (h : VL w A n c vs) {k : Nat} (hk : k < n) : ∃ b off v, A = some ⟨b, off, none⟩ ∧ vs[k]? = some v ∧ w.cell? ⟨b, off + k, none⟩ = some v := by
  obtain ⟨b, off, e, _, hc⟩ := h.2.2.2 (by omega)
  have hl := h.1
  exact ⟨b, off, vs[k], e, List.getElem?_eq_getElem (by omega), hc k _ (List.getElem?_eq_getElem (by omega))⟩
theorem VL.keep (h : VL w A n c vs) (hs : w.heap.size ≤ w'.heap.size) (hk : ∀ p : Addr, p.block < w.heap.size → w'.cell? p = w.cell? p) : VL w' A n c vs := by
  obtain ⟨h1, h2, h3, h4⟩ := h
  refine ⟨h1, h2, h3, fun hn => ?_⟩
  obtain ⟨b, off, e, hb, hc⟩ := h4 hn
  exact ⟨b, off, e, by omega, fun j v hj => (hk _ hb).trans (hc j v hj)⟩
theorem VL.below (h : VL w A n c vs) (hb : Below w.heap.size w w') : VL w' A n c vs := h.keep hb.size fun _ hp => hb.cell hp
theorem VL.drew (h : VL w A n c vs) : VL w.drew A n c vs := h
theorem VL.drewN (h : VL w A n c vs) (k : Nat) : VL (w.drewN k) A n c vs := h
theorem VL.alloc (h : VL w A n c vs) (o : Obj) : VL (w.alloc o) A n c vs := h.keep (by simp) fun p hp => World.cell?_alloc_lt w o p hp
theorem VL.grown {row : Option Nat} (h : VL w A n c vs) (hg : w.grownBy w' row) (hr : ∀ a, A = some a → some a.block ≠ row) : VL w' A n c vs := by
  obtain ⟨h1, h2, h3, h4⟩ := h
  refine ⟨h1, h2, h3, fun hn => ?_⟩
  obtain ⟨b, off, e, hb, hc⟩ := h4 hn
  have := hg.size
  refine ⟨b, off, e, by omega, fun j v hj => ?_⟩
  rw [World.cell?_of_block (w := w) (hg.block b hb (by simpa using hr _ e))]
  exact hc j v hj

/-- A new block. -/
theorem VL.made (w : World) (e : TypeId) (m c : Nat) (hm : vs.length = m) (hmc : m ≤ c) (hc : c ≤ 9223372036854775807) (cs : Array Value) (hcs : ∀ (j : Nat) (v : Value), vs[j]? = some v → cs[j]? = some v) :
    VL (w.alloc (.cells cs e)) (some ⟨w.heap.size, 0, none⟩) m c vs := by
  refine ⟨hm, hmc, hc, fun _ => ⟨w.heap.size, 0, rfl, by simp, fun j v hj => ?_⟩⟩
  rw [World.cell?_alloc_new, Nat.zero_add]
  exact hcs j v hj
theorem VL.lit (w : World) (e : TypeId) (m : Nat) (vs : List Value) (hm : vs.length = m) (hc : m ≤ 1000000) : VL (w.alloc (.cells vs.toArray e)) (some ⟨w.heap.size, 0, none⟩) m m vs :=
  VL.made w e m m hm (Nat.le_refl _) (by omega) _ (fun j v hj => by simpa using hj)

theorem VL.of_own (h : w.ownsRow B e 1 (.slice A n c) n vs) : VL w A n c vs := by
  have hl : vs.length = n := by simpa using h.1
  rcases h.2 with ⟨hv, rfl⟩ | ⟨g, cap, cur, hv, _, hh, hnc, hcm, hcs, ht⟩
  · injection hv with h1 h2 h3
    subst h1 h3
    exact ⟨hl, by omega, by omega, fun h => absurd h (by omega)⟩
  · injection hv with h1 h2 h3
    subst h1 h3
    refine ⟨hl, hnc, by simpa [maxLen] using hcm, fun _ => ⟨g, 0, rfl, (Array.getElem?_eq_some_iff.1 hh).1, fun j v hj => ?_⟩⟩
    rw [cell_of_row w g (0 + j) cur e (0, 0) hh, Nat.zero_add]
    have hjl := (List.getElem?_eq_some_iff.1 hj).1
    have h2 : (cur.toList.take (n * 1))[j]? = vs[j]? := by rw [ht]
    rw [List.getElem?_take, if_pos (by omega)] at h2
    rw [← hj, ← h2]
    simp

/-- Cutting at the front. -/
theorem VL.drop (h : VL w A n c vs) {k : Nat} (hk : k ≤ n) (A' : Option Addr) (hA : k < n → A' = A.map (·.add k)) : VL w A' (n - k) (c - k) (vs.drop k) := by
  obtain ⟨h1, h2, h3, h4⟩ := h
  refine ⟨by simp [h1], by omega, by omega, fun hn => ?_⟩
  obtain ⟨b, off, e, hb, hc⟩ := h4 (by omega)
  subst e
  refine ⟨b, off + k, by rw [hA (by omega)]; simp [Addr.add_lit], hb, fun j v hj => ?_⟩
  rw [Nat.add_assoc]
  exact hc (k + j) v (by simpa using hj)
theorem VL.drop_if (h : VL w A n c vs) {k : Nat} (hk : k ≤ n) : VL w (if c = k then A else A.map (·.add k)) (n - k) (c - k) (vs.drop k) :=
  h.drop hk _ fun hkn => by have := h.le; rw [if_neg (by omega)]

/-- Cutting at the back, the capacity cut or not. -/
theorem VL.take (h : VL w A n c vs) {k c' : Nat} (hk : k ≤ n) (hkc : k ≤ c') (hcc : c' ≤ c) (A' : Option Addr) (hA : 0 < k → A' = A) : VL w A' k c' (vs.take k) := by
  obtain ⟨h1, h2, h3, h4⟩ := h
  refine ⟨by simp [h1]; omega, hkc, by omega, fun hn => ?_⟩
  obtain ⟨b, off, e, hb, hc⟩ := h4 (by omega)
  refine ⟨b, off, (hA hn).trans e, hb, fun j v hj => ?_⟩
  rw [List.getElem?_take] at hj
  split at hj
  · exact hc j v hj
  · cases hj

theorem own_base {v : Value} {B' m : Nat} (h : w.ownsRow B e 1 v m vs) (hB : B' ≤ B) : w.ownsRow B' e 1 v m vs := by
  refine ⟨h.1, ?_⟩
  rcases h.2 with h2 | ⟨g, cap, cur, hv, hg, r⟩
  · exact .inl h2
  · exact .inr ⟨g, cap, cur, hv, Nat.le_trans hB hg, r⟩

theorem OV.vl (h : OV w B e A n c vs) : VL w A n c vs := h.1
theorem OV.nil (w : World) (B : Nat) (e : TypeId) : OV w B e none 0 0 [] := ⟨VL.nil w, .inl ⟨Nat.le_refl _, fun _ => rfl, fun h => absurd h (by omega)⟩⟩
theorem OV.full (h : VL w A n n vs) (hA : A = none → n = 0) (B : Nat) (e : TypeId) (hn : 0 < n → ∃ a, A = some a ∧ B ≤ a.block) : OV w B e A n n vs := ⟨h, .inl ⟨Nat.le_refl _, hA, hn⟩⟩
theorem OV.drew (h : OV w B e A n c vs) : OV w.drew B e A n c vs := h
theorem OV.drewN (h : OV w B e A n c vs) (k : Nat) : OV (w.drewN k) B e A n c vs := h
theorem OV.alloc (h : OV w B e A n c vs) (o : Obj) : OV (w.alloc o) B e A n c vs := ⟨h.1.alloc o, h.2.imp id (fun h => h.alloc o)⟩
theorem OV.mono (h : OV w B e A n c vs) {B' : Nat} (hB : B' ≤ B) : OV w B' e A n c vs :=
  ⟨h.1, h.2.imp (fun ⟨h1, h2, h3⟩ => ⟨h1, h2, fun hn => let ⟨a, e, hb⟩ := h3 hn; ⟨a, e, Nat.le_trans hB hb⟩⟩) (fun h => own_base h hB)⟩
theorem OV.new (h : OV w B e A n c vs) (hn : 0 < n) : ∃ a, A = some a ∧ B ≤ a.block := by
  rcases h.2 with h | h
  · exact h.2.2 hn
  · rcases h.2 with ⟨_, h0⟩ | ⟨g, cap, cur, hv, hg, _⟩
    · omega
    · exact ⟨_, (Value.slice.inj hv).1, hg⟩
theorem OV.below (h : OV w B e A n c vs) (hb : Below w.heap.size w w') : OV w' B e A n c vs :=
  ⟨h.1.below hb, h.2.imp id fun h2 => h2.kept (row := none) ⟨hb.os, hb.tape, hb.output, hb.size, fun k hk _ => hb.block k hk⟩ (by cases hv : (Value.slice A n c).ownBlock <;> simp)⟩
theorem OV.blocks (h : OV w B e A n c vs) : (c ≤ n) ∨ ∃ g, A = some ⟨g, 0, none⟩ ∧ B ≤ g ∧ g < w.heap.size := by
  rcases h.2 with h | h
  · exact .inl h.1
  · rcases h.2 with ⟨hv, _⟩ | ⟨g, cap, cur, hv, hg, hh, _⟩
    · injection hv with _ h2 h3
      exact .inl (by omega)
    · injection hv with h1 h2 h3
      exact .inr ⟨g, h1, hg, (Array.getElem?_eq_some_iff.1 hh).1⟩

theorem own_value {v : Value} {m : Nat} (h : w.ownsRow B e 1 v m vs) (hm : 0 < m) : ∃ A c, v = .slice A m c := by
  rcases h.2 with ⟨_, h0⟩ | ⟨g, cap, cur, hv, _⟩
  · omega
  · exact ⟨_, _, hv⟩

theorem VL.news (h : VL w A n c vs) : ∀ a, A = some a → 0 < n → ∀ j u, vs[j]? = some u → w.cell? (a.add j) = some u := by
  intro a hA hn j u hu
  obtain ⟨b', off', e, _, hc⟩ := h.2.2.2 hn
  rw [hA] at e
  injection e with e
  subst e
  rw [Addr.add_lit]
  exact hc j u hu

theorem new_at {v' : Value} {m k : Nat} (ho : w'.ownsRow B e 1 v' m vs) (hat : v'.ownBlock = (Value.slice none 0 0).ownBlock ∨ v'.ownBlock = some k) :
    ∀ (A' : Option Addr) (c' : Nat), v' = .slice A' m c' → A' = none ∨ ∃ g, A' = some ⟨g, 0, none⟩ ∧ k ≤ g := by
  intro A' c' he
  subst he
  rcases ho.2 with ⟨hv, _⟩ | ⟨g, cap, cur, hv, _⟩
  · injection hv with h1 _ _
    exact .inl h1
  · injection hv with h1 _ _
    subst h1
    rcases hat with hat | hat
    · simp [Value.ownBlock] at hat
    · simp [Value.ownBlock] at hat
      exact .inr ⟨g, rfl, by omega⟩
theorem OV.grown {row : Option Nat} (h : OV w B e A n c vs) (hg : w.grownBy w' row) (hr : ∀ a, A = some a → some a.block ≠ row) : OV w' B e A n c vs := by
  refine ⟨h.1.grown hg hr, h.2.imp id fun h2 => h2.kept hg ?_⟩
  cases A with
  | none => exact .inl rfl
  | some a => exact .inr (hr a rfl)
/-- append(x, y...): the values one behind the other; nothing older than B is written. -/
theorem run_append_OV {t e : TypeId} {z : Value} {bytes : Nat} (ht : Tryd.prog.underlying t = some (.slice e)) (hinfo : (Tryd.prog.info? e).map (fun i => (i.zero, i.size, i.bytes)) = some (some z, 1, bytes)) (hz : z.cells.size = 1) (hby : bytes ≤ 64)
    (ty : TypeId) (hB : B ≤ w.heap.size) (h1 : OV w B e A n c vs) (h2 : VL w A2 n2 c2 vs2) (hc2 : ∀ u ∈ vs2, u.oneCell' = true) (hn : n + n2 ≤ 1000000000) :
    ∃ A' c' w', (Builtin.append_ #[t, t] ty #[.slice A n c, .slice A2 n2 c2]).run Tryd.prog w = .ok (.slice A' (n + n2) c') w' ∧ OV w' B e A' (n + n2) c' (vs ++ vs2) ∧ Below B w w' ∧ w.grownBy w' (Value.slice A n c).ownBlock ∧ (0 < n2 → w'.ownsRow B e 1 (.slice A' (n + n2) c') (n + n2) (vs ++ vs2)) ∧ (A' = A ∨ ∃ g, A' = some ⟨g, 0, none⟩ ∧ w.heap.size ≤ g) := by
  obtain ⟨i0, hi0, hz0, hz1, hz2⟩ := info_parts hinfo
  rcases Nat.eq_zero_or_pos n2 with h0 | h0
  · subst h0
    have hl2 : vs2 = [] := List.eq_nil_of_length_eq_zero h2.1
    subst hl2
    refine ⟨A, c, w, ?_, by simpa using h1, Below.refl _ _, World.grownBy.refl _ _, fun h => absurd h (by omega), .inl rfl⟩
    have hle := h1.1.le
    rcases A2 with _ | a2 <;> rcases A with _ | a <;>
      simp [Builtin.append_, run_underlying ht, sizeOf, typeInfo, hi0, Builtin.lenOf, hle, Builtin.firstCells, loadCells, loadCellsFrom, storeCells]
  · obtain ⟨b2, off2, e2, hb2, _⟩ := h2.2.2.2 h0
    subst e2
    have hnews := h2.news _ rfl h0
    have hlen2 := h2.1
    have hbytes : (n + n2) * bytes ≤ 140737488355328 := Nat.le_trans (Nat.mul_le_mul hn hby) (by omega)
    have mk : ∀ v' w', (Builtin.append_ #[t, t] ty #[.slice A n c, .slice (some ⟨b2, off2, none⟩) n2 c2]).run Tryd.prog w = .ok v' w' → w'.ownsRow B e 1 v' (n + n2) (vs ++ vs2) →
        Below B w w' → w.grownBy w' (Value.slice A n c).ownBlock → (∀ A' c', v' = .slice A' (n + n2) c' → A' = A ∨ ∃ g, A' = some ⟨g, 0, none⟩ ∧ w.heap.size ≤ g) →
        ∃ A' c' w', (Builtin.append_ #[t, t] ty #[.slice A n c, .slice (some ⟨b2, off2, none⟩) n2 c2]).run Tryd.prog w = .ok (.slice A' (n + n2) c') w' ∧ OV w' B e A' (n + n2) c' (vs ++ vs2) ∧ Below B w w' ∧ w.grownBy w' (Value.slice A n c).ownBlock ∧ (0 < n2 → w'.ownsRow B e 1 (.slice A' (n + n2) c') (n + n2) (vs ++ vs2)) ∧ (A' = A ∨ ∃ g, A' = some ⟨g, 0, none⟩ ∧ w.heap.size ≤ g) := by
      intro v' w' hr ho hb hg hnew
      obtain ⟨A', c', rfl⟩ := own_value ho (by omega)
      exact ⟨A', c', w', hr, ⟨VL.of_own ho, .inr ho⟩, hb, hg, fun _ => ho, hnew A' c' rfl⟩
    rcases h1.2 with ⟨hcn, hnone, _⟩ | hown
    · rcases A with _ | a
      · have hc0 : c = 0 := hnone rfl
        have hle := h1.1.le
        obtain rfl : n = 0 := by omega
        subst hc0
        have hl : vs = [] := List.eq_nil_of_length_eq_zero h1.1.1
        subst hl
        obtain ⟨v', w', hr, ho, hg, _, hat⟩ := run_append_own_at (P := Tryd.prog) w B t ty e i0 z 1 bytes ht hi0 hz0 hz1 hz2 hz (by omega)
          (.slice none 0 0) 0 [] (World.ownsRow_nil w B _ 1) ⟨b2, off2, none⟩ n2 c2 vs2 (by simp [hlen2]) hnews hc2 (by simp only [maxLen]; omega) hbytes hB
        exact mk v' w' hr ho ((Below.refl _ _).grown hg hB (by simp [Value.ownBlock])) hg (new_at ho hat)
      · have hle := h1.1.le
        have holds : ∀ j u, vs[j]? = some u → w.cell? (a.add j) = some u := by
          intro j u hu
          have hj := (List.getElem?_eq_some_iff.1 hu).1
          have hl1 := h1.1.1
          exact h1.1.news a rfl (by omega) j u hu
        obtain ⟨v', w', hr, ho, hg⟩ := run_append_arg_grows (P := Tryd.prog) w t ty e i0 z 1 bytes ht hi0 hz0 hz1 hz2 hz (by omega)
          a n c vs (by simp [h1.1.1]) holds ⟨b2, off2, none⟩ n2 c2 vs2 (by simp [hlen2]) hnews (by omega) (by simp only [maxLen]; omega) hbytes
        exact mk v' w' hr (own_base ho hB) ((Below.refl _ _).grown hg hB (by simp)) ⟨hg.os, hg.tape, hg.output, hg.size, fun k hk _ => hg.block k hk (by simp)⟩ (fun A' c' he => by
          subst he
          rcases ho.2 with ⟨hv, _⟩ | ⟨g, cap, cur, hv, hgb, _⟩
          · injection hv with _ h2 _
            omega
          · injection hv with h1 _ _
            exact .inr ⟨g, h1, hgb⟩)
    · obtain ⟨v', w', hr, ho, hg, _, hat⟩ := run_append_own_at (P := Tryd.prog) w B t ty e i0 z 1 bytes ht hi0 hz0 hz1 hz2 hz (by omega)
          (.slice A n c) n vs hown ⟨b2, off2, none⟩ n2 c2 vs2 (by simp [hlen2]) hnews hc2 (by simp only [maxLen]; omega) hbytes hB
      refine mk v' w' hr ho ((Below.refl _ _).grown hg hB fun k hk => ?_) hg ?_
      · exact (hown.lt k hk).1
      · intro A' c' he
        subst he
        rcases hat with hat | hat
        · left
          rcases ho.2 with ⟨hv, hn0⟩ | ⟨g, cap, cur, hv, _⟩
          · exact absurd (Value.slice.inj hv).2.1 (by omega)
          · have h1 := (Value.slice.inj hv).1
            subst h1
            rcases hown.2 with ⟨hv2, _⟩ | ⟨g2, cap2, cur2, hv2, _⟩
            · have h2 := (Value.slice.inj hv2).1
              subst h2
              simp [Value.ownBlock] at hat
            · have h2 := (Value.slice.inj hv2).1
              subst h2
              simp [Value.ownBlock] at hat
              rw [hat]
        · right
          rcases ho.2 with ⟨hv, hn0⟩ | ⟨g, cap, cur, hv, _⟩
          · exact absurd (Value.slice.inj hv).2.1 (by omega)
          · have h1 := (Value.slice.inj hv).1
            subst h1
            simp [Value.ownBlock] at hat
            exact ⟨g, rfl, by omega⟩

end

section
variable {w w' : World} {A A2 : Option Addr} {n c n2 c2 B : Nat} {l l2 : List Int}
theorem IL.len (h : IL w A n c l) : l.length = n := by have := VL.len h; simpa using this
theorem IL.le (h : IL w A n c l) : n ≤ c := VL.le h
theorem IL.cap (h : IL w A n c l) : c ≤ 9223372036854775807 := VL.cap h
theorem IL.nil (w : World) : IL w none 0 0 [] := VL.nil w
theorem IL.empty (w : World) (A : Option Addr) (c : Nat) (hc : c ≤ 9223372036854775807) : IL w A 0 c [] := VL.empty w A c hc
theorem IL.at_ (h : IL w A n c l) {k : Nat} (hk : k < n) : ∃ b off, A = some ⟨b, off, none⟩ ∧ w.cell? ⟨b, off + k, none⟩ = some (.int .i64 (l.getD k 0)) := by
  obtain ⟨b, off, v, e, hv, hc⟩ := VL.at_ h hk
  have hl := h.len
  refine ⟨b, off, e, ?_⟩
  rw [hc, ← hv]
  simp [List.getD, List.getElem?_eq_getElem (show k < l.length by omega)]
theorem IL.below (h : IL w A n c l) (hb : Below w.heap.size w w') : IL w' A n c l := VL.below h hb
theorem IL.drew (h : IL w A n c l) : IL w.drew A n c l := h
theorem IL.drewN (h : IL w A n c l) (k : Nat) : IL (w.drewN k) A n c l := h
theorem IL.alloc (h : IL w A n c l) (o : Obj) : IL (w.alloc o) A n c l := VL.alloc h o
theorem IL.one (w : World) (e : TypeId) (x : Int) : IL (w.alloc (.cells #[.int .i64 x] e)) (some ⟨w.heap.size, 0, none⟩) 1 1 [x] := VL.lit w e 1 [.int .i64 x] rfl (by omega)
theorem IL.drop_if (h : IL w A n c l) {k : Nat} (hk : k ≤ n) : IL w (if c = k then A else A.map (·.add k)) (n - k) (c - k) (l.drop k) := by
  have := VL.drop_if h hk
  rwa [← List.map_drop] at this
theorem IL.drop (h : IL w A n c l) {k : Nat} (hk : k ≤ n) (A' : Option Addr) (hA : k < n → A' = A.map (·.add k)) : IL w A' (n - k) (c - k) (l.drop k) := by
  have := VL.drop h hk A' hA
  rwa [← List.map_drop] at this
theorem IL.take (h : IL w A n c l) {k c' : Nat} (hk : k ≤ n) (hkc : k ≤ c') (hcc : c' ≤ c) (A' : Option Addr) (hA : 0 < k → A' = A) : IL w A' k c' (l.take k) := by
  have := VL.take h hk hkc hcc A' hA
  rwa [← List.map_take] at this
theorem OL.il (h : OL w B A n c l) : IL w A n c l := h.1
theorem OL.nil (w : World) (B : Nat) : OL w B none 0 0 [] := OV.nil w B _
theorem OL.full (h : IL w A n n l) (hA : A = none → n = 0) (B : Nat) (hn : 0 < n → ∃ a, A = some a ∧ B ≤ a.block) : OL w B A n n l := OV.full h hA B _ hn
theorem OL.new (h : OL w B A n c l) (hn : 0 < n) : ∃ a, A = some a ∧ B ≤ a.block := OV.new h hn
theorem OL.drew (h : OL w B A n c l) : OL w.drew B A n c l := h
theorem OL.drewN (h : OL w B A n c l) (k : Nat) : OL (w.drewN k) B A n c l := h
theorem OL.alloc (h : OL w B A n c l) (o : Obj) : OL (w.alloc o) B A n c l := OV.alloc h o
theorem OL.mono (h : OL w B A n c l) {B' : Nat} (hB : B' ≤ B) : OL w B' A n c l := OV.mono h hB
theorem OL.below (h : OL w B A n c l) (hb : Below w.heap.size w w') : OL w' B A n c l := OV.below h hb
theorem OL.grown {row : Option Nat} (h : OL w B A n c l) (hg : w.grownBy w' row) (hr : ∀ a, A = some a → some a.block ≠ row) : OL w' B A n c l := OV.grown h hg hr
theorem IL.grown {row : Option Nat} (h : IL w A n c l) (hg : w.grownBy w' row) (hr : ∀ a, A = some a → some a.block ≠ row) : IL w' A n c l := VL.grown h hg hr
theorem OL.len (h : OL w B A n c l) : l.length = n := h.il.len
end

theorem int_info : (Tryd.prog.info? 3).map (fun i => (i.zero, i.size, i.bytes)) = some (some (.int .i64 0), 1, 8) := by kernel_rfl

/-- An append to a list of integers in the walk. -/
theorem wpList_append_OL {w : World} {ops : Array Oper} {rest : List Oper} {o : Oper} {a : Act} {Q : Exit → Act → World → Prop} {A A2 : Option Addr} {n c n2 c2 : Nat} {l l2 : List Int}
    (B : Nat) (hgd : o.guard = none) (s x : Operand)
    (ho : o.op = .call { callee := .builtin .append, args := #[s, x], argTypes := #[50, 50] }) (hs : a.eval s = .slice A n c) (hx : a.eval x = .slice A2 n2 c2)
    (h1 : OL w B A n c l) (h2 : IL w A2 n2 c2 l2) (hB : B ≤ w.heap.size) (hn : n + n2 ≤ 1000000000)
    (h : ∀ A' c' w', OL w' B A' (n + n2) c' (l ++ l2) → Below B w w' → (w.grownBy w' (Value.slice A n c).ownBlock ∧ (0 < n2 → w'.ownsRow B 3 1 (.slice A' (n + n2) c') (n + n2) ((l ++ l2).map (Value.int .i64))) ∧ (A' = A ∨ ∃ g, A' = some ⟨g, 0, none⟩ ∧ w.heap.size ≤ g)) → wpList Tryd.prog ops Q rest (a.put o.dst (.slice A' (n + n2) c')) w') : wpList Tryd.prog ops Q (o :: rest) a w := by
  obtain ⟨A', c', w', hr, h3, h4, h5, h6, h7⟩ := run_append_OV Tryd.underlying50 int_info rfl (by omega) o.type hB h1 h2 (ints_oneCell _ _) hn
  exact Lib.wpList_append_run w hgd s x _ _ ho _ _ hs hx _ w' hr (h A' c' w' (by unfold OL; rw [List.map_append]; exact h3) h4 ⟨h5, by rw [List.map_append]; exact h6, h7⟩)

end Go.Proofs.YtegmdjfohlomnaaDoor
