/- The walks of small functions of the program: what looks for a number, cuts and copies. No condition. -/
import Derived.Test.YtjinbhnpcdlkiaaGreatDoorProg
import Derived.WalkKit
import Derived.BigQuiet
import Derived.Deep.QuietTactic
import Derived.Deep.RegionHeld3
import Derived.ArgAppend
import Derived.Maps.AppendAt
import Derived.Lib.AppendZeros
import Derived.Lib.Hide
import Derived.WalkSpells
import Derived.Test.YtjinbhnpcdlkiaaGreatDoorMa01
import Derived.Test.YtjinbhnpcdlkiaaGreatDoorRows
import Derived.ProofKit
import Derived.OpenShut
import Derived.ShutString
import Derived.ChangeOld
import Derived.Lib.SmallJoins
namespace Go.Proofs.YtjinbhnpcdlkiaaGreatDoor
open Go.RowKit

/-- The slice value reads as the values vs, one cell each. -/
def VL (w : World) (A : Option Addr) (n c : Nat) (vs : List Value) : Prop :=
  vs.length = n ∧ n ≤ c ∧ c ≤ 9223372036854775807 ∧
  (0 < n → ∃ b off, A = some ⟨b, off, none⟩ ∧ b < w.heap.size ∧ ∀ j v, vs[j]? = some v → w.cell? ⟨b, off + j, none⟩ = some v)

/-- The slice value reads as the integers l. -/
def IL (w : World) (A : Option Addr) (n c : Nat) (l : List Int) : Prop := VL w A n c (l.map (Value.int .i64))

/-- A slice to which may be appended without a write to what is older than block B; e: the elements' type. -/
def OV (w : World) (B : Nat) (e : TypeId) (A : Option Addr) (n c : Nat) (vs : List Value) : Prop :=
  VL w A n c vs ∧ ((c ≤ n ∧ (A = none → c = 0) ∧ (0 < n → ∃ a, A = some a ∧ B ≤ a.block)) ∨ w.ownsRow B e 1 (.slice A n c) n vs)

def OL (w : World) (B : Nat) (A : Option Addr) (n c : Nat) (l : List Int) : Prop := OV w B 3 A n c (l.map (Value.int .i64))

section
variable {w w' : World} {A A2 : Option Addr} {n c n2 c2 B : Nat} {vs vs2 : List Value} {e : TypeId}

theorem VL.len (h : VL w A n c vs) : vs.length = n := h.1
theorem VL.le (h : VL w A n c vs) : n ≤ c := h.2.1
theorem VL.cap (h : VL w A n c vs) : c ≤ 9223372036854775807 := h.2.2.1
theorem VL.nil (w : World) : VL w none 0 0 [] := ⟨rfl, Nat.le_refl _, by omega, fun h => absurd h (by omega)⟩
theorem VL.empty (w : World) (A : Option Addr) (c : Nat) (hc : c ≤ 9223372036854775807) : VL w A 0 c [] := ⟨rfl, Nat.zero_le _, hc, fun h => absurd h (by omega)⟩
theorem VL.at_ (h : VL w A n c vs) {k : Nat} (hk : k < n) : ∃ b off v, A = some ⟨b, off, none⟩ ∧ vs[k]? = some v ∧ w.cell? ⟨b, off + k, none⟩ = some v := by
  obtain ⟨b, off, e, _, hc⟩ := h.2.2.2 (by omega)
  have hl := h.1
  exact ⟨b, off, vs[k], e, List.getElem?_eq_getElem (by omega), hc k _ (List.getElem?_eq_getElem (by omega))⟩
theorem VL.keep (h : VL w A n c vs) (hs : w.heap.size ≤ w'.heap.size) (hk : ∀ p : Addr, p.block < w.heap.size → w'.cell? p = w.cell? p) : VL w' A n c vs := by
  obtain ⟨h1, h2, h3, h4⟩ := h
  refine ⟨h1, h2, h3, fun hn => ?_⟩
  obtain ⟨b, off, e, hb, hc⟩ := h4 hn
  exact ⟨b, off, e, by omega, fun j v hj => (hk _ hb).trans (hc j v hj)⟩
theorem VL.below (h : VL w A n c vs) (hb : Below w.heap.size w w') : VL w' A n c vs := h.keep hb.size fun _ hp => hb.cell hp
theorem VL.drew (h : VL w A n c vs) : VL w.drew A n c vs := h
theorem VL.drewN (h : VL w A n c vs) (k : Nat) : VL (w.drewN k) A n c vs := h
theorem VL.alloc (h : VL w A n c vs) (o : Obj) : VL (w.alloc o) A n c vs := h.keep (by simp) fun p hp => World.cell?_alloc_lt w o p hp
theorem VL.grown {row : Option Nat} (h : VL w A n c vs) (hg : w.grownBy w' row) (hr : ∀ a, A = some a → some a.block ≠ row) : VL w' A n c vs := by
  obtain ⟨h1, h2, h3, h4⟩ := h
  refine ⟨h1, h2, h3, fun hn => ?_⟩
  obtain ⟨b, off, e, hb, hc⟩ := h4 hn
  have := hg.size
  refine ⟨b, off, e, by omega, fun j v hj => ?_⟩
  rw [World.cell?_of_block (w := w) (hg.block b hb (by simpa using hr _ e))]
  exact hc j v hj

/-- A new block. -/
theorem VL.made (w : World) (e : TypeId) (m c : Nat) (hm : vs.length = m) (hmc : m ≤ c) (hc : c ≤ 9223372036854775807) (cs : Array Value) (hcs : ∀ (j : Nat) (v : Value), vs[j]? = some v → cs[j]? = some v) :
    VL (w.alloc (.cells cs e)) (some ⟨w.heap.size, 0, none⟩) m c vs := by
  refine ⟨hm, hmc, hc, fun _ => ⟨w.heap.size, 0, rfl, by simp, fun j v hj => ?_⟩⟩
  rw [World.cell?_alloc_new, Nat.zero_add]
  exact hcs j v hj
theorem VL.lit (w : World) (e : TypeId) (m : Nat) (vs : List Value) (hm : vs.length = m) (hc : m ≤ 1000000) : VL (w.alloc (.cells vs.toArray e)) (some ⟨w.heap.size, 0, none⟩) m m vs :=
  VL.made w e m m hm (Nat.le_refl _) (by omega) _ (fun j v hj => by simpa using hj)

theorem VL.of_own (h : w.ownsRow B e 1 (.slice A n c) n vs) : VL w A n c vs := by
  have hl : vs.length = n := by simpa using h.1
  rcases h.2 with ⟨hv, rfl⟩ | ⟨g, cap, cur, hv, _, hh, hnc, hcm, hcs, ht⟩
  · injection hv with h1 h2 h3
    subst h1 h3
    exact ⟨hl, by omega, by omega, fun h => absurd h (by omega)⟩
  · injection hv with h1 h2 h3
    subst h1 h3
    refine ⟨hl, hnc, by simpa [maxLen] using hcm, fun _ => ⟨g, 0, rfl, (Array.getElem?_eq_some_iff.1 hh).1, fun j v hj => ?_⟩⟩
    rw [cell_of_row w g (0 + j) cur e (0, 0) hh, Nat.zero_add]
    have hjl := (List.getElem?_eq_some_iff.1 hj).1
    have h2 : (cur.toList.take (n * 1))[j]? = vs[j]? := by rw [ht]
    rw [List.getElem?_take, if_pos (by omega)] at h2
    rw [← hj, ← h2]
    simp

/-- Cutting at the front. -/
theorem VL.drop (h : VL w A n c vs) {k : Nat} (hk : k ≤ n) (A' : Option Addr) (hA : k < n → A' = A.map (·.add k)) : VL w A' (n - k) (c - k) (vs.drop k) := by
  obtain ⟨h1, h2, h3, h4⟩ := h
  refine ⟨by simp [h1], by omega, by omega, fun hn => ?_⟩
  obtain ⟨b, off, e, hb, hc⟩ := h4 (by omega)
  subst e
  refine ⟨b, off + k, by rw [hA (by omega)]; simp [Addr.add_lit], hb, fun j v hj => ?_⟩
  rw [Nat.add_assoc]
  exact hc (k + j) v (by simpa using hj)
theorem VL.drop_if (h : VL w A n c vs) {k : Nat} (hk : k ≤ n) : VL w (if c = k then A else A.map (·.add k)) (n - k) (c - k) (vs.drop k) :=
  h.drop hk _ fun hkn => by have := h.le; rw [if_neg (by omega)]

/-- Cutting at the back, the capacity cut or not. -/
theorem VL.take (h : VL w A n c vs) {k c' : Nat} (hk : k ≤ n) (hkc : k ≤ c') (hcc : c' ≤ c) (A' : Option Addr) (hA : 0 < k → A' = A) : VL w A' k c' (vs.take k) := by
  obtain ⟨h1, h2, h3, h4⟩ := h
  refine ⟨by simp [h1]; omega, hkc, by omega, fun hn => ?_⟩
  obtain ⟨b, off, e, hb, hc⟩ := h4 (by omega)
  refine ⟨b, off, (hA hn).trans e, hb, fun j v hj => ?_⟩
  rw [List.getElem?_take] at hj
  split at hj
  · exact hc j v hj
  · cases hj

theorem own_base {v : Value} {B' m : Nat} (h : w.ownsRow B e 1 v m vs) (hB : B' ≤ B) : w.ownsRow B' e 1 v m vs := by
  refine ⟨h.1, ?_⟩
  rcases h.2 with h2 | ⟨g, cap, cur, hv, hg, r⟩
  · exact .inl h2
  · exact .inr ⟨g, cap, cur, hv, Nat.le_trans hB hg, r⟩

theorem OV.vl (h : OV w B e A n c vs) : VL w A n c vs := h.1
theorem OV.nil (w : World) (B : Nat) (e : TypeId) : OV w B e none 0 0 [] := ⟨VL.nil w, .inl ⟨Nat.le_refl _, fun _ => rfl, fun h => absurd h (by omega)⟩⟩
theorem OV.full (h : VL w A n n vs) (hA : A = none → n = 0) (B : Nat) (e : TypeId) (hn : 0 < n → ∃ a, A = some a ∧ B ≤ a.block) : OV w B e A n n vs := ⟨h, .inl ⟨Nat.le_refl _, hA, hn⟩⟩
theorem OV.drew (h : OV w B e A n c vs) : OV w.drew B e A n c vs := h
theorem OV.drewN (h : OV w B e A n c vs) (k : Nat) : OV (w.drewN k) B e A n c vs := h
theorem OV.alloc (h : OV w B e A n c vs) (o : Obj) : OV (w.alloc o) B e A n c vs := ⟨h.1.alloc o, h.2.imp id (fun h => h.alloc o)⟩
theorem OV.mono (h : OV w B e A n c vs) {B' : Nat} (hB : B' ≤ B) : OV w B' e A n c vs :=
  ⟨h.1, h.2.imp (fun ⟨h1, h2, h3⟩ => ⟨h1, h2, fun hn => let ⟨a, e, hb⟩ := h3 hn; ⟨a, e, Nat.le_trans hB hb⟩⟩) (fun h => own_base h hB)⟩
theorem OV.new (h : OV w B e A n c vs) (hn : 0 < n) : ∃ a, A = some a ∧ B ≤ a.block := by
  rcases h.2 with h | h
  · exact h.2.2 hn
  · rcases h.2 with ⟨_, h0⟩ | ⟨g, cap, cur, hv, hg, _⟩
    · omega
    · exact ⟨_, (Value.slice.inj hv).1, hg⟩
theorem OV.below (h : OV w B e A n c vs) (hb : Below w.heap.size w w') : OV w' B e A n c vs :=
  ⟨h.1.below hb, h.2.imp id fun h2 => h2.kept (row := none) ⟨hb.os, hb.tape, hb.output, hb.size, fun k hk _ => hb.block k hk⟩ (by cases hv : (Value.slice A n c).ownBlock <;> simp)⟩
theorem OV.blocks (h : OV w B e A n c vs) : (c ≤ n) ∨ ∃ g, A = some ⟨g, 0, none⟩ ∧ B ≤ g ∧ g < w.heap.size := by
  rcases h.2 with h | h
  · exact .inl h.1
  · rcases h.2 with ⟨hv, _⟩ | ⟨g, cap, cur, hv, hg, hh, _⟩
    · injection hv with _ h2 h3
      exact .inl (by omega)
    · injection hv with h1 h2 h3
      exact .inr ⟨g, h1, hg, (Array.getElem?_eq_some_iff.1 hh).1⟩

theorem own_value {v : Value} {m : Nat} (h : w.ownsRow B e 1 v m vs) (hm : 0 < m) : ∃ A c, v = .slice A m c := by
  rcases h.2 with ⟨_, h0⟩ | ⟨g, cap, cur, hv, _⟩
  · omega
  · exact ⟨_, _, hv⟩

theorem VL.news (h : VL w A n c vs) : ∀ a, A = some a → 0 < n → ∀ j u, vs[j]? = some u → w.cell? (a.add j) = some u := by
  intro a hA hn j u hu
  obtain ⟨b', off', e, _, hc⟩ := h.2.2.2 hn
  rw [hA] at e
  injection e with e
  subst e
  rw [Addr.add_lit]
  exact hc j u hu

theorem new_at {v' : Value} {m k : Nat} (ho : w'.ownsRow B e 1 v' m vs) (hat : v'.ownBlock = (Value.slice none 0 0).ownBlock ∨ v'.ownBlock = some k) :
    ∀ (A' : Option Addr) (c' : Nat), v' = .slice A' m c' → A' = none ∨ ∃ g, A' = some ⟨g, 0, none⟩ ∧ k ≤ g := by
  intro A' c' he
  subst he
  rcases ho.2 with ⟨hv, _⟩ | ⟨g, cap, cur, hv, _⟩
  · injection hv with h1 _ _
    exact .inl h1
  · injection hv with h1 _ _
    subst h1
    rcases hat with hat | hat
    · simp [Value.ownBlock] at hat
    · simp [Value.ownBlock] at hat
      exact .inr ⟨g, rfl, by omega⟩
theorem OV.grown {row : Option Nat} (h : OV w B e A n c vs) (hg : w.grownBy w' row) (hr : ∀ a, A = some a → some a.block ≠ row) : OV w' B e A n c vs := by
  refine ⟨h.1.grown hg hr, h.2.imp id fun h2 => h2.kept hg ?_⟩
  cases A with
  | none => exact .inl rfl
  | some a => exact .inr (hr a rfl)
/-- append(x, y...): the values one behind the other; nothing older than B is written. -/
theorem run_append_OV {t e : TypeId} {z : Value} {bytes : Nat} (ht : Tryz.prog.underlying t = some (.slice e)) (hinfo : (Tryz.prog.info? e).map (fun i => (i.zero, i.size, i.bytes)) = some (some z, 1, bytes)) (hz : z.cells.size = 1) (hby : bytes ≤ 64)
    (ty : TypeId) (hB : B ≤ w.heap.size) (h1 : OV w B e A n c vs) (h2 : VL w A2 n2 c2 vs2) (hc2 : ∀ u ∈ vs2, u.oneCell' = true) (hn : n + n2 ≤ 1000000000) :
    ∃ A' c' w', (Builtin.append_ #[t, t] ty #[.slice A n c, .slice A2 n2 c2]).run Tryz.prog w = .ok (.slice A' (n + n2) c') w' ∧ OV w' B e A' (n + n2) c' (vs ++ vs2) ∧ Below B w w' ∧ w.grownBy w' (Value.slice A n c).ownBlock ∧ (0 < n2 → w'.ownsRow B e 1 (.slice A' (n + n2) c') (n + n2) (vs ++ vs2)) ∧ (A' = A ∨ ∃ g, A' = some ⟨g, 0, none⟩ ∧ w.heap.size ≤ g) := by
  obtain ⟨i0, hi0, hz0, hz1, hz2⟩ := info_parts hinfo
  rcases Nat.eq_zero_or_pos n2 with h0 | h0
  · subst h0
    have hl2 : vs2 = [] := List.eq_nil_of_length_eq_zero h2.1
    subst hl2
    refine ⟨A, c, w, ?_, by simpa using h1, Below.refl _ _, World.grownBy.refl _ _, fun h => absurd h (by omega), .inl rfl⟩
    have hle := h1.1.le
    rcases A2 with _ | a2 <;> rcases A with _ | a <;>
      simp [Builtin.append_, run_underlying ht, sizeOf, typeInfo, hi0, Builtin.lenOf, hle, Builtin.firstCells, loadCells, loadCellsFrom, storeCells]
  · obtain ⟨b2, off2, e2, hb2, _⟩ := h2.2.2.2 h0
    subst e2
    have hnews := h2.news _ rfl h0
    have hlen2 := h2.1
    have hbytes : (n + n2) * bytes ≤ 140737488355328 := Nat.le_trans (Nat.mul_le_mul hn hby) (by omega)
    have mk : ∀ v' w', (Builtin.append_ #[t, t] ty #[.slice A n c, .slice (some ⟨b2, off2, none⟩) n2 c2]).run Tryz.prog w = .ok v' w' → w'.ownsRow B e 1 v' (n + n2) (vs ++ vs2) →
        Below B w w' → w.grownBy w' (Value.slice A n c).ownBlock → (∀ A' c', v' = .slice A' (n + n2) c' → A' = A ∨ ∃ g, A' = some ⟨g, 0, none⟩ ∧ w.heap.size ≤ g) →
        ∃ A' c' w', (Builtin.append_ #[t, t] ty #[.slice A n c, .slice (some ⟨b2, off2, none⟩) n2 c2]).run Tryz.prog w = .ok (.slice A' (n + n2) c') w' ∧ OV w' B e A' (n + n2) c' (vs ++ vs2) ∧ Below B w w' ∧ w.grownBy w' (Value.slice A n c).ownBlock ∧ (0 < n2 → w'.ownsRow B e 1 (.slice A' (n + n2) c') (n + n2) (vs ++ vs2)) ∧ (A' = A ∨ ∃ g, A' = some ⟨g, 0, none⟩ ∧ w.heap.size ≤ g) := by
      intro v' w' hr ho hb hg hnew
      obtain ⟨A', c', rfl⟩ := own_value ho (by omega)
      exact ⟨A', c', w', hr, ⟨VL.of_own ho, .inr ho⟩, hb, hg, fun _ => ho, hnew A' c' rfl⟩
    rcases h1.2 with ⟨hcn, hnone, _⟩ | hown
    · rcases A with _ | a
      · have hc0 : c = 0 := hnone rfl
        have hle := h1.1.le
        obtain rfl : n = 0 := by omega
        subst hc0
        have hl : vs = [] := List.eq_nil_of_length_eq_zero h1.1.1
        subst hl
        obtain ⟨v', w', hr, ho, hg, _, hat⟩ := run_append_own_at (P := Tryz.prog) w B t ty e i0 z 1 bytes ht hi0 hz0 hz1 hz2 hz (by omega)
          (.slice none 0 0) 0 [] (World.ownsRow_nil w B _ 1) ⟨b2, off2, none⟩ n2 c2 vs2 (by simp [hlen2]) hnews hc2 (by simp only [maxLen]; omega) hbytes hB
        exact mk v' w' hr ho ((Below.refl _ _).grown hg hB (by simp [Value.ownBlock])) hg (new_at ho hat)
      · have hle := h1.1.le
        have holds : ∀ j u, vs[j]? = some u → w.cell? (a.add j) = some u := by
          intro j u hu
          have hj := (List.getElem?_eq_some_iff.1 hu).1
          have hl1 := h1.1.1
          exact h1.1.news a rfl (by omega) j u hu
        obtain ⟨v', w', hr, ho, hg⟩ := run_append_arg_grows (P := Tryz.prog) w t ty e i0 z 1 bytes ht hi0 hz0 hz1 hz2 hz (by omega)
          a n c vs (by simp [h1.1.1]) holds ⟨b2, off2, none⟩ n2 c2 vs2 (by simp [hlen2]) hnews (by omega) (by simp only [maxLen]; omega) hbytes
        exact mk v' w' hr (own_base ho hB) ((Below.refl _ _).grown hg hB (by simp)) ⟨hg.os, hg.tape, hg.output, hg.size, fun k hk _ => hg.block k hk (by simp)⟩ (fun A' c' he => by
          subst he
          rcases ho.2 with ⟨hv, _⟩ | ⟨g, cap, cur, hv, hgb, _⟩
          · injection hv with _ h2 _
            omega
          · injection hv with h1 _ _
            exact .inr ⟨g, h1, hgb⟩)
    · obtain ⟨v', w', hr, ho, hg, _, hat⟩ := run_append_own_at (P := Tryz.prog) w B t ty e i0 z 1 bytes ht hi0 hz0 hz1 hz2 hz (by omega)
          (.slice A n c) n vs hown ⟨b2, off2, none⟩ n2 c2 vs2 (by simp [hlen2]) hnews hc2 (by simp only [maxLen]; omega) hbytes hB
      refine mk v' w' hr ho ((Below.refl _ _).grown hg hB fun k hk => ?_) hg ?_
      · exact (hown.lt k hk).1
      · intro A' c' he
        subst he
        rcases hat with hat | hat
        · left
          rcases ho.2 with ⟨hv, hn0⟩ | ⟨g, cap, cur, hv, _⟩
          · exact absurd (Value.slice.inj hv).2.1 (by omega)
          · have h1 := (Value.slice.inj hv).1
            subst h1
            rcases hown.2 with ⟨hv2, _⟩ | ⟨g2, cap2, cur2, hv2, _⟩
            · have h2 := (Value.slice.inj hv2).1
              subst h2
              simp [Value.ownBlock] at hat
            · have h2 := (Value.slice.inj hv2).1
              subst h2
              simp [Value.ownBlock] at hat
              rw [hat]
        · right
          rcases ho.2 with ⟨hv, hn0⟩ | ⟨g, cap, cur, hv, _⟩
          · exact absurd (Value.slice.inj hv).2.1 (by omega)
          · have h1 := (Value.slice.inj hv).1
            subst h1
            simp [Value.ownBlock] at hat
            exact ⟨g, rfl, by omega⟩

end

section
variable {w w' : World} {A A2 : Option Addr} {n c n2 c2 B : Nat} {l l2 : List Int}
theorem IL.len (h : IL w A n c l) : l.length = n := by have := VL.len h; simpa using this
theorem IL.le (h : IL w A n c l) : n ≤ c := VL.le h
theorem IL.cap (h : IL w A n c l) : c ≤ 9223372036854775807 := VL.cap h
theorem IL.nil (w : World) : IL w none 0 0 [] := VL.nil w
theorem IL.empty (w : World) (A : Option Addr) (c : Nat) (hc : c ≤ 9223372036854775807) : IL w A 0 c [] := VL.empty w A c hc
theorem IL.at_ (h : IL w A n c l) {k : Nat} (hk : k < n) : ∃ b off, A = some ⟨b, off, none⟩ ∧ w.cell? ⟨b, off + k, none⟩ = some (.int .i64 (l.getD k 0)) := by
  obtain ⟨b, off, v, e, hv, hc⟩ := VL.at_ h hk
  have hl := h.len
  refine ⟨b, off, e, ?_⟩
  rw [hc, ← hv]
  simp [List.getD, List.getElem?_eq_getElem (show k < l.length by omega)]
theorem IL.below (h : IL w A n c l) (hb : Below w.heap.size w w') : IL w' A n c l := VL.below h hb
theorem IL.drew (h : IL w A n c l) : IL w.drew A n c l := h
theorem IL.drewN (h : IL w A n c l) (k : Nat) : IL (w.drewN k) A n c l := h
theorem IL.alloc (h : IL w A n c l) (o : Obj) : IL (w.alloc o) A n c l := VL.alloc h o
theorem IL.one (w : World) (e : TypeId) (x : Int) : IL (w.alloc (.cells #[.int .i64 x] e)) (some ⟨w.heap.size, 0, none⟩) 1 1 [x] := VL.lit w e 1 [.int .i64 x] rfl (by omega)
theorem IL.drop_if (h : IL w A n c l) {k : Nat} (hk : k ≤ n) : IL w (if c = k then A else A.map (·.add k)) (n - k) (c - k) (l.drop k) := by
  have := VL.drop_if h hk
  rwa [← List.map_drop] at this
theorem IL.drop (h : IL w A n c l) {k : Nat} (hk : k ≤ n) (A' : Option Addr) (hA : k < n → A' = A.map (·.add k)) : IL w A' (n - k) (c - k) (l.drop k) := by
  have := VL.drop h hk A' hA
  rwa [← List.map_drop] at this
theorem IL.take (h : IL w A n c l) {k c' : Nat} (hk : k ≤ n) (hkc : k ≤ c') (hcc : c' ≤ c) (A' : Option Addr) (hA : 0 < k → A' = A) : IL w A' k c' (l.take k) := by
  have := VL.take h hk hkc hcc A' hA
  rwa [← List.map_take] at this
theorem OL.il (h : OL w B A n c l) : IL w A n c l := h.1
theorem OL.nil (w : World) (B : Nat) : OL w B none 0 0 [] := OV.nil w B _
theorem OL.full (h : IL w A n n l) (hA : A = none → n = 0) (B : Nat) (hn : 0 < n → ∃ a, A = some a ∧ B ≤ a.block) : OL w B A n n l := OV.full h hA B _ hn
theorem OL.new (h : OL w B A n c l) (hn : 0 < n) : ∃ a, A = some a ∧ B ≤ a.block := OV.new h hn
theorem OL.drew (h : OL w B A n c l) : OL w.drew B A n c l := h
theorem OL.drewN (h : OL w B A n c l) (k : Nat) : OL (w.drewN k) B A n c l := h
theorem OL.alloc (h : OL w B A n c l) (o : Obj) : OL (w.alloc o) B A n c l := OV.alloc h o
theorem OL.mono (h : OL w B A n c l) {B' : Nat} (hB : B' ≤ B) : OL w B' A n c l := OV.mono h hB
theorem OL.below (h : OL w B A n c l) (hb : Below w.heap.size w w') : OL w' B A n c l := OV.below h hb
theorem OL.grown {row : Option Nat} (h : OL w B A n c l) (hg : w.grownBy w' row) (hr : ∀ a, A = some a → some a.block ≠ row) : OL w' B A n c l := OV.grown h hg hr
theorem IL.grown {row : Option Nat} (h : IL w A n c l) (hg : w.grownBy w' row) (hr : ∀ a, A = some a → some a.block ≠ row) : IL w' A n c l := VL.grown h hg hr
theorem OL.len (h : OL w B A n c l) : l.length = n := h.il.len
end

theorem int_info : (Tryz.prog.info? 3).map (fun i => (i.zero, i.size, i.bytes)) = some (some (.int .i64 0), 1, 8) := by kernel_rfl

/-- An append to a list of integers in the walk. -/
theorem wpList_append_OL {w : World} {ops : Array Oper} {rest : List Oper} {o : Oper} {a : Act} {Q : Exit → Act → World → Prop} {A A2 : Option Addr} {n c n2 c2 : Nat} {l l2 : List Int}
    (B : Nat) (hgd : o.guard = none) (s x : Operand)
    (ho : o.op = .call { callee := .builtin .append, args := #[s, x], argTypes := #[26, 26] }) (hs : a.eval s = .slice A n c) (hx : a.eval x = .slice A2 n2 c2)
    (h1 : OL w B A n c l) (h2 : IL w A2 n2 c2 l2) (hB : B ≤ w.heap.size) (hn : n + n2 ≤ 1000000000)
    (h : ∀ A' c' w', OL w' B A' (n + n2) c' (l ++ l2) → Below B w w' → (w.grownBy w' (Value.slice A n c).ownBlock ∧ (0 < n2 → w'.ownsRow B 3 1 (.slice A' (n + n2) c') (n + n2) ((l ++ l2).map (Value.int .i64))) ∧ (A' = A ∨ ∃ g, A' = some ⟨g, 0, none⟩ ∧ w.heap.size ≤ g)) → wpList Tryz.prog ops Q rest (a.put o.dst (.slice A' (n + n2) c')) w') : wpList Tryz.prog ops Q (o :: rest) a w := by
  obtain ⟨A', c', w', hr, h3, h4, h5, h6, h7⟩ := run_append_OV Tryz.underlying26 int_info rfl (by omega) o.type hB h1 h2 (ints_oneCell _ _) hn
  exact Lib.wpList_append_run w hgd s x _ _ ho _ _ hs hx _ w' hr (h A' c' w' (by unfold OL; rw [List.map_append]; exact h3) h4 ⟨h5, by rw [List.map_append]; exact h6, h7⟩)

end Go.Proofs.YtjinbhnpcdlkiaaGreatDoor


namespace Go.Proofs.YtjinbhnpcdlkiaaGreatDoor
open Go.RowKit

/-- What a call hands back that makes a list of integers. -/
def RL (w : World) (l : List Int) (e : Ending) (w' : World) : Prop := ∃ A n c, e = .returned (.slice A n c) ∧ IL w' A n c l ∧ Below w.heap.size w w'
/-- What a call hands back that only computes, whatever it makes. -/
def RV (w : World) (v : Value) (e : Ending) (w' : World) : Prop := e = .returned v ∧ Below w.heap.size w w'
/-- It only reads: a value, and draws. -/
def RQ (w : World) (v : Value) (e : Ending) (w' : World) : Prop := e = .returned v ∧ ∃ k, w' = w.drewN k
theorem below_drewN (B : Nat) (w : World) (k : Nat) : Below B w (w.drewN k) := ⟨rfl, rfl, rfl, Nat.le_refl _, fun _ _ => rfl⟩
theorem RQ.rv {w : World} {v : Value} {e : Ending} {w' : World} (h : RQ w v e w') : RV w v e w' := by
  obtain ⟨he, k, rfl⟩ := h
  exact ⟨he, below_drewN _ _ _⟩
/-- What a call hands back that makes a list of integers of its own. -/
def RO (w : World) (l : List Int) (e : Ending) (w' : World) : Prop := ∃ A n c, e = .returned (.slice A n c) ∧ OL w' w.heap.size A n c l ∧ Below w.heap.size w w'
theorem RO.rl {w : World} {l : List Int} {e : Ending} {w' : World} (h : RO w l e w') : RL w l e w' := by
  obtain ⟨A, n, c, he, ho, hb⟩ := h
  exact ⟨A, n, c, he, ho.il, hb⟩

theorem ret_int {k : IntKind} {a b : Int} (h : a = b) : Ending.returned (.int k a) = .returned (.int k b) := by rw [h]
theorem ret_bool {a b : Bool} (h : a = b) : Ending.returned (.bool a) = .returned (.bool b) := by rw [h]

def I64 (l : List Int) : Prop := ∀ x, x ∈ l → -9223372036854775808 ≤ x ∧ x ≤ 9223372036854775807
theorem I64.getD {l : List Int} (h : I64 l) (k : Nat) : -9223372036854775808 ≤ l.getD k 0 ∧ l.getD k 0 ≤ 9223372036854775807 := by
  by_cases hk : k < l.length
  · have : l.getD k 0 = l[k] := by simp [List.getD, List.getElem?_eq_getElem hk]
    rw [this]
    exact h _ (List.getElem_mem hk)
  · have : l.getD k 0 = 0 := by simp [List.getD, List.getElem?_eq_none (show l.length ≤ k by omega)]
    omega

theorem around_any (n m : Int) (w : World) (hn : -9223372036854775808 ≤ n) (hn2 : n ≤ 9223372036854775807) (hm : 1 ≤ m) (hm2 : m ≤ 100000) :
    Calls Tryz.prog 7 #[.int .i64 n, .int .i64 m] w fun e w' => e = .returned (.int .i64 (around n m)) ∧ w = w' := by
  go_enter Tryz.func7, Tryz.ntmps7
  go_wp2
  · go_ret
    exact ⟨ret_int (by unfold around; rw [if_pos (by assumption)]; rw [← Int.neg_tmod]; exact Int.tmod_eq_emod_of_nonneg (show (0 : Int) ≤ -(n + 1) by omega)), rfl⟩
  · go_ret
    exact ⟨ret_int (by unfold around; rw [if_neg (by omega)]), rfl⟩

theorem goodL_succ (l : List Int) (k : Nat) (hk : k < l.length) : goodL l (k + 1) = goodL l k ++ [around (l.getD k 0) 10] := by
  unfold goodL
  have e : l.getD k 0 = l[k] := by simp [List.getD, List.getElem?_eq_getElem hk]
  rw [List.take_succ_eq_append_getElem hk, List.map_append, e]
  rfl
theorem goodL_all (l : List Int) (k m : Nat) (h : l.length ≤ k) (h2 : l.length ≤ m) : goodL l k = goodL l m := by
  unfold goodL
  rw [List.take_of_length_le h, List.take_of_length_le h2]

set_option maxHeartbeats 400000 in
theorem goodo_any (A : Option Addr) (n c most : Nat) (l : List Int) (w : World) (h : IL w A n c l) (hl : I64 l) (hm : most ≤ 100000) :
    Calls Tryz.prog 34 #[.slice A n c, .int .i64 (most : Int)] w (RO w (goodL l most)) := by
  have hle := h.le
  have hcap := h.cap
  have hlen := Lib.hid h.len
  go_enter Tryz.func34, Tryz.ntmps34
  go_wp2
  go_loopw [5, 6] (fun v i wr => ∃ (k : Nat) (A' : Option Addr) (c' : Nat), k ≤ n ∧ k ≤ most ∧ i = .int .i64 k ∧ v = .slice A' k c' ∧ OL wr w.heap.size A' k c' (goodL l k) ∧ Below w.heap.size w wr)
    (fun _ i _ => n - (intOf i).toNat)
  case atStart => exact ⟨0, none, 0, Nat.zero_le _, Nat.zero_le _, rfl, rfl, by simpa [goodL] using OL.nil _ _, Below.refl _ _⟩
  case round =>
    obtain ⟨k, A', c', hk, hkm, rfl, rfl, hO, hB⟩ := hrel
    have hsz := hB.size
    by_cases hlt : k < n
    · by_cases hlm : k < most
      · obtain ⟨b, off, rfl, hc⟩ := (h.below hB).at_ hlt
        have hx := hl.getD k
        generalize hxe : l.getD k 0 = x at *
        have Hxe := Lib.hid hxe
        clear hxe
        go_wp2_with (first
          | (go_at_call 7; refine (around_any _ _ _ hx.1 hx.2 (by omega) (by omega)).mono ?_; rintro e w' ⟨rfl, rfl⟩)
          | (at_builtin; refine wpList_append_OL w.heap.size rfl _ _ rfl rfl rfl (hO.alloc _) (IL.one _ _ _) (by simp; omega) (by omega) ?_; intro A2 c2 w2 hO2 hB2 hg2))
        go_roundw
        case rel => exact ⟨k + 1, A2, c2, by omega, by omega, by go_num, rfl, by rw [goodL_succ l k (by rw [hlen.out]; exact hlt), Hxe.out]; exact hO2, (hB.alloc hsz _).trans hB2⟩
        case measure => simp [intOf]; omega
      · have hkm' : k = most := by omega
        subst hkm'
        go_wp2
        go_ret
        exact ⟨_, _, _, rfl, hO, hB⟩
    · have hkn : k = n := by omega
      subst hkn
      go_wp2
      go_ret
      exact ⟨_, _, _, rfl, by rw [goodL_all l most k (by rw [hlen.out]; omega) (by rw [hlen.out]; omega)]; exact hO, hB⟩

theorem good_any (A : Option Addr) (n c most : Nat) (l : List Int) (w : World) (h : IL w A n c l) (hl : I64 l) (hm : most ≤ 100000) :
    Calls Tryz.prog 34 #[.slice A n c, .int .i64 (most : Int)] w (RL w (goodL l most)) :=
  (goodo_any A n c most l w h hl hm).mono fun _ _ h => RO.rl h

end Go.Proofs.YtjinbhnpcdlkiaaGreatDoor


namespace Go.Proofs.YtjinbhnpcdlkiaaGreatDoor
open Go.ChangeShapes Go.WideShapes Go.ChangeAt Go.RowKit
open Go.ChangeMaps (open_string shut_string)

theorem own : ownKnob Tryz.prog.godebug = none := by kernel_rfl
theorem laidOut : laidOutB Tryz.prog = true := by kernel_rfl

section
variable {H : Type} {enc : TypeId × Value → H} {W : World}
theorem wf_bd {n : Int} (h : (Lit.int .i64 n).wf = true) : -9223372036854775808 ≤ n ∧ n ≤ 9223372036854775807 := by
  exact bounds_i64 h

theorem arg_ints {fuel : Nat} {v : Value} {x : DataW H × List MemPlace} (h : DataW.trod enc Tryz.prog W 0 (fun _ => true) true fuel 26 [v] = some x) :
    ∃ A n c l, v = .slice A n c ∧ IL W A n c l ∧ I64 l := by
  rcases open_ints Tryz.underlying26 Tryz.underlying3 (by kernel_rfl) h with ⟨hcs, _⟩ | ⟨a, len, cap, zs, hcs, _, hl, hm, hz, _, hcell, hwz⟩
  · simp at hcs
    exact ⟨none, 0, 0, [], hcs, IL.nil _, fun x hx => by cases hx⟩
  · simp at hcs
    have hz' : zs.length = cap := by simpa using hz
    refine ⟨some a, len, cap, zs.take len, hcs, ⟨by simp; omega, hl, by simpa [maxLen] using hm, fun hn => ?_⟩, fun x hx => wf_bd (hwz x (List.mem_of_mem_take hx))⟩
    have hc0 := hcell 0 (by omega)
    obtain ⟨b, off, spot⟩ := a
    have hspot : spot = none := by simpa [Addr.add] using World.cell?_spot hc0
    subst hspot
    refine ⟨b, off, rfl, World.block_lt_of_cell? W _ hc0, fun j v hj => ?_⟩
    rw [List.getElem?_map, List.getElem?_take] at hj
    split at hj
    · rename_i hjl
      have hjz : j < zs.length := by omega
      rw [List.getElem?_eq_getElem hjz] at hj
      simp at hj
      have := hcell j hjz
      rw [Addr.add_lit] at this
      rw [this, ← hj]
      simp [List.getD, List.getElem?_eq_getElem hjz]
    · cases hj
theorem arg_int {fuel : Nat} {v : Value} {x : DataW H × List MemPlace} (h : DataW.trod enc Tryz.prog W 0 (fun _ => true) true fuel 3 [v] = some x) :
    ∃ n : Int, v = .int .i64 n ∧ -9223372036854775808 ≤ n ∧ n ≤ 9223372036854775807 := by
  obtain ⟨n, e0, _, hw⟩ := DataW.trod_int Tryz.underlying3 h
  simp at e0
  exact ⟨n, e0, wf_bd hw⟩
theorem arg_bool {fuel : Nat} {v : Value} {x : DataW H × List MemPlace} (h : DataW.trod enc Tryz.prog W 0 (fun _ => true) true fuel 4 [v] = some x) : ∃ b : Bool, v = .bool b := by
  obtain ⟨b, e0, _⟩ := DataW.trod_bool Tryz.underlying4 h
  simp at e0
  exact ⟨b, e0⟩
end
end Go.Proofs.YtjinbhnpcdlkiaaGreatDoor


namespace Go.Proofs.YtjinbhnpcdlkiaaGreatDoor
open Go.RowKit

theorem below_from {w w1 w' : World} (h1 : Below w.heap.size w w1) (h2 : Below w1.heap.size w1 w') : Below w.heap.size w w' := h1.trans (h2.mono h1.size)
theorem RO.from_ {w w1 : World} {l : List Int} {e : Ending} {w' : World} (h : RO w1 l e w') (hb : Below w.heap.size w w1) : RO w l e w' := by
  obtain ⟨A, n, c, he, ho, hb'⟩ := h
  exact ⟨A, n, c, he, ho.mono hb.size, below_from hb hb'⟩

/-! ### slices.IndexFunc -/
def idxP (p : Int → Bool) : List Int → Nat → Int
  | [], _ => -1
  | x :: l, k => if p x then (k : Int) else idxP p l (k + 1)
theorem idxP_drop (p : Int → Bool) (l : List Int) (k : Nat) (hk : k < l.length) : idxP p (l.drop k) k = if p (l.getD k 0) then (k : Int) else idxP p (l.drop (k + 1)) (k + 1) := by
  rw [List.drop_eq_getElem_cons hk]
  simp [idxP, List.getD, List.getElem?_eq_getElem hk]
theorem idxP_ge (p : Int → Bool) (l : List Int) (k : Nat) : idxP p l k = -1 ∨ (k ≤ idxP p l k ∧ idxP p l k < k + l.length) := by
  induction l generalizing k with
  | nil => exact .inl rfl
  | cons x l ih =>
    simp only [idxP]
    split
    · exact .inr ⟨by omega, by simp; omega⟩
    · rcases ih (k + 1) with h | h
      · exact .inl h
      · exact .inr ⟨by omega, by simp; omega⟩
theorem idxP_any (p : Int → Bool) (l : List Int) (k : Nat) : (0 ≤ idxP p l k) ↔ l.any p = true := by
  induction l generalizing k with
  | nil => simp [idxP]
  | cons x l ih =>
    simp only [idxP, List.any_cons, Bool.or_eq_true]
    split
    · simp [*]
    · rw [ih]; simp [*]

set_option maxHeartbeats 400000 in
theorem indexFunc_zeros (p : Int → Bool) (hp : ∀ (x : Int) (W : World), -9223372036854775808 ≤ x → x ≤ 9223372036854775807 → Calls Tryz.prog 96 #[.int .i64 x] W fun e W' => e = .returned (.bool (p x)) ∧ W = W')
    (A : Option Addr) (n c : Nat) (l : List Int) (w : World) (h : IL w A n c l) (hl : I64 l) :
    Calls Tryz.prog 95 #[.slice A n c, .func (.func 96) #[] #[]] w fun e w' => e = .returned (.int .i64 (idxP p l 0)) ∧ w = w' := by
  have hle := h.le
  have hcap := h.cap
  have hlen := Lib.hid h.len
  have Hp := Lib.hid hp
  clear hp
  go_enter Tryz.func95, Tryz.ntmps95
  go_wp2_with fail
  go_loop [5, 8] (fun j i => ∃ k : Nat, k ≤ n ∧ i = .int .i64 k ∧ Hid (idxP p l 0 = idxP p (l.drop k) k)) (fun _ i => n - (intOf i).toNat)
  case atStart => exact ⟨0, Nat.zero_le _, rfl, rfl⟩
  case round =>
    obtain ⟨k, hk, rfl, hI⟩ := hrel
    by_cases hlt : k < n
    · obtain ⟨b, off, rfl, hc⟩ := h.at_ hlt
      have hx := hl.getD k
      have hst := Lib.hid (idxP_drop p l k (by rw [hlen.out]; exact hlt))
      generalize hxe : l.getD k 0 = x at *
      clear hxe
      cases hpx : p x
      · go_wp2_with fail
        refine (Hp.out _ _ hx.1 hx.2).mono ?_
        rw [hpx]
        rintro e w' ⟨rfl, rfl⟩
        go_wp2_with fail
        go_round
        case rel => exact ⟨k + 1, by omega, by go_num, by rw [Hid, hI.out, hst.out, hpx]; rfl⟩
        case measure => simp [intOf]; omega
      · go_wp2_with fail
        refine (Hp.out _ _ hx.1 hx.2).mono ?_
        rw [hpx]
        rintro e w' ⟨rfl, rfl⟩
        go_wp2_with fail
        go_ret
        exact ⟨ret_int (by rw [hI.out, hst.out, hpx]; rfl), rfl⟩
    · have hkn : k = n := by omega
      subst hkn
      go_wp2
      go_ret
      exact ⟨ret_int (by rw [hI.out, List.drop_of_length_le (by rw [hlen.out]; omega)]; rfl), rfl⟩

set_option maxHeartbeats 400000 in
theorem indexFunc_may (p : Int → Bool) (hp : ∀ (x : Int) (W : World), -9223372036854775808 ≤ x → x ≤ 9223372036854775807 → Calls Tryz.prog 90 #[.int .i64 x] W fun e W' => e = .returned (.bool (p x)) ∧ W = W')
    (A : Option Addr) (n c : Nat) (l : List Int) (w : World) (h : IL w A n c l) (hl : I64 l) :
    Calls Tryz.prog 95 #[.slice A n c, .func (.func 90) #[] #[]] w fun e w' => e = .returned (.int .i64 (idxP p l 0)) ∧ w = w' := by
  have hle := h.le
  have hcap := h.cap
  have hlen := Lib.hid h.len
  have Hp := Lib.hid hp
  clear hp
  go_enter Tryz.func95, Tryz.ntmps95
  go_wp2_with fail
  go_loop [5, 8] (fun j i => ∃ k : Nat, k ≤ n ∧ i = .int .i64 k ∧ Hid (idxP p l 0 = idxP p (l.drop k) k)) (fun _ i => n - (intOf i).toNat)
  case atStart => exact ⟨0, Nat.zero_le _, rfl, rfl⟩
  case round =>
    obtain ⟨k, hk, rfl, hI⟩ := hrel
    by_cases hlt : k < n
    · obtain ⟨b, off, rfl, hc⟩ := h.at_ hlt
      have hx := hl.getD k
      have hst := Lib.hid (idxP_drop p l k (by rw [hlen.out]; exact hlt))
      generalize hxe : l.getD k 0 = x at *
      clear hxe
      cases hpx : p x
      · go_wp2_with fail
        refine (Hp.out _ _ hx.1 hx.2).mono ?_
        rw [hpx]
        rintro e w' ⟨rfl, rfl⟩
        go_wp2_with fail
        go_round
        case rel => exact ⟨k + 1, by omega, by go_num, by rw [Hid, hI.out, hst.out, hpx]; rfl⟩
        case measure => simp [intOf]; omega
      · go_wp2_with fail
        refine (Hp.out _ _ hx.1 hx.2).mono ?_
        rw [hpx]
        rintro e w' ⟨rfl, rfl⟩
        go_wp2_with fail
        go_ret
        exact ⟨ret_int (by rw [hI.out, hst.out, hpx]; rfl), rfl⟩
    · have hkn : k = n := by omega
      subst hkn
      go_wp2
      go_ret
      exact ⟨ret_int (by rw [hI.out, List.drop_of_length_le (by rw [hlen.out]; omega)]; rfl), rfl⟩

theorem zeros1_any (x : Int) (w : World) (_h1 : -9223372036854775808 ≤ x) (_h2 : x ≤ 9223372036854775807) :
    Calls Tryz.prog 96 #[.int .i64 x] w fun e w' => e = .returned (.bool (x != 0)) ∧ w = w' := by
  go_enter Tryz.func96, Tryz.ntmps96
  go_wp2
  go_ret
  exact ⟨rfl, rfl⟩
theorem may1_any (x : Int) (w : World) (h1 : -9223372036854775808 ≤ x) (h2 : x ≤ 9223372036854775807) :
    Calls Tryz.prog 90 #[.int .i64 x] w fun e w' => e = .returned (.bool (!isDig x)) ∧ w = w' := by
  by_cases h : x < 0
  · go_enter Tryz.func90, Tryz.ntmps90
    go_wp2
    go_ret
    exact ⟨ret_bool (by simp [isDig]; omega), rfl⟩
  · go_enter Tryz.func90, Tryz.ntmps90
    go_wp2
    go_ret
    exact ⟨ret_bool (by rw [Bool.eq_iff_iff]; simp [isDig]; omega), rfl⟩

theorem idx_zeros (l : List Int) (k : Nat) : idxP (· != 0) l k = if zerosL l = l.length then -1 else ((k + zerosL l : Nat) : Int) := by
  induction l generalizing k with
  | nil => rfl
  | cons x l ih =>
    have hz := zerosL_le l
    by_cases h : x = 0
    · subst h
      have e1 : zerosL (0 :: l) = zerosL l + 1 := by simp [zerosL]
      simp only [idxP, bne_self_eq_false, Bool.false_eq_true, if_false]
      rw [ih, e1, List.length_cons]
      by_cases h2 : zerosL l = l.length
      · rw [if_pos h2, if_pos (by omega)]
      · rw [if_neg h2, if_neg (by omega)]; omega
    · have e1 : zerosL (x :: l) = 0 := by simp [zerosL, h]
      simp only [idxP]
      rw [if_pos (by simpa using h), e1, if_neg (by simp)]
      simp

theorem zeros_any (A : Option Addr) (n c : Nat) (l : List Int) (w : World) (h : IL w A n c l) (hl : I64 l) :
    Calls Tryz.prog 84 #[.slice A n c] w fun e w' => e = .returned (.int .i64 (zerosL l)) ∧ w = w' := by
  have hcap := h.cap
  have hle := h.le
  have hlen := h.len
  have hz := zerosL_le l
  have e1 := idx_zeros l 0
  by_cases h1 : zerosL l = l.length
  · rw [if_pos h1] at e1
    have E1 := Lib.hid e1
    have H1 := Lib.hid h1
    have HL := Lib.hid hlen
    clear e1 h1 hlen
    go_enter Tryz.func84, Tryz.ntmps84
    go_wp2_with (first | (go_at_call 95; refine (indexFunc_zeros _ zeros1_any _ _ _ l _ h hl).mono ?_; rw [E1.out]; rintro e w' ⟨rfl, rfl⟩))
    go_ret
    exact ⟨ret_int (by rw [H1.out, HL.out]), rfl⟩
  · rw [if_neg h1] at e1
    have hp : (0 : Int) ≤ idxP (· != 0) l 0 := by omega
    generalize hy : idxP (· != 0) l 0 = y at *
    have E1 := Lib.hid e1
    have HY := Lib.hid hy
    clear e1 h1 hlen hy
    go_enter Tryz.func84, Tryz.ntmps84
    go_wp2_with (first | (go_at_call 95; refine (indexFunc_zeros _ zeros1_any _ _ _ l _ h hl).mono ?_; rw [HY.out]; rintro e w' ⟨rfl, rfl⟩))
    go_ret
    exact ⟨ret_int (by rw [E1.out]; simp), rfl⟩

theorem mayL_any (l : List Int) : mayL l = !(l.any fun x => !isDig x) := by
  induction l with
  | nil => rfl
  | cons x l ih => simp [ih]

theorem containsFunc_may (A : Option Addr) (n c : Nat) (l : List Int) (w : World) (h : IL w A n c l) (hl : I64 l) :
    Calls Tryz.prog 89 #[.slice A n c, .func (.func 90) #[] #[]] w fun e w' => e = .returned (.bool (!mayL l)) ∧ w = w' := by
  have e1 : decide (0 ≤ idxP (fun x => !isDig x) l 0) = !mayL l := by
    rw [mayL_any, Bool.not_not, Bool.eq_iff_iff]; simp only [decide_eq_true_eq]; exact idxP_any _ l 0
  generalize hy : idxP (fun x => !isDig x) l 0 = y at *
  have HY := Lib.hid hy
  have E1 := Lib.hid e1
  clear hy e1
  go_enter Tryz.func89, Tryz.ntmps89
  go_wp2_with (first | (go_at_call 95; refine (indexFunc_may _ may1_any _ _ _ l _ h hl).mono ?_; rw [HY.out]; rintro e w' ⟨rfl, rfl⟩))
  go_ret
  exact ⟨ret_bool (by rw [← E1.out]), rfl⟩

theorem may_any (A : Option Addr) (n c : Nat) (l : List Int) (w : World) (h : IL w A n c l) (hl : I64 l) :
    Calls Tryz.prog 78 #[.slice A n c] w fun e w' => e = .returned (.bool (mayL l)) ∧ w = w' := by
  generalize hb : mayL l = b
  have HB := Lib.hid hb
  clear hb
  go_enter Tryz.func78, Tryz.ntmps78
  go_wp2_with (first | (go_at_call 89; refine (containsFunc_may _ _ _ l _ h hl).mono ?_; rw [HB.out]; rintro e w' ⟨rfl, rfl⟩))
  go_ret
  exact ⟨ret_bool (by simp), rfl⟩

/-- slices.Clone. -/
theorem clone_any (A : Option Addr) (n c : Nat) (l : List Int) (w : World) (h : IL w A n c l) (hn : n ≤ 100000000) :
    Calls Tryz.prog 83 #[.slice A n c] w (RO w l) := by
  have hle := h.le
  rcases A with _ | a
  · have hn0 : n = 0 := by
      rcases Nat.eq_zero_or_pos n with h0 | h0
      · exact h0
      · obtain ⟨_, _, e, _⟩ := h.at_ h0
        cases e
    have hl0 : l = [] := List.eq_nil_of_length_eq_zero (by rw [h.len, hn0])
    subst hl0
    clear hle
    subst hn0
    have hnil := fun W => Lib.run_eql_slice_nil (P := Tryz.prog) W 26 3 none 0 c 0 0 Tryz.underlying26
    go_enter Tryz.func83, Tryz.ntmps83
    go_wp2
    go_ret
    exact ⟨_, _, _, rfl, OL.nil _ _, Below.refl _ _⟩
  · have hnil := fun W => Lib.run_eql_slice_nil (P := Tryz.prog) W 26 3 (some a) n c 0 0 Tryz.underlying26
    go_enter Tryz.func83, Tryz.ntmps83
    go_wp2_with (first
      | (at_builtin; go_must (refine wpList_append_OL w.heap.size rfl _ _ rfl rfl rfl (l := []) (OL.full (IL.empty _ _ _ (by omega)) (by intro h; cases h) _ (fun h => absurd h (by omega))) (h.alloc _) (by simp) (by omega) ?_; intro A2 c2 w2 hO2 hB2 hg2)))
    go_ret
    exact ⟨_, _, _, rfl, by simpa using hO2, ((Below.refl _ _).alloc (Nat.le_refl _) _).trans hB2⟩

end Go.Proofs.YtjinbhnpcdlkiaaGreatDoor

