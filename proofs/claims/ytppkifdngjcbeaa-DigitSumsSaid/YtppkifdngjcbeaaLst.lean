/- Lists of lists that grow: rows of slice values, what stands in them, and what an append leaves. No condition. -/
import Derived.Test.YtppkifdngjcbeaaSum
import Derived.Test.YtppkifdngjcbeaaL5b
namespace Go.Proofs.Ytppkifdngjcbeaa
open Go.RowKit

section
variable {W W' : World} {R R' : Nat → Prop} {A A2 : Option Addr} {n c n2 c2 : Nat} {vs vs2 : List Value} {row : Option Nat}
theorem VL.blkz (h : VL W A n c vs) (hz : 0 < n) : ∀ a, A = some a → a.block < W.heap.size := fun a ha => by
  obtain ⟨b, off, e, hb, _⟩ := h.2.2.2 hz
  rw [e] at ha
  obtain rfl := Option.some.inj ha
  exact hb
theorem VL.growz (h : VL W A n c vs) (hg : W.grownBy W' row) (hr : 0 < n → ∀ a, A = some a → some a.block ≠ row) : VL W' A n c vs := by
  rcases Nat.eq_zero_or_pos n with h0 | h0
  · subst h0
    exact ⟨h.1, h.2.1, h.2.2.1, fun hh => absurd hh (by omega)⟩
  · exact h.grown hg (hr h0)
/-- A row of values that lies in no block of R. -/
def VN (W : World) (R : Nat → Prop) (A : Option Addr) (n c : Nat) (vs : List Value) : Prop := VL W A n c vs ∧ (0 < n → ∀ a, A = some a → ¬ R a.block)
theorem VN.below (h : VN W R A n c vs) (hb : Below W.heap.size W W') : VN W' R A n c vs := ⟨h.1.below hb, h.2⟩
theorem VN.push (h : VN W R A n c vs) (hg : W.grownBy W' row) (hrow : ∀ b, row = some b → R b) (hR : ∀ b, b < W.heap.size → R' b → R b) : VN W' R' A n c vs :=
  ⟨h.1.growz hg (fun hz a ha e => h.2 hz a ha (hrow _ e.symm)), fun hz a ha r => h.2 hz a ha (hR _ (h.1.blkz hz a ha) r)⟩
theorem VN.mono (h : VN W R A n c vs) (hR : ∀ b, b < W.heap.size → R' b → R b) : VN W R' A n c vs := ⟨h.1, fun hz a ha r => h.2 hz a ha (hR _ (h.1.blkz hz a ha) r)⟩
theorem VN.old {w : World} (h : VL w A n c vs) (hb : Below w.heap.size w W) (hR : ∀ b, R b → w.heap.size ≤ b) : VN W R A n c vs :=
  ⟨h.below hb, fun hz a ha r => by have := hR _ r; have := h.blkz hz a ha; omega⟩
theorem VN.newer {B : Nat} (h : VL W A n c vs) (hn : 0 < n → ∀ a, A = some a → B ≤ a.block) (hR : ∀ b, R b → b < B) : VN W R A n c vs :=
  ⟨h, fun hz a ha r => by have := hR _ r; have := hn hz a ha; omega⟩
/-- The values are slices that read as these lists and lie in no block of R. -/
def EL (W : World) (R : Nat → Prop) (vs : List Value) (ls : List (List Int)) : Prop :=
  vs.length = ls.length ∧ ∀ k, k < ls.length → ∃ A n c, vs[k]? = some (.slice A n c) ∧ VN W R A n c ((ls.getD k []).map (Value.int .i64))
variable {ls : List (List Int)} {l : List Int}
theorem EL.nil : EL W R [] [] := ⟨rfl, fun k hk => by simp at hk⟩
theorem EL.map_ (h : EL W R vs ls) (f : ∀ A n c l, VN W R A n c l → VN W' R' A n c l) : EL W' R' vs ls := ⟨h.1, fun k hk => let ⟨A, n, c, e, g⟩ := h.2 k hk; ⟨A, n, c, e, f _ _ _ _ g⟩⟩
theorem EL.below (h : EL W R vs ls) (hb : Below W.heap.size W W') : EL W' R vs ls := h.map_ fun _ _ _ _ g => g.below hb
theorem EL.push (h : EL W R vs ls) (hg : W.grownBy W' row) (hrow : ∀ b, row = some b → R b) (hR : ∀ b, b < W.heap.size → R' b → R b) : EL W' R' vs ls := h.map_ fun _ _ _ _ g => g.push hg hrow hR
theorem EL.snoc (h : EL W R vs ls) (g : VN W R A n c (l.map (Value.int .i64))) : EL W R (vs ++ [.slice A n c]) (ls ++ [l]) := by
  refine ⟨by simp [h.1], fun k hk => ?_⟩
  by_cases hlt : k < ls.length
  · obtain ⟨A', n', c', e, r⟩ := h.2 k hlt
    refine ⟨A', n', c', by rw [List.getElem?_append_left (by rw [h.1]; exact hlt)]; exact e, ?_⟩
    rw [show (ls ++ [l]).getD k [] = ls.getD k [] by simp [List.getD, List.getElem?_append_left hlt]]
    exact r
  · have hk2 : k = ls.length := by simp at hk; omega
    subst hk2
    refine ⟨A, n, c, by rw [List.getElem?_append_right (by rw [h.1]; exact Nat.le_refl _), h.1]; simp, ?_⟩
    rw [show (ls ++ [l]).getD ls.length [] = l by simp [List.getD]]
    exact g
theorem EL.cons (h : EL W R vs ls) (g : VN W R A n c (l.map (Value.int .i64))) : EL W R ([.slice A n c] ++ vs) ([l] ++ ls) := by
  refine ⟨by simp [h.1], fun k hk => ?_⟩
  rcases Nat.eq_zero_or_pos k with h0 | h0
  · subst h0
    exact ⟨A, n, c, by simp, by simpa using g⟩
  · obtain ⟨j, rfl⟩ : ∃ j, k = j + 1 := ⟨k - 1, by omega⟩
    obtain ⟨A', n', c', e, r⟩ := h.2 j (by simp at hk; omega)
    exact ⟨A', n', c', by simpa using e, by simpa [List.getD] using r⟩
theorem EL.ll (h : EL W R vs ls) (hv : VL W A n c vs) : LL W A n c ls := ⟨vs, hv, h.1, fun k hk => let ⟨A', n', c', e, g⟩ := h.2 k hk; ⟨A', n', c', e, g.1⟩⟩
theorem EL.cells (h : EL W R vs ls) : ∀ u ∈ vs, u.oneCell' = true := fun u hu => by
  obtain ⟨k, hk, rfl⟩ := List.mem_iff_getElem.1 hu
  obtain ⟨A', n', c', e, _⟩ := h.2 k (by rw [← h.1]; exact hk)
  rw [List.getElem?_eq_getElem hk] at e
  rw [Option.some.inj e]; rfl
end

theorem rows_info : (Try.prog.info? 23).map (fun i => (i.zero, i.size, i.bytes)) = some (some (.slice none 0 0), 1, 24) := by kernel_rfl
/-- An append to a list of lists in the walk. -/
theorem wpList_append_LV {w : World} {ops : Array Oper} {rest : List Oper} {o : Oper} {a : Act} {Q : Exit → Act → World → Prop} {A A2 : Option Addr} {n c n2 c2 : Nat} {l l2 : List Value}
    (B : Nat) (hgd : o.guard = none) (s x : Operand)
    (ho : o.op = .call { callee := .builtin .append, args := #[s, x], argTypes := #[22, 22] }) (hs : a.eval s = .slice A n c) (hx : a.eval x = .slice A2 n2 c2)
    (h1 : OV w B 23 A n c l) (h2 : VL w A2 n2 c2 l2) (hc : ∀ u ∈ l2, u.oneCell' = true) (hB : B ≤ w.heap.size) (hn : n + n2 ≤ 1000000000)
    (h : ∀ A' c' w', OV w' B 23 A' (n + n2) c' (l ++ l2) → Below B w w' → w.grownBy w' (Value.slice A n c).ownBlock → (A' = A ∨ ∃ g, A' = some ⟨g, 0, none⟩ ∧ w.heap.size ≤ g) → wpList Try.prog ops Q rest (a.put o.dst (.slice A' (n + n2) c')) w') : wpList Try.prog ops Q (o :: rest) a w := by
  obtain ⟨A', c', w', hr, h3, h4, h5, h6, h7⟩ := run_append_OV Try.underlying22 rows_info rfl (by omega) o.type hB h1 h2 hc hn
  exact Lib.wpList_append_run w hgd s x _ _ ho _ _ hs hx _ w' hr (h A' c' w' h3 h4 h5 h7)

/-- The blocks of two rows. -/
def RW (A3 A4 : Option Addr) (b : Nat) : Prop := ∃ a : Addr, (A3 = some a ∨ A4 = some a) ∧ a.block = b
theorem RW.swap {A3 A4 : Option Addr} {b : Nat} (h : RW A3 A4 b) : RW A4 A3 b := let ⟨a, h1, h2⟩ := h; ⟨a, h1.symm, h2⟩
/-- Two rows that grow, a row and a list beside them. -/
structure ST (w W : World) (A3 : Option Addr) (n3 c3 : Nat) (L3 : List (List Int)) (A4 : Option Addr) (n4 c4 : Nat) (L4 : List (List Int)) (A5 : Option Addr) (n5 c5 : Nat) (L5 : List (List Int)) (A7 : Option Addr) (n7 c7 : Nat) (l7 : List Int) : Prop where
  b : Below w.heap.size w W
  o3 : ∃ v3, OV W w.heap.size 23 A3 n3 c3 v3 ∧ EL W (RW A3 A4) v3 L3
  o4 : ∃ v4, OV W w.heap.size 23 A4 n4 c4 v4 ∧ EL W (RW A3 A4) v4 L4
  t5 : ∃ v5, VN W (RW A3 A4) A5 n5 c5 v5 ∧ EL W (RW A3 A4) v5 L5
  t7 : VN W (RW A3 A4) A7 n7 c7 (l7.map (Value.int .i64))
  s3 : ∀ a, A3 = some a → w.heap.size ≤ a.block ∧ a.block < W.heap.size
  s4 : ∀ a, A4 = some a → w.heap.size ≤ a.block ∧ a.block < W.heap.size
  ne : ∀ a b, A3 = some a → A4 = some b → a.block ≠ b.block
section
variable {w W W' : World} {A3 A4 A5 A7 : Option Addr} {n3 c3 n4 c4 n5 c5 n7 c7 : Nat} {L3 L4 L5 : List (List Int)} {l7 : List Int}
theorem ST.start (w : World) : ST w w none 0 0 [] none 0 0 [] none 0 0 [] none 0 0 [] :=
  ⟨Below.refl _ _, ⟨[], OV.nil _ _ _, EL.nil⟩, ⟨[], OV.nil _ _ _, EL.nil⟩, ⟨[], ⟨VL.nil _, fun h => absurd h (by omega)⟩, EL.nil⟩, ⟨VL.nil _, fun h => absurd h (by omega)⟩, fun a h => by (cases h), fun a h => by (cases h), fun a b h => by (cases h)⟩
theorem ST.lt (h : ST w W A3 n3 c3 L3 A4 n4 c4 L4 A5 n5 c5 L5 A7 n7 c7 l7) {b : Nat} (r : RW A3 A4 b) : w.heap.size ≤ b ∧ b < W.heap.size := by
  obtain ⟨a, r1, rfl⟩ := r
  exact r1.elim (h.s3 a) (h.s4 a)
theorem ST.call (h : ST w W A3 n3 c3 L3 A4 n4 c4 L4 A5 n5 c5 L5 A7 n7 c7 l7) (hb : Below W.heap.size W W') : ST w W' A3 n3 c3 L3 A4 n4 c4 L4 A5 n5 c5 L5 A7 n7 c7 l7 := by
  have hs := hb.size
  obtain ⟨v3, o3, e3⟩ := h.o3
  obtain ⟨v4, o4, e4⟩ := h.o4
  obtain ⟨v5, o5, e5⟩ := h.t5
  exact ⟨below_from h.b hb, ⟨v3, o3.below hb, e3.below hb⟩, ⟨v4, o4.below hb, e4.below hb⟩, ⟨v5, o5.below hb, e5.below hb⟩, h.t7.below hb, fun a ha => ⟨(h.s3 a ha).1, by have := h.s3 a ha; omega⟩, fun a ha => ⟨(h.s4 a ha).1, by have := h.s4 a ha; omega⟩, h.ne⟩
theorem ST.swap (h : ST w W A3 n3 c3 L3 A4 n4 c4 L4 A5 n5 c5 L5 A7 n7 c7 l7) : ST w W A4 n4 c4 L4 A3 n3 c3 L3 A5 n5 c5 L5 A7 n7 c7 l7 := by
  have hm : ∀ {A : Option Addr} {n c : Nat} {l : List Value}, VN W (RW A3 A4) A n c l → VN W (RW A4 A3) A n c l := fun g => g.mono fun b _ r => r.swap
  obtain ⟨v3, o3, e3⟩ := h.o3
  obtain ⟨v4, o4, e4⟩ := h.o4
  obtain ⟨v5, o5, e5⟩ := h.t5
  exact ⟨h.b, ⟨v4, o4, e4.map_ fun _ _ _ _ g => hm g⟩, ⟨v3, o3, e3.map_ fun _ _ _ _ g => hm g⟩, ⟨v5, hm o5, e5.map_ fun _ _ _ _ g => hm g⟩, hm h.t7, h.s4, h.s3, fun a b ha hb e => h.ne b a hb ha e.symm⟩
/-- One more list behind the first row. -/
theorem ST.push (h : ST w W A3 n3 c3 L3 A4 n4 c4 L4 A5 n5 c5 L5 A7 n7 c7 l7) {v3 : List Value} (he : EL W (RW A3 A4) v3 L3) {n' c' c'' : Nat} {l : List Int} {Ai : Option Addr} (hi : VN W (RW A3 A4) Ai n' c' (l.map (Value.int .i64))) {X : Option Addr}
    (hO : OV W' w.heap.size 23 X (n3 + 1) c'' (v3 ++ [.slice Ai n' c'])) (hB : Below w.heap.size W W') (hg : W.grownBy W' (Value.slice A3 n3 c3).ownBlock) (hX : X = A3 ∨ ∃ g, X = some ⟨g, 0, none⟩ ∧ W.heap.size ≤ g) :
    ST w W' X (n3 + 1) c'' (L3 ++ [l]) A4 n4 c4 L4 A5 n5 c5 L5 A7 n7 c7 l7 ∧ VN W' (RW X A4) Ai n' c' (l.map (Value.int .i64)) := by
  have hs := hB.size
  have hrow : ∀ b, (Value.slice A3 n3 c3).ownBlock = some b → RW A3 A4 b := fun b hb => by
    cases A3 with
    | none => cases hb
    | some a => exact ⟨a, .inl rfl, Option.some.inj hb⟩
  have hR : ∀ b, b < W.heap.size → RW X A4 b → RW A3 A4 b := fun b hb ⟨a, r, e⟩ => by
    rcases r with r | r
    · rcases hX with hX | ⟨g, hX, hg⟩
      · exact ⟨a, .inl (hX ▸ r), e⟩
      · rw [hX] at r
        obtain rfl := Option.some.inj r
        simp only at e
        omega
    · exact ⟨a, .inr r, e⟩
  obtain ⟨v4, o4, e4⟩ := h.o4
  obtain ⟨v5, o5, e5⟩ := h.t5
  have hi' := hi.push hg hrow hR
  have hXb := hO.new (by omega)
  obtain ⟨a0, hX0, hb0⟩ := hXb
  have hlt := hO.1.blkz (by omega) a0 hX0
  refine ⟨⟨h.b.trans hB, ⟨_, hO, (he.push hg hrow hR).snoc hi'⟩, ⟨v4, o4.grown hg (fun a ha e => ?_), e4.push hg hrow hR⟩, ⟨v5, o5.push hg hrow hR, e5.push hg hrow hR⟩, h.t7.push hg hrow hR, fun a ha => ?_, fun a ha => ⟨(h.s4 a ha).1, by have := h.s4 a ha; omega⟩, fun a b ha hb e => ?_⟩, hi'⟩
  · obtain ⟨a3, r, e3⟩ : ∃ a3, A3 = some a3 ∧ a3.block = a.block := by
      cases A3 with
      | none => cases e
      | some a3 => exact ⟨a3, rfl, (Option.some.inj e).symm⟩
    exact h.ne a3 a r ha e3
  · rw [hX0] at ha
    obtain rfl := Option.some.inj ha
    exact ⟨hb0, hlt⟩
  · rcases hX with hX | ⟨g, hX, hg2⟩
    · exact h.ne a b (hX ▸ ha) hb e
    · rw [hX] at ha
      obtain rfl := Option.some.inj ha
      have := (h.s4 b hb).2
      simp only at e
      omega
end

end Go.Proofs.Ytppkifdngjcbeaa
