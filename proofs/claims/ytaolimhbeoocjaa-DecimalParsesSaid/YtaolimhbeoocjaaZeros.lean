/- append of noughts that were made. No condition. -/
import Derived.Test.YtaolimhbeoocjaaKit
import Derived.Lib.AppendZerosOnto
namespace Go.Proofs.Ytaolimhbeoocjaa
open Go.RowKit

theorem zeroCells_toList (k : Nat) : (Builtin.zeroCells #[Value.int .i64 0] k).toList = List.replicate k (Value.int .i64 0) := by
  apply List.ext_getElem
  · simp [Builtin.zeroCells]
  · intro i h1 h2
    have hi : i < k := by simpa using h2
    simp [Builtin.zeroCells, Nat.mod_one]

theorem zeroCells_eq (k : Nat) : Builtin.zeroCells #[Value.int .i64 0] k = (List.replicate k (Value.int .i64 0)).toArray := by
  rw [← zeroCells_toList]

section
variable {w w' : World} {A A2 : Option Addr} {n c n2 c2 B : Nat} {l l2 : List Int}

theorem run_append_zeros_OL (ty : TypeId) (k : Nat) (hB : B ≤ w.heap.size) (h1 : OL w B A n c l) (hn : n + k ≤ 1000000000) :
    ∃ A' c' w', (Builtin.append_ #[22, 3] ty #[.slice A n c, .int .i64 (k : Int)]).run Try.prog w = .ok (.slice A' (n + k) c') w' ∧ OL w' B A' (n + k) c' (l ++ List.replicate k 0) ∧ Below B w w' := by
  obtain ⟨i0, hi0, hz0, hz1, hz2⟩ := info_parts int_info
  have hw : IntKind.i64.wrap (k : Int) = k := by rw [IntKind.wrap_i64]; omega
  have h48 : ¬ (281474976710656 < (k : Int) * (i0.bytes : Int)) := by rw [hz2]; omega
  have hneg : ¬ ((k : Int) < 0) := by omega
  rcases Nat.eq_zero_or_pos k with h0 | h0
  · subst h0
    refine ⟨A, c, w, ?_, by simpa using h1, Below.refl _ _⟩
    have hle := h1.il.le
    have hw0 : IntKind.i64.wrap 0 = 0 := by rw [IntKind.wrap_i64]; omega
    rcases A with _ | a <;>
      simp [Builtin.append_, run_underlying Try.underlying22, run_underlying Try.underlying3, sizeOf, typeInfo, hi0, asInt, asIntOf, hw0, hle, storeCells]
  · have mapE : (l ++ List.replicate k 0).map (Value.int .i64) = l.map (Value.int .i64) ++ List.replicate k (Value.int .i64 0) := by simp
    by_cases hroom : n + k ≤ c ∧ ¬ (c ≤ n ∧ (A = none → c = 0))
    · rcases h1.2 with hb | hown
      · exact absurd ⟨hb.1, hb.2.1⟩ hroom.2
      · rcases hown.2 with ⟨hv, hn0⟩ | ⟨g, cap, cur, hv, hbg, hg, hnc, hcm, hcs, htake⟩
        · injection hv with e1 e2 e3
          omega
        · injection hv with e1 _ e3
          subst e1 e3
          have hfit : n * 1 + (List.replicate k (Value.int .i64 0)).length ≤ cur.size := by simp; omega
          have hst := run_storeCells_at Try.prog g (n * 1) 3 (List.replicate k (Value.int .i64 0)) 0 cur w hg (by simpa using hfit) (by
            intro u hu
            have := List.eq_of_mem_replicate hu
            subst this
            rfl)
          simp only [Nat.add_zero] at hst
          have hr : (Builtin.append_ #[22, 3] ty #[.slice (some ⟨g, 0, none⟩) n c, .int .i64 (k : Int)]).run Try.prog w =
              .ok (.slice (some ⟨g, 0, none⟩) (n + k) c) (w.setRow g (cur.toList.take (n * 1) ++ List.replicate k (Value.int .i64 0) ++ cur.toList.drop (n * 1 + (List.replicate k (Value.int .i64 0)).length)).toArray) := by
            have hk : k ≠ 0 := by omega
            simp only [Nat.mul_one] at hst ⊢
            simp [Builtin.append_, run_underlying Try.underlying22, run_underlying Try.underlying3, sizeOf, typeInfo, zeroValue, hi0, hz0, hz1, asInt, asIntOf, hw, hneg, h48, hroom.1, hk, Addr.add_lit, Value.cells, zeroCells_eq]
            simp at hst
            rw [hst]
            rfl
          have hlen : ((l ++ List.replicate k 0).map (Value.int .i64)).length = (n + k) * 1 := by have := h1.il.len; simp [this]
          have ho : (w.setRow g (cur.toList.take (n * 1) ++ List.replicate k (Value.int .i64 0) ++ cur.toList.drop (n * 1 + (List.replicate k (Value.int .i64 0)).length)).toArray).ownsRow B 3 1 (.slice (some ⟨g, 0, none⟩) (n + k) c) (n + k) ((l ++ List.replicate k 0).map (Value.int .i64)) := by
            refine ⟨hlen, .inr ⟨g, c, _, rfl, hbg, setRow_heap w g cur _ 3 _ hg, hroom.1, hcm, ?_, ?_⟩⟩
            · simp only [List.size_toArray, List.length_append, List.length_take, List.length_drop, Array.length_toList]
              omega
            · rw [htake, ← hlen, mapE]
              exact List.take_left
          exact ⟨_, _, _, hr, ⟨VL.of_own ho, .inr ho⟩, ⟨rfl, rfl, rfl, by simp, fun q hq => setRow_other w g q _ (by omega)⟩⟩
    · have hg : c < n + k := by
        rcases h1.2 with hb | hown
        · have := hb.1
          omega
        · rcases hown.2 with ⟨hv, hn0⟩ | ⟨g, cap, cur, hv, _⟩
          · injection hv with e1 e2 e3
            omega
          · injection hv with e1 _ e3
            rcases Nat.lt_or_ge c (n + k) with q | q
            · exact q
            · exfalso
              exact hroom ⟨q, fun hh => by omega⟩
      have hold : (Builtin.firstCells i0.size n (.slice A n c)).run Try.prog w.drew = .ok (l.map (Value.int .i64)).toArray w.drew := by
        rw [hz1]
        have hl := h1.il.len
        rcases A with _ | a
        · have hn0 : n = 0 := by
            rcases Nat.eq_zero_or_pos n with q | q
            · exact q
            · obtain ⟨_, _, e, _⟩ := h1.il.at_ q
              cases e
          subst hn0
          have := List.eq_nil_of_length_eq_zero hl
          subst this
          simp [Builtin.firstCells]
        · refine run_firstCells_some (P := Try.prog) w.drew 1 n a n c (l.map (Value.int .i64)) (by simp [hl]) ?_
          intro j u hu
          have hj := (List.getElem?_eq_some_iff.1 hu).1
          simp [hl] at hj
          exact VL.news h1.1 a rfl (by omega) j u hu
      have hfit : Builtin.nextslicecap (n + k) c * i0.bytes ≤ 281474976710656 := by
        rw [hz2]
        exact growslice_fits hg (by omega)
      have hr := Lib.run_append_grow_zeros (P := Try.prog) w 22 3 ty 3 i0 (.int .i64 0) .i64 .i64 Try.underlying22 Try.underlying3 hi0 hz0 A n c (l.map (Value.int .i64)) hold k h0 (by omega) hg (by omega) (by rw [hz2]; omega) hfit
      have hge := grownCap_ge w (n + k) c 3
      have hcm : grownCap w (n + k) c 3 ≤ maxLen := grownCap_le_maxLen w (n + k) c 3 (by simp only [maxLen]; omega)
      have hlen : ((l ++ List.replicate k 0).map (Value.int .i64)).length = (n + k) * 1 := by have := h1.il.len; simp [this]
      have ho : (w.drew.alloc (.cells ((l.map (Value.int .i64)).toArray ++ Builtin.zeroCells (Value.int .i64 0).cells k ++ Builtin.zeroCells (Value.int .i64 0).cells (grownCap w (n + k) c 3 - (n + k))) 3)).ownsRow B 3 1
          (.slice (some ⟨w.heap.size, 0, none⟩) (n + k) (grownCap w (n + k) c 3)) (n + k) ((l ++ List.replicate k 0).map (Value.int .i64)) := by
        refine ⟨hlen, .inr ⟨w.heap.size, _, _, rfl, hB, heap_alloc_new w.drew _, hge, hcm, ?_, ?_⟩⟩
        · have hl := h1.il.len
          simp only [Array.size_append, List.size_toArray, size_zeroCells, List.length_map, hl, Value.cells, List.length_cons, List.length_nil]
          omega
        · simp only [Value.cells, zeroCells_eq, List.append_toArray, List.toList_toArray, mapE] at hlen ⊢
          rw [← hlen]
          exact List.take_left
      exact ⟨_, _, _, hr, ⟨VL.of_own ho, .inr ho⟩, ⟨rfl, rfl, rfl, by simp, fun q hq => Below.heap_alloc w.drew _ q (by simp; omega)⟩⟩
end

/-- An append of noughts in the walk. -/
theorem wpList_append_zeros {w : World} {ops : Array Oper} {rest : List Oper} {o : Oper} {a : Act} {Q : Exit → Act → World → Prop} {A : Option Addr} {n c k : Nat} {l : List Int}
    (B : Nat) (hgd : o.guard = none) (s x : Operand)
    (ho : o.op = .call { callee := .builtin .append, args := #[s, x], argTypes := #[22, 3] }) (hs : a.eval s = .slice A n c) (hx : a.eval x = .int .i64 (k : Int))
    (h1 : OL w B A n c l) (hB : B ≤ w.heap.size) (hn : n + k ≤ 1000000000)
    (h : ∀ A' c' w', OL w' B A' (n + k) c' (l ++ List.replicate k 0) → Below B w w' → wpList Try.prog ops Q rest (a.put o.dst (.slice A' (n + k) c')) w') : wpList Try.prog ops Q (o :: rest) a w := by
  obtain ⟨A', c', w', hr, h3, h4⟩ := run_append_zeros_OL o.type k hB h1 hn
  exact Lib.wpList_append_run w hgd s x _ _ ho _ _ hs hx _ w' hr (h A' c' w' h3 h4)

end Go.Proofs.Ytaolimhbeoocjaa
