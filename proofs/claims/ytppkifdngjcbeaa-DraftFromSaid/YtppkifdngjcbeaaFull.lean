/- An append behind a slice that has no room: what was there stays. No condition. -/
import Derived.Test.YtppkifdngjcbeaaDr5
namespace Go.Proofs.Ytppkifdngjcbeaa
open Go.RowKit

section
variable {w : World} {A A2 : Option Addr} {n c n2 c2 B : Nat} {vs vs2 : List Value} {e : TypeId}
theorem run_append_full {t e : TypeId} {z : Value} {bytes : Nat} (ht : Try.prog.underlying t = some (.slice e)) (hinfo : (Try.prog.info? e).map (fun i => (i.zero, i.size, i.bytes)) = some (some z, 1, bytes)) (hz : z.cells.size = 1) (hby : bytes ≤ 64)
    (ty : TypeId) (B : Nat) (hB : B ≤ w.heap.size) (h1 : VL w A n n vs) (hA : A = none → n = 0) (hnB : 0 < n → ∃ a, A = some a ∧ B ≤ a.block) (h2 : VL w A2 n2 c2 vs2) (hc2 : ∀ u ∈ vs2, u.oneCell' = true) (hn : n + n2 ≤ 1000000000) :
    ∃ A' c' w', (Builtin.append_ #[t, t] ty #[.slice A n n, .slice A2 n2 c2]).run Try.prog w = .ok (.slice A' (n + n2) c') w' ∧ OV w' B e A' (n + n2) c' (vs ++ vs2) ∧ Below w.heap.size w w' := by
  rcases Nat.eq_zero_or_pos n with hn0 | hn0
  · have hl : vs = [] := List.eq_nil_of_length_eq_zero (by rw [h1.1, hn0])
    subst hn0 hl
    have ho : OV w w.heap.size e A 0 0 [] := ⟨h1, .inl ⟨Nat.le_refl _, fun _ => rfl, fun h => absurd h (by omega)⟩⟩
    obtain ⟨A', c', w', hr, h3, h4, _⟩ := run_append_OV ht hinfo hz hby ty (Nat.le_refl _) ho h2 hc2 hn
    exact ⟨A', c', w', hr, h3.mono hB, h4⟩
  · obtain ⟨i0, hi0, hz0, hz1, hz2⟩ := info_parts hinfo
    rcases A with _ | a
    · have := hA rfl
      omega
    rcases Nat.eq_zero_or_pos n2 with h0 | h0
    · subst h0
      have hl2 : vs2 = [] := List.eq_nil_of_length_eq_zero h2.1
      subst hl2
      refine ⟨some a, n, w, ?_, by simpa using OV.full h1 hA B e hnB, Below.refl _ _⟩
      rcases A2 with _ | a2 <;>
        simp [Builtin.append_, run_underlying ht, sizeOf, typeInfo, hi0, Builtin.lenOf, Builtin.firstCells, loadCells, loadCellsFrom, storeCells]
    · obtain ⟨b2, off2, e2, hb2, _⟩ := h2.2.2.2 h0
      subst e2
      have hnews := h2.news _ rfl h0
      have hlen2 := h2.1
      have hbytes : (n + n2) * bytes ≤ 140737488355328 := Nat.le_trans (Nat.mul_le_mul hn hby) (by omega)
      have holds : ∀ j u, vs[j]? = some u → w.cell? (a.add j) = some u := h1.news a rfl hn0
      obtain ⟨v', w', hr, ho, hg⟩ := run_append_arg_grows (P := Try.prog) w t ty e i0 z 1 bytes ht hi0 hz0 hz1 hz2 hz (by omega)
          a n n vs (by simp [h1.1]) holds ⟨b2, off2, none⟩ n2 c2 vs2 (by simp [hlen2]) hnews (by omega) (by simp only [maxLen]; omega) hbytes
      obtain ⟨A', c', rfl⟩ := own_value ho (by omega)
      exact ⟨A', c', w', hr, ⟨VL.of_own ho, .inr (own_base ho hB)⟩, (Below.refl _ _).grown hg (Nat.le_refl _) (by simp)⟩
end

theorem wpList_append_full {w : World} {ops : Array Oper} {rest : List Oper} {o : Oper} {a : Act} {Q : Exit → Act → World → Prop} {A A2 : Option Addr} {n n2 c2 : Nat} {l l2 : List Int}
    (B : Nat) (hgd : o.guard = none) (s x : Operand)
    (ho : o.op = .call { callee := .builtin .append, args := #[s, x], argTypes := #[23, 23] }) (hs : a.eval s = .slice A n n) (hx : a.eval x = .slice A2 n2 c2)
    (h1 : IL w A n n l) (hA : A = none → n = 0) (hnB : 0 < n → ∃ a, A = some a ∧ B ≤ a.block) (h2 : IL w A2 n2 c2 l2) (hB : B ≤ w.heap.size) (hn : n + n2 ≤ 1000000000)
    (h : ∀ A' c' w', OL w' B A' (n + n2) c' (l ++ l2) → Below w.heap.size w w' → wpList Try.prog ops Q rest (a.put o.dst (.slice A' (n + n2) c')) w') : wpList Try.prog ops Q (o :: rest) a w := by
  obtain ⟨A', c', w', hr, h3, h4⟩ := run_append_full Try.underlying23 int_info rfl (by omega) o.type B hB h1 hA hnB h2 (ints_oneCell _ _) hn
  exact Lib.wpList_append_run w hgd s x _ _ ho _ _ hs hx _ w' hr (h A' c' w' (by unfold OL; rw [List.map_append]; exact h3) h4)

end Go.Proofs.Ytppkifdngjcbeaa
