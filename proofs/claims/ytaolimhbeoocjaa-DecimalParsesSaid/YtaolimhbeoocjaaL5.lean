/- The walks of the laws of layer 5: what lives, and which number is greater. No condition. -/
import Derived.Test.YtaolimhbeoocjaaRb
namespace Go.Proofs.Ytaolimhbeoocjaa
open Go.RowKit

theorem LL.two {w : World} {A A2 : Option Addr} {n c n2 c2 : Nat} {l l2 : List Int} (h : IL w A n c l) (h2 : IL w A2 n2 c2 l2) (e : TypeId) (b : Nat) (hb : b = w.heap.size) :
    LL (w.alloc (.cells #[.slice A n c, .slice A2 n2 c2] e)) (some ⟨b, 0, none⟩) 2 2 [l, l2] := by
  subst hb
  refine ⟨[.slice A n c, .slice A2 n2 c2], VL.lit w e 2 _ rfl (by omega), rfl, fun k hk => ?_⟩
  rcases (show k = 0 ∨ k = 1 by simp at hk; omega) with rfl | rfl
  · exact ⟨A, n, c, rfl, h.alloc _⟩
  · exact ⟨A2, n2, c2, rfl, h2.alloc _⟩
theorem IL.lit1 (w : World) (e : TypeId) (x : Int) (b : Nat) (hb : b = w.heap.size) : IL (w.alloc (.cells #[.int .i64 x] e)) (some ⟨b, 0, none⟩) 1 1 [x] := by
  subst hb
  exact VL.lit w e 1 [.int .i64 x] rfl (by omega)
theorem IL.lit2 (w : World) (e : TypeId) (x y : Int) (b : Nat) (hb : b = w.heap.size) : IL (w.alloc (.cells #[.int .i64 x, .int .i64 y] e)) (some ⟨b, 0, none⟩) 2 2 [x, y] := by
  subst hb
  exact VL.lit w e 2 [.int .i64 x, .int .i64 y] rfl (by omega)
theorem IL.lit3 (w : World) (e : TypeId) (x y z : Int) (b : Nat) (hb : b = w.heap.size) : IL (w.alloc (.cells #[.int .i64 x, .int .i64 y, .int .i64 z] e)) (some ⟨b, 0, none⟩) 3 3 [x, y, z] := by
  subst hb
  exact VL.lit w e 3 [.int .i64 x, .int .i64 y, .int .i64 z] rfl (by omega)
theorem IL.lit4 (w : World) (e : TypeId) (x y z u : Int) (b : Nat) (hb : b = w.heap.size) : IL (w.alloc (.cells #[.int .i64 x, .int .i64 y, .int .i64 z, .int .i64 u] e)) (some ⟨b, 0, none⟩) 4 4 [x, y, z, u] := by
  subst hb
  exact VL.lit w e 4 [.int .i64 x, .int .i64 y, .int .i64 z, .int .i64 u] rfl (by omega)

theorem I64_small {l : List Int} (h : l.all (fun x => decide (-100 ≤ x) && decide (x ≤ 100)) = true) : I64 l := fun x hx => by
  have := List.all_eq_true.1 h x hx
  simp at this
  omega

theorem cmpL_neg {a b : List Int} (ha : mayL a = true) (hb : mayL b = true) : cmpL b a = -cmpL a b := by
  rw [cmpL_val ha hb, cmpL_val hb ha]
  unfold cmpI
  split <;> split <;> (try split) <;> (try split) <;> omega
theorem cmpL_le {a b : List Int} (ha : mayL a = true) (hb : mayL b = true) : cmpL a b ≤ 0 ↔ val a ≤ val b := by
  rw [cmpL_val ha hb]
  unfold cmpI
  split
  · omega
  · split <;> omega

end Go.Proofs.Ytaolimhbeoocjaa
