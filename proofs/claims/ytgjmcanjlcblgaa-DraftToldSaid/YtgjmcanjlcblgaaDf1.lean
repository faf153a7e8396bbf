/- The walks of drafts: whether one fits, and its number. No condition. -/
import Derived.Test.YtgjmcanjlcblgaaDr5
import Derived.Test.YtgjmcanjlcblgaaCat
import Derived.Test.YtgjmcanjlcblgaaDe1
namespace Go.Proofs.Ytgjmcanjlcblgaa
open Go.RowKit

def fitsD (x : Dr) (a b : Int) : Bool := decide ((x.int.length : Int) ≤ a) && decide ((x.frac.length : Int) ≤ b)

set_option maxHeartbeats 1000000 in
theorem dfits_any {A : Option Addr} {n c : Nat} {l : List Int} {E : Option Addr} {m k : Nat} {f : List Int} (b p : Bool) (x y : Int) (w : World) (h : IL w A n c l) (g : IL w E m k f)
    (_hx : -9223372036854775808 ≤ x ∧ x ≤ 9223372036854775807) (_hy : -9223372036854775808 ≤ y ∧ y ≤ 9223372036854775807) :
    Calls Try.prog 49 #[.agg #[.bool b, .slice A n c, .bool p, .slice E m k], .int .i64 x, .int .i64 y] w (RV w (.bool (fitsD ⟨b, l, p, f⟩ x y))) := by
  have bx : Below w.heap.size w (w.alloc (.cells #[.bool b, .slice A n c, .bool p, .slice E m k] 31)) := (Below.refl _ _).alloc (Nat.le_refl _) _
  have hr : Hid (fitsD ⟨b, l, p, f⟩ x y = (decide ((n : Int) ≤ x) && decide ((m : Int) ≤ y))) := by unfold Hid fitsD; rw [h.len, g.len]
  have c1 := h.cap
  have c2 := g.cap
  have c3 := h.le
  have c4 := g.le
  by_cases h1 : (n : Int) ≤ x
  · by_cases h2 : (m : Int) ≤ y
    all_goals
      go_enter Try.func49, Try.ntmps49
      go_wp2_with fail
      go_ret
      exact ⟨ret_bool (by rw [hr.out]; first | rfl | (rw [Bool.eq_iff_iff]; simp; done) | (rw [Bool.eq_iff_iff]; simp; omega) | (simp; omega)), bx⟩
  · go_enter Try.func49, Try.ntmps49
    go_wp2_with fail
    go_ret
    exact ⟨ret_bool (by rw [hr.out]; first | rfl | (rw [Bool.eq_iff_iff]; simp; done) | (rw [Bool.eq_iff_iff]; simp; omega) | (simp; omega)), bx⟩

set_option maxHeartbeats 1000000 in
theorem rdfits_any {A : Option Addr} {n c : Nat} {l : List Int} {E : Option Addr} {m k : Nat} {f : List Int} (b p : Bool) (x y : Int) (w : World) (h : IL w A n c l) (g : IL w E m k f)
    (_hx : -9223372036854775808 ≤ x ∧ x ≤ 9223372036854775807) (_hy : -9223372036854775808 ≤ y ∧ y ≤ 9223372036854775807) :
    Calls Try.prog 50 #[.agg #[.bool b, .slice A n c, .bool p, .slice E m k], .int .i64 x, .int .i64 y] w (RV w (.bool (fitsD ⟨b, l, p, f⟩ x y))) := by
  have bx : Below w.heap.size w (w.alloc (.cells #[.bool b, .slice A n c, .bool p, .slice E m k] 24)) := (Below.refl _ _).alloc (Nat.le_refl _) _
  have hr : Hid (fitsD ⟨b, l, p, f⟩ x y = (decide ((n : Int) ≤ x) && decide ((m : Int) ≤ y))) := by unfold Hid fitsD; rw [h.len, g.len]
  have c1 := h.cap
  have c2 := g.cap
  have c3 := h.le
  have c4 := g.le
  by_cases h1 : (n : Int) ≤ x
  · by_cases h2 : (m : Int) ≤ y
    all_goals
      go_enter Try.func50, Try.ntmps50
      go_wp2_with fail
      go_ret
      exact ⟨ret_bool (by rw [hr.out]; first | rfl | (rw [Bool.eq_iff_iff]; simp; done) | (rw [Bool.eq_iff_iff]; simp; omega) | (simp; omega)), bx⟩
  · go_enter Try.func50, Try.ntmps50
    go_wp2_with fail
    go_ret
    exact ⟨ret_bool (by rw [hr.out]; first | rfl | (rw [Bool.eq_iff_iff]; simp; done) | (rw [Bool.eq_iff_iff]; simp; omega) | (simp; omega)), bx⟩

/-! ### A draft's number -/
def decD (x : Dr) : Dc := trimDc ⟨x.neg, x.int ++ x.frac, (x.frac.length : Int)⟩

theorem LL.pair1 {w : World} {A A2 : Option Addr} {n c n2 c2 : Nat} {l l2 : List Int} (h : IL w A n c l) (h2 : IL w A2 n2 c2 l2) (e : TypeId) (b : Nat) (hb : b = w.heap.size) :
    LL (w.alloc (.cells #[.slice A n c, .slice A2 n2 c2] e)) (some ⟨b, 0, none⟩) 2 2 [l, l2] := by
  subst hb
  refine ⟨[.slice A n c, .slice A2 n2 c2], VL.lit w e 2 _ rfl (by omega), rfl, fun k hk => ?_⟩
  have hk2 : k = 0 ∨ k = 1 := by simp at hk; omega
  rcases hk2 with rfl | rfl
  · exact ⟨A, n, c, rfl, h.alloc _⟩
  · exact ⟨A2, n2, c2, rfl, h2.alloc _⟩

set_option maxHeartbeats 2000000 in
theorem rdec_any {A : Option Addr} {n c : Nat} {l : List Int} {E : Option Addr} {m k : Nat} {f : List Int} (b p : Bool) (w : World) (h : IL w A n c l) (g : IL w E m k f) (hl : I64 l) (hf : I64 f) (hn : n ≤ 10000) (hm : m ≤ 10000) :
    Calls Try.prog 53 #[.agg #[.bool b, .slice A n c, .bool p, .slice E m k]] w (RC w (decD ⟨b, l, p, f⟩)) := by
  have hI : I64 (l ++ f) := fun x hx => (List.mem_append.1 hx).elim (hl x) (hf x)
  have e2 := g.len
  have htr := Lib.hid (fun A n c W hW hn => rdtrim_any (A := A) (n := n) (c := c) (l := l ++ f) b (m : Int) W hW hI hn (by omega) (by omega))
  have hD : Hid (decD ⟨b, l, p, f⟩ = trimDc ⟨b, l ++ f, (m : Int)⟩) := by rw [Hid, decD, e2]
  rw [hD.out]
  generalize trimDc ⟨b, l ++ f, (m : Int)⟩ = D at *
  have hX0 := (Fresh4.made w w 24 (.bool b) (.slice A n c) (.bool p) (.slice E m k) (Later.refl w) _ rfl).alloc (.cells #[.bool false, .slice none 0 0, .int .i64 0] 66)
  have hR0 := Blk.made w (w.alloc (.cells #[.bool b, .slice A n c, .bool p, .slice E m k] 24)) 66 #[.bool false, .slice none 0 0, .int .i64 0] ((Later.refl w).alloc _) (w.heap.size + 1) (by simp)
  have hlt0 := hR0.lt
  clear hD
  go_enter Try.func53, Try.ntmps53
  go_wp2_with (first
    | (at_builtin; refine wpList_append_OL (w.heap.size + 2) rfl (.tmp 4) (.tmp 6) rfl rfl rfl (OL.nil _ _) ((h.alloc _).alloc _) (by simp) (by omega) ?_; intro A1 c1 w1 hO1 hB1 _; simp only [Nat.zero_add, List.nil_append] at hO1; have hX1 := hX0.under (by omega) hB1; have hR1 := hR0.under (by omega) hB1; have hlt1 := hR1.lt; obtain ⟨⟨q0, q1, q2, q3⟩, _⟩ := hX1.cells)
    | (at_builtin; refine wpList_append_OL (w.heap.size + 2) rfl (.tmp 8) (.tmp 10) rfl rfl rfl hO1 (g.later hX1.2.2) (by omega) (by omega) ?_; intro A2 c2 w2 hO2 hB2 _; have hX2 := hX1.under (by omega) hB2; have hR2 := hR1.under (by omega) hB2; have hlt2 := hR2.lt; obtain ⟨⟨q0, q1, q2, q3⟩, _⟩ := hX2.cells)
    | (go_at_call 86; refine (htr.out _ _ _ _ hO2.il (by omega)).mono ?_; rintro e w3 ⟨A3, n3, c3, rfl, hI3, hB3, hN3⟩; have hR3 := hR2.call hB3; obtain ⟨⟨r0, r1, r2⟩, ⟨r3, r4, r5⟩⟩ := hR3.cells3))
  obtain ⟨⟨z0, z1, z2⟩, _⟩ := (hR3.store3 (.bool D.neg) (.slice A3 n3 c3) (.int .i64 D.s)).cells3
  exact bodyPost_ret (v := .agg #[.bool D.neg, .slice A3 n3 c3, .int .i64 D.s]) (by generalize World.setCell (World.setCell (World.setCell _ _ _) _ _) _ _ = W3 at z0 z1 z2 ⊢; simp [results, Try.results53, go_sem, z0, z1, z2]) rfl
    ⟨A3, n3, c3, rfl, hI3.set3 (fun hz a ha => by have := hN3 hz a ha; omega) _ _ _, below_set3 hR3.later (Nat.le_succ _) _ _ _, fun hz a ha => by have := hN3 hz a ha; omega⟩

end Go.Proofs.Ytgjmcanjlcblgaa
