/- The walk of the program's number of a draft. No condition. -/
import Derived.Test.YtgjmcanjlcblgaaDf1
import Derived.Deep.DeepCutAuto
namespace Go.Proofs.Ytgjmcanjlcblgaa
open Go.RowKit

theorem LL.drew {w : World} {A : Option Addr} {n c : Nat} {ls : List (List Int)} (h : LL w A n c ls) : LL w.drew A n c ls := h
theorem blk_s4 {w0 W : World} {g : Nat} {t : TypeId} {a b c d : Value} (h : Blk w0 g t #[a, b, c, d] W) :
    (W.cell? ⟨g, 0, none⟩ = some a ∧ W.cell? ⟨g, 1, none⟩ = some b ∧ W.cell? ⟨g, 2, none⟩ = some c ∧ W.cell? ⟨g, 3, none⟩ = some d) ∧ Blk w0 g t #[a, b, c, d] W := ⟨⟨h.cell 0, h.cell 1, h.cell 2, h.cell 3⟩, h⟩

set_option maxHeartbeats 2000000 in
theorem ddec_any {A : Option Addr} {n c : Nat} {l : List Int} {E : Option Addr} {m k : Nat} {f : List Int} (b p : Bool) (w : World) (h : IL w A n c l) (g : IL w E m k f) (hl : I64 l) (hf : I64 f) (hn : n ≤ 10000) (hm : m ≤ 10000) :
    Calls Try.prog 52 #[.agg #[.bool b, .slice A n c, .bool p, .slice E m k]] w (RC w (decD ⟨b, l, p, f⟩)) := by
  have hI : I64 (l ++ f) := fun x hx => (List.mem_append.1 hx).elim (hl x) (hf x)
  have e1 := h.len
  have e2 := g.len
  have htr := Lib.hid (fun A n c W hW hn => dtrim_any (A := A) (n := n) (c := c) (l := l ++ f) b (m : Int) W hW hI hn (by omega) (by omega))
  have hco := Lib.hid (fun A n c W (hW : LL W A n c [l, f]) => show Calls Try.prog 85 #[.slice A n c] W (RO W (l ++ f)) by
    have := concat_any A n c [l, f] W hW (by simp) (fun q hq => by
      rcases List.mem_cons.1 hq with rfl | hq
      · omega
      · rcases List.mem_cons.1 hq with rfl | hq
        · omega
        · cases hq)
    have e : [l, f].flatten = l ++ f := by simp
    rw [e] at this
    exact this)
  have hD : Hid (decD ⟨b, l, p, f⟩ = trimDc ⟨b, l ++ f, (m : Int)⟩) := by rw [Hid, decD, e2]
  rw [hD.out]
  have hlen : (l ++ f).length ≤ 20000 := by simp; omega
  generalize trimDc ⟨b, l ++ f, (m : Int)⟩ = D at *
  have hX0 := (Blk.made w w 31 #[.bool b, .slice A n c, .bool p, .slice E m k] (Later.refl w) _ rfl).alloc (.cells #[.bool false, .slice none 0 0, .int .i64 0] 67)
  have hR0 := Blk.made w (w.alloc (.cells #[.bool b, .slice A n c, .bool p, .slice E m k] 31)) 67 #[.bool false, .slice none 0 0, .int .i64 0] ((Later.refl w).alloc _) (w.heap.size + 1) (by simp)
  have hIb := (h.alloc (.cells #[.bool b, .slice A n c, .bool p, .slice E m k] 31)).alloc (.cells #[.bool false, .slice none 0 0, .int .i64 0] 67)
  have gIb := (g.alloc (.cells #[.bool b, .slice A n c, .bool p, .slice E m k] 31)).alloc (.cells #[.bool false, .slice none 0 0, .int .i64 0] 67)
  clear hD
  go_enter Try.func52, Try.ntmps52
  go_upto_region 1 with fail
  obtain ⟨wb, hwb⟩ : ∃ wb, wb = (w.alloc (.cells #[.bool b, .slice A n c, .bool p, .slice E m k] 31)).alloc (.cells #[.bool false, .slice none 0 0, .int .i64 0] 67) := ⟨_, rfl⟩
  rw [← hwb] at hX0 hR0 hIb gIb
  rw [← hwb]
  clear hwb
  have HX := Lib.hid hX0
  have HR := Lib.hid hR0
  clear hX0 hR0
  go_region_held3 (fun W => (W.cell? ⟨w.heap.size, 0, none⟩ = some (.bool b) ∧ W.cell? ⟨w.heap.size, 1, none⟩ = some (.slice A n c) ∧ W.cell? ⟨w.heap.size, 2, none⟩ = some (.bool p) ∧ W.cell? ⟨w.heap.size, 3, none⟩ = some (.slice E m k)) ∧ Blk w w.heap.size 31 #[.bool b, .slice A n c, .bool p, .slice E m k] W)
    ((refine blk_s4 ?_; repeat (first | exact HX.out | exact And.right (by assumption) | refine Blk.drew ?_ | refine Blk.alloc ?_ _ | refine Blk.call ?_ hB2 | refine Blk.call ?_ hB1 | refine Blk.far ?_ (by simp <;> omega) (by simp <;> omega) _)))
    (first
      | (go_at_call 85; refine (hco.out _ _ _ _ (LL.drew (LL.pair1 hIb gIb _ _ rfl))).mono ?_; rintro e w1 ⟨A1, n1, c1, rfl, hO1, hB1⟩; have hR1 := ((HR.out.alloc _).drew.call hB1))
      | (go_at_call 84; refine (htr.out _ _ _ _ hO1.il (by have := hO1.len; omega)).mono ?_; rintro e w2 ⟨A2, n2, c2, rfl, hI2, hB2, hN2⟩; have hR2 := hR1.call hB2; have hlt := hR1.lt; obtain ⟨⟨y0, y1, y2⟩, ⟨y3, y4, y5⟩⟩ := hR2.cells3))
  all_goals
    go_wp2_with fail
    obtain ⟨⟨z0, z1, z2⟩, _⟩ := (hR2.store3 (.bool D.neg) (.slice A2 n2 c2) (.int .i64 D.s)).cells3
    exact bodyPost_ret (v := .agg #[.bool D.neg, .slice A2 n2 c2, .int .i64 D.s]) (by generalize World.setCell (World.setCell (World.setCell _ _ _) _ _) _ _ = W3 at z0 z1 z2 ⊢; simp [results, Try.results52, go_sem, z0, z1, z2]) rfl
      ⟨A2, n2, c2, rfl, hI2.set3 (fun hz a ha => by have := hN2 hz a ha; omega) _ _ _, below_set3 hR2.later (Nat.le_succ _) _ _ _, fun hz a ha => by have := hN2 hz a ha; omega⟩

end Go.Proofs.Ytgjmcanjlcblgaa
