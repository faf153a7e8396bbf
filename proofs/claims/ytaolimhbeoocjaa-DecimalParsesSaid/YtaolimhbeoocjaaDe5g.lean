/- The walk of making a decimal that may be. No condition. -/
import Derived.Test.YtaolimhbeoocjaaDe5
namespace Go.Proofs.Ytaolimhbeoocjaa
open Go.RowKit

set_option maxHeartbeats 2000000 in
theorem cgood_any {A : Option Addr} {n c : Nat} {l : List Int} (b : Bool) (s : Int) (q : Nat) (w : World) (h : IL w A n c l) (hl : I64 l) (hs : -9223372036854775808 ≤ s ∧ s ≤ 9223372036854775807) (hq : q ≤ 100000) :
    Calls Try.prog 6 #[.agg #[.bool b, .slice A n c, .int .i64 s], .int .i64 (q : Int)] w (RC w ⟨b, goodL l q, around s 10⟩) := by
  have gg := Lib.hid (fun W hW => goodo_any A n c q l W hW hl hq)
  have ga := Lib.hid (fun W => around_any s 10 W hs.1 hs.2 (by omega) (by omega))
  generalize hD : (⟨b, goodL l q, around s 10⟩ : Dc) = D
  have HD := Lib.hid hD
  clear hD
  generalize goodL l q = y at *
  generalize around s 10 = z at *
  have hX := (Blk.made w w 24 #[.bool b, .slice A n c, .int .i64 s] (Later.refl w) _ rfl).alloc (.cells #[.bool false, .slice none 0 0, .int .i64 0] 24)
  have hR := Blk.made w (w.alloc (.cells #[.bool b, .slice A n c, .int .i64 s] 24)) 24 #[.bool false, .slice none 0 0, .int .i64 0] ((Later.refl w).alloc _) (w.heap.size + 1) (by simp)
  go_enter Try.func6, Try.ntmps6
  go_upto_region 1 with fail
  obtain ⟨wb, hwb⟩ : ∃ wb, wb = (w.alloc (.cells #[.bool b, .slice A n c, .int .i64 s] 24)).alloc (.cells #[.bool false, .slice none 0 0, .int .i64 0] 24) := ⟨_, rfl⟩
  rw [← hwb] at hX hR
  rw [← hwb]
  clear hwb
  have HS : Hid (∀ W, Blk w w.heap.size 24 #[.bool b, .slice A n c, .int .i64 s] W → ((W.cell? ⟨w.heap.size, 0, none⟩ = some (.bool b) ∧ W.cell? ⟨w.heap.size, 1, none⟩ = some (.slice A n c) ∧ W.cell? ⟨w.heap.size, 2, none⟩ = some (.int .i64 s)) ∧ Blk w w.heap.size 24 #[.bool b, .slice A n c, .int .i64 s] W)) :=
    fun W hW => ⟨hW.cells3.1, hW⟩
  have HX := Lib.hid hX
  have HR := Lib.hid hR
  clear hX hR
  go_region_held3 (fun W => (W.cell? ⟨w.heap.size, 0, none⟩ = some (.bool b) ∧ W.cell? ⟨w.heap.size, 1, none⟩ = some (.slice A n c) ∧ W.cell? ⟨w.heap.size, 2, none⟩ = some (.int .i64 s)) ∧ Blk w w.heap.size 24 #[.bool b, .slice A n c, .int .i64 s] W)
    ((refine HS.out _ ?_; repeat (first | exact HX.out | exact And.right (by assumption) | refine Blk.drew ?_ | refine Blk.call ?_ hB | refine Blk.far ?_ (by simp) (by simp) _)))
    (first
      | (go_at_call 21; refine (gg.out _ (h.later (Blk.later (g := w.heap.size) (And.right (by assumption))))).mono ?_; rintro e w1 ⟨A1, n1, c1, rfl, hI, hB⟩; have hR1 := HR.out.drew.call hB; obtain ⟨⟨y0, y1, y2⟩, ⟨y3, y4, y5⟩⟩ := hR1.cells3)
      | (go_at_call 8; refine (ga.out _).mono ?_; rintro e w1 ⟨rfl, rfl⟩))
  all_goals
    go_wp2_with fail
    have hlt := HR.out.lt
    have hnew : 0 < n1 → ∀ a, A1 = some a → w.heap.size + 1 < a.block := fun hz a ha => by
      obtain ⟨a', ha', hb'⟩ := hI.new hz
      subst ha
      obtain rfl := Option.some.inj ha'
      simp at hb'
      omega
    rw [← HD.out]
    obtain ⟨⟨z0, z1, z2⟩, _⟩ := (hR1.store3 (.bool b) (.slice A1 n1 c1) (.int .i64 z)).cells3
    exact bodyPost_ret (v := .agg #[.bool b, .slice A1 n1 c1, .int .i64 z]) (by generalize World.setCell (World.setCell (World.setCell _ _ _) _ _) _ _ = W3 at z0 z1 z2 ⊢; simp [results, Try.results6, go_sem, z0, z1, z2]) rfl
      ⟨A1, n1, c1, rfl, hI.il.set3 (fun hz a ha => by have := hnew hz a ha; omega) _ _ _, below_set3 hR1.later (Nat.le_succ _) _ _ _, fun hz a ha => by have := hnew hz a ha; omega⟩

end Go.Proofs.Ytaolimhbeoocjaa
