/- The walks of the document's rounding: the next decimal of a scale, one of the last place; bounds. No condition. -/
import Derived.Test.YtickhmlhciafgaaGreatMa13
import Derived.Test.YtickhmlhciafgaaGreatMa11
import Derived.Test.YtickhmlhciafgaaGreatMa10
namespace Go.Proofs.YtickhmlhciafgaaGreat
open Go.RowKit

theorem one_any (b : Bool) (k : Nat) (w : World) : Calls Tryz.prog 93 #[.bool b, .int .i64 (k : Int)] w (RC w (oneDc b k)) := by
  go_enter Tryz.func93, Tryz.ntmps93
  go_wp2
  exact bodyPost_ret (v := .agg #[.bool b, .slice (some ⟨w.heap.size + 1, 0, none⟩) 1 1, .int .i64 (k : Int)]) (by simp [results, Tryz.results93, go_sem]) rfl
    ⟨_, 1, 1, rfl, IL.one1 _ _ _ _ (by simp), ((Below.refl _ _).alloc (Nat.le_refl _) _).alloc (by simp) _, fun _ a ha => by obtain rfl := Option.some.inj ha; exact Nat.le_succ _⟩

set_option maxHeartbeats 2000000 in
theorem near_any {A : Option Addr} {n c : Nat} {l : List Int} (b : Bool) (s : Int) (K : Nat) (w : World) (h : IL w A n c l) (hml : mayL l = true) (hs0 : 0 ≤ s) (hs1 : s ≤ 1000) (hK : K ≤ 1000) (hn : n ≤ 10000) :
    Calls Tryz.prog 92 #[.agg #[.bool b, .slice A n c, .int .i64 s], .int .i64 (K : Int)] w (RC w (scaled K (lowZ ⟨b, l, s⟩ K))) := by
  have el := h.len
  have htr := Lib.hid (fun W hW => rdtrim_any (A := A) (n := n) (c := c) (l := l) b s W hW (I64_of_may hml) (by omega) hs0 (by omega))
  obtain ⟨x, sx, hx, hs, hsx1, hsx2, hxm, hxl, hxc⟩ := trimDc_parts (d := ⟨b, l, s⟩) hml hs0 hs1
  have hne := near_eq (d := ⟨b, l, s⟩) hml hs0 K (trimL (shiftL x.l ((K : Int) - x.s))) (by rw [hx]; rfl)
  rw [hx] at htr hne
  simp only at hxl
  have hsh := Lib.hid (fun A n c W (hW : IL W A n c x.l) => rshift_any A n c x.l ((K : Int) - (sx : Int)) W hW (by have := hW.len; omega) (by omega) (by omega))
  rw [hs] at hne
  have hsl : (shiftL x.l ((K : Int) - (sx : Int))).length ≤ 20000 := by unfold shiftL; split <;> simp <;> omega
  have htl := trimL_len (shiftL x.l ((K : Int) - (sx : Int)))
  have hrt := Lib.hid (fun A n c W (hW : IL W A n c (shiftL x.l ((K : Int) - (sx : Int)))) => rtrim_any A n c _ W hW (by have := hW.len; omega))
  generalize shiftL x.l ((K : Int) - (sx : Int)) = y at *
  generalize trimL y = z at *
  have hzl : z.length ≤ 20000 := by omega
  clear htl
  have HE := Lib.hid hne
  have hX0 := Blk.made w w 24 #[.bool b, .slice A n c, .int .i64 s] (Later.refl w) _ rfl
  have hR0 := Blk.made w (w.alloc (.cells #[.bool b, .slice A n c, .int .i64 s] 24)) 24 #[.bool false, .slice none 0 0, .int .i64 0] ((Later.refl w).alloc _) (w.heap.size + 1) (by simp)
  clear hne
  have Hs := Lib.hid hs
  clear hx hs hxc
  generalize scaled K (lowZ ⟨b, l, s⟩ K) = D at *
  have key : ∀ xb : Bool, x.neg = xb → Hid (D = ⟨xb && decide (0 < z.length), z, (K : Int)⟩) → Calls Tryz.prog 92 #[.agg #[.bool b, .slice A n c, .int .i64 s], .int .i64 (K : Int)] w (RC w D) := by
    intro xb hxb hD
    rw [show x = ⟨xb, x.l, (sx : Int)⟩ from by rw [← hxb, ← Hs.out]] at htr
    clear hxb Hs HE
    go_enter Tryz.func92, Tryz.ntmps92
    go_wp2_with fail
    refine (htr.out _ ((h.alloc _).alloc _)).mono ?_
    rintro e w1 ⟨A1, n1, c1, rfl, hI1, hB1, _⟩
    have hR1 := hR0.call hB1
    have hT1 := Blk.made w w1 24 #[.bool xb, .slice A1 n1 c1, .int .i64 (sx : Int)] hR1.later _ rfl
    obtain ⟨⟨x0, x1, x2⟩, _⟩ := hT1.cells3
    simp only at hI1
    go_wp2_with fail
    refine (hsh.out _ _ _ _ (hI1.alloc _)).mono ?_
    rintro e w2 ⟨A2, n2, c2, rfl, hO2, hB2⟩
    have hR2 := (hR1.alloc (.cells #[.bool xb, .slice A1 n1 c1, .int .i64 (sx : Int)] 24)).call hB2
    have hT2 := hT1.call hB2
    go_wp2_with fail
    refine (hrt.out _ _ _ _ hO2.il).mono ?_
    rintro e w3 ⟨A3, n3, c3, rfl, hO3, hB3⟩
    have hR3 := hR2.call hB3
    have hT3 := hT2.call hB3
    have hz3 := hO3.len
    have hRl := hR1.lt
    have hll := hT1.lt
    have hLL := hB2.size
    have hg3 := hO3.newc (B' := w2.heap.size) (Nat.le_refl _)
    clear x0 x1 x2 hR0 hR1 hT1 hR2 hT2 hX0
    obtain ⟨⟨x0, x1, x2⟩, _⟩ := hT3.cells3
    obtain ⟨⟨r0, r1, r2⟩, ⟨r3, r4, r5⟩⟩ := hR3.cells3
    obtain ⟨zb, hzb⟩ : ∃ zb, zb = (xb && decide (0 < n3)) := ⟨_, rfl⟩
    have hDz : Hid (D = ⟨zb, z, (K : Int)⟩) := by rw [Hid, hD.out, hz3, hzb]
    have hfin : ∀ W : World, W = ((w3.setCell ⟨w.heap.size + 1, 0, none⟩ (.bool zb)).setCell ⟨w.heap.size + 1, 1, none⟩ (.slice A3 n3 c3)).setCell ⟨w.heap.size + 1, 2, none⟩ (.int .i64 (K : Int)) →
        (W.cell? ⟨w.heap.size + 1, 0, none⟩ = some (.bool zb) ∧ W.cell? ⟨w.heap.size + 1, 1, none⟩ = some (.slice A3 n3 c3) ∧ W.cell? ⟨w.heap.size + 1, 2, none⟩ = some (.int .i64 (K : Int))) ∧ RC w ⟨zb, z, (K : Int)⟩ (.returned (.agg #[.bool zb, .slice A3 n3 c3, .int .i64 (K : Int)])) W := by
      rintro W rfl
      exact ⟨(hR3.store3 _ _ _).cells3.1, A3, n3, c3, rfl, hO3.il.set3 (fun hz a ha => by have := hg3 hz a ha; simp at hLL; omega) _ _ _, below_set3 hR3.later (by omega) _ _ _, fun hz a ha => by have := hg3 hz a ha; simp at hLL; omega⟩
    have HF := Lib.hid hfin
    clear hfin hD hz3
    cases xb
    · simp at hzb
      subst hzb
      clear hT3 hR3
      go_wp2_with fail
      obtain ⟨⟨z0, z1, z2⟩, hrc⟩ := HF.out _ rfl
      exact bodyPost_ret (v := .agg #[.bool false, .slice A3 n3 c3, .int .i64 (K : Int)]) (by generalize World.setCell (World.setCell (World.setCell _ _ _) _ _) _ _ = W3 at z0 z1 z2 ⊢; simp [results, Tryz.results92, go_sem, z0, z1, z2]) rfl (by rw [hDz.out]; exact hrc)
    · by_cases hp : 0 < n3
      · have : zb = true := by rw [hzb]; simpa using hp
        subst this
        clear hT3 hR3 hzb
        go_wp2_with fail
        obtain ⟨⟨z0, z1, z2⟩, hrc⟩ := HF.out _ rfl
        exact bodyPost_ret (v := .agg #[.bool true, .slice A3 n3 c3, .int .i64 (K : Int)]) (by generalize World.setCell (World.setCell (World.setCell _ _ _) _ _) _ _ = W3 at z0 z1 z2 ⊢; simp [results, Tryz.results92, go_sem, z0, z1, z2]) rfl (by rw [hDz.out]; exact hrc)
      · have : zb = false := by rw [hzb]; simpa using hp
        subst this
        clear hT3 hR3 hzb
        go_wp2_with fail
        obtain ⟨⟨z0, z1, z2⟩, hrc⟩ := HF.out _ rfl
        exact bodyPost_ret (v := .agg #[.bool false, .slice A3 n3 c3, .int .i64 (K : Int)]) (by generalize World.setCell (World.setCell (World.setCell _ _ _) _ _) _ _ = W3 at z0 z1 z2 ⊢; simp [results, Tryz.results92, go_sem, z0, z1, z2]) rfl (by rw [hDz.out]; exact hrc)
  exact key _ rfl HE.out.symm

end Go.Proofs.YtickhmlhciafgaaGreat

