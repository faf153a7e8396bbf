/- The walk of the program's New at any configuration. No condition. -/
import Derived.Test.YtjinbhnpcdlkiaaGreatDoorMa26
namespace Go.Proofs.YtjinbhnpcdlkiaaGreatDoor
open Go.RowKit
set_option linter.unusedVariables false

/-- What New hands back: rules, and the error. -/
def RNewE (w : World) (X : Ru × ByteArray × Int) (e : Ending) (w' : World) : Prop :=
  ∃ (y : RuV) (v : Value), e = .returned (.tuple #[.agg y.cs, v]) ∧ y.r = X.1 ∧ y.ok w' ∧ ErrV w.heap.size w' X.2.1 X.2.2 v ∧ Below w.heap.size w w' ∧ y.far w.heap.size w'.heap.size
/-- No rules. -/
def noRu : RuV := ⟨zeroRu, none, 0, 0, none, 0, 0, none, 0, 0⟩
theorem noRu_ok (W : World) : noRu.ok W := ⟨IL.nil _, IL.nil _, IL.nil _⟩
theorem noRu_far (B g : Nat) : noRu.far B g := ⟨fun h => absurd h (by simp [noRu]), fun h => absurd h (by simp [noRu]), fun h => absurd h (by simp [noRu])⟩
set_option maxRecDepth 100000 in
set_option maxHeartbeats 8000000 in
theorem cnew_any (n : Cn) (m x s : ByteArray) (w : World) (sm : m.size ≤ 2000) (sx : x.size ≤ 2000) (ss : s.size ≤ 2000) :
    Calls Tryz.prog 8 #[.agg #[.string m, .string x, .string s, .int .i64 n.ic, .int .i64 n.fc, .int .i64 n.sc, .int .i64 n.mi, .int .i64 n.mf, .int .i64 n.md, .int .i64 n.hs]] w (RNewE w (newC n m x s)) := by
  have hck := Lib.hid (fun W => ccheck_any n W)
  have hof := Lib.hid (fun c hc W => of_code c hc W)
  have hwr := Lib.hid (fun s c hc W => wrapof_any s c hc W)
  obtain ⟨X, hX⟩ : ∃ X, newC n m x s = X := ⟨_, rfl⟩
  rw [hX]
  have hX := Lib.hid hX
  have hC := (Blk.made w w 45 #[.string m, .string x, .string s, .int .i64 n.ic, .int .i64 n.fc, .int .i64 n.sc, .int .i64 n.mi, .int .i64 n.mf, .int .i64 n.md, .int .i64 n.hs] (Later.refl w) _ rfl).alloc (.cells #[.bool false, .slice none 0 0, .int .i64 0, .bool false, .slice none 0 0, .int .i64 0, .bool false, .slice none 0 0, .int .i64 0, .bool false, .int .i64 0, .int .i64 0, .int .i64 0, .int .i64 0, .int .i64 0, .int .i64 0, .int .i64 0] 39)
  have hR := (Blk.made w (w.alloc (.cells #[.string m, .string x, .string s, .int .i64 n.ic, .int .i64 n.fc, .int .i64 n.sc, .int .i64 n.mi, .int .i64 n.mf, .int .i64 n.md, .int .i64 n.hs] 45)) 39 #[.bool false, .slice none 0 0, .int .i64 0, .bool false, .slice none 0 0, .int .i64 0, .bool false, .slice none 0 0, .int .i64 0, .bool false, .int .i64 0, .int .i64 0, .int .i64 0, .int .i64 0, .int .i64 0, .int .i64 0, .int .i64 0] ((Later.refl w).alloc _) (w.heap.size + 1) (by simp))
  go_enter Tryz.func8, Tryz.ntmps8
  go_upto_region 1 with fail
  generalize World.alloc (World.alloc w _) _ = w1 at *
  have c3 : w1.cell? ⟨w.heap.size, 3, none⟩ = some (.int .i64 n.ic) := hC.cell 3
  have c4 : w1.cell? ⟨w.heap.size, 4, none⟩ = some (.int .i64 n.fc) := hC.cell 4
  have c5 : w1.cell? ⟨w.heap.size, 5, none⟩ = some (.int .i64 n.sc) := hC.cell 5
  have c6 : w1.cell? ⟨w.heap.size, 6, none⟩ = some (.int .i64 n.mi) := hC.cell 6
  have c7 : w1.cell? ⟨w.heap.size, 7, none⟩ = some (.int .i64 n.mf) := hC.cell 7
  have c8 : w1.cell? ⟨w.heap.size, 8, none⟩ = some (.int .i64 n.md) := hC.cell 8
  have c9 : w1.cell? ⟨w.heap.size, 9, none⟩ = some (.int .i64 n.hs) := hC.cell 9
  go_wp2_with fail
  refine (hck.out _).mono ?_
  rintro e w2 ⟨ve, rfl, hE2, hB2⟩
  clear c3 c4 c5 c6 c7 c8 c9
  have hC2 := hC.call hB2
  have hR2 := hR.call hB2
  have hlt1 : w.heap.size + 1 < w1.heap.size := hR.lt
  clear hC hR
  rcases hE2 with ⟨hc0, rfl⟩ | ⟨hc0, hE2⟩
  case inr =>
    have hE2' : ErrV w1.heap.size w2 (checkC n).1 (checkC n).2 ve := .inr ⟨hc0, hE2⟩
    have hx0 : X = (zeroRu, checkC n) := by rw [← hX.out]; unfold newC; rw [if_pos hc0]
    obtain ⟨pe, hpe, rfl, hch⟩ := hE2
    clear hch
    go_wp2_with (refine wpList_store_blk hR2 row_rules rfl rfl rfl rfl rfl rfl (by kernel_rfl) ?_; intro w9 hR9 hS9; go_simp)
    exact bodyPost_ret (results_ct hR9 row_rules rfl Tryz.results8 rfl rfl) rfl
      ⟨noRu, _, rfl, by rw [hx0]; rfl, noRu_ok _, by rw [hx0]; exact (hE2'.sto hS9 hlt1).mono (by omega), hS9.below hR2.later (by omega), noRu_far _ _⟩
  obtain ⟨hn, hck0⟩ := check_ok hc0
  have hn := Lib.hid hn
  clear hc0
  have c0 : w2.cell? ⟨w.heap.size, 0, none⟩ = some (.string m) := hC2.cell 0
  have c1 : w2.cell? ⟨w.heap.size, 1, none⟩ = some (.string x) := hC2.cell 1
  have c2 : w2.cell? ⟨w.heap.size, 2, none⟩ = some (.string s) := hC2.cell 2
  have c3 : w2.cell? ⟨w.heap.size, 3, none⟩ = some (.int .i64 n.ic) := hC2.cell 3
  have c4 : w2.cell? ⟨w.heap.size, 4, none⟩ = some (.int .i64 n.fc) := hC2.cell 4
  have c5 : w2.cell? ⟨w.heap.size, 5, none⟩ = some (.int .i64 n.sc) := hC2.cell 5
  have c6 : w2.cell? ⟨w.heap.size, 6, none⟩ = some (.int .i64 n.mi) := hC2.cell 6
  have c7 : w2.cell? ⟨w.heap.size, 7, none⟩ = some (.int .i64 n.mf) := hC2.cell 7
  have c8 : w2.cell? ⟨w.heap.size, 8, none⟩ = some (.int .i64 n.md) := hC2.cell 8
  have c9 : w2.cell? ⟨w.heap.size, 9, none⟩ = some (.int .i64 n.hs) := hC2.cell 9
  go_upto_region 5 with fail
  obtain ⟨y0, hy0⟩ : ∃ y : RuV, Hid (y = ⟨⟨Dc.zero, Dc.zero, Dc.zero, false, n⟩, none, 0, 0, none, 0, 0, none, 0, 0⟩) := ⟨_, rfl⟩
  have hG : Blk w w2.heap.size 39 y0.cs (w2.alloc (.cells #[.bool false, .slice none 0 0, .int .i64 0, .bool false, .slice none 0 0, .int .i64 0, .bool false, .slice none 0 0, .int .i64 0, .bool false, .int .i64 n.ic, .int .i64 n.fc, .int .i64 n.sc, .int .i64 n.mi, .int .i64 n.mf, .int .i64 n.md, .int .i64 n.hs] 39)) := by
    rw [hy0.out]
    exact Blk.made w w2 39 _ hR2.later _ rfl
  have hC3 := hC2.alloc (.cells #[.bool false, .slice none 0 0, .int .i64 0, .bool false, .slice none 0 0, .int .i64 0, .bool false, .slice none 0 0, .int .i64 0, .bool false, .int .i64 n.ic, .int .i64 n.fc, .int .i64 n.sc, .int .i64 n.mi, .int .i64 n.mf, .int .i64 n.md, .int .i64 n.hs] 39)
  have hR3 := hR2.alloc (.cells #[.bool false, .slice none 0 0, .int .i64 0, .bool false, .slice none 0 0, .int .i64 0, .bool false, .slice none 0 0, .int .i64 0, .bool false, .int .i64 n.ic, .int .i64 n.fc, .int .i64 n.sc, .int .i64 n.mi, .int .i64 n.mf, .int .i64 n.md, .int .i64 n.hs] 39)
  have hlt2 := hR2.lt
  clear c0 c1 c2 c3 c4 c5 c6 c7 c8 c9 hC2 hR2
  obtain ⟨g5, hg5⟩ : ∃ g, g = w2.heap.size := ⟨_, rfl⟩
  rw [← hg5] at hG hlt2
  rw [← hg5]
  clear hg5
  generalize World.alloc w2 _ = w3 at *
  have c0 : w3.cell? ⟨w.heap.size, 0, none⟩ = some (.string m) := hC3.cell 0
  have c1 : w3.cell? ⟨w.heap.size, 1, none⟩ = some (.string x) := hC3.cell 1
  have c2 : w3.cell? ⟨w.heap.size, 2, none⟩ = some (.string s) := hC3.cell 2
  go_wp2_with fail
  generalize hw4 : World.alloc w3 _ = w4
  obtain ⟨tK, hK⟩ : ∃ tK, Blk w w3.heap.size tK #[.string { data := #[109, 105, 110] }, .string m, .pointer (some ⟨g5, 0, none⟩), .string { data := #[109, 97, 120] }, .string x, .pointer (some ⟨g5, 3, none⟩), .string { data := #[115, 116, 101, 112] }, .string s, .pointer (some ⟨g5, 6, none⟩)] w4 := ⟨_, by rw [← hw4]; exact Blk.made w w3 _ _ hR3.later _ rfl⟩
  have hG4 : Blk w g5 39 y0.cs w4 := by rw [← hw4]; exact hG.alloc _
  have hR4 : Blk w (w.heap.size + 1) 39 #[.bool false, .slice none 0 0, .int .i64 0, .bool false, .slice none 0 0, .int .i64 0, .bool false, .slice none 0 0, .int .i64 0, .bool false, .int .i64 0, .int .i64 0, .int .i64 0, .int .i64 0, .int .i64 0, .int .i64 0, .int .i64 0] w4 := by rw [← hw4]; exact hR3.alloc _
  have hgK : g5 < w3.heap.size := hG.lt
  obtain ⟨gK, hgk⟩ : ∃ g, g = w3.heap.size := ⟨_, rfl⟩
  rw [← hgk] at hK hgK
  rw [← hgk]
  clear hw4 hgk c0 c1 c2 hC3 hG hR3 hck
  go_loopw [34] (fun v wr => ∃ (i : Nat) (y : RuV), i ≤ 3 ∧ v = .int .i64 i ∧ Blk w g5 39 y.cs wr ∧ y.ok wr ∧ y.far (w.heap.size + 2) g5 ∧ Blk w (w.heap.size + 1) 39 #[.bool false, .slice none 0 0, .int .i64 0, .bool false, .slice none 0 0, .int .i64 0, .bool false, .slice none 0 0, .int .i64 0, .bool false, .int .i64 0, .int .i64 0, .int .i64 0, .int .i64 0, .int .i64 0, .int .i64 0, .int .i64 0] wr ∧ Blk w gK tK #[.string { data := #[109, 105, 110] }, .string m, .pointer (some ⟨g5, 0, none⟩), .string { data := #[109, 97, 120] }, .string x, .pointer (some ⟨g5, 3, none⟩), .string { data := #[115, 116, 101, 112] }, .string s, .pointer (some ⟨g5, 6, none⟩)] wr ∧
      Hid (y.r = ⟨if 0 < i then (numC n m).1 else Dc.zero, if 1 < i then (numC n x).1 else Dc.zero, if 2 < i then (numC n s).1 else Dc.zero, false, n⟩) ∧ Hid ((0 < i → (numC n m).2 = 0) ∧ (1 < i → (numC n x).2 = 0) ∧ (2 < i → (numC n s).2 = 0))) (fun v _ => 3 - (intOf v).toNat)
  case atStart =>
    refine ⟨0, y0, by omega, rfl, hG4, ?_, ?_, hR4, hK, ?_, ⟨fun h => absurd h (by omega), fun h => absurd h (by omega), fun h => absurd h (by omega)⟩⟩
    · rw [hy0.out]; exact ⟨IL.nil _, IL.nil _, IL.nil _⟩
    · rw [hy0.out]; exact ⟨fun h => absurd h (by simp), fun h => absurd h (by simp), fun h => absurd h (by simp)⟩
    · rw [Hid, hy0.out]; rfl
  case round =>
    obtain ⟨i, y, hi, rfl, hG, hok, hfar, hR, hK, hy, hq⟩ := hrel
    clear hG4 hR4 hy0 y0
    by_cases hlt : i < 3
    · have hyn : y.r.n = n := by rw [hy.out]
      have hcs : i = 0 ∨ i = 1 ∨ i = 2 := by omega
      rcases hcs with rfl | rfl | rfl
      · as_aux_lemma =>
          have k0 : wr.cell? ⟨gK, 0, none⟩ = some (.string { data := #[109, 105, 110] }) := hK.cell 0
          have k1 : wr.cell? ⟨gK, 1, none⟩ = some (.string m) := hK.cell 1
          have k2 : wr.cell? ⟨gK, 2, none⟩ = some (.pointer (some ⟨g5, 0, none⟩)) := hK.cell 2
          have hnum := Lib.hid (fun wh W => show Calls Tryz.prog 20 #[.agg y.cs, .string wh, .string m] W (RNumE W wh (numC n m)) from by have := number_any y wh m W sm; rwa [hyn] at this)
          clear hyn
          have hbad := Lib.hid (show (numC n m).2 ≠ 0 → X = (zeroRu, minB, (numC n m).2) from fun hne => by
            obtain ⟨q0, q1, q2⟩ := hq.out
            rw [← hX.out]
            unfold newC
            rw [if_neg (by rw [hck0]; omega), if_pos hne])
          obtain ⟨code, hcode⟩ : ∃ c, (numC n m).2 = c := ⟨_, rfl⟩
          obtain ⟨T, hT⟩ : ∃ T, (numC n m).1 = T := ⟨_, rfl⟩
          rw [show numC n m = (T, code) by rw [← hT, ← hcode]] at hnum
          rw [hcode] at hbad
          have HT := Lib.hid hT
          have HC := Lib.hid hcode
          clear hT hcode
          go_upto_region 8 with fail
          generalize hwa : World.alloc wr _ = wa
          have hGa : Blk w g5 39 y.cs wa := by rw [← hwa]; exact hG.alloc _
          have hRa : Blk w (w.heap.size + 1) 39 #[.bool false, .slice none 0 0, .int .i64 0, .bool false, .slice none 0 0, .int .i64 0, .bool false, .slice none 0 0, .int .i64 0, .bool false, .int .i64 0, .int .i64 0, .int .i64 0, .int .i64 0, .int .i64 0, .int .i64 0, .int .i64 0] wa := by rw [← hwa]; exact hR.alloc _
          have hKa : Blk w gK tK #[.string { data := #[109, 105, 110] }, .string m, .pointer (some ⟨g5, 0, none⟩), .string { data := #[109, 97, 120] }, .string x, .pointer (some ⟨g5, 3, none⟩), .string { data := #[115, 116, 101, 112] }, .string s, .pointer (some ⟨g5, 6, none⟩)] wa := by rw [← hwa]; exact hK.alloc _
          have hLa : Later wr wa := by rw [← hwa]; exact (Later.refl wr).alloc _
          have t0 : wa.cell? ⟨wr.heap.size, 0, none⟩ = some (.string { data := #[109, 105, 110] }) := by rw [← hwa, World.cell?_alloc_at _ _ _ _ rfl]; rfl
          have t1 : wa.cell? ⟨wr.heap.size, 1, none⟩ = some (.string m) := by rw [← hwa, World.cell?_alloc_at _ _ _ _ rfl]; rfl
          have t2 : wa.cell? ⟨wr.heap.size, 2, none⟩ = some (.pointer (some ⟨g5, 0, none⟩)) := by rw [← hwa, World.cell?_alloc_at _ _ _ _ rfl]; rfl
          have hlta : wr.heap.size < wa.heap.size := by rw [← hwa]; simp
          clear hwa k0 k1 k2
          go_wp2_with (refine wpList_load_blk hGa row_rules rfl rfl rfl rfl ?_; go_simp)
          refine (hnum.out _ _).mono ?_
          rintro e w6 ⟨A, n', c', v6, rfl, hI, hE6, hB6, hN6⟩
          have u2 : w6.cell? ⟨wr.heap.size, 2, none⟩ = some (.pointer (some ⟨g5, 0, none⟩)) := by rw [hB6.cell (p := ⟨wr.heap.size, 2, none⟩) hlta]; exact t2
          clear t0 t1 t2
          have hE := Blk.made w w6 36 #[.bool T.neg, .slice A n' c', .int .i64 T.s] (hGa.call hB6).later _ rfl
          have hGb := (hGa.call hB6).alloc (.cells #[.bool T.neg, .slice A n' c', .int .i64 T.s] 36)
          have hRb := (hRa.call hB6).alloc (.cells #[.bool T.neg, .slice A n' c', .int .i64 T.s] 36)
          have hKb := (hKa.call hB6).alloc (.cells #[.bool T.neg, .slice A n' c', .int .i64 T.s] 36)
          have hIb := hI.alloc (.cells #[.bool T.neg, .slice A n' c', .int .i64 T.s] 36)
          have hokb := ((hok.later hLa).later hB6).later ((Later.refl w6).alloc (.cells #[.bool T.neg, .slice A n' c', .int .i64 T.s] 36))
          have v2 := fun o => ((Later.refl w6).alloc o).cell u2
          have hgl : g5 < wa.heap.size := hGa.lt
          have hwl : w.heap.size + 1 < wa.heap.size := hRa.lt
          rcases hE6 with ⟨hc6, rfl⟩ | ⟨hc6, hE6⟩
          case inr =>
            have hE6' : ErrV wa.heap.size w6 (minB) code v6 := .inr ⟨hc6, hE6⟩
            have hx0 := hbad.out hc6
            obtain ⟨pe, hpe, rfl, hch⟩ := hE6
            clear hch
            go_upto_region 9 with fail
            go_wp2_with (refine wpList_store_blk hRb row_rules rfl rfl rfl rfl rfl rfl (by kernel_rfl) ?_; intro w9 hR9 hS9; go_simp)
            exact bodyPost_ret (results_ct hR9 row_rules rfl Tryz.results8 rfl rfl) rfl
              ⟨noRu, _, rfl, by rw [hx0]; rfl, noRu_ok _, by rw [hx0]; exact ((hE6'.below ((Below.refl _ _).alloc (Nat.le_refl _) _)).sto hS9 hwl).mono (by omega), hS9.below hRb.later (by omega), noRu_far _ _⟩
          go_upto_region 9 with fail
          have v2 := v2 (.cells #[.bool T.neg, .slice A n' c', .int .i64 T.s] 36)
          generalize World.alloc w6 _ = w7 at *
          obtain ⟨⟨d0, d1, d2⟩, _⟩ := hE.cells3
          have k0 : w7.cell? ⟨g5, 0, none⟩ = some (.bool y.r.lo.neg) := hGb.cell 0
          have k1 : w7.cell? ⟨g5, 1, none⟩ = some (.slice y.A1 y.n1 y.c1) := hGb.cell 1
          have k2 : w7.cell? ⟨g5, 2, none⟩ = some (.int .i64 y.r.lo.s) := hGb.cell 2
          have f0 := hGb.free 0
          have f1 := hGb.free 1
          have f2 := hGb.free 2
          go_wp2_with fail
          go_roundw
          case rel =>
            have hnew : 0 < n' → ∀ a, A = some a → w.heap.size + 2 ≤ a.block ∧ a.block ≠ g5 := fun hz a ha => by have := hN6 hz a ha; exact ⟨by omega, by omega⟩
            have hS := ((Sto.set w7 ⟨g5, 0, none⟩ (.bool T.neg)).trans (Sto.set _ ⟨g5, 1, none⟩ (.slice A n' c'))).trans (Sto.set _ ⟨g5, 2, none⟩ (.int .i64 T.s))
            have hok' := hokb.sto hS ⟨fun hz a ha => (hfar.1 hz a ha).2, fun hz a ha => (hfar.2.1 hz a ha).2, fun hz a ha => (hfar.2.2 hz a ha).2⟩
            have hI' := hS.il hIb (fun hz a ha => (hnew hz a ha).2)
            have hG' : Blk w g5 39 (RuV.cs ⟨⟨T, y.r.hi, y.r.st, y.r.sg, y.r.n⟩, A, n', c', y.A2, y.n2, y.c2, y.A3, y.n3, y.c3⟩) (((w7.setCell ⟨g5, 0, none⟩ (.bool T.neg)).setCell ⟨g5, 1, none⟩ (.slice A n' c')).setCell ⟨g5, 2, none⟩ (.int .i64 T.s)) := ((hGb.set_ 0 (.bool T.neg)).set_ 1 (.slice A n' c')).set_ 2 (.int .i64 T.s)
            have hg0 : w.heap.size ≤ g5 := hGb.1
            have hR' := hS.far hRb (by show w.heap.size + 1 ≠ g5; omega) hg0
            have hK' := hS.far hKb (by show gK ≠ g5; omega) hg0
            refine ⟨1, ⟨⟨T, y.r.hi, y.r.st, y.r.sg, y.r.n⟩, A, n', c', y.A2, y.n2, y.c2, y.A3, y.n3, y.c3⟩, by omega, by go_num, hG', ⟨hI', hok'.2.1, hok'.2.2⟩, ⟨hnew, hfar.2.1, hfar.2.2⟩, hR', hK', ?_, ?_⟩
            rotate_left
            · exact ⟨fun _ => by rw [HC.out]; exact hc6, fun h => absurd h (by omega), fun h => absurd h (by omega)⟩
            rw [Hid]
            have e := hy.out
            show (⟨_, _, _, _, _⟩ : Ru) = _
            rw [e, ← HT.out]
            rfl
          case measure => simp [intOf]
      · as_aux_lemma =>
          have k0 : wr.cell? ⟨gK, 3, none⟩ = some (.string { data := #[109, 97, 120] }) := hK.cell 3
          have k1 : wr.cell? ⟨gK, 4, none⟩ = some (.string x) := hK.cell 4
          have k2 : wr.cell? ⟨gK, 5, none⟩ = some (.pointer (some ⟨g5, 3, none⟩)) := hK.cell 5
          have hnum := Lib.hid (fun wh W => show Calls Tryz.prog 20 #[.agg y.cs, .string wh, .string x] W (RNumE W wh (numC n x)) from by have := number_any y wh x W sx; rwa [hyn] at this)
          clear hyn
          have hbad := Lib.hid (show (numC n x).2 ≠ 0 → X = (zeroRu, maxB, (numC n x).2) from fun hne => by
            obtain ⟨q0, q1, q2⟩ := hq.out
            rw [← hX.out]
            unfold newC
            rw [if_neg (by rw [hck0]; omega), if_neg (by have := q0 (by omega); omega), if_pos hne])
          obtain ⟨code, hcode⟩ : ∃ c, (numC n x).2 = c := ⟨_, rfl⟩
          obtain ⟨T, hT⟩ : ∃ T, (numC n x).1 = T := ⟨_, rfl⟩
          rw [show numC n x = (T, code) by rw [← hT, ← hcode]] at hnum
          rw [hcode] at hbad
          have HT := Lib.hid hT
          have HC := Lib.hid hcode
          clear hT hcode
          go_upto_region 8 with fail
          generalize hwa : World.alloc wr _ = wa
          have hGa : Blk w g5 39 y.cs wa := by rw [← hwa]; exact hG.alloc _
          have hRa : Blk w (w.heap.size + 1) 39 #[.bool false, .slice none 0 0, .int .i64 0, .bool false, .slice none 0 0, .int .i64 0, .bool false, .slice none 0 0, .int .i64 0, .bool false, .int .i64 0, .int .i64 0, .int .i64 0, .int .i64 0, .int .i64 0, .int .i64 0, .int .i64 0] wa := by rw [← hwa]; exact hR.alloc _
          have hKa : Blk w gK tK #[.string { data := #[109, 105, 110] }, .string m, .pointer (some ⟨g5, 0, none⟩), .string { data := #[109, 97, 120] }, .string x, .pointer (some ⟨g5, 3, none⟩), .string { data := #[115, 116, 101, 112] }, .string s, .pointer (some ⟨g5, 6, none⟩)] wa := by rw [← hwa]; exact hK.alloc _
          have hLa : Later wr wa := by rw [← hwa]; exact (Later.refl wr).alloc _
          have t0 : wa.cell? ⟨wr.heap.size, 0, none⟩ = some (.string { data := #[109, 97, 120] }) := by rw [← hwa, World.cell?_alloc_at _ _ _ _ rfl]; rfl
          have t1 : wa.cell? ⟨wr.heap.size, 1, none⟩ = some (.string x) := by rw [← hwa, World.cell?_alloc_at _ _ _ _ rfl]; rfl
          have t2 : wa.cell? ⟨wr.heap.size, 2, none⟩ = some (.pointer (some ⟨g5, 3, none⟩)) := by rw [← hwa, World.cell?_alloc_at _ _ _ _ rfl]; rfl
          have hlta : wr.heap.size < wa.heap.size := by rw [← hwa]; simp
          clear hwa k0 k1 k2
          go_wp2_with (refine wpList_load_blk hGa row_rules rfl rfl rfl rfl ?_; go_simp)
          refine (hnum.out _ _).mono ?_
          rintro e w6 ⟨A, n', c', v6, rfl, hI, hE6, hB6, hN6⟩
          have u2 : w6.cell? ⟨wr.heap.size, 2, none⟩ = some (.pointer (some ⟨g5, 3, none⟩)) := by rw [hB6.cell (p := ⟨wr.heap.size, 2, none⟩) hlta]; exact t2
          clear t0 t1 t2
          have hE := Blk.made w w6 36 #[.bool T.neg, .slice A n' c', .int .i64 T.s] (hGa.call hB6).later _ rfl
          have hGb := (hGa.call hB6).alloc (.cells #[.bool T.neg, .slice A n' c', .int .i64 T.s] 36)
          have hRb := (hRa.call hB6).alloc (.cells #[.bool T.neg, .slice A n' c', .int .i64 T.s] 36)
          have hKb := (hKa.call hB6).alloc (.cells #[.bool T.neg, .slice A n' c', .int .i64 T.s] 36)
          have hIb := hI.alloc (.cells #[.bool T.neg, .slice A n' c', .int .i64 T.s] 36)
          have hokb := ((hok.later hLa).later hB6).later ((Later.refl w6).alloc (.cells #[.bool T.neg, .slice A n' c', .int .i64 T.s] 36))
          have v2 := fun o => ((Later.refl w6).alloc o).cell u2
          have hgl : g5 < wa.heap.size := hGa.lt
          have hwl : w.heap.size + 1 < wa.heap.size := hRa.lt
          rcases hE6 with ⟨hc6, rfl⟩ | ⟨hc6, hE6⟩
          case inr =>
            have hE6' : ErrV wa.heap.size w6 (maxB) code v6 := .inr ⟨hc6, hE6⟩
            have hx0 := hbad.out hc6
            obtain ⟨pe, hpe, rfl, hch⟩ := hE6
            clear hch
            go_upto_region 9 with fail
            go_wp2_with (refine wpList_store_blk hRb row_rules rfl rfl rfl rfl rfl rfl (by kernel_rfl) ?_; intro w9 hR9 hS9; go_simp)
            exact bodyPost_ret (results_ct hR9 row_rules rfl Tryz.results8 rfl rfl) rfl
              ⟨noRu, _, rfl, by rw [hx0]; rfl, noRu_ok _, by rw [hx0]; exact ((hE6'.below ((Below.refl _ _).alloc (Nat.le_refl _) _)).sto hS9 hwl).mono (by omega), hS9.below hRb.later (by omega), noRu_far _ _⟩
          go_upto_region 9 with fail
          have v2 := v2 (.cells #[.bool T.neg, .slice A n' c', .int .i64 T.s] 36)
          generalize World.alloc w6 _ = w7 at *
          obtain ⟨⟨d0, d1, d2⟩, _⟩ := hE.cells3
          have k0 : w7.cell? ⟨g5, 3, none⟩ = some (.bool y.r.hi.neg) := hGb.cell 3
          have k1 : w7.cell? ⟨g5, 4, none⟩ = some (.slice y.A2 y.n2 y.c2) := hGb.cell 4
          have k2 : w7.cell? ⟨g5, 5, none⟩ = some (.int .i64 y.r.hi.s) := hGb.cell 5
          have f0 := hGb.free 3
          have f1 := hGb.free 4
          have f2 := hGb.free 5
          go_wp2_with fail
          go_roundw
          case rel =>
            have hnew : 0 < n' → ∀ a, A = some a → w.heap.size + 2 ≤ a.block ∧ a.block ≠ g5 := fun hz a ha => by have := hN6 hz a ha; exact ⟨by omega, by omega⟩
            have hS := ((Sto.set w7 ⟨g5, 3, none⟩ (.bool T.neg)).trans (Sto.set _ ⟨g5, 4, none⟩ (.slice A n' c'))).trans (Sto.set _ ⟨g5, 5, none⟩ (.int .i64 T.s))
            have hok' := hokb.sto hS ⟨fun hz a ha => (hfar.1 hz a ha).2, fun hz a ha => (hfar.2.1 hz a ha).2, fun hz a ha => (hfar.2.2 hz a ha).2⟩
            have hI' := hS.il hIb (fun hz a ha => (hnew hz a ha).2)
            have hG' : Blk w g5 39 (RuV.cs ⟨⟨y.r.lo, T, y.r.st, y.r.sg, y.r.n⟩, y.A1, y.n1, y.c1, A, n', c', y.A3, y.n3, y.c3⟩) (((w7.setCell ⟨g5, 3, none⟩ (.bool T.neg)).setCell ⟨g5, 4, none⟩ (.slice A n' c')).setCell ⟨g5, 5, none⟩ (.int .i64 T.s)) := ((hGb.set_ 3 (.bool T.neg)).set_ 4 (.slice A n' c')).set_ 5 (.int .i64 T.s)
            have hg0 : w.heap.size ≤ g5 := hGb.1
            have hR' := hS.far hRb (by show w.heap.size + 1 ≠ g5; omega) hg0
            have hK' := hS.far hKb (by show gK ≠ g5; omega) hg0
            refine ⟨2, ⟨⟨y.r.lo, T, y.r.st, y.r.sg, y.r.n⟩, y.A1, y.n1, y.c1, A, n', c', y.A3, y.n3, y.c3⟩, by omega, by go_num, hG', ⟨hok'.1, hI', hok'.2.2⟩, ⟨hfar.1, hnew, hfar.2.2⟩, hR', hK', ?_, ?_⟩
            rotate_left
            · exact ⟨fun _ => hq.out.1 (by omega), fun _ => by rw [HC.out]; exact hc6, fun h => absurd h (by omega)⟩
            rw [Hid]
            have e := hy.out
            show (⟨_, _, _, _, _⟩ : Ru) = _
            rw [e, ← HT.out]
            rfl
          case measure => simp [intOf]
      · as_aux_lemma =>
          have k0 : wr.cell? ⟨gK, 6, none⟩ = some (.string { data := #[115, 116, 101, 112] }) := hK.cell 6
          have k1 : wr.cell? ⟨gK, 7, none⟩ = some (.string s) := hK.cell 7
          have k2 : wr.cell? ⟨gK, 8, none⟩ = some (.pointer (some ⟨g5, 6, none⟩)) := hK.cell 8
          have hnum := Lib.hid (fun wh W => show Calls Tryz.prog 20 #[.agg y.cs, .string wh, .string s] W (RNumE W wh (numC n s)) from by have := number_any y wh s W ss; rwa [hyn] at this)
          clear hyn
          have hbad := Lib.hid (show (numC n s).2 ≠ 0 → X = (zeroRu, stepB, (numC n s).2) from fun hne => by
            obtain ⟨q0, q1, q2⟩ := hq.out
            rw [← hX.out]
            unfold newC
            rw [if_neg (by rw [hck0]; omega), if_neg (by have := q0 (by omega); omega), if_neg (by have := q1 (by omega); omega), if_pos hne])
          obtain ⟨code, hcode⟩ : ∃ c, (numC n s).2 = c := ⟨_, rfl⟩
          obtain ⟨T, hT⟩ : ∃ T, (numC n s).1 = T := ⟨_, rfl⟩
          rw [show numC n s = (T, code) by rw [← hT, ← hcode]] at hnum
          rw [hcode] at hbad
          have HT := Lib.hid hT
          have HC := Lib.hid hcode
          clear hT hcode
          go_upto_region 8 with fail
          generalize hwa : World.alloc wr _ = wa
          have hGa : Blk w g5 39 y.cs wa := by rw [← hwa]; exact hG.alloc _
          have hRa : Blk w (w.heap.size + 1) 39 #[.bool false, .slice none 0 0, .int .i64 0, .bool false, .slice none 0 0, .int .i64 0, .bool false, .slice none 0 0, .int .i64 0, .bool false, .int .i64 0, .int .i64 0, .int .i64 0, .int .i64 0, .int .i64 0, .int .i64 0, .int .i64 0] wa := by rw [← hwa]; exact hR.alloc _
          have hKa : Blk w gK tK #[.string { data := #[109, 105, 110] }, .string m, .pointer (some ⟨g5, 0, none⟩), .string { data := #[109, 97, 120] }, .string x, .pointer (some ⟨g5, 3, none⟩), .string { data := #[115, 116, 101, 112] }, .string s, .pointer (some ⟨g5, 6, none⟩)] wa := by rw [← hwa]; exact hK.alloc _
          have hLa : Later wr wa := by rw [← hwa]; exact (Later.refl wr).alloc _
          have t0 : wa.cell? ⟨wr.heap.size, 0, none⟩ = some (.string { data := #[115, 116, 101, 112] }) := by rw [← hwa, World.cell?_alloc_at _ _ _ _ rfl]; rfl
          have t1 : wa.cell? ⟨wr.heap.size, 1, none⟩ = some (.string s) := by rw [← hwa, World.cell?_alloc_at _ _ _ _ rfl]; rfl
          have t2 : wa.cell? ⟨wr.heap.size, 2, none⟩ = some (.pointer (some ⟨g5, 6, none⟩)) := by rw [← hwa, World.cell?_alloc_at _ _ _ _ rfl]; rfl
          have hlta : wr.heap.size < wa.heap.size := by rw [← hwa]; simp
          clear hwa k0 k1 k2
          go_wp2_with (refine wpList_load_blk hGa row_rules rfl rfl rfl rfl ?_; go_simp)
          refine (hnum.out _ _).mono ?_
          rintro e w6 ⟨A, n', c', v6, rfl, hI, hE6, hB6, hN6⟩
          have u2 : w6.cell? ⟨wr.heap.size, 2, none⟩ = some (.pointer (some ⟨g5, 6, none⟩)) := by rw [hB6.cell (p := ⟨wr.heap.size, 2, none⟩) hlta]; exact t2
          clear t0 t1 t2
          have hE := Blk.made w w6 36 #[.bool T.neg, .slice A n' c', .int .i64 T.s] (hGa.call hB6).later _ rfl
          have hGb := (hGa.call hB6).alloc (.cells #[.bool T.neg, .slice A n' c', .int .i64 T.s] 36)
          have hRb := (hRa.call hB6).alloc (.cells #[.bool T.neg, .slice A n' c', .int .i64 T.s] 36)
          have hKb := (hKa.call hB6).alloc (.cells #[.bool T.neg, .slice A n' c', .int .i64 T.s] 36)
          have hIb := hI.alloc (.cells #[.bool T.neg, .slice A n' c', .int .i64 T.s] 36)
          have hokb := ((hok.later hLa).later hB6).later ((Later.refl w6).alloc (.cells #[.bool T.neg, .slice A n' c', .int .i64 T.s] 36))
          have v2 := fun o => ((Later.refl w6).alloc o).cell u2
          have hgl : g5 < wa.heap.size := hGa.lt
          have hwl : w.heap.size + 1 < wa.heap.size := hRa.lt
          rcases hE6 with ⟨hc6, rfl⟩ | ⟨hc6, hE6⟩
          case inr =>
            have hE6' : ErrV wa.heap.size w6 (stepB) code v6 := .inr ⟨hc6, hE6⟩
            have hx0 := hbad.out hc6
            obtain ⟨pe, hpe, rfl, hch⟩ := hE6
            clear hch
            go_upto_region 9 with fail
            go_wp2_with (refine wpList_store_blk hRb row_rules rfl rfl rfl rfl rfl rfl (by kernel_rfl) ?_; intro w9 hR9 hS9; go_simp)
            exact bodyPost_ret (results_ct hR9 row_rules rfl Tryz.results8 rfl rfl) rfl
              ⟨noRu, _, rfl, by rw [hx0]; rfl, noRu_ok _, by rw [hx0]; exact ((hE6'.below ((Below.refl _ _).alloc (Nat.le_refl _) _)).sto hS9 hwl).mono (by omega), hS9.below hRb.later (by omega), noRu_far _ _⟩
          go_upto_region 9 with fail
          have v2 := v2 (.cells #[.bool T.neg, .slice A n' c', .int .i64 T.s] 36)
          generalize World.alloc w6 _ = w7 at *
          obtain ⟨⟨d0, d1, d2⟩, _⟩ := hE.cells3
          have k0 : w7.cell? ⟨g5, 6, none⟩ = some (.bool y.r.st.neg) := hGb.cell 6
          have k1 : w7.cell? ⟨g5, 7, none⟩ = some (.slice y.A3 y.n3 y.c3) := hGb.cell 7
          have k2 : w7.cell? ⟨g5, 8, none⟩ = some (.int .i64 y.r.st.s) := hGb.cell 8
          have f0 := hGb.free 6
          have f1 := hGb.free 7
          have f2 := hGb.free 8
          go_wp2_with fail
          go_roundw
          case rel =>
            have hnew : 0 < n' → ∀ a, A = some a → w.heap.size + 2 ≤ a.block ∧ a.block ≠ g5 := fun hz a ha => by have := hN6 hz a ha; exact ⟨by omega, by omega⟩
            have hS := ((Sto.set w7 ⟨g5, 6, none⟩ (.bool T.neg)).trans (Sto.set _ ⟨g5, 7, none⟩ (.slice A n' c'))).trans (Sto.set _ ⟨g5, 8, none⟩ (.int .i64 T.s))
            have hok' := hokb.sto hS ⟨fun hz a ha => (hfar.1 hz a ha).2, fun hz a ha => (hfar.2.1 hz a ha).2, fun hz a ha => (hfar.2.2 hz a ha).2⟩
            have hI' := hS.il hIb (fun hz a ha => (hnew hz a ha).2)
            have hG' : Blk w g5 39 (RuV.cs ⟨⟨y.r.lo, y.r.hi, T, y.r.sg, y.r.n⟩, y.A1, y.n1, y.c1, y.A2, y.n2, y.c2, A, n', c'⟩) (((w7.setCell ⟨g5, 6, none⟩ (.bool T.neg)).setCell ⟨g5, 7, none⟩ (.slice A n' c')).setCell ⟨g5, 8, none⟩ (.int .i64 T.s)) := ((hGb.set_ 6 (.bool T.neg)).set_ 7 (.slice A n' c')).set_ 8 (.int .i64 T.s)
            have hg0 : w.heap.size ≤ g5 := hGb.1
            have hR' := hS.far hRb (by show w.heap.size + 1 ≠ g5; omega) hg0
            have hK' := hS.far hKb (by show gK ≠ g5; omega) hg0
            refine ⟨3, ⟨⟨y.r.lo, y.r.hi, T, y.r.sg, y.r.n⟩, y.A1, y.n1, y.c1, y.A2, y.n2, y.c2, A, n', c'⟩, by omega, by go_num, hG', ⟨hok'.1, hok'.2.1, hI'⟩, ⟨hfar.1, hfar.2.1, hnew⟩, hR', hK', ?_, ?_⟩
            rotate_left
            · exact ⟨fun _ => hq.out.1 (by omega), fun _ => hq.out.2.1 (by omega), fun _ => by rw [HC.out]; exact hc6⟩
            rw [Hid]
            have e := hy.out
            show (⟨_, _, _, _, _⟩ : Ru) = _
            rw [e, ← HT.out]
            rfl
          case measure => simp [intOf]
    · as_aux_lemma =>
        have hi' : i = 3 := by omega
        subst hi'
        have e3 : y.r = ⟨(numC n m).1, (numC n x).1, (numC n s).1, false, n⟩ := hy.out
        have hqo := hq.out
        obtain ⟨q0, q1, q2⟩ := hqo
        have q0 := q0 (by omega)
        have q1 := q1 (by omega)
        have q2 := q2 (by omega)
        obtain ⟨Dm, hm, em⟩ := numC_ok sm q0
        obtain ⟨Dx, hx, ex⟩ := numC_ok sx q1
        obtain ⟨Ds, hs, es⟩ := numC_ok ss q2
        have hi3 : ¬ (3 : Int) < 3 := by omega
        have hXX : Hid (X = if ¬ 0 < cmpDc y.r.st Dc.zero then (zeroRu, stepB, 3) else if 0 < cmpDc y.r.lo y.r.hi then (zeroRu, maxB, 3) else (⟨y.r.lo, y.r.hi, y.r.st, y.r.lo.neg, y.r.n⟩, ⟨#[]⟩, 0)) := by
          unfold Hid
          rw [← hX.out, e3]
          unfold newC
          rw [if_neg (by rw [hck0]; omega), if_neg (by omega), if_neg (by omega), if_neg (by omega)]
        clear hy hlt hq q0 q1 q2
        have m1 : mayDc y.r.lo = true ∧ y.r.lo.l.length ≤ 2000 := by rw [e3]; simp only [em]; exact ⟨mayDc_trim hm.2.2.1, Nat.le_trans (trimDc_len Dm) hm.2.2.2.1⟩
        have m2 : mayDc y.r.hi = true ∧ y.r.hi.l.length ≤ 2000 := by rw [e3]; simp only [ex]; exact ⟨mayDc_trim hx.2.2.1, Nat.le_trans (trimDc_len Dx) hx.2.2.2.1⟩
        have m3 : mayDc y.r.st = true ∧ y.r.st.l.length ≤ 2000 := by rw [e3]; simp only [es]; exact ⟨mayDc_trim hs.2.2.1, Nat.le_trans (trimDc_len Ds) hs.2.2.2.1⟩
        have hcm1 := Lib.hid (fun W (hW : y.ok W) => show Calls Tryz.prog 21 #[.agg #[.bool y.r.st.neg, .slice y.A3 y.n3 y.c3, .int .i64 y.r.st.s], .agg #[.bool false, .slice none 0 0, .int .i64 0]] W (RV W (.int .i64 (cmpDc y.r.st Dc.zero))) from
          ccompare_any _ _ _ _ W hW.2.2 (IL.nil W) (mayDc_iff.1 m3.1).1 rfl (by have := hW.2.2.len; omega) (by omega) (mayDc_iff.1 m3.1).2.1 (mayDc_iff.1 m3.1).2.2 (by omega) (by omega))
        have hcm2 := Lib.hid (fun W (hW : y.ok W) => show Calls Tryz.prog 21 #[.agg #[.bool y.r.lo.neg, .slice y.A1 y.n1 y.c1, .int .i64 y.r.lo.s], .agg #[.bool y.r.hi.neg, .slice y.A2 y.n2 y.c2, .int .i64 y.r.hi.s]] W (RV W (.int .i64 (cmpDc y.r.lo y.r.hi))) from
          ccompare_any _ _ _ _ W hW.1 hW.2.1 (mayDc_iff.1 m1.1).1 (mayDc_iff.1 m2.1).1 (by have := hW.1.len; omega) (by have := hW.2.1.len; omega) (mayDc_iff.1 m1.1).2.1 (mayDc_iff.1 m1.1).2.2 (mayDc_iff.1 m2.1).2.1 (mayDc_iff.1 m2.1).2.2)
        clear m1 m2 m3 e3 em ex es hm hx hs
        generalize cmpDc y.r.st Dc.zero = q1 at *
        generalize cmpDc y.r.lo y.r.hi = q2 at *
        have k6 : wr.cell? ⟨g5, 6, none⟩ = some (.bool y.r.st.neg) := hG.cell 6
        have k7 : wr.cell? ⟨g5, 7, none⟩ = some (.slice y.A3 y.n3 y.c3) := hG.cell 7
        have k8 : wr.cell? ⟨g5, 8, none⟩ = some (.int .i64 y.r.st.s) := hG.cell 8
        go_wp2_with fail
        refine (hcm1.out _ hok).mono ?_
        rintro e w6 ⟨rfl, hB6⟩
        by_cases hp : 0 < q1
        case neg =>
          have hx0 : X = (zeroRu, stepB, 3) := by rw [hXX.out, if_pos (by omega)]
          have hq1 : q1 ≤ 0 := by omega
          have hR6 := hR.call hB6
          have hlt6 : w.heap.size + 1 < w6.heap.size := hR6.lt
          clear k6 k7 k8
          go_wp2_with (first | (go_at_call 23; refine (hof.out 3 (by omega) _).mono ?_; rintro e w ⟨rfl, rfl⟩) | (go_at_call 22; refine (hwr.out _ 3 (by omega) _).mono ?_; rintro e w17 ⟨v, rfl, hE, hb7⟩; have hR7 := hR6.call hb7) | (refine wpList_store_blk hR7 row_rules rfl rfl rfl rfl rfl rfl (by kernel_rfl) ?_; intro w9 hR9 hS9; go_simp))
          exact bodyPost_ret (results_ct hR9 row_rules rfl Tryz.results8 rfl rfl) rfl
            ⟨noRu, _, rfl, by rw [hx0]; rfl, noRu_ok _, by rw [hx0]; exact (hE.sto hS9 hlt6).mono (by omega), hS9.below hR7.later (by omega), noRu_far _ _⟩
        have hG6 := hG.call hB6
        have hR6 := hR.call hB6
        have hok6 := hok.later hB6
        clear k6 k7 k8 hi3 hG hR hok hcm1
        have k0 : w6.cell? ⟨g5, 0, none⟩ = some (.bool y.r.lo.neg) := hG6.cell 0
        have k1 : w6.cell? ⟨g5, 1, none⟩ = some (.slice y.A1 y.n1 y.c1) := hG6.cell 1
        have k2 : w6.cell? ⟨g5, 2, none⟩ = some (.int .i64 y.r.lo.s) := hG6.cell 2
        have k3 : w6.cell? ⟨g5, 3, none⟩ = some (.bool y.r.hi.neg) := hG6.cell 3
        have k4 : w6.cell? ⟨g5, 4, none⟩ = some (.slice y.A2 y.n2 y.c2) := hG6.cell 4
        have k5 : w6.cell? ⟨g5, 5, none⟩ = some (.int .i64 y.r.hi.s) := hG6.cell 5
        go_wp2_with fail
        refine (hcm2.out _ hok6).mono ?_
        rintro e w7 ⟨rfl, hB7⟩
        by_cases hr : 0 < q2
        case pos =>
          have hx0 : X = (zeroRu, maxB, 3) := by rw [hXX.out, if_neg (by omega), if_pos (by omega)]
          have hR6 := hR6.call hB7
          have hlt6 : w.heap.size + 1 < w7.heap.size := hR6.lt
          clear k0 k1 k2 k3 k4 k5
          go_wp2_with (first | (go_at_call 23; refine (hof.out 3 (by omega) _).mono ?_; rintro e w ⟨rfl, rfl⟩) | (go_at_call 22; refine (hwr.out _ 3 (by omega) _).mono ?_; rintro e w17 ⟨v, rfl, hE, hb7⟩; have hR7 := hR6.call hb7) | (refine wpList_store_blk hR7 row_rules rfl rfl rfl rfl rfl rfl (by kernel_rfl) ?_; intro w9 hR9 hS9; go_simp))
          exact bodyPost_ret (results_ct hR9 row_rules rfl Tryz.results8 rfl rfl) rfl
            ⟨noRu, _, rfl, by rw [hx0]; rfl, noRu_ok _, by rw [hx0]; exact (hE.sto hS9 hlt6).mono (by omega), hS9.below hR7.later (by omega), noRu_far _ _⟩
        have hx0 : X = (⟨y.r.lo, y.r.hi, y.r.st, y.r.lo.neg, y.r.n⟩, ⟨#[]⟩, 0) := by rw [hXX.out, if_neg (by omega), if_neg (by omega)]
        have hx0 := Lib.hid hx0
        have hG7 := hG6.call hB7
        have hR7 := hR6.call hB7
        have hok7 := hok6.later hB7
        clear k0 k1 k2 k3 k4 k5 hG6 hR6 hok6 hcm2
        have k0 : w7.cell? ⟨g5, 0, none⟩ = some (.bool y.r.lo.neg) := hG7.cell 0
        have k9 : w7.cell? ⟨g5, 9, none⟩ = some (.bool y.r.sg) := hG7.cell 9
        have f9 := hG7.free 9
        go_upto_region 18 with fail
        have hG8 : Blk w g5 39 (RuV.cs ⟨⟨y.r.lo, y.r.hi, y.r.st, y.r.lo.neg, y.r.n⟩, y.A1, y.n1, y.c1, y.A2, y.n2, y.c2, y.A3, y.n3, y.c3⟩) (w7.setCell ⟨g5, 9, none⟩ (.bool y.r.lo.neg)) := hG7.set_ 9 (.bool y.r.lo.neg)
        have hS8 := Sto.set w7 ⟨g5, 9, none⟩ (.bool y.r.lo.neg)
        have hok8 := hok7.sto hS8 ⟨fun hz a ha => (hfar.1 hz a ha).2, fun hz a ha => (hfar.2.1 hz a ha).2, fun hz a ha => (hfar.2.2 hz a ha).2⟩
        have hR8 : Blk w (w.heap.size + 1) 39 #[.bool false, .slice none 0 0, .int .i64 0, .bool false, .slice none 0 0, .int .i64 0, .bool false, .slice none 0 0, .int .i64 0, .bool false, .int .i64 0, .int .i64 0, .int .i64 0, .int .i64 0, .int .i64 0, .int .i64 0, .int .i64 0] (w7.setCell ⟨g5, 9, none⟩ (.bool y.r.lo.neg)) := hS8.far hR7 (by show w.heap.size + 1 ≠ g5; omega) hG7.1
        clear k0 k9 f9 hS8 hG7 hR7 hok7
        generalize World.setCell w7 _ _ = w8 at *
        obtain ⟨Y, hY⟩ : ∃ Y : RuV, Hid (Y = ⟨⟨y.r.lo, y.r.hi, y.r.st, y.r.lo.neg, y.r.n⟩, y.A1, y.n1, y.c1, y.A2, y.n2, y.c2, y.A3, y.n3, y.c3⟩) := ⟨_, rfl⟩
        rw [← hY.out] at hG8
        have hokY : Y.ok w8 := by rw [hY.out]; exact hok8
        have hYr : Y.r = X.1 := by rw [hY.out, hx0.out]
        have hfY : (0 < Y.n1 → ∀ a, Y.A1 = some a → a.block ≠ w.heap.size + 1) ∧ (0 < Y.n2 → ∀ a, Y.A2 = some a → a.block ≠ w.heap.size + 1) ∧ (0 < Y.n3 → ∀ a, Y.A3 = some a → a.block ≠ w.heap.size + 1) := by
          rw [hY.out]
          exact ⟨fun hz a ha => by have := (hfar.1 hz a ha).1; omega, fun hz a ha => by have := (hfar.2.1 hz a ha).1; omega, fun hz a ha => by have := (hfar.2.2 hz a ha).1; omega⟩
        have hFY : Y.far w.heap.size w8.heap.size := by
          rw [hY.out]
          exact ⟨fun hz a ha => ⟨by have := (hfar.1 hz a ha).1; omega, hok8.1.apart (Nat.le_refl _) hz a ha⟩, fun hz a ha => ⟨by have := (hfar.2.1 hz a ha).1; omega, hok8.2.1.apart (Nat.le_refl _) hz a ha⟩, fun hz a ha => ⟨by have := (hfar.2.2 hz a ha).1; omega, hok8.2.2.apart (Nat.le_refl _) hz a ha⟩⟩
        clear hok8 hY hp hr
        go_wp2_with (first | (refine wpList_load_blk hG8 row_rules rfl rfl rfl rfl ?_; go_simp) | (refine wpList_store_blk hR8 row_rules rfl rfl rfl rfl rfl rfl (by kernel_rfl) ?_; intro w9 hR9 hS9; go_simp))
        exact bodyPost_ret (results_ct hR9 row_rules rfl Tryz.results8 rfl rfl) rfl
          ⟨Y, .nilIface, rfl, hYr, hokY.sto hS9 hfY, by rw [hx0.out]; exact .inl ⟨rfl, rfl⟩, hS9.below hR8.later (by omega), by rw [hS9.size]; exact hFY⟩

end Go.Proofs.YtjinbhnpcdlkiaaGreatDoor

