/- A configuration that may be, made of any (plain). No condition. -/
import Derived.Test.YtjinbhnpcdlkiaaGreatDoorMa12
import Derived.Test.YtjinbhnpcdlkiaaGreatDoorMa18
import Derived.Test.YtjinbhnpcdlkiaaGreatDoorMa08
namespace Go.Proofs.YtjinbhnpcdlkiaaGreatDoor
open Go.RowKit

/-- A text that is a number that fits. -/
def TextOk (n : Cn) (s : ByteArray) (D : Dc) : Prop := s.size ≤ 2000 ∧ parseS s.data.toList = (D, 0) ∧ mayDc D = true ∧ D.l.length ≤ 2000 ∧ fitsC n D = true
def ruOf (n : Cn) (a b c : Dc) : Ru := ⟨trimDc a, trimDc b, trimDc c, (trimDc a).neg, n⟩
def RNew (w : World) (R : Ru) (e : Ending) (w' : World) : Prop :=
  ∃ y : RuV, e = .returned (.tuple #[.agg y.cs, .nilIface]) ∧ y.r = R ∧ y.ok w' ∧ Below w.heap.size w w' ∧ y.far w.heap.size w'.heap.size
set_option maxRecDepth 100000 in
set_option maxHeartbeats 8000000 in
theorem cnew_ok (n : Cn) (m x s : ByteArray) (Dm Dx Ds : Dc) (w : World) (hn : n.Ok) (hm : TextOk n m Dm) (hx : TextOk n x Dx) (hs : TextOk n s Ds) (hrow : ¬ 0 < cmpDc (trimDc Dm) (trimDc Dx)) (hpos : 0 < cmpDc (trimDc Ds) Dc.zero) :
    Calls Tryz.prog 8 #[.agg #[.string m, .string x, .string s, .int .i64 n.ic, .int .i64 n.fc, .int .i64 n.sc, .int .i64 n.mi, .int .i64 n.mf, .int .i64 n.md, .int .i64 n.hs]] w (RNew w (ruOf n Dm Dx Ds)) := by
  have hck := Lib.hid (fun W => ccheck_ok n W hn)
  have hC := (Blk.made w w 45 #[.string m, .string x, .string s, .int .i64 n.ic, .int .i64 n.fc, .int .i64 n.sc, .int .i64 n.mi, .int .i64 n.mf, .int .i64 n.md, .int .i64 n.hs] (Later.refl w) _ rfl).alloc (.cells #[.bool false, .slice none 0 0, .int .i64 0, .bool false, .slice none 0 0, .int .i64 0, .bool false, .slice none 0 0, .int .i64 0, .bool false, .int .i64 0, .int .i64 0, .int .i64 0, .int .i64 0, .int .i64 0, .int .i64 0, .int .i64 0] 39)
  have hR := (Blk.made w (w.alloc (.cells #[.string m, .string x, .string s, .int .i64 n.ic, .int .i64 n.fc, .int .i64 n.sc, .int .i64 n.mi, .int .i64 n.mf, .int .i64 n.md, .int .i64 n.hs] 45)) 39 #[.bool false, .slice none 0 0, .int .i64 0, .bool false, .slice none 0 0, .int .i64 0, .bool false, .slice none 0 0, .int .i64 0, .bool false, .int .i64 0, .int .i64 0, .int .i64 0, .int .i64 0, .int .i64 0, .int .i64 0, .int .i64 0] ((Later.refl w).alloc _) (w.heap.size + 1) (by simp))
  go_enter Tryz.func8, Tryz.ntmps8
  go_upto_region 1 with fail
  generalize World.alloc (World.alloc w _) _ = w1 at *
  have c3 : w1.cell? ⟨w.heap.size, 3, none⟩ = some (.int .i64 n.ic) := hC.cell 3
  have c4 : w1.cell? ⟨w.heap.size, 4, none⟩ = some (.int .i64 n.fc) := hC.cell 4
  have c5 : w1.cell? ⟨w.heap.size, 5, none⟩ = some (.int .i64 n.sc) := hC.cell 5
  have c6 : w1.cell? ⟨w.heap.size, 6, none⟩ = some (.int .i64 n.mi) := hC.cell 6
  have c7 : w1.cell? ⟨w.heap.size, 7, none⟩ = some (.int .i64 n.mf) := hC.cell 7
  have c8 : w1.cell? ⟨w.heap.size, 8, none⟩ = some (.int .i64 n.md) := hC.cell 8
  have c9 : w1.cell? ⟨w.heap.size, 9, none⟩ = some (.int .i64 n.hs) := hC.cell 9
  go_wp2_with fail
  refine (hck.out _).mono ?_
  rintro e w2 ⟨rfl, hB2⟩
  clear c3 c4 c5 c6 c7 c8 c9
  have hC2 := hC.call hB2
  have hR2 := hR.call hB2
  clear hC hR
  have c0 : w2.cell? ⟨w.heap.size, 0, none⟩ = some (.string m) := hC2.cell 0
  have c1 : w2.cell? ⟨w.heap.size, 1, none⟩ = some (.string x) := hC2.cell 1
  have c2 : w2.cell? ⟨w.heap.size, 2, none⟩ = some (.string s) := hC2.cell 2
  have c3 : w2.cell? ⟨w.heap.size, 3, none⟩ = some (.int .i64 n.ic) := hC2.cell 3
  have c4 : w2.cell? ⟨w.heap.size, 4, none⟩ = some (.int .i64 n.fc) := hC2.cell 4
  have c5 : w2.cell? ⟨w.heap.size, 5, none⟩ = some (.int .i64 n.sc) := hC2.cell 5
  have c6 : w2.cell? ⟨w.heap.size, 6, none⟩ = some (.int .i64 n.mi) := hC2.cell 6
  have c7 : w2.cell? ⟨w.heap.size, 7, none⟩ = some (.int .i64 n.mf) := hC2.cell 7
  have c8 : w2.cell? ⟨w.heap.size, 8, none⟩ = some (.int .i64 n.md) := hC2.cell 8
  have c9 : w2.cell? ⟨w.heap.size, 9, none⟩ = some (.int .i64 n.hs) := hC2.cell 9
  go_upto_region 5 with fail
  obtain ⟨y0, hy0⟩ : ∃ y : RuV, Hid (y = ⟨⟨Dc.zero, Dc.zero, Dc.zero, false, n⟩, none, 0, 0, none, 0, 0, none, 0, 0⟩) := ⟨_, rfl⟩
  have hG : Blk w w2.heap.size 39 y0.cs (w2.alloc (.cells #[.bool false, .slice none 0 0, .int .i64 0, .bool false, .slice none 0 0, .int .i64 0, .bool false, .slice none 0 0, .int .i64 0, .bool false, .int .i64 n.ic, .int .i64 n.fc, .int .i64 n.sc, .int .i64 n.mi, .int .i64 n.mf, .int .i64 n.md, .int .i64 n.hs] 39)) := by
    rw [hy0.out]
    exact Blk.made w w2 39 _ hR2.later _ rfl
  have hC3 := hC2.alloc (.cells #[.bool false, .slice none 0 0, .int .i64 0, .bool false, .slice none 0 0, .int .i64 0, .bool false, .slice none 0 0, .int .i64 0, .bool false, .int .i64 n.ic, .int .i64 n.fc, .int .i64 n.sc, .int .i64 n.mi, .int .i64 n.mf, .int .i64 n.md, .int .i64 n.hs] 39)
  have hR3 := hR2.alloc (.cells #[.bool false, .slice none 0 0, .int .i64 0, .bool false, .slice none 0 0, .int .i64 0, .bool false, .slice none 0 0, .int .i64 0, .bool false, .int .i64 n.ic, .int .i64 n.fc, .int .i64 n.sc, .int .i64 n.mi, .int .i64 n.mf, .int .i64 n.md, .int .i64 n.hs] 39)
  have hlt2 := hR2.lt
  clear c0 c1 c2 c3 c4 c5 c6 c7 c8 c9 hC2 hR2
  obtain ⟨g5, hg5⟩ : ∃ g, g = w2.heap.size := ⟨_, rfl⟩
  rw [← hg5] at hG hlt2
  rw [← hg5]
  clear hg5
  generalize World.alloc w2 _ = w3 at *
  have c0 : w3.cell? ⟨w.heap.size, 0, none⟩ = some (.string m) := hC3.cell 0
  have c1 : w3.cell? ⟨w.heap.size, 1, none⟩ = some (.string x) := hC3.cell 1
  have c2 : w3.cell? ⟨w.heap.size, 2, none⟩ = some (.string s) := hC3.cell 2
  go_wp2_with fail
  generalize hw4 : World.alloc w3 _ = w4
  obtain ⟨tK, hK⟩ : ∃ tK, Blk w w3.heap.size tK #[.string { data := #[109, 105, 110] }, .string m, .pointer (some ⟨g5, 0, none⟩), .string { data := #[109, 97, 120] }, .string x, .pointer (some ⟨g5, 3, none⟩), .string { data := #[115, 116, 101, 112] }, .string s, .pointer (some ⟨g5, 6, none⟩)] w4 := ⟨_, by rw [← hw4]; exact Blk.made w w3 _ _ hR3.later _ rfl⟩
  have hG4 : Blk w g5 39 y0.cs w4 := by rw [← hw4]; exact hG.alloc _
  have hR4 : Blk w (w.heap.size + 1) 39 #[.bool false, .slice none 0 0, .int .i64 0, .bool false, .slice none 0 0, .int .i64 0, .bool false, .slice none 0 0, .int .i64 0, .bool false, .int .i64 0, .int .i64 0, .int .i64 0, .int .i64 0, .int .i64 0, .int .i64 0, .int .i64 0] w4 := by rw [← hw4]; exact hR3.alloc _
  have hgK : g5 < w3.heap.size := hG.lt
  obtain ⟨gK, hgk⟩ : ∃ g, g = w3.heap.size := ⟨_, rfl⟩
  rw [← hgk] at hK hgK
  rw [← hgk]
  clear hw4 hgk c0 c1 c2 hC3 hG hR3 hck
  go_loopw [34] (fun v wr => ∃ (i : Nat) (y : RuV), i ≤ 3 ∧ v = .int .i64 i ∧ Blk w g5 39 y.cs wr ∧ y.ok wr ∧ y.far (w.heap.size + 2) g5 ∧ Blk w (w.heap.size + 1) 39 #[.bool false, .slice none 0 0, .int .i64 0, .bool false, .slice none 0 0, .int .i64 0, .bool false, .slice none 0 0, .int .i64 0, .bool false, .int .i64 0, .int .i64 0, .int .i64 0, .int .i64 0, .int .i64 0, .int .i64 0, .int .i64 0] wr ∧ Blk w gK tK #[.string { data := #[109, 105, 110] }, .string m, .pointer (some ⟨g5, 0, none⟩), .string { data := #[109, 97, 120] }, .string x, .pointer (some ⟨g5, 3, none⟩), .string { data := #[115, 116, 101, 112] }, .string s, .pointer (some ⟨g5, 6, none⟩)] wr ∧
      Hid (y.r = ⟨if 0 < i then trimDc Dm else Dc.zero, if 1 < i then trimDc Dx else Dc.zero, if 2 < i then trimDc Ds else Dc.zero, false, n⟩)) (fun v _ => 3 - (intOf v).toNat)
  case atStart =>
    refine ⟨0, y0, by omega, rfl, hG4, ?_, ?_, hR4, hK, ?_⟩
    · rw [hy0.out]; exact ⟨IL.nil _, IL.nil _, IL.nil _⟩
    · rw [hy0.out]; exact ⟨fun h => absurd h (by simp), fun h => absurd h (by simp), fun h => absurd h (by simp)⟩
    · rw [Hid, hy0.out]; rfl
  case round =>
    obtain ⟨i, y, hi, rfl, hG, hok, hfar, hR, hK, hy⟩ := hrel
    clear hG4 hR4 hy0 y0
    by_cases hlt : i < 3
    · have hyn : y.r.n = n := by rw [hy.out]
      have hcs : i = 0 ∨ i = 1 ∨ i = 2 := by omega
      rcases hcs with rfl | rfl | rfl
      · as_aux_lemma =>
          have k0 : wr.cell? ⟨gK, 0, none⟩ = some (.string { data := #[109, 105, 110] }) := hK.cell 0
          have k1 : wr.cell? ⟨gK, 1, none⟩ = some (.string m) := hK.cell 1
          have k2 : wr.cell? ⟨gK, 2, none⟩ = some (.pointer (some ⟨g5, 0, none⟩)) := hK.cell 2
          have hnum := Lib.hid (fun wh W => show Calls Tryz.prog 20 #[.agg y.cs, .string wh, .string m] W (RNum W (trimDc Dm)) from number_ok y wh m Dm W hm.1 hm.2.1 hm.2.2.1 (by have := hm.2.2.2.1; omega) (by rw [hyn]; exact hm.2.2.2.2))
          clear hyn
          generalize hT : trimDc Dm = T at *
          have HT := Lib.hid hT
          clear hT
          go_upto_region 8 with fail
          generalize hwa : World.alloc wr _ = wa
          have hGa : Blk w g5 39 y.cs wa := by rw [← hwa]; exact hG.alloc _
          have hRa : Blk w (w.heap.size + 1) 39 #[.bool false, .slice none 0 0, .int .i64 0, .bool false, .slice none 0 0, .int .i64 0, .bool false, .slice none 0 0, .int .i64 0, .bool false, .int .i64 0, .int .i64 0, .int .i64 0, .int .i64 0, .int .i64 0, .int .i64 0, .int .i64 0] wa := by rw [← hwa]; exact hR.alloc _
          have hKa : Blk w gK tK #[.string { data := #[109, 105, 110] }, .string m, .pointer (some ⟨g5, 0, none⟩), .string { data := #[109, 97, 120] }, .string x, .pointer (some ⟨g5, 3, none⟩), .string { data := #[115, 116, 101, 112] }, .string s, .pointer (some ⟨g5, 6, none⟩)] wa := by rw [← hwa]; exact hK.alloc _
          have hLa : Later wr wa := by rw [← hwa]; exact (Later.refl wr).alloc _
          have t0 : wa.cell? ⟨wr.heap.size, 0, none⟩ = some (.string { data := #[109, 105, 110] }) := by rw [← hwa, World.cell?_alloc_at _ _ _ _ rfl]; rfl
          have t1 : wa.cell? ⟨wr.heap.size, 1, none⟩ = some (.string m) := by rw [← hwa, World.cell?_alloc_at _ _ _ _ rfl]; rfl
          have t2 : wa.cell? ⟨wr.heap.size, 2, none⟩ = some (.pointer (some ⟨g5, 0, none⟩)) := by rw [← hwa, World.cell?_alloc_at _ _ _ _ rfl]; rfl
          have hlta : wr.heap.size < wa.heap.size := by rw [← hwa]; simp
          clear hwa k0 k1 k2
          go_wp2_with (refine wpList_load_blk hGa row_rules rfl rfl rfl rfl ?_; go_simp)
          refine (hnum.out _ _).mono ?_
          rintro e w6 ⟨A, n', c', rfl, hI, hB6, hN6⟩
          have u2 : w6.cell? ⟨wr.heap.size, 2, none⟩ = some (.pointer (some ⟨g5, 0, none⟩)) := by rw [hB6.cell (p := ⟨wr.heap.size, 2, none⟩) hlta]; exact t2
          clear t0 t1 t2
          have hE := Blk.made w w6 36 #[.bool T.neg, .slice A n' c', .int .i64 T.s] (hGa.call hB6).later _ rfl
          have hGb := (hGa.call hB6).alloc (.cells #[.bool T.neg, .slice A n' c', .int .i64 T.s] 36)
          have hRb := (hRa.call hB6).alloc (.cells #[.bool T.neg, .slice A n' c', .int .i64 T.s] 36)
          have hKb := (hKa.call hB6).alloc (.cells #[.bool T.neg, .slice A n' c', .int .i64 T.s] 36)
          have hIb := hI.alloc (.cells #[.bool T.neg, .slice A n' c', .int .i64 T.s] 36)
          have hokb := ((hok.later hLa).later hB6).later ((Later.refl w6).alloc (.cells #[.bool T.neg, .slice A n' c', .int .i64 T.s] 36))
          have v2 := fun o => ((Later.refl w6).alloc o).cell u2
          have hgl : g5 < wa.heap.size := hGa.lt
          have hwl : w.heap.size + 1 < wa.heap.size := hRa.lt
          go_upto_region 9 with fail
          have v2 := v2 (.cells #[.bool T.neg, .slice A n' c', .int .i64 T.s] 36)
          generalize World.alloc w6 _ = w7 at *
          obtain ⟨⟨d0, d1, d2⟩, _⟩ := hE.cells3
          have k0 : w7.cell? ⟨g5, 0, none⟩ = some (.bool y.r.lo.neg) := hGb.cell 0
          have k1 : w7.cell? ⟨g5, 1, none⟩ = some (.slice y.A1 y.n1 y.c1) := hGb.cell 1
          have k2 : w7.cell? ⟨g5, 2, none⟩ = some (.int .i64 y.r.lo.s) := hGb.cell 2
          have f0 := hGb.free 0
          have f1 := hGb.free 1
          have f2 := hGb.free 2
          go_wp2_with fail
          go_roundw
          case rel =>
            have hnew : 0 < n' → ∀ a, A = some a → w.heap.size + 2 ≤ a.block ∧ a.block ≠ g5 := fun hz a ha => by have := hN6 hz a ha; exact ⟨by omega, by omega⟩
            have hS := ((Sto.set w7 ⟨g5, 0, none⟩ (.bool T.neg)).trans (Sto.set _ ⟨g5, 1, none⟩ (.slice A n' c'))).trans (Sto.set _ ⟨g5, 2, none⟩ (.int .i64 T.s))
            have hok' := hokb.sto hS ⟨fun hz a ha => (hfar.1 hz a ha).2, fun hz a ha => (hfar.2.1 hz a ha).2, fun hz a ha => (hfar.2.2 hz a ha).2⟩
            have hI' := hS.il hIb (fun hz a ha => (hnew hz a ha).2)
            have hG' : Blk w g5 39 (RuV.cs ⟨⟨T, y.r.hi, y.r.st, y.r.sg, y.r.n⟩, A, n', c', y.A2, y.n2, y.c2, y.A3, y.n3, y.c3⟩) (((w7.setCell ⟨g5, 0, none⟩ (.bool T.neg)).setCell ⟨g5, 1, none⟩ (.slice A n' c')).setCell ⟨g5, 2, none⟩ (.int .i64 T.s)) := ((hGb.set_ 0 (.bool T.neg)).set_ 1 (.slice A n' c')).set_ 2 (.int .i64 T.s)
            have hg0 : w.heap.size ≤ g5 := hGb.1
            have hR' := hS.far hRb (by show w.heap.size + 1 ≠ g5; omega) hg0
            have hK' := hS.far hKb (by show gK ≠ g5; omega) hg0
            refine ⟨1, ⟨⟨T, y.r.hi, y.r.st, y.r.sg, y.r.n⟩, A, n', c', y.A2, y.n2, y.c2, y.A3, y.n3, y.c3⟩, by omega, by go_num, hG', ⟨hI', hok'.2.1, hok'.2.2⟩, ⟨hnew, hfar.2.1, hfar.2.2⟩, hR', hK', ?_⟩
            rw [Hid]
            have e := hy.out
            show (⟨_, _, _, _, _⟩ : Ru) = _
            rw [e, ← HT.out]
            rfl
          case measure => simp [intOf]
      · as_aux_lemma =>
          have k0 : wr.cell? ⟨gK, 3, none⟩ = some (.string { data := #[109, 97, 120] }) := hK.cell 3
          have k1 : wr.cell? ⟨gK, 4, none⟩ = some (.string x) := hK.cell 4
          have k2 : wr.cell? ⟨gK, 5, none⟩ = some (.pointer (some ⟨g5, 3, none⟩)) := hK.cell 5
          have hnum := Lib.hid (fun wh W => show Calls Tryz.prog 20 #[.agg y.cs, .string wh, .string x] W (RNum W (trimDc Dx)) from number_ok y wh x Dx W hx.1 hx.2.1 hx.2.2.1 (by have := hx.2.2.2.1; omega) (by rw [hyn]; exact hx.2.2.2.2))
          clear hyn
          generalize hT : trimDc Dx = T at *
          have HT := Lib.hid hT
          clear hT
          go_upto_region 8 with fail
          generalize hwa : World.alloc wr _ = wa
          have hGa : Blk w g5 39 y.cs wa := by rw [← hwa]; exact hG.alloc _
          have hRa : Blk w (w.heap.size + 1) 39 #[.bool false, .slice none 0 0, .int .i64 0, .bool false, .slice none 0 0, .int .i64 0, .bool false, .slice none 0 0, .int .i64 0, .bool false, .int .i64 0, .int .i64 0, .int .i64 0, .int .i64 0, .int .i64 0, .int .i64 0, .int .i64 0] wa := by rw [← hwa]; exact hR.alloc _
          have hKa : Blk w gK tK #[.string { data := #[109, 105, 110] }, .string m, .pointer (some ⟨g5, 0, none⟩), .string { data := #[109, 97, 120] }, .string x, .pointer (some ⟨g5, 3, none⟩), .string { data := #[115, 116, 101, 112] }, .string s, .pointer (some ⟨g5, 6, none⟩)] wa := by rw [← hwa]; exact hK.alloc _
          have hLa : Later wr wa := by rw [← hwa]; exact (Later.refl wr).alloc _
          have t0 : wa.cell? ⟨wr.heap.size, 0, none⟩ = some (.string { data := #[109, 97, 120] }) := by rw [← hwa, World.cell?_alloc_at _ _ _ _ rfl]; rfl
          have t1 : wa.cell? ⟨wr.heap.size, 1, none⟩ = some (.string x) := by rw [← hwa, World.cell?_alloc_at _ _ _ _ rfl]; rfl
          have t2 : wa.cell? ⟨wr.heap.size, 2, none⟩ = some (.pointer (some ⟨g5, 3, none⟩)) := by rw [← hwa, World.cell?_alloc_at _ _ _ _ rfl]; rfl
          have hlta : wr.heap.size < wa.heap.size := by rw [← hwa]; simp
          clear hwa k0 k1 k2
          go_wp2_with (refine wpList_load_blk hGa row_rules rfl rfl rfl rfl ?_; go_simp)
          refine (hnum.out _ _).mono ?_
          rintro e w6 ⟨A, n', c', rfl, hI, hB6, hN6⟩
          have u2 : w6.cell? ⟨wr.heap.size, 2, none⟩ = some (.pointer (some ⟨g5, 3, none⟩)) := by rw [hB6.cell (p := ⟨wr.heap.size, 2, none⟩) hlta]; exact t2
          clear t0 t1 t2
          have hE := Blk.made w w6 36 #[.bool T.neg, .slice A n' c', .int .i64 T.s] (hGa.call hB6).later _ rfl
          have hGb := (hGa.call hB6).alloc (.cells #[.bool T.neg, .slice A n' c', .int .i64 T.s] 36)
          have hRb := (hRa.call hB6).alloc (.cells #[.bool T.neg, .slice A n' c', .int .i64 T.s] 36)
          have hKb := (hKa.call hB6).alloc (.cells #[.bool T.neg, .slice A n' c', .int .i64 T.s] 36)
          have hIb := hI.alloc (.cells #[.bool T.neg, .slice A n' c', .int .i64 T.s] 36)
          have hokb := ((hok.later hLa).later hB6).later ((Later.refl w6).alloc (.cells #[.bool T.neg, .slice A n' c', .int .i64 T.s] 36))
          have v2 := fun o => ((Later.refl w6).alloc o).cell u2
          have hgl : g5 < wa.heap.size := hGa.lt
          have hwl : w.heap.size + 1 < wa.heap.size := hRa.lt
          go_upto_region 9 with fail
          have v2 := v2 (.cells #[.bool T.neg, .slice A n' c', .int .i64 T.s] 36)
          generalize World.alloc w6 _ = w7 at *
          obtain ⟨⟨d0, d1, d2⟩, _⟩ := hE.cells3
          have k0 : w7.cell? ⟨g5, 3, none⟩ = some (.bool y.r.hi.neg) := hGb.cell 3
          have k1 : w7.cell? ⟨g5, 4, none⟩ = some (.slice y.A2 y.n2 y.c2) := hGb.cell 4
          have k2 : w7.cell? ⟨g5, 5, none⟩ = some (.int .i64 y.r.hi.s) := hGb.cell 5
          have f0 := hGb.free 3
          have f1 := hGb.free 4
          have f2 := hGb.free 5
          go_wp2_with fail
          go_roundw
          case rel =>
            have hnew : 0 < n' → ∀ a, A = some a → w.heap.size + 2 ≤ a.block ∧ a.block ≠ g5 := fun hz a ha => by have := hN6 hz a ha; exact ⟨by omega, by omega⟩
            have hS := ((Sto.set w7 ⟨g5, 3, none⟩ (.bool T.neg)).trans (Sto.set _ ⟨g5, 4, none⟩ (.slice A n' c'))).trans (Sto.set _ ⟨g5, 5, none⟩ (.int .i64 T.s))
            have hok' := hokb.sto hS ⟨fun hz a ha => (hfar.1 hz a ha).2, fun hz a ha => (hfar.2.1 hz a ha).2, fun hz a ha => (hfar.2.2 hz a ha).2⟩
            have hI' := hS.il hIb (fun hz a ha => (hnew hz a ha).2)
            have hG' : Blk w g5 39 (RuV.cs ⟨⟨y.r.lo, T, y.r.st, y.r.sg, y.r.n⟩, y.A1, y.n1, y.c1, A, n', c', y.A3, y.n3, y.c3⟩) (((w7.setCell ⟨g5, 3, none⟩ (.bool T.neg)).setCell ⟨g5, 4, none⟩ (.slice A n' c')).setCell ⟨g5, 5, none⟩ (.int .i64 T.s)) := ((hGb.set_ 3 (.bool T.neg)).set_ 4 (.slice A n' c')).set_ 5 (.int .i64 T.s)
            have hg0 : w.heap.size ≤ g5 := hGb.1
            have hR' := hS.far hRb (by show w.heap.size + 1 ≠ g5; omega) hg0
            have hK' := hS.far hKb (by show gK ≠ g5; omega) hg0
            refine ⟨2, ⟨⟨y.r.lo, T, y.r.st, y.r.sg, y.r.n⟩, y.A1, y.n1, y.c1, A, n', c', y.A3, y.n3, y.c3⟩, by omega, by go_num, hG', ⟨hok'.1, hI', hok'.2.2⟩, ⟨hfar.1, hnew, hfar.2.2⟩, hR', hK', ?_⟩
            rw [Hid]
            have e := hy.out
            show (⟨_, _, _, _, _⟩ : Ru) = _
            rw [e, ← HT.out]
            rfl
          case measure => simp [intOf]
      · as_aux_lemma =>
          have k0 : wr.cell? ⟨gK, 6, none⟩ = some (.string { data := #[115, 116, 101, 112] }) := hK.cell 6
          have k1 : wr.cell? ⟨gK, 7, none⟩ = some (.string s) := hK.cell 7
          have k2 : wr.cell? ⟨gK, 8, none⟩ = some (.pointer (some ⟨g5, 6, none⟩)) := hK.cell 8
          have hnum := Lib.hid (fun wh W => show Calls Tryz.prog 20 #[.agg y.cs, .string wh, .string s] W (RNum W (trimDc Ds)) from number_ok y wh s Ds W hs.1 hs.2.1 hs.2.2.1 (by have := hs.2.2.2.1; omega) (by rw [hyn]; exact hs.2.2.2.2))
          clear hyn
          generalize hT : trimDc Ds = T at *
          have HT := Lib.hid hT
          clear hT
          go_upto_region 8 with fail
          generalize hwa : World.alloc wr _ = wa
          have hGa : Blk w g5 39 y.cs wa := by rw [← hwa]; exact hG.alloc _
          have hRa : Blk w (w.heap.size + 1) 39 #[.bool false, .slice none 0 0, .int .i64 0, .bool false, .slice none 0 0, .int .i64 0, .bool false, .slice none 0 0, .int .i64 0, .bool false, .int .i64 0, .int .i64 0, .int .i64 0, .int .i64 0, .int .i64 0, .int .i64 0, .int .i64 0] wa := by rw [← hwa]; exact hR.alloc _
          have hKa : Blk w gK tK #[.string { data := #[109, 105, 110] }, .string m, .pointer (some ⟨g5, 0, none⟩), .string { data := #[109, 97, 120] }, .string x, .pointer (some ⟨g5, 3, none⟩), .string { data := #[115, 116, 101, 112] }, .string s, .pointer (some ⟨g5, 6, none⟩)] wa := by rw [← hwa]; exact hK.alloc _
          have hLa : Later wr wa := by rw [← hwa]; exact (Later.refl wr).alloc _
          have t0 : wa.cell? ⟨wr.heap.size, 0, none⟩ = some (.string { data := #[115, 116, 101, 112] }) := by rw [← hwa, World.cell?_alloc_at _ _ _ _ rfl]; rfl
          have t1 : wa.cell? ⟨wr.heap.size, 1, none⟩ = some (.string s) := by rw [← hwa, World.cell?_alloc_at _ _ _ _ rfl]; rfl
          have t2 : wa.cell? ⟨wr.heap.size, 2, none⟩ = some (.pointer (some ⟨g5, 6, none⟩)) := by rw [← hwa, World.cell?_alloc_at _ _ _ _ rfl]; rfl
          have hlta : wr.heap.size < wa.heap.size := by rw [← hwa]; simp
          clear hwa k0 k1 k2
          go_wp2_with (refine wpList_load_blk hGa row_rules rfl rfl rfl rfl ?_; go_simp)
          refine (hnum.out _ _).mono ?_
          rintro e w6 ⟨A, n', c', rfl, hI, hB6, hN6⟩
          have u2 : w6.cell? ⟨wr.heap.size, 2, none⟩ = some (.pointer (some ⟨g5, 6, none⟩)) := by rw [hB6.cell (p := ⟨wr.heap.size, 2, none⟩) hlta]; exact t2
          clear t0 t1 t2
          have hE := Blk.made w w6 36 #[.bool T.neg, .slice A n' c', .int .i64 T.s] (hGa.call hB6).later _ rfl
          have hGb := (hGa.call hB6).alloc (.cells #[.bool T.neg, .slice A n' c', .int .i64 T.s] 36)
          have hRb := (hRa.call hB6).alloc (.cells #[.bool T.neg, .slice A n' c', .int .i64 T.s] 36)
          have hKb := (hKa.call hB6).alloc (.cells #[.bool T.neg, .slice A n' c', .int .i64 T.s] 36)
          have hIb := hI.alloc (.cells #[.bool T.neg, .slice A n' c', .int .i64 T.s] 36)
          have hokb := ((hok.later hLa).later hB6).later ((Later.refl w6).alloc (.cells #[.bool T.neg, .slice A n' c', .int .i64 T.s] 36))
          have v2 := fun o => ((Later.refl w6).alloc o).cell u2
          have hgl : g5 < wa.heap.size := hGa.lt
          have hwl : w.heap.size + 1 < wa.heap.size := hRa.lt
          go_upto_region 9 with fail
          have v2 := v2 (.cells #[.bool T.neg, .slice A n' c', .int .i64 T.s] 36)
          generalize World.alloc w6 _ = w7 at *
          obtain ⟨⟨d0, d1, d2⟩, _⟩ := hE.cells3
          have k0 : w7.cell? ⟨g5, 6, none⟩ = some (.bool y.r.st.neg) := hGb.cell 6
          have k1 : w7.cell? ⟨g5, 7, none⟩ = some (.slice y.A3 y.n3 y.c3) := hGb.cell 7
          have k2 : w7.cell? ⟨g5, 8, none⟩ = some (.int .i64 y.r.st.s) := hGb.cell 8
          have f0 := hGb.free 6
          have f1 := hGb.free 7
          have f2 := hGb.free 8
          go_wp2_with fail
          go_roundw
          case rel =>
            have hnew : 0 < n' → ∀ a, A = some a → w.heap.size + 2 ≤ a.block ∧ a.block ≠ g5 := fun hz a ha => by have := hN6 hz a ha; exact ⟨by omega, by omega⟩
            have hS := ((Sto.set w7 ⟨g5, 6, none⟩ (.bool T.neg)).trans (Sto.set _ ⟨g5, 7, none⟩ (.slice A n' c'))).trans (Sto.set _ ⟨g5, 8, none⟩ (.int .i64 T.s))
            have hok' := hokb.sto hS ⟨fun hz a ha => (hfar.1 hz a ha).2, fun hz a ha => (hfar.2.1 hz a ha).2, fun hz a ha => (hfar.2.2 hz a ha).2⟩
            have hI' := hS.il hIb (fun hz a ha => (hnew hz a ha).2)
            have hG' : Blk w g5 39 (RuV.cs ⟨⟨y.r.lo, y.r.hi, T, y.r.sg, y.r.n⟩, y.A1, y.n1, y.c1, y.A2, y.n2, y.c2, A, n', c'⟩) (((w7.setCell ⟨g5, 6, none⟩ (.bool T.neg)).setCell ⟨g5, 7, none⟩ (.slice A n' c')).setCell ⟨g5, 8, none⟩ (.int .i64 T.s)) := ((hGb.set_ 6 (.bool T.neg)).set_ 7 (.slice A n' c')).set_ 8 (.int .i64 T.s)
            have hg0 : w.heap.size ≤ g5 := hGb.1
            have hR' := hS.far hRb (by show w.heap.size + 1 ≠ g5; omega) hg0
            have hK' := hS.far hKb (by show gK ≠ g5; omega) hg0
            refine ⟨3, ⟨⟨y.r.lo, y.r.hi, T, y.r.sg, y.r.n⟩, y.A1, y.n1, y.c1, y.A2, y.n2, y.c2, A, n', c'⟩, by omega, by go_num, hG', ⟨hok'.1, hok'.2.1, hI'⟩, ⟨hfar.1, hfar.2.1, hnew⟩, hR', hK', ?_⟩
            rw [Hid]
            have e := hy.out
            show (⟨_, _, _, _, _⟩ : Ru) = _
            rw [e, ← HT.out]
            rfl
          case measure => simp [intOf]
    · as_aux_lemma =>
        have e3 : y.r = ⟨trimDc Dm, trimDc Dx, trimDc Ds, false, n⟩ := by
          have : i = 3 := by omega
          subst this
          exact hy.out
        have hi3 : ¬ (i : Int) < 3 := by omega
        clear hy hlt
        have hRU : Hid (ruOf n Dm Dx Ds = ⟨y.r.lo, y.r.hi, y.r.st, y.r.lo.neg, y.r.n⟩) := by rw [e3]; rfl
        generalize ruOf n Dm Dx Ds = RU at *
        have m1 : mayDc y.r.lo = true ∧ y.r.lo.l.length ≤ 2000 := by rw [e3]; exact ⟨mayDc_trim hm.2.2.1, Nat.le_trans (trimDc_len Dm) hm.2.2.2.1⟩
        have m2 : mayDc y.r.hi = true ∧ y.r.hi.l.length ≤ 2000 := by rw [e3]; exact ⟨mayDc_trim hx.2.2.1, Nat.le_trans (trimDc_len Dx) hx.2.2.2.1⟩
        have m3 : mayDc y.r.st = true ∧ y.r.st.l.length ≤ 2000 := by rw [e3]; exact ⟨mayDc_trim hs.2.2.1, Nat.le_trans (trimDc_len Ds) hs.2.2.2.1⟩
        have hcm1 := Lib.hid (fun W (hW : y.ok W) => show Calls Tryz.prog 21 #[.agg #[.bool y.r.st.neg, .slice y.A3 y.n3 y.c3, .int .i64 y.r.st.s], .agg #[.bool false, .slice none 0 0, .int .i64 0]] W (RV W (.int .i64 (cmpDc y.r.st Dc.zero))) from
          ccompare_any _ _ _ _ W hW.2.2 (IL.nil W) (mayDc_iff.1 m3.1).1 rfl (by have := hW.2.2.len; omega) (by omega) (mayDc_iff.1 m3.1).2.1 (mayDc_iff.1 m3.1).2.2 (by omega) (by omega))
        have hcm2 := Lib.hid (fun W (hW : y.ok W) => show Calls Tryz.prog 21 #[.agg #[.bool y.r.lo.neg, .slice y.A1 y.n1 y.c1, .int .i64 y.r.lo.s], .agg #[.bool y.r.hi.neg, .slice y.A2 y.n2 y.c2, .int .i64 y.r.hi.s]] W (RV W (.int .i64 (cmpDc y.r.lo y.r.hi))) from
          ccompare_any _ _ _ _ W hW.1 hW.2.1 (mayDc_iff.1 m1.1).1 (mayDc_iff.1 m2.1).1 (by have := hW.1.len; omega) (by have := hW.2.1.len; omega) (mayDc_iff.1 m1.1).2.1 (mayDc_iff.1 m1.1).2.2 (mayDc_iff.1 m2.1).2.1 (mayDc_iff.1 m2.1).2.2)
        have hp : 0 < cmpDc y.r.st Dc.zero := by rw [show y.r.st = trimDc Ds by rw [e3]]; omega
        have hr : ¬ 0 < cmpDc y.r.lo y.r.hi := by rw [show y.r.lo = trimDc Dm by rw [e3], show y.r.hi = trimDc Dx by rw [e3]]; omega
        clear m1 m2 m3 hrow hpos e3
        generalize cmpDc y.r.st Dc.zero = q1 at *
        generalize cmpDc y.r.lo y.r.hi = q2 at *
        have k6 : wr.cell? ⟨g5, 6, none⟩ = some (.bool y.r.st.neg) := hG.cell 6
        have k7 : wr.cell? ⟨g5, 7, none⟩ = some (.slice y.A3 y.n3 y.c3) := hG.cell 7
        have k8 : wr.cell? ⟨g5, 8, none⟩ = some (.int .i64 y.r.st.s) := hG.cell 8
        go_wp2_with fail
        refine (hcm1.out _ hok).mono ?_
        rintro e w6 ⟨rfl, hB6⟩
        have hG6 := hG.call hB6
        have hR6 := hR.call hB6
        have hok6 := hok.later hB6
        clear k6 k7 k8 hi3 hG hR hok hcm1
        have k0 : w6.cell? ⟨g5, 0, none⟩ = some (.bool y.r.lo.neg) := hG6.cell 0
        have k1 : w6.cell? ⟨g5, 1, none⟩ = some (.slice y.A1 y.n1 y.c1) := hG6.cell 1
        have k2 : w6.cell? ⟨g5, 2, none⟩ = some (.int .i64 y.r.lo.s) := hG6.cell 2
        have k3 : w6.cell? ⟨g5, 3, none⟩ = some (.bool y.r.hi.neg) := hG6.cell 3
        have k4 : w6.cell? ⟨g5, 4, none⟩ = some (.slice y.A2 y.n2 y.c2) := hG6.cell 4
        have k5 : w6.cell? ⟨g5, 5, none⟩ = some (.int .i64 y.r.hi.s) := hG6.cell 5
        go_wp2_with fail
        refine (hcm2.out _ hok6).mono ?_
        rintro e w7 ⟨rfl, hB7⟩
        have hG7 := hG6.call hB7
        have hR7 := hR6.call hB7
        have hok7 := hok6.later hB7
        clear k0 k1 k2 k3 k4 k5 hG6 hR6 hok6 hcm2
        have k0 : w7.cell? ⟨g5, 0, none⟩ = some (.bool y.r.lo.neg) := hG7.cell 0
        have k9 : w7.cell? ⟨g5, 9, none⟩ = some (.bool y.r.sg) := hG7.cell 9
        have f9 := hG7.free 9
        go_upto_region 18 with fail
        have hG8 : Blk w g5 39 (RuV.cs ⟨⟨y.r.lo, y.r.hi, y.r.st, y.r.lo.neg, y.r.n⟩, y.A1, y.n1, y.c1, y.A2, y.n2, y.c2, y.A3, y.n3, y.c3⟩) (w7.setCell ⟨g5, 9, none⟩ (.bool y.r.lo.neg)) := hG7.set_ 9 (.bool y.r.lo.neg)
        have hS8 := Sto.set w7 ⟨g5, 9, none⟩ (.bool y.r.lo.neg)
        have hok8 := hok7.sto hS8 ⟨fun hz a ha => (hfar.1 hz a ha).2, fun hz a ha => (hfar.2.1 hz a ha).2, fun hz a ha => (hfar.2.2 hz a ha).2⟩
        have hR8 : Blk w (w.heap.size + 1) 39 #[.bool false, .slice none 0 0, .int .i64 0, .bool false, .slice none 0 0, .int .i64 0, .bool false, .slice none 0 0, .int .i64 0, .bool false, .int .i64 0, .int .i64 0, .int .i64 0, .int .i64 0, .int .i64 0, .int .i64 0, .int .i64 0] (w7.setCell ⟨g5, 9, none⟩ (.bool y.r.lo.neg)) := hS8.far hR7 (by show w.heap.size + 1 ≠ g5; omega) hG7.1
        clear k0 k9 f9 hS8 hG7 hR7 hok7
        generalize World.setCell w7 _ _ = w8 at *
        obtain ⟨Y, hY⟩ : ∃ Y : RuV, Hid (Y = ⟨⟨y.r.lo, y.r.hi, y.r.st, y.r.lo.neg, y.r.n⟩, y.A1, y.n1, y.c1, y.A2, y.n2, y.c2, y.A3, y.n3, y.c3⟩) := ⟨_, rfl⟩
        rw [← hY.out] at hG8
        have hokY : Y.ok w8 := by rw [hY.out]; exact hok8
        have hYr : Y.r = RU := by rw [hY.out, hRU.out]
        have hfY : (0 < Y.n1 → ∀ a, Y.A1 = some a → a.block ≠ w.heap.size + 1) ∧ (0 < Y.n2 → ∀ a, Y.A2 = some a → a.block ≠ w.heap.size + 1) ∧ (0 < Y.n3 → ∀ a, Y.A3 = some a → a.block ≠ w.heap.size + 1) := by
          rw [hY.out]
          exact ⟨fun hz a ha => by have := (hfar.1 hz a ha).1; omega, fun hz a ha => by have := (hfar.2.1 hz a ha).1; omega, fun hz a ha => by have := (hfar.2.2 hz a ha).1; omega⟩
        have hFY : Y.far w.heap.size w8.heap.size := by
          rw [hY.out]
          exact ⟨fun hz a ha => ⟨by have := (hfar.1 hz a ha).1; omega, hok8.1.apart (Nat.le_refl _) hz a ha⟩, fun hz a ha => ⟨by have := (hfar.2.1 hz a ha).1; omega, hok8.2.1.apart (Nat.le_refl _) hz a ha⟩, fun hz a ha => ⟨by have := (hfar.2.2 hz a ha).1; omega, hok8.2.2.apart (Nat.le_refl _) hz a ha⟩⟩
        clear hok8 hRU hY hp hr
        go_wp2_with (first | (refine wpList_load_blk hG8 row_rules rfl rfl rfl rfl ?_; go_simp) | (refine wpList_store_blk hR8 row_rules rfl rfl rfl rfl rfl rfl (by kernel_rfl) ?_; intro w9 hR9 hS9; go_simp))
        exact bodyPost_ret (results_ct hR9 row_rules rfl Tryz.results8 rfl rfl) rfl
          ⟨Y, rfl, hYr, hokY.sto hS9 hfY, hS9.below hR8.later (by omega), by rw [hS9.size]; exact hFY⟩

end Go.Proofs.YtjinbhnpcdlkiaaGreatDoor


namespace Go.Proofs.YtjinbhnpcdlkiaaGreatDoor
open Go.RowKit

/-- What a configuration is made of. -/
structure Gv where
  lb : Bool
  ll : List Int
  hb : Bool
  hl : List Int
  st : List Int
  sm : Bool
  n : Cn
def goodN (g : Cn) : Cn :=
  ⟨1 + around g.ic 8, around g.fc 6, around g.sc (around g.fc 6 + 1), around g.mi (1 + around g.ic 8 + 1), around g.mf (around g.sc (around g.fc 6 + 1) + 1), around g.md 7, 1 + around g.hs 6⟩
theorem goodN_bd (g : Cn) : (1 ≤ (goodN g).ic ∧ (goodN g).ic ≤ 8) ∧ (0 ≤ (goodN g).fc ∧ (goodN g).fc ≤ 5) ∧ (0 ≤ (goodN g).sc ∧ (goodN g).sc ≤ (goodN g).fc) ∧ (0 ≤ (goodN g).mi ∧ (goodN g).mi ≤ (goodN g).ic) ∧ (0 ≤ (goodN g).mf ∧ (goodN g).mf ≤ (goodN g).sc) ∧ (0 ≤ (goodN g).md ∧ (goodN g).md ≤ 6) ∧ (1 ≤ (goodN g).hs ∧ (goodN g).hs ≤ 6) := by
  have a1 := around_bd g.ic 8 (by omega)
  have a2 := around_bd g.fc 6 (by omega)
  have a3 := around_bd g.sc (around g.fc 6 + 1) (by omega)
  have a4 := around_bd g.mi (1 + around g.ic 8 + 1) (by omega)
  have a5 := around_bd g.mf (around g.sc (around g.fc 6 + 1) + 1) (by omega)
  have a6 := around_bd g.md 7 (by omega)
  have a7 := around_bd g.hs 6 (by omega)
  simp only [goodN]
  omega
theorem goodN_ok (g : Cn) : (goodN g).Ok := by
  obtain ⟨h1, h2, h3, h4, h5, h6, h7⟩ := goodN_bd g
  exact ⟨by omega, by omega, by omega, by omega, by omega, by omega, by omega⟩
def lowG (g : Gv) : Dc := ⟨g.lb, goodL g.ll ((goodN g.n).ic + (goodN g.n).sc).toNat, (goodN g.n).sc⟩
def highG (g : Gv) : Dc := ⟨g.hb, goodL g.hl ((goodN g.n).ic + (goodN g.n).sc).toNat, (goodN g.n).sc⟩
def stepG (g : Gv) : Dc := ⟨false, [if g.sm = false ∧ 0 < g.st.length then 1 + around (g.st.getD 0 0) 9 else 1], (goodN g.n).sc⟩
/-- The least and the greatest number. -/
def boundsG (g : Gv) : Dc × Dc := if 0 < cmpDc (lowG g) (highG g) then (highG g, lowG g) else (lowG g, highG g)
theorem printL_length (d : Dc) : (printL d).length ≤ max d.l.length (d.s.toNat + 1) + 2 := by
  unfold printL
  split
  · have h1 := textL_len (wideL d.l (d.s.toNat + 1))
    have h2 := wideL_len d.l (d.s.toNat + 1)
    have h3 : (cutL (textL (wideL d.l (d.s.toNat + 1))) d.s.toNat).length ≤ (textL (wideL d.l (d.s.toNat + 1))).length + 1 := by
      unfold cutL
      split
      · simp only [List.length_append, List.length_cons, List.length_take, List.length_drop]; omega
      · omega
    rw [List.length_append]
    split <;> simp <;> omega
  · simp
/-- The number of a number's text. -/
def backD (d : Dc) : Dc := ⟨d.neg, wideL d.l (d.s.toNat + 1), d.s⟩
theorem textOk_print {n : Cn} {b : Bool} {l : List Int} (hn : n.Ok) (hm : mayL l = true) (hl : (l.length : Int) ≤ n.ic + n.sc) : TextOk n (bs (printL ⟨b, l, n.sc⟩)) (backD ⟨b, l, n.sc⟩) ∧ mayDc ⟨b, l, n.sc⟩ = true ∧ trimDc (backD ⟨b, l, n.sc⟩) = trimDc ⟨b, l, n.sc⟩ := by
  have h1 := hn.ic
  have h2 := hn.sc
  have h3 := hn.fc
  have hd : mayDc ⟨b, l, n.sc⟩ = true := mayDc_iff.2 ⟨hm, h2.1, by simp only; omega⟩
  have ht : trimDc (backD ⟨b, l, n.sc⟩) = trimDc ⟨b, l, n.sc⟩ := trim_wide hd _
  have hp := printL_length ⟨b, l, n.sc⟩
  have hw : (wideL l (n.sc.toNat + 1)).length = max l.length (n.sc.toNat + 1) := wideL_len _ _
  refine ⟨⟨?_, ?_, ?_, ?_, ?_⟩, hd, ht⟩
  · rw [bs_size]; simp only at hp; omega
  · rw [bs_list]; exact parse_print hd
  · exact (print_back hd).2.2
  · show (wideL l (n.sc.toNat + 1)).length ≤ 2000
    omega
  · unfold fitsC
    rw [ht]
    obtain ⟨q, hq⟩ := Int.eq_ofNat_of_zero_le h2.1
    have := trim_fits (b := b) (l := l) (s := q) (q := n.ic.toNat) hm (by omega)
    rw [hq]
    rw [hq] at h2
    rw [decide_eq_true (by omega), decide_eq_true (by omega)]
    rfl
/-- What is made. -/
structure Cm where
  n : Cn
  m : ByteArray
  x : ByteArray
  s : ByteArray
  dm : Dc
  dx : Dc
  ds : Dc
structure Cm.Ok (c : Cm) : Prop where
  n : c.n.Ok
  m : TextOk c.n c.m c.dm
  x : TextOk c.n c.x c.dx
  s : TextOk c.n c.s c.ds
  row : ¬ 0 < cmpDc (trimDc c.dm) (trimDc c.dx)
  pos : 0 < cmpDc (trimDc c.ds) Dc.zero
def Cm.ru (c : Cm) : Ru := ruOf c.n c.dm c.dx c.ds
def goodG (g : Gv) : Cm := ⟨goodN g.n, bs (printL (boundsG g).1), bs (printL (boundsG g).2), bs (printL (stepG g)), backD (boundsG g).1, backD (boundsG g).2, backD (stepG g)⟩
theorem goodG_ok (g : Gv) : (goodG g).Ok := by
  have hn := goodN_ok g.n
  obtain ⟨n1, n2, n3, _⟩ := goodN_bd g.n
  have hlen : ∀ l : List Int, ((goodL l ((goodN g.n).ic + (goodN g.n).sc).toNat).length : Int) ≤ (goodN g.n).ic + (goodN g.n).sc := fun l => by
    rw [goodL_len]; omega
  have tl := textOk_print (b := g.lb) hn (mayL_good g.ll ((goodN g.n).ic + (goodN g.n).sc).toNat) (hlen _)
  have th := textOk_print (b := g.hb) hn (mayL_good g.hl ((goodN g.n).ic + (goodN g.n).sc).toNat) (hlen _)
  have hk : mayL (stepG g).l = true ∧ 1 ≤ (stepG g).l.getD 0 0 := by
    simp only [stepG]
    split
    · have := around_bd (g.st.getD 0 0) 9 (by omega)
      generalize around (g.st.getD 0 0) 9 = q at *
      exact ⟨mayL_iff.2 fun y hy => by simp at hy; omega, by simp; omega⟩
    · exact ⟨rfl, by simp⟩
  have ts := textOk_print (b := false) hn hk.1 (by simp only [stepG, List.length_cons, List.length_nil]; omega)
  have hpos : 0 < cmpDc (trimDc (backD (stepG g))) Dc.zero := by
    rw [show trimDc (backD (stepG g)) = trimDc (stepG g) from ts.2.2, cmpDc_trimL hk.1 n3.1]
    rw [cmpDc_at _ _ (stepG g).s.toNat (Nat.le_refl _) (Nat.zero_le _)]
    have e0 : Dc.zero.at_ (stepG g).s.toNat = 0 := by simp [Dc.at_, Dc.zero, Dc.z, val]
    have e1 : 0 < (stepG g).at_ (stepG g).s.toNat := by
      obtain ⟨y, hy⟩ : ∃ y, (stepG g).l = [y] := ⟨_, rfl⟩
      rw [hy] at hk
      have h1 : (stepG g).z = y := by
        have : (stepG g).neg = false := rfl
        simp [Dc.z, this, hy, val]
      simp only [Dc.at_, h1, Nat.sub_self]
      simp at hk
      omega
    rw [e0]
    unfold cmpI
    rw [if_neg (by omega), if_pos (by omega)]
    omega
  have ml : mayL (lowG g).l = true := mayL_good _ _
  have mh : mayL (highG g).l = true := mayL_good _ _
  have cl : trimDc (backD (lowG g)) = trimDc (lowG g) := tl.2.2
  have ch : trimDc (backD (highG g)) = trimDc (highG g) := th.2.2
  by_cases hc : 0 < cmpDc (lowG g) (highG g)
  · have hb : boundsG g = (highG g, lowG g) := if_pos hc
    refine ⟨hn, ?_, ?_, ts.1, ?_, hpos⟩
    · show TextOk _ (bs (printL (boundsG g).1)) (backD (boundsG g).1); rw [hb]; exact th.1
    · show TextOk _ (bs (printL (boundsG g).2)) (backD (boundsG g).2); rw [hb]; exact tl.1
    · show ¬ 0 < cmpDc (trimDc (backD (boundsG g).1)) (trimDc (backD (boundsG g).2))
      rw [hb]
      simp only
      rw [cl, ch, cmpDc_trim mh n3.1 ml n3.1, cmpDc_swap]
      omega
  · have hb : boundsG g = (lowG g, highG g) := if_neg hc
    refine ⟨hn, ?_, ?_, ts.1, ?_, hpos⟩
    · show TextOk _ (bs (printL (boundsG g).1)) (backD (boundsG g).1); rw [hb]; exact tl.1
    · show TextOk _ (bs (printL (boundsG g).2)) (backD (boundsG g).2); rw [hb]; exact th.1
    · show ¬ 0 < cmpDc (trimDc (backD (boundsG g).1)) (trimDc (backD (boundsG g).2))
      rw [hb]
      simp only
      rw [cl, ch, cmpDc_trim ml n3.1 mh n3.1]
      exact hc

end Go.Proofs.YtjinbhnpcdlkiaaGreatDoor

