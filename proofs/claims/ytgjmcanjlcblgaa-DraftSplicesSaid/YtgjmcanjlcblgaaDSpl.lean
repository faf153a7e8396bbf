/- The walk of DraftSplices. No condition. -/
import Derived.Test.YtgjmcanjlcblgaaDBack
import Derived.Test.YtgjmcanjlcblgaaDV
namespace Go.Proofs.Ytgjmcanjlcblgaa
open Go.RowKit

set_option maxRecDepth 100000 in
set_option maxHeartbeats 4000000 in
theorem draftSplices_walk (w : World) {A0 : Option Addr} {n0 c0 : Nat} {l0 : List Int} {E0 : Option Addr} {m0 d0 : Nat} {k0 : List Int} {a1 a2 : Int} {A3 : Option Addr} {n3 c3 : Nat} {l3 : List Int} (b0 p0 : Bool)
    (w0 : IL w A0 n0 c0 l0) (i0 : I64 l0) (x0 : IL w E0 m0 d0 k0) (j0 : I64 k0) (w1 : -9223372036854775808 ≤ a1 ∧ a1 ≤ 9223372036854775807) (w2 : -9223372036854775808 ≤ a2 ∧ a2 ≤ 9223372036854775807) (w3 : IL w A3 n3 c3 l3) (i3 : I64 l3) :
    Calls Try.prog 3 #[.agg #[.bool b0, .slice A0 n0 c0, .bool p0, .slice E0 m0 d0], .int .i64 a1, .int .i64 a2, .slice A3 n3 c3] w fun e w' => e = .returned (.bool true) ∧ Below w.heap.size w w' := by
  obtain ⟨X, hXb, hf⟩ : ∃ X : Dr, (I64 X.int ∧ I64 X.frac ∧ X.int.length ≤ 9 ∧ X.frac.length ≤ 9) ∧ Hid (∀ W, IL W A0 n0 c0 l0 → IL W E0 m0 d0 k0 → Calls Try.prog 15 #[.agg #[.bool b0, .slice A0 n0 c0, .bool p0, .slice E0 m0 d0], .int .i64 9] W (RD W X)) :=
    ⟨⟨b0, l0.take 9, p0, k0.take 9⟩, ⟨fun x hx => i0 x (List.mem_of_mem_take hx), fun x hx => j0 x (List.mem_of_mem_take hx), List.length_take_le _ _, List.length_take_le _ _⟩, fun W hW hW2 => dfew_any b0 p0 9 W hW hW2 (by omega)⟩
  obtain ⟨G, hGb, hg⟩ : ∃ G : Dr, (I64 G.int ∧ I64 G.frac ∧ G.int.length ≤ 9 ∧ G.frac.length ≤ 9) ∧ Hid (∀ W, IL W A0 n0 c0 l0 → IL W E0 m0 d0 k0 → Calls Try.prog 16 #[.agg #[.bool b0, .slice A0 n0 c0, .bool p0, .slice E0 m0 d0], .int .i64 9, .int .i64 9] W (RD W G)) := by
    have hG1 : ∀ q : List Int, I64 (goodL q 9) ∧ (goodL q 9).length ≤ 9 := fun q => ⟨fun x hx => by have := mayL_iff.1 (mayL_good q 9) x hx; omega, by rw [goodL_len]; omega⟩
    refine ⟨⟨b0, goodL l0 9, p0, if p0 then goodL k0 9 else []⟩, ⟨(hG1 _).1, ?_, (hG1 _).2, ?_⟩, fun W hW hW2 => dgood_any b0 p0 9 9 W hW hW2 i0 j0 (by omega) (by omega)⟩ <;> cases p0
    · intro x hx; simp at hx
    · exact (hG1 _).1
    · simp
    · exact (hG1 _).2
  obtain ⟨S, hSb, hp⟩ : ∃ S : List Int, (I64 S ∧ S.length ≤ 5) ∧ Hid (∀ W, IL W A3 n3 c3 l3 → Calls Try.prog 17 #[.slice A3 n3 c3, .int .i64 5] W (RO W S)) :=
    ⟨goodL11 l3 5, ⟨fun x hx => by have := goodL11_bd l3 5 x hx; omega, by rw [goodL11_len]; omega⟩, fun W hW => points_any A3 n3 c3 5 l3 W hW i3 (by omega)⟩
  obtain ⟨a, ha, ha1⟩ : ∃ a : Int, (0 ≤ a ∧ a < 20) ∧ Hid (∀ W, Calls Try.prog 18 #[.int .i64 a1, .int .i64 20] W fun e w' => e = .returned (.int .i64 a) ∧ W = w') :=
    ⟨_, around_bd a1 20 (by omega), fun W => around_any a1 20 W w1.1 w1.2 (by omega) (by omega)⟩
  obtain ⟨b, hb, ha2⟩ : ∃ a : Int, (0 ≤ a ∧ a < 20) ∧ Hid (∀ W, Calls Try.prog 18 #[.int .i64 a2, .int .i64 20] W fun e w' => e = .returned (.int .i64 a) ∧ W = w') :=
    ⟨_, around_bd a2 20 (by omega), fun W => around_any a2 20 W w2.1 w2.2 (by omega) (by omega)⟩
  obtain ⟨k5, hk5, hmin5, hmin5'⟩ := min_cut n3 5
  replace hmin5 := hmin5 5 rfl
  replace hmin5' := hmin5' 5 rfl
  have r5 := w3.few 5 A3 rfl k5 hk5
  have hRb : I64 (l3.take 5) := fun x hx => i3 x (List.mem_of_mem_take hx)
  have hb5 : k5 ≤ n3 ∧ k5 ≤ 5 := by omega
  have hc3 := w3.cap
  have hle3 := w3.le
  clear hk5
  obtain ⟨lo, hlo, g1, g2, g3⟩ : ∃ lo : Int, (0 ≤ lo ∧ lo < 20) ∧ (if b < a then b else a) = lo ∧ (if a ≤ b then a else b) = lo ∧ (if a < b then a else b) = lo := by
    rcases Int.lt_or_le a b with q | q
    · exact ⟨a, ha, if_neg (by omega), if_pos (by omega), if_pos q⟩
    · refine ⟨b, hb, ?_, ?_, if_neg (by omega)⟩ <;> split <;> omega
  obtain ⟨up, hup, u1, u2, u3⟩ : ∃ up : Int, (0 ≤ up ∧ up < 20) ∧ (if a < b then b else a) = up ∧ (if a ≤ b then b else a) = up ∧ (if b < a then a else b) = up := by
    rcases Int.lt_or_le a b with q | q
    · exact ⟨b, hb, if_pos q, if_pos (by omega), if_neg (by omega)⟩
    · refine ⟨a, ha, if_neg (by omega), ?_, ?_⟩ <;> split <;> omega
  go_enter Try.func3, Try.ntmps3
  go_wp2_with fail
  refine (hf.out _ (w0.alloc _) (x0.alloc _)).mono ?_
  rintro e w4 ⟨A, n, c, E, m, q, rfl, hA, hE, hB⟩
  have hP := (Fresh4.made w w 24 (.bool b0) (.slice A0 n0 c0) (.bool p0) (.slice E0 m0 d0) (Later.refl w) _ rfl).call hB
  have hb4 := hP.2.2
  have hF := Fresh4.made w w4 24 (.bool X.neg) (.slice A n c) (.bool X.sep) (.slice E m q) hb4 _ rfl
  have q10 := fun o => (hP.alloc o).cells.1.1
  have q11 := fun o => (hP.alloc o).cells.1.2.1
  have q12 := fun o => (hP.alloc o).cells.1.2.2.1
  have q13 := fun o => (hP.alloc o).cells.1.2.2.2
  go_wp2_with fail
  refine (hg.out _ ((w0.later hb4).alloc _) ((x0.later hb4).alloc _)).mono ?_
  rintro e w5 ⟨A', n', c', E', m', q', rfl, hA', hE', hB5⟩
  have hF5 := hF.call hB5
  have hG5 := Fresh4.made w w5 24 (.bool G.neg) (.slice A' n' c') (.bool G.sep) (.slice E' m' q') hF5.2.2 _ rfl
  go_wp2_with fail
  refine (hp.out _ ((w3.later hF5.2.2).alloc _)).mono ?_
  rintro e w6 ⟨Z, nz, cz, rfl, hZ, hB6⟩
  have hF6 := (hF5.alloc _).call hB6
  have hG6 := hG5.call hB6
  obtain ⟨⟨r0, r1, r2, r3⟩, _⟩ := hF6.cells
  obtain ⟨⟨s0, s1, s2, s3⟩, _⟩ := hG6.cells
  go_wp2_with fail
  refine (ha1.out _).mono ?_
  rintro e w7 ⟨rfl, rfl⟩
  go_wp2_with fail
  refine (ha2.out _).mono ?_
  rintro e w7 ⟨rfl, rfl⟩
  go_wp2_with fail
  generalize hw9 : World.alloc (World.alloc (World.alloc (World.alloc w6 _) _) _) _ = w9
  have hb9 : Later w w9 := by rw [← hw9]; exact ((((hF6.2.2.alloc _).alloc _).alloc _).alloc _)
  have h69 : Later w6 w9 := by rw [← hw9]; exact (((((Later.refl w6).alloc _).alloc _).alloc _).alloc _)
  have hX9 : IL w9 A n c X.int ∧ IL w9 E m q X.frac := ⟨((((hA.alloc _).below hB5).alloc _).below hB6).later h69, ((((hE.alloc _).below hB5).alloc _).below hB6).later h69⟩
  have hG9 : IL w9 A' n' c' G.int ∧ IL w9 E' m' q' G.frac := ⟨((hA'.alloc _).below hB6).later h69, ((hE'.alloc _).below hB6).later h69⟩
  have hZ9 : IL w9 Z nz cz S := hZ.il.later h69
  have hr9 : IL w9 A3 k5 c3 (l3.take 5) := (r5.later hF6.2.2).later h69
  obtain ⟨F, I, J, LA, Ln, Lc, Ls, hF⟩ : ∃ (F : Nat → DV) (I J : Nat → Int) (LA : Nat → Option Addr) (Ln Lc : Nat → Nat) (Ls : Nat → List Int), ∀ k, k < 4 →
      ((F k).at_ w9 w6.heap.size (k * 4) ∧ (F k).ok w9 ∧ (I64 (F k).l ∧ I64 (F k).f ∧ (F k).n ≤ 9 ∧ (F k).m ≤ 9)) ∧
      (w9.cell? ⟨w6.heap.size + 1, k, none⟩ = some (.int .i64 (I k)) ∧ (-9223372036854775808 ≤ I k ∧ I k ≤ 9223372036854775807)) ∧
      (w9.cell? ⟨w6.heap.size + 1 + 1, k, none⟩ = some (.int .i64 (J k)) ∧ (-9223372036854775808 ≤ J k ∧ J k ≤ 9223372036854775807)) ∧
      (w9.cell? ⟨w6.heap.size + 1 + 1 + 1, k, none⟩ = some (.slice (LA k) (Ln k) (Lc k)) ∧ IL w9 (LA k) (Ln k) (Lc k) (Ls k) ∧ I64 (Ls k) ∧ Ln k ≤ 5) := by
    refine ⟨fun k => if k = 2 then ⟨X.neg, A, n, c, X.int, X.sep, E, m, q, X.frac⟩ else ⟨G.neg, A', n', c', G.int, G.sep, E', m', q', G.frac⟩,
      fun k => if k = 0 then lo else if k = 1 then a1 else a, fun k => if k = 0 then up else if k = 1 then a2 else b, fun k => if k = 3 then A3 else Z, fun k => if k = 3 then k5 else nz, fun k => if k = 3 then c3 else cz, fun k => if k = 3 then l3.take 5 else S, ?_⟩
    intro k hk
    have lX := hX9.1.len
    have lX2 := hX9.2.len
    have lG := hG9.1.len
    have lG2 := hG9.2.len
    have lZ := hZ9.len
    have bX : I64 X.int ∧ I64 X.frac ∧ n ≤ 9 ∧ m ≤ 9 := ⟨hXb.1, hXb.2.1, by omega, by omega⟩
    have bG : I64 G.int ∧ I64 G.frac ∧ n' ≤ 9 ∧ m' ≤ 9 := ⟨hGb.1, hGb.2.1, by omega, by omega⟩
    have bZ : I64 S ∧ nz ≤ 5 := ⟨hSb.1, by omega⟩
    have ba : -9223372036854775808 ≤ a ∧ a ≤ 9223372036854775807 := by omega
    have bb : -9223372036854775808 ≤ b ∧ b ≤ 9223372036854775807 := by omega
    have bl : -9223372036854775808 ≤ lo ∧ lo ≤ 9223372036854775807 := by omega
    have bu : -9223372036854775808 ≤ up ∧ up ≤ 9223372036854775807 := by omega
    have hc0 : ∀ i, w9.cell? ⟨w6.heap.size, i, none⟩ = (#[.bool G.neg, .slice A' n' c', .bool G.sep, .slice E' m' q', .bool G.neg, .slice A' n' c', .bool G.sep, .slice E' m' q', .bool X.neg, .slice A n c, .bool X.sep, .slice E m q, .bool G.neg, .slice A' n' c', .bool G.sep, .slice E' m' q'] : Array Value)[i]? := by
      intro i
      rw [← hw9, World.cell?_alloc_past _ _ _ (by simp; try omega), World.cell?_alloc_past _ _ _ (by simp; try omega), World.cell?_alloc_past _ _ _ (by simp; try omega), World.cell?_alloc_at _ _ _ _ rfl]
    have hc1 : ∀ i, w9.cell? ⟨w6.heap.size + 1, i, none⟩ = (#[.int .i64 lo, .int .i64 a1, .int .i64 a, .int .i64 a] : Array Value)[i]? := by
      intro i
      rw [← hw9, World.cell?_alloc_past _ _ _ (by simp; try omega), World.cell?_alloc_past _ _ _ (by simp; try omega), World.cell?_alloc_at _ _ _ _ (by simp)]
    have hc2 : ∀ i, w9.cell? ⟨w6.heap.size + 1 + 1, i, none⟩ = (#[.int .i64 up, .int .i64 a2, .int .i64 b, .int .i64 b] : Array Value)[i]? := by
      intro i
      rw [← hw9, World.cell?_alloc_past _ _ _ (by simp; try omega), World.cell?_alloc_at _ _ _ _ (by simp)]
    have hc3 : ∀ i, w9.cell? ⟨w6.heap.size + 1 + 1 + 1, i, none⟩ = (#[.slice Z nz cz, .slice Z nz cz, .slice Z nz cz, .slice A3 k5 c3] : Array Value)[i]? := by
      intro i
      rw [← hw9, World.cell?_alloc_at _ _ _ _ (by simp)]
    have hkk : k = 0 ∨ k = 1 ∨ k = 2 ∨ k = 3 := by omega
    rcases hkk with rfl | rfl | rfl | rfl
    · exact ⟨⟨⟨hc0 0, hc0 1, hc0 2, hc0 3⟩, hG9, bG⟩, ⟨hc1 0, bl⟩, ⟨hc2 0, bu⟩, ⟨hc3 0, hZ9, bZ⟩⟩
    · exact ⟨⟨⟨hc0 4, hc0 5, hc0 6, hc0 7⟩, hG9, bG⟩, ⟨hc1 1, w1⟩, ⟨hc2 1, w2⟩, ⟨hc3 1, hZ9, bZ⟩⟩
    · exact ⟨⟨⟨hc0 8, hc0 9, hc0 10, hc0 11⟩, hX9, bX⟩, ⟨hc1 2, ba⟩, ⟨hc2 2, bb⟩, ⟨hc3 2, hZ9, bZ⟩⟩
    · exact ⟨⟨⟨hc0 12, hc0 13, hc0 14, hc0 15⟩, hG9, bG⟩, ⟨hc1 3, ba⟩, ⟨hc2 3, bb⟩, ⟨hc3 3, hr9, hRb, hb5.2⟩⟩
  have HF := Lib.hid hF
  clear hF hw9 h69 hX9 hG9 hZ9 hr9 g1 g2 g3 u1 u2 u3 hmin5 hmin5'
  go_loopw [19] (fun v wr => ∃ i : Nat, i ≤ 4 ∧ v = .int .i64 i ∧ Later w9 wr) (fun v _ => 4 - (intOf v).toNat)
  case atStart => exact ⟨0, by omega, rfl, Later.refl _⟩
  case round =>
    obtain ⟨i, hi, rfl, hL⟩ := hrel
    by_cases hlt : i < 4
    · obtain ⟨⟨hx1, hx2, hx3, hx4, hx5, hx6⟩, ⟨hi1, hi2⟩, ⟨hj1, hj2⟩, ⟨hl1, hl2, hl3, hl4⟩⟩ := HF.out i hlt
      generalize F i = x at *
      generalize I i = ii at *
      generalize J i = jj at *
      generalize LA i = La at *
      generalize Ln i = ln at *
      generalize Lc i = lc at *
      generalize Ls i = ls at *
      go_upto_region 14 with fail
      obtain ⟨wb, hwb⟩ : ∃ wb, wb = wr := ⟨_, rfl⟩
      rw [← hwb] at hL
      rw [← hwb]
      clear hwb
      have HS : Hid (∀ W, Later wb W → (W.cell? ⟨w6.heap.size, i * 4, none⟩ = some (.bool x.b) ∧ W.cell? ⟨w6.heap.size, i * 4 + 1, none⟩ = some (.slice x.A x.n x.c) ∧ W.cell? ⟨w6.heap.size, i * 4 + 2, none⟩ = some (.bool x.p) ∧ W.cell? ⟨w6.heap.size, i * 4 + 3, none⟩ = some (.slice x.E x.m x.q) ∧
          W.cell? ⟨w6.heap.size + 1, i, none⟩ = some (.int .i64 ii) ∧ W.cell? ⟨w6.heap.size + 1 + 1, i, none⟩ = some (.int .i64 jj) ∧ W.cell? ⟨w6.heap.size + 1 + 1 + 1, i, none⟩ = some (.slice La ln lc)) ∧ Later wb W) := by
        intro W hW
        have hLW : Later w9 W := below_from hL hW
        obtain ⟨y0, y1, y2, y3⟩ := hx1.later hLW
        exact ⟨⟨y0, y1, y2, y3, hLW.cell hi1, hLW.cell hj1, hLW.cell hl1⟩, hW⟩
      have hi4 : (i : Int) < 4 := by omega
      have hi0 : (0 : Int) ≤ (i : Int) := by omega
      obtain ⟨D, hD⟩ : ∃ D, spliceS ⟨x.b, x.l, x.p, x.f⟩ ii jj ls = D := ⟨_, rfl⟩
      have hs1 := Lib.hid (fun W (hW : Later wb W) => show Calls Try.prog 19 #[.agg #[.bool x.b, .slice x.A x.n x.c, .bool x.p, .slice x.E x.m x.q], .int .i64 ii, .int .i64 jj, .slice La ln lc] W (RDE W D.1 D.2) by
        rw [← hD]; exact splice_any x.b x.p ii jj W (hx2.1.later (below_from hL hW)) (hx2.2.later (below_from hL hW)) (hl2.later (below_from hL hW)) hx3 hx4 hl3 (by omega) (by omega) (by omega) hi2 hj2)
      have hs2 := Lib.hid (fun W (hW : Later wb W) => show Calls Try.prog 21 #[.agg #[.bool x.b, .slice x.A x.n x.c, .bool x.p, .slice x.E x.m x.q], .int .i64 ii, .int .i64 jj, .slice La ln lc] W (RDE W D.1 D.2) by
        rw [← hD]; exact rsplice_any x.b x.p ii jj W (hx2.1.later (below_from hL hW)) (hx2.2.later (below_from hL hW)) (hl2.later (below_from hL hW)) hx3 hx4 hl3 (by omega) (by omega) (by omega) hi2 hj2)
      clear hD
      obtain ⟨D, ec⟩ := D
      go_cut [20, 21] (fun s20 s21 W => ∃ (g : Nat) (A1 : Option Addr) (n1 c1 : Nat) (E1 : Option Addr) (m1 q1 : Nat), s20 = .pointer (some ⟨g, 0, none⟩) ∧ s21 = .int .i64 ec ∧ Fresh4 wb g 31 (.bool D.neg) (.slice A1 n1 c1) (.bool D.sep) (.slice E1 m1 q1) W ∧ IL W A1 n1 c1 D.int ∧ IL W E1 m1 q1 D.frac)
      case first =>
        go_region_held3 (fun W => (W.cell? ⟨w6.heap.size, i * 4, none⟩ = some (.bool x.b) ∧ W.cell? ⟨w6.heap.size, i * 4 + 1, none⟩ = some (.slice x.A x.n x.c) ∧ W.cell? ⟨w6.heap.size, i * 4 + 2, none⟩ = some (.bool x.p) ∧ W.cell? ⟨w6.heap.size, i * 4 + 3, none⟩ = some (.slice x.E x.m x.q) ∧
          W.cell? ⟨w6.heap.size + 1, i, none⟩ = some (.int .i64 ii) ∧ W.cell? ⟨w6.heap.size + 1 + 1, i, none⟩ = some (.int .i64 jj) ∧ W.cell? ⟨w6.heap.size + 1 + 1 + 1, i, none⟩ = some (.slice La ln lc)) ∧ Later wb W)
          ((refine HS.out _ ?_; repeat (first | exact And.right (by assumption) | exact Later.refl _ | refine Later.drew ?_ | refine Later.alloc ?_ _ | refine Later.setCell ?_ (by first | exact Nat.le_refl _ | exact hL7.size | exact hL8.size) _ | refine Later.call ?_ hB7 | refine Later.call ?_ hB8)))
          (first
            | (go_at_call 20; refine (of_any _ _ _ _ _ _ _ _ _).mono ?_; rintro e w7 ⟨rfl, hB7⟩; have hL7 : Later wb w7 := Later.call (And.right (by assumption)) hB7; try (have hC7 : Below ((wb.alloc (.cells #[.bool false, .slice none 0 0, .bool false, .slice none 0 0] 31)).drew).heap.size ((wb.alloc (.cells #[.bool false, .slice none 0 0, .bool false, .slice none 0 0] 31)).drew) w7 := (by with_reducible exact hB7); have k7 := (Fresh4.made wb wb 31 (.bool false) (.slice none 0 0) (.bool false) (.slice none 0 0) (Later.refl wb) _ rfl).drew.call hC7; have kl := k7.lt; obtain ⟨⟨y0, y1, y2, y3⟩, ⟨y4, y5, y6, y7⟩⟩ := k7.cells))
            | (go_at_call 19; refine (hs1.out _ (And.right (by assumption))).mono ?_; rintro e w8 ⟨A1, n1, c1, E1, m1, q1, rfl, hI1, hJ1, hB8, hN1, hM1⟩; have hL8 : Later wb w8 := Later.call (And.right (by assumption)) hB8;
                first
                | (have k8 := k7.call hB8; obtain ⟨⟨z0, z1, z2, z3⟩, ⟨z4, z5, z6, z7⟩⟩ := k8.cells)
                | (have hC8 : Below (w7.alloc (.cells #[.bool false, .slice none 0 0, .bool false, .slice none 0 0] 31)).heap.size (w7.alloc (.cells #[.bool false, .slice none 0 0, .bool false, .slice none 0 0] 31)) w8 := (by with_reducible exact hB8); have k8 := (Fresh4.made wb w7 31 (.bool false) (.slice none 0 0) (.bool false) (.slice none 0 0) hL7 _ rfl).call hC8; obtain ⟨⟨z0, z1, z2, z3⟩, ⟨z4, z5, z6, z7⟩⟩ := k8.cells)
                | skip))
        all_goals
          go_wp2_with fail
          go_meet
          first
          | (have _k := k8; exact ⟨_, A1, n1, c1, E1, m1, q1, rfl, rfl, k8.store _ _ _ _, hI1.set4 (fun hz a ha => by have := hN1 hz a ha; (try simp at this); omega) _ _ _ _, hJ1.set4 (fun hz a ha => by have := hM1 hz a ha; (try simp at this); omega) _ _ _ _⟩)
          | exact ⟨_, A1, n1, c1, E1, m1, q1, rfl, rfl, Fresh4.made wb w8 _ _ _ _ _ hL8 _ rfl, hI1.alloc _, hJ1.alloc _⟩
      case rest =>
        obtain ⟨g, A1, n1, c1, E1, m1, q1, rfl, rfl, hF20, hI20, hJ20⟩ := hcut
        obtain ⟨wm, hwm⟩ : ∃ wm, wm = wc := ⟨_, rfl⟩
        rw [← hwm] at hF20 hI20 hJ20
        rw [← hwm]
        clear hwm
        have hLc : Later wb wm := hF20.2.2
        have HSc : Hid (∀ W, Later wm W → (W.cell? ⟨w6.heap.size, i * 4, none⟩ = some (.bool x.b) ∧ W.cell? ⟨w6.heap.size, i * 4 + 1, none⟩ = some (.slice x.A x.n x.c) ∧ W.cell? ⟨w6.heap.size, i * 4 + 2, none⟩ = some (.bool x.p) ∧ W.cell? ⟨w6.heap.size, i * 4 + 3, none⟩ = some (.slice x.E x.m x.q) ∧
          W.cell? ⟨w6.heap.size + 1, i, none⟩ = some (.int .i64 ii) ∧ W.cell? ⟨w6.heap.size + 1 + 1, i, none⟩ = some (.int .i64 jj) ∧ W.cell? ⟨w6.heap.size + 1 + 1 + 1, i, none⟩ = some (.slice La ln lc)) ∧ Later wm W) := fun W hW => ⟨(HS.out W (below_from hLc hW)).1, hW⟩
        clear HS
        go_upto_region 15 with fail
        go_cut [22, 23] (fun s22 s23 W => ∃ (g2 : Nat) (A2 : Option Addr) (n2 c2 : Nat) (E2 : Option Addr) (m2 q2 : Nat), s22 = .pointer (some ⟨g2, 0, none⟩) ∧ s23 = .int .i64 ec ∧ Fresh4 wm g2 24 (.bool D.neg) (.slice A2 n2 c2) (.bool D.sep) (.slice E2 m2 q2) W ∧ IL W A2 n2 c2 D.int ∧ IL W E2 m2 q2 D.frac)
        case first =>
          go_region_held3 (fun W => (W.cell? ⟨w6.heap.size, i * 4, none⟩ = some (.bool x.b) ∧ W.cell? ⟨w6.heap.size, i * 4 + 1, none⟩ = some (.slice x.A x.n x.c) ∧ W.cell? ⟨w6.heap.size, i * 4 + 2, none⟩ = some (.bool x.p) ∧ W.cell? ⟨w6.heap.size, i * 4 + 3, none⟩ = some (.slice x.E x.m x.q) ∧
            W.cell? ⟨w6.heap.size + 1, i, none⟩ = some (.int .i64 ii) ∧ W.cell? ⟨w6.heap.size + 1 + 1, i, none⟩ = some (.int .i64 jj) ∧ W.cell? ⟨w6.heap.size + 1 + 1 + 1, i, none⟩ = some (.slice La ln lc)) ∧ Later wm W)
            ((refine HSc.out _ ?_; repeat (first | exact And.right (by assumption) | exact Later.refl _ | refine Later.drew ?_ | refine Later.alloc ?_ _ | refine Later.setCell ?_ (by first | exact Nat.le_refl _ | exact hL8.size) _ | refine Later.call ?_ hB8)))
            (first
              | (go_at_call 21; refine (hs2.out _ (below_from hLc (And.right (by assumption)))).mono ?_; rintro e w8 ⟨A2, n2, c2, E2, m2, q2, rfl, hI2, hJ2, hB8, hN2, hM2⟩; have hL8 : Later wm w8 := Later.call (And.right (by assumption)) hB8;
                  try (have hC8 : Below ((wm.alloc (.cells #[.bool false, .slice none 0 0, .bool false, .slice none 0 0] 24)).drew).heap.size ((wm.alloc (.cells #[.bool false, .slice none 0 0, .bool false, .slice none 0 0] 24)).drew) w8 := (by with_reducible exact hB8); have k8 := (Fresh4.made wm wm 24 (.bool false) (.slice none 0 0) (.bool false) (.slice none 0 0) (Later.refl wm) _ rfl).drew.call hC8; obtain ⟨⟨z0, z1, z2, z3⟩, ⟨z4, z5, z6, z7⟩⟩ := k8.cells)))
          all_goals
            go_wp2_with fail
            go_meet
            first
            | (have _k := k8; exact ⟨_, A2, n2, c2, E2, m2, q2, rfl, rfl, k8.store _ _ _ _, hI2.set4 (fun hz a ha => by have := hN2 hz a ha; (try simp at this); omega) _ _ _ _, hJ2.set4 (fun hz a ha => by have := hM2 hz a ha; (try simp at this); omega) _ _ _ _⟩)
            | exact ⟨_, A2, n2, c2, E2, m2, q2, rfl, rfl, Fresh4.made wm w8 _ _ _ _ _ hL8 _ rfl, hI2.alloc _, hJ2.alloc _⟩
        case rest =>
          obtain ⟨g2, A2, n2, c2, E2, m2, q2, rfl, rfl, hF22, hI22, hJ22⟩ := hcut
          have hLd : Later wm wc := hF22.2.2
          have hG2 := hF20.call hLd
          have hI2 := hI20.later hLd
          have hJ2 := hJ20.later hLd
          obtain ⟨⟨a0, a1', a2', a3'⟩, _⟩ := hG2.cells
          obtain ⟨⟨e0, e1, e2, e3⟩, _⟩ := hF22.cells
          have K0 := fun s : Ext wc => Ext.cell a0 s
          have K1 := fun s : Ext wc => Ext.cell a1' s
          have K2 := fun s : Ext wc => Ext.cell a2' s
          have K3 := fun s : Ext wc => Ext.cell a3' s
          have L0 := fun s : Ext wc => Ext.cell e0 s
          have L1 := fun s : Ext wc => Ext.cell e1 s
          have L2 := fun s : Ext wc => Ext.cell e2 s
          have L3 := fun s : Ext wc => Ext.cell e3 s
          have hsm := Lib.hid (fun s : Ext wc => show Calls Try.prog 22 #[.agg #[.bool D.neg, .slice A1 n1 c1, .bool D.sep, .slice E1 m1 q1], .agg #[.bool D.neg, .slice A2 n2 c2, .bool D.sep, .slice E2 m2 q2]] s.world (RV s.world (.bool true)) by
            have := rdsame_any D.neg D.sep D.neg D.sep s.world (hI2.ext s) (hJ2.ext s) (hI22.ext s) (hJ22.ext s)
            rw [sameD_refl] at this
            exact this)
          go_upto_region 16 with fail
          refine wp_region_ext (by kernel_rfl) (by kernel_rfl) ?_
          repeat (quiet_step (first
            | (go_at_call 23; exact quiet_ext _ (as_any _ _ _ _ _ _ _ _ _))
            | (go_at_call 22; exact quiet_ext _ (hsm.out _))))
          refine wpQuiet_nil ?_
          rintro _ ⟨s, rfl⟩
          go_wp2_with fail
          go_roundw
          case rel => first | exact ⟨i + 1, by omega, by go_num, below_from (below_from (below_from hL hLc) hLd) s.h⟩ | ((repeat apply Exists.intro); exact ⟨⟨i + 1, by omega, by go_num, below_from (below_from (below_from hL hLc) hLd) s.h⟩, rfl⟩)
          case measure => simp [intOf]; omega
    · go_wp2_with fail
      refine (lives14_any _).mono ?_
      rintro e w10 ⟨rfl, hB10⟩
      go_wp2_with fail
      go_ret
      exact ⟨rfl, below_from (below_from hb9 hL) hB10⟩

end Go.Proofs.Ytgjmcanjlcblgaa
