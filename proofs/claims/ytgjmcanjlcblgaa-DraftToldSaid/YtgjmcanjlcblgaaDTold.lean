/- The walk of DraftTold. No condition. -/
import Derived.Test.YtgjmcanjlcblgaaDf2
import Derived.Test.YtgjmcanjlcblgaaDe5
import Derived.Test.YtgjmcanjlcblgaaDBack
namespace Go.Proofs.Ytgjmcanjlcblgaa
open Go.RowKit

set_option maxRecDepth 100000 in
set_option maxHeartbeats 8000000 in
theorem draftTold_walk (w : World) {A0 : Option Addr} {n0 c0 : Nat} {l0 : List Int} {E0 : Option Addr} {m0 d0 : Nat} {k0 : List Int} {a1 a2 : Int} (b0 p0 : Bool)
    (w0 : IL w A0 n0 c0 l0) (i0 : I64 l0) (x0 : IL w E0 m0 d0 k0) (j0 : I64 k0) (w1 : -9223372036854775808 ≤ a1 ∧ a1 ≤ 9223372036854775807) (w2 : -9223372036854775808 ≤ a2 ∧ a2 ≤ 9223372036854775807) :
    Calls Try.prog 12 #[.agg #[.bool b0, .slice A0 n0 c0, .bool p0, .slice E0 m0 d0], .int .i64 a1, .int .i64 a2] w fun e w' => e = .returned (.bool true) ∧ Below w.heap.size w w' := by
  obtain ⟨X, hXb, hf⟩ : ∃ X : Dr, (I64 X.int ∧ I64 X.frac ∧ X.int.length ≤ 9 ∧ X.frac.length ≤ 9) ∧ Hid (∀ W, IL W A0 n0 c0 l0 → IL W E0 m0 d0 k0 → Calls Try.prog 15 #[.agg #[.bool b0, .slice A0 n0 c0, .bool p0, .slice E0 m0 d0], .int .i64 9] W (RD W X)) :=
    ⟨⟨b0, l0.take 9, p0, k0.take 9⟩, ⟨fun x hx => i0 x (List.mem_of_mem_take hx), fun x hx => j0 x (List.mem_of_mem_take hx), List.length_take_le _ _, List.length_take_le _ _⟩, fun W hW hW2 => dfew_any b0 p0 9 W hW hW2 (by omega)⟩
  obtain ⟨G, hGb, hGm, hg⟩ : ∃ G : Dr, (I64 G.int ∧ I64 G.frac ∧ G.int.length ≤ 9 ∧ G.frac.length ≤ 9) ∧ Hid (mayD G.neg G.int G.sep G.frac = true) ∧ Hid (∀ W, IL W A0 n0 c0 l0 → IL W E0 m0 d0 k0 → Calls Try.prog 16 #[.agg #[.bool b0, .slice A0 n0 c0, .bool p0, .slice E0 m0 d0], .int .i64 9, .int .i64 9] W (RD W G)) := by
    have hG1 : ∀ q : List Int, I64 (goodL q 9) ∧ (goodL q 9).length ≤ 9 := fun q => ⟨fun x hx => by have := mayL_iff.1 (mayL_good q 9) x hx; omega, by rw [goodL_len]; omega⟩
    refine ⟨⟨b0, goodL l0 9, p0, if p0 then goodL k0 9 else []⟩, ⟨(hG1 _).1, ?_, (hG1 _).2, ?_⟩, ?_, fun W hW hW2 => dgood_any b0 p0 9 9 W hW hW2 i0 j0 (by omega) (by omega)⟩ <;> cases p0
    · intro x hx; simp at hx
    · exact (hG1 _).1
    · simp
    · exact (hG1 _).2
    · simp [Hid, mayD, mayL_good]
    · simp [Hid, mayD, mayL_good]
  obtain ⟨a, ha, ha1⟩ : ∃ a : Int, (0 ≤ a ∧ a < 11) ∧ Hid (∀ W, Calls Try.prog 18 #[.int .i64 a1, .int .i64 11] W fun e w' => e = .returned (.int .i64 a) ∧ W = w') :=
    ⟨_, around_bd a1 11 (by omega), fun W => around_any a1 11 W w1.1 w1.2 (by omega) (by omega)⟩
  obtain ⟨b, hb, ha2⟩ : ∃ a : Int, (0 ≤ a ∧ a < 11) ∧ Hid (∀ W, Calls Try.prog 18 #[.int .i64 a2, .int .i64 11] W fun e w' => e = .returned (.int .i64 a) ∧ W = w') :=
    ⟨_, around_bd a2 11 (by omega), fun W => around_any a2 11 W w2.1 w2.2 (by omega) (by omega)⟩
  go_enter Try.func12, Try.ntmps12
  go_wp2_with fail
  refine (hf.out _ (w0.alloc _) (x0.alloc _)).mono ?_
  rintro e w4 ⟨A, n, c, E, m, q, rfl, hA, hE, hB⟩
  have hP := (Fresh4.made w w 24 (.bool b0) (.slice A0 n0 c0) (.bool p0) (.slice E0 m0 d0) (Later.refl w) _ rfl).call hB
  have hb4 := hP.2.2
  have hF := Fresh4.made w w4 24 (.bool X.neg) (.slice A n c) (.bool X.sep) (.slice E m q) hb4 _ rfl
  have q10 := fun o => (hP.alloc o).cells.1.1
  have q11 := fun o => (hP.alloc o).cells.1.2.1
  have q12 := fun o => (hP.alloc o).cells.1.2.2.1
  have q13 := fun o => (hP.alloc o).cells.1.2.2.2
  go_wp2_with fail
  refine (hg.out _ ((w0.later hb4).alloc _) ((x0.later hb4).alloc _)).mono ?_
  rintro e w5 ⟨A', n', c', E', m', q', rfl, hA', hE', hB5⟩
  have hF5 := hF.call hB5
  have hG5 := Fresh4.made w w5 24 (.bool G.neg) (.slice A' n' c') (.bool G.sep) (.slice E' m' q') hF5.2.2 _ rfl
  have hn' : n' ≤ 9 := by have := hA'.len; omega
  have hm' : m' ≤ 9 := by have := hE'.len; omega
  go_wp2_with fail
  refine (ratoms_any (l := G.int) (f := G.frac) G.neg G.sep _ (hA'.alloc _) (hE'.alloc _) (by omega) (by omega)).mono ?_
  rintro e w6 ⟨Z, nz, cz, rfl, hZ, hB6⟩
  have hF6 := (hF5.alloc _).call hB6
  have hG6 := hG5.call hB6
  have hX6 : IL w6 A n c X.int := (((hA.alloc _).below hB5).alloc _).below hB6
  have hY6 : IL w6 E m q X.frac := (((hE.alloc _).below hB5).alloc _).below hB6
  have hU6 : IL w6 A' n' c' G.int := (hA'.alloc _).below hB6
  have hV6 : IL w6 E' m' q' G.frac := (hE'.alloc _).below hB6
  go_wp2_with fail
  refine (ha1.out _).mono ?_
  rintro e w7 ⟨rfl, rfl⟩
  go_wp2_with fail
  refine (ha2.out _).mono ?_
  rintro e w7 ⟨rfl, rfl⟩
  go_upto_region 6 with fail
  have hLw : Later w w6 := hF6.2.2
  have hn : n ≤ 9 := by have := hX6.len; omega
  have hm : m ≤ 9 := by have := hY6.len; omega
  have hzl := Lib.hid hZ.len
  have hS : ∀ W, Later w6 W → ((W.cell? ⟨w4.heap.size, 0, none⟩ = some (.bool X.neg) ∧ W.cell? ⟨w4.heap.size, 1, none⟩ = some (.slice A n c) ∧ W.cell? ⟨w4.heap.size, 2, none⟩ = some (.bool X.sep) ∧ W.cell? ⟨w4.heap.size, 3, none⟩ = some (.slice E m q)) ∧
      (W.cell? ⟨w5.heap.size, 0, none⟩ = some (.bool G.neg) ∧ W.cell? ⟨w5.heap.size, 1, none⟩ = some (.slice A' n' c') ∧ W.cell? ⟨w5.heap.size, 2, none⟩ = some (.bool G.sep) ∧ W.cell? ⟨w5.heap.size, 3, none⟩ = some (.slice E' m' q'))) ∧ Later w6 W :=
    fun W hW => ⟨⟨(hF6.call hW).cells.1, (hG6.call hW).cells.1⟩, hW⟩
  have HS := Lib.hid hS
  obtain ⟨mx, hmx⟩ : ∃ mx, mayD X.neg X.int X.sep X.frac = mx := ⟨_, rfl⟩
  have hm1 := Lib.hid (fun W (hW : Later w6 W) => show Calls Try.prog 46 #[.agg #[.bool X.neg, .slice A n c, .bool X.sep, .slice E m q]] W (RV W (.bool mx)) by
    rw [← hmx]; exact dmay_any X.neg X.sep W (hX6.later hW) (hY6.later hW) hXb.1 hXb.2.1)
  have hm2 := Lib.hid (fun W (hW : Later w6 W) => show Calls Try.prog 47 #[.agg #[.bool X.neg, .slice A n c, .bool X.sep, .slice E m q]] W (RV W (.bool mx)) by
    rw [← hmx]; exact rdmay_any X.neg X.sep W (hX6.later hW) (hY6.later hW))
  have hm3 := Lib.hid (fun W (hW : Later w6 W) => show Calls Try.prog 46 #[.agg #[.bool G.neg, .slice A' n' c', .bool G.sep, .slice E' m' q']] W (RV W (.bool true)) by
    rw [← hGm.out]; exact dmay_any G.neg G.sep W (hU6.later hW) (hV6.later hW) hGb.1 hGb.2.1)
  have hat := Lib.hid (fun W (hW : Later w6 W) => atoms_any G.neg G.sep W (hU6.later hW) (hV6.later hW) (by omega) (by omega))
  have hln := Lib.hid (fun W (hW : Later w6 W) => show Calls Try.prog 25 #[.agg #[.bool G.neg, .slice A' n' c', .bool G.sep, .slice E' m' q']] W (RV W (.int .i64 (nz : Int))) by
    rw [← hzl.out]; exact len_any G.neg G.sep W (hU6.later hW) (hV6.later hW) (by omega) (by omega))
  have hsm := Lib.hid (fun A n c W (hI : IL W A n c (atomsD G.int G.sep G.frac)) (hW : Later w6 W) => show Calls Try.prog 34 #[.slice A n c, .slice Z nz cz] W (RV W (.bool true)) by
    have := same_any A n c _ Z nz cz _ W hI (hZ.il.later hW)
    rw [beq_self_eq_true] at this
    exact this.mono fun _ _ h => RQ.rv h)
  have hf1 := Lib.hid (fun x y W (hW : Later w6 W) hx hy => dfits_any (l := G.int) (f := G.frac) G.neg G.sep x y W (hU6.later hW) (hV6.later hW) hx hy)
  have hf2 := Lib.hid (fun x y W (hW : Later w6 W) hx hy => rdfits_any (l := G.int) (f := G.frac) G.neg G.sep x y W (hU6.later hW) (hV6.later hW) hx hy)
  have hd1 := Lib.hid (fun W (hW : Later w6 W) => ddec_any G.neg G.sep W (hU6.later hW) (hV6.later hW) hGb.1 hGb.2.1 (by omega) (by omega))
  have hd2 := Lib.hid (fun W (hW : Later w6 W) => rdec_any G.neg G.sep W (hU6.later hW) (hV6.later hW) hGb.1 hGb.2.1 (by omega) (by omega))
  have ht1 := Lib.hid (fun W (hW : Later w6 W) => dtext_any G.neg G.sep W (hU6.later hW) (hV6.later hW) hGb.1 hGb.2.1 (by omega) (by omega))
  have ht2 := Lib.hid (fun W (hW : Later w6 W) => rdtext_any G.neg G.sep W (hU6.later hW) (hV6.later hW) (by omega) (by omega))
  generalize decD ⟨G.neg, G.int, G.sep, G.frac⟩ = D at *
  generalize bs (textD ⟨G.neg, G.int, G.sep, G.frac⟩) = T at *
  have hcs := Lib.hid (fun (A : Option Addr) (n c : Nat) (A2 : Option Addr) (n2 c2 : Nat) W (h1 : IL W A n c D.l) (h2 : IL W A2 n2 c2 D.l) => show Calls Try.prog 51 #[.agg #[.bool D.neg, .slice A n c, .int .i64 D.s], .agg #[.bool D.neg, .slice A2 n2 c2, .int .i64 D.s]] W (RV W (.bool true)) by
    have := csame_any D.neg D.neg D.s D.s W h1 h2
    rw [show sameDc ⟨D.neg, D.l, D.s⟩ ⟨D.neg, D.l, D.s⟩ = true from sameDc_refl _] at this
    exact this)
  clear hmx hS hF hF5 hG5 hF6 hG6 hP
  simp only [List.append_eq, List.cons_append, List.nil_append]
  go_region_held3 (fun W => ((W.cell? ⟨w4.heap.size, 0, none⟩ = some (.bool X.neg) ∧ W.cell? ⟨w4.heap.size, 1, none⟩ = some (.slice A n c) ∧ W.cell? ⟨w4.heap.size, 2, none⟩ = some (.bool X.sep) ∧ W.cell? ⟨w4.heap.size, 3, none⟩ = some (.slice E m q)) ∧
      (W.cell? ⟨w5.heap.size, 0, none⟩ = some (.bool G.neg) ∧ W.cell? ⟨w5.heap.size, 1, none⟩ = some (.slice A' n' c') ∧ W.cell? ⟨w5.heap.size, 2, none⟩ = some (.bool G.sep) ∧ W.cell? ⟨w5.heap.size, 3, none⟩ = some (.slice E' m' q'))) ∧ Later w6 W)
    ((refine HS.out _ ?_; repeat (first | exact And.right (by assumption) | exact Later.refl _ | refine Later.call ?_ hB | refine Later.drew ?_)))
    (first
      | (go_at_call 20; refine (of_any _ _ _ _ _ _ _ _ _).mono ?_; rintro e w8 ⟨rfl, hB⟩)
      | (go_at_call 46; (with_reducible refine (hm1.out _ (And.right (by assumption))).mono ?_); rintro e w8 ⟨rfl, hB⟩)
      | (go_at_call 46; refine (hm3.out _ (And.right (by assumption))).mono ?_; rintro e w8 ⟨rfl, hB⟩)
      | (go_at_call 47; refine (hm2.out _ (And.right (by assumption))).mono ?_; rintro e w8 ⟨rfl, hB⟩)
      | (go_at_call 48; refine (hat.out _ (And.right (by assumption))).mono ?_; rintro e w8 ⟨A8, n8, c8, rfl, hO8, hB⟩)
      | (go_at_call 34; refine (hsm.out _ _ _ _ hO8.il (And.right (by assumption))).mono ?_; rintro e w8 ⟨rfl, hB⟩)
      | (go_at_call 25; refine (hln.out _ (And.right (by assumption))).mono ?_; rintro e w8 ⟨rfl, hB⟩)
      | (go_at_call 49; refine (hf1.out _ _ _ (And.right (by assumption)) (by omega) (by omega)).mono ?_; rintro e w8 ⟨rfl, hB⟩)
      | (go_at_call 50; refine (hf2.out _ _ _ (And.right (by assumption)) (by omega) (by omega)).mono ?_; rintro e w8 ⟨rfl, hB⟩)
      | (go_at_call 52; refine (hd1.out _ (And.right (by assumption))).mono ?_; rintro e w9 ⟨A9, n9, c9, rfl, hI9, hB, _⟩)
      | (go_at_call 53; refine (hd2.out _ (And.right (by assumption))).mono ?_; rintro e w10 ⟨A10, n10, c10, rfl, hI10, hB, _⟩; have hI9' := hI9.below hB)
      | (go_at_call 51; refine (hcs.out _ _ _ _ _ _ _ hI9' hI10).mono ?_; rintro e w8 ⟨rfl, hB⟩)
      | (go_at_call 54; refine (ht1.out _ (And.right (by assumption))).mono ?_; rintro e w8 ⟨rfl, hB⟩)
      | (go_at_call 55; refine (ht2.out _ (And.right (by assumption))).mono ?_; rintro e w8 ⟨rfl, hB⟩)
      | (go_at_call 24; refine (lives14_any _).mono ?_; rintro e w8 ⟨rfl, hB⟩))
  all_goals
    go_wp2_with fail
    go_ret
    exact ⟨rfl, below_from hLw (And.right (by assumption))⟩

end Go.Proofs.Ytgjmcanjlcblgaa
