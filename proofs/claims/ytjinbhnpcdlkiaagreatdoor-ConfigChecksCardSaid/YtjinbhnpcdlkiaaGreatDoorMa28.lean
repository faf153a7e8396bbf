/- The walk of the document's New at any configuration. No condition. -/
import Derived.Test.YtjinbhnpcdlkiaaGreatDoorMa27
import Derived.Test.YtjinbhnpcdlkiaaGreatDoorMa20
import Derived.Deep.RegionHeld3
namespace Go.Proofs.YtjinbhnpcdlkiaaGreatDoor
open Go.RowKit
set_option linter.unusedVariables false

/-- What the document's New hands back. -/
def RNew13E (w : World) (X : Ru × ByteArray × Int) (e : Ending) (w' : World) : Prop :=
  ∃ y : RuV, e = .returned (.tuple #[.agg y.cs, .string X.2.1, .int .i64 X.2.2]) ∧ y.r = X.1 ∧ y.ok w' ∧ Below w.heap.size w w' ∧ y.far w.heap.size w'.heap.size
theorem built_no13 : Tryz.prog.built 48 [] = some noRu.cs := by kernel_rfl
section
variable {P : Program} {ops : Array Oper} {S : World → Prop} {Q : Exit → Act → World → Prop} {md : Region.Mode} {fuel : Nat} {listed : Array Bool} {a : Act} {w w0 : World} {op : Oper} {g n : Nat} {t : TypeId} {cs : Array Value}
theorem wpAnyH_one1 {i : Nat} (hr : Region.ready md ops listed = [i]) (ho : ops[i]? = some op) (hw : Region.wanted op (yielded ops a.tmps) = true)
    (h : ∀ K : Act → World → Prop, Shut (∀ a w, S w → wpAnyH P md ops Q S fuel (listed.setIfInBounds i true) a w → K a w) → op.wp P a w K Q) : wpAnyH P md ops Q S (fuel + 1) listed a w :=
  wpAnyH_ready hr (by simp) (AllReadyH.cons ho (fun K hK => by rw [if_pos hw]; exact h K (fun a w h1 h2 => hK.out a w h1 (fun _ => h2))) AllReadyH.nil)
theorem yieldsIf_build1 {t : TypeId} {ps : List (Nat × Operand)} (vs : List (Nat × Value)) (cells : Array Value) (hw : Region.wanted op (yielded ops a.tmps) = true) (ho : op.op = .build t ps.toArray)
    (hv : (ps.map fun p => (p.1, a.eval p.2)) = vs) (hp : P.built t vs = some cells) : YieldsIf P ops S op (.agg cells) a := by
  have hp' : P.built t (ps.toArray.map fun (i, x) => (i, a.eval x)).toList = some cells := by
    rw [← hp, ← hv]
    simp
  refine .inl ⟨hw, fun W _ => ?_⟩
  unfold execOp
  simp only [ho, Sem.run_bind, run_build W t _ cells hp', Result.andThen_ok]
  rfl
theorem wp_store_blk1 (hB : Blk w0 g t cs w) {ty : TypeId} (hT : RowT P ty n) {K : Act → World → Prop} {x y : Operand} {us : Array Value} (ho : op.op = .store ty x y) (hx : a.eval x = .pointer (some ⟨g, 0, none⟩)) (hy : a.eval y = .agg us)
    (hs : us.size = n) (hc : cs.size = n) (h1 : us.all (·.oneCell') = true)
    (h : ∀ W, Blk w0 g t us W → Sto w W g → K (a.put op.dst undef) W) : op.wp P a w K Q :=
  wp_store_mid ty x y ho g 0 us hx hy (hB.there 0 us.size (by omega)) (by rw [hT.size, hs]) h1 (h _ (hB.stored us (by omega)) (Sto.cells g _ 0 w))
end
def whereS (i : Nat) : ByteArray := if i = 0 then minB else if i = 1 then maxB else stepB
set_option maxRecDepth 100000 in
set_option maxHeartbeats 8000000 in
theorem rnew_any (n : Cn) (m x s : ByteArray) (w : World) (sm : m.size ≤ 2000) (sx : x.size ≤ 2000) (ss : s.size ≤ 2000) :
    Calls Tryz.prog 10 #[.agg #[.string m, .string x, .string s, .int .i64 n.ic, .int .i64 n.fc, .int .i64 n.sc, .int .i64 n.mi, .int .i64 n.mf, .int .i64 n.md, .int .i64 n.hs]] w (RNew13E w (newC n m x s)) := by
  obtain ⟨RX, hX⟩ : ∃ RX, newC n m x s = RX := ⟨_, rfl⟩
  rw [hX]
  have hX := Lib.hid hX
  have hout := Lib.hid (fun a b c W => rout_any a b c W)
  have hC := (Blk.made w w 25 #[.string m, .string x, .string s, .int .i64 n.ic, .int .i64 n.fc, .int .i64 n.sc, .int .i64 n.mi, .int .i64 n.mf, .int .i64 n.md, .int .i64 n.hs] (Later.refl w) _ rfl).alloc (.cells #[.bool false, .slice none 0 0, .int .i64 0, .bool false, .slice none 0 0, .int .i64 0, .bool false, .slice none 0 0, .int .i64 0, .bool false, .int .i64 0, .int .i64 0, .int .i64 0, .int .i64 0, .int .i64 0, .int .i64 0, .int .i64 0] 48)
  have hR := (Blk.made w (w.alloc (.cells #[.string m, .string x, .string s, .int .i64 n.ic, .int .i64 n.fc, .int .i64 n.sc, .int .i64 n.mi, .int .i64 n.mf, .int .i64 n.md, .int .i64 n.hs] 25)) 48 #[.bool false, .slice none 0 0, .int .i64 0, .bool false, .slice none 0 0, .int .i64 0, .bool false, .slice none 0 0, .int .i64 0, .bool false, .int .i64 0, .int .i64 0, .int .i64 0, .int .i64 0, .int .i64 0, .int .i64 0, .int .i64 0] ((Later.refl w).alloc _) (w.heap.size + 1) (by simp))
  go_enter Tryz.func10, Tryz.ntmps10
  go_upto_region 1 with fail
  generalize World.alloc (World.alloc w _) _ = w1 at *
  have k3 : w1.cell? ⟨w.heap.size, 3, none⟩ = some (.int .i64 n.ic) := hC.cell 3
  have k4 : w1.cell? ⟨w.heap.size, 4, none⟩ = some (.int .i64 n.fc) := hC.cell 4
  have k5 : w1.cell? ⟨w.heap.size, 5, none⟩ = some (.int .i64 n.sc) := hC.cell 5
  have k6 : w1.cell? ⟨w.heap.size, 6, none⟩ = some (.int .i64 n.mi) := hC.cell 6
  have k7 : w1.cell? ⟨w.heap.size, 7, none⟩ = some (.int .i64 n.mf) := hC.cell 7
  have k8 : w1.cell? ⟨w.heap.size, 8, none⟩ = some (.int .i64 n.md) := hC.cell 8
  have k9 : w1.cell? ⟨w.heap.size, 9, none⟩ = some (.int .i64 n.hs) := hC.cell 9
  go_upto_region 2 with fail
  have hN := Blk.made w w1 23 #[.int .i64 n.ic, .int .i64 n.fc, .int .i64 n.sc, .int .i64 n.mi, .int .i64 n.mf, .int .i64 n.md, .int .i64 n.hs] hR.later _ rfl
  have hC1 := hC.alloc (.cells #[.int .i64 n.ic, .int .i64 n.fc, .int .i64 n.sc, .int .i64 n.mi, .int .i64 n.mf, .int .i64 n.md, .int .i64 n.hs] 23)
  have hR1 := hR.alloc (.cells #[.int .i64 n.ic, .int .i64 n.fc, .int .i64 n.sc, .int .i64 n.mi, .int .i64 n.mf, .int .i64 n.md, .int .i64 n.hs] 23)
  obtain ⟨g5, hg5⟩ : ∃ g, g = w1.heap.size := ⟨_, rfl⟩
  have hlt5 : w.heap.size + 1 < g5 := by rw [hg5]; exact hR.lt
  rw [← hg5] at hN
  rw [← hg5]
  clear k3 k4 k5 k6 k7 k8 k9 hC hR hg5
  generalize World.alloc w1 _ = v0 at *
  have c0 : v0.cell? ⟨g5, 0, none⟩ = some (.int .i64 n.ic) := hN.cell 0
  go_wp2_with fail
  refine (hout.out _ _ _ _).mono ?_
  by_cases b0 : n.ic < 1 ∨ 64 < n.ic
  case pos =>
    have hck : checkC n = (icB, 3) := by unfold checkC; rw [if_pos b0]
    have hx0 : RX = (zeroRu, icB, 3) := by rw [← hX.out]; unfold newC; rw [hck, if_pos (show (3 : Int) ≠ 0 by omega)]
    rw [show (decide (n.ic < 1) || decide (64 < n.ic)) = true by rcases b0 with b | b <;> simp [b]]
    rintro e w7 ⟨rfl, j, rfl⟩
    have hR7 := hR1.call (below_drewN _ _ j)
    clear c0
    generalize v0.drewN j = w7 at *
    go_wp2_with (refine wpList_store_blk hR7 row_rules13 rfl rfl rfl rfl rfl rfl (by kernel_rfl) ?_; intro w9 hR9 hS9; go_simp)
    refine bodyPost_ret (results_ctt hR9 row_rules13 rfl Tryz.results10 rfl rfl rfl) rfl ⟨noRu, by rw [hx0]; rfl, by rw [hx0]; rfl, noRu_ok _, hS9.below hR7.later (by omega), noRu_far _ _⟩
  rw [show (decide (n.ic < 1) || decide (64 < n.ic)) = false by rw [decide_eq_false (by omega), decide_eq_false (by omega)]; rfl]
  rintro e v1x ⟨rfl, j0, rfl⟩
  clear c0
  have hN0 := hN.call (below_drewN _ _ j0)
  have hC0' := hC1.call (below_drewN _ _ j0)
  have hR0' := hR1.call (below_drewN _ _ j0)
  clear hN hC1 hR1
  generalize v0.drewN j0 = v1 at *
  have c1 : v1.cell? ⟨g5, 1, none⟩ = some (.int .i64 n.fc) := hN0.cell 1
  go_wp2_with fail
  refine (hout.out _ _ _ _).mono ?_
  by_cases b1 : n.fc < 0 ∨ 64 < n.fc
  case pos =>
    have hck : checkC n = (fcB, 3) := by unfold checkC; rw [if_neg b0, if_pos b1]
    have hx0 : RX = (zeroRu, fcB, 3) := by rw [← hX.out]; unfold newC; rw [hck, if_pos (show (3 : Int) ≠ 0 by omega)]
    rw [show (decide (n.fc < 0) || decide (64 < n.fc)) = true by rcases b1 with b | b <;> simp [b]]
    rintro e w7 ⟨rfl, j, rfl⟩
    have hR7 := hR0'.call (below_drewN _ _ j)
    clear c1
    generalize v1.drewN j = w7 at *
    go_wp2_with (refine wpList_store_blk hR7 row_rules13 rfl rfl rfl rfl rfl rfl (by kernel_rfl) ?_; intro w9 hR9 hS9; go_simp)
    refine bodyPost_ret (results_ctt hR9 row_rules13 rfl Tryz.results10 rfl rfl rfl) rfl ⟨noRu, by rw [hx0]; rfl, by rw [hx0]; rfl, noRu_ok _, hS9.below hR7.later (by omega), noRu_far _ _⟩
  rw [show (decide (n.fc < 0) || decide (64 < n.fc)) = false by rw [decide_eq_false (by omega), decide_eq_false (by omega)]; rfl]
  rintro e v2x ⟨rfl, j1, rfl⟩
  clear c1
  have hN1 := hN0.call (below_drewN _ _ j1)
  have hC1' := hC0'.call (below_drewN _ _ j1)
  have hR1' := hR0'.call (below_drewN _ _ j1)
  clear hN0 hC0' hR0'
  generalize v1.drewN j1 = v2 at *
  have c2 : v2.cell? ⟨g5, 2, none⟩ = some (.int .i64 n.sc) := hN1.cell 2
  have c1 : v2.cell? ⟨g5, 1, none⟩ = some (.int .i64 n.fc) := hN1.cell 1
  go_wp2_with fail
  refine (hout.out _ _ _ _).mono ?_
  by_cases b2 : n.sc < 0 ∨ n.fc < n.sc
  case pos =>
    have hck : checkC n = (scB, 3) := by unfold checkC; rw [if_neg b0, if_neg b1, if_pos b2]
    have hx0 : RX = (zeroRu, scB, 3) := by rw [← hX.out]; unfold newC; rw [hck, if_pos (show (3 : Int) ≠ 0 by omega)]
    rw [show (decide (n.sc < 0) || decide (n.fc < n.sc)) = true by rcases b2 with b | b <;> simp [b]]
    rintro e w7 ⟨rfl, j, rfl⟩
    have hR7 := hR1'.call (below_drewN _ _ j)
    clear c2 c1
    generalize v2.drewN j = w7 at *
    go_wp2_with (refine wpList_store_blk hR7 row_rules13 rfl rfl rfl rfl rfl rfl (by kernel_rfl) ?_; intro w9 hR9 hS9; go_simp)
    refine bodyPost_ret (results_ctt hR9 row_rules13 rfl Tryz.results10 rfl rfl rfl) rfl ⟨noRu, by rw [hx0]; rfl, by rw [hx0]; rfl, noRu_ok _, hS9.below hR7.later (by omega), noRu_far _ _⟩
  rw [show (decide (n.sc < 0) || decide (n.fc < n.sc)) = false by rw [decide_eq_false (by omega), decide_eq_false (by omega)]; rfl]
  rintro e v3x ⟨rfl, j2, rfl⟩
  clear c2 c1
  have hN2 := hN1.call (below_drewN _ _ j2)
  have hC2' := hC1'.call (below_drewN _ _ j2)
  have hR2' := hR1'.call (below_drewN _ _ j2)
  clear hN1 hC1' hR1'
  generalize v2.drewN j2 = v3 at *
  have c3 : v3.cell? ⟨g5, 3, none⟩ = some (.int .i64 n.mi) := hN2.cell 3
  have c0 : v3.cell? ⟨g5, 0, none⟩ = some (.int .i64 n.ic) := hN2.cell 0
  go_wp2_with fail
  refine (hout.out _ _ _ _).mono ?_
  by_cases b3 : n.mi < 0 ∨ n.ic < n.mi
  case pos =>
    have hck : checkC n = (miB, 3) := by unfold checkC; rw [if_neg b0, if_neg b1, if_neg b2, if_pos b3]
    have hx0 : RX = (zeroRu, miB, 3) := by rw [← hX.out]; unfold newC; rw [hck, if_pos (show (3 : Int) ≠ 0 by omega)]
    rw [show (decide (n.mi < 0) || decide (n.ic < n.mi)) = true by rcases b3 with b | b <;> simp [b]]
    rintro e w7 ⟨rfl, j, rfl⟩
    have hR7 := hR2'.call (below_drewN _ _ j)
    clear c3 c0
    generalize v3.drewN j = w7 at *
    go_wp2_with (refine wpList_store_blk hR7 row_rules13 rfl rfl rfl rfl rfl rfl (by kernel_rfl) ?_; intro w9 hR9 hS9; go_simp)
    refine bodyPost_ret (results_ctt hR9 row_rules13 rfl Tryz.results10 rfl rfl rfl) rfl ⟨noRu, by rw [hx0]; rfl, by rw [hx0]; rfl, noRu_ok _, hS9.below hR7.later (by omega), noRu_far _ _⟩
  rw [show (decide (n.mi < 0) || decide (n.ic < n.mi)) = false by rw [decide_eq_false (by omega), decide_eq_false (by omega)]; rfl]
  rintro e v4x ⟨rfl, j3, rfl⟩
  clear c3 c0
  have hN3 := hN2.call (below_drewN _ _ j3)
  have hC3' := hC2'.call (below_drewN _ _ j3)
  have hR3' := hR2'.call (below_drewN _ _ j3)
  clear hN2 hC2' hR2'
  generalize v3.drewN j3 = v4 at *
  have c4 : v4.cell? ⟨g5, 4, none⟩ = some (.int .i64 n.mf) := hN3.cell 4
  have c2 : v4.cell? ⟨g5, 2, none⟩ = some (.int .i64 n.sc) := hN3.cell 2
  go_wp2_with fail
  refine (hout.out _ _ _ _).mono ?_
  by_cases b4 : n.mf < 0 ∨ n.sc < n.mf
  case pos =>
    have hck : checkC n = (mfB, 3) := by unfold checkC; rw [if_neg b0, if_neg b1, if_neg b2, if_neg b3, if_pos b4]
    have hx0 : RX = (zeroRu, mfB, 3) := by rw [← hX.out]; unfold newC; rw [hck, if_pos (show (3 : Int) ≠ 0 by omega)]
    rw [show (decide (n.mf < 0) || decide (n.sc < n.mf)) = true by rcases b4 with b | b <;> simp [b]]
    rintro e w7 ⟨rfl, j, rfl⟩
    have hR7 := hR3'.call (below_drewN _ _ j)
    clear c4 c2
    generalize v4.drewN j = w7 at *
    go_wp2_with (refine wpList_store_blk hR7 row_rules13 rfl rfl rfl rfl rfl rfl (by kernel_rfl) ?_; intro w9 hR9 hS9; go_simp)
    refine bodyPost_ret (results_ctt hR9 row_rules13 rfl Tryz.results10 rfl rfl rfl) rfl ⟨noRu, by rw [hx0]; rfl, by rw [hx0]; rfl, noRu_ok _, hS9.below hR7.later (by omega), noRu_far _ _⟩
  rw [show (decide (n.mf < 0) || decide (n.sc < n.mf)) = false by rw [decide_eq_false (by omega), decide_eq_false (by omega)]; rfl]
  rintro e v5x ⟨rfl, j4, rfl⟩
  clear c4 c2
  have hN4 := hN3.call (below_drewN _ _ j4)
  have hC4' := hC3'.call (below_drewN _ _ j4)
  have hR4' := hR3'.call (below_drewN _ _ j4)
  clear hN3 hC3' hR3'
  generalize v4.drewN j4 = v5 at *
  have c5 : v5.cell? ⟨g5, 5, none⟩ = some (.int .i64 n.md) := hN4.cell 5
  go_wp2_with fail
  refine (hout.out _ _ _ _).mono ?_
  by_cases b5 : n.md < 0 ∨ 6 < n.md
  case pos =>
    have hck : checkC n = (mdB, 7) := by unfold checkC; rw [if_neg b0, if_neg b1, if_neg b2, if_neg b3, if_neg b4, if_pos b5]
    have hx0 : RX = (zeroRu, mdB, 7) := by rw [← hX.out]; unfold newC; rw [hck, if_pos (show (7 : Int) ≠ 0 by omega)]
    rw [show (decide (n.md < 0) || decide (6 < n.md)) = true by rcases b5 with b | b <;> simp [b]]
    rintro e w7 ⟨rfl, j, rfl⟩
    have hR7 := hR4'.call (below_drewN _ _ j)
    clear c5
    generalize v5.drewN j = w7 at *
    go_wp2_with (refine wpList_store_blk hR7 row_rules13 rfl rfl rfl rfl rfl rfl (by kernel_rfl) ?_; intro w9 hR9 hS9; go_simp)
    refine bodyPost_ret (results_ctt hR9 row_rules13 rfl Tryz.results10 rfl rfl rfl) rfl ⟨noRu, by rw [hx0]; rfl, by rw [hx0]; rfl, noRu_ok _, hS9.below hR7.later (by omega), noRu_far _ _⟩
  rw [show (decide (n.md < 0) || decide (6 < n.md)) = false by rw [decide_eq_false (by omega), decide_eq_false (by omega)]; rfl]
  rintro e v6x ⟨rfl, j5, rfl⟩
  clear c5
  have hN5 := hN4.call (below_drewN _ _ j5)
  have hC5' := hC4'.call (below_drewN _ _ j5)
  have hR5' := hR4'.call (below_drewN _ _ j5)
  clear hN4 hC4' hR4'
  generalize v5.drewN j5 = v6 at *
  have c6 : v6.cell? ⟨g5, 6, none⟩ = some (.int .i64 n.hs) := hN5.cell 6
  go_wp2_with fail
  refine (hout.out _ _ _ _).mono ?_
  by_cases b6 : n.hs < 1 ∨ 1024 < n.hs
  case pos =>
    have hck : checkC n = (hsB, 3) := by unfold checkC; rw [if_neg b0, if_neg b1, if_neg b2, if_neg b3, if_neg b4, if_neg b5, if_pos b6]
    have hx0 : RX = (zeroRu, hsB, 3) := by rw [← hX.out]; unfold newC; rw [hck, if_pos (show (3 : Int) ≠ 0 by omega)]
    rw [show (decide (n.hs < 1) || decide (1024 < n.hs)) = true by rcases b6 with b | b <;> simp [b]]
    rintro e w7 ⟨rfl, j, rfl⟩
    have hR7 := hR5'.call (below_drewN _ _ j)
    clear c6
    generalize v6.drewN j = w7 at *
    go_wp2_with (refine wpList_store_blk hR7 row_rules13 rfl rfl rfl rfl rfl rfl (by kernel_rfl) ?_; intro w9 hR9 hS9; go_simp)
    refine bodyPost_ret (results_ctt hR9 row_rules13 rfl Tryz.results10 rfl rfl rfl) rfl ⟨noRu, by rw [hx0]; rfl, by rw [hx0]; rfl, noRu_ok _, hS9.below hR7.later (by omega), noRu_far _ _⟩
  rw [show (decide (n.hs < 1) || decide (1024 < n.hs)) = false by rw [decide_eq_false (by omega), decide_eq_false (by omega)]; rfl]
  rintro e v7x ⟨rfl, j6, rfl⟩
  clear c6
  have hN6 := hN5.call (below_drewN _ _ j6)
  have hC6' := hC5'.call (below_drewN _ _ j6)
  have hR6' := hR5'.call (below_drewN _ _ j6)
  clear hN5 hC5' hR5'
  generalize v6.drewN j6 = v7 at *
  have hn : n.Ok := ⟨by omega, by omega, by omega, by omega, by omega, by omega, by omega⟩
  have hck0 : checkC n = (⟨#[]⟩, 0) := by unfold checkC; rw [if_neg b0, if_neg b1, if_neg b2, if_neg b3, if_neg b4, if_neg b5, if_neg b6]
  clear b0 b1 b2 b3 b4 b5 b6
  have t0 : v7.cell? ⟨w.heap.size, 0, none⟩ = some (.string m) := hC6'.cell 0
  have t1 : v7.cell? ⟨w.heap.size, 1, none⟩ = some (.string x) := hC6'.cell 1
  have t2 : v7.cell? ⟨w.heap.size, 2, none⟩ = some (.string s) := hC6'.cell 2
  go_upto_region 17 with fail
  have hTx := Blk.made w v7 9 #[.string m, .string x, .string s] hR6'.later _ rfl
  have hNa := hN6.alloc (.cells #[.string m, .string x, .string s] 9)
  have hRa := hR6'.alloc (.cells #[.string m, .string x, .string s] 9)
  obtain ⟨gT, hgT⟩ : ∃ g, g = v7.heap.size := ⟨_, rfl⟩
  have hltT : g5 < gT := by rw [hgT]; exact hN6.lt
  rw [← hgT] at hTx
  rw [← hgT]
  clear t0 t1 t2 hgT hN6 hC6' hR6'
  generalize World.alloc v7 _ = u0 at *
  go_upto_region 18 with fail
  have hTxb := hTx.alloc (.cells #[.string { data := #[109, 105, 110] }, .string { data := #[109, 97, 120] }, .string { data := #[115, 116, 101, 112] }] 9)
  have hNb := hNa.alloc (.cells #[.string { data := #[109, 105, 110] }, .string { data := #[109, 97, 120] }, .string { data := #[115, 116, 101, 112] }] 9)
  have hRb := hRa.alloc (.cells #[.string { data := #[109, 105, 110] }, .string { data := #[109, 97, 120] }, .string { data := #[115, 116, 101, 112] }] 9)
  have hWa := Blk.made w u0 9 #[.string { data := #[109, 105, 110] }, .string { data := #[109, 97, 120] }, .string { data := #[115, 116, 101, 112] }] hNa.later _ rfl
  have hlt7 : w.heap.size + 1 < u0.heap.size := hRa.lt
  have hlu : u0.heap.size < (u0.alloc (.cells #[.string { data := #[109, 105, 110] }, .string { data := #[109, 97, 120] }, .string { data := #[115, 116, 101, 112] }] 9)).heap.size := by simp
  clear hTx hNa hRa
  generalize u0.heap.size = g7 at *
  generalize World.alloc u0 _ = u1 at *
  obtain ⟨Sf, hSf, hF⟩ : ∃ (Sf : Nat → ByteArray), Hid (Sf 0 = m ∧ Sf 1 = x ∧ Sf 2 = s) ∧ ∀ i, i < 3 → u1.cell? ⟨gT, i, none⟩ = some (.string (Sf i)) ∧ u1.cell? ⟨g7, i, none⟩ = some (.string (whereS i)) ∧ (Sf i).size ≤ 2000 := by
    refine ⟨fun i => if i = 0 then m else if i = 1 then x else s, ⟨rfl, rfl, rfl⟩, fun i hi => ?_⟩
    have hcs : i = 0 ∨ i = 1 ∨ i = 2 := by omega
    rcases hcs with rfl | rfl | rfl
    · exact ⟨hTxb.cell 0, hWa.cell 0, sm⟩
    · exact ⟨hTxb.cell 1, hWa.cell 1, sx⟩
    · exact ⟨hTxb.cell 2, hWa.cell 2, ss⟩
  have hbadw : ∀ k, k < 3 → (∀ j, j < k → (numC n (Sf j)).2 = 0) → (numC n (Sf k)).2 ≠ 0 → RX = (zeroRu, whereS k, (numC n (Sf k)).2) := by
    obtain ⟨q0, q1, q2⟩ := hSf.out
    intro k hk hl hne
    rw [← hX.out]
    unfold newC
    rw [if_neg (by rw [hck0]; omega), ← q0, ← q1, ← q2]
    have hcs : k = 0 ∨ k = 1 ∨ k = 2 := by omega
    rcases hcs with rfl | rfl | rfl
    · rw [if_pos hne]; rfl
    · rw [if_neg (by have := hl 0 (by omega); omega), if_pos hne]; rfl
    · rw [if_neg (by have := hl 0 (by omega); omega), if_neg (by have := hl 1 (by omega); omega), if_pos hne]; rfl
  have hbadw := Lib.hid hbadw
  have hF := Lib.hid hF
  obtain ⟨B, hBu⟩ : ∃ B, B = u1.heap.size := ⟨_, rfl⟩
  have hlB : g5 < B ∧ gT < B ∧ w.heap.size + 1 < B ∧ g7 < B := by rw [hBu]; exact ⟨hNb.lt, hTxb.lt, hRb.lt, hWa.lt⟩
  clear hn hlu hout hltT
  go_wp2_with fail
  go_loopw [8, 9] (fun v i wr => ∃ (k : Nat) (ds : List DV4) (vv : Value), k ≤ 3 ∧ vv = v ∧ i = .int .i64 k ∧ Hid (ds.map (·.D) = (List.range k).map (fun j => (numC n (Sf j)).1)) ∧ Hid (∀ j, j < k → (numC n (Sf j)).2 = 0) ∧ DRow B wr v ds ∧ Blk w g5 23 #[.int .i64 n.ic, .int .i64 n.fc, .int .i64 n.sc, .int .i64 n.mi, .int .i64 n.mf, .int .i64 n.md, .int .i64 n.hs] wr ∧ Blk w (w.heap.size + 1) 48 #[.bool false, .slice none 0 0, .int .i64 0, .bool false, .slice none 0 0, .int .i64 0, .bool false, .slice none 0 0, .int .i64 0, .bool false, .int .i64 0, .int .i64 0, .int .i64 0, .int .i64 0, .int .i64 0, .int .i64 0, .int .i64 0] wr ∧ Below B u1 wr) (fun _ i _ => 3 - (intOf i).toNat)
  case atStart =>
    exact ⟨0, [], _, by omega, rfl, rfl, rfl, fun j hj => absurd hj (by omega), DRow.nil _ _, hNb, hRb, Below.refl _ _⟩
  case round =>
    obtain ⟨k, ds, vv, hk, rfl, rfl, hds, hqk, hD, hN, hR, hBr⟩ := hrel
    have hdl : ds.length = k := by have := congrArg List.length hds.out; simpa using this
    clear hNb hRb
    by_cases hlt : k < 3
    · as_aux_lemma =>
        obtain ⟨ht, htw, hsz⟩ := hF.out k hlt
        have hbad := Lib.hid (hbadw.out k hlt hqk.out)
        have hqn := Lib.hid (show (numC n (Sf k)).2 = 0 → ∀ j, j < k + 1 → (numC n (Sf j)).2 = 0 from fun h0 j hj => by
          rcases Nat.lt_or_ge j k with h' | h'
          · exact hqk.out j h'
          · obtain rfl : j = k := by omega
            exact h0)
        have ht' : wr.cell? ⟨gT, k, none⟩ = some (.string (Sf k)) := by rw [hBr.cell (p := ⟨gT, k, none⟩) hlB.2.1]; exact ht
        clear ht
        generalize hS : Sf k = S at *
        generalize whereS k = wh at *
        have hS := Lib.hid hS
        have hk3 : (k : Int) < 3 := by omega
        have hk0 : (0 : Int) ≤ (k : Int) := by omega
        have hlen : S.data.toList.length = S.size := Array.length_toList
        by_cases p1 : (parseS S.data.toList).2 = 0
        case neg =>
          have hres : numC n S = (Dc.zero, (parseS S.data.toList).2) := by unfold numC; rw [if_neg p1]
          have hx0 : RX = (zeroRu, wh, (parseS S.data.toList).2) := by have := hbad.out (by rw [hres]; exact p1); rwa [hres] at this
          have hpa := Lib.hid (fun W => show Calls Tryz.prog 25 #[.string S] W (RCE W (parseS S.data.toList).1 (parseS S.data.toList).2) from rcparse_any S W (by omega))
          clear hbad hqn hqk hF hbadw hres hlen hsz
          generalize (parseS S.data.toList).2 = code at *
          generalize (parseS S.data.toList).1 = E at *
          have hx0 := Lib.hid hx0
          have hpc : (code == 0) = false := by simpa using p1
          go_wp2_with fail
          refine (hpa.out _).mono ?_
          rintro e a1 ⟨A1, n1, c1, rfl, hI1, hB1, _⟩
          have hR1 := (hR.call hB1).alloc (.cells #[.bool E.neg, .slice A1 n1 c1, .int .i64 E.s] 28)
          have hBr1 := hBr.trans ((hB1.alloc hB1.size (.cells #[.bool E.neg, .slice A1 n1 c1, .int .i64 E.s] 28)).mono (by have := hBr.size; omega))
          go_upto_region 24 with fail
          generalize World.alloc a1 _ = a2 at *
          have hS : a2.drew.cell? ⟨g7, k, none⟩ = some (.string wh) := by show a2.cell? _ = _; rw [hBr1.cell (p := ⟨g7, k, none⟩) hlB.2.2.2]; exact htw
          have hR7 := hR1.drew
          refine wp_region_held (S := fun W => W.cell? ⟨g7, k, none⟩ = some (.string wh)) (by kernel_rfl) ?_
          refine wpAnyH_take (i := 0) (v := .agg noRu.cs) rfl (by kernel_rfl) (by kernel_rfl) (by kernel_rfl) (fun _ _ _ h => h) (yieldsIf_build1 (ps := []) [] _ rfl rfl rfl built_no13) hS ?_
          go_simp
          refine wpAnyH_take (i := 1) (v := .slice (some ⟨g7, 0, none⟩) 3 3) rfl (by kernel_rfl) (by kernel_rfl) (by kernel_rfl) (fun _ _ _ h => h) (.inl ⟨rfl, fun W hW => rfl⟩) hS ?_
          go_simp
          refine wpAnyH_take (i := 2) (v := .int .i64 k) rfl (by kernel_rfl) (by kernel_rfl) (by kernel_rfl) (fun _ _ _ h => h) (.inl ⟨rfl, fun W hW => rfl⟩) hS ?_
          go_simp
          refine wpAnyH_take (i := 3) (v := .pointer (some ⟨g7, k, none⟩)) rfl (by kernel_rfl) (by kernel_rfl) (by kernel_rfl) (fun _ _ _ h => h) (.inl ⟨rfl, fun W hW => by simp [execOp, Act.eval, Instr.indexAt, go_sem]; intro h; omega⟩) hS ?_
          go_simp
          refine wpAnyH_take (i := 4) (v := .string wh) rfl (by kernel_rfl) (by kernel_rfl) (by kernel_rfl) (fun _ _ _ h => h) (.inl ⟨rfl, fun W hW => by have hW' : W.cell? ⟨g7, k, none⟩ = some (.string wh) := hW; simp [execOp, Act.eval, go_sem, hW']⟩) hS ?_
          go_simp
          refine wpAnyH_take (i := 5) (v := .int .i64 code) rfl (by kernel_rfl) (by kernel_rfl) (by kernel_rfl) (fun _ _ _ h => h) (.inl ⟨rfl, fun W hW => rfl⟩) hS ?_
          go_simp
          refine wpAnyH_one1 (i := 6) (by kernel_rfl) rfl rfl (fun K hK => ?_)
          refine wp_store_blk1 hR7 row_rules13 rfl rfl rfl rfl rfl (by kernel_rfl) ?_
          intro w9 hR9 hS9
          have hS' : w9.cell? ⟨g7, k, none⟩ = some (.string wh) := (hS9.cell (p := ⟨g7, k, none⟩) (by show g7 ≠ _; omega)).trans hS
          refine hK.out _ _ hS' ?_
          clear hK K
          go_simp
          refine wpAnyH_one1 (i := 7) (by kernel_rfl) rfl rfl (fun K hK => ?_)
          go_simp
          refine hK.out _ _ hS' ?_
          clear hK K
          go_simp
          refine wpAnyH_one1 (i := 8) (by kernel_rfl) rfl rfl (fun K hK => ?_)
          go_simp
          refine hK.out _ _ hS' ?_
          clear hK K
          go_simp
          refine wpAnyH_done (by kernel_rfl) ?_ _
          go_wp2_with fail
          refine bodyPost_ret (results_ctt hR9 row_rules13 rfl Tryz.results10 rfl rfl rfl) rfl ⟨noRu, by first | rfl | (rw [hx0.out]; rfl), by rw [hx0.out]; rfl, noRu_ok _, hS9.below hR7.later (by omega), noRu_far _ _⟩
        have o3 := parse_may p1
        have hpa := Lib.hid (fun W => show Calls Tryz.prog 25 #[.string S] W (RCE W (parseS S.data.toList).1 0) by
          have := rcparse_any S W (by omega)
          rw [p1] at this
          exact this)
        have hnu : numC n S = if fitsC n (parseS S.data.toList).1 = true then (trimDc (parseS S.data.toList).1, 0) else (Dc.zero, 4) := by unfold numC; rw [if_pos p1]
        have hnu := Lib.hid hnu
        clear p1 hF hbadw hqk
        obtain ⟨E, hE⟩ : ∃ E, (parseS S.data.toList).1 = E := ⟨_, rfl⟩
        rw [hE] at o3 hpa hnu
        have hft := Lib.hid (fun (A : Option Addr) (nn c : Nat) W (hW : IL W A nn c E.l) => show Calls Tryz.prog 26 #[.agg #[.int .i64 n.ic, .int .i64 n.fc, .int .i64 n.sc, .int .i64 n.mi, .int .i64 n.mf, .int .i64 n.md, .int .i64 n.hs], .agg #[.bool E.neg, .slice A nn c, .int .i64 E.s]] W (RV W (.bool (fitsC n E))) from
          rfits13_any n E W hW ⟨(mayDc_iff.1 o3.1).1, (mayDc_iff.1 o3.1).2.1, by have := (mayDc_iff.1 o3.1).2.2; omega⟩ (by have := hW.len; omega))
        by_cases p2 : fitsC n E = true
        case neg =>
          have hres : numC n S = (Dc.zero, 4) := by rw [hnu.out, if_neg p2]
          have hx0 : RX = (zeroRu, wh, 4) := by have := hbad.out (by rw [hres]; show (4 : Int) ≠ 0; omega); rwa [hres] at this
          have hx0 := Lib.hid hx0
          rw [show fitsC n E = false by simpa using p2] at hft
          clear hbad hqn hnu hres hE hlen hsz p2 o3
          go_wp2_with fail
          refine (hpa.out _).mono ?_
          rintro e a1 ⟨A1, n1, c1, rfl, hI1, hB1, _⟩
          have hE1 := Blk.made w a1 28 #[.bool E.neg, .slice A1 n1 c1, .int .i64 E.s] (hR.call hB1).later _ rfl
          have hN1 := (hN.call hB1).alloc (.cells #[.bool E.neg, .slice A1 n1 c1, .int .i64 E.s] 28)
          have hR1 := (hR.call hB1).alloc (.cells #[.bool E.neg, .slice A1 n1 c1, .int .i64 E.s] 28)
          have hI1' := hI1.alloc (.cells #[.bool E.neg, .slice A1 n1 c1, .int .i64 E.s] 28)
          have hBr1 := hBr.trans ((hB1.alloc hB1.size (.cells #[.bool E.neg, .slice A1 n1 c1, .int .i64 E.s] 28)).mono (by have := hBr.size; omega))
          clear hN hR hI1
          go_upto_region 23 with fail
          generalize World.alloc a1 _ = a2 at *
          go_wp2_with (first | (refine wpList_load_blk hN1 row_limits13 rfl rfl rfl rfl ?_; go_simp) | (refine wpList_load_blk hE1 row_dec6 rfl rfl rfl rfl ?_; go_simp))
          refine (hft.out _ _ _ _ hI1').mono ?_
          rintro e a3 ⟨rfl, hB3⟩
          have hR1 := hR1.call hB3
          have hBr1 := hBr1.trans (hB3.mono (by have := hBr1.size; omega))
          go_upto_region 27 with fail
          have hS : a3.drew.cell? ⟨g7, k, none⟩ = some (.string wh) := by show a3.cell? _ = _; rw [hBr1.cell (p := ⟨g7, k, none⟩) hlB.2.2.2]; exact htw
          have hR7 := hR1.drew
          refine wp_region_held (S := fun W => W.cell? ⟨g7, k, none⟩ = some (.string wh)) (by kernel_rfl) ?_
          refine wpAnyH_take (i := 0) (v := .agg noRu.cs) rfl (by kernel_rfl) (by kernel_rfl) (by kernel_rfl) (fun _ _ _ h => h) (yieldsIf_build1 (ps := []) [] _ rfl rfl rfl built_no13) hS ?_
          go_simp
          refine wpAnyH_take (i := 1) (v := .slice (some ⟨g7, 0, none⟩) 3 3) rfl (by kernel_rfl) (by kernel_rfl) (by kernel_rfl) (fun _ _ _ h => h) (.inl ⟨rfl, fun W hW => rfl⟩) hS ?_
          go_simp
          refine wpAnyH_take (i := 2) (v := .int .i64 k) rfl (by kernel_rfl) (by kernel_rfl) (by kernel_rfl) (fun _ _ _ h => h) (.inl ⟨rfl, fun W hW => rfl⟩) hS ?_
          go_simp
          refine wpAnyH_take (i := 3) (v := .pointer (some ⟨g7, k, none⟩)) rfl (by kernel_rfl) (by kernel_rfl) (by kernel_rfl) (fun _ _ _ h => h) (.inl ⟨rfl, fun W hW => by simp [execOp, Act.eval, Instr.indexAt, go_sem]; intro h; omega⟩) hS ?_
          go_simp
          refine wpAnyH_take (i := 4) (v := .string wh) rfl (by kernel_rfl) (by kernel_rfl) (by kernel_rfl) (fun _ _ _ h => h) (.inl ⟨rfl, fun W hW => by have hW' : W.cell? ⟨g7, k, none⟩ = some (.string wh) := hW; simp [execOp, Act.eval, go_sem, hW']⟩) hS ?_
          go_simp
          refine wpAnyH_one1 (i := 5) (by kernel_rfl) rfl rfl (fun K hK => ?_)
          refine wp_store_blk1 hR7 row_rules13 rfl rfl rfl rfl rfl (by kernel_rfl) ?_
          intro w9 hR9 hS9
          have hS' : w9.cell? ⟨g7, k, none⟩ = some (.string wh) := (hS9.cell (p := ⟨g7, k, none⟩) (by show g7 ≠ _; omega)).trans hS
          refine hK.out _ _ hS' ?_
          clear hK K
          go_simp
          refine wpAnyH_one1 (i := 6) (by kernel_rfl) rfl rfl (fun K hK => ?_)
          go_simp
          refine hK.out _ _ hS' ?_
          clear hK K
          go_simp
          refine wpAnyH_one1 (i := 7) (by kernel_rfl) rfl rfl (fun K hK => ?_)
          go_simp
          refine hK.out _ _ hS' ?_
          clear hK K
          go_simp
          refine wpAnyH_done (by kernel_rfl) ?_ _
          go_wp2_with fail
          refine bodyPost_ret (results_ctt hR9 row_rules13 rfl Tryz.results10 rfl rfl rfl) rfl ⟨noRu, by first | rfl | (rw [hx0.out]; rfl), by rw [hx0.out]; rfl, noRu_ok _, hS9.below hR7.later (by omega), noRu_far _ _⟩
        rw [p2] at hft
        have hT0 : numC n S = (trimDc E, 0) := by rw [hnu.out, if_pos p2]
        have hqn := Lib.hid (hqn.out (by rw [hT0]))
        have hT0 := Lib.hid hT0
        clear hnu hbad p2 htw
        have htr := Lib.hid (fun (A : Option Addr) (nn c : Nat) W (hW : IL W A nn c E.l) => show Calls Tryz.prog 27 #[.agg #[.bool E.neg, .slice A nn c, .int .i64 E.s]] W (RC W (trimDc E)) from
          rdtrim_any E.neg E.s W hW (I64_of_may (mayDc_iff.1 o3.1).1) (by have := hW.len; omega) (mayDc_iff.1 o3.1).2.1 (by have := (mayDc_iff.1 o3.1).2.2; omega))
        obtain ⟨T, hT⟩ : ∃ T, Hid (T = trimDc E) := ⟨_, rfl⟩
        rw [← hT.out] at htr
        clear o3 hE hlen hsz
        go_wp2_with fail
        refine (hpa.out _).mono ?_
        rintro e a1 ⟨A1, n1, c1, rfl, hI1, hB1, _⟩
        have hE1 := Blk.made w a1 28 #[.bool E.neg, .slice A1 n1 c1, .int .i64 E.s] (hR.call hB1).later _ rfl
        have hN1 := (hN.call hB1).alloc (.cells #[.bool E.neg, .slice A1 n1 c1, .int .i64 E.s] 28)
        have hR1 := (hR.call hB1).alloc (.cells #[.bool E.neg, .slice A1 n1 c1, .int .i64 E.s] 28)
        have hI1' := hI1.alloc (.cells #[.bool E.neg, .slice A1 n1 c1, .int .i64 E.s] 28)
        have hL1 := below_from (Below.refl _ wr) (hB1.alloc hB1.size (.cells #[.bool E.neg, .slice A1 n1 c1, .int .i64 E.s] 28))
        have hD1 := hD.call hL1
        have hbs := hBr.size
        have hBr1 := hBr.trans (hL1.mono (by omega))
        clear hN hR hI1 hD hBr
        go_upto_region 23 with fail
        generalize World.alloc a1 _ = a2 at *
        have c0 : a2.cell? ⟨g5, 0, none⟩ = some (.int .i64 n.ic) := hN1.cell 0
        have c1' : a2.cell? ⟨g5, 1, none⟩ = some (.int .i64 n.fc) := hN1.cell 1
        have c2 : a2.cell? ⟨g5, 2, none⟩ = some (.int .i64 n.sc) := hN1.cell 2
        have c3 : a2.cell? ⟨g5, 3, none⟩ = some (.int .i64 n.mi) := hN1.cell 3
        have c4 : a2.cell? ⟨g5, 4, none⟩ = some (.int .i64 n.mf) := hN1.cell 4
        have c5 : a2.cell? ⟨g5, 5, none⟩ = some (.int .i64 n.md) := hN1.cell 5
        have c6 : a2.cell? ⟨g5, 6, none⟩ = some (.int .i64 n.hs) := hN1.cell 6
        obtain ⟨⟨d0, d1, d2⟩, _⟩ := hE1.cells3
        go_wp2_with fail
        refine (hft.out _ _ _ _ hI1').mono ?_
        rintro e a3 ⟨rfl, hB3⟩
        have hE3 := hE1.call hB3
        have hN3 := hN1.call hB3
        have hR3 := hR1.call hB3
        have hI3 := hI1'.below hB3
        have hD3 := hD1.call hB3
        have hbs3 := hBr1.size
        have hBr3 := hBr1.trans (hB3.mono (by omega))
        clear c0 c1' c2 c3 c4 c5 c6 d0 d1 d2 hE1 hN1 hR1 hI1' hD1 hBr1
        obtain ⟨⟨d0, d1, d2⟩, _⟩ := hE3.cells3
        go_wp2_with fail
        refine (htr.out _ _ _ _ hI3).mono ?_
        rintro e a4 ⟨A4, n4, c4, rfl, hI4, hB4, hN4⟩
        have hbs4 := hBr3.size
        have hX := Blk.made w a4 28 #[.bool T.neg, .slice A4 n4 c4, .int .i64 T.s] (hR3.call hB4).later _ rfl
        have hL4 := (hB4.alloc hB4.size (.cells #[.bool T.neg, .slice A4 n4 c4, .int .i64 T.s] 28))
        have hN5 := hN3.call hL4
        have hR5 := hR3.call hL4
        have hD5 := hD3.call hL4
        have hBr5 := hBr3.trans (hL4.mono (by omega))
        have hI5 := hI4.alloc (.cells #[.bool T.neg, .slice A4 n4 c4, .int .i64 T.s] 28)
        have hlt4 := hB4.size
        have hrw : ∀ kk, vv.ownBlock = some kk → kk < a3.heap.size := fun kk hkk => (hD3.own.lt kk hkk).2
        clear d0 d1 d2 hE3 hN3 hR3 hI3 hD3 hBr3 hI4
        go_wp2_with (refine wpList_append_D ⟨T, A4, n4, c4⟩ hD5 hX hI5 (fun hz a ha => ⟨by have := hN4 hz a ha; omega, fun e => by have := hN4 hz a ha; have := hrw _ e.symm; omega⟩) (by simp; omega) (by omega) rfl rfl rfl rfl ?_; intro v' W' hD' hW'; go_simp)
        go_roundw
        case rel =>
          refine ⟨k + 1, ds ++ [⟨T, A4, n4, c4⟩], _, by omega, rfl, by go_num, ?_, hqn, hD', hN5.under hlB.1 hW', hR5.under hlB.2.2.1 hW', hBr5.trans hW'⟩
          rw [Hid, List.map_append, hds.out, List.range_succ, List.map_append, hT.out]
          show _ = _ ++ [(numC n (Sf k)).1]
          rw [hS.out, hT0.out]
          rfl
        case measure => simp [intOf]; omega
    · as_aux_lemma =>
        have hk3 : k = 3 := by omega
        subst hk3
        have hi3 : ¬ ((3 : Nat) : Int) < 3 := by omega
        obtain ⟨a, b, c, rfl⟩ : ∃ a b c, ds = [a, b, c] := by
          match ds, hdl with
          | [a, b, c], _ => exact ⟨a, b, c, rfl⟩
        have e3 : a.D = (numC n m).1 ∧ b.D = (numC n x).1 ∧ c.D = (numC n s).1 := by
          have q := hds.out
          obtain ⟨q0, q1, q2⟩ := hSf.out
          have : List.range 3 = [0, 1, 2] := rfl
          rw [this] at q
          simp only [List.map_cons, List.map_nil, q0, q1, q2, List.cons.injEq, and_true] at q
          exact q
        obtain ⟨ea, eb, ec⟩ := e3
        have q0 := hqk.out 0 (by omega)
        have q1 := hqk.out 1 (by omega)
        have q2 := hqk.out 2 (by omega)
        rw [hSf.out.1] at q0; rw [hSf.out.2.1] at q1; rw [hSf.out.2.2] at q2
        obtain ⟨Dm, hm, em⟩ := numC_ok sm q0
        obtain ⟨Dx, hx, ex⟩ := numC_ok sx q1
        obtain ⟨Ds, hs, es⟩ := numC_ok ss q2
        have hXX : Hid (RX = if ¬ 0 < cmpDc c.D Dc.zero then (zeroRu, stepB, 3) else if 0 < cmpDc a.D b.D then (zeroRu, maxB, 3) else (⟨a.D, b.D, c.D, a.D.neg, n⟩, ⟨#[]⟩, 0)) := by
          unfold Hid
          rw [← hX.out, ea, eb, ec]
          unfold newC
          rw [if_neg (by rw [hck0]; omega), if_neg (by omega), if_neg (by omega), if_neg (by omega)]
        have m1 : mayDc a.D = true ∧ a.D.l.length ≤ 2000 := by rw [ea, em]; exact ⟨mayDc_trim hm.2.2.1, Nat.le_trans (trimDc_len Dm) hm.2.2.2.1⟩
        have m2 : mayDc b.D = true ∧ b.D.l.length ≤ 2000 := by rw [eb, ex]; exact ⟨mayDc_trim hx.2.2.1, Nat.le_trans (trimDc_len Dx) hx.2.2.2.1⟩
        have m3 : mayDc c.D = true ∧ c.D.l.length ≤ 2000 := by rw [ec, es]; exact ⟨mayDc_trim hs.2.2.1, Nat.le_trans (trimDc_len Ds) hs.2.2.2.1⟩
        clear em ex es hm hx hs q0 q1 q2 hqk hbadw
        have iL := Lib.hid hD.il
        obtain ⟨g, cap, cur, rfl, hcap, hgB, hh, x0, x1, x2, x3, x4, x5, x6, x7, x8⟩ := hD.three
        have cl : ∀ (W : World) (j : Nat) (u : Value), W.heap[g]? = some (.cells cur 28 (0, 0)) → cur[j]? = some u → W.cell? ⟨g, j, none⟩ = some u := fun W j u h1 h2 => by rw [cell_of_row W g j _ _ (0, 0) h1]; exact h2
        have cl := Lib.hid cl
        have hgl : g < wr.heap.size := (Array.getElem?_eq_some_iff.1 hh).1
        have X := Lib.hid (⟨x0, x1, x2, x3, x4, x5, x6, x7, x8⟩ : _ ∧ _ ∧ _ ∧ _ ∧ _ ∧ _ ∧ _ ∧ _ ∧ _)
        have hcm1 := Lib.hid (fun W (hW : IL W c.A c.n c.c c.D.l) => show Calls Tryz.prog 17 #[.agg #[.bool c.D.neg, .slice c.A c.n c.c, .int .i64 c.D.s], .agg #[.bool false, .slice none 0 0, .int .i64 0]] W (RV W (.int .i64 (cmpDc c.D Dc.zero))) from
          rccompare_any _ _ _ _ W hW (IL.nil W) (mayDc_iff.1 m3.1).1 rfl (by have := hW.len; omega) (by omega) (mayDc_iff.1 m3.1).2.1 (by have := (mayDc_iff.1 m3.1).2.2; omega) (by omega) (by omega))
        have hcm2 := Lib.hid (fun W (hW : IL W a.A a.n a.c a.D.l) (hW2 : IL W b.A b.n b.c b.D.l) => show Calls Tryz.prog 17 #[.agg #[.bool a.D.neg, .slice a.A a.n a.c, .int .i64 a.D.s], .agg #[.bool b.D.neg, .slice b.A b.n b.c, .int .i64 b.D.s]] W (RV W (.int .i64 (cmpDc a.D b.D))) from
          rccompare_any _ _ _ _ W hW hW2 (mayDc_iff.1 m1.1).1 (mayDc_iff.1 m2.1).1 (by have := hW.len; omega) (by have := hW2.len; omega) (mayDc_iff.1 m1.1).2.1 (by have := (mayDc_iff.1 m1.1).2.2; omega) (mayDc_iff.1 m2.1).2.1 (by have := (mayDc_iff.1 m2.1).2.2; omega))
        clear m1 m2 m3 ea eb ec hds hF hSf hdl hk hlt hD x0 x1 x2 x3 x4 x5 x6 x7 x8
        generalize cmpDc c.D Dc.zero = q1 at *
        generalize cmpDc a.D b.D = q2 at *
        have k6 := cl.out wr 6 _ hh X.out.2.2.2.2.2.2.1
        have k7 := cl.out wr 7 _ hh X.out.2.2.2.2.2.2.2.1
        have k8 := cl.out wr 8 _ hh X.out.2.2.2.2.2.2.2.2
        go_wp2_with fail
        refine (hcm1.out _ (iL.out c (by simp)).1).mono ?_
        rintro e b1 ⟨rfl, hB1⟩
        clear k6 k7 k8 hcm1
        by_cases hp : 0 < q1
        case neg =>
          have hx0 : RX = (zeroRu, stepB, 3) := by rw [hXX.out, if_pos (by omega)]
          have hq1 : q1 ≤ 0 := by omega
          have hR7 := hR.call hB1
          go_wp2_with (refine wpList_store_blk hR7 row_rules13 rfl rfl rfl rfl rfl rfl (by kernel_rfl) ?_; intro w9 hR9 hS9; go_simp)
          refine bodyPost_ret (results_ctt hR9 row_rules13 rfl Tryz.results10 rfl rfl rfl) rfl ⟨noRu, by rw [hx0]; rfl, by rw [hx0]; rfl, noRu_ok _, hS9.below hR7.later (by omega), noRu_far _ _⟩
        have hh1 : b1.heap[g]? = some (.cells cur 28 (0, 0)) := (hB1.block g hgl).trans hh
        have hN1 := hN.call hB1
        have hR1 := hR.call hB1
        have ha1 := (iL.out a (by simp)).1.below hB1
        have hb1 := (iL.out b (by simp)).1.below hB1
        have hc1 := (iL.out c (by simp)).1.below hB1
        clear hN hR hh
        go_upto_region 31 with fail
        have k0 := fun o : Ext b1 => Ext.cell (cl.out b1 0 _ hh1 X.out.1) o
        have k1 := fun o : Ext b1 => Ext.cell (cl.out b1 1 _ hh1 X.out.2.1) o
        have k2 := fun o : Ext b1 => Ext.cell (cl.out b1 2 _ hh1 X.out.2.2.1) o
        have k3 := fun o : Ext b1 => Ext.cell (cl.out b1 3 _ hh1 X.out.2.2.2.1) o
        have k4 := fun o : Ext b1 => Ext.cell (cl.out b1 4 _ hh1 X.out.2.2.2.2.1) o
        have k5 := fun o : Ext b1 => Ext.cell (cl.out b1 5 _ hh1 X.out.2.2.2.2.2.1) o
        refine wp_region_ext (by kernel_rfl) (by kernel_rfl) ?_
        repeat (quiet_step (first | (go_at_call 17; exact quiet_ext _ (hcm2.out _ (ha1.ext _) (hb1.ext _)))))
        refine wpQuiet_nil ?_
        rintro _ ⟨s1, rfl⟩
        have hh2 : s1.world.heap[g]? = some (.cells cur 28 (0, 0)) := (s1.h.block g (by have := hB1.size; omega)).trans hh1
        by_cases hr : 0 < q2
        case pos =>
          have hx0 : RX = (zeroRu, maxB, 3) := by rw [hXX.out, if_neg (by omega), if_pos (by omega)]
          have hR7 := hR1.call s1.h
          generalize s1.world = b2 at *
          go_wp2_with (refine wpList_store_blk hR7 row_rules13 rfl rfl rfl rfl rfl rfl (by kernel_rfl) ?_; intro w9 hR9 hS9; go_simp)
          refine bodyPost_ret (results_ctt hR9 row_rules13 rfl Tryz.results10 rfl rfl rfl) rfl ⟨noRu, by rw [hx0]; rfl, by rw [hx0]; rfl, noRu_ok _, hS9.below hR7.later (by omega), noRu_far _ _⟩
        have hx0 : RX = (⟨a.D, b.D, c.D, a.D.neg, n⟩, ⟨#[]⟩, 0) := by rw [hXX.out, if_neg (by omega), if_neg (by omega)]
        have hx0 := Lib.hid hx0
        have hN2 := hN1.call s1.h
        have hR2 := hR1.call s1.h
        have ha2 := ha1.ext s1
        have hb2 := hb1.ext s1
        have hc2 := hc1.ext s1
        clear k0 k1 k2 k3 k4 k5 hN1 hR1 ha1 hb1 hc1 hh1 hcm2
        have hcl3 := Nat.le_trans hB1.size s1.h.size
        generalize s1.world = b2 at *
        go_upto_region 33 with fail
        refine wp_tail 15 (by kernel_rfl) (by kernel_rfl) ?_
        intro b3 hb3
        have hh3 : b3.heap[g]? = some (.cells cur 28 (0, 0)) := by rw [hb3]; exact hh2
        have hN3 : Blk w g5 23 #[.int .i64 n.ic, .int .i64 n.fc, .int .i64 n.sc, .int .i64 n.mi, .int .i64 n.mf, .int .i64 n.md, .int .i64 n.hs] b3 := by rw [hb3]; exact hN2.drew
        have hR3 : Blk w (w.heap.size + 1) 48 #[.bool false, .slice none 0 0, .int .i64 0, .bool false, .slice none 0 0, .int .i64 0, .bool false, .slice none 0 0, .int .i64 0, .bool false, .int .i64 0, .int .i64 0, .int .i64 0, .int .i64 0, .int .i64 0, .int .i64 0, .int .i64 0] b3 := by rw [hb3]; exact hR2.drew
        have ha3 : IL b3 a.A a.n a.c a.D.l := by rw [hb3]; exact ha2.drew
        have hc3 : IL b3 b.A b.n b.c b.D.l := by rw [hb3]; exact hb2.drew
        have hd3 : IL b3 c.A c.n c.c c.D.l := by rw [hb3]; exact hc2.drew
        have hsz : b3.heap.size = b2.heap.size := by rw [hb3]; rfl
        clear hb3 hh2 hN2 hR2 ha2 hb2 hc2
        have k0 := cl.out b3 0 _ hh3 X.out.1
        have k1 := cl.out b3 1 _ hh3 X.out.2.1
        have k2 := cl.out b3 2 _ hh3 X.out.2.2.1
        have k3 := cl.out b3 3 _ hh3 X.out.2.2.2.1
        have k4 := cl.out b3 4 _ hh3 X.out.2.2.2.2.1
        have k5 := cl.out b3 5 _ hh3 X.out.2.2.2.2.2.1
        have k6 := cl.out b3 6 _ hh3 X.out.2.2.2.2.2.2.1
        have k7 := cl.out b3 7 _ hh3 X.out.2.2.2.2.2.2.2.1
        have k8 := cl.out b3 8 _ hh3 X.out.2.2.2.2.2.2.2.2
        have l0 : b3.cell? ⟨g5, 0, none⟩ = some (.int .i64 n.ic) := hN3.cell 0
        have l1 : b3.cell? ⟨g5, 1, none⟩ = some (.int .i64 n.fc) := hN3.cell 1
        have l2 : b3.cell? ⟨g5, 2, none⟩ = some (.int .i64 n.sc) := hN3.cell 2
        have l3 : b3.cell? ⟨g5, 3, none⟩ = some (.int .i64 n.mi) := hN3.cell 3
        have l4 : b3.cell? ⟨g5, 4, none⟩ = some (.int .i64 n.mf) := hN3.cell 4
        have l5 : b3.cell? ⟨g5, 5, none⟩ = some (.int .i64 n.md) := hN3.cell 5
        have l6 : b3.cell? ⟨g5, 6, none⟩ = some (.int .i64 n.hs) := hN3.cell 6
        simp only [List.take_succ_cons, List.take_zero, List.drop_succ_cons, List.drop_zero]
        iterate 14 still_step
        obtain ⟨Y, hY⟩ : ∃ Y : RuV, Hid (Y = ⟨⟨a.D, b.D, c.D, a.D.neg, n⟩, a.A, a.n, a.c, b.A, b.n, b.c, c.A, c.n, c.c⟩) := ⟨_, rfl⟩
        refine wpStill_build _ Y.cs rfl rfl ?_ (built_rules13 Y) ?_
        · rw [hY.out]; rfl
        refine wpStill_nil ?_
        clear k0 k1 k2 k3 k4 k5 k6 k7 k8 l0 l1 l2 l3 l4 l5 l6
        go_simp
        go_wp2_with (refine wpList_store_blk hR3 row_rules13 rfl rfl rfl rfl rfl rfl (by rw [hY.out]; kernel_rfl) ?_; intro w9 hR9 hS9; go_simp)
        have nE : ∀ d ∈ [a, b, c], 0 < d.n → ∀ p, d.A = some p → p.block ≠ w.heap.size + 1 := fun d hd hz p hp => by
          have := ((iL.out d hd).2 hz p hp).1
          omega
        have fE : ∀ d ∈ [a, b, c], IL b3 d.A d.n d.c d.D.l → 0 < d.n → ∀ p, d.A = some p → w.heap.size ≤ p.block ∧ p.block ≠ w9.heap.size := fun d hd hI hz p hp => by
          have := ((iL.out d hd).2 hz p hp).1
          exact ⟨by omega, by rw [hS9.size]; exact hI.apart (Nat.le_refl _) hz p hp⟩
        refine bodyPost_ret (results_ctt hR9 row_rules13 rfl Tryz.results10 rfl rfl rfl) rfl ⟨Y, by first | rfl | rw [hx0.out], by first | (rw [hY.out]; done) | (rw [hY.out]; rfl) | rw [hY.out, hx0.out], ?_, hS9.below hR3.later (by omega), ?_⟩
        · rw [hY.out]
          exact ⟨hS9.il ha3 (nE a (by simp)), hS9.il hc3 (nE b (by simp)), hS9.il hd3 (nE c (by simp))⟩
        · rw [hY.out]
          exact ⟨fE a (by simp) ha3, fE b (by simp) hc3, fE c (by simp) hd3⟩

end Go.Proofs.YtjinbhnpcdlkiaaGreatDoor

