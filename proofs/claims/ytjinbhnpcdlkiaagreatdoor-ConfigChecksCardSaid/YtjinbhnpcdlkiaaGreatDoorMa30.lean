/- A slice of four structs, built whole. No condition. -/
import Derived.Test.YtjinbhnpcdlkiaaGreatDoorMa29
namespace Go.Proofs.YtjinbhnpcdlkiaaGreatDoor
open Go.RowKit
set_option linter.unusedVariables false

/-- An operation whose run is known. -/
theorem wpList_run1 {P : Program} {ops : Array Oper} {rest : List Oper} {o : Oper} {a : Act} {w W' : World} {Q : Exit → Act → World → Prop} {v : Value} (hg : o.guard = none) (hr : (execOp a.eval o).run P w = .ok (.value v) W')
    (h : wpList P ops Q rest (a.put o.dst v) W') : wpList P ops Q (o :: rest) a w :=
  wpList_plain hg fun K hK => by
    unfold Oper.wp
    rw [hr]
    exact hK _ _ h
theorem exec_buildSlice {P : Program} {a : Act} {o : Oper} {w W' : World} {t : TypeId} {len : Nat} {ps : List (Nat × Operand)} {v : Value} (vs : List (Nat × Value)) (ho : o.op = .buildSlice t len ps.toArray) (hv : (ps.map fun p => (p.1, a.eval p.2)) = vs)
    (hr : (Instr.buildSlice t len vs.toArray).run P w = .ok v W') : (execOp a.eval o).run P w = .ok (.value v) W' := by
  have hp' : (ps.toArray.map fun (i, x) => (i, a.eval x)) = vs.toArray := by
    rw [← hv]
    simp
  unfold execOp
  simp only [ho, hp', Sem.run_bind, hr, Result.andThen_ok]
  rfl
def cells4 (a b c d : Cm) : Array Value := a.cs ++ b.cs ++ c.cs ++ d.cs
set_option maxRecDepth 100000 in
theorem buildSlice4 (a b c d : Cm) (W : World) : (Instr.buildSlice 35 4 #[(0, .agg a.cs), (1, .agg b.cs), (2, .agg c.cs), (3, .agg d.cs)]).run Tryz.prog W = .ok (.slice (some ⟨W.heap.size, 0, none⟩) 4 4) (W.alloc (.cells (cells4 a b c d) 25)) := by kernel_rfl

theorem row4_0 (a b c d : Cm) : ((cells4 a b c d).toList.drop 0).take a.cs.toList.length = a.cs.toList := by kernel_rfl
theorem row4_1 (a b c d : Cm) : ((cells4 a b c d).toList.drop 10).take b.cs.toList.length = b.cs.toList := by kernel_rfl
theorem row4_2 (a b c d : Cm) : ((cells4 a b c d).toList.drop 20).take c.cs.toList.length = c.cs.toList := by kernel_rfl
theorem row4_3 (a b c d : Cm) : ((cells4 a b c d).toList.drop 30).take d.cs.toList.length = d.cs.toList := by kernel_rfl
theorem rows4 (a b c d : Cm) {B : Nat} (ha : a.sized B) (hb : b.sized B) (hc : c.sized B) (hd : d.sized B) : ∃ F : Nat → Cm, ∀ k, k < 4 → (F k).sized B ∧ ∀ w g5 t W, Blk w g5 t (cells4 a b c d) W → W.rangeAt g5 (k * 10) (F k).cs.toList := by
  refine ⟨fun k => if k = 0 then a else if k = 1 then b else if k = 2 then c else d, fun k hk => ?_⟩
  have hq : k = 0 ∨ k = 1 ∨ k = 2 ∨ k = 3 := by omega
  rcases hq with rfl | rfl | rfl | rfl
  · exact ⟨ha, fun w g5 t W h => h.part 0 a.cs.toList (row4_0 a b c d)⟩
  · exact ⟨hb, fun w g5 t W h => h.part 10 b.cs.toList (row4_1 a b c d)⟩
  · exact ⟨hc, fun w g5 t W h => h.part 20 c.cs.toList (row4_2 a b c d)⟩
  · exact ⟨hd, fun w g5 t W h => h.part 30 d.cs.toList (row4_3 a b c d)⟩

section
variable {P : Program} {ops : Array Oper} {rest : List Oper} {op : Oper} {a : Act} {w w0 : World} {Q : Exit → Act → World → Prop} {g o n : Nat} {t : TypeId} {cs : Array Value}
/-- The load of a struct, under a guard that holds. -/
theorem wpList_load_partg {l : List Value} (hR : w.rangeAt g o l) {ty : TypeId} (hT : RowT P ty n) (hn : l.length = n) {x : Operand} (hw : Region.wanted op (yielded ops a.tmps) = true) (ho : op.op = .load ty x) (hx : a.eval x = .pointer (some ⟨g, o, none⟩))
    (h : wpList P ops Q rest (a.put op.dst (.agg l.toArray)) w) : wpList P ops Q (op :: rest) a w := by
  obtain ⟨h1, h2⟩ := hT
  cases hu : P.underlying ty with
  | none => simp [hu] at h1
  | some d =>
    rw [hu] at h1
    rw [wpList, if_pos hw]
    exact .inl (wp_load_mid ty x ho g o hx l d hR hu (by simpa using h1) (by rw [h2, hn]) h)
theorem wpList_load_blkg (hB : Blk w0 g t cs w) {ty : TypeId} (hT : RowT P ty n) (hn : cs.size = n) {x : Operand} (hw : Region.wanted op (yielded ops a.tmps) = true) (ho : op.op = .load ty x) (hx : a.eval x = .pointer (some ⟨g, 0, none⟩))
    (h : wpList P ops Q rest (a.put op.dst (.agg cs)) w) : wpList P ops Q (op :: rest) a w :=
  wpList_load_partg hB.range hT (by simpa using hn) hw ho hx (by simpa using h)
end

end Go.Proofs.YtjinbhnpcdlkiaaGreatDoor

