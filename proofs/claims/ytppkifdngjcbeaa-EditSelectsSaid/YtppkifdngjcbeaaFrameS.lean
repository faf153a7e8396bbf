/- From the reading of a state, of limits, of a clip, to what the walks ask of it. No condition. -/
import Derived.Test.YtppkifdngjcbeaaFrame
import Derived.Test.YtppkifdngjcbeaaEd2
namespace Go.Proofs.Ytppkifdngjcbeaa
open Go.ChangeShapes Go.WideShapes Go.ChangeAt Go.RowKit Go.Joins Go.Deep
set_option linter.unusedSimpArgs false

theorem array6 {α : Type} {cs : Array α} (h : cs.size = 6) : ∃ c0 c1 c2 c3 c4 c5, cs = #[c0, c1, c2, c3, c4, c5] := by
  obtain ⟨l⟩ := cs
  match l, h with
  | [c0, c1, c2, c3, c4, c5], _ => exact ⟨c0, c1, c2, c3, c4, c5, rfl⟩
section
variable {H : Type} {enc : TypeId × Value → H} {W : World}
set_option maxRecDepth 100000 in
theorem arg_state {r : Reach} {b0 : Nat} {v : Value} {d : DataW H} {p : List MemPlace} (hv : Value.okWide Try.prog W r b0 53 v) (h : DataW.Trod enc Try.prog W 0 (fun _ => true) true 53 v d p) :
    ∃ x : SV, v = .agg #[.bool x.v.b, .slice x.v.A x.v.n x.v.c, .bool x.v.p, .slice x.v.E x.v.m x.v.q, .int .i64 x.c, .int .i64 x.a] ∧ x.v.ok W ∧ (I64 x.v.l ∧ I64 x.v.f) ∧ I6 x.c ∧ I6 x.a := by
  obtain ⟨cs, rfl, hsz⟩ := okWide_struct Try.underlying53 hv
  have hC : Try.prog.cellsOf 53 = 6 := by kernel_rfl
  have hD : Try.prog.cellsOf 42 = 4 := by kernel_rfl
  have k1 : Try.prog.cellsOf 3 = 1 := by kernel_rfl
  have k2 : Try.prog.cellsOf 4 = 1 := by kernel_rfl
  have k3 : Try.prog.cellsOf 23 = 1 := by kernel_rfl
  obtain ⟨c0, c1, c2, c3, c4, c5, rfl⟩ := array6 (hsz.trans hC)
  obtain ⟨fuel, hf⟩ := h
  obtain ⟨x0, x1, x2, n, _, _, h0, h1, h2⟩ := trod_struct3 Try.underlying53 hf
  simp only [hD, k1] at h0 h1 h2
  have h0' : ∃ y, DataW.trod enc Try.prog W 0 (fun _ => true) true n 42 [c0, c1, c2, c3] = some y := ⟨_, h0⟩
  have h1' : ∃ y, DataW.trod enc Try.prog W 0 (fun _ => true) true n 3 [c4] = some y := ⟨_, h1⟩
  have h2' : ∃ y, DataW.trod enc Try.prog W 0 (fun _ => true) true n 3 [c5] = some y := ⟨_, h2⟩
  obtain ⟨y0, g0⟩ := h0'
  obtain ⟨y1, g1⟩ := h1'
  obtain ⟨y2, g2⟩ := h2'
  obtain ⟨ca, rfl, i1⟩ := arg_int g1
  obtain ⟨an, rfl, i2⟩ := arg_int g2
  obtain ⟨z0, z1, z2, z3, m, _, _, e0, e1, e2, e3⟩ := trod_struct4 Try.underlying42 g0
  simp only [k2, k3] at e0 e1 e2 e3
  obtain ⟨b, rfl⟩ := arg_bool e0
  obtain ⟨A, n1, q1, l1, rfl, w1, j1⟩ := arg_ints e1
  obtain ⟨pb, rfl⟩ := arg_bool e2
  obtain ⟨E, n2, q2, l2, rfl, w2, j2⟩ := arg_ints e3
  exact ⟨⟨⟨b, A, n1, q1, l1, pb, E, n2, q2, l2⟩, ca, an⟩, rfl, ⟨w1, w2⟩, ⟨j1, j2⟩, i1, i2⟩
set_option maxRecDepth 100000 in
theorem arg_limits {r : Reach} {b0 : Nat} {v : Value} {d : DataW H} {p : List MemPlace} (hv : Value.okWide Try.prog W r b0 55 v) (h : DataW.Trod enc Try.prog W 0 (fun _ => true) true 55 v d p) :
    ∃ (a b : Int) (s : Bool), v = .agg #[.int .i64 a, .int .i64 b, .bool s] ∧ I6 a ∧ I6 b := by
  obtain ⟨u0, u1, u2, y0, y1, y2, m, rfl, _, _, t0, t1, t2⟩ := open_agg3 Try.underlying55 (by kernel_rfl) (by kernel_rfl) hv h
  obtain ⟨a, rfl, i1⟩ := arg_int t0
  obtain ⟨b, rfl, i2⟩ := arg_int t1
  obtain ⟨s, rfl⟩ := arg_bool t2
  exact ⟨a, b, s, rfl, i1, i2⟩
set_option maxRecDepth 100000 in
theorem arg_clip {r : Reach} {b0 : Nat} {v : Value} {d : DataW H} {p : List MemPlace} (hv : Value.okWide Try.prog W r b0 77 v) (h : DataW.Trod enc Try.prog W 0 (fun _ => true) true 77 v d p) :
    ∃ (b : Bool) (A : Option Addr) (n c : Nat) (l : List Int), v = .agg #[.bool b, .slice A n c] ∧ IL W A n c l ∧ I64 l := by
  obtain ⟨u0, u1, y0, y1, m, rfl, _, _, t0, t1⟩ := open_agg2 Try.underlying77 (by kernel_rfl) (by kernel_rfl) hv h
  obtain ⟨b, rfl⟩ := arg_bool t0
  obtain ⟨A, n, c, l, rfl, w1, j1⟩ := arg_ints t1
  exact ⟨b, A, n, c, l, rfl, w1, j1⟩
end
end Go.Proofs.Ytppkifdngjcbeaa
