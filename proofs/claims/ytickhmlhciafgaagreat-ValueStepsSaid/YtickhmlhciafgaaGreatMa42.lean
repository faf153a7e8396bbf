/- Values of raw numbers (plain); structs in a row, loaded. No condition. -/
import Derived.Test.YtickhmlhciafgaaGreatMa41
import Derived.Test.YtickhmlhciafgaaGreatMa23
import Derived.Test.YtickhmlhciafgaaGreatMa17
namespace Go.Proofs.YtickhmlhciafgaaGreat
open Go.RowKit
set_option linter.unusedVariables false

/-- A number's value: the number may be, and it is a value; or it is refused, and none. -/
theorem value_split {r : Ru} (hr : r.Ok) (d : Dc) : (mayDc d = true ∧ (valueC r d).2 = 0) ∨ ((valueC r d).1 = Dc.zero ∧ (valueC r d).2 ≠ 0) := by
  cases hm : mayDc d with
  | true => exact .inl ⟨rfl, value_code hr hm⟩
  | false =>
    right
    have e : roundDc d r.n.sc r.n.md = (Dc.zero, 1) := by
      unfold roundDc
      rw [hm]
      rfl
    unfold valueC
    rw [e]
    exact ⟨rfl, by simp⟩
/-- Behind a value: it fits, and is its own value. -/
theorem value_own {r : Ru} (hr : r.Ok) {d : Dc} (h : (valueC r d).2 = 0) : mayDc (valueC r d).1 = true ∧ fitsC r.n (valueC r d).1 = true ∧ valueC r (valueC r d).1 = ((valueC r d).1, 0) := by
  rcases value_split hr d with ⟨h1, _⟩ | ⟨_, h2⟩
  · obtain ⟨v1, v2, v3, v4, v5⟩ := value_in hr h1
    exact ⟨v1, fits_mid hr v1 v2 v3 v4 v5, value_self hr v1 v2 v5 v3 v4⟩
  · exact absurd h h2
theorem value_rd {r : Ru} (hr : r.Ok) {d : Dc} (hl : d.l.length ≤ 2000) : mayDc (valueC r d).1 = true ∧ (valueC r d).1.l.length ≤ 2100 := by
  rcases value_split hr d with ⟨h1, _⟩ | ⟨h2, _⟩
  · exact value_fin hr h1 hl
  · rw [h2]; exact ⟨rfl, by decide⟩
theorem vvalue_any (y : RuV) (x : NV) (w : World) (hy : y.ok w) (hx : x.ok w) (hb : y.r.Bd) (hr : x.Rd 5000) :
    Calls Tryz.prog 14 #[.agg y.cs, .agg x.cs] w (PQ (kce (valueC y.r x.D).2) (valueC y.r x.D).1 w) :=
  (cvalue_any y x.D w hy hx hb hr.i hr.s (by have := hx.len; have := hr.n; omega)).mono fun _ _ h => h.pq
section
variable {P : Program} {w w0 : World} {m k i : Nat} {isc : Nat → Bool} {Q : Inv w → Act → Prop} {I : Inv w} {a : Act} {o : Oper} {rest : List Oper}
/-- The load of a struct that lies in a row. -/
theorem QM_loadR {g off : Nat} {tl : TypeId} {nl : Nat} (lst : List Value) (hR : ∀ W, Later w W → W.rangeAt g off lst) (hTl : RowT P tl nl) (hi : isc i = false ∧ ¬ (i = m ∨ i = k)) (hnl : lst.length = nl) {x : Operand} (ho : o.op = .load tl x) (hx : a.eval x = .pointer (some ⟨g, off, none⟩))
    (h : wpQM P w m k isc Q I (i + 1) rest (a.put o.dst (.agg lst.toArray))) : wpQM P w m k isc Q I i (o :: rest) a := by
  obtain ⟨h1, h2⟩ := hTl
  cases hu : P.underlying tl with
  | none => simp [hu] at h1
  | some d =>
    rw [hu] at h1
    refine wpQM_step hi fun K hK => ⟨.agg lst.toArray, fun W hW => ?_, hK _ h⟩
    have hR := hR W (I.later hW)
    unfold execOp
    simp only [ho, hx, Instr.loadAt, Instr.sureAddr, Sem.run_bind, Sem.run_pure, Result.andThen_ok, run_loadVar_mid W g off tl lst d hR hu (by simpa using h1) (by rw [h2, hnl])]
    exact ⟨rfl, rfl⟩
theorem FR_loadb {isf : Nat → Bool} {Q : Act → Prop} {g : Nat} {tt tl : TypeId} {cs : Array Value} {nl : Nat} (hB : Blk w0 g tt cs w) (hTl : RowT P tl nl) (hi : isf i = true) (hnl : cs.size = nl) {x : Operand} (ho : o.op = .load tl x) (hx : a.eval x = .pointer (some ⟨g, 0, none⟩))
    (h : wpFree P w isf Q (i + 1) rest (a.put o.dst (.agg cs))) : wpFree P w isf Q i (o :: rest) a := by
  obtain ⟨h1, h2⟩ := hTl
  cases hu : P.underlying tl with
  | none => simp [hu] at h1
  | some d =>
    rw [hu] at h1
    refine wpFree_step hi fun K hK => ⟨.agg cs, fun W hW => ?_, hK _ h⟩
    have hR := (hB.call hW).range
    have := run_loadVar_mid W g 0 tl cs.toList d hR hu (by simpa using h1) (by rw [h2, ← hnl]; simp)
    unfold execOp
    simp only [ho, hx, Instr.loadAt, Instr.sureAddr, Sem.run_bind, Sem.run_pure, Result.andThen_ok, this]
    exact ⟨rfl, by simp⟩
end
theorem rangeAt_later0 {w W : World} {g o : Nat} {l : List Value} (h : w.rangeAt g o l) (hb : Later w W) : W.rangeAt g o l := fun j v hv => by
  have := h j v hv
  rw [Below.cell hb (World.block_lt_of_cell? w _ this)]
  exact this
section
variable {P : Program} {K : Act → Prop} {a : Act} {o : Oper} {w : World} {g off n : Nat} {ty : TypeId}
theorem quiet_load_row {l : List Value} (hR : w.rangeAt g off l) (hT : RowT P ty n) (hn : l.length = n) {x : Operand} (ho : o.op = .load ty x) (hx : a.eval x = .pointer (some ⟨g, off, none⟩)) (hk : K (a.put o.dst (.agg l.toArray))) : o.quiet P a (fun W => ∃ s : Ext w, W = s.world) K :=
  quiet_load_part (fun W ⟨s, hW⟩ => hW ▸ rangeAt_later0 hR s.h) hT hn ho hx hk
end
theorem sameD_comm (x y : Dr) : sameD x y = sameD y x := by
  unfold sameD
  rw [Bool.eq_iff_iff]
  simp
  constructor <;> (rintro ⟨⟨⟨h1, h2⟩, h3⟩, h4⟩; exact ⟨⟨⟨h1.symm, h2.symm⟩, h3.symm⟩, h4.symm⟩)
theorem vfew14_any (x : DV) (q : Nat) (w : World) (hx : x.ok w) (hq : q ≤ 1000000) :
    Calls Tryz.prog 31 #[.agg x.cs, .int .i64 (q : Int)] w (RV w (.agg (DV.cs ⟨x.b, x.A, min x.n q, x.c, x.l.take q, x.p, x.E, min x.m q, x.q, x.f.take q⟩))) :=
  (dfewx_any x.b x.p q w hx.1 hx.2 hq).mono fun e w' ⟨k0, k1, he, _, _, h1, h2, hB⟩ => by
    have e1 := h1.len
    have e2 := h2.len
    have e3 := hx.1.len
    have e4 := hx.2.len
    rw [List.length_take] at e1 e2
    have f1 : k0 = min x.n q := by omega
    have f2 : k1 = min x.m q := by omega
    subst f1 f2
    exact ⟨he, hB⟩
theorem vas13_any (x : NV) (w : World) : Calls Tryz.prog 18 #[.agg x.cs] w (RV w (.agg x.cs)) := as13_any _ _ _ _ _ w
theorem vdec13_any (x : NV) (w : World) : Calls Tryz.prog 15 #[.agg x.cs] w (RV w (.agg x.cs)) := dec13_any _ _ _ _ _ w
theorem vfits_any (y : RuV) (x : NV) (w : World) (hx : x.ok w) (hr : x.Rd 5000) :
    Calls Tryz.prog 19 #[.agg y.cs, .agg x.cs] w (RV w (.bool (mayDc x.D && fitsC y.r.n x.D))) :=
  cfits_any y x.D w hx hr.i hr.s (by have := hx.len; have := hr.n; omega)
theorem rangeAt_later {w W : World} {g o : Nat} {l : List Value} (h : w.rangeAt g o l) (hb : Later w W) : W.rangeAt g o l := fun j v hv => by
  have := h j v hv
  rw [Below.cell hb (World.block_lt_of_cell? w _ this)]
  exact this

end Go.Proofs.YtickhmlhciafgaaGreat

