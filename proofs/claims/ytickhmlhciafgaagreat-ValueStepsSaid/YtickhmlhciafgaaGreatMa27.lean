/- How long a value is (plain). No condition. -/
import Derived.Test.YtickhmlhciafgaaGreatMa26
import Derived.Test.YtickhmlhciafgaaGreatMa23
namespace Go.Proofs.YtickhmlhciafgaaGreat
open Go.RowKit

def tupC (D : Dc) (code : Int) (A : Option Addr) (n c : Nat) : Value := .tuple #[.agg #[.bool D.neg, .slice A n c, .int .i64 D.s], .int .i64 code]
def VC (D : Dc) (code : Int) (u : Value) : Prop := ∃ A n c, u = tupC D code A n c
def FC (D : Dc) (code : Int) (u : Value) (W : World) : Prop := ∃ A n c, u = tupC D code A n c ∧ IL W A n c D.l
def apC (D : Dc) (code : Int) (u : Value) (b : Nat) : Prop := ∀ A n c, u = tupC D code A n c → 0 < n → ∀ p, A = some p → p.block ≠ b
theorem tupC_inj {D : Dc} {code : Int} {A A' : Option Addr} {n n' c c' : Nat} (h : tupC D code A n c = tupC D code A' n' c') : A = A' ∧ n = n' ∧ c = c' := by
  simp only [tupC, Value.tuple.injEq, Array.mk.injEq, List.cons.injEq, Value.agg.injEq, Value.slice.injEq] at h
  exact h.1.2.1
theorem FC.f1 {D : Dc} {code : Int} : ∀ u W W', FC D code u W → Below W.heap.size W W' → FC D code u W' := fun _ _ _ ⟨A, n, c, h, hI⟩ hb => ⟨A, n, c, h, hI.below hb⟩
theorem FC.f2 {D : Dc} {code : Int} : ∀ u W W' b, FC D code u W → Sto W W' b → apC D code u b → FC D code u W' := fun _ _ _ _ ⟨A, n, c, h, hI⟩ hs ha => ⟨A, n, c, h, hs.il hI (ha A n c h)⟩
theorem FC.f4 {D : Dc} {code : Int} : ∀ u W b, FC D code u W → W.heap.size ≤ b → apC D code u b := fun _ _ _ ⟨A, n, c, h, hI⟩ hb A' n' c' h' => by
  rw [h] at h'
  obtain ⟨rfl, rfl, rfl⟩ := tupC_inj h'
  exact hI.apart hb
theorem RCE.up {P : Program} {f : FuncId} {args : Array Value} {W : World} {D : Dc} {code : Int} (h : Calls P f args W (RCE W D code)) :
    Calls P f args W (fun e W' => ∃ u, e = .returned u ∧ VC D code u ∧ FC D code u W' ∧ Below W.heap.size W W' ∧ ∀ b, b < W.heap.size → apC D code u b) :=
  h.mono fun e W' ⟨A, n, c, he, hI, hB, hN⟩ => ⟨tupC D code A n c, he, ⟨A, n, c, rfl⟩, ⟨A, n, c, rfl, hI⟩, hB, fun b hb A' n' c' h' hz p hp => by
    obtain ⟨rfl, rfl, rfl⟩ := tupC_inj h'
    have := hN hz p hp
    omega⟩

section
variable {P : Program} {w w0 : World} {m k c i : Nat} {V : Value → Prop} {F : Value → World → Prop} {ap : Value → Nat → Prop} {Q : Value → Act → Prop} {a : Act} {o : Oper} {rest : List Oper}
theorem wpQC_step (hi : i ≠ c ∧ ¬ (i = m ∨ i = k))
    (h : ∀ K : Act → Prop, (∀ a, wpQC P w m k c V F ap Q (i + 1) rest a → K a) → ∃ v, (∀ s : Ext w, Oper.quietUpon P (fun W => Below s.world.heap.size s.world W) s.world v ((execOp a.eval o).run P s.world)) ∧ K (a.put o.dst v)) : wpQC P w m k c V F ap Q i (o :: rest) a := by
  simp only [wpQC]; rw [if_neg hi.1, if_neg hi.2]; exact h _ (fun _ h => h)
theorem wpQC_pass (hi : i ≠ c ∧ (i = m ∨ i = k)) (h : wpQC P w m k c V F ap Q (i + 1) rest a) : wpQC P w m k c V F ap Q i (o :: rest) a := by
  simp only [wpQC]; rw [if_neg hi.1, if_pos hi.2]; exact h
theorem wpQC_call (hi : i = c) (h1 : ∀ s : Ext w, callUpon P s.world V F ap ((execOp a.eval o).run P s.world)) (h2 : ∀ u, V u → wpQV P w m k (Q u) (i + 1) rest (a.put o.dst u)) : wpQC P w m k c V F ap Q i (o :: rest) a := by
  simp only [wpQC]; rw [if_pos hi]; exact ⟨h1, h2⟩
theorem QC_load {g : Nat} {tt tl : TypeId} {cs : Array Value} {nl : Nat} (hB : Blk w0 g tt cs w) (off : Nat) (lst : List Value) (hl : (cs.toList.drop off).take lst.length = lst) (hTl : RowT P tl nl) (hi : i ≠ c ∧ ¬ (i = m ∨ i = k)) (hnl : lst.length = nl) {x : Operand} (ho : o.op = .load tl x) (hx : a.eval x = .pointer (some ⟨g, off, none⟩))
    (h : wpQC P w m k c V F ap Q (i + 1) rest (a.put o.dst (.agg lst.toArray))) : wpQC P w m k c V F ap Q i (o :: rest) a := by
  obtain ⟨h1, h2⟩ := hTl
  cases hu : P.underlying tl with
  | none => simp [hu] at h1
  | some d =>
    rw [hu] at h1
    refine wpQC_step hi fun K hK => ⟨.agg lst.toArray, fun s => ?_, hK _ h⟩
    have hR := (hB.call s.h).part off lst hl
    unfold execOp
    simp only [ho, hx, Instr.loadAt, Instr.sureAddr, Sem.run_bind, Sem.run_pure, Result.andThen_ok, run_loadVar_mid s.world g off tl lst d hR hu (by simpa using h1) (by rw [h2, hnl])]
    exact ⟨rfl, rfl⟩
theorem QC_loadb {g : Nat} {tt tl : TypeId} {cs : Array Value} {nl : Nat} (hB : Blk w0 g tt cs w) (hTl : RowT P tl nl) (hi : i ≠ c ∧ ¬ (i = m ∨ i = k)) (hnl : cs.size = nl) {x : Operand} (ho : o.op = .load tl x) (hx : a.eval x = .pointer (some ⟨g, 0, none⟩))
    (h : wpQC P w m k c V F ap Q (i + 1) rest (a.put o.dst (.agg cs))) : wpQC P w m k c V F ap Q i (o :: rest) a :=
  QC_load hB 0 cs.toList (by rw [List.drop_zero, List.take_length]) hTl hi (by simpa using hnl) ho hx (by simpa using h)
end

end Go.Proofs.YtickhmlhciafgaaGreat


namespace Go.Proofs.YtickhmlhciafgaaGreat
open Go.RowKit

theorem value_len {r : Ru} (hr : r.Ok) {d : Dc} (hd : mayDc d = true) (n1 : r.lo.l.length ≤ 2000) (n2 : r.hi.l.length ≤ 2000) (n3 : d.l.length ≤ 2000) : (valueC r d).1.l.length ≤ 2100 := by
  rw [value_eq hr hd]
  have h1 := hr.sc
  have h2 := hr.fc
  split
  · show r.lo.l.length ≤ 2100
    omega
  · split
    · show r.hi.l.length ≤ 2100
      omega
    · show (trimDc (rndR r d)).l.length ≤ 2100
      have := trimDc_len (rndR r d)
      have := round_len (d := d) (mayDc_iff.1 hd).1 n3 r.n.md r.n.sc.toNat
      unfold rndR at *
      omega

end Go.Proofs.YtickhmlhciafgaaGreat

