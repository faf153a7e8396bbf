/- The walk of the document's printing of a decimal. No condition. -/
import Derived.Test.YtjinbhnpcdlkiaaGreatDoorMa18
import Derived.Test.YtjinbhnpcdlkiaaGreatDoorMa19
import Derived.Test.YtjinbhnpcdlkiaaGreatDoorMa16
import Derived.Test.YtjinbhnpcdlkiaaGreatDoorMa10
import Derived.Test.YtjinbhnpcdlkiaaGreatDoorMa09
import Derived.Test.YtjinbhnpcdlkiaaGreatDoorMa07
namespace Go.Proofs.YtjinbhnpcdlkiaaGreatDoor
open Go.RowKit

/-- A decimal in memory. -/
structure DV4 where
  D : Dc
  A : Option Addr
  n : Nat
  c : Nat
def DV4.cs (d : DV4) : List Value := [.bool d.D.neg, .slice d.A d.n d.c, .int .i64 d.D.s]
def cellsD (ds : List DV4) : List Value := ds.flatMap DV4.cs
theorem cellsD_len (ds : List DV4) : (cellsD ds).length = ds.length * 3 := by
  induction ds with
  | nil => rfl
  | cons d r ih =>
    have : cellsD (d :: r) = d.cs ++ cellsD r := by simp [cellsD]
    rw [this, List.length_append, ih]
    simp [DV4.cs]; omega
theorem cellsD_snoc (ds : List DV4) (d : DV4) : cellsD (ds ++ [d]) = cellsD ds ++ d.cs := by simp [cellsD]
theorem cs_oneCell (d : DV4) : ∀ u ∈ d.cs, u.oneCell' = true := fun u hu => by
  simp only [DV4.cs, List.mem_cons, List.not_mem_nil, or_false] at hu
  rcases hu with rfl | rfl | rfl <;> rfl
/-- A row of decimals of the call's own; their digits lie elsewhere, in new memory. -/
structure DRow (B : Nat) (W : World) (v : Value) (ds : List DV4) : Prop where
  own : W.ownsRow B 28 3 v ds.length (cellsD ds)
  il : ∀ d ∈ ds, IL W d.A d.n d.c d.D.l ∧ (0 < d.n → ∀ a, d.A = some a → B ≤ a.block ∧ some a.block ≠ v.ownBlock)
theorem DRow.nil (B : Nat) (W : World) : DRow B W (.slice none 0 0) [] := ⟨World.ownsRow_nil W B _ 3, fun d hd => absurd hd (by simp)⟩
theorem DRow.call {B : Nat} {W W' : World} {v : Value} {ds : List DV4} (h : DRow B W v ds) (hb : Below W.heap.size W W') : DRow B W' v ds :=
  ⟨h.own.kept (row := none) ⟨hb.os, hb.tape, hb.output, hb.size, fun k hk _ => hb.block k hk⟩ (by cases v.ownBlock <;> simp), fun d hd => ⟨(h.il d hd).1.below hb, (h.il d hd).2⟩⟩
theorem dec6_info : (Tryz.prog.info? 28).map (fun i => (i.zero, i.size, i.bytes)) = some (some (.agg #[.bool false, .slice none 0 0, .int .i64 0]), 3, 40) := by kernel_rfl
/-- A decimal more. -/
theorem wpList_append_D {W w0 : World} {ops : Array Oper} {rest : List Oper} {o : Oper} {a : Act} {Q : Exit → Act → World → Prop} {B : Nat} {v : Value} {ds : List DV4} {gx : Nat} {tx : TypeId} (d : DV4)
    (h : DRow B W v ds) (hX : Blk w0 gx tx d.cs.toArray W) (hI : IL W d.A d.n d.c d.D.l) (hN : 0 < d.n → ∀ a, d.A = some a → B ≤ a.block ∧ some a.block ≠ v.ownBlock) (hB : B ≤ W.heap.size) (hl : ds.length ≤ 1000)
    (hgd : o.guard = none) {s x : Operand} (ho : o.op = .call { callee := .builtin .append, args := #[s, x], argTypes := #[72, 72] }) (hs : a.eval s = v) (hx : a.eval x = .slice (some ⟨gx, 0, none⟩) 1 1)
    (k : ∀ v' W', DRow B W' v' (ds ++ [d]) → Below B W W' → wpList Tryz.prog ops Q rest (a.put o.dst v') W') : wpList Tryz.prog ops Q (o :: rest) a W := by
  obtain ⟨i0, hi0, hz0, hz1, hz2⟩ := info_parts dec6_info
  obtain ⟨v', W', hr, hown, hg, _, hat⟩ := run_append_own_at (P := Tryz.prog) W B 72 o.type 28 i0 _ 3 40 Tryz.underlying72 hi0 hz0 hz1 hz2 rfl (by omega)
    v ds.length (cellsD ds) h.own ⟨gx, 0, none⟩ 1 1 d.cs rfl (fun j u hu => by
      rw [Addr.add_mid, hX.cell (0 + j), Nat.zero_add]
      simpa using hu) (cs_oneCell d) (by simp only [maxLen]; omega) (by omega) hB
  have hkeep : ∀ e : DV4, IL W e.A e.n e.c e.D.l → (0 < e.n → ∀ a, e.A = some a → B ≤ a.block ∧ some a.block ≠ v.ownBlock) → IL W' e.A e.n e.c e.D.l ∧ (0 < e.n → ∀ a, e.A = some a → B ≤ a.block ∧ some a.block ≠ v'.ownBlock) := fun e h1 h2 => by
    refine ⟨?_, fun hz a ha => ⟨(h2 hz a ha).1, ?_⟩⟩
    · rcases Nat.eq_zero_or_pos e.n with h0 | h0
      · rw [h0] at h1 ⊢
        exact ⟨h1.1, h1.2.1, h1.2.2.1, fun hh => absurd hh (by omega)⟩
      · exact h1.grown hg fun a ha => (h2 h0 a ha).2
    · rcases hat with hat | hat
      · rw [hat]; exact (h2 hz a ha).2
      · rw [hat]
        intro e
        have := h1.apart (Nat.le_refl _) hz a ha
        exact this (Option.some.inj e)
  refine Lib.wpList_append_run W hgd s x _ _ ho _ _ hs hx v' W' hr (k v' W' ⟨?_, fun e he => ?_⟩ ((Below.refl _ _).grown hg hB fun k hk => (h.own.lt k hk).1))
  · rw [List.length_append, cellsD_snoc]; exact hown
  · rcases List.mem_append.1 he with he | he
    · exact hkeep e (h.il e he).1 (h.il e he).2
    · obtain rfl : e = d := by simpa using he
      exact hkeep e hI hN
/-- Three decimals, in the order in which they came. -/
theorem DRow.three {B : Nat} {W : World} {v : Value} {a b c : DV4} (h : DRow B W v [a, b, c]) : ∃ g cap cur, v = .slice (some ⟨g, 0, none⟩) 3 cap ∧ 3 ≤ cap ∧ B ≤ g ∧ W.heap[g]? = some (.cells cur 28 (0, 0)) ∧ cur[0]? = some (.bool a.D.neg) ∧ cur[1]? = some (.slice a.A a.n a.c) ∧ cur[2]? = some (.int .i64 a.D.s) ∧ cur[3]? = some (.bool b.D.neg) ∧ cur[4]? = some (.slice b.A b.n b.c) ∧ cur[5]? = some (.int .i64 b.D.s) ∧ cur[6]? = some (.bool c.D.neg) ∧ cur[7]? = some (.slice c.A c.n c.c) ∧ cur[8]? = some (.int .i64 c.D.s) := by
  rcases h.own.2 with ⟨_, h0⟩ | ⟨g, cap, cur, hv, hg, hh, hnc, hcm, hcs, ht⟩
  · simp at h0
  · have at_ : ∀ j, j < 9 → cur[j]? = (cellsD [a, b, c])[j]? := fun j hj => by
      rw [← ht, List.getElem?_take, if_pos (by simpa using hj)]
      simp
    exact ⟨g, cap, cur, hv, hnc, hg, hh, at_ 0 (by omega), at_ 1 (by omega), at_ 2 (by omega), at_ 3 (by omega), at_ 4 (by omega), at_ 5 (by omega), at_ 6 (by omega), at_ 7 (by omega), at_ 8 (by omega)⟩
theorem rout_any (n lo hi : Int) (w : World) : Calls Tryz.prog 24 #[.int .i64 n, .int .i64 lo, .int .i64 hi] w (RQ w (.bool (decide (n < lo) || decide (hi < n)))) := by
  go_enter Tryz.func24, Tryz.ntmps24
  by_cases h1 : n < lo
  · rw [decide_eq_true h1, Bool.true_or]
    go_wp2_with fail
    go_ret
    exact ⟨rfl, 0, rfl⟩
  · rw [decide_eq_false h1, Bool.false_or]
    by_cases h2 : hi < n
    · rw [decide_eq_true h2]
      go_wp2_with fail
      go_ret
      exact ⟨rfl, 0, rfl⟩
    · rw [decide_eq_false h2]
      go_wp2_with fail
      go_ret
      exact ⟨rfl, 0, rfl⟩

end Go.Proofs.YtjinbhnpcdlkiaaGreatDoor


namespace Go.Proofs.YtjinbhnpcdlkiaaGreatDoor
open Go.RowKit

theorem built_rules13 (y : RuV) : Tryz.prog.built 48 [(0, .agg #[.bool y.r.lo.neg, .slice y.A1 y.n1 y.c1, .int .i64 y.r.lo.s]), (1, .agg #[.bool y.r.hi.neg, .slice y.A2 y.n2 y.c2, .int .i64 y.r.hi.s]), (2, .agg #[.bool y.r.st.neg, .slice y.A3 y.n3 y.c3, .int .i64 y.r.st.s]), (3, .bool y.r.sg), (4, .agg #[.int .i64 y.r.n.ic, .int .i64 y.r.n.fc, .int .i64 y.r.n.sc, .int .i64 y.r.n.mi, .int .i64 y.r.n.mf, .int .i64 y.r.n.md, .int .i64 y.r.n.hs])] = some y.cs := by kernel_rfl
def RNew13 (w : World) (R : Ru) (e : Ending) (w' : World) : Prop :=
  ∃ y : RuV, e = .returned (.tuple #[.agg y.cs, .string { data := #[] }, .int .i64 0]) ∧ y.r = R ∧ y.ok w' ∧ Below w.heap.size w w' ∧ y.far w.heap.size w'.heap.size
set_option maxRecDepth 100000 in
set_option maxHeartbeats 8000000 in
theorem rnew_ok (n : Cn) (m x s : ByteArray) (Dm Dx Ds : Dc) (w : World) (hn : n.Ok) (hm : TextOk n m Dm) (hx : TextOk n x Dx) (hs : TextOk n s Ds) (hrow : ¬ 0 < cmpDc (trimDc Dm) (trimDc Dx)) (hpos : 0 < cmpDc (trimDc Ds) Dc.zero) :
    Calls Tryz.prog 10 #[.agg #[.string m, .string x, .string s, .int .i64 n.ic, .int .i64 n.fc, .int .i64 n.sc, .int .i64 n.mi, .int .i64 n.mf, .int .i64 n.md, .int .i64 n.hs]] w (RNew13 w (ruOf n Dm Dx Ds)) := by
  have hout := Lib.hid (fun a b c W => rout_any a b c W)
  have hC := (Blk.made w w 25 #[.string m, .string x, .string s, .int .i64 n.ic, .int .i64 n.fc, .int .i64 n.sc, .int .i64 n.mi, .int .i64 n.mf, .int .i64 n.md, .int .i64 n.hs] (Later.refl w) _ rfl).alloc (.cells #[.bool false, .slice none 0 0, .int .i64 0, .bool false, .slice none 0 0, .int .i64 0, .bool false, .slice none 0 0, .int .i64 0, .bool false, .int .i64 0, .int .i64 0, .int .i64 0, .int .i64 0, .int .i64 0, .int .i64 0, .int .i64 0] 48)
  have hR := (Blk.made w (w.alloc (.cells #[.string m, .string x, .string s, .int .i64 n.ic, .int .i64 n.fc, .int .i64 n.sc, .int .i64 n.mi, .int .i64 n.mf, .int .i64 n.md, .int .i64 n.hs] 25)) 48 #[.bool false, .slice none 0 0, .int .i64 0, .bool false, .slice none 0 0, .int .i64 0, .bool false, .slice none 0 0, .int .i64 0, .bool false, .int .i64 0, .int .i64 0, .int .i64 0, .int .i64 0, .int .i64 0, .int .i64 0, .int .i64 0] ((Later.refl w).alloc _) (w.heap.size + 1) (by simp))
  go_enter Tryz.func10, Tryz.ntmps10
  go_upto_region 1 with fail
  generalize World.alloc (World.alloc w _) _ = w1 at *
  have k3 : w1.cell? ⟨w.heap.size, 3, none⟩ = some (.int .i64 n.ic) := hC.cell 3
  have k4 : w1.cell? ⟨w.heap.size, 4, none⟩ = some (.int .i64 n.fc) := hC.cell 4
  have k5 : w1.cell? ⟨w.heap.size, 5, none⟩ = some (.int .i64 n.sc) := hC.cell 5
  have k6 : w1.cell? ⟨w.heap.size, 6, none⟩ = some (.int .i64 n.mi) := hC.cell 6
  have k7 : w1.cell? ⟨w.heap.size, 7, none⟩ = some (.int .i64 n.mf) := hC.cell 7
  have k8 : w1.cell? ⟨w.heap.size, 8, none⟩ = some (.int .i64 n.md) := hC.cell 8
  have k9 : w1.cell? ⟨w.heap.size, 9, none⟩ = some (.int .i64 n.hs) := hC.cell 9
  go_upto_region 2 with fail
  have hN := Blk.made w w1 23 #[.int .i64 n.ic, .int .i64 n.fc, .int .i64 n.sc, .int .i64 n.mi, .int .i64 n.mf, .int .i64 n.md, .int .i64 n.hs] hR.later _ rfl
  have hC1 := hC.alloc (.cells #[.int .i64 n.ic, .int .i64 n.fc, .int .i64 n.sc, .int .i64 n.mi, .int .i64 n.mf, .int .i64 n.md, .int .i64 n.hs] 23)
  have hR1 := hR.alloc (.cells #[.int .i64 n.ic, .int .i64 n.fc, .int .i64 n.sc, .int .i64 n.mi, .int .i64 n.mf, .int .i64 n.md, .int .i64 n.hs] 23)
  obtain ⟨g5, hg5⟩ : ∃ g, g = w1.heap.size := ⟨_, rfl⟩
  have hlt5 : w.heap.size + 1 < g5 := by rw [hg5]; exact hR.lt
  rw [← hg5] at hN
  rw [← hg5]
  clear k3 k4 k5 k6 k7 k8 k9 hC hR hg5
  generalize World.alloc w1 _ = v0 at *
  have c0 : v0.cell? ⟨g5, 0, none⟩ = some (.int .i64 n.ic) := hN.cell 0
  go_wp2_with fail
  refine (hout.out _ _ _ _).mono ?_
  rw [show (decide (n.ic < 1) || decide (64 < n.ic)) = false by rw [decide_eq_false (by have := hn.ic; omega), decide_eq_false (by have := hn.ic; omega)]; rfl]
  rintro e v1x ⟨rfl, j0, rfl⟩
  clear c0
  have hN0 := hN.call (below_drewN _ _ j0)
  have hC0' := hC1.call (below_drewN _ _ j0)
  have hR0' := hR1.call (below_drewN _ _ j0)
  clear hN hC1 hR1
  generalize v0.drewN j0 = v1 at *
  have c1 : v1.cell? ⟨g5, 1, none⟩ = some (.int .i64 n.fc) := hN0.cell 1
  go_wp2_with fail
  refine (hout.out _ _ _ _).mono ?_
  rw [show (decide (n.fc < 0) || decide (64 < n.fc)) = false by rw [decide_eq_false (by have := hn.fc; omega), decide_eq_false (by have := hn.fc; omega)]; rfl]
  rintro e v2x ⟨rfl, j1, rfl⟩
  clear c1
  have hN1 := hN0.call (below_drewN _ _ j1)
  have hC1' := hC0'.call (below_drewN _ _ j1)
  have hR1' := hR0'.call (below_drewN _ _ j1)
  clear hN0 hC0' hR0'
  generalize v1.drewN j1 = v2 at *
  have c2 : v2.cell? ⟨g5, 2, none⟩ = some (.int .i64 n.sc) := hN1.cell 2
  have c1 : v2.cell? ⟨g5, 1, none⟩ = some (.int .i64 n.fc) := hN1.cell 1
  go_wp2_with fail
  refine (hout.out _ _ _ _).mono ?_
  rw [show (decide (n.sc < 0) || decide (n.fc < n.sc)) = false by rw [decide_eq_false (by have := hn.sc; omega), decide_eq_false (by have := hn.sc; omega)]; rfl]
  rintro e v3x ⟨rfl, j2, rfl⟩
  clear c2 c1
  have hN2 := hN1.call (below_drewN _ _ j2)
  have hC2' := hC1'.call (below_drewN _ _ j2)
  have hR2' := hR1'.call (below_drewN _ _ j2)
  clear hN1 hC1' hR1'
  generalize v2.drewN j2 = v3 at *
  have c3 : v3.cell? ⟨g5, 3, none⟩ = some (.int .i64 n.mi) := hN2.cell 3
  have c0 : v3.cell? ⟨g5, 0, none⟩ = some (.int .i64 n.ic) := hN2.cell 0
  go_wp2_with fail
  refine (hout.out _ _ _ _).mono ?_
  rw [show (decide (n.mi < 0) || decide (n.ic < n.mi)) = false by rw [decide_eq_false (by have := hn.mi; omega), decide_eq_false (by have := hn.mi; omega)]; rfl]
  rintro e v4x ⟨rfl, j3, rfl⟩
  clear c3 c0
  have hN3 := hN2.call (below_drewN _ _ j3)
  have hC3' := hC2'.call (below_drewN _ _ j3)
  have hR3' := hR2'.call (below_drewN _ _ j3)
  clear hN2 hC2' hR2'
  generalize v3.drewN j3 = v4 at *
  have c4 : v4.cell? ⟨g5, 4, none⟩ = some (.int .i64 n.mf) := hN3.cell 4
  have c2 : v4.cell? ⟨g5, 2, none⟩ = some (.int .i64 n.sc) := hN3.cell 2
  go_wp2_with fail
  refine (hout.out _ _ _ _).mono ?_
  rw [show (decide (n.mf < 0) || decide (n.sc < n.mf)) = false by rw [decide_eq_false (by have := hn.mf; omega), decide_eq_false (by have := hn.mf; omega)]; rfl]
  rintro e v5x ⟨rfl, j4, rfl⟩
  clear c4 c2
  have hN4 := hN3.call (below_drewN _ _ j4)
  have hC4' := hC3'.call (below_drewN _ _ j4)
  have hR4' := hR3'.call (below_drewN _ _ j4)
  clear hN3 hC3' hR3'
  generalize v4.drewN j4 = v5 at *
  have c5 : v5.cell? ⟨g5, 5, none⟩ = some (.int .i64 n.md) := hN4.cell 5
  go_wp2_with fail
  refine (hout.out _ _ _ _).mono ?_
  rw [show (decide (n.md < 0) || decide (6 < n.md)) = false by rw [decide_eq_false (by have := hn.md; omega), decide_eq_false (by have := hn.md; omega)]; rfl]
  rintro e v6x ⟨rfl, j5, rfl⟩
  clear c5
  have hN5 := hN4.call (below_drewN _ _ j5)
  have hC5' := hC4'.call (below_drewN _ _ j5)
  have hR5' := hR4'.call (below_drewN _ _ j5)
  clear hN4 hC4' hR4'
  generalize v5.drewN j5 = v6 at *
  have c6 : v6.cell? ⟨g5, 6, none⟩ = some (.int .i64 n.hs) := hN5.cell 6
  go_wp2_with fail
  refine (hout.out _ _ _ _).mono ?_
  rw [show (decide (n.hs < 1) || decide (1024 < n.hs)) = false by rw [decide_eq_false (by have := hn.hs; omega), decide_eq_false (by have := hn.hs; omega)]; rfl]
  rintro e v7x ⟨rfl, j6, rfl⟩
  clear c6
  have hN6 := hN5.call (below_drewN _ _ j6)
  have hC6' := hC5'.call (below_drewN _ _ j6)
  have hR6' := hR5'.call (below_drewN _ _ j6)
  clear hN5 hC5' hR5'
  generalize v6.drewN j6 = v7 at *
  have t0 : v7.cell? ⟨w.heap.size, 0, none⟩ = some (.string m) := hC6'.cell 0
  have t1 : v7.cell? ⟨w.heap.size, 1, none⟩ = some (.string x) := hC6'.cell 1
  have t2 : v7.cell? ⟨w.heap.size, 2, none⟩ = some (.string s) := hC6'.cell 2
  go_upto_region 17 with fail
  have hTx := Blk.made w v7 9 #[.string m, .string x, .string s] hR6'.later _ rfl
  have hNa := hN6.alloc (.cells #[.string m, .string x, .string s] 9)
  have hRa := hR6'.alloc (.cells #[.string m, .string x, .string s] 9)
  obtain ⟨gT, hgT⟩ : ∃ g, g = v7.heap.size := ⟨_, rfl⟩
  have hltT : g5 < gT := by rw [hgT]; exact hN6.lt
  rw [← hgT] at hTx
  rw [← hgT]
  clear t0 t1 t2 hgT hN6 hC6' hR6'
  generalize World.alloc v7 _ = u0 at *
  go_upto_region 18 with fail
  have hTxb := hTx.alloc (.cells #[.string { data := #[109, 105, 110] }, .string { data := #[109, 97, 120] }, .string { data := #[115, 116, 101, 112] }] 9)
  have hNb := hNa.alloc (.cells #[.string { data := #[109, 105, 110] }, .string { data := #[109, 97, 120] }, .string { data := #[115, 116, 101, 112] }] 9)
  have hRb := hRa.alloc (.cells #[.string { data := #[109, 105, 110] }, .string { data := #[109, 97, 120] }, .string { data := #[115, 116, 101, 112] }] 9)
  have hlu : u0.heap.size < (u0.alloc (.cells #[.string { data := #[109, 105, 110] }, .string { data := #[109, 97, 120] }, .string { data := #[115, 116, 101, 112] }] 9)).heap.size := by simp
  clear hTx hNa hRa
  generalize u0.heap.size = g7 at *
  generalize World.alloc u0 _ = u1 at *
  obtain ⟨Sf, Df, hF⟩ : ∃ (Sf : Nat → ByteArray) (Df : Nat → Dc), Hid (Df 0 = Dm ∧ Df 1 = Dx ∧ Df 2 = Ds) ∧ ∀ i, i < 3 → u1.cell? ⟨gT, i, none⟩ = some (.string (Sf i)) ∧ TextOk n (Sf i) (Df i) := by
    refine ⟨fun i => if i = 0 then m else if i = 1 then x else s, fun i => if i = 0 then Dm else if i = 1 then Dx else Ds, ⟨rfl, rfl, rfl⟩, fun i hi => ?_⟩
    have hcs : i = 0 ∨ i = 1 ∨ i = 2 := by omega
    rcases hcs with rfl | rfl | rfl
    · exact ⟨hTxb.cell 0, hm⟩
    · exact ⟨hTxb.cell 1, hx⟩
    · exact ⟨hTxb.cell 2, hs⟩
  obtain ⟨hDf, hF⟩ := hF
  have hF := Lib.hid hF
  obtain ⟨B, hBu⟩ : ∃ B, B = u1.heap.size := ⟨_, rfl⟩
  have hlB : g5 < B ∧ gT < B ∧ w.heap.size + 1 < B := by rw [hBu]; exact ⟨hNb.lt, hTxb.lt, hRb.lt⟩
  have hn' := Lib.hid hn
  have hrow := Lib.hid hrow
  have hpos := Lib.hid hpos
  clear hn hm hx hs hlu hout hltT
  go_wp2_with fail
  go_loopw [8, 9] (fun v i wr => ∃ (k : Nat) (ds : List DV4) (vv : Value), k ≤ 3 ∧ vv = v ∧ i = .int .i64 k ∧ Hid (ds.map (·.D) = (List.range k).map (fun j => trimDc (Df j))) ∧ DRow B wr v ds ∧ Blk w g5 23 #[.int .i64 n.ic, .int .i64 n.fc, .int .i64 n.sc, .int .i64 n.mi, .int .i64 n.mf, .int .i64 n.md, .int .i64 n.hs] wr ∧ Blk w (w.heap.size + 1) 48 #[.bool false, .slice none 0 0, .int .i64 0, .bool false, .slice none 0 0, .int .i64 0, .bool false, .slice none 0 0, .int .i64 0, .bool false, .int .i64 0, .int .i64 0, .int .i64 0, .int .i64 0, .int .i64 0, .int .i64 0, .int .i64 0] wr ∧ Below B u1 wr) (fun _ i _ => 3 - (intOf i).toNat)
  case atStart =>
    exact ⟨0, [], _, by omega, rfl, rfl, rfl, DRow.nil _ _, hNb, hRb, Below.refl _ _⟩
  case round =>
    obtain ⟨k, ds, vv, hk, rfl, rfl, hds, hD, hN, hR, hBr⟩ := hrel
    have hdl : ds.length = k := by have := congrArg List.length hds.out; simpa using this
    clear hNb hRb
    by_cases hlt : k < 3
    · as_aux_lemma =>
        obtain ⟨ht, hok⟩ := hF.out k hlt
        have ht' : wr.cell? ⟨gT, k, none⟩ = some (.string (Sf k)) := by rw [hBr.cell (p := ⟨gT, k, none⟩) hlB.2.1]; exact ht
        clear ht
        generalize hS : Sf k = S at *
        obtain ⟨E, hE⟩ : ∃ E, Df k = E := ⟨_, rfl⟩
        rw [hE] at hok
        have hE := Lib.hid hE
        obtain ⟨o1, o2, o3, o4, o5⟩ := hok
        have hpa := Lib.hid (fun W => show Calls Tryz.prog 25 #[.string S] W (RCE W E 0) by
          have := rcparse_any S W (by omega)
          rw [o2] at this
          exact this)
        have hft := Lib.hid (fun (A : Option Addr) (nn c : Nat) W (hW : IL W A nn c E.l) => show Calls Tryz.prog 26 #[.agg #[.int .i64 n.ic, .int .i64 n.fc, .int .i64 n.sc, .int .i64 n.mi, .int .i64 n.mf, .int .i64 n.md, .int .i64 n.hs], .agg #[.bool E.neg, .slice A nn c, .int .i64 E.s]] W (RV W (.bool true)) by
          have := rfits13_any n E W hW ⟨(mayDc_iff.1 o3).1, (mayDc_iff.1 o3).2.1, by have := (mayDc_iff.1 o3).2.2; omega⟩ (by have := hW.len; omega)
          rw [o5] at this
          exact this)
        have htr := Lib.hid (fun (A : Option Addr) (nn c : Nat) W (hW : IL W A nn c E.l) => show Calls Tryz.prog 27 #[.agg #[.bool E.neg, .slice A nn c, .int .i64 E.s]] W (RC W (trimDc E)) from
          rdtrim_any E.neg E.s W hW (I64_of_may (mayDc_iff.1 o3).1) (by have := hW.len; omega) (mayDc_iff.1 o3).2.1 (by have := (mayDc_iff.1 o3).2.2; omega))
        obtain ⟨T, hT⟩ : ∃ T, Hid (T = trimDc E) := ⟨_, rfl⟩
        rw [← hT.out] at htr
        clear o1 o2 o3 o4 o5 hF hS
        have hk3 : (k : Int) < 3 := by omega
        have hk0 : (0 : Int) ≤ (k : Int) := by omega
        go_wp2_with fail
        refine (hpa.out _).mono ?_
        rintro e a1 ⟨A1, n1, c1, rfl, hI1, hB1, _⟩
        have hE1 := Blk.made w a1 28 #[.bool E.neg, .slice A1 n1 c1, .int .i64 E.s] (hR.call hB1).later _ rfl
        have hN1 := (hN.call hB1).alloc (.cells #[.bool E.neg, .slice A1 n1 c1, .int .i64 E.s] 28)
        have hR1 := (hR.call hB1).alloc (.cells #[.bool E.neg, .slice A1 n1 c1, .int .i64 E.s] 28)
        have hI1' := hI1.alloc (.cells #[.bool E.neg, .slice A1 n1 c1, .int .i64 E.s] 28)
        have hL1 := below_from (Below.refl _ wr) (hB1.alloc hB1.size (.cells #[.bool E.neg, .slice A1 n1 c1, .int .i64 E.s] 28))
        have hD1 := hD.call hL1
        have hbs := hBr.size
        have hBr1 := hBr.trans (hL1.mono (by omega))
        clear hN hR hI1 hD hBr
        go_upto_region 23 with fail
        generalize World.alloc a1 _ = a2 at *
        have c0 : a2.cell? ⟨g5, 0, none⟩ = some (.int .i64 n.ic) := hN1.cell 0
        have c1' : a2.cell? ⟨g5, 1, none⟩ = some (.int .i64 n.fc) := hN1.cell 1
        have c2 : a2.cell? ⟨g5, 2, none⟩ = some (.int .i64 n.sc) := hN1.cell 2
        have c3 : a2.cell? ⟨g5, 3, none⟩ = some (.int .i64 n.mi) := hN1.cell 3
        have c4 : a2.cell? ⟨g5, 4, none⟩ = some (.int .i64 n.mf) := hN1.cell 4
        have c5 : a2.cell? ⟨g5, 5, none⟩ = some (.int .i64 n.md) := hN1.cell 5
        have c6 : a2.cell? ⟨g5, 6, none⟩ = some (.int .i64 n.hs) := hN1.cell 6
        obtain ⟨⟨d0, d1, d2⟩, _⟩ := hE1.cells3
        go_wp2_with fail
        refine (hft.out _ _ _ _ hI1').mono ?_
        rintro e a3 ⟨rfl, hB3⟩
        have hE3 := hE1.call hB3
        have hN3 := hN1.call hB3
        have hR3 := hR1.call hB3
        have hI3 := hI1'.below hB3
        have hD3 := hD1.call hB3
        have hbs3 := hBr1.size
        have hBr3 := hBr1.trans (hB3.mono (by omega))
        clear c0 c1' c2 c3 c4 c5 c6 d0 d1 d2 hE1 hN1 hR1 hI1' hD1 hBr1
        obtain ⟨⟨d0, d1, d2⟩, _⟩ := hE3.cells3
        go_wp2_with fail
        refine (htr.out _ _ _ _ hI3).mono ?_
        rintro e a4 ⟨A4, n4, c4, rfl, hI4, hB4, hN4⟩
        have hbs4 := hBr3.size
        have hX := Blk.made w a4 28 #[.bool T.neg, .slice A4 n4 c4, .int .i64 T.s] (hR3.call hB4).later _ rfl
        have hL4 := (hB4.alloc hB4.size (.cells #[.bool T.neg, .slice A4 n4 c4, .int .i64 T.s] 28))
        have hN5 := hN3.call hL4
        have hR5 := hR3.call hL4
        have hD5 := hD3.call hL4
        have hBr5 := hBr3.trans (hL4.mono (by omega))
        have hI5 := hI4.alloc (.cells #[.bool T.neg, .slice A4 n4 c4, .int .i64 T.s] 28)
        have hlt4 := hB4.size
        have hrw : ∀ kk, vv.ownBlock = some kk → kk < a3.heap.size := fun kk hkk => (hD3.own.lt kk hkk).2
        clear d0 d1 d2 hE3 hN3 hR3 hI3 hD3 hBr3 hI4
        go_wp2_with (refine wpList_append_D ⟨T, A4, n4, c4⟩ hD5 hX hI5 (fun hz a ha => ⟨by have := hN4 hz a ha; omega, fun e => by have := hN4 hz a ha; have := hrw _ e.symm; omega⟩) (by simp; omega) (by omega) rfl rfl rfl rfl ?_; intro v' W' hD' hW'; go_simp)
        go_roundw
        case rel =>
          refine ⟨k + 1, ds ++ [⟨T, A4, n4, c4⟩], _, by omega, rfl, by go_num, ?_, hD', hN5.under hlB.1 hW', hR5.under hlB.2.2 hW', hBr5.trans hW'⟩
          rw [Hid, List.map_append, hds.out, List.range_succ, List.map_append, hT.out, ← hE.out]
          rfl
        case measure => simp [intOf]; omega
    · as_aux_lemma =>
        have hk3 : k = 3 := by omega
        subst hk3
        have hi3 : ¬ ((3 : Nat) : Int) < 3 := by omega
        obtain ⟨a, b, c, rfl⟩ : ∃ a b c, ds = [a, b, c] := by
          match ds, hdl with
          | [a, b, c], _ => exact ⟨a, b, c, rfl⟩
        have e3 : a.D = trimDc Dm ∧ b.D = trimDc Dx ∧ c.D = trimDc Ds := by
          have q := hds.out
          obtain ⟨q0, q1, q2⟩ := hDf.out
          have : List.range 3 = [0, 1, 2] := rfl
          rw [this] at q
          simp only [List.map_cons, List.map_nil, q0, q1, q2, List.cons.injEq, and_true] at q
          exact q
        obtain ⟨ea, eb, ec⟩ := e3
        have pa := hF.out 0 (by omega)
        have pb := hF.out 1 (by omega)
        have pc := hF.out 2 (by omega)
        obtain ⟨q0, q1, q2⟩ := hDf.out
        rw [q0] at pa; rw [q1] at pb; rw [q2] at pc
        have m1 : mayDc a.D = true ∧ a.D.l.length ≤ 2000 := by rw [ea]; exact ⟨mayDc_trim pa.2.2.2.1, Nat.le_trans (trimDc_len Dm) pa.2.2.2.2.1⟩
        have m2 : mayDc b.D = true ∧ b.D.l.length ≤ 2000 := by rw [eb]; exact ⟨mayDc_trim pb.2.2.2.1, Nat.le_trans (trimDc_len Dx) pb.2.2.2.2.1⟩
        have m3 : mayDc c.D = true ∧ c.D.l.length ≤ 2000 := by rw [ec]; exact ⟨mayDc_trim pc.2.2.2.1, Nat.le_trans (trimDc_len Ds) pc.2.2.2.2.1⟩
        have hp : 0 < cmpDc c.D Dc.zero := by rw [ec]; exact hpos.out
        have hr : ¬ 0 < cmpDc a.D b.D := by rw [ea, eb]; have := hrow.out; omega
        have hRU : Hid (ruOf n Dm Dx Ds = ⟨a.D, b.D, c.D, a.D.neg, n⟩) := by rw [ea, eb, ec]; rfl
        generalize ruOf n Dm Dx Ds = RU at *
        have iL := Lib.hid hD.il
        obtain ⟨g, cap, cur, rfl, hcap, hgB, hh, x0, x1, x2, x3, x4, x5, x6, x7, x8⟩ := hD.three
        have cl : ∀ (W : World) (j : Nat) (u : Value), W.heap[g]? = some (.cells cur 28 (0, 0)) → cur[j]? = some u → W.cell? ⟨g, j, none⟩ = some u := fun W j u h1 h2 => by rw [cell_of_row W g j _ _ (0, 0) h1]; exact h2
        have cl := Lib.hid cl
        have hgl : g < wr.heap.size := (Array.getElem?_eq_some_iff.1 hh).1
        have X := Lib.hid (⟨x0, x1, x2, x3, x4, x5, x6, x7, x8⟩ : _ ∧ _ ∧ _ ∧ _ ∧ _ ∧ _ ∧ _ ∧ _ ∧ _)
        have hcm1 := Lib.hid (fun W (hW : IL W c.A c.n c.c c.D.l) => show Calls Tryz.prog 17 #[.agg #[.bool c.D.neg, .slice c.A c.n c.c, .int .i64 c.D.s], .agg #[.bool false, .slice none 0 0, .int .i64 0]] W (RV W (.int .i64 (cmpDc c.D Dc.zero))) from
          rccompare_any _ _ _ _ W hW (IL.nil W) (mayDc_iff.1 m3.1).1 rfl (by have := hW.len; omega) (by omega) (mayDc_iff.1 m3.1).2.1 (by have := (mayDc_iff.1 m3.1).2.2; omega) (by omega) (by omega))
        have hcm2 := Lib.hid (fun W (hW : IL W a.A a.n a.c a.D.l) (hW2 : IL W b.A b.n b.c b.D.l) => show Calls Tryz.prog 17 #[.agg #[.bool a.D.neg, .slice a.A a.n a.c, .int .i64 a.D.s], .agg #[.bool b.D.neg, .slice b.A b.n b.c, .int .i64 b.D.s]] W (RV W (.int .i64 (cmpDc a.D b.D))) from
          rccompare_any _ _ _ _ W hW hW2 (mayDc_iff.1 m1.1).1 (mayDc_iff.1 m2.1).1 (by have := hW.len; omega) (by have := hW2.len; omega) (mayDc_iff.1 m1.1).2.1 (by have := (mayDc_iff.1 m1.1).2.2; omega) (mayDc_iff.1 m2.1).2.1 (by have := (mayDc_iff.1 m2.1).2.2; omega))
        clear m1 m2 m3 pa pb pc q0 q1 q2 ea eb ec hrow hpos hds hF hDf hdl hk hlt hD x0 x1 x2 x3 x4 x5 x6 x7 x8
        generalize cmpDc c.D Dc.zero = q1 at *
        generalize cmpDc a.D b.D = q2 at *
        have k6 := cl.out wr 6 _ hh X.out.2.2.2.2.2.2.1
        have k7 := cl.out wr 7 _ hh X.out.2.2.2.2.2.2.2.1
        have k8 := cl.out wr 8 _ hh X.out.2.2.2.2.2.2.2.2
        go_wp2_with fail
        refine (hcm1.out _ (iL.out c (by simp)).1).mono ?_
        rintro e b1 ⟨rfl, hB1⟩
        clear k6 k7 k8 hcm1
        have hh1 : b1.heap[g]? = some (.cells cur 28 (0, 0)) := (hB1.block g hgl).trans hh
        have hN1 := hN.call hB1
        have hR1 := hR.call hB1
        have ha1 := (iL.out a (by simp)).1.below hB1
        have hb1 := (iL.out b (by simp)).1.below hB1
        have hc1 := (iL.out c (by simp)).1.below hB1
        clear hN hR hh
        go_upto_region 31 with fail
        have k0 := fun o : Ext b1 => Ext.cell (cl.out b1 0 _ hh1 X.out.1) o
        have k1 := fun o : Ext b1 => Ext.cell (cl.out b1 1 _ hh1 X.out.2.1) o
        have k2 := fun o : Ext b1 => Ext.cell (cl.out b1 2 _ hh1 X.out.2.2.1) o
        have k3 := fun o : Ext b1 => Ext.cell (cl.out b1 3 _ hh1 X.out.2.2.2.1) o
        have k4 := fun o : Ext b1 => Ext.cell (cl.out b1 4 _ hh1 X.out.2.2.2.2.1) o
        have k5 := fun o : Ext b1 => Ext.cell (cl.out b1 5 _ hh1 X.out.2.2.2.2.2.1) o
        refine wp_region_ext (by kernel_rfl) (by kernel_rfl) ?_
        repeat (quiet_step (first | (go_at_call 17; exact quiet_ext _ (hcm2.out _ (ha1.ext _) (hb1.ext _)))))
        refine wpQuiet_nil ?_
        rintro _ ⟨s1, rfl⟩
        have hh2 : s1.world.heap[g]? = some (.cells cur 28 (0, 0)) := (s1.h.block g (by have := hB1.size; omega)).trans hh1
        have hN2 := hN1.call s1.h
        have hR2 := hR1.call s1.h
        have ha2 := ha1.ext s1
        have hb2 := hb1.ext s1
        have hc2 := hc1.ext s1
        clear k0 k1 k2 k3 k4 k5 hN1 hR1 ha1 hb1 hc1 hh1 hcm2
        have hcl3 := Nat.le_trans hB1.size s1.h.size
        generalize s1.world = b2 at *
        go_upto_region 33 with fail
        refine wp_tail 15 (by kernel_rfl) (by kernel_rfl) ?_
        intro b3 hb3
        have hh3 : b3.heap[g]? = some (.cells cur 28 (0, 0)) := by rw [hb3]; exact hh2
        have hN3 : Blk w g5 23 #[.int .i64 n.ic, .int .i64 n.fc, .int .i64 n.sc, .int .i64 n.mi, .int .i64 n.mf, .int .i64 n.md, .int .i64 n.hs] b3 := by rw [hb3]; exact hN2.drew
        have hR3 : Blk w (w.heap.size + 1) 48 #[.bool false, .slice none 0 0, .int .i64 0, .bool false, .slice none 0 0, .int .i64 0, .bool false, .slice none 0 0, .int .i64 0, .bool false, .int .i64 0, .int .i64 0, .int .i64 0, .int .i64 0, .int .i64 0, .int .i64 0, .int .i64 0] b3 := by rw [hb3]; exact hR2.drew
        have ha3 : IL b3 a.A a.n a.c a.D.l := by rw [hb3]; exact ha2.drew
        have hc3 : IL b3 b.A b.n b.c b.D.l := by rw [hb3]; exact hb2.drew
        have hd3 : IL b3 c.A c.n c.c c.D.l := by rw [hb3]; exact hc2.drew
        have hsz : b3.heap.size = b2.heap.size := by rw [hb3]; rfl
        clear hb3 hh2 hN2 hR2 ha2 hb2 hc2
        have k0 := cl.out b3 0 _ hh3 X.out.1
        have k1 := cl.out b3 1 _ hh3 X.out.2.1
        have k2 := cl.out b3 2 _ hh3 X.out.2.2.1
        have k3 := cl.out b3 3 _ hh3 X.out.2.2.2.1
        have k4 := cl.out b3 4 _ hh3 X.out.2.2.2.2.1
        have k5 := cl.out b3 5 _ hh3 X.out.2.2.2.2.2.1
        have k6 := cl.out b3 6 _ hh3 X.out.2.2.2.2.2.2.1
        have k7 := cl.out b3 7 _ hh3 X.out.2.2.2.2.2.2.2.1
        have k8 := cl.out b3 8 _ hh3 X.out.2.2.2.2.2.2.2.2
        have l0 : b3.cell? ⟨g5, 0, none⟩ = some (.int .i64 n.ic) := hN3.cell 0
        have l1 : b3.cell? ⟨g5, 1, none⟩ = some (.int .i64 n.fc) := hN3.cell 1
        have l2 : b3.cell? ⟨g5, 2, none⟩ = some (.int .i64 n.sc) := hN3.cell 2
        have l3 : b3.cell? ⟨g5, 3, none⟩ = some (.int .i64 n.mi) := hN3.cell 3
        have l4 : b3.cell? ⟨g5, 4, none⟩ = some (.int .i64 n.mf) := hN3.cell 4
        have l5 : b3.cell? ⟨g5, 5, none⟩ = some (.int .i64 n.md) := hN3.cell 5
        have l6 : b3.cell? ⟨g5, 6, none⟩ = some (.int .i64 n.hs) := hN3.cell 6
        simp only [List.take_succ_cons, List.take_zero, List.drop_succ_cons, List.drop_zero]
        iterate 14 still_step
        obtain ⟨Y, hY⟩ : ∃ Y : RuV, Hid (Y = ⟨⟨a.D, b.D, c.D, a.D.neg, n⟩, a.A, a.n, a.c, b.A, b.n, b.c, c.A, c.n, c.c⟩) := ⟨_, rfl⟩
        refine wpStill_build _ Y.cs rfl rfl ?_ (built_rules13 Y) ?_
        · rw [hY.out]; rfl
        refine wpStill_nil ?_
        clear k0 k1 k2 k3 k4 k5 k6 k7 k8 l0 l1 l2 l3 l4 l5 l6
        go_simp
        go_wp2_with (refine wpList_store_blk hR3 row_rules13 rfl rfl rfl rfl rfl rfl (by rw [hY.out]; kernel_rfl) ?_; intro w9 hR9 hS9; go_simp)
        have nE : ∀ d ∈ [a, b, c], 0 < d.n → ∀ p, d.A = some p → p.block ≠ w.heap.size + 1 := fun d hd hz p hp => by
          have := ((iL.out d hd).2 hz p hp).1
          omega
        have fE : ∀ d ∈ [a, b, c], IL b3 d.A d.n d.c d.D.l → 0 < d.n → ∀ p, d.A = some p → w.heap.size ≤ p.block ∧ p.block ≠ w9.heap.size := fun d hd hI hz p hp => by
          have := ((iL.out d hd).2 hz p hp).1
          exact ⟨by omega, by rw [hS9.size]; exact hI.apart (Nat.le_refl _) hz p hp⟩
        refine bodyPost_ret (results_ctt hR9 row_rules13 rfl Tryz.results10 rfl rfl rfl) rfl ⟨Y, rfl, by rw [hY.out, hRU.out], ?_, hS9.below hR3.later (by omega), ?_⟩
        · rw [hY.out]
          exact ⟨hS9.il ha3 (nE a (by simp)), hS9.il hc3 (nE b (by simp)), hS9.il hd3 (nE c (by simp))⟩
        · rw [hY.out]
          exact ⟨fE a (by simp) ha3, fE b (by simp) hc3, fE c (by simp) hd3⟩

end Go.Proofs.YtjinbhnpcdlkiaaGreatDoor


namespace Go.Proofs.YtjinbhnpcdlkiaaGreatDoor
open Go.RowKit

theorem textL_wide {l : List Int} (h : mayL l = true) (k : Nat) : textL (wideL l k) = List.replicate (k - l.length) 48 ++ textL l := by
  rw [textL_may (mayL_wide h k), textL_may h]
  unfold wideL
  rw [List.map_append, List.map_replicate]
  rfl
def szOf : Value → Nat
  | .string x => x.size
  | _ => 0
set_option maxHeartbeats 4000000 in
theorem rprint_any {A : Option Addr} {n c : Nat} {l : List Int} (b : Bool) (s : Int) (w : World) (h : IL w A n c l) (hn : n ≤ 10000) (hs : -9223372036854775808 ≤ s ∧ s ≤ 9223372036854775807) :
    Calls Tryz.prog 18 #[.agg #[.bool b, .slice A n c, .int .i64 s]] w (RV w (.string (bs (printL ⟨b, l, s⟩)))) := by
  have hmay := Lib.hid (fun W hW => rcmay_any (A := A) (n := n) (c := c) (l := l) b s W hW hs)
  have hX0 := Blk.made w w 28 #[.bool b, .slice A n c, .int .i64 s] (Later.refl w) _ rfl
  have hlen := h.len
  obtain ⟨P, hP⟩ : ∃ P, printL ⟨b, l, s⟩ = P := ⟨_, rfl⟩
  have hPR : Hid (P = if mayDc ⟨b, l, s⟩ then (if b then [45] else []) ++ cutL (textL (wideL l (s.toNat + 1))) s.toNat else []) := by rw [Hid, ← hP]; rfl
  rw [hP]
  clear hP
  cases hmd : mayDc ⟨b, l, s⟩
  · have HP : Hid (P = []) := by rw [Hid, hPR.out, hmd]; rfl
    rw [hmd] at hmay
    clear hPR hmd
    go_enter Tryz.func18, Tryz.ntmps18
    go_wp2_with fail
    refine (hmay.out _ (h.alloc _)).mono ?_
    rintro e w1 ⟨rfl, hB1⟩
    go_wp2_with fail
    go_ret
    exact ⟨by rw [HP.out]; rfl, (hX0.call hB1).later⟩
  · rw [hmd] at hmay
    obtain ⟨hml, hs0, hs1⟩ := mayDc_iff.1 hmd
    simp only at hml hs0 hs1
    obtain ⟨s', rfl⟩ := Int.eq_ofNat_of_zero_le hs0
    have hwl := wideL_len l (s' + 1)
    have hti := Lib.hid (fun A n c W (hW : IL W A n c l) hn => rtext_any A n c l W hW hn)
    have hmw := mayL_wide hml (s' + 1)
    have htl := textL_length hmw
    have htx : Hid (textL (wideL l (s' + 1)) = List.replicate (s' + 1 - n) 48 ++ textL l) := by rw [Hid, textL_wide hml, hlen]
    have ht0 : (textL l).length = n := by rw [textL_length hml]; exact hlen
    have HP : Hid (P = (if b then [45] else []) ++ cutL (textL (wideL l (s' + 1))) s') := by rw [Hid, hPR.out, hmd]; rfl
    have hwb : (wideL l (s' + 1)).length ≤ 20000 := by omega
    have hs' : s' ≤ 1000 := by omega
    generalize hyy : wideL l (s' + 1) = y at *
    clear hyy
    obtain ⟨a, ha⟩ : ∃ a, (textL y).length = a + s' := ⟨(textL y).length - s', by omega⟩
    have hab : a + s' ≤ 20000 := by omega
    generalize textL l = t0 at *
    generalize textL y = t at *
    have e1 : Hid ((bs t).extract 0 a = bs (t.take a)) := by rw [Hid, bs_extract]; simp
    have e2 : Hid ((bs t).extract a (a + s') = bs (t.drop a)) := by rw [Hid, bs_extract, List.take_of_length_le (by simp; omega)]
    have hcut : 0 < s' → Hid (cutL t s' = t.take a ++ (46 :: t.drop a)) := fun q => by rw [Hid, cutL, if_pos q, ha, Nat.add_sub_cancel]
    have hcut0 : s' = 0 → Hid (cutL t s' = t) := fun q => by rw [Hid, cutL, if_neg (by omega)]
    have hsz : (bs t).size = a + s' := by rw [bs_size]; exact ha
    have HSZ := Lib.hid hsz
    have z1 : ((bs t).extract 0 a).size = a := by rw [ByteArray.size_extract, hsz]; omega
    have z2 : ((bs t).extract a (a + s')).size = s' := by rw [ByteArray.size_extract, hsz]; omega
    generalize hT : bs t = T at *
    have HT := Lib.hid hT
    clear hT hmd hPR ha
    have hT0 : ∀ j, (bs (List.replicate j 48 ++ t0)).size = j + n := fun j => by rw [bs_size, List.length_append, List.length_replicate, ht0]
    have HTX : Hid (bs (List.replicate (s' + 1 - n) 48 ++ t0) = T) := by rw [Hid, ← htx.out]; exact HT.out
    have happ : ∀ j, Hid (({ data := #[48] } : ByteArray) ++ bs (List.replicate j 48 ++ t0) = bs (List.replicate (j + 1) 48 ++ t0)) := fun j => by
      rw [Hid, show ({ data := #[48] } : ByteArray) = bs [48] from rfl, bs_append, List.replicate_succ]; rfl
    go_enter Tryz.func18, Tryz.ntmps18
    go_wp2_with fail
    refine (hmay.out _ (h.alloc _)).mono ?_
    rintro e w1 ⟨rfl, hB1⟩
    have hX1 := hX0.call hB1
    obtain ⟨⟨q0, q1, q2⟩, _⟩ := hX1.cells3
    go_wp2_with fail
    refine (hti.out _ _ _ _ (h.later hX1.later) (by omega)).mono ?_
    rintro e w2 ⟨rfl, hB2⟩
    have hX2 := hX1.call hB2
    clear q0 q1 q2 hX1 hX0 hB1 hB2 hti hmay
    obtain ⟨⟨q0, q1, q2⟩, _⟩ := hX2.cells3
    go_wp2_with fail
    go_loopw [4] (fun v wr => ∃ j : Nat, j ≤ s' + 1 - n ∧ v = .string (bs (List.replicate j 48 ++ t0)) ∧ wr = w2) (fun v _ => s' + 1 - szOf v)
    case atStart => exact ⟨0, Nat.zero_le _, rfl, rfl⟩
    case round =>
      obtain ⟨j, hj, rfl, rfl⟩ := hrel
      have hz0 := hT0 j
      have hz1 := hT0 (j + 1)
      have hap := happ j
      by_cases hlt : j + n < s' + 1
      · generalize bs (List.replicate j 48 ++ t0) = U at *
        generalize hU2 : bs (List.replicate (j + 1) 48 ++ t0) = U2 at *
        have hlt2 : ((U.size : Nat) : Int) < (s' : Int) + 1 := by omega
        go_wp2_with fail
        go_roundw
        case rel => exact ⟨j + 1, by omega, by rw [hap.out, hU2], trivial⟩
        case measure =>
          simp only [szOf]
          rw [hap.out]
          omega
      have hjn : j = s' + 1 - n := by omega
      subst hjn
      clear hap hz1 happ hT0
      rw [HTX.out] at hz0 ⊢
      have hnlt : ¬ ((T.size : Nat) : Int) < (s' : Int) + 1 := by omega
      have hwr : ((T.size : Nat) : Int) - (s' : Int) = (a : Int) := by omega
      clear HTX htx ht0 hj hlt hz0
      rcases Nat.eq_zero_or_pos s' with hz | hz
      · have HP2 : Hid (bs P = bs (if b then [45] else []) ++ T) := by rw [Hid, HP.out, (hcut0 hz).out, ← bs_append, HT.out]
        have hz' : ¬ 0 < s' := by omega
        clear hcut hcut0 hz
        cases b
        all_goals
          go_wp2_with fail
          go_ret
          exact ⟨by rw [HP2.out]; first | rfl | (simp [bs_nil]; done), hX2.later⟩
      · have HP2 : Hid (bs P = if b then bs [45] ++ (T.extract 0 a ++ (bs [46] ++ T.extract a (a + s'))) else T.extract 0 a ++ (bs [46] ++ T.extract a (a + s'))) := by
          rw [Hid, HP.out, (hcut hz).out, e1.out, e2.out, bs_append, bs_append, bs_append]
          cases b <;> rfl
        have k1 : (({ data := #[46] } : ByteArray)).size = 1 := rfl
        have q5 : (T.extract 0 a ++ ({ data := #[46] } : ByteArray)).size = a + 1 := by rw [ByteArray.size_append, k1, z1]
        have q6 : (T.extract 0 a ++ ({ data := #[46] } : ByteArray) ++ T.extract a (a + s')).size = a + 1 + s' := by rw [ByteArray.size_append, q5, z2]
        have q7 : (T.extract 0 a ++ (({ data := #[46] } : ByteArray) ++ T.extract a (a + s'))).size = a + 1 + s' := by rw [ByteArray.size_append, ByteArray.size_append, k1, z1, z2]; omega
        clear hcut hcut0
        cases b
        all_goals
          go_wp2_with fail
          go_region
          all_goals
            go_wp2_with fail
            go_ret
            exact ⟨by rw [HP2.out]; first | rfl | (simp [bs, ByteArray.append_assoc]; done), hX2.later.drew⟩

end Go.Proofs.YtjinbhnpcdlkiaaGreatDoor

