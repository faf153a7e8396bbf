/- The walk of the program's Move: a number some steps farther. No condition. -/
import Derived.Test.YtjinbhnpcdlkiaaGreatDoorMa24
import Derived.Lib.AppendIntMem
import Derived.Test.YtjinbhnpcdlkiaaGreatDoorMa22
import Derived.ChangeSame
import Derived.ChangeVars
import Derived.JoinedOf
import Derived.LaidLaws
import Derived.LaidHandle
import Derived.LaidSub
import Derived.Test.YtjinbhnpcdlkiaaGreatDoorMa18
import Derived.Test.YtjinbhnpcdlkiaaGreatDoorMa08
import Derived.Test.YtjinbhnpcdlkiaaGreatDoorMa09
namespace Go.Proofs.YtjinbhnpcdlkiaaGreatDoor
open Go.RowKit

/-- What a call hands back that makes a list of texts of its own. -/
def RS (w : World) (ss : List ByteArray) (e : Ending) (w' : World) : Prop := ∃ A n c, e = .returned (.slice A n c) ∧ SO w' w.heap.size A n c ss ∧ Below w.heap.size w w'

set_option maxHeartbeats 1000000 in
theorem path_any (c : Int) (v0 : Value) (ws : List ByteArray) (B : Nat) (w : World) (hG : Gl w) (hC : Ch w ws B c v0) (hB : B ≤ w.heap.size) (hL : ws.length ≤ 1000) :
    Calls Tryz.prog 14 #[v0] w (RS w ws) := by
  have hlt := hG.some_
  have hb1 : Below w.heap.size w (w.alloc (.cells #[.pointer none] 81)) := (Below.refl _ _).alloc (Nat.le_refl _) _
  go_enter Tryz.func14, Tryz.ntmps14
  go_wp2
  go_loopw [0, 3] (fun v o wr => ∃ (k : Nat) (ws' : List ByteArray) (B' : Nat) (A : Option Addr) (c' : Nat) (x : Value), k + ws'.length = ws.length ∧ ws' = ws.drop k ∧ B' ≤ w.heap.size ∧ Ch wr ws' B' c v ∧ o = .slice A k c' ∧
      SO wr (w.heap.size + 1) A k c' (ws.take k) ∧ (∀ a, A = some a → w.heap.size + 1 ≤ a.block) ∧ wr.heap[w.heap.size]? = some (.cells #[x] 81 (0, 0)) ∧ Below w.heap.size w wr)
    (fun v _ _ => depthV v)
  case atStart =>
    exact ⟨0, ws, B, none, 0, .pointer none, by omega, rfl, hB, hC.below hb1 hB, rfl, by unfold SO; simpa using OV.nil _ _ _, (fun a h => by cases h), heap_alloc_new _ _, hb1⟩
  case round =>
    obtain ⟨k, ws', B', A, c', x, hk, hws, hB', hCh, rfl, hO, hA, hg, hb⟩ := hrel
    have hsz : w.heap.size < wr.heap.size := (Array.getElem?_eq_some_iff.1 hg).1
    have hG' := hG.below hb
    cases ws' with
    | nil =>
      obtain rfl := hCh
      have hkl : k = ws.length := by simpa using hk
      have htk : ws.take k = ws := List.take_of_length_le (by omega)
      go_wp2_with (go_at_call 28; refine (as_FE c w.heap.size x _ hG'.et hg).mono ?_; rintro e w' ⟨rfl, hb2⟩)
      go_ret
      exact ⟨A, _, c', rfl, by rw [htk, hkl] at hO; exact (OV.below hO hb2).mono (by omega), hb.trans (hb2.mono (by omega))⟩
    | cons s r =>
      obtain ⟨p, u, hp, rfl, hh, hr⟩ := hCh
      have hd := hr.depth
      obtain ⟨tu, yu, rfl⟩ := hr.iface
      have hkl : k + r.length + 1 = ws.length := by simpa [Nat.add_assoc] using hk
      have hst : ws.take (k + 1) = ws.take k ++ [s] := by
        have h1 : ws[k]? = some s := by
          have := congrArg (·[0]?) hws
          simpa using this.symm
        rw [List.take_add_one, h1]
        rfl
      have hdr : r = ws.drop (k + 1) := by
        have := congrArg List.tail hws
        simpa using this
      go_wp2_with (first
        | (go_at_call 28; refine (as_F ⟨p, 0, none⟩ w.heap.size x _ hG'.et hg).mono ?_; rintro e w' ⟨rfl, hg2, hcell⟩
           have hs2 := hg2.size
           have hO2 : SO w' (w.heap.size + 1) A k c' (ws.take k) := OV.grown hO hg2 (by intro a ha he; injection he with he; have := hA a ha; omega)
           have hh2 : w'.heap[p]? = some (.cells #[.string s, .iface tu yu] 84 (0, 0)) := (hg2.block p (by omega) (by intro e; injection e with e; omega)).trans hh
           have hr2 : Ch w' r p c (.iface tu yu) := hr.grown hg2 (by omega) (by omega)
           have hb2 : Below w.heap.size w w' := hb.grown hg2 (by omega) (by intro k e; injection e with e; omega)
           have c1 : w'.cell? ⟨w.heap.size, 0, none⟩ = some (.pointer (some ⟨p, 0, none⟩)) := by (rw [cell_of_row w' _ 0 _ _ (0, 0) hcell]; rfl)
           have c2 : w'.cell? ⟨p, 0, none⟩ = some (.string s) := by (rw [cell_of_row w' _ 0 _ _ (0, 0) hh2]; rfl))
        | (at_builtin; refine wpList_append_SO (w.heap.size + 1) rfl _ _ rfl rfl rfl (OV.alloc hO2 _) (SL.one _ _ _) (by simp; omega) (by omega) ?_; intro A2 c2' w2 hO3 hb3 hg3
           have hb4 : Below (w.heap.size + 1) w' w2 := ((Below.refl _ _).alloc (by omega) _).trans hb3
           have c3 : w2.cell? ⟨w.heap.size, 0, none⟩ = some (.pointer (some ⟨p, 0, none⟩)) := (hb4.cell (show w.heap.size < w.heap.size + 1 by omega)).trans c1
           have hh3 : w2.heap[p]? = some (.cells #[.string s, .iface tu yu] 84 (0, 0)) := (hb4.block p (by omega)).trans hh2
           have c4 : w2.cell? ⟨p, 1, none⟩ = some (.iface tu yu) := by (rw [cell_of_row w2 _ 1 _ _ (0, 0) hh3]; rfl)))
      go_roundw
      case rel =>
        refine ⟨k + 1, r, p, A2, c2', .pointer (some ⟨p, 0, none⟩), by omega, hdr, by omega, hr2.below hb4 (by omega), rfl, by rw [hst]; exact hO3, ?_, (hb4.block _ (by omega)).trans hcell, hb2.trans (hb4.mono (by omega))⟩
        intro a ha
        obtain ⟨a2, e2, h2⟩ := OV.new hO3 (by omega)
        rw [e2] at ha
        injection ha with ha
        rw [← ha]
        exact h2
      case measure => exact Nat.lt_succ_of_le hd
theorem path_nil (w : World) : Calls Tryz.prog 14 #[.nilIface] w fun e w' => e = .returned (.slice none 0 0) ∧ Below w.heap.size w w' := by
  have hb1 : Below w.heap.size w (w.alloc (.cells #[.pointer none] 81)) := (Below.refl _ _).alloc (Nat.le_refl _) _
  go_enter Tryz.func14, Tryz.ntmps14
  go_wp2
  refine wp_loop_rounds 1 ?_
  rw [rounds_succ]
  go_wp2_with (go_at_call 28; refine (as_nil _ _).mono ?_; rintro e w' ⟨rfl, rfl⟩)
  go_ret
  exact ⟨rfl, hb1⟩
end Go.Proofs.YtjinbhnpcdlkiaaGreatDoor


namespace Go.Proofs.YtjinbhnpcdlkiaaGreatDoor
open Go.RowKit

theorem str_ne {s t : ByteArray} (h : s ≠ t) : (s.toList == t.toList) = false := by
  rw [beq_eq_false_iff_ne]
  intro hh
  rw [ByteArray.toList_eq, ByteArray.toList_eq] at hh
  exact h (ByteArray.ext (Array.toList_inj.1 hh))
theorem SL.at_ {w : World} {A : Option Addr} {n c k : Nat} {ss : List ByteArray} (h : SL w A n c ss) (hk : k < n) : ∃ b off, A = some ⟨b, off, none⟩ ∧ w.cell? ⟨b, off + k, none⟩ = some (.string (ss.getD k ⟨#[]⟩)) := by
  obtain ⟨b, off, v, e, hv, hc⟩ := VL.at_ h hk
  have hl := h.len
  refine ⟨b, off, e, ?_⟩
  rw [hc, ← hv]
  simp [List.getD, List.getElem?_eq_getElem (show k < ss.length by omega)]
theorem strs_from {a b : List ByteArray} {k : Nat} (ha : k < a.length) (hb : k < b.length) : decide (a.drop k = b.drop k) = (decide (a.getD k ⟨#[]⟩ = b.getD k ⟨#[]⟩) && decide (a.drop (k + 1) = b.drop (k + 1))) := by
  simp only [List.getD, List.getElem?_eq_getElem ha, List.getElem?_eq_getElem hb, Option.getD_some]
  rw [List.drop_eq_getElem_cons ha, List.drop_eq_getElem_cons hb]
  simp only [List.cons.injEq, Bool.decide_and]

set_option maxHeartbeats 1000000 in
theorem texts_any (A : Option Addr) (n c : Nat) (l : List ByteArray) (A2 : Option Addr) (n2 c2 : Nat) (l2 : List ByteArray) (w : World) (h : SL w A n c l) (h2 : SL w A2 n2 c2 l2) :
    Calls Tryz.prog 13 #[.slice A n c, .slice A2 n2 c2] w (RQ w (.bool (decide (l = l2)))) := by
  have hle := VL.le h
  have hcap := VL.cap h
  have hle2 := VL.le h2
  have hcap2 := VL.cap h2
  have hlen := Lib.hid h.len
  have hlen2 := Lib.hid h2.len
  by_cases hn : n = n2
  · subst hn
    go_enter Tryz.func13, Tryz.ntmps13
    go_wp2
    go_loopw [5] (fun i wr => ∃ k j : Nat, k ≤ n ∧ i = .int .i64 k ∧ Hid (decide (l = l2) = decide (l.drop k = l2.drop k)) ∧ wr = w.drewN j) (fun i _ => n - (intOf i).toNat)
    case atStart => exact ⟨0, 0, Nat.zero_le _, rfl, rfl, rfl⟩
    case round =>
      obtain ⟨k, j, hk, rfl, hI, rfl⟩ := hrel
      by_cases hlt : k < n
      · obtain ⟨b, off, rfl, hc⟩ := h.at_ hlt
        obtain ⟨b2, off2, rfl, hc2⟩ := h2.at_ hlt
        have hst := Lib.hid (strs_from (a := l) (b := l2) (k := k) (by rw [hlen.out]; exact hlt) (by rw [hlen2.out]; exact hlt))
        generalize l.getD k ⟨#[]⟩ = x at *
        generalize l2.getD k ⟨#[]⟩ = y at *
        have hlt' : (k : Int) < (n : Int) := by omega
        have hk0 : (0 : Int) ≤ (k : Int) := by omega
        by_cases hxy : x = y
        · have hxx : Hid (decide (x = y) = true) := by simpa [Hid] using hxy
          have hne : (x.toList == y.toList) = true := by rw [hxy]; exact beq_self_eq_true _
          clear hxy
          go_wp2
          go_quiet (fail)
          go_wp2
          go_roundw
          case rel => exact ⟨k + 1, _, by omega, by go_num, by rw [Hid, hI.out, hst.out, hxx.out]; rfl, by first | rfl | exact World.drewN_drewN _ _ _⟩
          case measure => simp [intOf]; omega
        · have hxx : Hid (decide (x = y) = false) := by simpa [Hid] using hxy
          have hne : (x.toList == y.toList) = false := str_ne hxy
          clear hxy
          go_wp2
          go_quiet (fail)
          go_wp2
          go_ret
          exact ⟨ret_bool (by rw [hI.out, hst.out, hxx.out]; rfl), _, by first | rfl | exact World.drewN_drewN _ _ _⟩
      · have hkn : k = n := by omega
        subst hkn
        go_wp2
        go_ret
        exact ⟨ret_bool (by rw [hI.out, List.drop_of_length_le (by rw [hlen.out]; omega), List.drop_of_length_le (by rw [hlen2.out]; omega)]; rfl), j, rfl⟩
  · have e1 : decide (l = l2) = false := decide_eq_false fun he => hn (by rw [← hlen.out, ← hlen2.out, he])
    have E1 := Lib.hid e1
    clear e1
    go_enter Tryz.func13, Tryz.ntmps13
    go_wp2
    go_ret
    exact ⟨ret_bool (by rw [E1.out]), 0, rfl⟩

def fewB (s : ByteArray) (m : Nat) : ByteArray := if m < s.size then s.extract 0 m else s
theorem fewB_size (s : ByteArray) (m : Nat) : (fewB s m).size ≤ m := by
  unfold fewB
  split
  · rw [ByteArray.size_extract]; omega
  · omega
theorem few_any (s : ByteArray) (m : Nat) (w : World) (hm : m ≤ 1000000) :
    Calls Tryz.prog 4 #[.string s, .int .i64 (m : Int)] w fun e w' => e = .returned (.string (fewB s m)) ∧ w' = w := by
  by_cases h : m < s.size
  · have hr : Hid (fewB s m = s.extract 0 m) := by unfold Hid fewB; rw [if_pos h]
    go_enter Tryz.func4, Tryz.ntmps4
    go_wp2
    go_ret
    exact ⟨by rw [hr.out]; rfl, rfl⟩
  · have hr : Hid (fewB s m = s) := by unfold Hid fewB; rw [if_neg h]
    go_enter Tryz.func4, Tryz.ntmps4
    go_wp2
    go_ret
    exact ⟨by rw [hr.out]; rfl, rfl⟩

end Go.Proofs.YtjinbhnpcdlkiaaGreatDoor


namespace Go.Proofs.YtjinbhnpcdlkiaaGreatDoor
open Go.ChangeShapes Go.WideShapes Go.ChangeAt Go.RowKit Go.Joins Go.Deep
open Go.ChangeMaps (open_string shut_string)
set_option linter.unusedSimpArgs false

def laidL : List (String × DataW Unit) := [("errors.errorType", Rows.laid_errors_errorType)]
theorem et_at : Tryz.prog.globalNamed "errors.errorType" = some 0 := by kernel_rfl
theorem rt_at : (Tryz.prog.cutTypes.find? (·.1 == "internal/reflectlite.rtype")).map (·.2) = some 136 := by kernel_rfl
theorem types_size : Tryz.prog.types.size = 196 := by kernel_rfl
theorem one_row : ((List.range 196).filter fun t => Tryz.prog.rowNamed t [101, 114, 114, 111, 114]) = [41] := by kernel_rfl

/-- What the condition gives a walk. -/
theorem gl_of_laid {W : World} (h : laidMetH Tryz.prog laidL W) : Gl W := by
  refine ⟨?_⟩
  have h' : laidMet Tryz.prog [] W ∧ handlesMet Tryz.prog [("errors.errorType", .iface "internal/reflectlite.rtype" (.agg [.ptr (.lit (.string [101, 114, 114, 111, 114]))]))] W := h
  obtain ⟨name, u, ty, e1, e2, e3, e4, e5⟩ := h'.2 _ (List.mem_singleton.2 rfl)
  have en : name = [101, 114, 114, 111, 114] := (Option.some.inj e1).symm
  subst en
  obtain rfl := Option.some.inj (rt_at.symm.trans e2)
  have hm : ty ∈ (List.range 196).filter fun t => Tryz.prog.rowNamed t [101, 114, 114, 111, 114] := List.mem_filter.2 ⟨List.mem_range.2 (by rw [← types_size]; exact e3), e4⟩
  rw [one_row] at hm
  obtain rfl := List.mem_singleton.1 hm
  have hh : typeHandle Tryz.prog 41 = .pointer (some ⟨2, 41, none⟩) := by kernel_rfl
  rw [hh] at e5
  simpa using World.var?_cell et_at e5 0

def layAt (h : Array Obj) (g : Nat) (cs : Array Value) : Array Obj := h.modify g fun
  | .cells _ t frozen => .cells cs t frozen
  | o => o
/-- A world that meets the condition: the settled one, the variable laid. -/
noncomputable def laidWorld (os : Os) : World :=
  let w0 := World.holding Tryz.prog os ⟨#[], #[], []⟩
  { w0 with heap := layAt w0.heap 0 #[.iface 136 (.agg #[.pointer (some ⟨2, 41, none⟩)])] }
theorem laidWorld_met (os : Os) (args : Array Value) : laidMetH Tryz.prog laidL ((laidWorld os).forCall (fun _ _ => 0) ⟨#[], args, []⟩).memory :=
  laidMetH_of_parts (laidMet_of_run' 8 (by kernel_rfl) (by kernel_rfl)) (by kernel_rfl)

section
variable {H : Type} {enc : TypeId × Value → H} {W : World}
theorem arg_str {fuel : Nat} {v : Value} {x : DataW H × List MemPlace} (h : DataW.trod enc Tryz.prog W 0 (fun _ => true) true fuel 9 [v] = some x) : ∃ s : ByteArray, v = .string s := by
  obtain ⟨s, e0, _⟩ := DataW.trod_string Tryz.underlying9 h
  simp at e0
  exact ⟨s, e0⟩
theorem array10 {α : Type} {cs : Array α} (h : cs.size = 10) : ∃ c0 c1 c2 c3 c4 c5 c6 c7 c8 c9, cs = #[c0, c1, c2, c3, c4, c5, c6, c7, c8, c9] := by
  obtain ⟨l⟩ := cs
  match l, h with
  | [c0, c1, c2, c3, c4, c5, c6, c7, c8, c9], _ => exact ⟨c0, c1, c2, c3, c4, c5, c6, c7, c8, c9, rfl⟩
set_option maxRecDepth 100000 in
theorem arg_conf {r : Reach} {b0 : Nat} {v : Value} {d : DataW H} {p : List MemPlace} (hv : Value.okWide Tryz.prog W r b0 25 v) (h : DataW.Trod enc Tryz.prog W 0 (fun _ => true) true 25 v d p) :
    ∃ x : Cm, v = .agg x.cs := by
  obtain ⟨cs, rfl, hsz⟩ := okWide_struct Tryz.underlying25 hv
  have hC : Tryz.prog.cellsOf 25 = 10 := by kernel_rfl
  have hN : Tryz.prog.cellsOf 23 = 7 := by kernel_rfl
  have k2 : Tryz.prog.cellsOf 9 = 1 := by kernel_rfl
  obtain ⟨c0, c1, c2, c3, c4, c5, c6, c7, c8, c9, rfl⟩ := array10 (hsz.trans hC)
  obtain ⟨fuel, hf⟩ := h
  obtain ⟨xs, n, _, _, _, hlen, hg⟩ := DataW.trod_struct Tryz.underlying25 hf
  have g0 := hg 0 _ rfl
  have g1 := hg 1 _ rfl
  have g2 := hg 2 _ rfl
  have g3 := hg 3 _ rfl
  match xs, hlen with
  | [y0, y1, y2, y3], _ =>
    simp [hN, k2] at g0 g1 g2 g3
    obtain ⟨s0, rfl⟩ := arg_str (v := c0) (x := y0) g0
    obtain ⟨s1, rfl⟩ := arg_str (v := c1) (x := y1) g1
    obtain ⟨s2, rfl⟩ := arg_str (v := c2) (x := y2) g2
    obtain ⟨m, rfl, rfl, rfl, rfl, rfl, rfl, rfl, _⟩ := arg_lims (u0 := c3) (u1 := c4) (u2 := c5) (u3 := c6) (u4 := c7) (u5 := c8) (u6 := c9) (x := y3) g3
    exact ⟨⟨m, s0, s1, s2, Dc.zero, Dc.zero, Dc.zero⟩, rfl⟩
end
end Go.Proofs.YtjinbhnpcdlkiaaGreatDoor


namespace Go.Proofs.YtjinbhnpcdlkiaaGreatDoor
open Go.RowKit

/-- Rules, handed back. -/
def RRu (w : World) (R : Ru) (e : Ending) (w' : World) : Prop :=
  ∃ y : RuV, e = .returned (.agg y.cs) ∧ y.r = R ∧ y.ok w' ∧ Below w.heap.size w w' ∧ y.far w.heap.size w'.heap.size
theorem Cm.Ok.new {c : Cm} (h : c.Ok) (W : World) : Calls Tryz.prog 10 #[.agg c.cs] W (RNew13 W c.ru) :=
  rnew_ok c.n c.m c.x c.s c.dm c.dx c.ds W h.n h.m h.x h.s h.row h.pos
theorem Cm.Ok.cnew {c : Cm} (h : c.Ok) (W : World) : Calls Tryz.prog 8 #[.agg c.cs] W (RNew W c.ru) :=
  cnew_ok c.n c.m c.x c.s c.dm c.dx c.ds W h.n h.m h.x h.s h.row h.pos
theorem RuV.far.below {y : RuV} {B g B' : Nat} (h : y.far B g) (hb : B' ≤ B) : (0 < y.n1 → ∀ a, y.A1 = some a → B' ≤ a.block) ∧ (0 < y.n2 → ∀ a, y.A2 = some a → B' ≤ a.block) ∧ (0 < y.n3 → ∀ a, y.A3 = some a → B' ≤ a.block) :=
  ⟨fun hz a ha => Nat.le_trans hb (h.1 hz a ha).1, fun hz a ha => Nat.le_trans hb (h.2.1 hz a ha).1, fun hz a ha => Nat.le_trans hb (h.2.2 hz a ha).1⟩
/-- Lists that lie in new memory are not in an elder block. -/
theorem RuV.ne {y : RuV} {B g : Nat} (h : (0 < y.n1 → ∀ a, y.A1 = some a → B ≤ a.block) ∧ (0 < y.n2 → ∀ a, y.A2 = some a → B ≤ a.block) ∧ (0 < y.n3 → ∀ a, y.A3 = some a → B ≤ a.block)) (hg : g < B) : (0 < y.n1 → ∀ a, y.A1 = some a → a.block ≠ g) ∧ (0 < y.n2 → ∀ a, y.A2 = some a → a.block ≠ g) ∧ (0 < y.n3 → ∀ a, y.A3 = some a → a.block ≠ g) :=
  ⟨fun hz a ha => by have := h.1 hz a ha; omega, fun hz a ha => by have := h.2.1 hz a ha; omega, fun hz a ha => by have := h.2.2 hz a ha; omega⟩
theorem RuV.mkfar {y : RuV} {B g : Nat} {W : World} (h : (0 < y.n1 → ∀ a, y.A1 = some a → B ≤ a.block) ∧ (0 < y.n2 → ∀ a, y.A2 = some a → B ≤ a.block) ∧ (0 < y.n3 → ∀ a, y.A3 = some a → B ≤ a.block)) (hok : y.ok W) (hg : W.heap.size ≤ g) : y.far B g :=
  ⟨fun hz a ha => ⟨h.1 hz a ha, hok.1.apart hg hz a ha⟩, fun hz a ha => ⟨h.2.1 hz a ha, hok.2.1.apart hg hz a ha⟩, fun hz a ha => ⟨h.2.2 hz a ha, hok.2.2.apart hg hz a ha⟩⟩
theorem row_conf : RowT Tryz.prog 45 10 := ⟨by kernel_rfl, by kernel_rfl⟩
theorem built_conf (c : Cm) : Tryz.prog.built 45 [(0, .string c.m), (1, .string c.x), (2, .string c.s), (3, .agg #[.int .i64 c.n.ic, .int .i64 c.n.fc, .int .i64 c.n.sc, .int .i64 c.n.mi, .int .i64 c.n.mf, .int .i64 c.n.md, .int .i64 c.n.hs])] = some c.cs := by kernel_rfl
set_option maxRecDepth 100000 in
set_option maxHeartbeats 4000000 in
theorem of13_any (c : Cm) (w : World) : Calls Tryz.prog 9 #[.agg c.cs] w (RV w (.agg c.cs)) := by
  have hX := (Blk.made w w 25 c.cs (Later.refl w) _ rfl).alloc (.cells #[.string { data := #[] }, .string { data := #[] }, .string { data := #[] }, .int .i64 0, .int .i64 0, .int .i64 0, .int .i64 0, .int .i64 0, .int .i64 0, .int .i64 0] 45)
  have hR := (Blk.made w (w.alloc (.cells c.cs 25)) 45 #[.string { data := #[] }, .string { data := #[] }, .string { data := #[] }, .int .i64 0, .int .i64 0, .int .i64 0, .int .i64 0, .int .i64 0, .int .i64 0, .int .i64 0] ((Later.refl w).alloc _) (w.heap.size + 1) (by simp))
  go_enter Tryz.func9, Tryz.ntmps9
  go_upto_region 1 with fail
  generalize World.alloc (World.alloc w _) _ = w1 at *
  have c0 : w1.cell? ⟨w.heap.size, 0, none⟩ = some (.string c.m) := hX.cell 0
  have c1 : w1.cell? ⟨w.heap.size, 1, none⟩ = some (.string c.x) := hX.cell 1
  have c2 : w1.cell? ⟨w.heap.size, 2, none⟩ = some (.string c.s) := hX.cell 2
  have hbt := built_conf c
  go_wp2_with (first | (refine wpList_load_part (hX.part 3 [.int .i64 c.n.ic, .int .i64 c.n.fc, .int .i64 c.n.sc, .int .i64 c.n.mi, .int .i64 c.n.mf, .int .i64 c.n.md, .int .i64 c.n.hs] rfl) row_limits13 rfl rfl rfl rfl ?_; go_simp) | (refine wpList_build_ _ _ rfl rfl ?_ hbt ?_; (exact rfl); go_simp) | (refine wpList_store_blk hR row_conf rfl rfl rfl rfl rfl rfl (by kernel_rfl) ?_; intro w9 hR9 hS9; go_simp))
  exact bodyPost_ret (results_c hR9 row_conf rfl Tryz.results9 rfl) rfl ⟨rfl, hS9.below hR.later (by omega)⟩

end Go.Proofs.YtjinbhnpcdlkiaaGreatDoor


namespace Go.Proofs.YtjinbhnpcdlkiaaGreatDoor
open Go.RowKit

theorem timesDc_may {d : Dc} (h : mayDc d = true) (k : Int) : mayDc (timesDc d k).1 = true := by
  obtain ⟨h1, h2, h3⟩ := mayDc_iff.1 h
  have := times_s (d := d) (by omega) k
  exact mayDc_iff.2 ⟨mayL_times k, by omega, by omega⟩
theorem addDc_may (a b : Dc) : mayDc (addDc a b).1 = true := mayDc_iff.2 ⟨mayL_add a b, (add_s a b).1, (add_s a b).2⟩
set_option maxRecDepth 100000 in
set_option maxHeartbeats 4000000 in
theorem cmove_any (x : RuV) {A : Option Addr} {n c : Nat} (D : Dc) (k : Int) (w : World) (hx : x.ok w) (hd : IL w A n c D.l) (hr : x.r.Bd) (iD : I64 D.l) (sD : -9223372036854775808 ≤ D.s ∧ D.s ≤ 9223372036854775807) (nD : n ≤ 2000) (hk : -9223372036854775808 ≤ k ∧ k ≤ 9223372036854775807) :
    Calls Tryz.prog 32 #[.agg x.cs, .agg #[.bool D.neg, .slice A n c, .int .i64 D.s], .int .i64 k] w (RCE w (moveC x.r D k).1 (moveC x.r D k).2) := by
  have hM : Hid (moveC x.r D k = if mayDc D then (if (timesDc x.r.st k).2 = 0 then valueC x.r (addDc D (timesDc x.r.st k).1).1 else (Dc.zero, (timesDc x.r.st k).2)) else (Dc.zero, 1)) := rfl
  have hmay := Lib.hid (fun W (hW : IL W A n c D.l) => show Calls Tryz.prog 54 #[.agg #[.bool D.neg, .slice A n c, .int .i64 D.s]] W (RV W (.bool (mayDc D))) from cmay_any D.neg D.s W hW iD sD)
  have hti := Lib.hid (fun W (hW : x.ok W) => show Calls Tryz.prog 55 #[.agg #[.bool x.r.st.neg, .slice x.A3 x.n3 x.c3, .int .i64 x.r.st.s], .int .i64 k] W (RCE W (timesDc x.r.st k).1 (timesDc x.r.st k).2) from
    ctimes_any _ _ k W hW.2.2 (may_bd hr.st.1).1 (by have := hW.2.2.len; have := hr.st.2; omega) (may_bd hr.st.1).2 hk)
  have htm := timesDc_may hr.st.1 k
  have htl := times_len (mayDc_iff.1 hr.st.1).1 hr.st.2 k
  have hlD := hd.len
  have hva := Lib.hid (fun (A : Option Addr) (n c : Nat) (E : Dc) W (hW : x.ok W) (hE : IL W A n c E.l) (iE : I64 E.l) (sE : -9223372036854775808 ≤ E.s ∧ E.s ≤ 9223372036854775807) (nE : E.l.length ≤ 5000) => show Calls Tryz.prog 31 #[.agg x.cs, .agg #[.bool E.neg, .slice A n c, .int .i64 E.s]] W (RCE W (valueC x.r E).1 (valueC x.r E).2) from
    cvalue_any x E W hW hE hr iE sE (by have := hE.len; omega))
  generalize hMM : moveC x.r D k = MM at *
  clear hMM
  obtain ⟨T, ec, hT⟩ : ∃ T ec, timesDc x.r.st k = (T, ec) := ⟨_, _, rfl⟩
  rw [hT] at hM hti htm htl
  clear hT
  simp only at hM hti htm htl
  have hX := ((Blk.made w w 39 x.cs (Later.refl w) _ rfl).alloc (.cells #[.bool D.neg, .slice A n c, .int .i64 D.s] 36)).alloc (.cells #[.bool false, .slice none 0 0, .int .i64 0] 36)
  have hE := (Blk.made w (w.alloc (.cells x.cs 39)) 36 #[.bool D.neg, .slice A n c, .int .i64 D.s] ((Later.refl w).alloc _) (w.heap.size + 1) (by simp)).alloc (.cells #[.bool false, .slice none 0 0, .int .i64 0] 36)
  have hR := Blk.made w ((w.alloc (.cells x.cs 39)).alloc (.cells #[.bool D.neg, .slice A n c, .int .i64 D.s] 36)) 36 #[.bool false, .slice none 0 0, .int .i64 0] (((Later.refl w).alloc _).alloc _) (w.heap.size + 2) (by simp)
  go_enter Tryz.func32, Tryz.ntmps32
  go_upto_region 1 with fail
  generalize World.alloc (World.alloc (World.alloc w _) _) _ = w1 at *
  cases hmd : mayDc D
  · rw [hmd] at hmay hM
    rw [if_neg (by simp)] at hM
    clear hmd
    go_wp2_with (refine wpList_load_blk hE row_dec rfl rfl rfl rfl ?_; go_simp)
    refine (hmay.out _ (hd.later hE.later)).mono ?_
    rintro e w2 ⟨rfl, hB2⟩
    have hR2 := hR.call hB2
    go_wp2_with (refine wpList_store_blk hR2 row_dec rfl rfl rfl rfl rfl rfl (by kernel_rfl) ?_; intro w9 hR9 hS9; go_simp)
    rw [hM.out]
    exact bodyPost_ret (results_ct hR9 row_dec rfl Tryz.results32 rfl rfl) rfl ⟨none, 0, 0, rfl, IL.nil _, hS9.below hR2.later (by omega), none_new _⟩
  · rw [hmd] at hmay hM
    rw [if_pos rfl] at hM
    have hmD := Lib.hid hmd
    clear hmd
    go_wp2_with (refine wpList_load_blk hE row_dec rfl rfl rfl rfl ?_; go_simp)
    refine (hmay.out _ (hd.later hE.later)).mono ?_
    rintro e w2 ⟨rfl, hB2⟩
    have hX2 := hX.call hB2
    have hE2 := hE.call hB2
    have hR2 := hR.call hB2
    clear hX hE hR
    go_wp2_with (refine wpList_load_part (hX2.part 6 [.bool x.r.st.neg, .slice x.A3 x.n3 x.c3, .int .i64 x.r.st.s] rfl) row_dec rfl rfl rfl rfl ?_; go_simp)
    refine (hti.out _ (hx.later hX2.later)).mono ?_
    rintro e w3 ⟨A3, n3, c3, rfl, hI3, hB3, _⟩
    have hF := Blk.made w w3 36 #[.bool T.neg, .slice A3 n3 c3, .int .i64 T.s] (hR2.call hB3).later _ rfl
    have hX3 := (hX2.call hB3).alloc (.cells #[.bool T.neg, .slice A3 n3 c3, .int .i64 T.s] 36)
    have hE3 := (hE2.call hB3).alloc (.cells #[.bool T.neg, .slice A3 n3 c3, .int .i64 T.s] 36)
    have hR3 := (hR2.call hB3).alloc (.cells #[.bool T.neg, .slice A3 n3 c3, .int .i64 T.s] 36)
    have hI3' := hI3.alloc (.cells #[.bool T.neg, .slice A3 n3 c3, .int .i64 T.s] 36)
    clear hX2 hE2 hR2 hI3
    go_upto_region 4 with fail
    generalize World.alloc w3 _ = w4 at *
    by_cases hec : ec = 0
    · subst hec
      rw [if_pos rfl] at hM
      have had := Lib.hid (fun W (h1 : IL W A n c D.l) (h2 : IL W A3 n3 c3 T.l) => show Calls Tryz.prog 56 #[.agg #[.bool D.neg, .slice A n c, .int .i64 D.s], .agg #[.bool T.neg, .slice A3 n3 c3, .int .i64 T.s]] W (RCE W (addDc D T).1 (addDc D T).2) from
        cadd_any _ _ _ _ W h1 h2 iD (may_bd htm).1 (by omega) (by have := h2.len; omega) sD (may_bd htm).2)
      have hal := add_len (M := 2004) (N := 1000) (mayDc_iff.1 hmD.out).1 (mayDc_iff.1 htm).1 (by omega) (by omega) (by have := (mayDc_iff.1 hmD.out).2; omega) (by have := (mayDc_iff.1 htm).2; omega)
      have ham : mayDc (addDc D T).1 = true := addDc_may _ _
      generalize addDc D T = S at *
      obtain ⟨S, es⟩ := S
      simp only at had hal ham hM
      go_wp2_with (first | (refine wpList_load_blk hE3 row_dec rfl rfl rfl rfl ?_; go_simp) | (refine wpList_load_blk hF row_dec rfl rfl rfl rfl ?_; go_simp))
      refine (had.out _ (hd.later hE3.later) hI3').mono ?_
      rintro e w5 ⟨A5, n5, c5, rfl, hI5, hB5, _⟩
      have hG := Blk.made w w5 36 #[.bool S.neg, .slice A5 n5 c5, .int .i64 S.s] (hR3.call hB5).later _ rfl
      have hX5 := (hX3.call hB5).alloc (.cells #[.bool S.neg, .slice A5 n5 c5, .int .i64 S.s] 36)
      have hR5 := (hR3.call hB5).alloc (.cells #[.bool S.neg, .slice A5 n5 c5, .int .i64 S.s] 36)
      have hI5' := hI5.alloc (.cells #[.bool S.neg, .slice A5 n5 c5, .int .i64 S.s] 36)
      clear hX3 hE3 hR3
      go_upto_region 7 with fail
      generalize World.alloc w5 _ = w6 at *
      go_wp2_with (first | (refine wpList_load_blk hX5 row_rules rfl rfl rfl rfl ?_; go_simp) | (refine wpList_load_blk hG row_dec rfl rfl rfl rfl ?_; go_simp))
      refine (hva.out _ _ _ _ _ (hx.later hX5.later) hI5' (may_bd ham).1 (may_bd ham).2 (by omega)).mono ?_
      rintro e w7 ⟨A7, n7, c7, rfl, hI7, hB7, hN7⟩
      have hR7 := hR5.call hB7
      have hl5 := hR5.lt
      go_wp2_with (refine wpList_store_blk hR7 row_dec rfl rfl rfl rfl rfl rfl (by kernel_rfl) ?_; intro w9 hR9 hS9; go_simp)
      rw [hM.out]
      exact bodyPost_ret (results_ct hR9 row_dec rfl Tryz.results32 rfl rfl) rfl ⟨A7, n7, c7, rfl, hS9.il hI7 (fun hz a ha => by have := hN7 hz a ha; omega), hS9.below hR7.later (by omega), fun hz a ha => by have := hN7 hz a ha; omega⟩
    · rw [if_neg hec] at hM
      have hb : (ec != (0 : Int)) = true := by simpa using hec
      go_wp2_with (refine wpList_store_blk hR3 row_dec rfl rfl rfl rfl rfl rfl (by kernel_rfl) ?_; intro w9 hR9 hS9; go_simp)
      rw [hM.out]
      exact bodyPost_ret (results_ct hR9 row_dec rfl Tryz.results32 rfl rfl) rfl ⟨none, 0, 0, rfl, IL.nil _, hS9.below hR3.later (by omega), none_new _⟩

end Go.Proofs.YtjinbhnpcdlkiaaGreatDoor

