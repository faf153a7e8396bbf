/- The walk of the program's number of any text. No condition. -/
import Derived.Test.YtjinbhnpcdlkiaaGreatDoorMa25
import Derived.Deep.RegionWith
namespace Go.Proofs.YtjinbhnpcdlkiaaGreatDoor
open Go.RowKit

theorem Cm.Ok.ruOk {c : Cm} (h : c.Ok) : c.ru.Ok := by
  have fit : ∀ {s : ByteArray} {D : Dc}, TextOk c.n s D → mayDc (trimDc D) = true ∧ trimDc (trimDc D) = trimDc D ∧ fitsC c.n (trimDc D) = true := fun {s D} ht => by
    obtain ⟨_, _, h1, _, h2⟩ := ht
    obtain ⟨m1, m2, _⟩ := mayDc_iff.1 h1
    have e := trimDc_idem m1 m2
    refine ⟨mayDc_trim h1, e, ?_⟩
    unfold fitsC at h2 ⊢
    rw [e]
    exact h2
  exact ⟨h.n.ic, h.n.fc, h.n.sc, h.n.mi, h.n.mf, h.n.md, h.n.hs, fit h.m, fit h.x, fit h.s, h.row, h.pos, rfl⟩
theorem Ru.Ok.bd {r : Ru} (h : r.Ok) (n1 : r.lo.l.length ≤ 2000) (n2 : r.hi.l.length ≤ 2000) (n3 : r.st.l.length ≤ 2000) : r.Bd :=
  ⟨by have := h.ic; omega, by have := h.sc; have := h.fc; omega, h.md, ⟨h.lo.1, n1⟩, ⟨h.hi.1, n2⟩, ⟨h.st.1, n3⟩⟩
theorem Cm.Ok.ruBd {c : Cm} (h : c.Ok) : c.ru.Bd :=
  h.ruOk.bd (Nat.le_trans (trimDc_len _) h.m.2.2.2.1) (Nat.le_trans (trimDc_len _) h.x.2.2.2.1) (Nat.le_trans (trimDc_len _) h.s.2.2.2.1)
section
variable {P : Program} {C : World → Prop} {K : Act → Prop} {a : Act} {o : Oper} {w0 w : World} {g off n : Nat} {t ty : TypeId} {cs : Array Value}
/-- The load of a struct in a quiet region. -/
theorem quiet_load_part {l : List Value} (hR : ∀ W, C W → W.rangeAt g off l) (hT : RowT P ty n) (hn : l.length = n) {x : Operand} (ho : o.op = .load ty x) (hx : a.eval x = .pointer (some ⟨g, off, none⟩)) (hk : K (a.put o.dst (.agg l.toArray))) : o.quiet P a C K := by
  obtain ⟨h1, h2⟩ := hT
  cases hu : P.underlying ty with
  | none => simp [hu] at h1
  | some d =>
    rw [hu] at h1
    refine ⟨.agg l.toArray, fun W hW => ?_, hk⟩
    unfold Oper.quietAt execOp
    simp only [ho, hx, Instr.loadAt, Instr.sureAddr, Sem.run_bind, Sem.run_pure, Result.andThen_ok, run_loadVar_mid W g off ty l d (hR W hW) hu (by simpa using h1) (by rw [h2, hn])]
    exact ⟨rfl, rfl⟩
/-- .. of a block that is known whole, in what is later. -/
theorem quiet_load_blk (hB : Blk w0 g t cs w) (hT : RowT P ty n) (hn : cs.size = n) {x : Operand} (ho : o.op = .load ty x) (hx : a.eval x = .pointer (some ⟨g, 0, none⟩)) (hk : K (a.put o.dst (.agg cs))) : o.quiet P a (fun W => ∃ s : Ext w, W = s.world) K :=
  quiet_load_part (fun W ⟨s, hs⟩ => by rw [hs]; exact (hB.call s.h).range) hT (by simpa using hn) ho hx (by simpa using hk)
theorem quiet_load_of (hB : Blk w0 g t cs w) (off : Nat) (l : List Value) (hl : (cs.toList.drop off).take l.length = l) (hT : RowT P ty n) (hn : l.length = n) {x : Operand} (ho : o.op = .load ty x) (hx : a.eval x = .pointer (some ⟨g, off, none⟩)) (hk : K (a.put o.dst (.agg l.toArray))) : o.quiet P a (fun W => ∃ s : Ext w, W = s.world) K :=
  quiet_load_part (fun W ⟨s, hs⟩ => by rw [hs]; exact (hB.call s.h).part off l hl) hT hn ho hx hk
end

end Go.Proofs.YtjinbhnpcdlkiaaGreatDoor


namespace Go.Proofs.YtjinbhnpcdlkiaaGreatDoor
open Go.RowKit

theorem digsOf_may {l : List UInt8} (h : l.all isB = true) : mayL (digsOf l) = true := by
  refine mayL_iff.2 fun x hx => ?_
  obtain ⟨c, hc, rfl⟩ := List.mem_map.1 hx
  have h1 := List.all_eq_true.1 h c hc
  simp only [isB, Bool.and_eq_true, decide_eq_true_eq] at h1
  omega
theorem parse_may {t : List UInt8} (h : (parseS t).2 = 0) : mayDc (parseS t).1 = true ∧ (parseS t).1.l.length ≤ t.length := by
  have hbl : (bodyB t).length ≤ t.length := by unfold bodyB; split <;> simp
  unfold parseS at h ⊢
  generalize bodyB t = p at *
  unfold parseB at h ⊢
  split
  · rename_i h1
    rw [if_pos h1] at h
    split
    · rename_i h2
      simp only [Bool.and_eq_true, Bool.or_eq_true, isDs, Bool.not_eq_true'] at h1
      have hr : (restB p).all isB = true := by
        rcases h1.2 with q | q
        · rw [rest_no q]; rfl
        · exact q.2
      refine ⟨mayDc_iff.2 ⟨digsOf_may (by rw [List.all_append, h1.1.2, hr]; rfl), ?_, ?_⟩, ?_⟩
      · show (0 : Int) ≤ ((restB p).length : Int)
        omega
      · show ((restB p).length : Int) ≤ 1000
        omega
      · show (digsOf (wholeB p ++ restB p)).length ≤ t.length
        have h3 : (wholeB p).length + (restB p).length ≤ p.length := by
          have h4 : (wholeB p).length ≤ p.length := by unfold wholeB; exact (List.takeWhile_prefix _).length_le
          unfold restB
          rw [List.length_drop]
          omega
        simp only [digsOf, List.length_map, List.length_append]
        omega
    · rename_i h2
      rw [if_neg h2] at h
      cases h
  · rename_i h1
    rw [if_neg h1] at h
    cases h

def icB : ByteArray := { data := #[105, 110, 116, 99, 97, 112] }
def fcB : ByteArray := { data := #[102, 114, 97, 99, 99, 97, 112] }
def scB : ByteArray := { data := #[115, 99, 97, 108, 101] }
def miB : ByteArray := { data := #[109, 105, 110, 105, 110, 116] }
def mfB : ByteArray := { data := #[109, 105, 110, 102, 114, 97, 99] }
def mdB : ByteArray := { data := #[109, 111, 100, 101] }
def hsB : ByteArray := { data := #[104, 105, 115, 116, 111, 114, 121] }
def minB : ByteArray := { data := #[109, 105, 110] }
def maxB : ByteArray := { data := #[109, 97, 120] }
def stepB : ByteArray := { data := #[115, 116, 101, 112] }
/-- The first limit that is wrong: where, and its code. -/
def checkC (n : Cn) : ByteArray × Int :=
  if n.ic < 1 ∨ 64 < n.ic then (icB, 3) else if n.fc < 0 ∨ 64 < n.fc then (fcB, 3) else if n.sc < 0 ∨ n.fc < n.sc then (scB, 3) else if n.mi < 0 ∨ n.ic < n.mi then (miB, 3) else if n.mf < 0 ∨ n.sc < n.mf then (mfB, 3)
  else if n.md < 0 ∨ 6 < n.md then (mdB, 7) else if n.hs < 1 ∨ 1024 < n.hs then (hsB, 3) else (⟨#[]⟩, 0)
/-- The number of a text, if it fits. -/
def numC (n : Cn) (s : ByteArray) : Dc × Int :=
  if (parseS s.data.toList).2 = 0 then (if fitsC n (parseS s.data.toList).1 = true then (trimDc (parseS s.data.toList).1, 0) else (Dc.zero, 4)) else (Dc.zero, (parseS s.data.toList).2)
def zeroRu : Ru := ⟨Dc.zero, Dc.zero, Dc.zero, false, ⟨0, 0, 0, 0, 0, 0, 0⟩⟩
/-- The rules of a configuration; or where it is wrong, and its code. -/
def newC (n : Cn) (m x s : ByteArray) : Ru × ByteArray × Int :=
  if (checkC n).2 ≠ 0 then (zeroRu, checkC n) else if (numC n m).2 ≠ 0 then (zeroRu, minB, (numC n m).2) else if (numC n x).2 ≠ 0 then (zeroRu, maxB, (numC n x).2) else if (numC n s).2 ≠ 0 then (zeroRu, stepB, (numC n s).2)
  else if ¬ 0 < cmpDc (numC n s).1 Dc.zero then (zeroRu, stepB, 3) else if 0 < cmpDc (numC n m).1 (numC n x).1 then (zeroRu, maxB, 3) else (⟨(numC n m).1, (numC n x).1, (numC n s).1, (numC n m).1.neg, n⟩, ⟨#[]⟩, 0)
def limS (i : Nat) : ByteArray := if i = 0 then icB else if i = 1 then fcB else if i = 2 then scB else if i = 3 then miB else mfB
def limN (n : Cn) (i : Nat) : Int := if i = 0 then n.ic else if i = 1 then n.fc else if i = 2 then n.sc else if i = 3 then n.mi else n.mf
def limL (i : Nat) : Int := if i = 0 then 1 else 0
def limT (n : Cn) (i : Nat) : Int := if i = 0 then 64 else if i = 1 then 64 else if i = 2 then n.fc else if i = 3 then n.ic else n.sc
theorem five {i : Nat} (h : i < 5) : i = 0 ∨ i = 1 ∨ i = 2 ∨ i = 3 ∨ i = 4 := by omega
theorem check_bad {n : Cn} {i : Nat} (hi : i < 5) (hl : ∀ j, j < i → limL j ≤ limN n j ∧ limN n j ≤ limT n j) (hb : limN n i < limL i ∨ limT n i < limN n i) : checkC n = (limS i, 3) := by
  have h0 := hl 0
  have h1 := hl 1
  have h2 := hl 2
  have h3 := hl 3
  simp only [limL, limN, limT, if_true, if_false, Nat.reduceEqDiff] at h0 h1 h2 h3
  unfold checkC
  rcases five hi with rfl | rfl | rfl | rfl | rfl
  · rw [if_pos (by simpa [limL, limN, limT] using hb)]; rfl
  · have := h0 (by omega)
    rw [if_neg (by omega), if_pos (by simpa [limL, limN, limT] using hb)]; rfl
  · have := h0 (by omega); have := h1 (by omega)
    rw [if_neg (by omega), if_neg (by omega), if_pos (by simpa [limL, limN, limT] using hb)]; rfl
  · have := h0 (by omega); have := h1 (by omega); have := h2 (by omega)
    rw [if_neg (by omega), if_neg (by omega), if_neg (by omega), if_pos (by simpa [limL, limN, limT] using hb)]; rfl
  · have := h0 (by omega); have := h1 (by omega); have := h2 (by omega); have := h3 (by omega)
    rw [if_neg (by omega), if_neg (by omega), if_neg (by omega), if_neg (by omega), if_pos (by simpa [limL, limN, limT] using hb)]; rfl
theorem check_rest {n : Cn} (hl : ∀ j, j < 5 → limL j ≤ limN n j ∧ limN n j ≤ limT n j) : checkC n = if n.md < 0 ∨ 6 < n.md then (mdB, 7) else if n.hs < 1 ∨ 1024 < n.hs then (hsB, 3) else (⟨#[]⟩, 0) := by
  have h0 := hl 0 (by omega)
  have h1 := hl 1 (by omega)
  have h2 := hl 2 (by omega)
  have h3 := hl 3 (by omega)
  have h4 := hl 4 (by omega)
  simp only [limL, limN, limT, if_true, if_false, Nat.reduceEqDiff] at h0 h1 h2 h3 h4
  unfold checkC
  rw [if_neg (by omega), if_neg (by omega), if_neg (by omega), if_neg (by omega), if_neg (by omega)]
theorem check_ok {n : Cn} (h : (checkC n).2 = 0) : n.Ok ∧ checkC n = (⟨#[]⟩, 0) := by
  unfold checkC at h ⊢
  split
  · rename_i h1; rw [if_pos h1] at h; cases h
  rename_i h1; rw [if_neg h1] at h
  split
  · rename_i h2; rw [if_pos h2] at h; cases h
  rename_i h2; rw [if_neg h2] at h
  split
  · rename_i h3; rw [if_pos h3] at h; cases h
  rename_i h3; rw [if_neg h3] at h
  split
  · rename_i h4; rw [if_pos h4] at h; cases h
  rename_i h4; rw [if_neg h4] at h
  split
  · rename_i h5; rw [if_pos h5] at h; cases h
  rename_i h5; rw [if_neg h5] at h
  split
  · rename_i h6; rw [if_pos h6] at h; cases h
  rename_i h6; rw [if_neg h6] at h
  split
  · rename_i h7; rw [if_pos h7] at h; cases h
  exact ⟨⟨by omega, by omega, by omega, by omega, by omega, by omega, by omega⟩, rfl⟩
theorem numC_ok {n : Cn} {s : ByteArray} (hs : s.size ≤ 2000) (h : (numC n s).2 = 0) : ∃ D, TextOk n s D ∧ (numC n s).1 = trimDc D := by
  unfold numC at h ⊢
  split
  · rename_i h1
    rw [if_pos h1] at h
    split
    · rename_i h2
      have h3 := parse_may h1
      have hl : s.data.toList.length = s.size := Array.length_toList
      exact ⟨(parseS s.data.toList).1, ⟨hs, by rw [← h1], h3.1, by omega, h2⟩, rfl⟩
    · rename_i h2; rw [if_neg h2] at h; cases h
  · rename_i h1; rw [if_neg h1] at h; exact absurd h h1
theorem numC_bad {n : Cn} {s : ByteArray} (h : (numC n s).2 ≠ 0) : (parseS s.data.toList).2 ≠ 0 ∧ (numC n s).2 = (parseS s.data.toList).2 ∨ (parseS s.data.toList).2 = 0 ∧ fitsC n (parseS s.data.toList).1 = false ∧ (numC n s).2 = 4 := by
  unfold numC at h ⊢
  by_cases h1 : (parseS s.data.toList).2 = 0
  · rw [if_pos h1] at h ⊢
    by_cases h2 : fitsC n (parseS s.data.toList).1 = true
    · rw [if_pos h2] at h; exact absurd rfl h
    · rw [if_neg h2]; exact .inr ⟨h1, by simpa using h2, rfl⟩
  · rw [if_neg h1]; exact .inl ⟨h1, rfl⟩

end Go.Proofs.YtjinbhnpcdlkiaaGreatDoor


namespace Go.Proofs.YtjinbhnpcdlkiaaGreatDoor
open Go.RowKit

/-- An error of a code, somewhere, in memory behind block B; or none. -/
def ErrV (B : Nat) (W : World) (wh : ByteArray) (code : Int) (v : Value) : Prop :=
  (code = 0 ∧ v = .nilIface) ∨ (code ≠ 0 ∧ ∃ p, B ≤ p ∧ v = .iface 81 (.pointer (some ⟨p, 0, none⟩)) ∧ Ch W [wh] W.heap.size code v)
theorem ErrV.below {B : Nat} {W W' : World} {wh : ByteArray} {code : Int} {v : Value} (h : ErrV B W wh code v) (hb : Below W.heap.size W W') : ErrV B W' wh code v := by
  rcases h with ⟨h1, h2⟩ | ⟨h1, p, h2, h3, h4⟩
  · exact .inl ⟨h1, h2⟩
  · exact .inr ⟨h1, p, h2, h3, (h4.below hb (Nat.le_refl _)).mono (Below.size hb)⟩
theorem ErrV.mono {B B' : Nat} {W : World} {wh : ByteArray} {code : Int} {v : Value} (h : ErrV B W wh code v) (hb : B' ≤ B) : ErrV B' W wh code v := by
  rcases h with ⟨h1, h2⟩ | ⟨h1, p, h2, h3, h4⟩
  · exact .inl ⟨h1, h2⟩
  · exact .inr ⟨h1, p, by omega, h3, h4⟩
theorem ErrV.sto {B g : Nat} {W W' : World} {wh : ByteArray} {code : Int} {v : Value} (h : ErrV B W wh code v) (hS : Sto W W' g) (hg : g < B) : ErrV B W' wh code v := by
  rcases h with ⟨h1, h2⟩ | ⟨h1, p, h2, rfl, q, u, h4, h5, h6, h7⟩
  · exact .inl ⟨h1, h2⟩
  · injection h5 with h5 h8
    injection h8 with h8
    injection h8 with h8
    injection h8 with h8
    subst h8
    exact .inr ⟨h1, p, h2, rfl, p, u, by rw [hS.size]; exact h4, rfl, (hS.block p (by omega)).trans h6, h7⟩
def RErr (w : World) (X : ByteArray × Int) (e : Ending) (w' : World) : Prop := ∃ v, e = .returned v ∧ ErrV w.heap.size w' X.1 X.2 v ∧ Below w.heap.size w w'
theorem wrapof_any (s : ByteArray) (c : Int) (hc : c ≠ 0) (w : World) :
    Calls Tryz.prog 22 #[.string s, .iface 49 (.int .i64 c)] w (RErr w (s, c)) :=
  (wrap_any s _ [] w.heap.size c w rfl (Nat.le_refl _)).mono fun _ _ ⟨h1, h2, h3⟩ => ⟨_, h1, .inr ⟨hc, _, Nat.le_refl _, rfl, h2⟩, h3⟩
set_option maxRecDepth 100000 in
set_option maxHeartbeats 4000000 in
theorem ccheck_any (n : Cn) (w : World) :
    Calls Tryz.prog 19 #[.agg #[.int .i64 n.ic, .int .i64 n.fc, .int .i64 n.sc, .int .i64 n.mi, .int .i64 n.mf, .int .i64 n.md, .int .i64 n.hs]] w (RErr w (checkC n)) := by
  have hX := (Blk.made w w 37 #[.int .i64 n.ic, .int .i64 n.fc, .int .i64 n.sc, .int .i64 n.mi, .int .i64 n.mf, .int .i64 n.md, .int .i64 n.hs] (Later.refl w) _ rfl)
  have hnm := Lib.hid (fun W => name_any n.md W)
  have hof := Lib.hid (fun c hc W => of_code c hc W)
  have hwr := Lib.hid (fun s c hc W => wrapof_any s c hc W)
  have hck := Lib.hid (fun h => check_rest (n := n) h)
  have hbad := Lib.hid (fun i h1 h2 h3 => check_bad (n := n) (i := i) h1 h2 h3)
  have hmode := Lib.hid (show (0 ≤ n.md ∧ n.md ≤ 6 → (nameB n.md).toList.isEmpty = false) ∧ (n.md < 0 ∨ 6 < n.md → (nameB n.md).toList.isEmpty = true) from ⟨name_ne, fun h => by
    have : nameB n.md = { data := #[] } := by
      unfold nameB
      rw [if_neg (by omega), if_neg (by omega), if_neg (by omega), if_neg (by omega), if_neg (by omega), if_neg (by omega), if_neg (by omega)]
    rw [this]; decide +kernel⟩)
  generalize nameB n.md = nb at *
  generalize checkC n = X at *
  go_enter Tryz.func19, Tryz.ntmps19
  go_upto_region 2 with fail
  have hX1 := hX.alloc (.cells #[.string { data := #[105, 110, 116, 99, 97, 112] }, .int .i64 n.ic, .int .i64 1, .int .i64 64, .string { data := #[102, 114, 97, 99, 99, 97, 112] }, .int .i64 n.fc, .int .i64 0, .int .i64 64, .string { data := #[115, 99, 97, 108, 101] }, .int .i64 n.sc, .int .i64 0, .int .i64 n.fc, .string { data := #[109, 105, 110, 105, 110, 116] }, .int .i64 n.mi, .int .i64 0, .int .i64 n.ic, .string { data := #[109, 105, 110, 102, 114, 97, 99] }, .int .i64 n.mf, .int .i64 0, .int .i64 n.sc] 94)
  have hK := Blk.made w (w.alloc (.cells #[.int .i64 n.ic, .int .i64 n.fc, .int .i64 n.sc, .int .i64 n.mi, .int .i64 n.mf, .int .i64 n.md, .int .i64 n.hs] 37)) 94 #[.string { data := #[105, 110, 116, 99, 97, 112] }, .int .i64 n.ic, .int .i64 1, .int .i64 64, .string { data := #[102, 114, 97, 99, 99, 97, 112] }, .int .i64 n.fc, .int .i64 0, .int .i64 64, .string { data := #[115, 99, 97, 108, 101] }, .int .i64 n.sc, .int .i64 0, .int .i64 n.fc, .string { data := #[109, 105, 110, 105, 110, 116] }, .int .i64 n.mi, .int .i64 0, .int .i64 n.ic, .string { data := #[109, 105, 110, 102, 114, 97, 99] }, .int .i64 n.mf, .int .i64 0, .int .i64 n.sc] ((Later.refl w).alloc _) (w.heap.size + 1) (by simp)
  generalize World.alloc (World.alloc w _) _ = w9 at *
  have hF : ∀ i, i < 5 → w9.cell? ⟨w.heap.size + 1, i * 4, none⟩ = some (.string (limS i)) ∧ w9.cell? ⟨w.heap.size + 1, i * 4 + 1, none⟩ = some (.int .i64 (limN n i)) ∧ w9.cell? ⟨w.heap.size + 1, i * 4 + 2, none⟩ = some (.int .i64 (limL i)) ∧ w9.cell? ⟨w.heap.size + 1, i * 4 + 3, none⟩ = some (.int .i64 (limT n i)) := by
    intro i hi
    rcases five hi with rfl | rfl | rfl | rfl | rfl
    · exact ⟨hK.cell 0, hK.cell 1, hK.cell 2, hK.cell 3⟩
    · exact ⟨hK.cell 4, hK.cell 5, hK.cell 6, hK.cell 7⟩
    · exact ⟨hK.cell 8, hK.cell 9, hK.cell 10, hK.cell 11⟩
    · exact ⟨hK.cell 12, hK.cell 13, hK.cell 14, hK.cell 15⟩
    · exact ⟨hK.cell 16, hK.cell 17, hK.cell 18, hK.cell 19⟩
  have HF := Lib.hid hF
  have hb9 := hX1.later
  clear hF hX
  go_wp2_with fail
  go_loopw [30] (fun v wr => ∃ i : Nat, i ≤ 5 ∧ v = .int .i64 i ∧ Later w9 wr ∧ Hid (∀ j, j < i → limL j ≤ limN n j ∧ limN n j ≤ limT n j)) (fun v _ => 5 - (intOf v).toNat)
  case atStart => exact ⟨0, by omega, rfl, Later.refl _, fun j hj => absurd hj (by omega)⟩
  case round =>
    obtain ⟨i, hi, rfl, hL, hlow⟩ := hrel
    have hbr : Below w.heap.size w wr := below_from hb9 hL
    by_cases hlt : i < 5
    · obtain ⟨c0, c1, c2, c3⟩ := HF.out i hlt
      have hB := Lib.hid (hbad.out i hlt hlow.out)
      have hN := Lib.hid (fun (h : limL i ≤ limN n i ∧ limN n i ≤ limT n i) => show ∀ j, j < i + 1 → limL j ≤ limN n j ∧ limN n j ≤ limT n j from fun j hj => by
        rcases Nat.lt_or_ge j i with h' | h'
        · exact hlow.out j h'
        · obtain rfl : j = i := by omega
          exact h)
      generalize limS i = sn at *
      generalize hni : limN n i = ni at *
      generalize hli : limL i = li at *
      generalize hti : limT n i = ti at *
      clear hni hli hti hlow
      have hi3 : (i : Int) < 5 := by omega
      have hi0 : (0 : Int) ≤ (i : Int) := by omega
      have e0 := hL.cell c0
      have e1 := hL.cell c1
      have e2 := hL.cell c2
      have e3 := hL.cell c3
      have hba := fun o => hbr.alloc (Below.size hbr) o
      clear c0 c1 c2 c3
      by_cases b3 : ni < li
      · have hx0 : X = (sn, 3) := hB.out (.inl b3)
        go_upto_region 6 with fail
        go_region_with (first
          | (go_at_call 23; refine (hof.out 3 (by omega) _).mono ?_; rintro e w ⟨rfl, rfl⟩)
          | (go_at_call 22; refine (hwr.out _ 3 (by omega) _).mono ?_; rintro e w11 ⟨v, rfl, hE, hb11⟩))
        all_goals
          go_wp2_with fail
          go_ret
          exact ⟨v, rfl, by rw [hx0]; exact hE.mono (Below.size (hba _).drew), below_from (hba _).drew hb11⟩
      · by_cases b4 : ti < ni
        · have hx0 : X = (sn, 3) := hB.out (.inr b4)
          go_upto_region 6 with fail
          go_region_with (first
            | (go_at_call 23; refine (hof.out 3 (by omega) _).mono ?_; rintro e w ⟨rfl, rfl⟩)
            | (go_at_call 22; refine (hwr.out _ 3 (by omega) _).mono ?_; rintro e w11 ⟨v, rfl, hE, hb11⟩))
          all_goals
            go_wp2_with fail
            go_ret
            exact ⟨v, rfl, by rw [hx0]; exact hE.mono (Below.size (hba _).drew), below_from (hba _).drew hb11⟩
        · have hN := Lib.hid (hN.out ⟨by omega, by omega⟩)
          go_wp2_with fail
          go_roundw
          case rel => exact ⟨i + 1, by omega, by go_num, hL.alloc _, hN⟩
          case measure => simp [intOf]; omega
    · have hX0 := Lib.hid (hck.out fun j hj => hlow.out j (by omega))
      have k5 := (hX1.call hL).cell 5
      have k6 := (hX1.call hL).cell 6
      have k5' : wr.cell? ⟨w.heap.size, 5, none⟩ = some (.int .i64 n.md) := k5
      have k6' : wr.cell? ⟨w.heap.size, 6, none⟩ = some (.int .i64 n.hs) := k6
      clear k5 k6
      go_wp2_with fail
      refine (hnm.out _).mono ?_
      rintro e w10 ⟨rfl, hB⟩
      have k7 : w10.cell? ⟨w.heap.size, 6, none⟩ = some (.int .i64 n.hs) := (hX1.call (below_from hL hB)).cell 6
      have hbx : Below w.heap.size w w10 := below_from hbr hB
      by_cases hmd : 0 ≤ n.md ∧ n.md ≤ 6
      · have hnb := hmode.out.1 hmd
        by_cases g1 : n.hs < 1
        · have hx0 : X = (hsB, 3) := by have := hX0.out; rwa [if_neg (by omega), if_pos (by omega)] at this
          go_wp2_with (first | (go_at_call 23; refine (hof.out 3 (by omega) _).mono ?_; rintro e w ⟨rfl, rfl⟩) | (go_at_call 22; refine (hwr.out _ 3 (by omega) _).mono ?_; rintro e w11 ⟨v, rfl, hE, hb11⟩))
          go_ret
          exact ⟨v, rfl, by rw [hx0]; exact hE.mono (Below.size hbx), below_from hbx hb11⟩
        · by_cases g2 : 1024 < n.hs
          · have hx0 : X = (hsB, 3) := by have := hX0.out; rwa [if_neg (by omega), if_pos (by omega)] at this
            go_wp2_with (first | (go_at_call 23; refine (hof.out 3 (by omega) _).mono ?_; rintro e w ⟨rfl, rfl⟩) | (go_at_call 22; refine (hwr.out _ 3 (by omega) _).mono ?_; rintro e w11 ⟨v, rfl, hE, hb11⟩))
            go_ret
            exact ⟨v, rfl, by rw [hx0]; exact hE.mono (Below.size hbx), below_from hbx hb11⟩
          · have hx0 : X = (⟨#[]⟩, 0) := by have := hX0.out; rwa [if_neg (by omega), if_neg (by omega)] at this
            go_wp2_with fail
            go_ret
            exact ⟨_, rfl, by rw [hx0]; exact .inl ⟨rfl, rfl⟩, hbx⟩
      · have hnb := hmode.out.2 (by omega)
        have hx0 : X = (mdB, 7) := by have := hX0.out; rwa [if_pos (by omega)] at this
        go_wp2_with (first | (go_at_call 23; refine (hof.out 7 (by omega) _).mono ?_; rintro e w ⟨rfl, rfl⟩) | (go_at_call 22; refine (hwr.out _ 7 (by omega) _).mono ?_; rintro e w11 ⟨v, rfl, hE, hb11⟩))
        go_ret
        exact ⟨v, rfl, by rw [hx0]; exact hE.mono (Below.size hbx), below_from hbx hb11⟩

end Go.Proofs.YtjinbhnpcdlkiaaGreatDoor


namespace Go.Proofs.YtjinbhnpcdlkiaaGreatDoor
open Go.RowKit
set_option linter.unusedVariables false

/-- What the number of a text hands back. -/
def RNumE (w : World) (wh : ByteArray) (X : Dc × Int) (e : Ending) (w' : World) : Prop :=
  ∃ A n c v, e = .returned (.tuple #[.agg #[.bool X.1.neg, .slice A n c, .int .i64 X.1.s], v]) ∧ IL w' A n c X.1.l ∧ ErrV w.heap.size w' wh X.2 v ∧ Below w.heap.size w w' ∧ (0 < n → ∀ a, A = some a → w.heap.size ≤ a.block)
set_option maxRecDepth 100000 in
set_option maxHeartbeats 4000000 in
theorem number_any (x : RuV) (wh s : ByteArray) (w : World) (hs : s.size ≤ 2000) :
    Calls Tryz.prog 20 #[.agg x.cs, .string wh, .string s] w (RNumE w wh (numC x.r.n s)) := by
  by_cases h0 : (numC x.r.n s).2 = 0
  · obtain ⟨D, ht, e1⟩ := numC_ok hs h0
    have hX : numC x.r.n s = (trimDc D, 0) := by rw [← e1, ← h0]
    rw [hX]
    refine (number_ok x wh s D w hs ht.2.1 ht.2.2.1 (by have := ht.2.2.2.1; omega) ht.2.2.2.2).mono fun e w' h => ?_
    obtain ⟨A, n, c, h1, h2, h3, h4⟩ := h
    exact ⟨A, n, c, .nilIface, h1, h2, .inl ⟨rfl, rfl⟩, h3, h4⟩
  have hof := Lib.hid (fun c hc W => of_code c hc W)
  have hwr := Lib.hid (fun s c hc W => wrapof_any s c hc W)
  have hX := (Blk.made w w 39 x.cs (Later.refl w) _ rfl).alloc (.cells #[.bool false, .slice none 0 0, .int .i64 0] 36)
  have hR := (Blk.made w (w.alloc (.cells x.cs 39)) 36 #[.bool false, .slice none 0 0, .int .i64 0] ((Later.refl w).alloc _) (w.heap.size + 1) (by simp))
  rcases numC_bad h0 with ⟨p1, p2⟩ | ⟨p1, p2, p3⟩
  · have hres : numC x.r.n s = (Dc.zero, (parseS s.data.toList).2) := by unfold numC; rw [if_neg p1]
    have hpa := Lib.hid (fun W => show Calls Tryz.prog 40 #[.string s] W (RCE W (parseS s.data.toList).1 (parseS s.data.toList).2) from cparse_any s W (by omega))
    have hres := Lib.hid hres
    clear h0 p2
    generalize (parseS s.data.toList).2 = code at *
    generalize (parseS s.data.toList).1 = P at *
    generalize numC x.r.n s = X at *
    have hp1 := Lib.hid p1
    generalize x.cs = xs at *
    go_enter Tryz.func20, Tryz.ntmps20
    go_upto_region 1 with fail
    generalize World.alloc (World.alloc w _) _ = w1 at *
    go_wp2_with fail
    refine (hpa.out _).mono ?_
    rintro e w2 ⟨A2, n2, c2, rfl, hI2, hB2, _⟩
    have hR2 := (hR.call hB2).alloc (.cells #[.bool P.neg, .slice A2 n2 c2, .int .i64 P.s] 36)
    have hpc : (code == 0) = false := by simpa using p1
    go_upto_region 3 with fail
    have hlt : w.heap.size + 2 ≤ (w2.alloc (.cells #[.bool P.neg, .slice A2 n2 c2, .int .i64 P.s] 36)).heap.size := hR2.lt
    generalize World.alloc w2 _ = w3 at *
    go_wp2_with (first | (go_at_call 23; refine (hof.out code hp1.out _).mono ?_; rintro e w ⟨rfl, rfl⟩) | (go_at_call 22; refine (hwr.out _ _ hp1.out _).mono ?_; rintro e w7 ⟨v, rfl, hE, hb7⟩; have hR7 := (hR2).call hb7) | (refine wpList_store_blk hR7 row_dec rfl rfl rfl rfl rfl rfl (by kernel_rfl) ?_; intro w8 hR8 hS8; go_simp))
    exact bodyPost_ret (results_ct hR8 row_dec rfl Tryz.results20 rfl rfl) rfl
      ⟨none, 0, 0, v, by rw [hres.out]; rfl, by rw [hres.out]; exact IL.nil _, by rw [hres.out]; exact (hE.mono hlt).sto hS8 (Nat.lt_succ_self _) |>.mono (by omega), hS8.below hR7.later (by omega), fun h => absurd h (by omega)⟩
  · have hres := Lib.hid (show numC x.r.n s = (Dc.zero, 4) by unfold numC; rw [if_pos p1, if_neg (by rw [p2]; exact Bool.false_ne_true)])
    have hpm := parse_may p1
    have hlen : s.data.toList.length = s.size := Array.length_toList
    have hpa := Lib.hid (fun W => show Calls Tryz.prog 40 #[.string s] W (RCE W (parseS s.data.toList).1 0) by
      have := cparse_any s W (by omega)
      rw [p1] at this
      exact this)
    clear h0 p3
    generalize numC x.r.n s = X at *
    generalize (parseS s.data.toList).1 = P at *
    obtain ⟨iD, sD⟩ := may_bd hpm.1
    have hft := Lib.hid (fun (A : Option Addr) (n c : Nat) W (hW : IL W A n c P.l) => show Calls Tryz.prog 41 #[.agg x.cs, .agg #[.bool P.neg, .slice A n c, .int .i64 P.s]] W (RV W (.bool false)) by
      have := cfits_any x P W hW iD sD (by have := hW.len; omega)
      rw [p2, Bool.and_false] at this
      exact this)
    have hxs : x.cs.size = 17 := rfl
    clear iD sD hpm p2
    generalize x.cs = xs at *
    go_enter Tryz.func20, Tryz.ntmps20
    go_upto_region 1 with fail
    generalize World.alloc (World.alloc w _) _ = w1 at *
    go_wp2_with fail
    refine (hpa.out _).mono ?_
    rintro e w2 ⟨A2, n2, c2, rfl, hI2, hB2, _⟩
    have hR2 := (hR.call hB2).alloc (.cells #[.bool P.neg, .slice A2 n2 c2, .int .i64 P.s] 36)
    have hX2 := (hX.call hB2).alloc (.cells #[.bool P.neg, .slice A2 n2 c2, .int .i64 P.s] 36)
    have hE2 := Blk.made w w2 36 #[.bool P.neg, .slice A2 n2 c2, .int .i64 P.s] (hR.call hB2).later _ rfl
    have hI2' := hI2.alloc (.cells #[.bool P.neg, .slice A2 n2 c2, .int .i64 P.s] 36)
    have hlt : w.heap.size + 2 ≤ (w2.alloc (.cells #[.bool P.neg, .slice A2 n2 c2, .int .i64 P.s] 36)).heap.size := hR2.lt
    go_upto_region 4 with fail
    generalize World.alloc w2 _ = w3 at *
    go_wp2_with (first | (refine wpList_load_blk hX2 row_rules hxs rfl rfl rfl ?_; go_simp) | (refine wpList_load_blk hE2 row_dec rfl rfl rfl rfl ?_; go_simp))
    refine (hft.out _ _ _ _ hI2').mono ?_
    rintro e w4 ⟨rfl, hB4⟩
    have hR4 := hR2.call hB4
    have hlt4 : w.heap.size + 2 ≤ w4.heap.size := hR4.lt
    go_wp2_with (first | (go_at_call 23; refine (hof.out 4 (by omega) _).mono ?_; rintro e w ⟨rfl, rfl⟩) | (go_at_call 22; refine (hwr.out _ 4 (by omega) _).mono ?_; rintro e w7 ⟨v, rfl, hE, hb7⟩; have hR7 := (hR4).call hb7) | (refine wpList_store_blk hR7 row_dec rfl rfl rfl rfl rfl rfl (by kernel_rfl) ?_; intro w8 hR8 hS8; go_simp))
    exact bodyPost_ret (results_ct hR8 row_dec rfl Tryz.results20 rfl rfl) rfl
      ⟨none, 0, 0, v, by rw [hres.out]; rfl, by rw [hres.out]; exact IL.nil _, by rw [hres.out]; exact (hE.mono hlt4).sto hS8 (Nat.lt_succ_self _) |>.mono (by omega), hS8.below hR7.later (by omega), fun h => absurd h (by omega)⟩

end Go.Proofs.YtjinbhnpcdlkiaaGreatDoor

