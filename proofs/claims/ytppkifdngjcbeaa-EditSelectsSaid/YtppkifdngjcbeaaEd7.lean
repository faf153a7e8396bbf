/- The walks of where ways lead: ahead, behind, a word left, a word right, home, end. No condition. -/
import Derived.Test.YtppkifdngjcbeaaEd3
import Derived.Test.YtppkifdngjcbeaaDr6
namespace Go.Proofs.Ytppkifdngjcbeaa
open Go.RowKit

/-- A state whose caret is one of atoms left of a place. -/
def Car (x : SV) : Prop := 0 ≤ x.c ∧ x.c ≤ lenR x.v.d
theorem lenR_le {x : DV} {W : World} (h : x.ok W) (hf : x.fit) : lenR x.d ≤ 20001 := by
  have e := atoms_len x.l x.p x.f
  have e1 := h.1.len
  have e2 := h.2.len
  have e3 := hf.2.2.1
  have e4 := hf.2.2.2
  have e5 : lenR x.d = ((atomsD x.l x.p x.f).length : Int) := rfl
  omega

set_option maxHeartbeats 1000000 in
theorem eahead_any (x : SV) (w : World) (h : x.v.ok w) (hf : x.v.fit) (hc : Car x) :
    Calls Try.prog 94 #[.agg #[.bool x.v.b, .slice x.v.A x.v.n x.v.c, .bool x.v.p, .slice x.v.E x.v.m x.v.q, .int .i64 x.c, .int .i64 x.a]] w (RV w (.int .i64 (if x.c - 1 < 0 then 0 else x.c - 1))) := by
  have hX := SB.made w w 61 x (Later.refl w) h _ rfl
  have hb := lenR_le h hf
  obtain ⟨hc0, hc1⟩ := hc
  have hwr : IntKind.i64.wrap (x.c - 1) = x.c - 1 := IntWalk.i64_in _ (by omega)
  have hD : Hid ((if x.c - 1 < 0 then 0 else x.c - 1) = if x.c - 1 < 0 then 0 else x.c - 1) := rfl
  by_cases h0 : x.c - 1 < 0
  · rw [if_pos h0]
    clear hD
    go_enter Try.func94, Try.ntmps94
    go_upto_region 1 with fail
    generalize World.alloc w _ = w1 at *
    have q4 := hX.c4
    go_wp2_with fail
    go_ret
    exact ⟨rfl, hX.later⟩
  · rw [if_neg h0]
    clear hD
    go_enter Try.func94, Try.ntmps94
    go_upto_region 1 with fail
    generalize World.alloc w _ = w1 at *
    have q4 := hX.c4
    go_wp2_with fail
    go_ret
    exact ⟨rfl, hX.later⟩

set_option maxHeartbeats 1000000 in
theorem ebehind_any (x : SV) (w : World) (h : x.v.ok w) (hf : x.v.fit) (hc : Car x) :
    Calls Try.prog 95 #[.agg #[.bool x.v.b, .slice x.v.A x.v.n x.v.c, .bool x.v.p, .slice x.v.E x.v.m x.v.q, .int .i64 x.c, .int .i64 x.a]] w (RV w (.int .i64 (if lenR x.v.d < x.c + 1 then lenR x.v.d else x.c + 1))) := by
  have hX := SB.made w w 61 x (Later.refl w) h _ rfl
  have hb := lenR_le h hf
  have hlen := Lib.hid (fun W (hW : x.v.ok W) => show Calls Try.prog 27 #[.agg #[.bool x.v.b, .slice x.v.A x.v.n x.v.c, .bool x.v.p, .slice x.v.E x.v.m x.v.q]] W (RV W (.int .i64 (lenR x.v.d))) from len_any x.v.b x.v.p W hW.1 hW.2 (by have := hf.2.2.1; omega) (by have := hf.2.2.2; omega))
  obtain ⟨hc0, hc1⟩ := hc
  generalize lenR x.v.d = q at *
  have hwr : IntKind.i64.wrap (x.c + 1) = x.c + 1 := IntWalk.i64_in _ (by omega)
  obtain ⟨R, hR⟩ : ∃ R, (if q < x.c + 1 then q else x.c + 1) = R := ⟨_, rfl⟩
  rw [hR]
  go_enter Try.func95, Try.ntmps95
  go_upto_region 1 with fail
  generalize World.alloc w _ = w1 at *
  have hL := hX.later
  have KX0 := fun s : Ext w1 => Ext.cell hX.c0 s
  have KX1 := fun s : Ext w1 => Ext.cell hX.c1 s
  have KX2 := fun s : Ext w1 => Ext.cell hX.c2 s
  have KX3 := fun s : Ext w1 => Ext.cell hX.c3 s
  have KX4 := fun s : Ext w1 => Ext.cell hX.c4 s
  have hl2 := Lib.hid (fun s : Ext w1 => hlen.out s.world (hX.ok.below s.h))
  clear hlen hX
  refine wp_region_ext (by kernel_rfl) (by kernel_rfl) ?_
  repeat (go_big_quiet_step (first
    | (go_at_call 27; exact quiet_ext _ (hl2.out _))))
  refine wpQuiet_nil ?_
  rintro _ ⟨s, rfl⟩
  go_wp2_with fail
  go_ret
  exact ⟨rfl, below_from hL s.h⟩

set_option maxHeartbeats 1000000 in
theorem ehome_any (x : SV) (w : World) (h : x.v.ok w) :
    Calls Try.prog 98 #[.agg #[.bool x.v.b, .slice x.v.A x.v.n x.v.c, .bool x.v.p, .slice x.v.E x.v.m x.v.q, .int .i64 x.c, .int .i64 x.a]] w (RV w (.int .i64 0)) := by
  have hX := SB.made w w 61 x (Later.refl w) h _ rfl
  go_enter Try.func98, Try.ntmps98
  go_wp2_with fail
  go_ret
  exact ⟨rfl, hX.later⟩

set_option maxHeartbeats 1000000 in
theorem eend_any (x : SV) (w : World) (h : x.v.ok w) (hf : x.v.fit) :
    Calls Try.prog 99 #[.agg #[.bool x.v.b, .slice x.v.A x.v.n x.v.c, .bool x.v.p, .slice x.v.E x.v.m x.v.q, .int .i64 x.c, .int .i64 x.a]] w (RV w (.int .i64 (lenR x.v.d))) := by
  have hX := SB.made w w 61 x (Later.refl w) h _ rfl
  have hlen := Lib.hid (fun W (hW : x.v.ok W) => show Calls Try.prog 27 #[.agg #[.bool x.v.b, .slice x.v.A x.v.n x.v.c, .bool x.v.p, .slice x.v.E x.v.m x.v.q]] W (RV W (.int .i64 (lenR x.v.d))) from len_any x.v.b x.v.p W hW.1 hW.2 (by have := hf.2.2.1; omega) (by have := hf.2.2.2; omega))
  generalize lenR x.v.d = q at *
  go_enter Try.func99, Try.ntmps99
  go_upto_region 1 with fail
  generalize World.alloc w _ = w1 at *
  have q0 := hX.c0
  have q1 := hX.c1
  have q2 := hX.c2
  have q3 := hX.c3
  go_wp2_with fail
  refine (hlen.out _ hX.ok).mono ?_
  rintro e w2 ⟨rfl, hB⟩
  go_wp2_with fail
  go_ret
  exact ⟨rfl, hX.later.call hB⟩

set_option maxHeartbeats 4000000 in
theorem eleft_any (x : SV) (w : World) (h : x.v.ok w) (hf : x.v.fit) (hc : Car x) :
    Calls Try.prog 96 #[.agg #[.bool x.v.b, .slice x.v.A x.v.n x.v.c, .bool x.v.p, .slice x.v.E x.v.m x.v.q, .int .i64 x.c, .int .i64 x.a]] w (RV w (.int .i64 (leftS (atomsR x.v.d) x.c))) := by
  have hX := SB.made w w 61 x (Later.refl w) h _ rfl
  have hb := lenR_le h hf
  have hat := Lib.hid (fun W (hW : x.v.ok W) => show Calls Try.prog 72 #[.agg #[.bool x.v.b, .slice x.v.A x.v.n x.v.c, .bool x.v.p, .slice x.v.E x.v.m x.v.q]] W (RL W (atomsR x.v.d)) from (atoms_any x.v.b x.v.p W hW.1 hW.2 (by have := hf.2.2.1; omega) (by have := hf.2.2.2; omega)).mono (fun _ _ h => h.rl))
  obtain ⟨hc0, hc1⟩ := hc
  have hln : lenR x.v.d = ((atomsR x.v.d).length : Int) := rfl
  have hD : Hid (leftS (atomsR x.v.d) x.c = if x.c = 0 then 0 else if ((atomsR x.v.d).take x.c.toNat).getD (x.c.toNat - 1) 0 = 10 then x.c - 1 else idxP (· == 10) ((atomsR x.v.d).take x.c.toNat) 0 + 1) := rfl
  generalize leftS (atomsR x.v.d) x.c = D at *
  rw [hln] at hb hc1
  clear hln
  generalize atomsR x.v.d = L at *
  obtain ⟨k, hk⟩ : ∃ k : Nat, Hid (x.c = (k : Int)) := ⟨x.c.toNat, by rw [Hid]; omega⟩
  rw [hk.out, show ((k : Int)).toNat = k by omega] at hD
  go_enter Try.func96, Try.ntmps96
  go_upto_region 1 with fail
  generalize World.alloc w _ = w1 at *
  have hL1 := hX.later
  have HS : Hid (∀ W, Later w1 W → ((W.cell? ⟨w.heap.size, 0, none⟩ = some (.bool x.v.b) ∧ W.cell? ⟨w.heap.size, 1, none⟩ = some (.slice x.v.A x.v.n x.v.c) ∧ W.cell? ⟨w.heap.size, 2, none⟩ = some (.bool x.v.p) ∧ W.cell? ⟨w.heap.size, 3, none⟩ = some (.slice x.v.E x.v.m x.v.q) ∧ W.cell? ⟨w.heap.size, 4, none⟩ = some (.int .i64 (k : Int))) ∧ Later w1 W)) := fun W hW => by
    have q := (hX.call hW)
    exact ⟨⟨q.c0, q.c1, q.c2, q.c3, by rw [← hk.out]; exact q.c4⟩, hW⟩
  have hxo := Lib.hid (fun W (hW : Later w1 W) => (hX.call hW).ok)
  clear hX
  rw [hk.out] at hc0 hc1
  go_cut [3] (fun s W => ∃ (A : Option Addr) (n c : Nat), s = .slice A n c ∧ IL W A n c (L.take k) ∧ Later w1 W)
  case first =>
    go_region_held3 (fun W => (W.cell? ⟨w.heap.size, 0, none⟩ = some (.bool x.v.b) ∧ W.cell? ⟨w.heap.size, 1, none⟩ = some (.slice x.v.A x.v.n x.v.c) ∧ W.cell? ⟨w.heap.size, 2, none⟩ = some (.bool x.v.p) ∧ W.cell? ⟨w.heap.size, 3, none⟩ = some (.slice x.v.E x.v.m x.v.q) ∧ W.cell? ⟨w.heap.size, 4, none⟩ = some (.int .i64 (k : Int))) ∧ Later w1 W)
      ((refine HS.out _ ?_; repeat (first | exact And.right (by assumption) | exact Later.refl _ | refine Later.drew ?_ | refine Later.alloc ?_ _ | refine Later.call ?_ hB1)))
      (first | (go_at_call 72; refine (hat.out _ (hxo.out _ (And.right (by assumption)))).mono ?_; rintro e wc1 ⟨A1, n1, c1, rfl, hI1, hB1⟩; have hle1 := hI1.le; have hcap1 := hI1.cap; have hln1 := Lib.hid hI1.len; have hkn : k ≤ n1 := (by have := hln1.out; omega); have hkn2 : (k : Int) ≤ (n1 : Int) := (by omega); have hkc2 : (k : Int) ≤ (c1 : Int) := (by omega); have hk0 : (0 : Int) ≤ (k : Int) := (by omega); have hLw : Later w1 wc1 := Later.call (And.right (by assumption)) hB1))
    all_goals
      go_wp2_with fail
      go_meet
      exact ⟨_, _, _, rfl, hI1.takev hkn rfl (fun _ => rfl), hLw⟩
  case rest =>
    obtain ⟨A, n, c, rfl, hI, hLc⟩ := hcut
    obtain ⟨w2, hw2⟩ : ∃ wm, wm = wc := ⟨_, rfl⟩
    rw [← hw2] at hI hLc
    rw [← hw2]
    clear hw2
    have hLz := below_from hL1 hLc
    have hle := hI.le
    have hcap := hI.cap
    have hlen := Lib.hid hI.len
    have hnk : Hid (n = k) := by rw [Hid, ← hlen.out]; simp; omega
    obtain rfl := hnk.out
    have hix := Lib.hid (fun W (hW : IL W A n c (L.take n)) => index_any 10 A n c (L.take n) W hW)
    have hib : -1 ≤ idxP (· == 10) (L.take n) 0 ∧ idxP (· == 10) (L.take n) 0 < 20002 := by
      rw [idx_pre]
      have := (List.takeWhile_sublist (p := fun x => !(x == 10)) (l := L.take n)).length_le
      have h3 : (L.take n).length ≤ 20001 := by simp; omega
      unfold preL
      split <;> omega
    generalize idxP (· == 10) (L.take n) 0 = ix at *
    by_cases h0 : n = 0
    · subst h0
      have hDv : Hid (D = 0) := by rw [Hid, hD.out, if_pos (by omega)]
      go_wp2_with fail
      go_ret
      exact ⟨by rw [hDv.out]; rfl, hLz⟩
    · have hn0 : ¬ (n : Int) = 0 := by omega
      have hn0b : ((n : Int) == 0) = false := by simpa using hn0
      obtain ⟨bb, off, e, hcl⟩ := hI.at_ (k := n - 1) (by omega)
      subst e
      have hwm : (n : Int) - 1 = ((n - 1 : Nat) : Int) := by omega
      have hw1 : IntKind.i64.wrap ((n : Int) - 1) = (n : Int) - 1 := IntWalk.i64_in _ (by omega)
      by_cases h10 : (L.take n).getD (n - 1) 0 = 10
      · have hDv : Hid (D = ((n - 1 : Nat) : Int)) := by rw [Hid, hD.out, if_neg (by omega), if_pos h10]; omega
        rw [h10] at hcl
        go_wp2_with fail
        go_ret
        exact ⟨by rw [hDv.out]; rfl, hLz⟩
      · have hDv : Hid (D = ix + 1) := by rw [Hid, hD.out, if_neg (by omega), if_neg h10]
        generalize (L.take n).getD (n - 1) 0 = dg at *
        have h10b : (dg == 10) = false := by simpa using h10
        have hw2 : IntKind.i64.wrap (ix + 1) = ix + 1 := IntWalk.i64_in _ (by omega)
        go_wp2_with fail
        refine (hix.out _ hI).mono ?_
        rintro e w3 ⟨rfl, rfl⟩
        go_wp2_with fail
        go_ret
        exact ⟨by rw [hDv.out]; rfl, hLz⟩

set_option maxHeartbeats 4000000 in
theorem eright_any (x : SV) (w : World) (h : x.v.ok w) (hf : x.v.fit) (hc : Car x) :
    Calls Try.prog 97 #[.agg #[.bool x.v.b, .slice x.v.A x.v.n x.v.c, .bool x.v.p, .slice x.v.E x.v.m x.v.q, .int .i64 x.c, .int .i64 x.a]] w (RV w (.int .i64 (rightS (atomsR x.v.d) x.c))) := by
  have hX := SB.made w w 61 x (Later.refl w) h _ rfl
  have hb := lenR_le h hf
  have hat := Lib.hid (fun W (hW : x.v.ok W) => show Calls Try.prog 72 #[.agg #[.bool x.v.b, .slice x.v.A x.v.n x.v.c, .bool x.v.p, .slice x.v.E x.v.m x.v.q]] W (RL W (atomsR x.v.d)) from (atoms_any x.v.b x.v.p W hW.1 hW.2 (by have := hf.2.2.1; omega) (by have := hf.2.2.2; omega)).mono (fun _ _ h => h.rl))
  obtain ⟨hc0, hc1⟩ := hc
  have hln : lenR x.v.d = ((atomsR x.v.d).length : Int) := rfl
  have hD : Hid (rightS (atomsR x.v.d) x.c = if idxP (· == 10) ((atomsR x.v.d).drop x.c.toNat) 0 < 0 then x.c + ((atomsR x.v.d).drop x.c.toNat).length else if idxP (· == 10) ((atomsR x.v.d).drop x.c.toNat) 0 = 0 then x.c + 1 else x.c + idxP (· == 10) ((atomsR x.v.d).drop x.c.toNat) 0) := rfl
  generalize rightS (atomsR x.v.d) x.c = D at *
  rw [hln] at hb hc1
  clear hln
  generalize atomsR x.v.d = L at *
  obtain ⟨k, hk⟩ : ∃ k : Nat, Hid (x.c = (k : Int)) := ⟨x.c.toNat, by rw [Hid]; omega⟩
  rw [hk.out, show ((k : Int)).toNat = k by omega] at hD
  go_enter Try.func97, Try.ntmps97
  go_upto_region 1 with fail
  generalize World.alloc w _ = w1 at *
  have hL1 := hX.later
  have HS : Hid (∀ W, Later w1 W → ((W.cell? ⟨w.heap.size, 0, none⟩ = some (.bool x.v.b) ∧ W.cell? ⟨w.heap.size, 1, none⟩ = some (.slice x.v.A x.v.n x.v.c) ∧ W.cell? ⟨w.heap.size, 2, none⟩ = some (.bool x.v.p) ∧ W.cell? ⟨w.heap.size, 3, none⟩ = some (.slice x.v.E x.v.m x.v.q) ∧ W.cell? ⟨w.heap.size, 4, none⟩ = some (.int .i64 (k : Int))) ∧ Later w1 W)) := fun W hW => by
    have q := (hX.call hW)
    exact ⟨⟨q.c0, q.c1, q.c2, q.c3, by rw [← hk.out]; exact q.c4⟩, hW⟩
  have hxo := Lib.hid (fun W (hW : Later w1 W) => (hX.call hW).ok)
  have hXc := Lib.hid (fun W (hW : Later w1 W) => show W.cell? ⟨w.heap.size, 4, none⟩ = some (.int .i64 (k : Int)) by rw [← hk.out]; exact (hX.call hW).c4)
  clear hX
  rw [hk.out] at hc0 hc1
  go_cut [3] (fun s W => ∃ (A : Option Addr) (n c : Nat), s = .slice A n c ∧ IL W A n c (L.drop k) ∧ Later w1 W)
  case first =>
    go_region_held3 (fun W => (W.cell? ⟨w.heap.size, 0, none⟩ = some (.bool x.v.b) ∧ W.cell? ⟨w.heap.size, 1, none⟩ = some (.slice x.v.A x.v.n x.v.c) ∧ W.cell? ⟨w.heap.size, 2, none⟩ = some (.bool x.v.p) ∧ W.cell? ⟨w.heap.size, 3, none⟩ = some (.slice x.v.E x.v.m x.v.q) ∧ W.cell? ⟨w.heap.size, 4, none⟩ = some (.int .i64 (k : Int))) ∧ Later w1 W)
      ((refine HS.out _ ?_; repeat (first | exact And.right (by assumption) | exact Later.refl _ | refine Later.drew ?_ | refine Later.alloc ?_ _ | refine Later.call ?_ hB1)))
      (first | (go_at_call 72; refine (hat.out _ (hxo.out _ (And.right (by assumption)))).mono ?_; rintro e wc1 ⟨A1, n1, c1, rfl, hI1, hB1⟩; have hle1 := hI1.le; have hcap1 := hI1.cap; have hln1 := Lib.hid hI1.len; have hkn : k ≤ n1 := (by have := hln1.out; omega); have hkn2 : (k : Int) ≤ (n1 : Int) := (by omega); have hkc2 : (k : Int) ≤ (c1 : Int) := (by omega); have hk0 : (0 : Int) ≤ (k : Int) := (by omega); have hLw : Later w1 wc1 := Later.call (And.right (by assumption)) hB1))
    all_goals go_wp2_with fail
    all_goals
      go_meet
      exact ⟨_, _, _, rfl, hI1.dropv hkn (by omega) (by omega) (fun hk => by first | rfl | (exfalso; omega)), hLw⟩
  case rest =>
    obtain ⟨A, n, c, rfl, hI, hLc⟩ := hcut
    obtain ⟨w2, hw2⟩ : ∃ wm, wm = wc := ⟨_, rfl⟩
    rw [← hw2] at hI hLc
    rw [← hw2]
    clear hw2
    have hLz := below_from hL1 hLc
    have hle := hI.le
    have hcap := hI.cap
    have hlen := Lib.hid hI.len
    have hnk : Hid (((L.drop k).length : Int) = (n : Int)) := by rw [Hid, hlen.out]
    have hnb : (n : Int) ≤ 20001 := by rw [← hnk.out]; simp; omega
    have hix := Lib.hid (fun W (hW : IL W A n c (L.drop k)) => index_any 10 A n c (L.drop k) W hW)
    have hib : -1 ≤ idxP (· == 10) (L.drop k) 0 ∧ idxP (· == 10) (L.drop k) 0 < 20002 := by
      rw [idx_pre]
      have := (List.takeWhile_sublist (p := fun x => !(x == 10)) (l := L.drop k)).length_le
      have h3 : (L.drop k).length ≤ 20001 := by simp; omega
      unfold preL
      split <;> omega
    rw [hnk.out] at hD
    generalize idxP (· == 10) (L.drop k) 0 = ix at *
    have q4 := hXc.out w2 hLc
    have hw1 : IntKind.i64.wrap ((k : Int) + (n : Int)) = (k : Int) + (n : Int) := IntWalk.i64_in _ (by omega)
    have hw3 : IntKind.i64.wrap ((k : Int) + 1) = (k : Int) + 1 := IntWalk.i64_in _ (by omega)
    have hw4 : IntKind.i64.wrap ((k : Int) + ix) = (k : Int) + ix := IntWalk.i64_in _ (by omega)
    by_cases h0 : ix < 0
    · have hDv : Hid (D = (k : Int) + (n : Int)) := by rw [Hid, hD.out, if_pos h0]
      go_wp2_with fail
      refine (hix.out _ hI).mono ?_
      rintro e w3 ⟨rfl, rfl⟩
      go_wp2_with fail
      go_ret
      exact ⟨by rw [hDv.out]; rfl, hLz⟩
    · by_cases h1 : ix = 0
      · have hDv : Hid (D = (k : Int) + 1) := by rw [Hid, hD.out, if_neg h0, if_pos h1]
        subst h1
        go_wp2_with fail
        refine (hix.out _ hI).mono ?_
        rintro e w3 ⟨rfl, rfl⟩
        go_wp2_with fail
        go_ret
        exact ⟨by rw [hDv.out]; rfl, hLz⟩
      · have hDv : Hid (D = (k : Int) + ix) := by rw [Hid, hD.out, if_neg h0, if_neg h1]
        have h1b : (ix == 0) = false := by simpa using h1
        go_wp2_with fail
        refine (hix.out _ hI).mono ?_
        rintro e w3 ⟨rfl, rfl⟩
        go_wp2_with fail
        go_ret
        exact ⟨by rw [hDv.out]; rfl, hLz⟩

end Go.Proofs.Ytppkifdngjcbeaa
