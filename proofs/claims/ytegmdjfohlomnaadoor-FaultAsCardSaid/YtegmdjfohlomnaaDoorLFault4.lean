/- The walk of the law FaultAs. No condition. -/
import Derived.Test.YtegmdjfohlomnaaDoorLFault3
namespace Go.Proofs.YtegmdjfohlomnaaDoor
open Go.RowKit

theorem unwrap_any (p : Nat) (s : ByteArray) (u : Value) (w : World) (hh : w.heap[p]? = some (.cells #[.string s, u] 44 (0, 0))) :
    Calls Tryd.prog 22 #[.pointer (some ⟨p, 0, none⟩)] w fun e w' => e = .returned u ∧ w' = w := by
  have c2 : w.cell? ⟨p, 1, none⟩ = some u := by rw [cell_of_row w _ 1 _ _ (0, 0) hh]; rfl
  go_enter Tryd.func22, Tryd.ntmps22
  go_wp2
  go_ret
  exact ⟨rfl, rfl⟩
theorem error_any (c : Int) (p : Nat) (ws : List ByteArray) (B : Nat) (w : World) (hG : Gl w) (hC : Ch w ws B c (.iface 40 (.pointer (some ⟨p, 0, none⟩)))) (hB : B ≤ w.heap.size) (hL : ws.length ≤ 1000) (hc0 : -9223372036854775808 ≤ c) (hc1 : c ≤ 9223372036854775807)
    (hlen : (textB ws c).size ≤ 140737488355328) : Calls Tryd.prog 23 #[.pointer (some ⟨p, 0, none⟩)] w (RV w (.string (textB ws c))) := by
  have ht := Lib.hid (text_any c _ ws B w hG hC hB hL hc0 hc1 hlen)
  generalize textB ws c = tx at *
  go_enter Tryd.func23, Tryd.ntmps23
  go_wp2_with fail
  refine ht.out.mono ?_
  rintro e w2 ⟨rfl, hb2⟩
  go_wp2_with fail
  go_ret
  exact ⟨rfl, hb2⟩

theorem wrap_cells (s : ByteArray) (t0 : TypeId) (y0 : Value) (w : World) :
    Calls Tryd.prog 18 #[.string s, .iface t0 y0] w fun e w' => e = .returned (.iface 40 (.pointer (some ⟨w.heap.size, 0, none⟩))) ∧ w'.heap[w.heap.size]? = some (.cells #[.string s, .iface t0 y0] 44 (0, 0)) ∧ Below w.heap.size w w' := by
  go_enter Tryd.func18, Tryd.ntmps18
  go_wp2
  go_ret
  exact ⟨rfl, heap_alloc_new _ _, (Below.refl _ _).alloc (Nat.le_refl _) _⟩
set_option maxHeartbeats 2000000 in
theorem faultAs_walk (w : World) (hG : Gl w) {n0 : Int} (hn : -9223372036854775808 ≤ n0 ∧ n0 ≤ 9223372036854775807) {A : Option Addr} {n c : Nat} {ss : List ByteArray} (h : SL w A n c ss) {last : ByteArray} (_hl : last.size ≤ 9223372036854775807) :
    Calls Tryd.prog 6 #[.int .i64 n0, .slice A n c, .string last] w fun e w' => e = .returned (.bool true) ∧ Below w.heap.size w w' := by
  have hpl : (pathS ss 6).length ≤ 6 := by rw [pathS_len]; omega
  have hps := Lib.hid (pathS_size ss 6)
  have hbeg := Lib.hid (begin_any n0 A n c ss w h)
  have hcb := codeS_bd hn
  have hfew := Lib.hid (fun W => few_any last 12 W (by omega))
  have hfs := fewB_size last 12
  generalize pathS ss 6 = P at *
  generalize codeS n0 = C at *
  generalize fewB last 12 = t at *
  have hts := Lib.hid (textB_size (ws := t :: P) (c := C) (fun x hx => by rcases List.mem_cons.1 hx with rfl | hx; exact hfs; exact hps.out x hx) (by simp; omega) hcb.1 hcb.2)
  have htt : (t.toList == t.toList) = true := beq_self_eq_true _
  have hcc : (C == C) = true := beq_self_eq_true _
  have hPP := decide_eq_true (rfl : P = P)
  go_enter Tryd.func6, Tryd.ntmps6
  go_wp2_with fail
  refine hbeg.out.mono ?_
  rintro e w1 ⟨v, A1, n1, c1, rfl, hC1, hS1, hb1⟩
  have hn1 := hS1.len
  obtain ⟨tv, yv, rfl⟩ := hC1.iface
  go_wp2_with fail
  refine (hfew.out _).mono ?_
  rintro e w2 ⟨rfl, rfl⟩
  have hbA : Below w2.heap.size w2 (w2.alloc (.cells #[.pointer none] 40)) := (Below.refl _ _).alloc (Nat.le_refl _) _
  have hgA : (w2.alloc (.cells #[.pointer none] 40)).heap[w2.heap.size]? = some (.cells #[.pointer none] 40 (0, 0)) := heap_alloc_new _ _
  have hCA := (hC1.below hbA (Nat.le_refl _)).mono (Below.size hbA)
  have hszA : w2.heap.size < (w2.alloc (.cells #[.pointer none] 40)).heap.size := by simp
  go_wp2_with fail
  generalize w2.alloc (.cells #[.pointer none] 40) = wa at *
  refine (wrap_cells t _ _ _).mono ?_
  rintro e w3 ⟨rfl, hh3, hb3⟩
  have hg3 := (hb3.block _ hszA).trans hgA
  have hb13 := below_from (below_from hb1 hbA) hb3
  have hb23 := below_from hbA hb3
  have hq3 : wa.heap.size < w3.heap.size := (Array.getElem?_eq_some_iff.1 hh3).1
  generalize wa.heap.size = q at *
  go_wp2_with fail
  refine (as_F ⟨q, 0, none⟩ w2.heap.size _ _ (hG.below hb13).et hg3).mono ?_
  rintro e w4 ⟨rfl, hg4, hcell⟩
  have hC4 : Ch w4 P w2.heap.size C (.iface tv yv) := (hC1.below hb23 (Nat.le_refl _)).grown hg4 (by omega) (Nat.le_refl _)
  have hh4 : w4.heap[q]? = some (.cells #[.string t, .iface tv yv] 44 (0, 0)) := (hg4.block q hq3 (by intro e; injection e with e; omega)).trans hh3
  have hb24 : Below w2.heap.size w2 w4 := hb23.grown hg4 (by omega) (by intro k e; injection e with e; omega)
  have hb14 : Below w.heap.size w w4 := below_from hb1 hb24
  have hs4 := hg4.size
  have hs2 : w.heap.size ≤ w2.heap.size := Below.size hb1
  have hcA : w4.cell? ⟨w2.heap.size, 0, none⟩ = some (.pointer (some ⟨q, 0, none⟩)) := by rw [cell_of_row w4 _ 0 _ _ (0, 0) hcell]; rfl
  have hcB : w4.cell? ⟨q, 0, none⟩ = some (.string t) := by rw [cell_of_row w4 _ 0 _ _ (0, 0) hh4]; rfl
  have hcC : w4.cell? ⟨q, 1, none⟩ = some (.iface tv yv) := by rw [cell_of_row w4 _ 1 _ _ (0, 0) hh4]; rfl
  go_wp2_with fail
  refine (code_any C _ P _ _ (hG.below hb14) hC4 (by omega)).mono ?_
  rintro e w5 ⟨rfl, hb5⟩
  have hb15 := below_from hb14 hb5
  have hs5 := Below.size hb5
  have hC5 := hC4.below hb5 (by omega)
  have hh5 := (hb5.block q (by omega)).trans hh4
  have hcell5 := (hb5.block w2.heap.size (by omega)).trans hcell
  have hcA5 : w5.cell? ⟨w2.heap.size, 0, none⟩ = some (.pointer (some ⟨q, 0, none⟩)) := by rw [cell_of_row w5 _ 0 _ _ (0, 0) hcell5]; rfl
  go_wp2_with fail
  refine (unwrap_any q t _ _ hh5).mono ?_
  rintro e w6 ⟨rfl, rfl⟩
  go_wp2_with fail
  refine (path_any C _ P _ _ (hG.below hb15) hC5 (by omega) (by omega)).mono ?_
  rintro e w7 ⟨A7, n7, c7, rfl, hO7, hb7⟩
  have hb17 := below_from hb15 hb7
  have hs7 := Below.size hb7
  have hS7 : SL w7 A1 n1 c1 P := VL.below (VL.below (VL.below hS1 hb24) hb5) hb7
  go_wp2_with fail
  refine (texts_any _ _ _ _ _ _ _ _ _ hO7.sl hS7).mono ?_
  rintro e w8 ⟨rfl, k8, hw8⟩
  have hb78 : Below w7.heap.size w7 w8 := by rw [hw8]; exact below_drewN _ _ _
  clear hw8
  have hb18 := below_from hb17 hb78
  have hs8 := Below.size hb78
  have hh8 := (hb78.block q (by omega)).trans ((hb7.block q (by omega)).trans hh5)
  have hcell8 := (hb78.block w2.heap.size (by omega)).trans ((hb7.block w2.heap.size (by omega)).trans hcell5)
  have hcA8 : w8.cell? ⟨w2.heap.size, 0, none⟩ = some (.pointer (some ⟨q, 0, none⟩)) := by rw [cell_of_row w8 _ 0 _ _ (0, 0) hcell8]; rfl
  have hC8 : Ch w8 (t :: P) (q + 1) C (.iface 40 (.pointer (some ⟨q, 0, none⟩))) := ⟨q, _, by omega, rfl, hh8, ((hC5.below hb7 (by omega)).below hb78 (by omega)).mono (by omega)⟩
  have hS8 : SL w8 A1 n1 c1 P := VL.below hS7 hb78
  have herr := Lib.hid (error_any C q (t :: P) (q + 1) w8 (hG.below hb18) hC8 (by omega) (by simp; omega) hcb.1 hcb.2 (Nat.le_trans hts.out (by decide)))
  have hrt := Lib.hid (fun A n c W h hn => rtext_any A n c (t :: P) C W h (fun x hx => by rcases List.mem_cons.1 hx with rfl | hx; exact hfs; exact hps.out x hx) hn hcb.1 hcb.2)
  generalize textB (t :: P) C = tx at *
  have hxx : (tx.toList == tx.toList) = true := beq_self_eq_true _
  go_wp2_with fail
  refine herr.out.mono ?_
  rintro e w9 ⟨rfl, hb9⟩
  have hb19 := below_from hb18 hb9
  go_wp2_with fail
  refine (front_any t _ _ _ P _ (VL.below hS8 hb9) (by omega)).mono ?_
  rintro e w10 ⟨A10, n10, c10, rfl, hO10, hb10⟩
  have hb110 := below_from hb19 hb10
  have hn10 := hO10.sl.len
  go_wp2_with fail
  refine (hrt.out _ _ _ _ hO10.sl (by rw [← hn10]; simp; omega)).mono ?_
  rintro e w11 ⟨rfl, hb11⟩
  have hb111 := below_from hb110 hb11
  go_wp2_with fail
  refine (lives_any _ (hG.below hb111)).mono ?_
  rintro e w12 ⟨rfl, hb12⟩
  go_wp2_with fail
  go_ret
  exact ⟨rfl, below_from hb111 hb12⟩

end Go.Proofs.YtegmdjfohlomnaaDoor
