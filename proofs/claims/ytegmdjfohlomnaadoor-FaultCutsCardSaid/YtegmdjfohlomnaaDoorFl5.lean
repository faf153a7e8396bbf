/- The walks of the document's small functions of texts, of fault.Text and fault.Cut. No condition. -/
import Derived.Test.YtegmdjfohlomnaaDoorFl4
import Derived.Lib.AppendIntMem
namespace Go.Proofs.YtegmdjfohlomnaaDoor
open Go.RowKit

theorem str_ne {s t : ByteArray} (h : s ≠ t) : (s.toList == t.toList) = false := by
  rw [beq_eq_false_iff_ne]
  intro hh
  rw [ByteArray.toList_eq, ByteArray.toList_eq] at hh
  exact h (ByteArray.ext (Array.toList_inj.1 hh))
theorem SL.at_ {w : World} {A : Option Addr} {n c k : Nat} {ss : List ByteArray} (h : SL w A n c ss) (hk : k < n) : ∃ b off, A = some ⟨b, off, none⟩ ∧ w.cell? ⟨b, off + k, none⟩ = some (.string (ss.getD k ⟨#[]⟩)) := by
  obtain ⟨b, off, v, e, hv, hc⟩ := VL.at_ h hk
  have hl := h.len
  refine ⟨b, off, e, ?_⟩
  rw [hc, ← hv]
  simp [List.getD, List.getElem?_eq_getElem (show k < ss.length by omega)]
theorem strs_from {a b : List ByteArray} {k : Nat} (ha : k < a.length) (hb : k < b.length) : decide (a.drop k = b.drop k) = (decide (a.getD k ⟨#[]⟩ = b.getD k ⟨#[]⟩) && decide (a.drop (k + 1) = b.drop (k + 1))) := by
  simp only [List.getD, List.getElem?_eq_getElem ha, List.getElem?_eq_getElem hb, Option.getD_some]
  rw [List.drop_eq_getElem_cons ha, List.drop_eq_getElem_cons hb]
  simp only [List.cons.injEq, Bool.decide_and]

set_option maxHeartbeats 1000000 in
theorem texts_any (A : Option Addr) (n c : Nat) (l : List ByteArray) (A2 : Option Addr) (n2 c2 : Nat) (l2 : List ByteArray) (w : World) (h : SL w A n c l) (h2 : SL w A2 n2 c2 l2) :
    Calls Tryd.prog 15 #[.slice A n c, .slice A2 n2 c2] w (RQ w (.bool (decide (l = l2)))) := by
  have hle := VL.le h
  have hcap := VL.cap h
  have hle2 := VL.le h2
  have hcap2 := VL.cap h2
  have hlen := Lib.hid h.len
  have hlen2 := Lib.hid h2.len
  by_cases hn : n = n2
  · subst hn
    go_enter Tryd.func15, Tryd.ntmps15
    go_wp2
    go_loopw [5] (fun i wr => ∃ k j : Nat, k ≤ n ∧ i = .int .i64 k ∧ Hid (decide (l = l2) = decide (l.drop k = l2.drop k)) ∧ wr = w.drewN j) (fun i _ => n - (intOf i).toNat)
    case atStart => exact ⟨0, 0, Nat.zero_le _, rfl, rfl, rfl⟩
    case round =>
      obtain ⟨k, j, hk, rfl, hI, rfl⟩ := hrel
      by_cases hlt : k < n
      · obtain ⟨b, off, rfl, hc⟩ := h.at_ hlt
        obtain ⟨b2, off2, rfl, hc2⟩ := h2.at_ hlt
        have hst := Lib.hid (strs_from (a := l) (b := l2) (k := k) (by rw [hlen.out]; exact hlt) (by rw [hlen2.out]; exact hlt))
        generalize l.getD k ⟨#[]⟩ = x at *
        generalize l2.getD k ⟨#[]⟩ = y at *
        have hlt' : (k : Int) < (n : Int) := by omega
        have hk0 : (0 : Int) ≤ (k : Int) := by omega
        by_cases hxy : x = y
        · have hxx : Hid (decide (x = y) = true) := by simpa [Hid] using hxy
          have hne : (x.toList == y.toList) = true := by rw [hxy]; exact beq_self_eq_true _
          clear hxy
          go_wp2
          go_quiet (fail)
          go_wp2
          go_roundw
          case rel => exact ⟨k + 1, _, by omega, by go_num, by rw [Hid, hI.out, hst.out, hxx.out]; rfl, by first | rfl | exact World.drewN_drewN _ _ _⟩
          case measure => simp [intOf]; omega
        · have hxx : Hid (decide (x = y) = false) := by simpa [Hid] using hxy
          have hne : (x.toList == y.toList) = false := str_ne hxy
          clear hxy
          go_wp2
          go_quiet (fail)
          go_wp2
          go_ret
          exact ⟨ret_bool (by rw [hI.out, hst.out, hxx.out]; rfl), _, by first | rfl | exact World.drewN_drewN _ _ _⟩
      · have hkn : k = n := by omega
        subst hkn
        go_wp2
        go_ret
        exact ⟨ret_bool (by rw [hI.out, List.drop_of_length_le (by rw [hlen.out]; omega), List.drop_of_length_le (by rw [hlen2.out]; omega)]; rfl), j, rfl⟩
  · have e1 : decide (l = l2) = false := decide_eq_false fun he => hn (by rw [← hlen.out, ← hlen2.out, he])
    have E1 := Lib.hid e1
    clear e1
    go_enter Tryd.func15, Tryd.ntmps15
    go_wp2
    go_ret
    exact ⟨ret_bool (by rw [E1.out]), 0, rfl⟩

theorem front_any (s : ByteArray) (A : Option Addr) (n c : Nat) (l : List ByteArray) (w : World) (h : SL w A n c l) (hn : n ≤ 1000) :
    Calls Tryd.prog 24 #[.string s, .slice A n c] w (RS w (s :: l)) := by
  go_enter Tryd.func24, Tryd.ntmps24
  go_wp2_with (first
    | (at_builtin; refine wpList_append_SO w.heap.size rfl _ _ rfl rfl rfl (show SO (w.alloc (.cells #[.string s] 9)) w.heap.size none 0 0 [] from OV.nil _ _ _) (SL.one _ _ _) (by simp) (by omega) ?_; intro A2 c2 w2 hO2 hb2 hg2
       have hb3 : Below w.heap.size w w2 := ((Below.refl _ _).alloc (Nat.le_refl _) _).trans hb2)
    | (at_builtin; refine wpList_append_SO w.heap.size rfl _ _ rfl rfl rfl (hO2 : SO w2 w.heap.size A2 1 c2 [s]) (VL.below h hb3) (Below.size hb3) (by omega) ?_; intro A3 c3 w3 hO3 hb4 hg3))
  go_ret
  exact ⟨A3, _, c3, rfl, hO3, hb3.trans hb4⟩

def fewB (s : ByteArray) (m : Nat) : ByteArray := if m < s.size then s.extract 0 m else s
theorem fewB_size (s : ByteArray) (m : Nat) : (fewB s m).size ≤ m := by
  unfold fewB
  split
  · rw [ByteArray.size_extract]; omega
  · omega
theorem few_any (s : ByteArray) (m : Nat) (w : World) (hm : m ≤ 1000000) :
    Calls Tryd.prog 20 #[.string s, .int .i64 (m : Int)] w fun e w' => e = .returned (.string (fewB s m)) ∧ w' = w := by
  by_cases h : m < s.size
  · have hr : Hid (fewB s m = s.extract 0 m) := by unfold Hid fewB; rw [if_pos h]
    go_enter Tryd.func20, Tryd.ntmps20
    go_wp2
    go_ret
    exact ⟨by rw [hr.out]; rfl, rfl⟩
  · have hr : Hid (fewB s m = s) := by unfold Hid fewB; rw [if_neg h]
    go_enter Tryd.func20, Tryd.ntmps20
    go_wp2
    go_ret
    exact ⟨by rw [hr.out]; rfl, rfl⟩

/-- The library's decimal numeral, and its texts joined by a colon and a blank. -/
def itB (c : Int) : ByteArray := ⟨(Lib.itoa c).toArray⟩
def joinB (xs : List ByteArray) : ByteArray := ⟨(Lib.join (xs.map fun t => t.data.toList) [58, 32]).toArray⟩
theorem itoa_any (c : Int) (w : World) (hG : Gl w) (hc0 : -9223372036854775808 ≤ c) (hc1 : c ≤ 9223372036854775807) : Calls Tryd.prog 30 #[.int .i64 c] w (RV w (.string (itB c))) :=
  (Tryd.strconv_Itoa c hc0 hc1 w hG.tab).mono fun _ _ ⟨he, k, os, hw⟩ => ⟨he, by rw [hw]; exact Lib.below_grow _ _ (Nat.le_refl _) _ _⟩
theorem join_any (A : Option Addr) (n c : Nat) (xs : List ByteArray) (w : World) (h : SL w A n c xs) (hn : 0 < n) (hn2 : n ≤ 1000000) (hlen : (joinB xs).size ≤ 140737488355328) :
    Calls Tryd.prog 29 #[.slice A n c, .string { data := #[58, 32] }] w (RV w (.string (joinB xs))) := by
  obtain ⟨h1, h2, h3, h4⟩ := h
  obtain ⟨b, off, rfl, hb, hc⟩ := h4 hn
  have hl : xs.length = n := by simpa using h1
  subst hl
  exact (Tryd.strings_Join b off c xs ⟨#[58, 32]⟩ w (fun j x hj => hc j _ (by simp [hj])) hb (by omega) h2 (by simpa [joinB, ByteArray.size] using hlen)).mono fun _ _ ⟨he, hw⟩ => ⟨he, hw⟩
/-- The text of a code in so many faults. -/
def textB (ws : List ByteArray) (c : Int) : ByteArray := joinB (ws ++ [itB c])
theorem text_nil (w : World) : Calls Tryd.prog 11 #[.nilIface] w (RV w (.string ⟨#[]⟩)) := by
  go_enter Tryd.func11, Tryd.ntmps11
  go_wp2
  go_ret
  exact ⟨rfl, Below.refl _ _⟩
set_option maxHeartbeats 1000000 in
theorem text_any (c : Int) (v0 : Value) (ws : List ByteArray) (B : Nat) (w : World) (hG : Gl w) (hC : Ch w ws B c v0) (hB : B ≤ w.heap.size) (hL : ws.length ≤ 1000) (hc0 : -9223372036854775808 ≤ c) (hc1 : c ≤ 9223372036854775807)
    (hlen : (textB ws c).size ≤ 140737488355328) :
    Calls Tryd.prog 11 #[v0] w (RV w (.string (textB ws c))) := by
  obtain ⟨t0, y0, rfl⟩ := hC.iface
  have hcode := Lib.hid (fun W hb => code_any c (.iface t0 y0) ws B W (hG.below hb) (hC.below hb hB) (Nat.le_trans hB (Below.size hb)))
  have hitoa := Lib.hid (fun W hb => itoa_any c W (hG.below hb) hc0 hc1)
  have hpath := Lib.hid (path_any c (.iface t0 y0) ws B w hG hC hB hL)
  have hLen := Lib.hid hlen
  unfold textB at hLen ⊢
  clear hlen hG hC
  generalize itB c = it at *
  go_enter Tryd.func11, Tryd.ntmps11
  go_wp2_with fail
  refine hpath.out.mono ?_
  rintro e w1 ⟨A, n, c1, rfl, hO, hb1⟩
  have hn := hO.sl.len
  go_wp2_with fail
  refine (hcode.out _ hb1).mono ?_
  rintro e w2 ⟨rfl, hb2⟩
  have hb12 : Below w.heap.size w w2 := below_from hb1 hb2
  go_wp2_with fail
  refine (hitoa.out _ hb12).mono ?_
  rintro e w3 ⟨rfl, hb3⟩
  have hO3 : SO w3 w.heap.size A n c1 ws := OV.below (OV.below hO hb2) hb3
  have hb13 : Below w.heap.size w w3 := below_from hb12 hb3
  go_wp2_with (at_builtin; refine wpList_append_SO w.heap.size rfl _ _ rfl rfl rfl (OV.alloc hO3 _) (SL.one _ _ _) (by simp; have := Below.size hb13; omega) (by omega) ?_; intro A4 c4 w4 hO4 hb4 hg4)
  refine (join_any _ _ _ _ _ hO4.sl (by omega) (by omega) hLen.out).mono ?_
  rintro e w5 ⟨rfl, hb5⟩
  go_wp2_with fail
  go_ret
  exact ⟨rfl, below_from ((hb13.alloc (Below.size hb13) _).trans hb4) hb5⟩

end Go.Proofs.YtegmdjfohlomnaaDoor
