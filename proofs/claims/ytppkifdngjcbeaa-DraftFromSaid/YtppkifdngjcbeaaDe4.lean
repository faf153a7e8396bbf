/- The walk of the document's parts of a decimal. No condition. -/
import Derived.Test.YtppkifdngjcbeaaDe3
import Derived.Deep.DeepCutAuto
namespace Go.Proofs.Ytppkifdngjcbeaa
open Go.RowKit

set_option maxHeartbeats 1000000 in
theorem rparts_any {A : Option Addr} {n c : Nat} {l : List Int} (b : Bool) (s : Nat) (w : World) (h : IL w A n c l) (hn : n ≤ 1000000) (hs : s ≤ 1000000) :
    Calls Try.prog 68 #[.agg #[.bool b, .slice A n c, .int .i64 (s : Int)]] w (RP w (partsS l s).1 (partsS l s).2) := by
  have hlen := h.len
  have hwl := wideL_len l s
  have HP : Hid (partsS l s = (trimL ((wideL l s).take ((wideL l s).length - s)), (wideL l s).drop ((wideL l s).length - s))) := rfl
  have HW : Hid (wideL l s = List.replicate (s - n) 0 ++ l) := by rw [Hid, wideL, hlen]
  generalize partsS l s = P at *
  generalize wideL l s = y at *
  obtain ⟨a, ha⟩ : ∃ a, y.length = a + s := ⟨y.length - s, by omega⟩
  have hr1 : Hid (P = (trimL (y.take a), y.drop a)) := by rw [Hid, HP.out, ha, Nat.add_sub_cancel]
  have ha1 : a + s ≤ 1000000 := by omega
  have htr := Lib.hid (fun A n c W hW hn => rtrim_any A n c (y.take a) W hW hn)
  have HA := Lib.hid ha
  have HL := Lib.hid hlen
  have hXw := Blk.made w w 34 #[.bool b, .slice A n c, .int .i64 (s : Int)] (Later.refl w) _ rfl
  have hle := h.le
  have hcap := h.cap
  clear HP ha hwl hlen
  go_enter Try.func68, Try.ntmps68
  go_wp2_with fail
  go_loopw [4, 5] (fun v x wr => ∃ (j : Nat) (A' : Option Addr) (c' : Nat), v = .slice A' j c' ∧ x = .int .i64 ((n + j : Nat) : Int) ∧ j ≤ s - n ∧ OL wr (w.heap.size + 1) A' j c' (List.replicate j 0) ∧ Below (w.heap.size + 1) (w.alloc (.cells #[.bool b, .slice A n c, .int .i64 (s : Int)] 34)) wr)
    (fun _ x _ => s - (intOf x).toNat)
  case atStart => exact ⟨0, none, 0, rfl, rfl, Nat.zero_le _, OL.nil _ _, Below.refl _ _⟩
  case round =>
    obtain ⟨j, A', c', rfl, rfl, hj, hO, hB⟩ := hrel
    have hX : Blk w w.heap.size 34 #[.bool b, .slice A n c, .int .i64 (s : Int)] wr := hXw.under (Nat.lt_succ_self _) hB
    obtain ⟨⟨q0, q1, q2⟩, ⟨f0, f1, f2⟩⟩ := hX.cells3
    have hsz : w.heap.size + 1 ≤ wr.heap.size := hX.lt
    by_cases hlt : n + j < s
    · go_wp2_with (first
        | (at_builtin; refine wpList_append_OL (w.heap.size + 1) rfl _ _ rfl rfl rfl (hO.alloc _) (IL.one _ _ _) (by simp; omega) (by omega) ?_; intro A2 c2 w2 hO2 hB2 hg2))
      go_roundw
      case rel => exact ⟨j + 1, A2, c2, rfl, by first | rfl | go_num | (congr 1; omega), by omega, by rw [List.replicate_succ']; exact hO2, (hB.alloc hsz _).trans hB2⟩
      case measure => simp [intOf]; omega
    · have hjn : j = s - n := by omega
      have hy : Hid (y = List.replicate j 0 ++ l) := by rw [Hid, HW.out, hjn]
      clear hjn
      have hIl : IL wr A n c l := h.later hX.later
      have HX := Lib.hid hX
      clear hX
      go_upto_region 8 with (first
        | (at_builtin; refine wpList_append_OL (w.heap.size + 1) rfl (.tmp 19) (.tmp 21) rfl rfl rfl hO hIl hsz (by omega) ?_; intro A2 c2 w2 hO2 hB2 hg2; have hX2 := HX.out.under (Nat.lt_succ_self _) hB2; obtain ⟨⟨q0', q1', q2'⟩, _⟩ := hX2.cells3))
      have hjn : j + n = a + s := by have := HA.out; rw [hy.out] at this; simp at this; have := HL.out; omega
      rw [← hy.out] at hO2
      have hc2 := hO2.il.cap
      have hle2 := hO2.il.le
      have hI := hO2.il
      have HX2 := Lib.hid hX2
      clear hX2 hO2 hg2 hO
      have hwr : (j : Int) + (n : Int) - (s : Int) = (a : Int) := by omega
      by_cases hca : c2 = a
      all_goals
        go_wp2_with fail
        go_region_with (go_at_call 55; refine (htr.out _ _ _ _ ((hI.drew).takew (by omega) (by omega) (fun _ => rfl)) (by omega)).mono ?_; rintro e w3 ⟨A3, n3, c3, rfl, hO3, hB3⟩)
        all_goals
          clear hwr
          go_wp2_with fail
          go_ret2
          rw [hr1.out]
          have hb3 := HX2.out.later.drew.call hB3
          exact ⟨_, _, _, _, _, _, rfl, hO3.il, (hI.drew.below hB3).dropw (k := a) (by omega) (by omega) (by omega) (fun hk => by first | rfl | (exfalso; omega)), hb3⟩

end Go.Proofs.Ytppkifdngjcbeaa
