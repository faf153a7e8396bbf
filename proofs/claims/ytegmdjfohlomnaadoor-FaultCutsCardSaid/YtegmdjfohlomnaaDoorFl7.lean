/- The walks of fault.Cut, and of the document's Decimal and Text. No condition. -/
import Derived.Test.YtegmdjfohlomnaaDoorFl6
namespace Go.Proofs.YtegmdjfohlomnaaDoor
open Go.RowKit

set_option maxHeartbeats 1000000 in
theorem cut_any (c : Int) (v0 : Value) (ws : List ByteArray) (B : Nat) (n : Int) (w : World) (hG : Gl w) (hC : Ch w ws B c v0) (hB : B ≤ w.heap.size) (hn0 : -9223372036854775808 ≤ n) (hn1 : n ≤ 9223372036854775807) :
    Calls Tryd.prog 26 #[v0, .int .i64 n] w fun e w' => ∃ v, e = .returned v ∧ Ch w' (ws.drop n.toNat) w.heap.size c v ∧ Below w.heap.size w w' := by
  have hlt := hG.some_
  have hb1 : Below w.heap.size w (w.alloc (.cells #[.pointer none] 40)) := (Below.refl _ _).alloc (Nat.le_refl _) _
  generalize hPe : ws.drop n.toNat = PP
  have hPP := Lib.hid hPe
  clear hPe
  go_enter Tryd.func26, Tryd.ntmps26
  go_wp2
  go_loopw [0, 1] (fun v i wr => ∃ (k : Nat) (ws' : List ByteArray) (B' : Nat) (x : Value) (m : Int), i = .int .i64 m ∧ Hid (m = n - k) ∧ (k = 0 ∨ 0 ≤ m) ∧ m ≤ n ∧ -9223372036854775808 ≤ m ∧ Hid (ws' = ws.drop k) ∧ B' ≤ w.heap.size ∧ Ch wr ws' B' c v ∧
      wr.heap[w.heap.size]? = some (.cells #[x] 40 (0, 0)) ∧ Below w.heap.size w wr)
    (fun v _ _ => depthV v)
  case atStart =>
    exact ⟨0, ws, B, .pointer none, n, rfl, by unfold Hid; omega, .inl rfl, Int.le_refl _, hn0, rfl, hB, hC.below hb1 hB, heap_alloc_new _ _, hb1⟩
  case round =>
    obtain ⟨k, ws', B', x, m, rfl, hmk, hkm, hmn, hm0, hws, hB', hCh, hg, hb⟩ := hrel
    have hsz : w.heap.size < wr.heap.size := (Array.getElem?_eq_some_iff.1 hg).1
    have hG' := hG.below hb
    by_cases hm : 0 < m
    · cases ws' with
      | nil =>
        have hfin : PP = [] := by
          have h1 := hws.out
          have h2 := hmk.out
          rw [← hPP.out]
          have h3 : ws.length ≤ k := by simpa using h1.symm
          exact List.drop_of_length_le (by omega)
        obtain rfl := hCh
        go_wp2_with (go_at_call 21; refine (as_FE c w.heap.size x _ hG'.et hg).mono ?_; rintro e w' ⟨rfl, hb2⟩)
        go_ret
        exact ⟨_, rfl, by rw [hfin]; rfl, hb.trans (hb2.mono (by omega))⟩
      | cons s r =>
        obtain ⟨p, u, hp, rfl, hh, hr⟩ := hCh
        have hd := hr.depth
        obtain ⟨tu, yu, rfl⟩ := hr.iface
        have hdr := Lib.hid (show r = ws.drop (k + 1) by have := congrArg List.tail hws.out; simpa using this)
        go_wp2_with (go_at_call 21; refine (as_F ⟨p, 0, none⟩ w.heap.size x _ hG'.et hg).mono ?_; rintro e w' ⟨rfl, hg2, hcell⟩
                     have hs2 := hg2.size
                     have hh2 : w'.heap[p]? = some (.cells #[.string s, .iface tu yu] 44 (0, 0)) := (hg2.block p (by omega) (by intro e; injection e with e; omega)).trans hh
                     have hr2 : Ch w' r p c (.iface tu yu) := hr.grown hg2 (by omega) (by omega)
                     have hb2 : Below w.heap.size w w' := hb.grown hg2 (by omega) (by intro k e; injection e with e; omega)
                     have c1 : w'.cell? ⟨w.heap.size, 0, none⟩ = some (.pointer (some ⟨p, 0, none⟩)) := by (rw [cell_of_row w' _ 0 _ _ (0, 0) hcell]; rfl)
                     have c2 : w'.cell? ⟨p, 1, none⟩ = some (.iface tu yu) := by (rw [cell_of_row w' _ 1 _ _ (0, 0) hh2]; rfl))
        go_roundw
        case rel => exact ⟨k + 1, r, p, .pointer (some ⟨p, 0, none⟩), m - 1, by go_num, by have := hmk.out; unfold Hid; omega, .inr (by omega), by omega, by omega, hdr, by omega, hr2, hcell, hb2⟩
        case measure => exact Nat.lt_succ_of_le hd
    · have hfin : ws' = PP := by
        have h1 := hws.out
        have h2 := hmk.out
        rw [← hPP.out, h1]
        congr 1
        omega
      subst hfin
      go_wp2
      go_ret
      exact ⟨_, rfl, hCh.mono hB', hb⟩
set_option maxHeartbeats 1000000 in
theorem cut_nil (n : Int) (w : World) (hn0 : -9223372036854775808 ≤ n) (hn1 : n ≤ 9223372036854775807) :
    Calls Tryd.prog 26 #[.nilIface, .int .i64 n] w (RV w .nilIface) := by
  have hb1 : Below w.heap.size w (w.alloc (.cells #[.pointer none] 40)) := (Below.refl _ _).alloc (Nat.le_refl _) _
  by_cases hn : 0 < n
  · go_enter Tryd.func26, Tryd.ntmps26
    go_wp2
    refine wp_loop_rounds 1 ?_
    rw [rounds_succ]
    go_wp2_with (go_at_call 21; refine (as_nil _ _).mono ?_; rintro e w' ⟨rfl, rfl⟩)
    go_ret
    exact ⟨rfl, hb1⟩
  · go_enter Tryd.func26, Tryd.ntmps26
    go_wp2
    refine wp_loop_rounds 1 ?_
    rw [rounds_succ]
    go_wp2
    go_ret
    exact ⟨rfl, hb1⟩

end Go.Proofs.YtegmdjfohlomnaaDoor
