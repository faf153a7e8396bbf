/- The walks of fault.Path, Depth, Cut, and of the document's small functions of texts. No condition. -/
import Derived.Test.YtegmdjfohlomnaaDoorFl3
namespace Go.Proofs.YtegmdjfohlomnaaDoor
open Go.RowKit

/-- What a call hands back that makes a list of texts of its own. -/
def RS (w : World) (ss : List ByteArray) (e : Ending) (w' : World) : Prop := ∃ A n c, e = .returned (.slice A n c) ∧ SO w' w.heap.size A n c ss ∧ Below w.heap.size w w'

set_option maxHeartbeats 1000000 in
theorem path_any (c : Int) (v0 : Value) (ws : List ByteArray) (B : Nat) (w : World) (hG : Gl w) (hC : Ch w ws B c v0) (hB : B ≤ w.heap.size) (hL : ws.length ≤ 1000) :
    Calls Tryd.prog 16 #[v0] w (RS w ws) := by
  have hlt := hG.some_
  have hb1 : Below w.heap.size w (w.alloc (.cells #[.pointer none] 40)) := (Below.refl _ _).alloc (Nat.le_refl _) _
  go_enter Tryd.func16, Tryd.ntmps16
  go_wp2
  go_loopw [0, 3] (fun v o wr => ∃ (k : Nat) (ws' : List ByteArray) (B' : Nat) (A : Option Addr) (c' : Nat) (x : Value), k + ws'.length = ws.length ∧ ws' = ws.drop k ∧ B' ≤ w.heap.size ∧ Ch wr ws' B' c v ∧ o = .slice A k c' ∧
      SO wr (w.heap.size + 1) A k c' (ws.take k) ∧ (∀ a, A = some a → w.heap.size + 1 ≤ a.block) ∧ wr.heap[w.heap.size]? = some (.cells #[x] 40 (0, 0)) ∧ Below w.heap.size w wr)
    (fun v _ _ => depthV v)
  case atStart =>
    exact ⟨0, ws, B, none, 0, .pointer none, by omega, rfl, hB, hC.below hb1 hB, rfl, by unfold SO; simpa using OV.nil _ _ _, (fun a h => by cases h), heap_alloc_new _ _, hb1⟩
  case round =>
    obtain ⟨k, ws', B', A, c', x, hk, hws, hB', hCh, rfl, hO, hA, hg, hb⟩ := hrel
    have hsz : w.heap.size < wr.heap.size := (Array.getElem?_eq_some_iff.1 hg).1
    have hG' := hG.below hb
    cases ws' with
    | nil =>
      obtain rfl := hCh
      have hkl : k = ws.length := by simpa using hk
      have htk : ws.take k = ws := List.take_of_length_le (by omega)
      go_wp2_with (go_at_call 21; refine (as_FE c w.heap.size x _ hG'.et hg).mono ?_; rintro e w' ⟨rfl, hb2⟩)
      go_ret
      exact ⟨A, _, c', rfl, by rw [htk, hkl] at hO; exact (OV.below hO hb2).mono (by omega), hb.trans (hb2.mono (by omega))⟩
    | cons s r =>
      obtain ⟨p, u, hp, rfl, hh, hr⟩ := hCh
      have hd := hr.depth
      obtain ⟨tu, yu, rfl⟩ := hr.iface
      have hkl : k + r.length + 1 = ws.length := by simpa [Nat.add_assoc] using hk
      have hst : ws.take (k + 1) = ws.take k ++ [s] := by
        have h1 : ws[k]? = some s := by
          have := congrArg (·[0]?) hws
          simpa using this.symm
        rw [List.take_add_one, h1]
        rfl
      have hdr : r = ws.drop (k + 1) := by
        have := congrArg List.tail hws
        simpa using this
      go_wp2_with (first
        | (go_at_call 21; refine (as_F ⟨p, 0, none⟩ w.heap.size x _ hG'.et hg).mono ?_; rintro e w' ⟨rfl, hg2, hcell⟩
           have hs2 := hg2.size
           have hO2 : SO w' (w.heap.size + 1) A k c' (ws.take k) := OV.grown hO hg2 (by intro a ha he; injection he with he; have := hA a ha; omega)
           have hh2 : w'.heap[p]? = some (.cells #[.string s, .iface tu yu] 44 (0, 0)) := (hg2.block p (by omega) (by intro e; injection e with e; omega)).trans hh
           have hr2 : Ch w' r p c (.iface tu yu) := hr.grown hg2 (by omega) (by omega)
           have hb2 : Below w.heap.size w w' := hb.grown hg2 (by omega) (by intro k e; injection e with e; omega)
           have c1 : w'.cell? ⟨w.heap.size, 0, none⟩ = some (.pointer (some ⟨p, 0, none⟩)) := by (rw [cell_of_row w' _ 0 _ _ (0, 0) hcell]; rfl)
           have c2 : w'.cell? ⟨p, 0, none⟩ = some (.string s) := by (rw [cell_of_row w' _ 0 _ _ (0, 0) hh2]; rfl))
        | (at_builtin; refine wpList_append_SO (w.heap.size + 1) rfl _ _ rfl rfl rfl (OV.alloc hO2 _) (SL.one _ _ _) (by simp; omega) (by omega) ?_; intro A2 c2' w2 hO3 hb3 hg3
           have hb4 : Below (w.heap.size + 1) w' w2 := ((Below.refl _ _).alloc (by omega) _).trans hb3
           have c3 : w2.cell? ⟨w.heap.size, 0, none⟩ = some (.pointer (some ⟨p, 0, none⟩)) := (hb4.cell (show w.heap.size < w.heap.size + 1 by omega)).trans c1
           have hh3 : w2.heap[p]? = some (.cells #[.string s, .iface tu yu] 44 (0, 0)) := (hb4.block p (by omega)).trans hh2
           have c4 : w2.cell? ⟨p, 1, none⟩ = some (.iface tu yu) := by (rw [cell_of_row w2 _ 1 _ _ (0, 0) hh3]; rfl)))
      go_roundw
      case rel =>
        refine ⟨k + 1, r, p, A2, c2', .pointer (some ⟨p, 0, none⟩), by omega, hdr, by omega, hr2.below hb4 (by omega), rfl, by rw [hst]; exact hO3, ?_, (hb4.block _ (by omega)).trans hcell, hb2.trans (hb4.mono (by omega))⟩
        intro a ha
        obtain ⟨a2, e2, h2⟩ := OV.new hO3 (by omega)
        rw [e2] at ha
        injection ha with ha
        rw [← ha]
        exact h2
      case measure => exact Nat.lt_succ_of_le hd
theorem path_nil (w : World) : Calls Tryd.prog 16 #[.nilIface] w fun e w' => e = .returned (.slice none 0 0) ∧ Below w.heap.size w w' := by
  have hb1 : Below w.heap.size w (w.alloc (.cells #[.pointer none] 40)) := (Below.refl _ _).alloc (Nat.le_refl _) _
  go_enter Tryd.func16, Tryd.ntmps16
  go_wp2
  refine wp_loop_rounds 1 ?_
  rw [rounds_succ]
  go_wp2_with (go_at_call 21; refine (as_nil _ _).mono ?_; rintro e w' ⟨rfl, rfl⟩)
  go_ret
  exact ⟨rfl, hb1⟩
theorem depth_any (c : Int) (v0 : Value) (ws : List ByteArray) (B : Nat) (w : World) (hG : Gl w) (hC : Ch w ws B c v0) (hB : B ≤ w.heap.size) (hL : ws.length ≤ 1000) :
    Calls Tryd.prog 17 #[v0] w (RV w (.int .i64 (ws.length : Int))) := by
  go_enter Tryd.func17, Tryd.ntmps17
  go_wp2_with (first | (go_at_call 16; refine (path_any c v0 ws B _ hG hC hB hL).mono ?_; rintro e w' ⟨A, n, c', rfl, hO, hb⟩) )
  go_ret
  exact ⟨by rw [hO.sl.len]; rfl, hb⟩
theorem depth_nil (w : World) : Calls Tryd.prog 17 #[.nilIface] w (RV w (.int .i64 0)) := by
  go_enter Tryd.func17, Tryd.ntmps17
  go_wp2_with (first | (go_at_call 16; refine (path_nil _).mono ?_; rintro e w' ⟨rfl, hb⟩) )
  go_ret
  exact ⟨rfl, hb⟩

end Go.Proofs.YtegmdjfohlomnaaDoor
