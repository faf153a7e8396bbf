/- The walks of decimals: what may be, and the parts. No condition. -/
import Derived.Test.YtaolimhbeoocjaaDe1
import Derived.Test.YtaolimhbeoocjaaZeros
import Derived.Deep.OwnRows
import Derived.Laws.CopyOwn
import Derived.Deep.RegionLaw
namespace Go.Proofs.Ytaolimhbeoocjaa
open Go.RowKit

/-- As many digits, with noughts ahead. -/
def wideL (l : List Int) (k : Nat) : List Int := List.replicate (k - l.length) 0 ++ l
theorem wideL_len (l : List Int) (k : Nat) : (wideL l k).length = max l.length k := by simp [wideL]; omega
theorem made_zeros (n : Nat) : madeCells #[Value.int .i64 0] n = (List.replicate n (Value.int .i64 0)).toArray := by
  apply Array.ext
  · simp [madeCells]
  · intro i h1 h2
    simp [madeCells, Nat.mod_one]
theorem IL.of_heap {W : World} {g : Nat} {t : TypeId} {n : Nat} {l : List Int} (h : W.heap[g]? = some (.cells (l.map (Value.int .i64)).toArray t (0, 0))) (hn : l.length = n) (hb : n ≤ 9223372036854775807) : IL W (some ⟨g, 0, none⟩) n n l := by
  refine ⟨by simpa using hn, Nat.le_refl _, hb, fun _ => ⟨g, 0, rfl, (Array.getElem?_eq_some_iff.1 h).1, fun j v hj => ?_⟩⟩
  rw [cell_of_row W g (0 + j) _ t (0, 0) h, Nat.zero_add]
  simpa using hj
theorem wide_splice (l : List Int) (W n : Nat) (hn : l.length = n) (hW : n ≤ W) :
    splice (List.replicate W (Value.int .i64 0)) (W - n) (l.map (Value.int .i64)) = (List.replicate (W - n) 0 ++ l).map (Value.int .i64) := by
  subst hn
  unfold splice
  rw [List.drop_of_length_le (by simp; omega)]
  simp [List.take_replicate, Nat.min_eq_left (Nat.sub_le _ _)]

theorem int_one : (Try.prog.info? 3).map (·.size) = some 1 := by kernel_rfl
theorem IL.srcs {w : World} {A : Option Addr} {n c : Nat} {l : List Int} (h : IL w A n c l) (hn : 0 < n) : ∃ ad, A = some ad ∧ ∀ j v, (l.map (Value.int .i64))[j]? = some v → w.cell? (ad.add j) = some v := by
  obtain ⟨b, off, e, _, hc⟩ := h.2.2.2 hn
  exact ⟨_, e, fun j v hj => by rw [Addr.add_lit]; exact hc j v hj⟩

set_option maxHeartbeats 1000000 in
theorem wide_any {A : Option Addr} {n c : Nat} {l : List Int} (b : Bool) (s : Int) (k : Nat) (w : World) (h : IL w A n c l) (hn : n ≤ 1000000) (hk : k ≤ 1000000) :
    Calls Try.prog 29 #[.agg #[.bool b, .slice A n c, .int .i64 s], .int .i64 (k : Int)] w (RO w (wideL l k)) := by
  have hle := h.le
  have hcap := h.cap
  have hlen := h.len
  have key : ∀ W : Nat, W = max n k → Calls Try.prog 29 #[.agg #[.bool b, .slice A n c, .int .i64 s], .int .i64 (k : Int)] w (RO w (List.replicate (W - n) 0 ++ l)) := by
    intro W hW
    have hmk := run_make_row' (P := Try.prog) 22 3 (.int .i64 0) 8 Try.underlying22 int_info rfl .i64 .i64 W (by omega) (by omega)
    rw [made_zeros] at hmk
    have hWn : n ≤ W := by omega
    have hspl := Lib.hid (wide_splice l W n hlen hWn)
    have hl1 : (l.map (Value.int .i64)).length = n := by simpa using hlen
    have hX : Blk w w.heap.size 32 #[.bool b, .slice A n c, .int .i64 s] ((w.alloc (.cells #[.bool b, .slice A n c, .int .i64 s] 32)).alloc (.cells (List.replicate W (Value.int .i64 0)).toArray 3)) := (Blk.made w w _ _ (Later.refl w) _ rfl).alloc _
    have hG : Blk w (w.heap.size + 1) 3 (List.replicate W (Value.int .i64 0)).toArray ((w.alloc (.cells #[.bool b, .slice A n c, .int .i64 s] 32)).alloc (.cells (List.replicate W (Value.int .i64 0)).toArray 3)) := Blk.made w _ _ _ ((Later.refl w).alloc _) _ (by simp)
    have HL := Lib.hid hlen
    have HL1 := Lib.hid hl1
    clear hlen hl1
    generalize hzs : List.replicate W (Value.int .i64 0) = zs at *
    have hzl : Hid (zs.length = W) := by rw [Hid, ← hzs]; simp
    have hil := (h.alloc (.cells #[.bool b, .slice A n c, .int .i64 s] 32)).alloc (.cells zs.toArray 3)
    clear hzs
    have hmax : (if (n : Int) < (k : Int) then (k : Int) else (n : Int)) = (W : Int) := by split <;> omega
    have hmax2 : (if n < k then (k : Int) else (n : Int)) = (W : Int) := by split <;> omega
    have hWm : W ≤ 1000000 := by omega
    clear hW
    by_cases hn0 : n = 0
    · subst hn0
      have hmax3 : (if 0 < k then (k : Int) else 0) = (W : Int) := by rw [← hmax2]; simp
      clear hmax hmax2
      have hwr : IntKind.i64.wrap (W : Int) = (W : Int) := IntWalk.i64_in _ (by omega)
      have hk0 : (0 : Int) ≤ (W : Int) := by omega
      have htn : ((W : Int)).toNat = W := by omega
      go_enter Try.func29, Try.ntmps29
      go_wp2_with fail
      go_region_law (refine step_copy_splice rfl (.tmp 19) (.tmp 21) 22 22 rfl 3 Try.underlying22 int_one _ _ _ _ _ _ rfl rfl (w.heap.size + 1) (W - 0) zs 3 hG.drew.2.1 (l.map (Value.int .i64)) (by rw [HL1.out]; exact (Nat.min_eq_left (by omega)).symm) (fun hh => absurd hh (by rw [HL1.out]; omega)) (by rw [HL1.out, hzl.out]; omega) (ints_oneCell _ _) (w.heap.size + 1) _ (Below.refl _ _) (Nat.le_refl _) ?_; intro w3 hh hb3)
      all_goals
        clear hwr hk0 htn
        go_wp2_with fail
        go_ret
        have hh2 := hh.out
        rw [hspl.out] at hh2
        have hln : (List.replicate (W - 0) 0 ++ l).length = W := by simp [HL.out]
        exact ⟨_, _, _, rfl, OL.full (IL.of_heap hh2 hln (by omega)) (fun q => by cases q) _ (fun _ => ⟨_, rfl, Nat.le_succ _⟩), Below.trans hG.drew.later (hb3.mono (Nat.le_succ _))⟩
    · obtain ⟨ad, hA, hsrc⟩ := hil.srcs (by omega)
      subst hA
      have HS := Lib.hid hsrc
      clear hsrc
      have hwr : IntKind.i64.wrap ((W : Int) - (n : Int)) = (W : Int) - (n : Int) := IntWalk.i64_in _ (by omega)
      have hk0 : (0 : Int) ≤ (W : Int) - (n : Int) := by omega
      have hk1 : (W : Int) - (n : Int) ≤ (W : Int) := by omega
      have htn : ((W : Int) - (n : Int)).toNat = W - n := by omega
      have hne : (W = W - n) = False := by simp; omega
      go_enter Try.func29, Try.ntmps29
      go_wp2_with fail
      go_region_law (refine step_copy_splice rfl (.tmp 19) (.tmp 21) 22 22 rfl 3 Try.underlying22 int_one _ _ _ _ _ _ rfl rfl (w.heap.size + 1) (W - n) zs 3 hG.drew.2.1 (l.map (Value.int .i64)) (by rw [HL1.out]; exact (Nat.min_eq_left (by omega)).symm) (fun hh => ⟨rfl, ad, rfl, HS.out⟩) (by rw [HL1.out, hzl.out]; omega) (ints_oneCell _ _) (w.heap.size + 1) _ (Below.refl _ _) (Nat.le_refl _) ?_; intro w3 hh hb3)
      all_goals
        clear hwr hk0 hk1 htn hne
        go_wp2_with fail
        go_ret
        have hh2 := hh.out
        rw [hspl.out] at hh2
        have hln : (List.replicate (W - n) 0 ++ l).length = W := by simp [HL.out]; omega
        exact ⟨_, _, _, rfl, OL.full (IL.of_heap hh2 hln (by omega)) (fun q => by cases q) _ (fun _ => ⟨_, rfl, Nat.le_succ _⟩), Below.trans hG.drew.later (hb3.mono (Nat.le_succ _))⟩
  have := key _ rfl
  unfold wideL
  rw [hlen, show k - n = max n k - n from by omega]
  exact this

end Go.Proofs.Ytaolimhbeoocjaa
