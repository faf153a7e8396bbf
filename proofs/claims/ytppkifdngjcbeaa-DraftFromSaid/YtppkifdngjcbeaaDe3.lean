/- The walks of decimals: the parts, what may be, whether two are the same. No condition. -/
import Derived.Test.YtppkifdngjcbeaaDe2
import Derived.Deep.RegionWith
namespace Go.Proofs.Ytppkifdngjcbeaa
open Go.RowKit

/-- Two lists. -/
def RP (w : World) (x y : List Int) (e : Ending) (w' : World) : Prop :=
  ∃ A n c E m q, e = .returned (.tuple #[.slice A n c, .slice E m q]) ∧ IL w' A n c x ∧ IL w' E m q y ∧ Below w.heap.size w w'
/-- The digits ahead of the point, and behind it. -/
def partsS (l : List Int) (s : Nat) : List Int × List Int := (trimL ((wideL l s).take ((wideL l s).length - s)), (wideL l s).drop ((wideL l s).length - s))
theorem I64.zeros (k : Nat) : I64 (List.replicate k 0) := fun x hx => by have := List.eq_of_mem_replicate hx; omega
theorem I64.app {a b : List Int} (ha : I64 a) (hb : I64 b) : I64 (a ++ b) := fun x hx => (List.mem_append.1 hx).elim (ha x) (hb x)
theorem I64.wide {l : List Int} (h : I64 l) (k : Nat) : I64 (wideL l k) := (I64.zeros _).app h
theorem IL.dropw {w : World} {A A' : Option Addr} {n c k n' c' : Nat} {l : List Int} (h : IL w A n c l) (hk : k ≤ n) (hn : n' = n - k) (hc : c' = c - k) (hA : k < n → A' = A.map (·.add k)) : IL w A' n' c' (l.drop k) := by
  subst hn hc; exact h.drop hk A' hA
theorem IL.takew {w : World} {A A' : Option Addr} {n c k c' : Nat} {l : List Int} (h : IL w A n c l) (hk : k ≤ n) (hc : c' = c) (hA : 0 < k → A' = A) : IL w A' k c' (l.take k) := by
  subst hc; exact h.take hk (Nat.le_trans hk h.le) (Nat.le_refl _) A' hA

set_option maxHeartbeats 1000000 in
theorem parts_any {A : Option Addr} {n c : Nat} {l : List Int} (b : Bool) (s : Nat) (w : World) (h : IL w A n c l) (hl : I64 l) (hn : n ≤ 1000000) (hs : s ≤ 1000000) :
    Calls Try.prog 64 #[.agg #[.bool b, .slice A n c, .int .i64 (s : Int)]] w (RP w (partsS l s).1 (partsS l s).2) := by
  have hw := Lib.hid (fun W hW => wide_any (A := A) (n := n) (c := c) (l := l) b (s : Int) s W hW hn hs)
  have hlen := h.len
  have hwl := wideL_len l s
  have hwi := hl.wide s
  have HP : Hid (partsS l s = (trimL ((wideL l s).take ((wideL l s).length - s)), (wideL l s).drop ((wideL l s).length - s))) := rfl
  generalize partsS l s = P at *
  generalize wideL l s = y at *
  obtain ⟨a, ha⟩ : ∃ a, y.length = a + s := ⟨y.length - s, by omega⟩
  have hr1 : Hid (P = (trimL (y.take a), y.drop a)) := by rw [Hid, HP.out, ha, Nat.add_sub_cancel]
  have ha1 : a + s ≤ 1000000 := by omega
  have htr := Lib.hid (fun A n c W hW hn => trim_any A n c (y.take a) W hW (hwi.take_ a) hn)
  have HA := Lib.hid ha
  clear HP ha hwl
  go_enter Try.func64, Try.ntmps64
  go_wp2_with fail
  refine (hw.out _ (h.alloc _)).mono ?_
  rintro e w1 ⟨A1, n1, c1, rfl, hO, hB⟩
  have hX : Blk w w.heap.size 41 #[.bool b, .slice A n c, .int .i64 (s : Int)] w1 := (Blk.made w w _ _ (Later.refl w) _ rfl).call hB
  obtain ⟨⟨q0, q1, q2⟩, ⟨f0, f1, f2⟩⟩ := hX.cells3
  have hn1 : n1 = a + s := by rw [← HA.out]; exact hO.len.symm
  subst hn1
  have hc1 := hO.il.cap
  have hle1 := hO.il.le
  have hI := hO.il
  have HX := Lib.hid hX
  clear hX hO hB hw
  by_cases hca : c1 = a
  all_goals
    go_wp2_with fail
    go_region_with (go_at_call 86; refine (htr.out _ _ _ _ ((hI.drew).takew (by omega) (by omega) (fun _ => rfl)) (by omega)).mono ?_; rintro e w2 ⟨A2, n2, c2, rfl, hO2, hB2⟩)
    all_goals
      go_wp2_with fail
      go_ret2
      rw [hr1.out]
      have hb2 := HX.out.later.drew.call hB2
      exact ⟨_, _, _, _, _, _, rfl, hO2.il, (hI.drew.below hB2).dropw (k := a) (by omega) (by omega) (by omega) (fun hk => by first | rfl | (exfalso; omega)), hb2⟩

end Go.Proofs.Ytppkifdngjcbeaa
