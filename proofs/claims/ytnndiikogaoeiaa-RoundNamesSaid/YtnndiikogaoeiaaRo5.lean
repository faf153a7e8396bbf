/- What the laws of rounding share: decimals as each side has them, roundings of good decimals, and what lives. No condition. -/
import Derived.Test.YtnndiikogaoeiaaRo2
import Derived.Test.YtnndiikogaoeiaaRound4
import Derived.Test.YtnndiikogaoeiaaDe6
import Derived.Test.YtnndiikogaoeiaaDe11
import Derived.Test.YtnndiikogaoeiaaDe12
import Derived.Test.YtnndiikogaoeiaaDe16
namespace Go.Proofs.Ytnndiikogaoeiaa
open Go.RowKit

theorem of7_any {A : Option Addr} {n c : Nat} (b : Bool) (s : Int) (w : World) : Calls Try.prog 22 #[.agg #[.bool b, .slice A n c, .int .i64 s]] w (RV w (.agg #[.bool b, .slice A n c, .int .i64 s])) := by
  go_enter Try.func22, Try.ntmps22
  go_wp2
  exact bodyPost_ret (v := .agg #[.bool b, .slice A n c, .int .i64 s]) (by simp [results, Try.results22, go_sem]) rfl ⟨rfl, ((Below.refl _ _).alloc (Nat.le_refl _) _).alloc (by simp) _⟩
theorem as7_any {A : Option Addr} {n c : Nat} (b : Bool) (s : Int) (w : World) : Calls Try.prog 25 #[.agg #[.bool b, .slice A n c, .int .i64 s]] w (RV w (.agg #[.bool b, .slice A n c, .int .i64 s])) := by
  go_enter Try.func25, Try.ntmps25
  go_wp2
  exact bodyPost_ret (v := .agg #[.bool b, .slice A n c, .int .i64 s]) (by simp [results, Try.results25, go_sem]) rfl ⟨rfl, ((Below.refl _ _).alloc (Nat.le_refl _) _).alloc (by simp) _⟩
theorem IL.lit1 (w : World) (e : TypeId) (x : Int) (b : Nat) (hb : b = w.heap.size) : IL (w.alloc (.cells #[.int .i64 x] e)) (some ⟨b, 0, none⟩) 1 1 [x] := by
  subst hb; exact VL.lit w e 1 [.int .i64 x] rfl (by omega)
theorem IL.lit2 (w : World) (e : TypeId) (x y : Int) (b : Nat) (hb : b = w.heap.size) : IL (w.alloc (.cells #[.int .i64 x, .int .i64 y] e)) (some ⟨b, 0, none⟩) 2 2 [x, y] := by
  subst hb; exact VL.lit w e 2 [.int .i64 x, .int .i64 y] rfl (by omega)
theorem I64_small {l : List Int} (h : l.all (fun x => decide (-1000 ≤ x) && decide (x ≤ 1000)) = true) : I64 l := fun x hx => by
  have := List.all_eq_true.1 h x hx
  simp at this
  omega
theorem GoodDc.dc {X : Dc} {q : Nat} (h : GoodDc X q) : mayDc X = true := mayDc_iff.2 ⟨h.1, h.2.1, by have := h.2.2.1; omega⟩
theorem good_round {X : Dc} {q : Nat} (h : GoodDc X q) (m : Int) {k : Nat} (hk : k ≤ 9) : GoodDc (scaled k (roundZ m X k)) (q + k + 1) :=
  ⟨mayL_digs _, by simp [scaled], by simp [scaled]; omega, round_len h.1 h.2.2.2 m k⟩
theorem GoodDc.minus {X : Dc} {q : Nat} (h : GoodDc X q) : GoodDc (minusDc X) q := h
theorem good_add {a b : Dc} {M : Nat} (ha : GoodDc a M) (hb : GoodDc b M) : GoodDc (addDc a b).1 (M + 10) := by
  have hs := add_s a b
  have h1 := ha.2.1
  have h2 := ha.2.2.1
  have h3 := hb.2.1
  have h4 := hb.2.2.1
  have hl := add_len ha.1 hb.1 ha.2.2.2 hb.2.2.2 (N := 9) (by omega) (by omega)
  refine ⟨mayL_add a b, hs.1, ?_, by omega⟩
  rw [addDc_at ha.dc hb.dc 9 (by omega) (by omega)]
  exact (canonic 9 _).hi
theorem good_times {d : Dc} {M : Nat} (h : GoodDc d M) (k : Int) (h1 : -1000 ≤ k) (h2 : k ≤ 1000) : GoodDc (timesDc d k).1 (M + 4) := by
  have h0 := h.2.1
  have h9 := h.2.2.1
  refine ⟨mayL_times k, (times_s (by omega) k).1, ?_, times_len h.1 h.2.2.2 k⟩
  unfold timesDc
  rw [if_pos h.dc, if_neg (by omega)]
  have := (canonic d.s.toNat (k * d.z)).hi
  simp only
  omega
theorem good_abs {d : Dc} {M : Nat} (h : GoodDc d M) : GoodDc (absDc d) M := h
theorem good_one (b : Bool) {k : Nat} (hk : k ≤ 9) : GoodDc (oneDc b k) 1 := ⟨rfl, by simp [oneDc], by simp [oneDc]; omega, by simp [oneDc]⟩
/-- A good decimal, rounded. -/
theorem to_good {X : Dc} {q : Nat} (hX : GoodDc X q) (hq : q ≤ 10000) {k : Nat} (hk : k ≤ 9) {m : Int} (hm : 0 ≤ m ∧ m ≤ 6) {A : Option Addr} {n c : Nat} (W : World) (h : IL W A n c X.l) :
    Calls Try.prog 21 #[.agg #[.bool X.neg, .slice A n c, .int .i64 X.s], .int .i64 (k : Int), .int .i64 m] W (RCE W (scaled k (roundZ m X k)) 0) := by
  have h2 := hX.2.1
  have h3 := hX.2.2.1
  have h4 := hX.2.2.2
  have hl := h.len
  have := rto_any X.neg X.s (k : Int) m W h (I64_of_may hX.1) (by omega) (by omega) (by omega) (by omega)
  rw [show (⟨X.neg, X.l, X.s⟩ : Dc) = X from rfl, roundDc_in hX.dc k (by omega) m hm] at this
  exact this
/-- Does rounding change nothing? -/
theorem exact_at {g : Nat} {A : Option Addr} {n c : Nat} {X : Dc} {W : World} (h : DcAt g A n c X W) {q : Nat} (hX : GoodDc X q) (hq : q ≤ 10000) (k : Int) (hk : -9223372036854775808 ≤ k ∧ k ≤ 9223372036854775807) (s : Ext W) :
    Calls Try.prog 38 #[.agg #[.bool X.neg, .slice A n c, .int .i64 X.s], .int .i64 k] s.world (RV s.world (.bool (decide ((trimDc X).s ≤ k) && decide (k ≤ 1000)))) := by
  have h2 := hX.2.1
  have h3 := hX.2.2.1
  have h4 := hX.2.2.2
  have hl := h.2.len
  have := exact_any X.neg X.s k s.world (h.il s) (I64_of_may hX.1) (by omega) hk (by omega)
  rw [show (⟨X.neg, X.l, X.s⟩ : Dc) = X from rfl, align_code hX.dc k] at this
  exact this
theorem lives7_even : roundDc ⟨true, [2, 5], 1⟩ 0 6 = (⟨true, [2], 0⟩, 0) := by rfl
theorem lives7_up : roundDc ⟨true, [2, 5], 1⟩ 0 5 = (⟨true, [3], 0⟩, 0) := by rfl

set_option maxHeartbeats 2000000 in
theorem lives7_any (w : World) : Calls Try.prog 26 #[] w (RV w (.bool true)) := by
  have ha := Lib.hid (fun (A : Option Addr) (n c : Nat) (W : World) (h1 : IL W A n c [2, 5]) => show Calls Try.prog 21 #[.agg #[.bool true, .slice A n c, .int .i64 1], .int .i64 0, .int .i64 6] W (RCE W ⟨true, [2], 0⟩ 0) by
    have e1 := h1.len
    simp at e1
    have := rto_any true 1 0 6 W h1 (I64_small rfl) (by omega) (by omega) (by omega) (by omega)
    rw [lives7_even] at this
    exact this)
  have hb := Lib.hid (fun (A : Option Addr) (n c : Nat) (W : World) (h1 : IL W A n c [2, 5]) => show Calls Try.prog 21 #[.agg #[.bool true, .slice A n c, .int .i64 1], .int .i64 0, .int .i64 5] W (RCE W ⟨true, [3], 0⟩ 0) by
    have e1 := h1.len
    simp at e1
    have := rto_any true 1 0 5 W h1 (I64_small rfl) (by omega) (by omega) (by omega) (by omega)
    rw [lives7_up] at this
    exact this)
  have hs := Lib.hid (fun (A : Option Addr) (n c : Nat) (A2 : Option Addr) (n2 c2 : Nat) (x : Int) (W : World) (h1 : IL W A n c [x]) (h2 : IL W A2 n2 c2 [x]) => show Calls Try.prog 31 #[.slice A n c, .slice A2 n2 c2] W (RV W (.bool true)) by
    have := (same_any A n c _ A2 n2 c2 _ W h1 h2).mono (fun _ _ h => h.rv)
    simp at this
    exact this)
  have hd0 := Blk.made w (w.alloc (.cells #[.int .i64 2, .int .i64 5] 3)) 27 #[.bool true, .slice (some ⟨w.heap.size, 0, none⟩) 2 2, .int .i64 1] ((Later.refl w).alloc _) (w.heap.size + 1) (by simp)
  go_enter Try.func26, Try.ntmps26
  go_upto_region 2 with fail
  have hi0 := (IL.lit2 w 3 2 5 _ rfl).alloc (.cells #[.bool true, .slice (some ⟨w.heap.size, 0, none⟩) 2 2, .int .i64 1] 27)
  generalize World.alloc (World.alloc w _) _ = w1 at *
  obtain ⟨⟨q0, q1, q2⟩, _⟩ := hd0.cells3
  go_wp2_with fail
  refine (ha.out _ _ _ _ hi0).mono ?_
  rintro e w2 ⟨A2, n2, c2, rfl, hI2, hB2, _⟩
  clear q0 q1 q2
  have hd2 := hd0.call hB2
  have hi2 := hi0.below hB2
  have hp2 := DB.made w w2 27 (X := ⟨true, [2], 0⟩) hd2.later hI2 _ rfl
  have q0 := fun o => (hd2.alloc o).cells3.1.1
  have q1 := fun o => (hd2.alloc o).cells3.1.2.1
  have q2 := fun o => (hd2.alloc o).cells3.1.2.2
  go_wp2_with fail
  refine (hb.out _ _ _ _ (hi2.alloc _)).mono ?_
  rintro e w3 ⟨A3, n3, c3, rfl, hI3, hB3, _⟩
  clear q0 q1 q2
  have hp3 := (hp2.call hB3).alloc (.cells #[.bool true, .slice A3 n3 c3, .int .i64 0] 27)
  have hr3 := DB.made w w3 27 (X := ⟨true, [3], 0⟩) (hp2.call hB3).later hI3 _ rfl
  clear hd0 hd2 hi0 hi2 hp2 hI2 hI3
  go_upto_region 4 with fail
  generalize World.alloc w3 _ = w4 at *
  have q0 := hp3.c0
  have q1 := hp3.c1
  have q2 := hr3.c0
  have q3 := hr3.c1
  have hp4 := hp3.alloc (.cells #[.int .i64 2] 3)
  go_wp2_with fail
  refine (hs.out _ _ _ _ _ _ _ _ (hp3.alloc _).il (IL.lit1 _ _ _ _ rfl)).mono ?_
  rintro e w5 ⟨rfl, hB5⟩
  clear q0 q1 q2 q3
  have hr5 := (hr3.alloc _).call hB5
  have q2 := hr5.c0
  have q3 := hr5.c1
  go_wp2_with fail
  refine (hs.out _ _ _ _ _ _ _ _ (hr5.alloc _).il (IL.lit1 _ _ _ _ rfl)).mono ?_
  rintro e w6 ⟨rfl, hB6⟩
  go_wp2_with fail
  go_ret
  exact ⟨rfl, (hr5.later.alloc _).call hB6⟩

end Go.Proofs.Ytnndiikogaoeiaa
