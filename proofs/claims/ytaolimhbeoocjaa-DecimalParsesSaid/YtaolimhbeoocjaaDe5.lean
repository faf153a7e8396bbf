/- The walks of decimals: what may be, whether two are the same, cut and made ones. No condition. -/
import Derived.Test.YtaolimhbeoocjaaDe3
import Derived.Test.YtaolimhbeoocjaaRb
import Derived.Deep.DeepCutAuto
namespace Go.Proofs.Ytaolimhbeoocjaa
open Go.RowKit

set_option maxHeartbeats 1000000 in
theorem cmay_any {A : Option Addr} {n c : Nat} {l : List Int} (b : Bool) (s : Int) (w : World) (h : IL w A n c l) (hl : I64 l) (hs : -9223372036854775808 ≤ s ∧ s ≤ 9223372036854775807) :
    Calls Try.prog 17 #[.agg #[.bool b, .slice A n c, .int .i64 s]] w (RV w (.bool (mayDc ⟨b, l, s⟩))) := by
  have bx : Below w.heap.size w (w.alloc (.cells #[.bool b, .slice A n c, .int .i64 s] 32)) := (Below.refl _ _).alloc (Nat.le_refl _) _
  have m1 := Lib.hid (fun W hW => may_any A n c l W hW hl)
  have hr : Hid (mayDc ⟨b, l, s⟩ = (mayL l && decide (0 ≤ s) && decide (s ≤ 1000))) := rfl
  generalize mayL l = x at *
  cases x
  · go_enter Try.func17, Try.ntmps17
    go_wp2_with fail
    refine (m1.out _ (h.alloc _)).mono ?_
    rintro e w1 ⟨rfl, rfl⟩
    go_wp2_with fail
    go_ret
    exact ⟨ret_bool (by rw [hr.out]; rfl), bx⟩
  · by_cases h0 : 0 ≤ s
    · by_cases h1 : s ≤ 1000
      · go_enter Try.func17, Try.ntmps17
        go_wp2_with fail
        refine (m1.out _ (h.alloc _)).mono ?_
        rintro e w1 ⟨rfl, rfl⟩
        go_wp2_with fail
        go_ret
        exact ⟨ret_bool (by rw [hr.out]; first | rfl | (rw [Bool.eq_iff_iff]; simp; done) | (rw [Bool.eq_iff_iff]; simp; omega) | (simp; omega)), bx⟩
      · go_enter Try.func17, Try.ntmps17
        go_wp2_with fail
        refine (m1.out _ (h.alloc _)).mono ?_
        rintro e w1 ⟨rfl, rfl⟩
        go_wp2_with fail
        go_ret
        exact ⟨ret_bool (by rw [hr.out]; first | rfl | (rw [Bool.eq_iff_iff]; simp; done) | (rw [Bool.eq_iff_iff]; simp; omega) | (simp; omega)), bx⟩
    · go_enter Try.func17, Try.ntmps17
      go_wp2_with fail
      refine (m1.out _ (h.alloc _)).mono ?_
      rintro e w1 ⟨rfl, rfl⟩
      go_wp2_with fail
      go_ret
      exact ⟨ret_bool (by rw [hr.out]; first | rfl | (rw [Bool.eq_iff_iff]; simp; done) | (rw [Bool.eq_iff_iff]; simp; omega) | (simp; omega)), bx⟩

set_option maxHeartbeats 1000000 in
theorem rcmay_any {A : Option Addr} {n c : Nat} {l : List Int} (b : Bool) (s : Int) (w : World) (h : IL w A n c l) (hs : -9223372036854775808 ≤ s ∧ s ≤ 9223372036854775807) :
    Calls Try.prog 18 #[.agg #[.bool b, .slice A n c, .int .i64 s]] w (RV w (.bool (mayDc ⟨b, l, s⟩))) := by
  have bx : Below w.heap.size w (w.alloc (.cells #[.bool b, .slice A n c, .int .i64 s] 24)) := (Below.refl _ _).alloc (Nat.le_refl _) _
  have m1 := Lib.hid (fun W hW => rmay_any A n c l W hW)
  have hr : Hid (mayDc ⟨b, l, s⟩ = (mayL l && decide (0 ≤ s) && decide (s ≤ 1000))) := rfl
  generalize mayL l = x at *
  cases x
  · go_enter Try.func18, Try.ntmps18
    go_wp2_with fail
    refine (m1.out _ (h.alloc _)).mono ?_
    rintro e w1 ⟨rfl, rfl⟩
    go_wp2_with fail
    go_ret
    exact ⟨ret_bool (by rw [hr.out]; rfl), bx⟩
  · by_cases h0 : 0 ≤ s
    · by_cases h1 : s ≤ 1000
      · go_enter Try.func18, Try.ntmps18
        go_wp2_with fail
        refine (m1.out _ (h.alloc _)).mono ?_
        rintro e w1 ⟨rfl, rfl⟩
        go_wp2_with fail
        go_ret
        exact ⟨ret_bool (by rw [hr.out]; first | rfl | (rw [Bool.eq_iff_iff]; simp; done) | (rw [Bool.eq_iff_iff]; simp; omega) | (simp; omega)), bx⟩
      · go_enter Try.func18, Try.ntmps18
        go_wp2_with fail
        refine (m1.out _ (h.alloc _)).mono ?_
        rintro e w1 ⟨rfl, rfl⟩
        go_wp2_with fail
        go_ret
        exact ⟨ret_bool (by rw [hr.out]; first | rfl | (rw [Bool.eq_iff_iff]; simp; done) | (rw [Bool.eq_iff_iff]; simp; omega) | (simp; omega)), bx⟩
    · go_enter Try.func18, Try.ntmps18
      go_wp2_with fail
      refine (m1.out _ (h.alloc _)).mono ?_
      rintro e w1 ⟨rfl, rfl⟩
      go_wp2_with fail
      go_ret
      exact ⟨ret_bool (by rw [hr.out]; first | rfl | (rw [Bool.eq_iff_iff]; simp; done) | (rw [Bool.eq_iff_iff]; simp; omega) | (simp; omega)), bx⟩

/-! ### Are two the same, digit by digit? -/
def sameDc (x y : Dc) : Bool := (x.l == y.l) && (x.neg == y.neg) && (x.s == y.s)
theorem sameDc_refl (x : Dc) : sameDc x x = true := by simp [sameDc]
theorem sameDc_iff {x y : Dc} : sameDc x y = true ↔ x = y := by
  obtain ⟨a, b, c⟩ := x
  obtain ⟨d, e, f⟩ := y
  simp [sameDc]
  constructor
  · rintro ⟨⟨h1, h2⟩, h3⟩; exact ⟨h2, h1, h3⟩
  · rintro ⟨h1, h2, h3⟩; exact ⟨⟨h2, h1⟩, h3⟩

set_option maxHeartbeats 2000000 in
theorem csame_any {A : Option Addr} {n c : Nat} {l : List Int} {A2 : Option Addr} {n2 c2 : Nat} {l2 : List Int} (b b2 : Bool) (s s2 : Int) (w : World) (h : IL w A n c l) (h2 : IL w A2 n2 c2 l2) :
    Calls Try.prog 12 #[.agg #[.bool b, .slice A n c, .int .i64 s], .agg #[.bool b2, .slice A2 n2 c2, .int .i64 s2]] w (RV w (.bool (sameDc ⟨b, l, s⟩ ⟨b2, l2, s2⟩))) := by
  have e1 := Lib.hid (fun W hW hW2 => same_any A n c l A2 n2 c2 l2 W hW hW2)
  have bx : Below w.heap.size w ((w.alloc (.cells #[.bool b, .slice A n c, .int .i64 s] 24)).alloc (.cells #[.bool b2, .slice A2 n2 c2, .int .i64 s2] 24)) := ((Below.refl _ _).alloc (Nat.le_refl _) _).alloc (by simp) _
  have hr : Hid (sameDc ⟨b, l, s⟩ ⟨b2, l2, s2⟩ = ((l == l2) && (b == b2) && (s == s2))) := rfl
  generalize (l == l2) = x at *
  have hss : (s == s2) = true ∨ (s == s2) = false := by cases (s == s2) <;> simp
  rcases hss with hss | hss
  all_goals
    have HSS := Lib.hid hss
    cases x <;> cases b <;> cases b2
    all_goals
      go_enter Try.func12, Try.ntmps12
      go_wp2_with fail
      refine (e1.out _ ((h.alloc _).alloc _) ((h2.alloc _).alloc _)).mono ?_
      rintro e w1 ⟨rfl, j1, rfl⟩
      go_wp2_with fail
      go_ret
      exact ⟨ret_bool (by rw [hr.out, HSS.out]; rfl), bx.trans (below_drewN _ _ _)⟩

/-! ### Cut and made ones -/
theorem IL.fewc {w : World} {A : Option Addr} {n c : Nat} {l : List Int} (h : IL w A n c l) (k : Nat) : IL w A (min n k) c (l.take k) := by
  have hl := h.len
  have hle := h.le
  by_cases hk : k ≤ n
  · rw [Nat.min_eq_right hk]
    exact h.take hk (by omega) (Nat.le_refl _) A (fun _ => rfl)
  · rw [Nat.min_eq_left (by omega), List.take_of_length_le (by omega)]
    exact h
theorem cfew_any {A : Option Addr} {n c : Nat} {l : List Int} (b : Bool) (s : Int) (q : Nat) (w : World) (h : IL w A n c l) (_hq : q ≤ 1000000) :
    Calls Try.prog 14 #[.agg #[.bool b, .slice A n c, .int .i64 s], .int .i64 (q : Int)] w
      fun e w' => e = .returned (.agg #[.bool b, .slice A (min n q) c, .int .i64 s]) ∧ IL w' A (min n q) c (l.take q) ∧ Below w.heap.size w w' := by
  have hle := h.le
  have hcap := h.cap
  have r0 := h.fewc q
  by_cases hq : q < n
  · have hm : min n q = q := by omega
    rw [hm] at r0 ⊢
    clear hm
    go_enter Try.func14, Try.ntmps14
    go_wp2
    exact bodyPost_ret (v := .agg #[.bool b, .slice A q c, .int .i64 s]) (by simp [results, Try.results14, go_sem]) rfl ⟨rfl, (r0.alloc _).alloc _, ((Below.refl _ _).alloc (Nat.le_refl _) _).alloc (by simp) _⟩
  · have hm : min n q = n := by omega
    rw [hm] at r0 ⊢
    clear hm
    go_enter Try.func14, Try.ntmps14
    go_wp2
    exact bodyPost_ret (v := .agg #[.bool b, .slice A n c, .int .i64 s]) (by simp [results, Try.results14, go_sem]) rfl ⟨rfl, (r0.alloc _).alloc _, ((Below.refl _ _).alloc (Nat.le_refl _) _).alloc (by simp) _⟩

end Go.Proofs.Ytaolimhbeoocjaa
