/- The walk of DecimalDigits. No condition. -/
import Derived.Test.YtnndiikogaoeiaaDcb
import Derived.Test.YtnndiikogaoeiaaCanon4
import Derived.Test.YtnndiikogaoeiaaDe4
namespace Go.Proofs.Ytnndiikogaoeiaa
open Go.RowKit

set_option maxRecDepth 100000 in
set_option maxHeartbeats 4000000 in
theorem decimalDigits_walk (w : World) {A0 : Option Addr} {n0 c0 : Nat} {l0 : List Int} {a0 : Int}
    (b0 : Bool) (w0 : IL w A0 n0 c0 l0) (i0 : I64 l0) (x0 : -9223372036854775808 ≤ a0 ∧ a0 ≤ 9223372036854775807) :
    Calls Try.prog 12 #[.agg #[.bool b0, .slice A0 n0 c0, .int .i64 a0]] w fun e w' => e = .returned (.bool true) ∧ Below w.heap.size w w' := by
  obtain ⟨X, hX, _, hg⟩ := cgood_ex (A := A0) (n := n0) (c := c0) b0 a0 20 i0 x0 (by omega)
  have iX := I64_of_may hX.1
  have lX := hX.2.2.2
  have bX := hX.2.2.1
  have bX0 := hX.2.1
  obtain ⟨p1, p2, hp1, hp2, hpl, hmp, hhd, hcl, hcd, hP1⟩ : ∃ p1 p2 : List Int, p1.length ≤ 20 ∧ p2.length ≤ 20 ∧ Hid ((p2.length : Int) = X.s) ∧ mayL (p1 ++ p2) = true ∧ (0 < p1.length → p1.getD 0 0 ≠ 0) ∧ Hid (cmpL (p1 ++ p2) X.l = 0) ∧ Hid (cmpDc ⟨X.neg, p1 ++ p2, X.s⟩ X = 0) ∧
      Hid (∀ A n c W, IL W A n c X.l → Calls Try.prog 44 #[.agg #[.bool X.neg, .slice A n c, .int .i64 X.s]] W (RP W p1 p2)) := by
    obtain ⟨k, hk⟩ := Int.eq_ofNat_of_zero_le bX0
    refine ⟨(partsS X.l k).1, (partsS X.l k).2, ?_, ?_, ?_, parts_may hX.1 k, headed_at (parts_headed _ _), parts_cmpL hX.1 k, ?_, fun A n c W hW => ?_⟩
    · have := parts_len1 X.l k; omega
    · rw [parts_len]; omega
    · rw [Hid, parts_len, hk]
    · rw [Hid, hk]
      have := parts_cmpDc X.neg X.l k
      rw [← hk] at this ⊢
      exact this
    · rw [hk]; exact parts_any X.neg k W hW iX (by have := hW.len; omega) (by omega)
  go_enter Try.func12, Try.ntmps12
  go_wp2_with fail
  refine (hg.out _ (w0.alloc _)).mono ?_
  rintro e w2 ⟨A2, n2, c2, rfl, hI2, hB2, _⟩
  have hL2 := ((Later.refl w).alloc (.cells #[.bool b0, .slice A0 n0 c0, .int .i64 a0] 24)).call hB2
  have hx2 := DB.made w w2 24 hL2 hI2 _ rfl
  have qx0 := hx2.c0
  have qx1 := hx2.c1
  have qx2 := hx2.c2
  go_wp2_with fail
  refine (of6_any _ _ _).mono ?_
  rintro e w3 ⟨rfl, hB3⟩
  clear qx0 qx1 qx2
  have hx3 := hx2.call hB3
  clear hx2
  go_wp2_with fail
  refine (hP1.out _ _ _ _ hx3.il).mono ?_
  rintro e w4 ⟨A4, n4, c4, E4, m4, d4, rfl, hI4, hJ4, hB4⟩
  have hx4 := hx3.call hB4
  clear hx3
  have hn4 : n4 ≤ 20 := by have := hI4.len; omega
  have hm4 : m4 ≤ 20 := by have := hJ4.len; omega
  have hd4 : 0 < n4 → p1.getD 0 0 ≠ 0 := fun h => hhd (by rw [hI4.len]; exact h)
  have hsc := Lib.hid (show X.s = (m4 : Int) by rw [← hpl.out, hJ4.len])
  clear hhd hB2 hB3 hI2 hL2
  go_upto_region 5 with (at_builtin; refine wpList_append_OL w4.heap.size rfl _ _ rfl rfl rfl (OL.nil _ _) hI4 (Nat.le_refl _) (by omega) ?_; intro A5 c5 w5 hO5 hB5 hg5)
  rw [List.nil_append] at hO5
  simp only [Nat.zero_add] at hO5
  clear hg5
  go_upto_region 6 with (at_builtin; refine wpList_append_OL w4.heap.size rfl _ _ rfl rfl rfl hO5 (hJ4.below hB5) hB5.size (by omega) ?_; intro A6 c6 w6 hO6 hB6 hg6)
  clear hg6
  have hnmb : n4 + m4 ≤ 40 := by omega
  generalize n4 + m4 = nm at *
  have hB46 := hB5.trans hB6
  have hx6 := hx4.call hB46
  have hI6 := hI4.below hB46
  have hJ6 := hJ4.below hB46
  clear hx4 hI4 hJ4 hB4 hB5 hB6 hO5
  have key : ∀ (Q : Prop), (0 < n4 → ∀ b off d, A4 = some ⟨b, off, none⟩ → w6.cell? ⟨b, off, none⟩ = some (.int .i64 d) → (d == (0 : Int)) = false → Q) → (n4 = 0 → Q) → Q := by
    intro Q h1 h2
    rcases Nat.eq_zero_or_pos n4 with h | h
    · exact h2 h
    · obtain ⟨b, off, e, hc⟩ := hI6.at_ h
      exact h1 h b off _ e (by simpa using hc) (by simpa using hd4 h)
  have hxx := Lib.hid hx6.at_
  have hL := hx6.later
  have hal := Lib.hid hO6.il
  have c1 := Lib.hid (fun W (hW : Later w6 W) => show Calls Try.prog 46 #[.slice A6 nm c6, .slice A2 n2 c2] W (RV W (.int .i64 0)) by
    rw [← hcl.out]
    exact rcompare_any _ _ _ _ _ _ _ _ W (hal.out.later hW) (hxx.out.later hW).2 (by omega) (by have := (hxx.out.later hW).2.len; omega))
  have c2' := Lib.hid (fun W (hW : Later w6 W) => show Calls Try.prog 39 #[.agg #[.bool X.neg, .slice A6 nm c6, .int .i64 (m4 : Int)], .agg #[.bool X.neg, .slice A2 n2 c2, .int .i64 X.s]] W (RV W (.int .i64 0)) by
    rw [← hsc.out, ← hcd.out]
    exact ccompare_any X.neg X.neg X.s X.s W (hal.out.later hW) (hxx.out.later hW).2 hmp hX.1 (by omega) (by have := (hxx.out.later hW).2.len; omega) bX0 (by omega) bX0 (by omega))
  have K0 := hxx.out.1.1
  have K1 := hxx.out.1.2.1
  have K2 := hxx.out.1.2.2
  clear hx6 hJ6 hI6 hO6 hB46
  apply key
  · rintro hpos b off d rfl hcell hd0
    clear key hd4
    go_upto_region 7 with fail
    clear K0 K1 K2
    have K0 := hxx.out.k0
    have K1 := hxx.out.k1
    have K2 := hxx.out.k2
    refine wp_region_ext (by kernel_rfl) (by kernel_rfl) ?_
    repeat (go_big_quiet_step (first
      | (go_at_call 33; exact quiet_ext _ (of6_any _ _ _))
      | (go_at_call 46; exact quiet_ext _ (c1.out _ (Ext.h _)))
      | (go_at_call 39; exact quiet_ext _ (c2'.out _ (Ext.h _)))
      | (go_at_call 37; exact quiet_ext _ (lives6_any _))))
    refine wpQuiet_nil ?_
    rintro _ ⟨s4, rfl⟩
    go_wp2_with fail
    go_ret
    exact ⟨rfl, below_from hL s4.h⟩
  · intro hz
    subst hz
    clear key hd4
    go_upto_region 7 with fail
    clear K0 K1 K2
    have K0 := hxx.out.k0
    have K1 := hxx.out.k1
    have K2 := hxx.out.k2
    refine wp_region_ext (by kernel_rfl) (by kernel_rfl) ?_
    repeat (go_big_quiet_step (first
      | (go_at_call 33; exact quiet_ext _ (of6_any _ _ _))
      | (go_at_call 46; exact quiet_ext _ (c1.out _ (Ext.h _)))
      | (go_at_call 39; exact quiet_ext _ (c2'.out _ (Ext.h _)))
      | (go_at_call 37; exact quiet_ext _ (lives6_any _))))
    refine wpQuiet_nil ?_
    rintro _ ⟨s4, rfl⟩
    go_wp2_with fail
    go_ret
    exact ⟨rfl, below_from hL s4.h⟩

end Go.Proofs.Ytnndiikogaoeiaa
