/- The walk of DecimalPrints. No condition. -/
import Derived.Test.YtaolimhbeoocjaaDp4
import Derived.Test.YtaolimhbeoocjaaDp1
import Derived.Test.YtaolimhbeoocjaaDcb
import Derived.BigQuiet
namespace Go.Proofs.Ytaolimhbeoocjaa
open Go.RowKit
set_option linter.unusedSimpArgs false

theorem printL_len (d : Dc) : (printL d).length ≤ max d.l.length (d.s.toNat + 1) + 2 := by
  unfold printL
  split
  · have h1 := textL_len (wideL d.l (d.s.toNat + 1))
    have h2 := wideL_len d.l (d.s.toNat + 1)
    have h3 : (cutL (textL (wideL d.l (d.s.toNat + 1))) d.s.toNat).length ≤ (textL (wideL d.l (d.s.toNat + 1))).length + 1 := by
      unfold cutL
      split
      · simp only [List.length_append, List.length_cons, List.length_take, List.length_drop]; omega
      · omega
    rw [List.length_append]
    split <;> simp <;> omega
  · simp
set_option maxRecDepth 100000 in
set_option maxHeartbeats 8000000 in
theorem decimalPrints_walk (w : World) {A0 : Option Addr} {n0 c0 : Nat} {l0 : List Int} {a0 : Int} (b0 : Bool) (w0 : IL w A0 n0 c0 l0) (i0 : I64 l0) (x0 : -9223372036854775808 ≤ a0 ∧ a0 ≤ 9223372036854775807) :
    Calls Try.prog 4 #[.agg #[.bool b0, .slice A0 n0 c0, .int .i64 a0]] w fun e w' => e = .returned (.bool true) ∧ Below w.heap.size w w' := by
  obtain ⟨X, hX, _, hg⟩ := cgood_ex (A := A0) (n := n0) (c := c0) b0 a0 20 i0 x0 (by omega)
  obtain ⟨m0, r0, hm0, hr0, hfew⟩ : ∃ (m0 : Nat) (r0 : List Int), m0 ≤ 20 ∧ I64 r0 ∧ Hid (∀ W, IL W A0 n0 c0 l0 → Calls Try.prog 14 #[.agg #[.bool b0, .slice A0 n0 c0, .int .i64 a0], .int .i64 20] W (fun e w' => e = .returned (.agg #[.bool b0, .slice A0 m0 c0, .int .i64 a0]) ∧ IL w' A0 m0 c0 r0 ∧ Below W.heap.size W w')) :=
    ⟨min n0 20, l0.take 20, by omega, i0.take_ 20, fun W hW => cfew_any b0 a0 20 W hW (by omega)⟩
  have hmX : mayDc X = true := mayDc_iff.2 ⟨hX.1, hX.2.1, by have := hX.2.2.1; omega⟩
  have iX := I64_of_may hX.1
  have sX : -9223372036854775808 ≤ X.s ∧ X.s ≤ 9223372036854775807 := by have := hX.2.1; have := hX.2.2.1; omega
  have lX := hX.2.2.2
  have bX := hX.2.2.1
  have bX0 := hX.2.1
  have mX := hX.1
  have hPl := printL_len X
  obtain ⟨Y, hYe⟩ : ∃ Y : Dc, Hid (Y = ⟨X.neg, wideL X.l (X.s.toNat + 1), X.s⟩) := ⟨_, rfl⟩
  obtain ⟨f1, f2, f3⟩ := print_back hmX
  rw [← hYe.out] at f1 f2 f3
  have mY := (mayDc_iff.1 f3).1
  have lY : Y.l.length ≤ 100 := by rw [hYe.out]; have := wideL_len X.l (X.s.toNat + 1); simp only; omega
  have sY : Y.s = X.s := by rw [hYe.out]
  have nY : Y.neg = X.neg := by rw [hYe.out]
  obtain ⟨P, hPb, hPx, hPr, hPz, hPy⟩ : ∃ P : ByteArray, P.size ≤ 1000 ∧ Hid (∀ A n c W, IL W A n c X.l → Calls Try.prog 15 #[.agg #[.bool X.neg, .slice A n c, .int .i64 X.s]] W (RV W (.string P))) ∧
      Hid (∀ A n c W, IL W A n c X.l → Calls Try.prog 5 #[.agg #[.bool X.neg, .slice A n c, .int .i64 X.s]] W (RV W (.string P))) ∧
      Hid (∀ W, Calls Try.prog 10 #[.string P] W (RCE W Y 0)) ∧
      Hid (∀ A n c W, IL W A n c Y.l → Calls Try.prog 15 #[.agg #[.bool Y.neg, .slice A n c, .int .i64 Y.s]] W (RV W (.string P))) := by
    refine ⟨bs (printL X), by rw [bs_size]; omega, fun A n c W hW => cprint_any X.neg X.s W hW iX sX (by have := hW.len; omega), fun A n c W hW => rprint_any X.neg X.s W hW (by have := hW.len; omega) sX, fun W => ?_, fun A n c W hW => ?_⟩
    · have := cparse_any (bs (printL X)) W (by rw [bs_size]; omega)
      rw [bs_list, parse_print hmX, ← hYe.out] at this
      exact this
    · have := cprint_any Y.neg Y.s W hW (I64_of_may mY) (by omega) (by have := hW.len; omega)
      rw [show (⟨Y.neg, Y.l, Y.s⟩ : Dc) = Y from rfl, f2] at this
      exact this
  obtain ⟨Q, hQ1, hQ2⟩ : ∃ Q : ByteArray, Hid (∀ W, IL W A0 m0 c0 r0 → Calls Try.prog 15 #[.agg #[.bool b0, .slice A0 m0 c0, .int .i64 a0]] W (RV W (.string Q))) ∧ Hid (∀ W, IL W A0 m0 c0 r0 → Calls Try.prog 5 #[.agg #[.bool b0, .slice A0 m0 c0, .int .i64 a0]] W (RV W (.string Q))) :=
    ⟨bs (printL ⟨b0, r0, a0⟩), fun W hW => cprint_any b0 a0 W hW hr0 x0 (by omega), fun W hW => rprint_any b0 a0 W hW (by omega) x0⟩
  obtain ⟨mr, hM1, hM2⟩ : ∃ mr : Bool, Hid (∀ W, IL W A0 m0 c0 r0 → Calls Try.prog 17 #[.agg #[.bool b0, .slice A0 m0 c0, .int .i64 a0]] W (RV W (.bool mr))) ∧ Hid (∀ W, IL W A0 m0 c0 r0 → Calls Try.prog 18 #[.agg #[.bool b0, .slice A0 m0 c0, .int .i64 a0]] W (RV W (.bool mr))) :=
    ⟨mayDc ⟨b0, r0, a0⟩, fun W hW => cmay_any b0 a0 W hW hr0 x0, fun W hW => rcmay_any b0 a0 W hW x0⟩
  have hM3 := Lib.hid (fun (A : Option Addr) (n c : Nat) W (hW : IL W A n c X.l) => show Calls Try.prog 17 #[.agg #[.bool X.neg, .slice A n c, .int .i64 X.s]] W (RV W (.bool true)) by
    have := cmay_any X.neg X.s W hW iX sX
    rw [show (⟨X.neg, X.l, X.s⟩ : Dc) = X from rfl, hmX] at this
    exact this)
  have hcp := Lib.hid (fun (A : Option Addr) (n c : Nat) (A' : Option Addr) (n' c' : Nat) W (hW : IL W A n c Y.l) (hW' : IL W A' n' c' X.l) => show Calls Try.prog 19 #[.agg #[.bool Y.neg, .slice A n c, .int .i64 Y.s], .agg #[.bool X.neg, .slice A' n' c', .int .i64 X.s]] W (RV W (.int .i64 0)) by
    have := rccompare_any Y.neg X.neg Y.s X.s W hW hW' mY mX (by have := hW.len; omega) (by have := hW'.len; omega) (by omega) (by omega) (by omega) (by omega)
    rw [show cmpDc ⟨Y.neg, Y.l, Y.s⟩ ⟨X.neg, X.l, X.s⟩ = 0 from f1] at this
    exact this)
  have nY' := Lib.hid nY
  have f2' := Lib.hid f2
  clear nY sY f1 f2
  go_enter Try.func4, Try.ntmps4
  go_wp2_with fail
  refine (hfew.out _ (w0.alloc _)).mono ?_
  rintro e w2 ⟨rfl, hI2, hB2⟩
  have hp2 := (Blk.made w w 24 #[.bool b0, .slice A0 n0 c0, .int .i64 a0] (Later.refl w) _ rfl).call hB2
  have hL2 := hp2.later
  have q0 := fun o => (hp2.alloc o).cells3.1.1
  have q1 := fun o => (hp2.alloc o).cells3.1.2.1
  have q2 := fun o => (hp2.alloc o).cells3.1.2.2
  have hf2 := DB.made w w2 24 hL2 (X := ⟨b0, r0, a0⟩) hI2 _ rfl
  go_wp2_with fail
  refine (hg.out _ ((w0.later hL2).alloc _)).mono ?_
  rintro e w3 ⟨A3, n3, c3, rfl, hI3, hB3, _⟩
  have hf3 := hf2.call hB3
  clear hf2
  clear q0 q1 q2 hp2 hI2
  have hx3 := DB.made w w3 24 hf3.later hI3 _ rfl
  have qx0 := hx3.c0
  have qx1 := hx3.c1
  have qx2 := hx3.c2
  go_wp2_with fail
  refine (of6_any _ _ _).mono ?_
  rintro e w4 ⟨rfl, hB4⟩
  clear qx0 qx1 qx2
  have hf4 := (hf3.alloc _).call hB4
  have hx4 := hx3.call hB4
  clear hf3 hx3
  go_wp2_with fail
  refine (hPx.out _ _ _ _ hx4.il).mono ?_
  rintro e w5 ⟨rfl, hB5⟩
  have hf5 := hf4.call hB5
  have hx5 := hx4.call hB5
  clear hf4 hx4
  go_wp2_with fail
  refine (hPz.out _).mono ?_
  rintro e w6 ⟨A6, n6, c6, rfl, hI6, hB6, _⟩
  have hf6 := hf5.call hB6
  have hx6 := hx5.call hB6
  clear hf5 hx5
  have hy6 := DB.made w w6 32 hx6.later hI6 _ rfl
  go_upto_region 5 with fail
  have zf := Lib.hid (hf6.alloc (.cells #[.bool Y.neg, .slice A6 n6 c6, .int .i64 Y.s] 32)).at_
  have zx := Lib.hid (hx6.alloc (.cells #[.bool Y.neg, .slice A6 n6 c6, .int .i64 Y.s] 32)).at_
  have zy := Lib.hid hy6.at_
  have hL := hy6.later
  clear hf6 hx6 hy6
  generalize hwz : World.alloc w6 _ = wz at *
  clear hwz
  have s1 := Lib.hid (fun s : Ext wz => hQ1.out s.world (zf.out.2.ext s))
  have s2 := Lib.hid (fun s : Ext wz => hQ2.out s.world (zf.out.2.ext s))
  have s3 := Lib.hid (fun s : Ext wz => hM1.out s.world (zf.out.2.ext s))
  have s4 := Lib.hid (fun s : Ext wz => hM2.out s.world (zf.out.2.ext s))
  have s5 := Lib.hid (fun s : Ext wz => hPr.out _ _ _ s.world (zx.out.2.ext s))
  have s6 := Lib.hid (fun s : Ext wz => hM3.out _ _ _ s.world (zx.out.2.ext s))
  have s7 := Lib.hid (fun s : Ext wz => hcp.out _ _ _ _ _ _ s.world (zy.out.2.ext s) (zx.out.2.ext s))
  have s8 := Lib.hid (fun s : Ext wz => hPy.out _ _ _ s.world (zy.out.2.ext s))
  have K0 : ∀ s : Ext wz, s.world.cell? ⟨w2.heap.size, 0, none⟩ = some (.bool b0) := zf.out.k0
  have K1 := zf.out.k1
  have K2 : ∀ s : Ext wz, s.world.cell? ⟨w2.heap.size, 2, none⟩ = some (.int .i64 a0) := zf.out.k2
  have M0 := zx.out.k0
  have M1 := zx.out.k1
  have M2 := zx.out.k2
  have N0 := zy.out.k0
  have N1 := zy.out.k1
  have N2 := zy.out.k2
  have hnY : (Y.neg == X.neg) = true := by rw [nY'.out]; exact beq_self_eq_true _
  clear hYe
  have hQQ : (Q.toList == Q.toList) = true := beq_self_eq_true _
  have hPP : (P.toList == P.toList) = true := beq_self_eq_true _
  refine wp_region_ext (by kernel_rfl) (by kernel_rfl) ?_
  iterate 15 (go_big_quiet_step (first
    | (go_at_call 16; exact quiet_ext _ (of6_any _ _ _))
    | (go_at_call 15; exact quiet_ext _ (s1.out _))
    | (go_at_call 5; exact quiet_ext _ (s2.out _))
    | (go_at_call 17; exact quiet_ext _ (s3.out _))
    | (go_at_call 18; exact quiet_ext _ (s4.out _))))
  iterate 15 (go_big_quiet_step (first
    | (go_at_call 16; exact quiet_ext _ (of6_any _ _ _))
    | (go_at_call 5; exact quiet_ext _ (s5.out _))
    | (go_at_call 17; exact quiet_ext _ (s6.out _))))
  repeat (go_big_quiet_step (first
    | (go_at_call 13; exact quiet_ext _ (as6_any _ _ _))
    | (go_at_call 19; exact quiet_ext _ (s7.out _))
    | (go_at_call 15; exact quiet_ext _ (s8.out _))
    | (go_at_call 7; exact quiet_ext _ (lives6_any _))))
  refine wpQuiet_nil ?_
  rintro _ ⟨s, rfl⟩
  go_wp2_with fail
  go_ret
  exact ⟨rfl, below_from hL s.h⟩

end Go.Proofs.Ytaolimhbeoocjaa
