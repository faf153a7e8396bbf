/- The walk of DraftBack. No condition. -/
import Derived.Test.YtgjmcanjlcblgaaDr9
import Derived.Test.YtgjmcanjlcblgaaDrP
namespace Go.Proofs.Ytgjmcanjlcblgaa
open Go.RowKit

theorem oddL_good (l : List Int) (m : Nat) : oddL (goodL11 l m) = false := odd_of (goodL11_bd l m)

set_option maxHeartbeats 2000000 in
theorem draftBack_walk (w : World) {A0 : Option Addr} {n0 c0 : Nat} {l0 : List Int} {E0 : Option Addr} {m0 d0 : Nat} {k0 : List Int} {a1 : Int} {A2 : Option Addr} {n2 c2 : Nat} {l2 : List Int} (b0 p0 : Bool)
    (w0 : IL w A0 n0 c0 l0) (i0 : I64 l0) (x0 : IL w E0 m0 d0 k0) (j0 : I64 k0) (w1 : -9223372036854775808 ≤ a1 ∧ a1 ≤ 9223372036854775807) (w2 : IL w A2 n2 c2 l2) (i2 : I64 l2) :
    Calls Try.prog 4 #[.agg #[.bool b0, .slice A0 n0 c0, .bool p0, .slice E0 m0 d0], .int .i64 a1, .slice A2 n2 c2] w fun e w' => e = .returned (.bool true) ∧ Below w.heap.size w w' := by
  have hg := Lib.hid (fun W hW hW2 => show Calls Try.prog 16 #[.agg #[.bool b0, .slice A0 n0 c0, .bool false, .slice E0 m0 d0], .int .i64 9, .int .i64 9] W (RD W ⟨b0, goodL l0 9, false, []⟩) from dgood_any (A := A0) (n := n0) (c := c0) (l := l0) (E := E0) (m := m0) (k := d0) (f := k0) b0 false 9 9 W hW hW2 i0 j0 (by omega) (by omega))
  have hp := Lib.hid (fun W hW => show Calls Try.prog 17 #[.slice A2 n2 c2, .int .i64 5] W (RO W (goodL11 l2 5)) from points_any A2 n2 c2 5 l2 W hW i2 (by omega))
  have hI := mayL_good l0 9
  have hIl : (goodL l0 9).length ≤ 9 := by rw [goodL_len]; omega
  have hs := oddL_good l2 5
  have hsl : (goodL11 l2 5).length ≤ 5 := by rw [goodL11_len]; omega
  generalize goodL l0 9 = I at *
  generalize goodL11 l2 5 = S at *
  obtain ⟨i, hi, hil⟩ : ∃ i : Nat, around a1 ((I.length : Int) + 1) = i ∧ i ≤ I.length := by
    have := around_bd a1 ((I.length : Int) + 1) (by omega)
    exact ⟨(around a1 ((I.length : Int) + 1)).toNat, by omega, by omega⟩
  have hSI : I64 S := fun x hx => by have := atom_of hs x hx; omega
  have hII : I64 I := fun x hx => by have := mayL_iff.1 hI x hx; omega
  have hnil : I64 [] := fun x hx => by cases hx
  obtain ⟨X, ec, hXe⟩ : ∃ X ec, spliceS ⟨b0, I, false, []⟩ i i S = (X, ec) := ⟨_, _, rfl⟩
  have har := Lib.hid (fun (n : Nat) (hn : I.length = n) (W : World) => show Calls Try.prog 18 #[.int .i64 a1, .int .i64 ((n : Int) + 1)] W fun e W' => e = .returned (.int .i64 (i : Int)) ∧ W = W' by
    subst hn
    have := around_any a1 ((I.length : Int) + 1) W w1.1 w1.2 (by omega) (by omega)
    rw [hi] at this
    exact this)
  have hsp := Lib.hid (fun (A : Option Addr) (n c : Nat) (E : Option Addr) (m k : Nat) (Z : Option Addr) (ns cs : Nat) (W : World) (h1 : IL W A n c I) (h2 : IL W E m k []) (h3 : IL W Z ns cs S) => show Calls Try.prog 19 #[.agg #[.bool b0, .slice A n c, .bool false, .slice E m k], .int .i64 (i : Int), .int .i64 (i : Int), .slice Z ns cs] W (RDE W X ec) by
    have e1 := h1.len
    have e2 := h2.len
    have e3 := h3.len
    simp at e2
    have := splice_any b0 false (i : Int) (i : Int) W h1 h2 h3 hII hnil hSI (by omega) (by omega) (by omega) (by omega) (by omega)
    rw [hXe] at this
    exact this)
  have HXE := Lib.hid hXe
  clear hXe hi
  go_enter Try.func4, Try.ntmps4
  go_wp2_with fail
  refine (hg.out _ (w0.alloc _) (x0.alloc _)).mono ?_
  rintro e w3 ⟨A, n, c, E, m, k, rfl, hA, hE, hB⟩
  have hb3 : Below w.heap.size w w3 := below_from ((Below.refl _ _).alloc (Nat.le_refl _) _) hB
  have hF := Fresh4.made w3 w3 24 (.bool b0) (.slice A n c) (.bool false) (.slice E m k) (Later.refl w3) _ rfl
  go_wp2_with fail
  refine (hp.out _ ((w2.below hb3).alloc _)).mono ?_
  rintro e w4 ⟨A4, n4, c4, rfl, hS, hB4⟩
  have hF4 := hF.call hB4
  obtain ⟨⟨q0, q1, q2, q3⟩, _⟩ := hF4.cells
  have hn : n ≤ 9 := by have := hA.len; omega
  have hn4 : n4 ≤ 5 := by have := hS.len; omega
  go_wp2_with fail
  refine (har.out n hA.len _).mono ?_
  rintro e w5 ⟨rfl, rfl⟩
  go_wp2_with fail
  refine (of_any _ _ _ _ _ _ _ _ _).mono ?_
  rintro e w5 ⟨rfl, hB5⟩
  have hF5 := hF4.call hB5
  go_wp2_with fail
  refine (hsp.out _ _ _ _ _ _ _ _ _ _ (hA.later hF5.2.2) (hE.later hF5.2.2) (hS.il.below hB5)).mono ?_
  rintro e w6 ⟨A6, n6, c6, E6, m6, k6, rfl, hX6, hY6, hB6, _, _⟩
  have hF6 := hF5.call hB6
  have hG := Fresh4.made w6 w6 31 (.bool X.neg) (.slice A6 n6 c6) (.bool X.sep) (.slice E6 m6 k6) (Later.refl w6) _ rfl
  go_wp2_with fail
  have hS6 : IL (w6.alloc (.cells #[.bool X.neg, .slice A6 n6 c6, .bool X.sep, .slice E6 m6 k6] 31)) A4 n4 c4 S := ((hS.il.below hB5).below hB6).alloc _
  have hSl := Lib.hid hS.len
  have hb6 : Below w.heap.size w (w6.alloc (.cells #[.bool X.neg, .slice A6 n6 c6, .bool X.sep, .slice E6 m6 k6] 31)) := below_from (below_from hb3 hF6.2.2) ((Below.refl _ _).alloc (Nat.le_refl _) _)
  have hle4 := hS.il.le
  have hcap4 := hS.il.cap
  obtain ⟨w7, hw7⟩ : ∃ w7, w7 = w6.alloc (.cells #[.bool X.neg, .slice A6 n6 c6, .bool X.sep, .slice E6 m6 k6] 31) := ⟨_, rfl⟩
  have hF7 : Fresh4 w3 w3.heap.size 24 (.bool b0) (.slice A n c) (.bool false) (.slice E m k) w7 := by rw [hw7]; exact hF6.alloc _
  have hX7 : IL w7 A6 n6 c6 X.int := by rw [hw7]; exact hX6.alloc _
  have hY7 : IL w7 E6 m6 k6 X.frac := by rw [hw7]; exact hY6.alloc _
  rw [← hw7] at hG hS6 hb6
  rw [← hw7]
  clear hw7
  obtain ⟨⟨q0, q1, q2, q3⟩, _⟩ := hF7.cells
  obtain ⟨⟨g0, g1, g2, g3⟩, _⟩ := hG.cells
  go_loop [12, 13] (fun x y => ∃ q : Nat, q ≤ n4 ∧ y = .int .i64 q ∧ x = .int .i64 (pts (S.take q))) (fun _ y => n4 - (intOf y).toNat)
  case atStart => exact ⟨0, Nat.zero_le _, rfl, rfl⟩
  case round =>
    obtain ⟨q, hq, rfl, rfl⟩ := hrel
    by_cases hlt : q < n4
    · obtain ⟨bb, off, rfl, hc⟩ := hS6.at_ hlt
      have hT := Lib.hid (take_snoc S q (by rw [hSl.out]; exact hlt))
      have hpb : pts (S.take q) ≤ 5 := Nat.le_trans List.countP_le_length (by rw [List.length_take]; omega)
      generalize S.getD q 0 = x at *
      have hpt := Lib.hid (pts_snoc (S.take q) x)
      generalize pts (S.take q) = pq at *
      by_cases hx : x = 10
      · subst hx
        go_wp2_with fail
        go_round
        case rel => exact ⟨q + 1, by omega, by go_num, by rw [hT.out, hpt.out]; rfl⟩
        case measure => simp [intOf]; omega
      · have hne : (x == 10) = false := by simpa using hx
        have hne2 : decide (x = 10) = false := by simpa using hx
        have hi10 : Hid (is10 x = false) := hne
        go_wp2_with fail
        go_round
        case rel => exact ⟨q + 1, by omega, by go_num, by rw [hT.out, hpt.out, hi10.out]; rfl⟩
        case measure => simp [intOf]; omega
    · have hqn : q = n4 := by omega
      subst hqn
      have htk : S.take q = S := List.take_of_length_le (by rw [hSl.out]; omega)
      rw [htk]
      have hpb : pts S ≤ 5 := Nat.le_trans List.countP_le_length (by omega)
      by_cases hmany : 1 < pts S
      · have e1 := splice_many b0 hI hs hil hmany
        rw [HXE.out] at e1
        obtain ⟨rfl, rfl⟩ := Prod.mk.inj e1
        generalize pts S = ps at *
        clear e1 htk
        go_wp2_with fail
        refine (lives14_any _).mono ?_
        rintro e w8 ⟨rfl, hB8⟩
        go_wp2_with fail
        go_ret
        exact ⟨rfl, below_from hb6 hB8⟩
      · obtain ⟨X', e1, e2, ⟨e4, e5⟩, e3⟩ := splice_back b0 hI hs hil (by omega)
        rw [HXE.out] at e1
        obtain ⟨rfl, rfl⟩ := Prod.mk.inj e1
        generalize pts S = ps at *
        clear e1 htk
        rw [hSl.out] at e3
        have l1 := hX7.len
        have l2 := hY7.len
        have l3 : X.int.length ≤ 14 ∧ X.frac.length ≤ 14 := by
          unfold atomsD at e2
          simp only [List.length_append] at e2
          have := hSl.out
          omega
        have hs2 := Lib.hid (show Calls Try.prog 19 #[.agg #[.bool X.neg, .slice A6 n6 c6, .bool X.sep, .slice E6 m6 k6], .int .i64 (i : Int), .int .i64 ((i : Int) + (q : Int)), .slice none 0 0] w7 (RDE w7 ⟨b0, I, false, []⟩ 0) by
          have := splice_any X.neg X.sep (i : Int) ((i : Int) + (q : Int)) w7 hX7 hY7 (IL.nil w7) (fun x hx => by have := mayL_iff.1 e4 x hx; omega) (fun x hx => by have := mayL_iff.1 e5 x hx; omega) hnil (by omega) (by omega) (by omega) (by omega) (by omega)
          have e3' : spliceS ⟨X.neg, X.int, X.sep, X.frac⟩ (i : Int) ((i : Int) + (q : Int)) [] = (⟨b0, I, false, []⟩, 0) := by simpa using e3
          rw [e3'] at this
          exact this)
        have hlenX := Lib.hid e2
        clear e2 e3
        go_wp2_with fail
        refine hs2.out.mono ?_
        rintro e w8 ⟨A8, n8, c8, E8, m8, k8, rfl, hX8, hY8, hB8, _, _⟩
        have hH := Fresh4.made w8 w8 31 (.bool b0) (.slice A8 n8 c8) (.bool false) (.slice E8 m8 k8) (Later.refl w8) _ rfl
        have hF8 := (hF7.call hB8).alloc (.cells #[.bool b0, .slice A8 n8 c8, .bool false, .slice E8 m8 k8] 31)
        have hG8 := (hG.call hB8).alloc (.cells #[.bool b0, .slice A8 n8 c8, .bool false, .slice E8 m8 k8] 31)
        go_upto_region 15 with fail
        obtain ⟨w9, hw9⟩ : ∃ w9, w9 = w8.alloc (.cells #[.bool b0, .slice A8 n8 c8, .bool false, .slice E8 m8 k8] 31) := ⟨_, rfl⟩
        rw [← hw9] at hH hF8 hG8
        rw [← hw9]
        have hA9 : IL w9 A n c I := by rw [hw9]; exact (((hA.later hF7.2.2)).below hB8).alloc _
        have hE9 : IL w9 E m k [] := by rw [hw9]; exact (((hE.later hF7.2.2)).below hB8).alloc _
        have hX9 : IL w9 A6 n6 c6 X.int := by rw [hw9]; exact (hX7.below hB8).alloc _
        have hY9 : IL w9 E6 m6 k6 X.frac := by rw [hw9]; exact (hY7.below hB8).alloc _
        have hP9 : IL w9 A8 n8 c8 I := by rw [hw9]; exact hX8.alloc _
        have hQ9 : IL w9 E8 m8 k8 [] := by rw [hw9]; exact hY8.alloc _
        have hb9 : Below w.heap.size w w9 := by rw [hw9]; exact (below_from hb6 hB8).alloc (by have := hb6.size; have := hB8.size; omega) _
        clear hw9
        obtain ⟨⟨q0, q1, q2, q3⟩, _⟩ := hF8.cells
        obtain ⟨⟨g0, g1, g2, g3⟩, _⟩ := hG8.cells
        obtain ⟨⟨r0, r1, r2, r3⟩, _⟩ := hH.cells
        have K0 := fun s : Ext w9 => Ext.cell q0 s
        have K1 := fun s : Ext w9 => Ext.cell q1 s
        have K2 := fun s : Ext w9 => Ext.cell q2 s
        have K3 := fun s : Ext w9 => Ext.cell q3 s
        have L0 := fun s : Ext w9 => Ext.cell g0 s
        have L1 := fun s : Ext w9 => Ext.cell g1 s
        have L2 := fun s : Ext w9 => Ext.cell g2 s
        have L3 := fun s : Ext w9 => Ext.cell g3 s
        have M0 := fun s : Ext w9 => Ext.cell r0 s
        have M1 := fun s : Ext w9 => Ext.cell r1 s
        have M2 := fun s : Ext w9 => Ext.cell r2 s
        have M3 := fun s : Ext w9 => Ext.cell r3 s
        have hLn := Lib.hid (fun s : Ext w9 => show Calls Try.prog 25 #[.agg #[.bool X.neg, .slice A6 n6 c6, .bool X.sep, .slice E6 m6 k6]] s.world (RV s.world (.int .i64 ((n : Int) + (q : Int)))) by
          have := len_any X.neg X.sep s.world (hX9.ext s) (hY9.ext s) (by omega) (by omega)
          rw [hlenX.out, hA.len, hSl.out] at this
          exact_mod_cast this)
        have hSm := Lib.hid (fun s : Ext w9 => show Calls Try.prog 22 #[.agg #[.bool b0, .slice A8 n8 c8, .bool false, .slice E8 m8 k8], .agg #[.bool b0, .slice A n c, .bool false, .slice E m k]] s.world (RV s.world (.bool true)) by
          have := rdsame_any b0 false b0 false s.world (hP9.ext s) (hQ9.ext s) (hA9.ext s) (hE9.ext s)
          rw [sameD_refl] at this
          exact this)
        have hwr : IntKind.i64.wrap ((n : Int) + (q : Int)) = (n : Int) + (q : Int) := IntWalk.i64_in _ (by omega)
        refine wp_region_ext (by kernel_rfl) (by kernel_rfl) ?_
        repeat (quiet_step (first
          | (go_at_call 25; exact quiet_ext _ (hLn.out _))
          | (go_at_call 23; exact quiet_ext _ (as_any _ _ _ _ _ _ _ _ _))
          | (go_at_call 22; exact quiet_ext _ (hSm.out _))
          | (go_at_call 24; exact quiet_ext _ (lives14_any _))))
        refine wpQuiet_nil ?_
        rintro _ ⟨s, rfl⟩
        clear hwr
        go_wp2_with fail
        go_ret
        exact ⟨rfl, below_from hb9 s.h⟩

end Go.Proofs.Ytgjmcanjlcblgaa
