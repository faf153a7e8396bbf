/- The walk of DraftSame. No condition. -/
import Derived.Test.YtgjmcanjlcblgaaDBack
import Derived.Test.YtgjmcanjlcblgaaDV
namespace Go.Proofs.Ytgjmcanjlcblgaa
open Go.RowKit

set_option maxHeartbeats 2000000 in
theorem draftSame_walk (w : World) {A0 : Option Addr} {n0 c0 : Nat} {l0 : List Int} {E0 : Option Addr} {m0 d0 : Nat} {k0 : List Int} {A1 : Option Addr} {n1 c1 : Nat} {l1 : List Int} {E1 : Option Addr} {m1 d1 : Nat} {k1 : List Int} (b0 p0 : Bool)
    (w0 : IL w A0 n0 c0 l0) (i0 : I64 l0) (x0 : IL w E0 m0 d0 k0) (j0 : I64 k0) (b1 p1 : Bool) (w1 : IL w A1 n1 c1 l1) (i1 : I64 l1) (x1 : IL w E1 m1 d1 k1) (j1 : I64 k1) :
    Calls Try.prog 5 #[.agg #[.bool b0, .slice A0 n0 c0, .bool p0, .slice E0 m0 d0], .agg #[.bool b1, .slice A1 n1 c1, .bool p1, .slice E1 m1 d1]] w fun e w' => e = .returned (.bool true) ∧ Below w.heap.size w w' := by
  have hg0 := Lib.hid (fun W hW hW2 => dgood_any (A := A0) (n := n0) (c := c0) (l := l0) (E := E0) (m := m0) (k := d0) (f := k0) b0 p0 4 4 W hW hW2 i0 j0 (by omega) (by omega))
  have hg1 := Lib.hid (fun W hW hW2 => dgood_any (A := A1) (n := n1) (c := c1) (l := l1) (E := E1) (m := m1) (k := d1) (f := k1) b1 p1 4 4 W hW hW2 i1 j1 (by omega) (by omega))
  generalize (⟨b0, goodL l0 4, p0, if p0 then goodL k0 4 else []⟩ : Dr) = X at hg0
  generalize (⟨b1, goodL l1 4, p1, if p1 then goodL k1 4 else []⟩ : Dr) = Y at hg1
  go_enter Try.func5, Try.ntmps5
  go_wp2_with fail
  refine (hg0.out _ ((w0.alloc _).alloc _) ((x0.alloc _).alloc _)).mono ?_
  rintro e w3 ⟨A, n, c, E, m, q, rfl, hA, hE, hB⟩
  have hP := (Fresh4.made w _ 24 (.bool b1) (.slice A1 n1 c1) (.bool p1) (.slice E1 m1 d1) ((Later.refl w).alloc (.cells #[.bool b0, .slice A0 n0 c0, .bool p0, .slice E0 m0 d0] 24)) (w.heap.size + 1) (by simp)).call hB
  have hb3 := hP.2.2
  have hF := Fresh4.made w w3 24 (.bool X.neg) (.slice A n c) (.bool X.sep) (.slice E m q) hb3 _ rfl
  have q0 := fun o => (hP.alloc o).cells.1.1
  have q1 := fun o => (hP.alloc o).cells.1.2.1
  have q2 := fun o => (hP.alloc o).cells.1.2.2.1
  have q3 := fun o => (hP.alloc o).cells.1.2.2.2
  go_wp2_with fail
  refine (hg1.out _ ((w1.later hb3).alloc _) ((x1.later hb3).alloc _)).mono ?_
  rintro e w4 ⟨A', n', c', E', m', q', rfl, hA', hE', hB4⟩
  have hF4 := hF.call hB4
  have r00 := fun o => (hF4.alloc o).cells.1.1
  have r01 := fun o => (hF4.alloc o).cells.1.2.1
  have r02 := fun o => (hF4.alloc o).cells.1.2.2.1
  have r03 := fun o => (hF4.alloc o).cells.1.2.2.2
  have r10 := fun o o' => ((hF4.alloc o).alloc o').cells.1.1
  have r11 := fun o o' => ((hF4.alloc o).alloc o').cells.1.2.1
  have r12 := fun o o' => ((hF4.alloc o).alloc o').cells.1.2.2.1
  have r13 := fun o o' => ((hF4.alloc o).alloc o').cells.1.2.2.2
  have r20 := fun o o' o'' => (((hF4.alloc o).alloc o').alloc o'').cells.1.1
  have r21 := fun o o' o'' => (((hF4.alloc o).alloc o').alloc o'').cells.1.2.1
  have r22 := fun o o' o'' => (((hF4.alloc o).alloc o').alloc o'').cells.1.2.2.1
  have r23 := fun o o' o'' => (((hF4.alloc o).alloc o').alloc o'').cells.1.2.2.2
  go_wp2_with fail
  generalize hw9 : World.alloc (World.alloc (World.alloc (World.alloc w4 _) _) _) _ = w9
  have hb9 : Later w w9 := by rw [← hw9]; exact ((((hF4.2.2.alloc _).alloc _).alloc _).alloc _)
  have h49 : Later w4 w9 := by rw [← hw9]; exact (((((Later.refl w4).alloc _).alloc _).alloc _).alloc _)
  have hX9 : IL w9 A n c X.int ∧ IL w9 E m q X.frac := ⟨((hA.alloc _).below hB4).later h49, ((hE.alloc _).below hB4).later h49⟩
  have hY9 : IL w9 A' n' c' Y.int ∧ IL w9 E' m' q' Y.frac := ⟨hA'.later h49, hE'.later h49⟩
  obtain ⟨F, hF⟩ : ∃ F : Nat → DV, ∀ k, k < 4 → (F k).at_ w9 (w4.heap.size + 3) (k * 4) ∧ (F k).ok w9 := by
    refine ⟨fun k => if k = 0 then ⟨X.neg, A, n, c, X.int, X.sep, E, m, q, X.frac⟩ else if k = 1 then ⟨Y.neg, A', n', c', Y.int, Y.sep, E', m', q', Y.frac⟩ else if k = 2 then ⟨Y.neg, A, n, c, X.int, X.sep, E, m, q, X.frac⟩ else ⟨X.neg, A, n, c, X.int, Y.sep, E, m, q, X.frac⟩, ?_⟩
    intro k hk
    have hcs : ∀ i, w9.cell? ⟨w4.heap.size + 3, i, none⟩ = (#[.bool X.neg, .slice A n c, .bool X.sep, .slice E m q, .bool Y.neg, .slice A' n' c', .bool Y.sep, .slice E' m' q', .bool Y.neg, .slice A n c, .bool X.sep, .slice E m q, .bool X.neg, .slice A n c, .bool Y.sep, .slice E m q] : Array Value)[i]? := by
      intro i
      rw [← hw9, World.cell?_alloc_at _ _ _ _ (by simp)]
    have hkk : k = 0 ∨ k = 1 ∨ k = 2 ∨ k = 3 := by omega
    rcases hkk with rfl | rfl | rfl | rfl
    · exact ⟨⟨hcs 0, hcs 1, hcs 2, hcs 3⟩, hX9⟩
    · exact ⟨⟨hcs 4, hcs 5, hcs 6, hcs 7⟩, hY9⟩
    · exact ⟨⟨hcs 8, hcs 9, hcs 10, hcs 11⟩, hX9⟩
    · exact ⟨⟨hcs 12, hcs 13, hcs 14, hcs 15⟩, hX9⟩
  have HF := Lib.hid hF
  clear hF hw9 h49 hX9 hY9
  go_loopw [10] (fun v wr => ∃ i : Nat, i ≤ 4 ∧ v = .int .i64 i ∧ Later w9 wr) (fun v _ => 4 - (intOf v).toNat)
  case atStart => exact ⟨0, by omega, rfl, Later.refl _⟩
  case round =>
    obtain ⟨i, hi, rfl, hL⟩ := hrel
    obtain ⟨wo, rfl⟩ : ∃ wo : World, wo = wr := ⟨_, rfl⟩
    by_cases hlt : i < 4
    · have hd : decide ((i : Int) < 4) = true := by simp; omega
      go_wp2_with fail
      go_loopw [11] (fun v wr => ∃ k : Nat, k ≤ 4 ∧ v = .int .i64 k ∧ Later w9 wr) (fun v _ => 4 - (intOf v).toNat)
      case atStart => exact ⟨0, by omega, rfl, hL⟩
      case round =>
        obtain ⟨k, hk, rfl, hL2⟩ := hrel
        clear hd
        have hi4 : (i : Int) < 4 := by omega
        have hi0 : (0 : Int) ≤ (i : Int) := by omega
        by_cases hlk : k < 4
        · go_wp2_with fail
          obtain ⟨hx1, hx2⟩ := HF.out i hlt
          obtain ⟨hy1, hy2⟩ := HF.out k hlk
          generalize F i = x at *
          generalize F k = y at *
          obtain ⟨q0, q1, q2, q3⟩ := hx1.later hL2
          obtain ⟨r0, r1, r2, r3⟩ := hy1.later hL2
          have K0 := fun s : Ext wr => Ext.cell q0 s
          have K1 := fun s : Ext wr => Ext.cell q1 s
          have K2 := fun s : Ext wr => Ext.cell q2 s
          have K3 := fun s : Ext wr => Ext.cell q3 s
          have L0 := fun s : Ext wr => Ext.cell r0 s
          have L1 := fun s : Ext wr => Ext.cell r1 s
          have L2 := fun s : Ext wr => Ext.cell r2 s
          have L3 := fun s : Ext wr => Ext.cell r3 s
          have hs1 := Lib.hid (fun s : Ext wr => dsame_any x.b x.p y.b y.p s.world ((hx2.later hL2).1.ext s) ((hx2.later hL2).2.ext s) ((hy2.later hL2).1.ext s) ((hy2.later hL2).2.ext s))
          have hs2 := Lib.hid (fun s : Ext wr => rdsame_any x.b x.p y.b y.p s.world ((hx2.later hL2).1.ext s) ((hx2.later hL2).2.ext s) ((hy2.later hL2).1.ext s) ((hy2.later hL2).2.ext s))
          generalize sameD _ _ = sb at hs1 hs2
          refine wp_region_ext (by kernel_rfl) (by kernel_rfl) ?_
          repeat (quiet_step (first
            | (go_at_call 20; exact quiet_ext _ (of_any _ _ _ _ _ _ _ _ _))
            | (go_at_call 26; exact quiet_ext _ (hs1.out _))
            | (go_at_call 22; exact quiet_ext _ (hs2.out _))))
          refine wpQuiet_nil ?_
          rintro _ ⟨s, rfl⟩
          go_wp2_with fail
          go_roundw
          case rel => first | exact ⟨k + 1, by omega, by go_num, hL2.call s.h⟩ | ((repeat apply Exists.intro); exact ⟨⟨k + 1, by omega, by go_num, hL2.call s.h⟩, rfl⟩)
          case measure => simp [intOf]; omega
        · go_wp2_with fail
          go_roundw
          case rel => first | exact ⟨i + 1, by omega, by go_num, hL2⟩ | ((repeat apply Exists.intro); exact ⟨⟨i + 1, by omega, by go_num, hL2⟩, rfl⟩)
          case measure => simp [intOf]; omega
    · go_wp2_with fail
      refine (lives14_any _).mono ?_
      rintro e w10 ⟨rfl, hB10⟩
      go_wp2_with fail
      go_ret
      exact ⟨rfl, below_from (below_from hb9 hL) hB10⟩

end Go.Proofs.Ytgjmcanjlcblgaa
