/- The example of layer 13 lives. No condition. -/
import Derived.Test.YtickhmlhciafgaaGreatMa23
import Derived.Test.YtickhmlhciafgaaGreatMa17
namespace Go.Proofs.YtickhmlhciafgaaGreat
open Go.RowKit

theorem lives13_p1 : bs (printL ⟨false, [7, 2], 1⟩) = { data := #[55, 46, 50] } := by rfl
theorem lives13_p2 : bs (printL ⟨false, [5, 5], 1⟩) = { data := #[53, 46, 53] } := by rfl
theorem built13_n : Tryz.prog.built 30 [(0, .int .i64 3), (1, .int .i64 2), (2, .int .i64 1), (5, .int .i64 6), (6, .int .i64 1)] = some #[.int .i64 3, .int .i64 2, .int .i64 1, .int .i64 0, .int .i64 0, .int .i64 6, .int .i64 1] := by kernel_rfl
theorem built13_c : Tryz.prog.built 38 [(0, .string { data := #[48] }), (1, .string { data := #[57, 57, 46, 53] }), (2, .string { data := #[48, 46, 53] }), (3, .agg #[.int .i64 3, .int .i64 2, .int .i64 1, .int .i64 0, .int .i64 0, .int .i64 6, .int .i64 1])] = some c13.cs := by kernel_rfl
set_option maxRecDepth 100000 in
set_option maxHeartbeats 4000000 in
theorem lives13_any (w : World) : Calls Tryz.prog 20 #[] w (RV w (.bool true)) := by
  have hcn := Lib.hid (fun W => c13_ok.cnew W)
  have hbd := Lib.hid c13_ok.ruBd
  have hb1 := built13_n
  have hb2 := built13_c
  have v1 := Lib.hid v13_1
  have v2 := Lib.hid v13_2
  generalize c13.ru = R at *
  generalize c13.cs = CC at *
  go_enter Tryz.func20, Tryz.ntmps20
  go_wp2_with (first | (refine wpList_build_ _ _ rfl rfl ?_ hb1 ?_; (exact rfl); go_simp) | (refine wpList_build_ _ _ rfl rfl ?_ hb2 ?_; (exact rfl); go_simp))
  refine (hcn.out _).mono ?_
  rintro e w1 ⟨y, rfl, hyr, hyok, hB1, hyf⟩
  have v1 : Hid (valueC y.r ⟨false, [7, 2, 5], 2⟩ = (⟨false, [7, 2], 1⟩, 0)) := by rw [Hid, hyr]; exact v1.out
  have v2 : Hid (moveC y.r ⟨false, [7], 0⟩ (-3) = (⟨false, [5, 5], 1⟩, 0)) := by rw [Hid, hyr]; exact v2.out
  have hbd : Hid y.r.Bd := by rw [Hid, hyr]; exact hbd.out
  have hva := Lib.hid (fun (A : Option Addr) (n c : Nat) W (hW : y.ok W) (hI : IL W A n c [7, 2, 5]) => show Calls Tryz.prog 14 #[.agg y.cs, .agg #[.bool false, .slice A n c, .int .i64 2]] W (RCE W ⟨false, [7, 2], 1⟩ 0) by
    have e1 := hI.len
    simp at e1
    have := cvalue_any y ⟨false, [7, 2, 5], 2⟩ W hW hI hbd.out (I64_lit rfl) ⟨by decide, by decide⟩ (by omega)
    rw [v1.out] at this
    exact this)
  have hmo := Lib.hid (fun (A : Option Addr) (n c : Nat) W (hW : y.ok W) (hI : IL W A n c [7]) => show Calls Tryz.prog 22 #[.agg y.cs, .agg #[.bool false, .slice A n c, .int .i64 0], .int .i64 (-3)] W (RCE W ⟨false, [5, 5], 1⟩ 0) by
    have e1 := hI.len
    simp at e1
    have := cmove_any y ⟨false, [7], 0⟩ (-3) W hW hI hbd.out (I64_lit rfl) ⟨by decide, by decide⟩ (by omega) (by omega)
    rw [v2.out] at this
    exact this)
  have hp1 := Lib.hid (fun (A : Option Addr) (n c : Nat) W (h1 : IL W A n c [7, 2]) => show Calls Tryz.prog 59 #[.agg #[.bool false, .slice A n c, .int .i64 1]] W (RV W (.string { data := #[55, 46, 50] })) by
    have e1 := h1.len
    simp at e1
    have := cprint_any false 1 W h1 (I64_lit rfl) (by omega) (by omega)
    rw [lives13_p1] at this
    exact this)
  have hp2 := Lib.hid (fun (A : Option Addr) (n c : Nat) W (h1 : IL W A n c [5, 5]) => show Calls Tryz.prog 59 #[.agg #[.bool false, .slice A n c, .int .i64 1]] W (RV W (.string { data := #[53, 46, 53] })) by
    have e1 := h1.len
    simp at e1
    have := cprint_any false 1 W h1 (I64_lit rfl) (by omega) (by omega)
    rw [lives13_p2] at this
    exact this)
  clear hb1 hb2 hcn hbd v1 v2 hyr
  have hL1 : Later w w1 := hB1
  have hY0 := Blk.made w w1 32 #[.bool false, .slice none 0 0, .int .i64 0, .bool false, .slice none 0 0, .int .i64 0, .bool false, .slice none 0 0, .int .i64 0, .bool false, .int .i64 0, .int .i64 0, .int .i64 0, .int .i64 0, .int .i64 0, .int .i64 0, .int .i64 0] hL1 _ rfl
  go_upto_region 2 with (refine wpList_store_blk hY0 row_rules rfl rfl rfl rfl rfl rfl (by kernel_rfl) ?_; intro w2 hY hS2; go_simp)
  have hy2 := (hyok.later ((Later.refl w1).alloc (.cells #[.bool false, .slice none 0 0, .int .i64 0, .bool false, .slice none 0 0, .int .i64 0, .bool false, .slice none 0 0, .int .i64 0, .bool false, .int .i64 0, .int .i64 0, .int .i64 0, .int .i64 0, .int .i64 0, .int .i64 0, .int .i64 0] 32))).sto hS2 (hyok.apart (Nat.le_refl _))
  clear hY0 hS2 hyok hyf hL1 hB1
  generalize w1.heap.size = gy at *
  have hY' := fun o => hY.alloc o
  go_wp2_with (first | (refine wpList_load_blk hY row_rules rfl rfl rfl rfl ?_; go_simp))
  refine (hva.out _ _ _ _ (hy2.later ((Later.refl w2).alloc _)) (IL.one3 w2 3 7 2 5 _ rfl)).mono ?_
  rintro e w3 ⟨A3, n3, c3, rfl, hI3, hB3, _⟩
  have hY3 := ((hY.alloc (.cells #[.int .i64 7, .int .i64 2, .int .i64 5] 3)).call hB3).alloc (.cells #[.bool false, .slice A3 n3 c3, .int .i64 1] 29)
  have hy3 := ((hy2.later ((Later.refl w2).alloc (.cells #[.int .i64 7, .int .i64 2, .int .i64 5] 3))).later hB3).later ((Later.refl w3).alloc (.cells #[.bool false, .slice A3 n3 c3, .int .i64 1] 29))
  have hP3 := Blk.made w w3 29 #[.bool false, .slice A3 n3 c3, .int .i64 1] ((hY.alloc (.cells #[.int .i64 7, .int .i64 2, .int .i64 5] 3)).call hB3).later _ rfl
  have hI3' := hI3.alloc (.cells #[.bool false, .slice A3 n3 c3, .int .i64 1] 29)
  clear hY' hY hy2 hva hI3
  go_upto_region 5 with fail
  generalize World.alloc w3 _ = w4 at *
  clear hB3
  generalize w3.heap.size = g3 at *
  go_wp2_with (first | (refine wpList_load_blk hY3 row_rules rfl rfl rfl rfl ?_; go_simp))
  refine (hmo.out _ _ _ _ (hy3.later ((Later.refl w4).alloc _)) (IL.one1 w4 3 7 _ rfl)).mono ?_
  rintro e w5 ⟨A5, n5, c5, rfl, hI5, hB5, _⟩
  have hP5 := ((hP3.alloc (.cells #[.int .i64 7] 3)).call hB5).alloc (.cells #[.bool false, .slice A5 n5 c5, .int .i64 1] 29)
  have hI3b := ((hI3'.alloc (.cells #[.int .i64 7] 3)).below hB5).alloc (.cells #[.bool false, .slice A5 n5 c5, .int .i64 1] 29)
  have hQ5 := Blk.made w w5 29 #[.bool false, .slice A5 n5 c5, .int .i64 1] ((hP3.alloc (.cells #[.int .i64 7] 3)).call hB5).later _ rfl
  have hI5' := hI5.alloc (.cells #[.bool false, .slice A5 n5 c5, .int .i64 1] 29)
  clear hY3 hy3 hmo hI3' hP3 hI5
  go_upto_region 6 with fail
  generalize World.alloc w5 _ = w6 at *
  clear hB5
  generalize w5.heap.size = g5 at *
  obtain ⟨⟨p0, p1, p2⟩, _⟩ := hP5.cells3
  go_wp2_with fail
  refine (hp1.out _ _ _ _ hI3b).mono ?_
  rintro e w7 ⟨rfl, hB7⟩
  have hQ7 := hQ5.call hB7
  have hI7 := hI5'.below hB7
  clear p0 p1 p2 hP5 hQ5 hI3b hI5' hp1
  obtain ⟨⟨p0, p1, p2⟩, _⟩ := hQ7.cells3
  go_wp2_with fail
  refine (hp2.out _ _ _ _ hI7).mono ?_
  rintro e w8 ⟨rfl, hB8⟩
  go_wp2_with fail
  go_ret
  exact ⟨rfl, (hQ7.call hB8).later⟩

end Go.Proofs.YtickhmlhciafgaaGreat

