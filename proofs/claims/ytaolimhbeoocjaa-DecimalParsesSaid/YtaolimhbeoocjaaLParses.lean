/- The walk of DecimalParses. No condition. -/
import Derived.Test.YtaolimhbeoocjaaLPrints
import Derived.Laws.IdiomStrings
namespace Go.Proofs.Ytaolimhbeoocjaa
open Go.RowKit
set_option linter.unusedSimpArgs false

def few6 (s : ByteArray) (m : Nat) : ByteArray := if m < s.size then s.extract 0 m else s
theorem few6_size (s : ByteArray) (m : Nat) : (few6 s m).size ≤ m := by
  unfold few6
  split
  · rw [ByteArray.size_extract]; omega
  · omega
theorem few6_any (s : ByteArray) (m : Nat) (w : World) (_hs : s.size ≤ 9223372036854775807) (hm : m ≤ 1000000) :
    Calls Try.prog 9 #[.string s, .int .i64 (m : Int)] w fun e w' => e = .returned (.string (few6 s m)) ∧ w = w' := by
  by_cases h : m < s.size
  · have hr : Hid (few6 s m = s.extract 0 m) := by unfold Hid few6; rw [if_pos h]
    go_enter Try.func9, Try.ntmps9
    go_wp2
    go_ret
    exact ⟨by rw [hr.out]; rfl, rfl⟩
  · have hr : Hid (few6 s m = s) := by unfold Hid few6; rw [if_neg h]
    go_enter Try.func9, Try.ntmps9
    go_wp2
    go_ret
    exact ⟨by rw [hr.out]; rfl, rfl⟩
/-- A byte as a text. -/
theorem byte_text (w : World) (g : Nat) (x : Int) (h : w.cell? ⟨g, 0, none⟩ = some (.int .u8 x)) (hx : 0 ≤ x ∧ x ≤ 255) :
    (convert 30 9 (.slice (some ⟨g, 0, none⟩) 1 1)).run Try.prog w = .ok (.string ⟨#[UInt8.ofNat x.toNat]⟩) w := by
  have := run_convert_bytes_back (P := Try.prog) w 30 9 5 ⟨g, 0, none⟩ 1 [UInt8.ofNat x.toNat] Try.underlying30 Try.underlying5 Try.underlying9 (fun j hj => by
    have hj0 : j = 0 := by simpa using hj
    subst hj0
    show w.cell? ⟨g, 0, none⟩ = _
    rw [h]
    congr 2
    show x = (((UInt8.ofNat x.toNat).toNat : Nat) : Int)
    rw [UInt8.toNat_ofNat']
    omega)
  exact this
set_option maxRecDepth 100000 in
set_option maxHeartbeats 8000000 in
theorem decimalParses_walk (w : World) {s0 : ByteArray} {A1 : Option Addr} {n1 c1 : Nat} {l1 : List Int} {a1 a2 a3 : Int} (u0 : s0.size ≤ 9223372036854775807) (b1 : Bool) (w1 : IL w A1 n1 c1 l1) (i1 : I64 l1) (x1 : -9223372036854775808 ≤ a1 ∧ a1 ≤ 9223372036854775807)
    (w2 : -9223372036854775808 ≤ a2 ∧ a2 ≤ 9223372036854775807) (w3 : 0 ≤ a3 ∧ a3 ≤ 255) :
    Calls Try.prog 3 #[.string s0, .agg #[.bool b1, .slice A1 n1 c1, .int .i64 a1], .int .i64 a2, .int .u8 a3] w fun e w' => e = .returned (.bool true) ∧ Below w.heap.size w w' := by
  obtain ⟨X, hX, _, hg⟩ := cgood_ex (A := A1) (n := n1) (c := c1) b1 a1 20 i1 x1 (by omega)
  have hmX : mayDc X = true := mayDc_iff.2 ⟨hX.1, hX.2.1, by have := hX.2.2.1; omega⟩
  have iX := I64_of_may hX.1
  have sX : -9223372036854775808 ≤ X.s ∧ X.s ≤ 9223372036854775807 := by have := hX.2.1; have := hX.2.2.1; omega
  have lX := hX.2.2.2
  have hPl := printL_len X
  have bX := hX.2.2.1
  have bX0 := hX.2.1
  have hne : 0 < (printL X).length := by
    have e := parse_print hmX
    rcases Nat.eq_zero_or_pos (printL X).length with h | h
    · have e2 : printL X = [] := List.eq_nil_of_length_eq_zero h
      rw [e2] at e
      have h2 : (parseS []).snd = 0 := congrArg Prod.snd e
      rw [show (parseS []).snd = 2 from rfl] at h2
      omega
    · exact h
  obtain ⟨P, hP0, hPb, hPr⟩ : ∃ P : ByteArray, 0 < P.size ∧ P.size ≤ 1000 ∧ Hid (∀ A n c W, IL W A n c X.l → Calls Try.prog 5 #[.agg #[.bool X.neg, .slice A n c, .int .i64 X.s]] W (RV W (.string P))) :=
    ⟨bs (printL X), by rw [bs_size]; exact hne, by rw [bs_size]; omega, fun A n c W hW => rprint_any X.neg X.s W hW (by have := hW.len; omega) sX⟩
  have hPn : P.toList.isEmpty = false := by
    rw [Lib.toList_data, List.isEmpty_eq_false_iff]
    intro q
    have := congrArg List.length q
    rw [Array.length_toList] at this
    have e : P.data.size = P.size := rfl
    rw [e, List.length_nil] at this
    omega
  obtain ⟨S, hSb, hfw⟩ : ∃ S : ByteArray, S.size ≤ 40 ∧ Hid (∀ W, Calls Try.prog 9 #[.string s0, .int .i64 40] W fun e w' => e = .returned (.string S) ∧ W = w') :=
    ⟨few6 s0 40, few6_size s0 40, fun W => few6_any s0 40 W u0 (by omega)⟩
  obtain ⟨k, hk, hka⟩ : ∃ k : Nat, k < P.size ∧ Hid (∀ W, Calls Try.prog 8 #[.int .i64 a2, .int .i64 (P.size : Int)] W fun e w' => e = .returned (.int .i64 (k : Int)) ∧ W = w') := by
    have hb := around_bd a2 (P.size : Int) (by omega)
    refine ⟨(around a2 (P.size : Int)).toNat, by omega, fun W => ?_⟩
    have := around_any a2 (P.size : Int) W w2.1 w2.2 (by omega) (by omega)
    rw [Int.toNat_of_nonneg hb.1]
    exact this
  obtain ⟨C, hC, hcv⟩ : ∃ C : ByteArray, C.size = 1 ∧ Hid (∀ (W : World) (g : Nat), W.cell? ⟨g, 0, none⟩ = some (.int .u8 a3) → (convert 30 9 (.slice (some ⟨g, 0, none⟩) 1 1)).run Try.prog W = .ok (.string C) W) :=
    ⟨⟨#[UInt8.ofNat a3.toNat]⟩, rfl, fun W g h => byte_text W g a3 h w3⟩
  have z1 : (P.extract 0 k).size = k := by rw [ByteArray.size_extract]; omega
  have z2 : (P.extract (k + 1) P.size).size = P.size - (k + 1) := by rw [ByteArray.size_extract]; omega
  have z3 : (P.extract 0 k ++ C).size = k + 1 := by rw [ByteArray.size_append, z1, hC]
  have z4 : (P.extract 0 k ++ C ++ P.extract (k + 1) P.size).size = P.size := by rw [ByteArray.size_append, z3, z2]; omega
  have z5 : (P.extract 0 k ++ (C ++ P.extract (k + 1) P.size)).size = P.size := by rw [ByteArray.size_append, ByteArray.size_append, z1, z2, hC]; omega
  clear hPl hne hmX
  go_enter Try.func3, Try.ntmps3
  go_wp2_with fail
  refine (hg.out _ (w1.alloc _)).mono ?_
  rintro e w4 ⟨A3, n3, c3, rfl, hI3, hB3, _⟩
  go_wp2_with fail
  refine (hPr.out _ _ _ _ hI3).mono ?_
  rintro e w5 ⟨rfl, hB4⟩
  have hL5 : Later w w5 := ((Later.refl w).alloc _ |>.call hB3).call hB4
  go_wp2_with fail
  refine (hka.out _).mono ?_
  rintro e _ ⟨rfl, rfl⟩
  have k1 : (0 : Int) ≤ (k : Int) := by omega
  have k2 : (k : Int) ≤ (P.size : Int) := by omega
  have k3 : (0 : Int) ≤ (k : Int) + 1 := by omega
  have k4 : (k : Int) + 1 ≤ (P.size : Int) := by omega
  have k5 : k ≤ 1000 := by omega
  have k6 : k + 1 ≤ P.size := hk
  have k7 : IntKind.i64.wrap ((k : Int) + 1) = (k : Int) + 1 := IntWalk.i64_in _ (by omega)
  have k8 : ((k : Int) + 1).toNat = k + 1 := by omega
  go_upto_region 5 with fail
  go_cut [11] (fun v W => ∃ (g : Nat) (S3 : ByteArray), v = .slice (some ⟨g, 0, none⟩) 3 3 ∧ S3.size ≤ 1000 ∧ Blk w5 g 9 #[.string S, .string P, .string S3] W)
  case first =>
    have hcv := hcv.out
    go_region_with (go_at_call 9; refine (hfw.out _).mono ?_; rintro e _ ⟨rfl, rfl⟩)
    all_goals
      go_wp2_with fail
      go_meet
      refine ⟨_, P.extract 0 k ++ C ++ P.extract (k + 1) P.size, rfl, by rw [z4]; exact hPb, ?_⟩
      first
      | exact (Blk.made w5 (w5.alloc (.cells #[.int .u8 a3] 5)) 9 _ ((Later.refl w5).alloc _) _ (by simp)).drew
      | exact Blk.made w5 (w5.alloc (.cells #[.int .u8 a3] 5)) 9 _ ((Later.refl w5).alloc _) _ (by simp)
      | exact (Blk.made w5 (w5.alloc (.cells #[.int .u8 a3] 5)) 9 _ ((Later.refl w5).alloc _) _ (by simp)).drew.drew
  case rest =>
  obtain ⟨g, S3, rfl, hS3, hK⟩ := hcut
  obtain ⟨w9, hw9⟩ : ∃ wm, wm = wc := ⟨_, rfl⟩
  rw [← hw9] at hK
  rw [← hw9]
  clear hw9
  obtain ⟨F, hF⟩ : ∃ F : Nat → ByteArray, ∀ i, i < 3 → w9.cell? ⟨g, i, none⟩ = some (.string (F i)) ∧ (F i).size ≤ 1000 := by
    refine ⟨fun i => if i = 0 then S else if i = 1 then P else S3, fun i hi => ?_⟩
    have hcs : i = 0 ∨ i = 1 ∨ i = 2 := by omega
    rcases hcs with rfl | rfl | rfl
    · exact ⟨hK.cell 0, by show S.size ≤ 1000; omega⟩
    · exact ⟨hK.cell 1, hPb⟩
    · exact ⟨hK.cell 2, hS3⟩
  have HF := Lib.hid hF
  have hL9 : Later w w9 := below_from hL5 hK.later
  clear hF hK z1 z2 z3 z4 z5 k1 k2 k3 k4 k5 k6 k7 k8 hfw hka hcv hPr hPn hP0
  go_wp2_with fail
  go_loopw [12] (fun v wr => ∃ i : Nat, i ≤ 3 ∧ v = .int .i64 i ∧ Later w9 wr) (fun v _ => 3 - (intOf v).toNat)
  case atStart => exact ⟨0, by omega, rfl, Later.refl _⟩
  case round =>
    obtain ⟨i, hi, rfl, hL⟩ := hrel
    by_cases hlt : i < 3
    · obtain ⟨hc0, hsz⟩ := HF.out i hlt
      generalize F i = T at *
      have hi3 : (i : Int) < 3 := by omega
      have hi0 : (0 : Int) ≤ (i : Int) := by omega
      obtain ⟨D, ec, hP1, hR1⟩ : ∃ (D : Dc) (ec : Int), Hid (∀ W, Calls Try.prog 10 #[.string T] W (RCE W D ec)) ∧ Hid (∀ W, Calls Try.prog 11 #[.string T] W (RCE W D ec)) :=
        ⟨(parseS T.data.toList).1, (parseS T.data.toList).2, fun W => cparse_any T W (by omega), fun W => rcparse_any T W (by omega)⟩
      have hc1 := hL.cell hc0
      go_wp2_with fail
      refine (hP1.out _).mono ?_
      rintro e u1 ⟨A, n, c, rfl, hI, hB1, _⟩
      have hT1 : Later w9 u1 := Later.call hL hB1
      have hd := DB.made w9 u1 32 (X := D) hT1 hI _ rfl
      have hc2 := fun o => (hT1.alloc o).cell hc0
      go_wp2_with fail
      refine (hR1.out _).mono ?_
      rintro e u2 ⟨A', n', c', rfl, hI', hB2, _⟩
      have hd2 := hd.call hB2
      have he := DB.made w9 u2 24 (X := D) hd2.later hI' _ rfl
      go_upto_region 11 with fail
      have zd := Lib.hid (hd2.alloc (.cells #[.bool D.neg, .slice A' n' c', .int .i64 D.s] 24)).at_
      have ze := Lib.hid he.at_
      have hLz := he.later
      clear hd hd2 he hc1 hc2 hI hI' hT1 hB1 hB2
      generalize hwz : World.alloc u2 _ = wz at *
      clear hwz
      have sm := Lib.hid (fun s : Ext wz => csame_at zd.out ze.out s)
      have K0 := zd.out.k0
      have K1 := zd.out.k1
      have K2 := zd.out.k2
      have M0 := ze.out.k0
      have M1 := ze.out.k1
      have M2 := ze.out.k2
      refine wp_region_ext (by kernel_rfl) (by kernel_rfl) ?_
      repeat (go_big_quiet_step (first
        | (go_at_call 13; exact quiet_ext _ (as6_any _ _ _))
        | (go_at_call 12; exact quiet_ext _ (sm.out _))))
      refine wpQuiet_nil ?_
      rintro _ ⟨s, rfl⟩
      clear K0 K1 K2 M0 M1 M2 sm
      go_wp2_with fail
      go_roundw
      case rel => exact ⟨i + 1, by omega, by go_num, below_from hLz s.h⟩
      case measure => simp [intOf]; omega
    · go_wp2_with fail
      refine (lives6_any _).mono ?_
      rintro e w10 ⟨rfl, hB⟩
      go_wp2_with fail
      go_ret
      exact ⟨rfl, below_from (below_from hL9 hL) hB⟩

end Go.Proofs.Ytaolimhbeoocjaa
