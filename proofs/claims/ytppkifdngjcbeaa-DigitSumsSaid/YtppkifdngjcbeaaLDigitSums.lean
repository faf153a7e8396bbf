/- The walk of DigitSums. No condition. -/
import Derived.Test.YtppkifdngjcbeaaLst
import Derived.Test.YtppkifdngjcbeaaExt
import Derived.BigQuiet
import Derived.Deep.DeepCutAuto
namespace Go.Proofs.Ytppkifdngjcbeaa
open Go.RowKit
set_option linter.unusedSimpArgs false

theorem goodL_id {l : List Int} (h : mayL l = true) (q : Nat) : goodL l q = l.take q := by
  unfold goodL
  have : ∀ x ∈ l.take q, around x 10 = id x := fun x hx => by
    have := mayL_iff.1 h x (List.mem_of_mem_take hx)
    unfold around
    rw [if_neg (by omega)]
    simp only [id]
    omega
  rw [List.map_congr_left this, List.map_id]
def raws (ls : List (List Int)) : List (List Int) := ls.map fun l => l.take 20
def goods (ls : List (List Int)) : List (List Int) := ls.map fun l => goodL (l.take 20) 20
theorem mayLL_goods (ls : List (List Int)) : mayLL (goods ls) = true := mayLL_iff.2 fun l hl => by
  obtain ⟨x, _, rfl⟩ := List.mem_map.1 hl
  exact mayL_good _ _
theorem goods_id {ls : List (List Int)} (h : mayLL (raws ls) = true) : goods ls = raws ls := by
  unfold goods raws
  refine List.map_congr_left fun l hl => ?_
  have := mayLL_iff.1 h (l.take 20) (List.mem_map.2 ⟨l, hl, rfl⟩)
  rw [goodL_id this, List.take_take]
  rfl
theorem foldl_sum (ls : List (List Int)) : ∀ a : Int, ls.foldl (fun a l => a + val l) a = a + sumV ls := by
  induction ls with
  | nil => intro a; simp [sumV]
  | cons x r ih =>
    intro a
    have e : sumV (x :: r) = 0 + val x + sumV r := by
      show (x :: r).foldl (fun a l => a + val l) 0 = _
      rw [List.foldl_cons]; exact ih _
    rw [List.foldl_cons, ih, e]; omega
theorem sumV_cons (x : List Int) (r : List (List Int)) : sumV (x :: r) = val x + sumV r := by
  show (x :: r).foldl (fun a l => a + val l) 0 = _
  rw [List.foldl_cons, foldl_sum]; omega
theorem sumV_rev (ls : List (List Int)) : sumV ls.reverse = sumV ls := by
  induction ls with
  | nil => rfl
  | cons x r ih => rw [List.reverse_cons, sumV_snoc, ih, sumV_cons]; omega
theorem mayLL_rev {ls : List (List Int)} (h : mayLL ls = true) : mayLL ls.reverse = true := mayLL_iff.2 fun l hl => mayLL_iff.1 h l (by simpa using hl)
theorem goods_len (ls : List (List Int)) : ∀ l, l ∈ goods ls → l.length ≤ 20 ∧ I64 l := fun l hl => by
  obtain ⟨x, _, rfl⟩ := List.mem_map.1 hl
  exact ⟨by rw [goodL_len]; omega, I64_of_may (mayL_good _ _)⟩
theorem raws_len {ls : List (List Int)} (h : ∀ l, l ∈ ls → I64 l) : ∀ l, l ∈ raws ls → l.length ≤ 20 ∧ I64 l := fun l hl => by
  obtain ⟨x, hx, rfl⟩ := List.mem_map.1 hl
  exact ⟨by simp; omega, fun y hy => h x hx y (List.mem_of_mem_take hy)⟩

set_option maxRecDepth 100000 in
set_option maxHeartbeats 8000000 in
theorem digitSums_walk (w : World) {A0 : Option Addr} {n0 c0 : Nat} {l0 : List (List Int)} (w0 : LL w A0 n0 c0 l0) (i0 : ∀ l, l ∈ l0 → I64 l) :
    Calls Try.prog 3 #[.slice A0 n0 c0] w fun e w' => e = .returned (.bool true) ∧ Below w.heap.size w w' := by
  have hlen := w0.len
  have hle0 := w0.le
  have hcap0 := w0.cap
  go_enter Try.func3, Try.ntmps3
  go_wp2_with fail
  go_loopw [3, 4, 5, 6, 7, 8] (fun v3 v4 v5 v6 v7 v8 wr => ∃ (k : Nat) (A3 : Option Addr) (c3 : Nat) (A4 : Option Addr) (c4 : Nat) (A5 : Option Addr) (c5 : Nat) (A7 : Option Addr) (n7 c7 : Nat), k ≤ 4 ∧ k ≤ n0 ∧
      v3 = .slice A3 k c3 ∧ v4 = .slice A4 k c4 ∧ v5 = .slice A5 k c5 ∧ v6 = .bool (mayLL (raws (l0.take k))) ∧ v7 = .slice A7 n7 c7 ∧ v8 = .int .i64 k ∧
      ST w wr A3 k c3 (raws (l0.take k)) A4 k c4 (goods (l0.take k)) A5 k c5 (goods (l0.take k)).reverse A7 n7 c7 (ofN (sumV (goods (l0.take k))).toNat))
    (fun _ _ _ _ _ v8 _ => 4 - (intOf v8).toNat)
  case atStart => exact ⟨0, none, 0, none, 0, none, 0, none, 0, 0, by omega, Nat.zero_le _, rfl, rfl, rfl, rfl, rfl, rfl, ST.start w⟩
  case round =>
    obtain ⟨k, A3, c3, A4, c4, A5, c5, A7, n7, c7, hk4, hkn, rfl, rfl, rfl, rfl, rfl, rfl, hS⟩ := hrel
    by_cases hlt : k < n0 ∧ k < 4
    · obtain ⟨hln, hl4⟩ := hlt
      have hin : (k : Int) < n0 := by omega
      have hi4 : (k : Int) < 4 := by omega
      have hi0 : (0 : Int) ≤ k := by omega
      obtain ⟨b, off, Ai, ni, ci, hA, hc, hI⟩ := w0.at_ hln
      have hcell := fun s : Ext wr => Ext.cell ((show Later w wr from hS.b).cell hc) s
      subst hA
      have hrs : Hid (raws (l0.take (k + 1)) = raws (l0.take k) ++ [(l0.getD k []).take 20]) := by rw [Hid, take_snoc_getD l0 [] k (by omega)]; simp [raws]
      have hgs : Hid (goods (l0.take (k + 1)) = goods (l0.take k) ++ [goodL ((l0.getD k []).take 20) 20]) := by rw [Hid, take_snoc_getD l0 [] k (by omega)]; simp [goods]
      have hi1 : I64 ((l0.getD k []).take 20) := fun y hy => i0 _ (getD_mem' (by omega)) y (List.mem_of_mem_take hy)
      have hsb := sumV_bd 20 (goods (l0.take k)) (mayLL_goods _) (fun l hl => (goods_len _ l hl).1)
      have hol := ofN_sumV_len 20 (goods (l0.take k)) (mayLL_goods _) (fun l hl => (goods_len _ l hl).1)
      have hgl : (goods (l0.take k)).length ≤ 4 := by simp [goods]; omega
      obtain ⟨mm, hmm, hmin, hmin'⟩ := min_cut ni 20
      replace hmin := hmin 20 rfl
      replace hmin' := hmin' 20 rfl
      have hI2 := hI.few 20 Ai rfl mm hmm
      have hle := hI.le
      have hcap := hI.cap
      have hmn : mm ≤ ni ∧ mm ≤ 20 := by omega
      clear hI hmm
      generalize (l0.getD k []).take 20 = one at *
      have hmg : mayL (goodL one 20) = true := mayL_good _ _
      generalize hge : goodL one 20 = gd at *
      generalize goods (l0.take k) = L4 at *
      generalize raws (l0.take k) = L3 at *
      generalize hmv : mayLL L3 = mv at *
      have HMV := Lib.hid hmv
      clear hmv
      go_upto_region 9 with fail
      refine wp_region_ext (by kernel_rfl) (by kernel_rfl) ?_
      repeat (go_big_quiet_step (fail))
      refine wpQuiet_nil ?_
      rintro _ ⟨s, rfl⟩
      have hS1 := hS.call s.h
      clear hS hcell
      obtain ⟨w1, hw1⟩ : ∃ wm, wm = s.world := ⟨_, rfl⟩
      rw [← hw1] at hS1
      rw [← hw1]
      clear hw1 s
      have hI3 : IL w1 Ai mm ci one := hI2.below hS1.b
      have hmy := Lib.hid (fun W (hW : IL W Ai mm ci one) => rmay_any Ai mm ci one W hW)
      generalize hmo : mayL one = mo at *
      have HMO := Lib.hid hmo
      clear hmo
      go_upto_region 10 with fail
      go_cut [6] (fun s W => s = .bool (mv && mo) ∧ W = w1)
      case first =>
        cases mv
        · go_wp2_with fail
          go_meet
          exact ⟨rfl, rfl⟩
        · go_wp2_with fail
          refine (hmy.out _ hI3).mono ?_
          rintro e _ ⟨rfl, rfl⟩
          go_wp2_with fail
          go_meet
          exact ⟨by simp, rfl⟩
      case rest =>
      obtain ⟨rfl, hwc⟩ := hcut
      rw [hwc]
      clear hwc hmy wc
      have hV3 := VN.old (R := RW A3 A4) hI2 hS1.b (fun b r => (hS1.lt r).1)
      have hS2 := hS1.call ((Below.refl _ _).alloc (Nat.le_refl _) (.cells #[.slice Ai mm ci] 23))
      have hV2 := hV3.below ((Below.refl _ _).alloc (Nat.le_refl _) (.cells #[.slice Ai mm ci] 23))
      obtain ⟨v3, o3, e3⟩ := hS2.o3
      have hz2 := hS2.b.size
      go_wp2_with (first
        | (at_builtin; refine wpList_append_LV w.heap.size rfl (.tmp 44) (.tmp 46) rfl rfl rfl o3 (VL.lit w1 23 1 [.slice Ai mm ci] rfl (by omega)) (fun u hu => by obtain rfl := List.mem_singleton.1 hu; rfl) hz2 (by omega) ?_; intro X3 d3 w3 hO3 hB3 hg3 hX3))
      obtain ⟨hS3, hV4⟩ := hS2.push e3 hV2 hO3 hB3 hg3 hX3
      clear hS1 hS2 hV2 hV3 hO3 hB3 hg3 hX3 o3 e3 v3 hz2 hI3
      refine (goodo_any Ai mm ci 20 one w3 hV4.1 hi1 (by omega)).mono ?_
      rintro e w4 ⟨Ag, ng, cg, rfl, hOg, hBg⟩
      rw [hge] at hOg
      have hS4 := hS3.call hBg
      have hVg : VN w4 (RW X3 A4) Ag ng cg (gd.map (Value.int .i64)) := VN.newer (B := w3.heap.size) hOg.il (fun hz a ha => by
        obtain ⟨a', ha', hb'⟩ := hOg.new hz
        rw [ha'] at ha
        obtain rfl := Option.some.inj ha
        exact hb') (fun b r => (hS3.lt r).2)
      clear hS3 hV4 hOg hBg
      have hS5 := hS4.call ((Below.refl _ _).alloc (Nat.le_refl _) (.cells #[.slice Ag ng cg] 23))
      have hVh := hVg.below ((Below.refl _ _).alloc (Nat.le_refl _) (.cells #[.slice Ag ng cg] 23))
      have hS5s := hS5.swap
      obtain ⟨v4, o4, e4⟩ := hS5s.o3
      have hVs : VN (w4.alloc (.cells #[.slice Ag ng cg] 23)) (RW A4 X3) Ag ng cg (gd.map (Value.int .i64)) := hVh.mono fun b _ r => r.swap
      have hz2 := hS5.b.size
      go_upto_region 14 with (first
        | (at_builtin; refine wpList_append_LV w.heap.size rfl (.tmp 50) (.tmp 52) rfl rfl rfl o4 (VL.lit w4 23 1 [.slice Ag ng cg] rfl (by omega)) (fun u hu => by obtain rfl := List.mem_singleton.1 hu; rfl) hz2 (by omega) ?_; intro X4 d4 w6 hO4 hB4 hg4 hX4))
      obtain ⟨hS6s, hV6s⟩ := hS5s.push e4 hVs hO4 hB4 hg4 hX4
      have hS6 := hS6s.swap
      have hV6 : VN w6 (RW X3 X4) Ag ng cg (gd.map (Value.int .i64)) := hV6s.mono fun b _ r => r.swap
      clear hS4 hVg hS5 hVh hS5s o4 e4 v4 hVs hz2 hO4 hB4 hg4 hX4 hS6s hV6s
      have hB6 : Below w6.heap.size w6 (w6.alloc (.cells #[.slice Ag ng cg] 23)) := (Below.refl _ _).alloc (Nat.le_refl _) _
      go_upto_region 16 with (first
        | (at_builtin; refine wpList_append_LV w6.heap.size rfl (.tmp 54) (.tmp 56) rfl rfl rfl (OV.nil _ _ _) (VL.lit w6 23 1 [.slice Ag ng cg] rfl (by omega)) (fun u hu => by obtain rfl := List.mem_singleton.1 hu; rfl) hB6.size (by omega) ?_; intro X8 d8 w7 hO7 hB7' hg7 hX7))
      have hB7 := hB6.trans hB7'
      obtain ⟨v5, t56, e56⟩ := hS6.t5
      have t5 := t56.below hB7
      have e5 := e56.below hB7
      rw [List.nil_append] at hO7
      simp only [Nat.zero_add] at hO7 ⊢
      clear hB6 hB7' hg7 hX7
      go_upto_region 17 with (first
        | (at_builtin; refine wpList_append_LV w6.heap.size rfl (.tmp 58) (.tmp 59) rfl rfl rfl hO7 t5.1 e5.cells hB7.size (by omega) ?_; intro X5 d5 w8 hO8 hB8' hg8 hX8))
      have hB8 := hB7.trans hB8'
      have hS8 := hS6.call hB8
      have hV8 := hV6.below hB8
      have hV5 : VN w8 (RW X3 X4) X5 (1 + k) d5 ([.slice Ag ng cg] ++ v5) := ⟨hO8.1, fun hz a ha r => by
        obtain ⟨a', ha', hb'⟩ := hO8.new hz
        rw [ha'] at ha
        obtain rfl := Option.some.inj ha
        have := (hS6.lt r).2
        omega⟩
      have hS9 : ST w w8 X3 (k + 1) d3 (L3 ++ [one]) X4 (k + 1) d4 (L4 ++ [gd]) X5 (1 + k) d5 ([gd] ++ L4.reverse) A7 n7 c7 (ofN (sumV L4).toNat) := ⟨hS8.b, hS8.o3, hS8.o4, ⟨_, hV5, (e56.below hB8).cons hV8⟩, hS8.t7, hS8.s3, hS8.s4, hS8.ne⟩
      have hl7 : n7 ≤ 100000 := by have := hS9.t7.1.len; rw [List.length_map] at this; omega
      have hlg : ng ≤ 100000 := by
        have := hV8.1.len
        rw [List.length_map, ← hge, goodL_len] at this
        omega
      have hVal : Hid (ofN (val (ofN (sumV L4).toNat) + val gd).toNat = ofN (sumV (L4 ++ [gd])).toNat) := by rw [Hid, sumV_snoc, val_ofN, Int.toNat_of_nonneg hsb.1]
      clear hS8 hV5 hS6 hV6 hB7 hB8 hB8' hg8 hX8 t5 e5 t56 e56 hO7 hO8
      go_wp2_with fail
      refine (add_any A7 n7 c7 _ Ag ng cg gd w8 hS9.t7.1 hV8.1 (mayL_ofN _) hmg hl7 hlg).mono ?_
      rintro e w9 ⟨Aw, nw, cw, rfl, hOw, hBw⟩
      rw [hVal.out] at hOw
      have hSA := hS9.call hBw
      have hVw : VN w9 (RW X3 X4) Aw nw cw ((ofN (sumV (L4 ++ [gd])).toNat).map (Value.int .i64)) := VN.newer (B := w8.heap.size) hOw.il (fun hz a ha => by
        obtain ⟨a', ha', hb'⟩ := hOw.new hz
        rw [ha'] at ha
        obtain rfl := Option.some.inj ha
        exact hb') (fun b r => (hS9.lt r).2)
      have hSB : ST w w9 X3 (k + 1) d3 (L3 ++ [one]) X4 (k + 1) d4 (L4 ++ [gd]) X5 (1 + k) d5 ([gd] ++ L4.reverse) Aw nw cw (ofN (sumV (L4 ++ [gd])).toNat) := ⟨hSA.b, hSA.o3, hSA.o4, hSA.t5, hVw, hSA.s3, hSA.s4, hSA.ne⟩
      clear hSA hVw hOw hBw hS9 hV8
      go_wp2_with fail
      go_roundw
      case rel =>
        refine ⟨k + 1, X3, d3, X4, d4, X5, d5, Aw, nw, cw, by omega, by omega, rfl, rfl, by rw [Nat.add_comm 1 k], ?_, rfl, by go_num, ?_⟩
        · rw [hrs.out, mayLL_snoc, HMV.out, HMO.out]
        · rw [hrs.out, hgs.out, List.reverse_append]
          rw [Nat.add_comm 1 k] at hSB
          exact hSB
      case measure => simp [intOf]; omega
    · have hkl : (l0.take k).length ≤ 4 := by rw [List.length_take]; omega
      have hrl : ∀ l, l ∈ raws (l0.take k) → l.length ≤ 50000 ∧ I64 l := fun l hl => by
        have := raws_len (ls := l0.take k) (fun l hl => i0 l (List.mem_of_mem_take hl)) l hl
        exact ⟨by omega, this.2⟩
      have hgl : ∀ l, l ∈ goods (l0.take k) → l.length ≤ 50000 ∧ I64 l := fun l hl => by
        have := goods_len (l0.take k) l hl
        exact ⟨by omega, this.2⟩
      have hid : mayLL (raws (l0.take k)) = true → Hid (goods (l0.take k) = raws (l0.take k)) := fun h => goods_id h
      have hmg := mayLL_goods (l0.take k)
      have hl3 : (raws (l0.take k)).length ≤ 100 := by simp only [raws, List.length_map]; omega
      have hl4 : (goods (l0.take k)).length ≤ 100 := by simp only [goods, List.length_map]; omega
      have hcs : (¬ (k : Int) < n0) ∨ ((k : Int) < n0 ∧ ¬ (k : Int) < 4) := by omega
      clear hlt hkl
      generalize raws (l0.take k) = L3 at *
      generalize goods (l0.take k) = L4 at *
      obtain ⟨v3, o3, e3⟩ := hS.o3
      obtain ⟨v4, o4, e4⟩ := hS.o4
      obtain ⟨v5, o5, e5⟩ := hS.t5
      have ll3 := e3.ll o3.1
      have ll4 := e4.ll o4.1
      have ll5 := e5.ll o5.1
      have i7 : IL wr A7 n7 c7 (ofN (sumV L4).toNat) := hS.t7.1
      have hsum4 : Hid (∀ W, LL W A4 k c4 L4 → Calls Try.prog 14 #[.slice A4 k c4] W (RLE W (ofN (sumV L4).toNat) 0)) := fun W hW => by
        have := sum_any A4 k c4 L4 W hW hl4 hgl
        rw [show sumR L4 = (ofN (sumV L4).toNat, 0) by unfold sumR; rw [if_pos hmg]] at this
        exact this
      have hsum5 : Hid (∀ W, LL W A5 k c5 L4.reverse → Calls Try.prog 14 #[.slice A5 k c5] W (RLE W (ofN (sumV L4).toNat) 0)) := fun W hW => by
        have := sum_any A5 k c5 L4.reverse W hW (by rw [List.length_reverse]; exact hl4) (fun l hl => hgl l (by simpa using hl))
        rw [show sumR L4.reverse = (ofN (sumV L4).toNat, 0) by unfold sumR; rw [if_pos (mayLL_rev hmg), sumV_rev]] at this
        exact this
      obtain ⟨c, cc, hsum3, hcT, hcF⟩ : ∃ (c : List Int) (cc : Int), Hid (∀ W, LL W A3 k c3 L3 → Calls Try.prog 14 #[.slice A3 k c3] W (RLE W c cc)) ∧ (mayLL L3 = true → Hid (c = ofN (sumV L4).toNat) ∧ cc = 0) ∧ (mayLL L3 = false → Hid (c = []) ∧ cc = 1) :=
        ⟨(sumR L3).1, (sumR L3).2, fun W hW => sum_any A3 k c3 L3 W hW hl3 hrl, fun h => by unfold sumR; rw [if_pos h]; exact ⟨by rw [Hid, (hid h).out], rfl⟩, fun h => by unfold sumR; rw [h]; exact ⟨rfl, rfl⟩⟩
      generalize ofN (sumV L4).toNat = Z at *
      have hbw := hS.b
      have hsm := Lib.hid (fun A n c W (hI : IL W A n c Z) (h7 : IL W A7 n7 c7 Z) => show Calls Try.prog 15 #[.slice A n c, .slice A7 n7 c7] W (RV W (.bool true)) by
        have := same_any A n c Z A7 n7 c7 Z W hI h7
        rw [beq_self_eq_true] at this
        exact this.mono fun _ _ h => h.rv)
      clear hS o3 e3 o4 e4 o5 e5 hid hmg hl3 hl4 hrl hgl
      generalize mayLL L3 = mv at *
      rcases hcs with hn | ⟨hn, h6⟩
      all_goals
        cases mv
        case false =>
          obtain ⟨hc, rfl⟩ := hcF rfl
          rw [hc.out] at hsum3
          clear hcT hcF hc
          go_upto_region 18 with fail
          go_wp2_with fail
          refine (hsum4.out _ ll4).mono ?_
          rintro e u1 ⟨Aa, na, ca, rfl, hOa, hB0⟩
          go_wp2_with fail
          refine (hsum5.out _ (ll5.below hB0)).mono ?_
          rintro e u2 ⟨Ab, nb, cb, rfl, hOb, hB1⟩
          go_wp2_with fail
          refine (hsum3.out _ ((ll3.below hB0).below hB1)).mono ?_
          rintro e u3 ⟨Ac, nc, cc, rfl, hOc, hB2'⟩
          have hB2 : Below wr.heap.size wr u3 := below_from (below_from hB0 hB1) hB2'
          have ja := hOa.il.below (below_from hB1 hB2')
          have jb := (hOb.il.below hB2')
          have jc := hOc.il
          clear hOa hOb
          obtain rfl : nc = 0 := by have := hOc.len; simpa using this.symm
          go_wp2_with fail
          refine (hsm.out _ _ _ _ ja (i7.below hB2)).mono ?_
          rintro e u4 ⟨rfl, hB3⟩
          go_wp2_with fail
          refine (hsm.out _ _ _ _ (jb.below hB3) ((i7.below hB2).below hB3)).mono ?_
          rintro e u5 ⟨rfl, hB4⟩
          go_wp2_with fail
          refine (lives5_any _).mono ?_
          rintro e u6 ⟨rfl, hB5⟩
          go_wp2_with fail
          go_ret
          exact ⟨rfl, below_from (below_from (below_from (below_from hbw hB2) hB3) hB4) hB5⟩
        case true =>
          obtain ⟨hc, rfl⟩ := hcT rfl
          rw [hc.out] at hsum3
          clear hcT hcF hc
          go_upto_region 18 with fail
          go_wp2_with fail
          refine (hsum4.out _ ll4).mono ?_
          rintro e u1 ⟨Aa, na, ca, rfl, hOa, hB0⟩
          go_wp2_with fail
          refine (hsum5.out _ (ll5.below hB0)).mono ?_
          rintro e u2 ⟨Ab, nb, cb, rfl, hOb, hB1⟩
          go_wp2_with fail
          refine (hsum3.out _ ((ll3.below hB0).below hB1)).mono ?_
          rintro e u3 ⟨Ac, nc, cc, rfl, hOc, hB2'⟩
          have hB2 : Below wr.heap.size wr u3 := below_from (below_from hB0 hB1) hB2'
          have ja := hOa.il.below (below_from hB1 hB2')
          have jb := (hOb.il.below hB2')
          have jc := hOc.il
          clear hOa hOb
          go_wp2_with fail
          refine (hsm.out _ _ _ _ ja (i7.below hB2)).mono ?_
          rintro e u4 ⟨rfl, hB3⟩
          go_wp2_with fail
          refine (hsm.out _ _ _ _ (jb.below hB3) ((i7.below hB2).below hB3)).mono ?_
          rintro e u5 ⟨rfl, hB4⟩
          go_wp2_with fail
          refine (hsm.out _ _ _ _ (jc.below hB3 |>.below hB4) (((i7.below hB2).below hB3).below hB4)).mono ?_
          rintro e u6 ⟨rfl, hB5⟩
          go_wp2_with fail
          refine (lives5_any _).mono ?_
          rintro e u7 ⟨rfl, hB6⟩
          go_wp2_with fail
          go_ret
          exact ⟨rfl, below_from (below_from (below_from (below_from (below_from hbw hB2) hB3) hB4) hB5) hB6⟩

end Go.Proofs.Ytppkifdngjcbeaa
