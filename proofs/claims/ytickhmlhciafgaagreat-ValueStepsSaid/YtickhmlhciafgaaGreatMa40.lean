/- The walk of the document's draft of a number. No condition. -/
import Derived.Test.YtickhmlhciafgaaGreatMa32
import Derived.Test.YtickhmlhciafgaaGreatMa16
import Derived.Test.YtickhmlhciafgaaGreatMa17
namespace Go.Proofs.YtickhmlhciafgaaGreat
open Go.RowKit

theorem IL.grown0 {w w' : World} {A : Option Addr} {n c : Nat} {l : List Int} {row : Option Nat} (h : IL w A n c l) (hg : w.grownBy w' row) (hr : 0 < n → ∀ a, A = some a → some a.block ≠ row) : IL w' A n c l := by
  rcases Nat.eq_zero_or_pos n with h0 | h0
  · subst h0
    have e : l = [] := List.eq_nil_of_length_eq_zero h.len
    subst e
    exact IL.empty _ _ _ h.cap
  · exact h.grown hg (hr h0)
theorem IL.blk_lt {w : World} {A : Option Addr} {n c : Nat} {l : List Int} (h : IL w A n c l) (hz : 0 < n) : ∀ a, A = some a → a.block < w.heap.size := fun a ha => by
  obtain ⟨b, off, e, hb, _⟩ := h.2.2.2 hz
  rw [e] at ha
  obtain rfl := Option.some.inj ha
  exact hb
/-- How many numbers stand in the fourth cell's slice. -/
def lenAt (g : Nat) (W : World) : Nat := match W.cell? ⟨g, 3, none⟩ with
  | some (.slice _ n _) => n
  | _ => 0
theorem lenAt_eq {g : Nat} {W : World} {A : Option Addr} {n c : Nat} (h : W.cell? ⟨g, 3, none⟩ = some (.slice A n c)) : lenAt g W = n := by unfold lenAt; rw [h]
set_option maxHeartbeats 4000000 in
theorem rfrom_any {A : Option Addr} {n c : Nat} {l : List Int} (b : Bool) (s i j : Int) (w : World) (h : IL w A n c l) (hl : I64 l) (hn : n ≤ 10000) (hs : -9223372036854775808 ≤ s ∧ s ≤ 9223372036854775807)
    (hi : -9223372036854775808 ≤ i ∧ i ≤ 9223372036854775807) (hj : -9223372036854775808 ≤ j ∧ j ≤ 9223372036854775807) :
    Calls Tryz.prog 73 #[.agg #[.bool b, .slice A n c, .int .i64 s], .int .i64 i, .int .i64 j] w (RDE w (fromS ⟨b, l, s⟩ i j).1 (fromS ⟨b, l, s⟩ i j).2) := by
  have hmay := Lib.hid (fun W hW => rcmay_any (A := A) (n := n) (c := c) (l := l) b s W hW hs)
  have hX : Blk w w.heap.size 24 #[.bool b, .slice A n c, .int .i64 s] ((w.alloc (.cells #[.bool b, .slice A n c, .int .i64 s] 24)).alloc (.cells #[.bool false, .slice none 0 0, .bool false, .slice none 0 0] 64)) := (Blk.made w w _ _ (Later.refl w) _ rfl).alloc _
  have hR : Fresh4 w (w.heap.size + 1) 64 (.bool false) (.slice none 0 0) (.bool false) (.slice none 0 0) ((w.alloc (.cells #[.bool b, .slice A n c, .int .i64 s] 24)).alloc (.cells #[.bool false, .slice none 0 0, .bool false, .slice none 0 0] 64)) := Fresh4.made w _ _ _ _ _ _ ((Later.refl w).alloc _) _ (by simp)
  generalize hD : fromS ⟨b, l, s⟩ i j = D
  cases hm1 : mayDc ⟨b, l, s⟩
  · have HD : Hid (D = (Dr.none, 1)) := by rw [Hid, ← hD, fromS, hm1]; rfl
    rw [hm1] at hmay
    clear hD hm1
    go_enter Tryz.func73, Tryz.ntmps73
    go_wp2_with fail
    refine (hmay.out _ ((h.alloc _).alloc _)).mono ?_
    rintro e w1 ⟨rfl, hB⟩
    have hR1 := hR.call hB
    obtain ⟨⟨c0, c1', c2', c3⟩, ⟨f0, f1, f2, f3⟩⟩ := hR1.cells
    go_wp2_with fail
    rw [HD.out]
    obtain ⟨⟨z0, z1, z2, z3⟩, _⟩ := (hR1.store (.bool false) (.slice none 0 0) (.bool false) (.slice none 0 0)).cells
    exact bodyPost_ret (v := .tuple #[.agg #[.bool false, .slice none 0 0, .bool false, .slice none 0 0], .int .i64 1]) (by generalize World.setCell (World.setCell (World.setCell (World.setCell _ _ _) _ _) _ _) _ _ = W3 at z0 z1 z2 z3 ⊢; simp [results, Tryz.results73, go_sem, z0, z1, z2, z3]) rfl
      ⟨none, 0, 0, none, 0, 0, rfl, IL.nil _, IL.nil _, below_set4 hR1.2.2 (Nat.le_succ _) _ _ _ _, none_newer _, none_newer _⟩
  · rw [hm1] at hmay
    obtain ⟨hml, hs0, hs1⟩ := mayDc_iff.1 hm1
    simp only at hml hs0 hs1
    by_cases h0 : 0 ≤ i ∧ i ≤ 64 ∧ 0 ≤ j ∧ j ≤ 64
    case neg =>
      have HD : Hid (D = (Dr.none, 3)) := by rw [Hid, ← hD, fromS, hm1, if_pos rfl, if_neg h0]
      clear hD hm1 hml
      have hcs : i < 0 ∨ (¬ i < 0 ∧ 64 < i) ∨ (¬ i < 0 ∧ ¬ 64 < i ∧ j < 0) ∨ (¬ i < 0 ∧ ¬ 64 < i ∧ ¬ j < 0 ∧ 64 < j) := by omega
      clear h0
      rcases hcs with q0 | ⟨q0, q1⟩ | ⟨q0, q1, q2⟩ | ⟨q0, q1, q2, q3⟩
      all_goals
        go_enter Tryz.func73, Tryz.ntmps73
        go_wp2_with fail
        refine (hmay.out _ ((h.alloc _).alloc _)).mono ?_
        rintro e w1 ⟨rfl, hB⟩
        have hR1 := hR.call hB
        obtain ⟨⟨c0, c1', c2', c3⟩, ⟨f0, f1, f2, f3⟩⟩ := hR1.cells
        go_wp2_with fail
        rw [HD.out]
        obtain ⟨⟨z0, z1, z2, z3⟩, _⟩ := (hR1.store (.bool false) (.slice none 0 0) (.bool false) (.slice none 0 0)).cells
        exact bodyPost_ret (v := .tuple #[.agg #[.bool false, .slice none 0 0, .bool false, .slice none 0 0], .int .i64 3]) (by generalize World.setCell (World.setCell (World.setCell (World.setCell _ _ _) _ _) _ _) _ _ = W3 at z0 z1 z2 z3 ⊢; simp [results, Tryz.results73, go_sem, z0, z1, z2, z3]) rfl
          ⟨none, 0, 0, none, 0, 0, rfl, IL.nil _, IL.nil _, below_set4 hR1.2.2 (Nat.le_succ _) _ _ _ _, none_newer _, none_newer _⟩
    obtain ⟨i', rfl⟩ := Int.eq_ofNat_of_zero_le h0.1
    obtain ⟨j', rfl⟩ := Int.eq_ofNat_of_zero_le h0.2.2.1
    obtain ⟨s', rfl⟩ := Int.eq_ofNat_of_zero_le hs0
    have hi64 : i' ≤ 64 := by omega
    have hj64 : j' ≤ 64 := by omega
    have hs64 : s' ≤ 1000 := by omega
    obtain ⟨q, hq, hqs, hql⟩ := trim_scale b l s'
    have htr := Lib.hid (fun W hW => rdtrim_any (A := A) (n := n) (c := c) (l := l) b (s' : Int) W hW hl (by omega) (by omega) (by omega))
    have HD0 : Hid (D = (fromD (trimDc ⟨b, l, (s' : Int)⟩).neg (partsS (trimDc ⟨b, l, (s' : Int)⟩).l q) i' j', 0)) := by
      rw [Hid, ← hD, fromS, hm1, if_pos rfl, if_pos h0, hq]; rfl
    have hlen := h.len
    clear hD hm1 hml hs0 hs1 h0 hi hj hs
    generalize trimDc ⟨b, l, (s' : Int)⟩ = T at *
    obtain ⟨tb, tl, ts⟩ := T
    simp only at hq hql HD0
    subst hq
    have ki0 : ¬ ((i' : Int) < 0) := by omega
    have ki1 : ¬ ((64 : Int) < (i' : Int)) := by omega
    have kj0 : ¬ ((j' : Int) < 0) := by omega
    have kj1 : ¬ ((64 : Int) < (j' : Int)) := by omega
    go_enter Tryz.func73, Tryz.ntmps73
    go_wp2_with fail
    refine (hmay.out _ ((h.alloc _).alloc _)).mono ?_
    rintro e w1 ⟨rfl, hB⟩
    have hX1 := hX.call hB
    have hR1 := hR.call hB
    obtain ⟨x0, x1, x2⟩ := hX1.cells3.1
    go_wp2_with fail
    refine (htr.out _ (h.later hR1.2.2)).mono ?_
    rintro e w2 ⟨A2, n2, c2, rfl, hI2, hB2, hN2⟩
    have hR2 := hR1.call hB2
    have hg2 : w.heap.size + 2 ≤ w2.heap.size := hR2.lt
    have hn2 : n2 ≤ 10000 := by have := hI2.len; simp only at this; omega
    have hT2 := Blk.made w w2 24 #[.bool tb, .slice A2 n2 c2, .int .i64 (q : Int)] hR2.2.2 _ rfl
    have hRT := hR2.alloc (.cells #[.bool tb, .slice A2 n2 c2, .int .i64 (q : Int)] 24)
    have hIT := hI2.alloc (.cells #[.bool tb, .slice A2 n2 c2, .int .i64 (q : Int)] 24)
    clear hX1 x0 x1 x2 hX hR hR1 hR2 hmay htr ki0 ki1 kj0 kj1
    have hpa := Lib.hid (fun W hW => rparts_any (A := A2) (n := n2) (c := c2) (l := tl) tb q W hW (by omega) (by omega))
    have hpl : (partsS tl q).1.length ≤ 11000 ∧ (partsS tl q).2.length ≤ 11000 := by
      have e1 := wideL_len tl q
      have e2 : (partsS tl q).1 = trimL ((wideL tl q).take ((wideL tl q).length - q)) := rfl
      have e3 : (partsS tl q).2 = (wideL tl q).drop ((wideL tl q).length - q) := rfl
      have e4 := trimL_len ((wideL tl q).take ((wideL tl q).length - q))
      rw [e2, e3, e4]
      simp only [List.length_take, List.length_drop]
      omega
    generalize partsS tl q = P at *
    obtain ⟨P1, P2⟩ := P
    simp only at hpl HD0 hpa
    go_upto_region 7 with fail
    obtain ⟨v1, hv1⟩ : ∃ v1, v1 = w2.alloc (.cells #[.bool tb, .slice A2 n2 c2, .int .i64 (q : Int)] 24) := ⟨_, rfl⟩
    rw [← hv1] at hT2 hRT hIT
    rw [← hv1]
    have hg : w.heap.size + 2 ≤ w2.heap.size := hg2
    clear hv1
    generalize w2.heap.size = gT at *
    obtain ⟨t0, t1, t2⟩ := hT2.cells3.1
    go_wp2_with fail
    refine (hpa.out _ hIT).mono ?_
    rintro e w3 ⟨A3, n3, c3, A4, n4, c4, rfl, hI3, hI4, hB3⟩
    have hR3 := hRT.call hB3
    have hT3 := hT2.call hB3
    have hn3 : P1.length = n3 := hI3.len
    have hn4 : P2.length = n4 := hI4.len
    clear hT2 hRT hIT hpa t0 t1 t2
    obtain ⟨t0, t1, t2⟩ := hT3.cells3.1
    go_upto_region 9 with fail
    have hF := Fresh4.made w3 w3 64 (.bool tb) (.slice none 0 0) (.bool false) (.slice none 0 0) (Later.refl w3) _ rfl
    have hzR := hR3.lt
    clear t0 t1 t2 hT3 hB3
    generalize World.alloc w3 _ = w4 at *
    go_wp2_with fail
    go_loopw [13] (fun v wr => ∃ (k : Nat) (A' : Option Addr) (c' : Nat), v = .int .i64 ((n3 + k : Nat) : Int) ∧ k ≤ i' - n3 ∧ Fresh4 w3 w3.heap.size 64 (.bool tb) (.slice A' k c') (.bool false) (.slice none 0 0) wr ∧ OL wr (w3.heap.size + 1) A' k c' (List.replicate k 0)) (fun v _ => i' - (intOf v).toNat)
    case atStart => exact ⟨0, none, 0, rfl, Nat.zero_le _, hF, OL.nil _ _⟩
    case round =>
      clear hF w4
      obtain ⟨k, A', c', rfl, hk, hF, hO⟩ := hrel
      obtain ⟨⟨c0, c1', c2', c3'⟩, ⟨f0, f1, f2, f3⟩⟩ := hF.cells
      have hsz := hF.lt
      by_cases hlt : n3 + k < i'
      · have hal := fun o => (hF.alloc o).cells.1.2.1
        have hO' := Lib.hid hO
        have hF' := Lib.hid hF
        clear hO hF
        go_wp2_with (first
          | (at_builtin; refine wpList_append_OL (w3.heap.size + 1) rfl (.tmp 52) (.tmp 53) rfl rfl rfl (hO'.out.alloc _) (IL.one _ _ _) (by simp; omega) (by omega) ?_; intro A5 c5 w5 hO5 hB5 _; obtain ⟨⟨_, y1, _, _⟩, ⟨_, y2, _, _⟩⟩ := ((hF'.out.alloc _).under (by omega) hB5).cells))
        go_roundw
        case rel =>
          have hF5 := (hF'.out.alloc (.cells #[.int .i64 0] 3)).under (B := w3.heap.size + 1) (by omega) hB5
          exact ⟨k + 1, A5, c5, by first | rfl | go_num | (congr 1; omega), by omega, hF5.set1 _, by rw [List.replicate_succ']; exact hO5.set_ (p := ⟨w3.heap.size, 1, none⟩) (fun a ha => by have := (hO5.blk (by omega) a ha).1; simp only; omega) _⟩
        case measure => simp [intOf]; omega
      have hkd : Hid (k = i' - n3) := by rw [Hid]; omega
      have hkb : k ≤ 64 := by omega
      have hI3' : IL wr A3 n3 c3 P1 := hI3.later hF.2.2
      have hF' := Lib.hid hF
      have hO' := Lib.hid hO
      clear hk
      go_upto_region 14 with (first
        | (at_builtin; refine wpList_append_OL (w3.heap.size + 1) rfl (.tmp 57) (.tmp 58) rfl rfl rfl hO hI3' (by omega) (by omega) ?_; intro A5 c5 w5 hO5 hB5 _; obtain ⟨⟨_, y1, _, _⟩, ⟨_, y2, _, _⟩⟩ := (hF'.out.under (by omega) hB5).cells))
      have hF5 := (hF'.out.under (B := w3.heap.size + 1) (by omega) hB5).set1 (.slice A5 (k + n3) c5)
      have hO5' := hO5.il.set_ (p := ⟨w3.heap.size, 1, none⟩) (fun _ a ha => by have := (hO5.blk (by omega) a ha).1; simp only; omega) (.slice A5 (k + n3) c5)
      have hap5 : 0 < k + n3 → ∀ a, A5 = some a → w3.heap.size + 1 ≤ a.block := fun _ a ha => (hO5.blk (by omega) a ha).1
      have hL5 : Hid (List.replicate k 0 ++ P1 = wideL P1 i') := by rw [Hid, wideL, hn3, hkd.out]
      rw [hL5.out] at hO5'
      clear hO hO' hF hF' hI3' y1 y2 hO5 hB5 c0 c1' c2' c3' f0 f1 f2 f3 hlt hsz hL5
      generalize World.setCell w5 _ _ = w6 at *
      obtain ⟨NA, hNA⟩ : ∃ x, Hid (x = k + n3) := ⟨_, rfl⟩
      have HP1 := Lib.hid hn3
      rw [← hNA.out] at hF5 hO5' hap5
      rw [← hNA.out]
      have hNAb : NA ≤ 20000 := by rw [hNA.out]; omega
      have hsA : Hid (NA = 0 ↔ P1.length = 0 ∧ i' = 0) := by rw [Hid, hNA.out, HP1.out, hkd.out]; omega
      obtain ⟨g, hge⟩ : ∃ g, g = w3.heap.size := ⟨_, rfl⟩
      rw [← hge] at hF5 hap5 hzR
      rw [← hge]
      have hwg : w3.heap.size ≤ g := by omega
      have hI4' : IL w6 A4 n4 c4 P2 := hI4.later hF5.2.2
      have hR6 := hR3.call hF5.2.2
      clear hge hn3 hkd hNA HP1 hI3 hI4 hR3
      have hlt5 := hO5'.blk_lt
      obtain ⟨⟨c0, c1', c2', c3'⟩, ⟨f0, f1, f2, f3⟩⟩ := hF5.cells
      have hF' := Lib.hid hF5
      have hsz := hF5.lt
      clear hF5
      go_upto_region 15 with (first
        | (at_builtin; refine wpList_append_OL w6.heap.size rfl (.tmp 62) (.tmp 63) rfl rfl rfl (OL.nil _ _) hI4' (Nat.le_refl _) (by omega) ?_; intro A7 c7 w7 hO7 hB7 hg7; obtain ⟨⟨_, _, _, y1⟩, ⟨_, _, _, y2⟩⟩ := (hF'.out.under (by omega) hB7).cells))
      have hA7 : ∀ a, A7 = some a → w6.heap.size ≤ a.block := by
        rcases hg7.2.2 with e | ⟨gg, e, hgg⟩
        · rw [e]; intro a ha; cases ha
        · rw [e]; intro a ha; obtain rfl := Option.some.inj ha; exact hgg
      rw [List.nil_append] at hO7
      simp only [Nat.zero_add] at hO7 ⊢
      have hF8 := (hF'.out.under (B := w6.heap.size) (by omega) hB7).set3 (.slice A7 n4 c7)
      have hO8 := hO7.set_ (p := ⟨g, 3, none⟩) (fun a ha => by have := hA7 a ha; simp only; omega) (.slice A7 n4 c7)
      have hI8 := (hO5'.below hB7).set_ (p := ⟨g, 3, none⟩) (fun hz a ha => by have := hap5 hz a ha; simp only; omega) (.slice A7 n4 c7)
      have hR8 := (hR6.under (B := w6.heap.size) (by omega) hB7).far (p := ⟨g, 3, none⟩) (by simp only; omega) (by simp only; omega) (.slice A7 n4 c7)
      have hz68 : w6.heap.size ≤ (World.setCell w7 ⟨g, 3, none⟩ (.slice A7 n4 c7)).heap.size := by rw [size_setCell]; exact hB7.size
      clear hF' hO7 hO5' hR6 y1 y2 hB7 hg7 c0 c1' c2' c3' f0 f1 f2 f3 hI4'
      generalize World.setCell w7 _ _ = w8 at *
      go_loopw [] (fun wr => ∃ (k : Nat) (A' : Option Addr) (c' : Nat), k ≤ j' - n4 ∧ Fresh4 w3 g 64 (.bool tb) (.slice A5 NA c5) (.bool false) (.slice A' (n4 + k) c') wr ∧ OL wr w6.heap.size A' (n4 + k) c' (P2 ++ List.replicate k 0) ∧ IL wr A5 NA c5 (wideL P1 i') ∧ Fresh4 w (w.heap.size + 1) 64 (.bool false) (.slice none 0 0) (.bool false) (.slice none 0 0) wr ∧ (∀ a, A' = some a → w6.heap.size ≤ a.block) ∧ w6.heap.size ≤ wr.heap.size) (fun wr => j' - lenAt g wr)
      case atStart => exact ⟨0, A7, c7, Nat.zero_le _, hF8, by simpa using hO8, hI8, hR8, hA7, hz68⟩
      case round =>
        clear hF8 hO8 hI8 hR8 hA7
        obtain ⟨k2, A', c', hk, hF, hO, hI, hR9, hA', hz6⟩ := hrel
        obtain ⟨⟨c0, c1', c2', c3'⟩, ⟨f0, f1, f2, f3⟩⟩ := hF.cells
        have hlen8 := lenAt_eq c3'
        have hsz := hF.lt
        by_cases hlt : n4 + k2 < j'
        · have hal := fun o => (hF.alloc o).cells.1.2.2.2
          have hO' := Lib.hid hO
          have hF' := Lib.hid hF
          clear hO hF
          go_wp2_with (first
            | (at_builtin; refine wpList_append_OL w6.heap.size rfl (.tmp 72) (.tmp 73) rfl rfl rfl (hO'.out.alloc _) (IL.one _ _ _) (by simp; omega) (by omega) ?_; intro A8 c8 w9 hO9 hB9 hg9; obtain ⟨⟨_, _, _, y1⟩, ⟨_, _, _, y2⟩⟩ := ((hF'.out.alloc _).under (by omega) hB9).cells))
          go_roundw
          case rel =>
            have hF9 := ((hF'.out.alloc (.cells #[.int .i64 0] 3)).under (B := w6.heap.size) (by omega) hB9).set3 (.slice A8 (n4 + k2 + 1) c8)
            have hA8 : ∀ a, A8 = some a → w6.heap.size ≤ a.block := by
              rcases hg9.2.2 with e | ⟨gg, e, hgg⟩
              · rw [e]; exact hA'
              · rw [e]; intro a ha; obtain rfl := Option.some.inj ha; have : w6.heap.size ≤ gg := by simp at hgg; omega
                exact this
            refine ⟨k2 + 1, A8, c8, by omega, hF9, ?_, ?_, ?_, hA8, by rw [size_setCell]; have := hB9.size; rw [World.size_alloc] at this; omega⟩
            · rw [List.replicate_succ', ← List.append_assoc]; exact hO9.set_ (p := ⟨g, 3, none⟩) (fun a ha => by have := hA8 a ha; simp only; omega) _
            · refine ((hI.alloc _).grown0 hg9.1 (fun hz a ha => ?_)).set_ (p := ⟨g, 3, none⟩) (fun hz a ha => by have := hap5 hz a ha; simp only; omega) _
              have := hlt5 hz a ha
              rcases A' with _ | a2
              · simp [Value.ownBlock]
              · have := hA' a2 rfl
                simp [Value.ownBlock]
                omega
            · exact ((hR9.alloc _).under (B := w6.heap.size) (by omega) hB9).far (p := ⟨g, 3, none⟩) (by simp only; omega) (by simp only; omega) _
          case measure =>
            have hF9 := (((hF'.out.alloc (.cells #[.int .i64 0] 3)).under (B := w6.heap.size) (by omega) hB9).set3 (.slice A8 (n4 + k2 + 1) c8)).cells.1.2.2.2
            have e := lenAt_eq hF9
            rw [hlen8]
            show j' - lenAt g (World.setCell w9 _ _) < _
            rw [e]
            omega
        have hL9 : Hid (List.replicate k2 (0 : Int) = List.replicate (j' - P2.length) 0) := by rw [Hid, hn4]; congr 1; omega
        have hsB : Hid (n4 + k2 = 0 ↔ P2.length = 0 ∧ j' = 0) := by rw [Hid, hn4]; omega
        rw [hL9.out] at hO
        clear hlen8 hL9
        obtain ⟨NB, hNB⟩ : ∃ x, Hid (x = n4 + k2) := ⟨_, rfl⟩
        rw [← hNB.out] at hO hF hsB c3'
        have hNBb : NB ≤ 20000 := by rw [hNB.out]; omega
        have hNBj : ¬ (NB : Int) < (j' : Int) := by rw [hNB.out]; omega
        clear hNB hk hlt
        have hF9 := hF.set2 (.bool (decide (0 < NB)))
        have hO9 := hO.set_ (p := ⟨g, 2, none⟩) (fun a ha => by have := hA' a ha; simp only; omega) (.bool (decide (0 < NB)))
        have hI9 := hI.set_ (p := ⟨g, 2, none⟩) (fun hz a ha => by have := hap5 hz a ha; simp only; omega) (.bool (decide (0 < NB)))
        have hR10 := hR9.far (p := ⟨g, 2, none⟩) (by simp only; omega) (by simp only; omega) (.bool (decide (0 < NB)))
        go_upto_region 18 with fail
        clear hF hO hI hR9 hA' c0 c1' c2' c3' f0 f1 f2 f3 hsz
        generalize World.setCell wr _ _ = w9 at *
        obtain ⟨⟨c0, c1', c2', c3'⟩, ⟨f0, f1, f2, f3⟩⟩ := hF9.cells
        have hap7 : 0 < NB → ∀ a, A' = some a → w6.heap.size ≤ a.block := hO9.newer (Nat.le_refl _)
        have hsz := hF9.lt
        by_cases hz : NA = 0 ∧ NB = 0
        · obtain ⟨hA0, hB0⟩ := hz
          have HD : Hid (D = (⟨tb, [0], false, []⟩, 0)) := by
            have e1 := hsA.out.1 hA0
            have e2 := hsB.out.1 hB0
            rw [Hid, HD0.out, fromD, if_pos ⟨e1.1, e2.1, e1.2, e2.2⟩]
          have HB0 := Lib.hid hB0
          have hz1 : ((NA : Int) == (0 : Int)) = true := by simp; omega
          have hz2 : decide (0 < NB) = false := by simp; omega
          rw [hz2] at c2' hF9
          clear hA0 hB0 HD0
          have hF10 := (hF9.set1 (.slice (some ⟨w9.heap.size, 0, none⟩) 1 1)).alloc (.cells #[.int .i64 0] 3)
          have hI10 := IL.one (w9.setCell ⟨g, 1, none⟩ (.slice (some ⟨w9.heap.size, 0, none⟩) 1 1)) 3 0
          rw [size_setCell] at hI10
          have hO10 := (hO9.il.set_ (p := ⟨g, 1, none⟩) (fun hz a ha => by have := hap7 hz a ha; simp only; omega) (.slice (some ⟨w9.heap.size, 0, none⟩) 1 1)).alloc (.cells #[.int .i64 0] 3)
          have hR11 := (hR10.far (p := ⟨g, 1, none⟩) (by simp only; omega) (by simp only; omega) (.slice (some ⟨w9.heap.size, 0, none⟩) 1 1)).alloc (.cells #[.int .i64 0] 3)
          have hzz : w.heap.size + 2 ≤ w9.heap.size := hR10.lt
          have hk1 := fun o => (hF9.alloc o).cells
          go_upto_region 20 with fail
          clear c0 c1' c2' c3' f0 f1 f2 f3 hF9 hk1
          obtain ⟨g9, hg9⟩ : ∃ x, x = w9.heap.size := ⟨_, rfl⟩
          rw [← hg9] at hF10 hI10 hO10 hR11 hzz
          rw [← hg9]
          clear hg9
          generalize World.alloc (World.setCell w9 _ _) _ = w10 at *
          obtain ⟨⟨c0, c1', c2', c3'⟩, ⟨f0, f1, f2, f3⟩⟩ := hF10.cells
          obtain ⟨⟨r0, r1, r2, r3⟩, ⟨s0, s1, s2, s3⟩⟩ := hR11.cells
          go_wp2_with fail
          rw [HD.out]
          obtain ⟨⟨z0, z1, z2, z3⟩, _⟩ := (hR11.store (.bool tb) (.slice (some ⟨g9, 0, none⟩) 1 1) (.bool false) (.slice A' NB c')).cells
          refine bodyPost_ret (v := .tuple #[.agg #[.bool tb, .slice (some ⟨g9, 0, none⟩) 1 1, .bool false, .slice A' NB c'], .int .i64 0]) (by generalize World.setCell (World.setCell (World.setCell (World.setCell _ _ _) _ _) _ _) _ _ = W3 at z0 z1 z2 z3 ⊢; simp [results, Tryz.results73, go_sem, z0, z1, z2, z3]) rfl ?_
          have q := hO10.set4 (g := w.heap.size + 1) (fun hz a ha => by have := hap7 hz a ha; omega) (.bool tb) (.slice (some ⟨g9, 0, none⟩) 1 1) (.bool false) (.slice A' NB c')
          have e : P2 ++ List.replicate (j' - P2.length) 0 = [] := List.eq_nil_of_length_eq_zero (by have := hO10.len; have := HB0.out; omega)
          rw [e] at q
          exact ⟨_, 1, 1, A', NB, c', rfl, hI10.set4 (fun _ a ha => by obtain rfl := Option.some.inj ha; show g9 ≠ _; omega) _ _ _ _, q, below_set4 hR11.2.2 (Nat.le_succ _) _ _ _ _, fun _ a ha => by obtain rfl := Option.some.inj ha; show _ ≤ g9; omega, fun hz a ha => by have := hap7 hz a ha; omega⟩
        · have HD : Hid (D = (⟨tb, wideL P1 i', decide (0 < NB), P2 ++ List.replicate (j' - P2.length) 0⟩, 0)) := by
            have e1 := hsA.out
            have e2 := hsB.out
            rw [Hid, HD0.out, fromD, if_neg (fun q => hz (by obtain ⟨r1, r2, r3, r4⟩ : P1.length = 0 ∧ P2.length = 0 ∧ i' = 0 ∧ j' = 0 := q; exact ⟨e1.2 ⟨r1, r3⟩, e2.2 ⟨r2, r4⟩⟩))]
            have e6 : decide (0 < P2.length ∨ 0 < j') = decide (0 < NB) := by
              rw [Bool.eq_iff_iff]
              simp only [decide_eq_true_eq]
              omega
            show ((⟨tb, wideL P1 i', decide (0 < P2.length ∨ 0 < j'), P2 ++ List.replicate (j' - P2.length) 0⟩ : Dr), (0 : Int)) = _
            rw [e6]
          obtain ⟨⟨r0, r1, r2, r3⟩, ⟨s0, s1, s2, s3⟩⟩ := hR10.cells
          have hcs : (NA = 0 ∧ 0 < NB) ∨ NA ≠ 0 := by omega
          clear hz
          rcases hcs with ⟨hA0, hB0⟩ | hA0
          · have hz1 : ((NA : Int) == (0 : Int)) = true := by simp; omega
            have hz2 : decide (0 < NB) = true := by simp; omega
            rw [hz2] at c2' hF9 HD
            clear hA0 hB0 HD0
            go_wp2_with fail
            rw [HD.out]
            obtain ⟨⟨z0, z1, z2, z3⟩, _⟩ := (hR10.store (.bool tb) (.slice A5 NA c5) (.bool true) (.slice A' NB c')).cells
            exact bodyPost_ret (v := .tuple #[.agg #[.bool tb, .slice A5 NA c5, .bool true, .slice A' NB c'], .int .i64 0]) (by generalize World.setCell (World.setCell (World.setCell (World.setCell _ _ _) _ _) _ _) _ _ = W3 at z0 z1 z2 z3 ⊢; simp [results, Tryz.results73, go_sem, z0, z1, z2, z3]) rfl
              ⟨A5, NA, c5, A', NB, c', rfl, hI9.set4 (fun hz a ha => by have := hap5 hz a ha; omega) _ _ _ _, hO9.il.set4 (fun hz a ha => by have := hap7 hz a ha; omega) _ _ _ _, below_set4 hR10.2.2 (Nat.le_succ _) _ _ _ _, fun hz a ha => by have := hap5 hz a ha; omega, fun hz a ha => by have := hap7 hz a ha; omega⟩
          · have hz1 : ((NA : Int) == (0 : Int)) = false := by simp; omega
            clear hA0 HD0
            go_wp2_with fail
            rw [HD.out]
            obtain ⟨⟨z0, z1, z2, z3⟩, _⟩ := (hR10.store (.bool tb) (.slice A5 NA c5) (.bool (decide (0 < NB))) (.slice A' NB c')).cells
            exact bodyPost_ret (v := .tuple #[.agg #[.bool tb, .slice A5 NA c5, .bool (decide (0 < NB)), .slice A' NB c'], .int .i64 0]) (by generalize World.setCell (World.setCell (World.setCell (World.setCell _ _ _) _ _) _ _) _ _ = W3 at z0 z1 z2 z3 ⊢; simp [results, Tryz.results73, go_sem, z0, z1, z2, z3]) rfl
              ⟨A5, NA, c5, A', NB, c', rfl, hI9.set4 (fun hz a ha => by have := hap5 hz a ha; omega) _ _ _ _, hO9.il.set4 (fun hz a ha => by have := hap7 hz a ha; omega) _ _ _ _, below_set4 hR10.2.2 (Nat.le_succ _) _ _ _ _, fun hz a ha => by have := hap5 hz a ha; omega, fun hz a ha => by have := hap7 hz a ha; omega⟩

end Go.Proofs.YtickhmlhciafgaaGreat

