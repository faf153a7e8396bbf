/- The walk of the document's splice. No condition. -/
import Derived.Test.YtppkifdngjcbeaaDr6
namespace Go.Proofs.Ytppkifdngjcbeaa
open Go.RowKit

theorem oddL_mem {s : List Int} {k : Nat} (hk : k < s.length) (h : isAtom (s.getD k 0) = false) : oddL s = true := by
  unfold oddL
  rw [List.any_eq_true]
  have e : s.getD k 0 = s[k] := by simp [List.getD, List.getElem?_eq_getElem hk]
  exact ⟨s[k], List.getElem_mem hk, by rw [← e, h]; rfl⟩

set_option maxHeartbeats 2000000 in
theorem rsplice_any {A : Option Addr} {n c : Nat} {l : List Int} {E : Option Addr} {m k : Nat} {f : List Int} {S : Option Addr} {ns cs : Nat} {s : List Int} (b p : Bool) (i j : Int) (w : World)
    (h : IL w A n c l) (g : IL w E m k f) (hs : IL w S ns cs s) (hl : I64 l) (hf : I64 f) (hsI : I64 s) (hn : n ≤ 10000) (hm : m ≤ 10000) (hns : ns ≤ 10000)
    (hi : -9223372036854775808 ≤ i ∧ i ≤ 9223372036854775807) (hj : -9223372036854775808 ≤ j ∧ j ≤ 9223372036854775807) :
    Calls Try.prog 79 #[.agg #[.bool b, .slice A n c, .bool p, .slice E m k], .int .i64 i, .int .i64 j, .slice S ns cs] w (RDE w (spliceS ⟨b, l, p, f⟩ i j s).1 (spliceS ⟨b, l, p, f⟩ i j s).2) := by
  have hle := hs.le
  have hcap := hs.cap
  have hlens := Lib.hid hs.len
  have hX : Fresh4 w w.heap.size 42 (.bool b) (.slice A n c) (.bool p) (.slice E m k) ((w.alloc (.cells #[.bool b, .slice A n c, .bool p, .slice E m k] 42)).alloc (.cells #[.bool false, .slice none 0 0, .bool false, .slice none 0 0] 42)) := (Fresh4.made w w _ _ _ _ _ (Later.refl w) _ rfl).alloc _
  have hR : Fresh4 w (w.heap.size + 1) 42 (.bool false) (.slice none 0 0) (.bool false) (.slice none 0 0) ((w.alloc (.cells #[.bool b, .slice A n c, .bool p, .slice E m k] 42)).alloc (.cells #[.bool false, .slice none 0 0, .bool false, .slice none 0 0] 42)) := Fresh4.made w _ _ _ _ _ _ ((Later.refl w).alloc _) _ (by simp)
  have hmay := Lib.hid (fun W hW hW2 => rdmay_any (A := A) (n := n) (c := c) (l := l) (E := E) (m := m) (k := k) (f := f) b p W hW hW2)
  have hat := Lib.hid (fun W hW hW2 => ratoms_any (A := A) (n := n) (c := c) (l := l) (E := E) (m := m) (k := k) (f := f) b p W hW hW2 (by omega) (by omega))
  have hal := I64.atoms p hl hf
  have hatl : (atomsD l p f).length ≤ 20001 := by have := atoms_len l p f; have := h.len; have := g.len; omega
  generalize hD : spliceS ⟨b, l, p, f⟩ i j s = D
  have HSPL : Hid (spliceS ⟨b, l, p, f⟩ i j s = if mayD b l p f && !oddL s then if i < 0 ∨ j < i ∨ ((atomsD l p f).length : Int) < j then (Dr.none, 3) else ofS b ((atomsD l p f).take i.toNat ++ s ++ (atomsD l p f).drop j.toNat) else (Dr.none, 1)) := rfl
  generalize atomsD l p f = at_ at *
  cases hm1 : mayD b l p f
  · have HD : Hid (D = (Dr.none, 1)) := by rw [Hid, ← hD, HSPL.out, hm1]; rfl
    rw [hm1] at hmay
    clear hD hm1
    go_enter Try.func79, Try.ntmps79
    go_wp2_with fail
    refine (hmay.out _ ((h.alloc _).alloc _) ((g.alloc _).alloc _)).mono ?_
    rintro e w1 ⟨rfl, hB⟩
    have hX1 := hX.call hB
    have hR1 := hR.call hB
    obtain ⟨⟨c0, c1', c2', c3⟩, ⟨f0, f1, f2, f3⟩⟩ := hR1.cells
    go_wp2_with fail
    rw [HD.out]
    obtain ⟨⟨z0, z1, z2, z3⟩, _⟩ := (hR1.store (.bool false) (.slice none 0 0) (.bool false) (.slice none 0 0)).cells
    exact bodyPost_ret (v := .tuple #[.agg #[.bool false, .slice none 0 0, .bool false, .slice none 0 0], .int .i64 1]) (by generalize World.setCell (World.setCell (World.setCell (World.setCell _ _ _) _ _) _ _) _ _ = W3 at z0 z1 z2 z3 ⊢; simp [results, Try.results79, go_sem, z0, z1, z2, z3]) rfl
      ⟨none, 0, 0, none, 0, 0, rfl, IL.nil _, IL.nil _, below_set4 hR1.2.2 (Nat.le_succ _) _ _ _ _, none_newer _, none_newer _⟩
  · rw [hm1] at hmay
    rw [HSPL.out, hm1] at hD
    have HDD := Lib.hid hD
    clear HSPL hm1 hD
    go_enter Try.func79, Try.ntmps79
    go_wp2_with fail
    refine (hmay.out _ ((h.alloc _).alloc _) ((g.alloc _).alloc _)).mono ?_
    rintro e w1 ⟨rfl, hB⟩
    have hX1 := hX.call hB
    have hR1 := hR.call hB
    obtain ⟨⟨b0, b1, b2, b3⟩, _⟩ := hX1.cells
    obtain ⟨⟨c0, c1', c2', c3⟩, ⟨f0, f1, f2, f3⟩⟩ := hR1.cells
    have hs1 := hs.later hR1.2.2
    go_wp2_with fail
    go_loop [11] (fun x => ∃ q : Nat, q ≤ ns ∧ x = .int .i64 q ∧ Hid (oddL (s.take q) = false)) (fun x => ns - (intOf x).toNat)
    case atStart => exact ⟨0, Nat.zero_le _, rfl, rfl⟩
    case round =>
      obtain ⟨q, hq, rfl, ho⟩ := hrel
      by_cases hlt : q < ns
      · obtain ⟨bb, off, rfl, hc⟩ := hs1.at_ hlt
        have hx := hsI.getD q
        have hT := Lib.hid (take_snoc s q (by rw [hlens.out]; exact hlt))
        have hodd := Lib.hid (fun hh => oddL_mem (s := s) (k := q) (by rw [hlens.out]; exact hlt) hh)
        generalize s.getD q 0 = x at *
        by_cases hx0 : x < 0
        · have hat2 : isAtom x = false := by simp [isAtom]; omega
          have HD : Hid (D = (Dr.none, 1)) := by rw [Hid, ← HDD.out, hodd.out hat2]; rfl
          clear hat2
          go_wp2_with fail
          rw [HD.out]
          obtain ⟨⟨z0, z1, z2, z3⟩, _⟩ := (hR1.store (.bool false) (.slice none 0 0) (.bool false) (.slice none 0 0)).cells
          exact bodyPost_ret (v := .tuple #[.agg #[.bool false, .slice none 0 0, .bool false, .slice none 0 0], .int .i64 1]) (by generalize World.setCell (World.setCell (World.setCell (World.setCell _ _ _) _ _) _ _) _ _ = W3 at z0 z1 z2 z3 ⊢; simp [results, Try.results79, go_sem, z0, z1, z2, z3]) rfl
            ⟨none, 0, 0, none, 0, 0, rfl, IL.nil _, IL.nil _, below_set4 hR1.2.2 (Nat.le_succ _) _ _ _ _, none_newer _, none_newer _⟩
        · by_cases hx1 : 10 < x
          · have hat2 : isAtom x = false := by simp [isAtom]; omega
            have HD : Hid (D = (Dr.none, 1)) := by rw [Hid, ← HDD.out, hodd.out hat2]; rfl
            clear hat2
            go_wp2_with fail
            rw [HD.out]
            obtain ⟨⟨z0, z1, z2, z3⟩, _⟩ := (hR1.store (.bool false) (.slice none 0 0) (.bool false) (.slice none 0 0)).cells
            exact bodyPost_ret (v := .tuple #[.agg #[.bool false, .slice none 0 0, .bool false, .slice none 0 0], .int .i64 1]) (by generalize World.setCell (World.setCell (World.setCell (World.setCell _ _ _) _ _) _ _) _ _ = W3 at z0 z1 z2 z3 ⊢; simp [results, Try.results79, go_sem, z0, z1, z2, z3]) rfl
              ⟨none, 0, 0, none, 0, 0, rfl, IL.nil _, IL.nil _, below_set4 hR1.2.2 (Nat.le_succ _) _ _ _ _, none_newer _, none_newer _⟩
          · have hat2 : isAtom x = true := by simp [isAtom]; omega
            have hod : Hid (oddL (s.take (q + 1)) = false) := by rw [Hid, hT.out, odd_snoc, ho.out, hat2]; rfl
            clear hat2
            go_wp2_with fail
            go_round
            case rel => exact ⟨q + 1, by omega, by go_num, hod⟩
            case measure => simp [intOf]; omega
      · have hkn : q = ns := by omega
        subst hkn
        have hof : oddL s = false := by have := ho.out; rw [List.take_of_length_le (by rw [hlens.out]; omega)] at this; exact this
        have hD := HDD.out
        rw [hof] at hD
        simp only [Bool.not_false, Bool.and_self, if_true] at hD
        clear hof ho
        go_upto_region 10 with (first
          | (go_at_call 41; refine (hat.out _ (h.later hR1.2.2) (g.later hR1.2.2)).mono ?_; rintro e w2 ⟨A1, n1, c1, rfl, hO, hB2⟩))
        have hX2 := hX1.call hB2
        have hR2 := hR1.call hB2
        have hlen1 := Lib.hid hO.len
        have hn1 : n1 ≤ 20001 := by rw [← hlen1.out]; exact hatl
        have hle1 := hO.il.le
        have hcap1 := hO.il.cap
        obtain ⟨⟨b0, b1, b2, b3⟩, _⟩ := hX2.cells
        obtain ⟨⟨c0, c1', c2', c3⟩, ⟨f0, f1, f2, f3⟩⟩ := hR2.cells
        by_cases h0 : i < 0
        · have HD : Hid (D = (Dr.none, 3)) := by rw [Hid, ← hD, if_pos (.inl h0)]
          clear hD
          go_wp2_with fail
          rw [HD.out]
          obtain ⟨⟨z0, z1, z2, z3⟩, _⟩ := (hR2.store (.bool false) (.slice none 0 0) (.bool false) (.slice none 0 0)).cells
          exact bodyPost_ret (v := .tuple #[.agg #[.bool false, .slice none 0 0, .bool false, .slice none 0 0], .int .i64 3]) (by generalize World.setCell (World.setCell (World.setCell (World.setCell _ _ _) _ _) _ _) _ _ = W3 at z0 z1 z2 z3 ⊢; simp [results, Try.results79, go_sem, z0, z1, z2, z3]) rfl
            ⟨none, 0, 0, none, 0, 0, rfl, IL.nil _, IL.nil _, below_set4 hR2.2.2 (Nat.le_succ _) _ _ _ _, none_newer _, none_newer _⟩
        by_cases h1 : j < i
        · have HD : Hid (D = (Dr.none, 3)) := by rw [Hid, ← hD, if_pos (.inr (.inl h1))]
          clear hD
          go_wp2_with fail
          rw [HD.out]
          obtain ⟨⟨z0, z1, z2, z3⟩, _⟩ := (hR2.store (.bool false) (.slice none 0 0) (.bool false) (.slice none 0 0)).cells
          exact bodyPost_ret (v := .tuple #[.agg #[.bool false, .slice none 0 0, .bool false, .slice none 0 0], .int .i64 3]) (by generalize World.setCell (World.setCell (World.setCell (World.setCell _ _ _) _ _) _ _) _ _ = W3 at z0 z1 z2 z3 ⊢; simp [results, Try.results79, go_sem, z0, z1, z2, z3]) rfl
            ⟨none, 0, 0, none, 0, 0, rfl, IL.nil _, IL.nil _, below_set4 hR2.2.2 (Nat.le_succ _) _ _ _ _, none_newer _, none_newer _⟩
        by_cases h2 : (n1 : Int) < j
        · have HD : Hid (D = (Dr.none, 3)) := by rw [Hid, ← hD, if_pos (.inr (.inr (by rw [hlen1.out]; exact h2)))]
          clear hD
          go_wp2_with fail
          rw [HD.out]
          obtain ⟨⟨z0, z1, z2, z3⟩, _⟩ := (hR2.store (.bool false) (.slice none 0 0) (.bool false) (.slice none 0 0)).cells
          exact bodyPost_ret (v := .tuple #[.agg #[.bool false, .slice none 0 0, .bool false, .slice none 0 0], .int .i64 3]) (by generalize World.setCell (World.setCell (World.setCell (World.setCell _ _ _) _ _) _ _) _ _ = W3 at z0 z1 z2 z3 ⊢; simp [results, Try.results79, go_sem, z0, z1, z2, z3]) rfl
            ⟨none, 0, 0, none, 0, 0, rfl, IL.nil _, IL.nil _, below_set4 hR2.2.2 (Nat.le_succ _) _ _ _ _, none_newer _, none_newer _⟩
        obtain ⟨i', rfl⟩ := Int.eq_ofNat_of_zero_le (show 0 ≤ i by omega)
        obtain ⟨j', rfl⟩ := Int.eq_ofNat_of_zero_le (show 0 ≤ j by omega)
        have HD : Hid (D = ofS b (at_.take i' ++ s ++ at_.drop j')) := by
          rw [Hid, ← hD, if_neg (by rw [hlen1.out]; omega)]; rfl
        clear hD
        have hij : i' ≤ j' := by omega
        have hjn : j' ≤ n1 := by omega
        have hI3 := ((hal.take i').append hsI).append (hal.drop j')
        have hof := Lib.hid (fun (A : Option Addr) (n c : Nat) (W : World) (hW : IL W A n c (at_.take i' ++ s ++ at_.drop j')) (hn : n ≤ 1000000) => show Calls Try.prog 101 #[.bool b, .slice A n c] W (RDE W D.1 D.2) by have := rof_any b W hW hI3 hn; rw [← HD.out] at this; exact this)
        obtain ⟨d0, d1⟩ := D
        have hs2 := hs1.below hB2
        have hsz2 : w.heap.size + 2 ≤ w2.heap.size := hR2.lt
        by_cases hcj : c1 = j'
        all_goals
          go_wp2_with (first
            | (at_builtin; refine wpList_append_OL w2.heap.size rfl (.tmp 54) (.tmp 57) rfl rfl rfl (OL.nil _ _) (hO.il.take (k := i') (by omega) (by omega) (by omega) _ (fun _ => rfl)) (Nat.le_refl _) (by omega) ?_; intro A3 c3' w3 hO3 hB3 _; simp only [Nat.zero_add, List.nil_append] at hO3)
            | (at_builtin; refine wpList_append_OL w2.heap.size rfl (.tmp 59) (.tmp 60) rfl rfl rfl hO3 (hs2.below hB3) hB3.size (by omega) ?_; intro A4 c4 w4 hO4 hB4 _)
            | (at_builtin; (refine wpList_append_OL w2.heap.size rfl (.tmp 62) (.tmp 65) rfl rfl rfl hO4 ((hO.il.below (hB3.trans hB4)).dropv (k := j') hjn ?_ ?_ ?_) ?_ ?_ ?_); rfl; omega; (intro hk; first | rfl | (exfalso; omega)); (have := hB3.size; have := hB4.size; omega); omega; intro A5 c5 w5 hO5 hB5 _; have hX5 := hX2.call ((hB3.trans hB4).trans hB5); have hR5 := hR2.call ((hB3.trans hB4).trans hB5); obtain ⟨⟨b0, _, _, _⟩, _⟩ := hX5.cells)
            | (go_at_call 101; refine (hof.out _ _ _ _ hO5.il (by omega)).mono ?_; rintro e w6 ⟨A6, n6, c6, A7, n7, c7, rfl, hI6, hI7, hB6, hN6, hN7⟩; have hR6 := hR5.call hB6; obtain ⟨⟨d0', d1', d2', d3'⟩, ⟨e0, e1, e2, e3⟩⟩ := hR6.cells))
          have hlt5 := hR5.lt
          have hp6 : 0 < n6 → ∀ a, A6 = some a → a.block ≠ w.heap.size + 1 := fun hz a ha => by have := hN6 hz a ha; omega
          have hp7 : 0 < n7 → ∀ a, A7 = some a → a.block ≠ w.heap.size + 1 := fun hz a ha => by have := hN7 hz a ha; omega
          obtain ⟨⟨z0, z1, z2, z3⟩, _⟩ := (hR6.store (.bool d0.neg) (.slice A6 n6 c6) (.bool d0.sep) (.slice A7 n7 c7)).cells
          exact bodyPost_ret (v := .tuple #[.agg #[.bool d0.neg, .slice A6 n6 c6, .bool d0.sep, .slice A7 n7 c7], .int .i64 d1]) (by generalize World.setCell (World.setCell (World.setCell (World.setCell _ _ _) _ _) _ _) _ _ = W3 at z0 z1 z2 z3 ⊢; simp [results, Try.results79, go_sem, z0, z1, z2, z3]) rfl
            ⟨A6, n6, c6, A7, n7, c7, rfl, hI6.set4 hp6 _ _ _ _, hI7.set4 hp7 _ _ _ _, below_set4 hR6.2.2 (Nat.le_succ _) _ _ _ _, fun hz a ha => by have := hN6 hz a ha; omega, fun hz a ha => by have := hN7 hz a ha; omega⟩

end Go.Proofs.Ytppkifdngjcbeaa
