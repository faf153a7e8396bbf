/- The walk of a splice. No condition. -/
import Derived.Test.YtppkifdngjcbeaaFull
namespace Go.Proofs.Ytppkifdngjcbeaa
open Go.RowKit

def atomsR (d : Dr) : List Int := atomsD d.int d.sep d.frac
/-- A draft with other atoms in the place of some, and the code. -/
def spliceS (d : Dr) (i j : Int) (s : List Int) : Dr × Int :=
  if mayD d.neg d.int d.sep d.frac && !oddL s then
    if i < 0 ∨ j < i ∨ ((atomsR d).length : Int) < j then (Dr.none, 3) else ofS d.neg ((atomsR d).take i.toNat ++ s ++ (atomsR d).drop j.toNat)
  else (Dr.none, 1)

theorem atoms_len (l : List Int) (p : Bool) (f : List Int) : (atomsD l p f).length ≤ l.length + 1 + f.length := by
  unfold atomsD
  cases p <;> simp <;> omega
theorem I64.append {a b : List Int} (ha : I64 a) (hb : I64 b) : I64 (a ++ b) := fun x hx => (List.mem_append.1 hx).elim (ha x) (hb x)
theorem I64.take {a : List Int} (ha : I64 a) (k : Nat) : I64 (a.take k) := fun x hx => ha x (List.mem_of_mem_take hx)
theorem I64.drop {a : List Int} (ha : I64 a) (k : Nat) : I64 (a.drop k) := fun x hx => ha x (List.mem_of_mem_drop hx)
theorem I64.atoms {l f : List Int} (p : Bool) (hl : I64 l) (hf : I64 f) : I64 (atomsD l p f) := by
  unfold atomsD
  refine hl.append (I64.append ?_ hf)
  cases p
  · intro x hx; cases hx
  · intro x hx
    have : x = 10 := by simpa using hx
    omega

set_option maxHeartbeats 2000000 in
theorem splice_any {A : Option Addr} {n c : Nat} {l : List Int} {E : Option Addr} {m k : Nat} {f : List Int} {S : Option Addr} {ns cs : Nat} {s : List Int} (b p : Bool) (i j : Int) (w : World)
    (h : IL w A n c l) (g : IL w E m k f) (hs : IL w S ns cs s) (hl : I64 l) (hf : I64 f) (hsI : I64 s) (hn : n ≤ 10000) (hm : m ≤ 10000) (hns : ns ≤ 10000)
    (hi : -9223372036854775808 ≤ i ∧ i ≤ 9223372036854775807) (hj : -9223372036854775808 ≤ j ∧ j ≤ 9223372036854775807) :
    Calls Try.prog 73 #[.agg #[.bool b, .slice A n c, .bool p, .slice E m k], .int .i64 i, .int .i64 j, .slice S ns cs] w (RDE w (spliceS ⟨b, l, p, f⟩ i j s).1 (spliceS ⟨b, l, p, f⟩ i j s).2) := by
  have hle := hs.le
  have hcap := hs.cap
  have hX : Fresh4 w w.heap.size 38 (.bool b) (.slice A n c) (.bool p) (.slice E m k) ((w.alloc (.cells #[.bool b, .slice A n c, .bool p, .slice E m k] 38)).alloc (.cells #[.bool false, .slice none 0 0, .bool false, .slice none 0 0] 38)) := (Fresh4.made w w _ _ _ _ _ (Later.refl w) _ rfl).alloc _
  have hR : Fresh4 w (w.heap.size + 1) 38 (.bool false) (.slice none 0 0) (.bool false) (.slice none 0 0) ((w.alloc (.cells #[.bool b, .slice A n c, .bool p, .slice E m k] 38)).alloc (.cells #[.bool false, .slice none 0 0, .bool false, .slice none 0 0] 38)) := Fresh4.made w _ _ _ _ _ _ ((Later.refl w).alloc _) _ (by simp)
  have hmay := Lib.hid (fun W hW hW2 => dmay_any (A := A) (n := n) (c := c) (l := l) (E := E) (m := m) (k := k) (f := f) b p W hW hW2 hl hf)
  have hodd := Lib.hid (fun W hW => dodd_any S ns cs s W hW hsI)
  have hat := Lib.hid (fun W hW hW2 => atoms_any (A := A) (n := n) (c := c) (l := l) (E := E) (m := m) (k := k) (f := f) b p W hW hW2 (by omega) (by omega))
  have hal := I64.atoms p hl hf
  have hatl : (atomsD l p f).length ≤ 20001 := by have := atoms_len l p f; have := h.len; have := g.len; omega
  generalize hD : spliceS ⟨b, l, p, f⟩ i j s = D
  have HSPL : Hid (spliceS ⟨b, l, p, f⟩ i j s = if mayD b l p f && !oddL s then if i < 0 ∨ j < i ∨ ((atomsD l p f).length : Int) < j then (Dr.none, 3) else ofS b ((atomsD l p f).take i.toNat ++ s ++ (atomsD l p f).drop j.toNat) else (Dr.none, 1)) := rfl
  generalize atomsD l p f = at_ at *
  cases hm1 : mayD b l p f
  · have HD : Hid (D = (Dr.none, 1)) := by rw [Hid, ← hD, HSPL.out, hm1]; rfl
    rw [hm1] at hmay
    clear hD hm1
    go_enter Try.func73, Try.ntmps73
    go_wp2_with fail
    refine (hmay.out _ ((h.alloc _).alloc _) ((g.alloc _).alloc _)).mono ?_
    rintro e w1 ⟨rfl, hB⟩
    have hX1 := hX.call hB
    have hR1 := hR.call hB
    obtain ⟨⟨c0, c1', c2', c3⟩, ⟨f0, f1, f2, f3⟩⟩ := hR1.cells
    go_wp2_with fail
    rw [HD.out]
    obtain ⟨⟨z0, z1, z2, z3⟩, _⟩ := (hR1.store (.bool false) (.slice none 0 0) (.bool false) (.slice none 0 0)).cells
    exact bodyPost_ret (v := .tuple #[.agg #[.bool false, .slice none 0 0, .bool false, .slice none 0 0], .int .i64 1]) (by generalize World.setCell (World.setCell (World.setCell (World.setCell _ _ _) _ _) _ _) _ _ = W3 at z0 z1 z2 z3 ⊢; simp [results, Try.results73, go_sem, z0, z1, z2, z3]) rfl
      ⟨none, 0, 0, none, 0, 0, rfl, IL.nil _, IL.nil _, below_set4 hR1.2.2 (Nat.le_succ _) _ _ _ _, none_newer _, none_newer _⟩
  · rw [hm1] at hmay
    cases ho1 : oddL s
    case true =>
      have HD : Hid (D = (Dr.none, 1)) := by rw [Hid, ← hD, HSPL.out, hm1, ho1]; rfl
      rw [ho1] at hodd
      clear hD hm1 ho1
      go_enter Try.func73, Try.ntmps73
      go_wp2_with fail
      refine (hmay.out _ ((h.alloc _).alloc _) ((g.alloc _).alloc _)).mono ?_
      rintro e w1 ⟨rfl, hB⟩
      have hX1 := hX.call hB
      have hR1 := hR.call hB
      obtain ⟨⟨c0, c1', c2', c3⟩, ⟨f0, f1, f2, f3⟩⟩ := hR1.cells
      go_wp2_with fail
      refine (hodd.out _ (hs.later hR1.2.2)).mono ?_
      rintro e w1 ⟨rfl, rfl⟩
      go_wp2_with fail
      rw [HD.out]
      obtain ⟨⟨z0, z1, z2, z3⟩, _⟩ := (hR1.store (.bool false) (.slice none 0 0) (.bool false) (.slice none 0 0)).cells
      exact bodyPost_ret (v := .tuple #[.agg #[.bool false, .slice none 0 0, .bool false, .slice none 0 0], .int .i64 1]) (by generalize World.setCell (World.setCell (World.setCell (World.setCell _ _ _) _ _) _ _) _ _ = W3 at z0 z1 z2 z3 ⊢; simp [results, Try.results73, go_sem, z0, z1, z2, z3]) rfl
        ⟨none, 0, 0, none, 0, 0, rfl, IL.nil _, IL.nil _, below_set4 hR1.2.2 (Nat.le_succ _) _ _ _ _, none_newer _, none_newer _⟩
    case false =>
      rw [ho1] at hodd
      rw [HSPL.out, hm1, ho1] at hD
      simp only [Bool.not_false, Bool.and_self, if_true] at hD
      clear HSPL hm1 ho1
      go_enter Try.func73, Try.ntmps73
      go_upto_region 4 with (first
        | (go_at_call 24; refine (hmay.out _ ((h.alloc _).alloc _) ((g.alloc _).alloc _)).mono ?_; rintro e w1 ⟨rfl, hB⟩; have hX1 := hX.call hB; have hR1 := hR.call hB; obtain ⟨⟨b0, b1, b2, b3⟩, _⟩ := hX1.cells)
        | (go_at_call 91; refine (hodd.out _ (hs.later hR1.2.2)).mono ?_; rintro e w1' ⟨rfl, rfl⟩)
        | (go_at_call 72; refine (hat.out _ (h.later hR1.2.2) (g.later hR1.2.2)).mono ?_; rintro e w2 ⟨A1, n1, c1, rfl, hO, hB2⟩))
      have hX2 := hX1.call hB2
      have hR2 := hR1.call hB2
      have hlen1 := Lib.hid hO.len
      have hn1 : n1 ≤ 20001 := by rw [← hlen1.out]; exact hatl
      have hle1 := hO.il.le
      have hcap1 := hO.il.cap
      obtain ⟨⟨b0, b1, b2, b3⟩, _⟩ := hX2.cells
      obtain ⟨⟨c0, c1', c2', c3⟩, ⟨f0, f1, f2, f3⟩⟩ := hR2.cells
      by_cases h0 : i < 0
      · have HD : Hid (D = (Dr.none, 3)) := by rw [Hid, ← hD, if_pos (.inl h0)]
        clear hD
        go_wp2_with fail
        rw [HD.out]
        obtain ⟨⟨z0, z1, z2, z3⟩, _⟩ := (hR2.store (.bool false) (.slice none 0 0) (.bool false) (.slice none 0 0)).cells
        exact bodyPost_ret (v := .tuple #[.agg #[.bool false, .slice none 0 0, .bool false, .slice none 0 0], .int .i64 3]) (by generalize World.setCell (World.setCell (World.setCell (World.setCell _ _ _) _ _) _ _) _ _ = W3 at z0 z1 z2 z3 ⊢; simp [results, Try.results73, go_sem, z0, z1, z2, z3]) rfl
          ⟨none, 0, 0, none, 0, 0, rfl, IL.nil _, IL.nil _, below_set4 hR2.2.2 (Nat.le_succ _) _ _ _ _, none_newer _, none_newer _⟩
      by_cases h1 : j < i
      · have HD : Hid (D = (Dr.none, 3)) := by rw [Hid, ← hD, if_pos (.inr (.inl h1))]
        clear hD
        go_wp2_with fail
        rw [HD.out]
        obtain ⟨⟨z0, z1, z2, z3⟩, _⟩ := (hR2.store (.bool false) (.slice none 0 0) (.bool false) (.slice none 0 0)).cells
        exact bodyPost_ret (v := .tuple #[.agg #[.bool false, .slice none 0 0, .bool false, .slice none 0 0], .int .i64 3]) (by generalize World.setCell (World.setCell (World.setCell (World.setCell _ _ _) _ _) _ _) _ _ = W3 at z0 z1 z2 z3 ⊢; simp [results, Try.results73, go_sem, z0, z1, z2, z3]) rfl
          ⟨none, 0, 0, none, 0, 0, rfl, IL.nil _, IL.nil _, below_set4 hR2.2.2 (Nat.le_succ _) _ _ _ _, none_newer _, none_newer _⟩
      by_cases h2 : (n1 : Int) < j
      · have HD : Hid (D = (Dr.none, 3)) := by rw [Hid, ← hD, if_pos (.inr (.inr (by rw [hlen1.out]; exact h2)))]
        clear hD
        go_wp2_with fail
        rw [HD.out]
        obtain ⟨⟨z0, z1, z2, z3⟩, _⟩ := (hR2.store (.bool false) (.slice none 0 0) (.bool false) (.slice none 0 0)).cells
        exact bodyPost_ret (v := .tuple #[.agg #[.bool false, .slice none 0 0, .bool false, .slice none 0 0], .int .i64 3]) (by generalize World.setCell (World.setCell (World.setCell (World.setCell _ _ _) _ _) _ _) _ _ = W3 at z0 z1 z2 z3 ⊢; simp [results, Try.results73, go_sem, z0, z1, z2, z3]) rfl
          ⟨none, 0, 0, none, 0, 0, rfl, IL.nil _, IL.nil _, below_set4 hR2.2.2 (Nat.le_succ _) _ _ _ _, none_newer _, none_newer _⟩
      obtain ⟨i', rfl⟩ := Int.eq_ofNat_of_zero_le (show 0 ≤ i by omega)
      obtain ⟨j', rfl⟩ := Int.eq_ofNat_of_zero_le (show 0 ≤ j by omega)
      have HD : Hid (D = ofS b (at_.take i' ++ s ++ at_.drop j')) := by
        rw [Hid, ← hD, if_neg (by rw [hlen1.out]; omega)]; rfl
      clear hD
      have hij : i' ≤ j' := by omega
      have hjn : j' ≤ n1 := by omega
      have hA0 : A1 = none → i' = 0 := fun hh => by
        rcases Nat.eq_zero_or_pos i' with hz | hz
        · exact hz
        · obtain ⟨a, ha, _⟩ := hO.new (by omega)
          rw [hh] at ha; cases ha
      have hs2 := hB2.size
      have hsz2 : w.heap.size + 2 ≤ w2.heap.size := hR2.lt
      have hsz1 : w.heap.size + 2 ≤ w1.heap.size := hR1.lt
      have hO' := hO.mono (B' := w.heap.size + 2) hsz1
      go_upto_region 7 with (first
        | (at_builtin; refine wpList_append_full (w.heap.size + 2) rfl (.tmp 39) (.tmp 40) rfl rfl rfl (hO.il.take (k := i') (by omega) (Nat.le_refl _) (by omega) _ (fun _ => rfl)) hA0 (fun _ => hO'.new (by omega)) (hs.later hR2.2.2) hsz2 (by omega) ?_; intro A3 c3' w3 hO3 hB3))
      have hX3 := hX2.call hB3
      have hR3 := hR2.call hB3
      obtain ⟨⟨b0, b1, b2, b3⟩, _⟩ := hX3.cells
      obtain ⟨⟨c0, c1', c2', c3⟩, ⟨f0, f1, f2, f3⟩⟩ := hR3.cells
      have hat3 := hO.il.below hB3
      have hI3 := ((hal.take i').append hsI).append (hal.drop j')
      have hdrop : ∀ A' c', c' = c1 - j' → (j' < n1 → A' = Option.map (fun x => x.add j') A1) → IL w3 A' (n1 - j') c' (at_.drop j') := by
        intro A' c' hc' hA'
        subst hc'
        exact hat3.drop hjn _ hA'
      have hszz3 : w.heap.size + 2 ≤ w3.heap.size := hR3.lt
      have HDROP := Lib.hid hdrop
      clear hdrop
      have hof := Lib.hid (fun (A : Option Addr) (n c : Nat) (W : World) (hW : IL W A n c (at_.take i' ++ s ++ at_.drop j')) (hn : n ≤ 1000000) => show Calls Try.prog 92 #[.bool b, .slice A n c] W (RDE W D.1 D.2) by have := of_draft b W hW hI3 hn; rw [← HD.out] at this; exact this)
      obtain ⟨d0, d1⟩ := D
      by_cases hcj : c1 = j'
      all_goals
        go_region_law (first
          | (clear hg4; go_simp; go_at_call 92; refine (hof.out _ _ _ _ hO4.il (by omega)).mono ?_; rintro e w5 ⟨A5, n5, c5, A6, n6, c6, rfl, hI5, hI6, hB5, hN5, hN6⟩; have hR4 := hR3.drew.under (by omega) hB4; have hR5 := hR4.call hB5; obtain ⟨⟨d0', d1', d2', d3'⟩, ⟨e0, e1, e2, e3⟩⟩ := hR5.cells)
          | (refine step_append_OL (w.heap.size + 2) rfl (.tmp 44) (.tmp 47) rfl rfl rfl (OL.drew hO3) (IL.drew (HDROP.out _ _ ?_ ?_)) ?_ ?_ ?_; omega; (intro hk; first | rfl | (exfalso; omega)); (simp; omega); omega; intro A4 c4 w4 hO4 hB4 hg4; obtain ⟨⟨y0, _, _, _⟩, _⟩ := (hX3.drew.under (by omega) hB4).cells))
        all_goals
          go_wp2_with fail
          have hp5 : 0 < n5 → ∀ a, A5 = some a → a.block ≠ w.heap.size + 1 := fun hz a ha => by have := hN5 hz a ha; have := hR4.lt; omega
          have hp6 : 0 < n6 → ∀ a, A6 = some a → a.block ≠ w.heap.size + 1 := fun hz a ha => by have := hN6 hz a ha; have := hR4.lt; omega
          have hlt4 := hR4.lt
          obtain ⟨⟨z0, z1, z2, z3⟩, _⟩ := (hR5.store (.bool d0.neg) (.slice A5 n5 c5) (.bool d0.sep) (.slice A6 n6 c6)).cells
          exact bodyPost_ret (v := .tuple #[.agg #[.bool d0.neg, .slice A5 n5 c5, .bool d0.sep, .slice A6 n6 c6], .int .i64 d1]) (by generalize World.setCell (World.setCell (World.setCell (World.setCell _ _ _) _ _) _ _) _ _ = W3 at z0 z1 z2 z3 ⊢; simp [results, Try.results73, go_sem, z0, z1, z2, z3]) rfl
            ⟨A5, n5, c5, A6, n6, c6, rfl, hI5.set4 hp5 _ _ _ _, hI6.set4 hp6 _ _ _ _, below_set4 hR5.2.2 (Nat.le_succ _) _ _ _ _, fun hz a ha => by have := hN5 hz a ha; omega, fun hz a ha => by have := hN6 hz a ha; omega⟩

end Go.Proofs.Ytppkifdngjcbeaa
