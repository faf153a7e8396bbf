/- Drafts that are committed (plain). No condition. -/
import Derived.Test.YtickhmlhciafgaaGreatMa30
import Derived.Deep.DeepCutAuto
import Derived.Test.YtickhmlhciafgaaGreatMa07
import Derived.Test.YtickhmlhciafgaaGreatMa15
import Derived.Test.YtickhmlhciafgaaGreatMa10
import Derived.Test.YtickhmlhciafgaaGreatMa27
namespace Go.Proofs.YtickhmlhciafgaaGreat
open Go.RowKit

theorem LL.drew {w : World} {A : Option Addr} {n c : Nat} {ls : List (List Int)} (h : LL w A n c ls) : LL w.drew A n c ls := h
theorem blk_s4 {w0 W : World} {g : Nat} {t : TypeId} {a b c d : Value} (h : Blk w0 g t #[a, b, c, d] W) :
    (W.cell? ⟨g, 0, none⟩ = some a ∧ W.cell? ⟨g, 1, none⟩ = some b ∧ W.cell? ⟨g, 2, none⟩ = some c ∧ W.cell? ⟨g, 3, none⟩ = some d) ∧ Blk w0 g t #[a, b, c, d] W := ⟨⟨h.cell 0, h.cell 1, h.cell 2, h.cell 3⟩, h⟩

set_option maxHeartbeats 2000000 in
theorem ddec_any {A : Option Addr} {n c : Nat} {l : List Int} {E : Option Addr} {m k : Nat} {f : List Int} (b p : Bool) (w : World) (h : IL w A n c l) (g : IL w E m k f) (hl : I64 l) (hf : I64 f) (hn : n ≤ 10000) (hm : m ≤ 10000) :
    Calls Tryz.prog 65 #[.agg #[.bool b, .slice A n c, .bool p, .slice E m k]] w (RC w (decD ⟨b, l, p, f⟩)) := by
  have hI : I64 (l ++ f) := fun x hx => (List.mem_append.1 hx).elim (hl x) (hf x)
  have e1 := h.len
  have e2 := g.len
  have htr := Lib.hid (fun A n c W hW hn => dtrim_any (A := A) (n := n) (c := c) (l := l ++ f) b (m : Int) W hW hI hn (by omega) (by omega))
  have hco := Lib.hid (fun A n c W (hW : LL W A n c [l, f]) => show Calls Tryz.prog 106 #[.slice A n c] W (RO W (l ++ f)) by
    have := concat_any A n c [l, f] W hW (by simp) (fun q hq => by
      rcases List.mem_cons.1 hq with rfl | hq
      · omega
      · rcases List.mem_cons.1 hq with rfl | hq
        · omega
        · cases hq)
    have e : [l, f].flatten = l ++ f := by simp
    rw [e] at this
    exact this)
  have hD : Hid (decD ⟨b, l, p, f⟩ = trimDc ⟨b, l ++ f, (m : Int)⟩) := by rw [Hid, decD, e2]
  rw [hD.out]
  have hlen : (l ++ f).length ≤ 20000 := by simp; omega
  generalize trimDc ⟨b, l ++ f, (m : Int)⟩ = D at *
  have hX0 := (Blk.made w w 70 #[.bool b, .slice A n c, .bool p, .slice E m k] (Later.refl w) _ rfl).alloc (.cells #[.bool false, .slice none 0 0, .int .i64 0] 29)
  have hR0 := Blk.made w (w.alloc (.cells #[.bool b, .slice A n c, .bool p, .slice E m k] 70)) 29 #[.bool false, .slice none 0 0, .int .i64 0] ((Later.refl w).alloc _) (w.heap.size + 1) (by simp)
  have hIb := (h.alloc (.cells #[.bool b, .slice A n c, .bool p, .slice E m k] 70)).alloc (.cells #[.bool false, .slice none 0 0, .int .i64 0] 29)
  have gIb := (g.alloc (.cells #[.bool b, .slice A n c, .bool p, .slice E m k] 70)).alloc (.cells #[.bool false, .slice none 0 0, .int .i64 0] 29)
  clear hD
  go_enter Tryz.func65, Tryz.ntmps65
  go_upto_region 1 with fail
  obtain ⟨wb, hwb⟩ : ∃ wb, wb = (w.alloc (.cells #[.bool b, .slice A n c, .bool p, .slice E m k] 70)).alloc (.cells #[.bool false, .slice none 0 0, .int .i64 0] 29) := ⟨_, rfl⟩
  rw [← hwb] at hX0 hR0 hIb gIb
  rw [← hwb]
  clear hwb
  have HX := Lib.hid hX0
  have HR := Lib.hid hR0
  clear hX0 hR0
  go_region_held3 (fun W => (W.cell? ⟨w.heap.size, 0, none⟩ = some (.bool b) ∧ W.cell? ⟨w.heap.size, 1, none⟩ = some (.slice A n c) ∧ W.cell? ⟨w.heap.size, 2, none⟩ = some (.bool p) ∧ W.cell? ⟨w.heap.size, 3, none⟩ = some (.slice E m k)) ∧ Blk w w.heap.size 70 #[.bool b, .slice A n c, .bool p, .slice E m k] W)
    ((refine blk_s4 ?_; repeat (first | exact HX.out | exact And.right (by assumption) | refine Blk.drew ?_ | refine Blk.alloc ?_ _ | refine Blk.call ?_ hB2 | refine Blk.call ?_ hB1 | refine Blk.far ?_ (by simp <;> omega) (by simp <;> omega) _)))
    (first
      | (go_at_call 106; refine (hco.out _ _ _ _ (LL.drew (LL.pair1 hIb gIb _ _ rfl))).mono ?_; rintro e w1 ⟨A1, n1, c1, rfl, hO1, hB1⟩; have hR1 := ((HR.out.alloc _).drew.call hB1))
      | (go_at_call 58; refine (htr.out _ _ _ _ hO1.il (by have := hO1.len; omega)).mono ?_; rintro e w2 ⟨A2, n2, c2, rfl, hI2, hB2, hN2⟩; have hR2 := hR1.call hB2; have hlt := hR1.lt; obtain ⟨⟨y0, y1, y2⟩, ⟨y3, y4, y5⟩⟩ := hR2.cells3))
  all_goals
    go_wp2_with fail
    obtain ⟨⟨z0, z1, z2⟩, _⟩ := (hR2.store3 (.bool D.neg) (.slice A2 n2 c2) (.int .i64 D.s)).cells3
    exact bodyPost_ret (v := .agg #[.bool D.neg, .slice A2 n2 c2, .int .i64 D.s]) (by generalize World.setCell (World.setCell (World.setCell _ _ _) _ _) _ _ = W3 at z0 z1 z2 ⊢; simp [results, Tryz.results65, go_sem, z0, z1, z2]) rfl
      ⟨A2, n2, c2, rfl, hI2.set3 (fun hz a ha => by have := hN2 hz a ha; omega) _ _ _, below_set3 hR2.later (Nat.le_succ _) _ _ _, fun hz a ha => by have := hN2 hz a ha; omega⟩

end Go.Proofs.YtickhmlhciafgaaGreat


namespace Go.Proofs.YtickhmlhciafgaaGreat
open Go.RowKit

/-- A number's draft, of its digits ahead of the point and behind it. -/
def fromD (b : Bool) (P : List Int × List Int) (i j : Nat) : Dr :=
  if P.1.length = 0 ∧ P.2.length = 0 ∧ i = 0 ∧ j = 0 then ⟨b, [0], false, []⟩ else ⟨b, wideL P.1 i, decide (0 < P.2.length ∨ 0 < j), P.2 ++ List.replicate (j - P.2.length) 0⟩
/-- A number's draft, and the code. -/
def fromS (x : Dc) (i j : Int) : Dr × Int :=
  if mayDc x then if 0 ≤ i ∧ i ≤ 64 ∧ 0 ≤ j ∧ j ≤ 64 then (fromD (trimDc x).neg (partsS (trimDc x).l (trimDc x).s.toNat) i.toNat j.toNat, 0) else (Dr.none, 3) else (Dr.none, 1)
theorem none_zero (A : Option Addr) (B : Nat) : 0 < 0 → ∀ a, A = some a → B ≤ a.block := fun h => absurd h (by omega)
theorem strip_le (k : Nat) (l : List Int) : (stripZ k l).2 ≤ k ∧ (stripZ k l).1.length ≤ l.length := by
  induction k generalizing l with
  | zero => exact ⟨Nat.le_refl _, Nat.le_refl _⟩
  | succ k ih =>
    simp only [stripZ]
    split
    · have := ih l.dropLast
      rw [List.length_dropLast] at this
      omega
    · exact ⟨Nat.le_refl _, Nat.le_refl _⟩
theorem trim_scale (b : Bool) (l : List Int) (s : Nat) : ∃ k : Nat, (trimDc ⟨b, l, s⟩).s = k ∧ k ≤ s ∧ (trimDc ⟨b, l, s⟩).l.length ≤ l.length := by
  rw [trimDc_eq]
  have ht : (trimL l).length ≤ l.length := by rw [trimL_len]; omega
  split
  · exact ⟨0, rfl, Nat.zero_le _, Nat.zero_le _⟩
  · have := strip_le s (trimL l)
    exact ⟨_, rfl, this.1, by show (stripZ s (trimL l)).1.length ≤ _; omega⟩

theorem strip_mem (k : Nat) (l : List Int) : ∀ x, x ∈ (stripZ k l).1 → x ∈ l := by
  induction k generalizing l with
  | zero => exact fun x hx => hx
  | succ k ih =>
    simp only [stripZ]
    split
    · exact fun x hx => List.dropLast_subset _ (ih _ x hx)
    · exact fun x hx => hx
theorem trim_I64 (b : Bool) {l : List Int} (s : Nat) (h : I64 l) : I64 (trimDc ⟨b, l, s⟩).l := by
  rw [trimDc_eq]
  split
  · intro x hx; cases hx
  · intro x hx
    have h2 := strip_mem _ _ x hx
    rw [trimL_drop] at h2
    exact h x (List.mem_of_mem_drop h2)

theorem from1_any (x : Int) (w : World) (h1 : -9223372036854775808 ≤ x) (h2 : x ≤ 9223372036854775807) :
    Calls Tryz.prog 67 #[.int .i64 x] w fun e w' => e = .returned (.bool (decide (0 ≤ x) && decide (x ≤ 64))) ∧ w = w' := by
  by_cases h : x < 0
  · go_enter Tryz.func67, Tryz.ntmps67
    go_wp2
    go_ret
    exact ⟨ret_bool (by first | (simp; done) | (simp; omega)), rfl⟩
  · go_enter Tryz.func67, Tryz.ntmps67
    go_wp2
    go_ret
    exact ⟨ret_bool (by first | (rw [Bool.eq_iff_iff]; done) | (rw [Bool.eq_iff_iff]; simp; done) | (rw [Bool.eq_iff_iff]; simp; omega)), rfl⟩

set_option maxHeartbeats 2000000 in
theorem dfrom_any {A : Option Addr} {n c : Nat} {l : List Int} (b : Bool) (s i j : Int) (w : World) (h : IL w A n c l) (hl : I64 l) (hn : n ≤ 10000) (hs : -9223372036854775808 ≤ s ∧ s ≤ 9223372036854775807)
    (hi : -9223372036854775808 ≤ i ∧ i ≤ 9223372036854775807) (hj : -9223372036854775808 ≤ j ∧ j ≤ 9223372036854775807) :
    Calls Tryz.prog 29 #[.agg #[.bool b, .slice A n c, .int .i64 s], .int .i64 i, .int .i64 j] w (RDE w (fromS ⟨b, l, s⟩ i j).1 (fromS ⟨b, l, s⟩ i j).2) := by
  have hmay := Lib.hid (fun W hW => cmay_any (A := A) (n := n) (c := c) (l := l) b s W hW hl hs)
  have hin := Lib.hid (fun W => from1_any i W hi.1 hi.2)
  have hjn := Lib.hid (fun W => from1_any j W hj.1 hj.2)
  have hX : Blk w w.heap.size 29 #[.bool b, .slice A n c, .int .i64 s] ((w.alloc (.cells #[.bool b, .slice A n c, .int .i64 s] 29)).alloc (.cells #[.bool false, .slice none 0 0, .bool false, .slice none 0 0] 70)) := (Blk.made w w _ _ (Later.refl w) _ rfl).alloc _
  have hR : Fresh4 w (w.heap.size + 1) 70 (.bool false) (.slice none 0 0) (.bool false) (.slice none 0 0) ((w.alloc (.cells #[.bool b, .slice A n c, .int .i64 s] 29)).alloc (.cells #[.bool false, .slice none 0 0, .bool false, .slice none 0 0] 70)) := Fresh4.made w _ _ _ _ _ _ ((Later.refl w).alloc _) _ (by simp)
  generalize hD : fromS ⟨b, l, s⟩ i j = D
  cases hm1 : mayDc ⟨b, l, s⟩
  · have HD : Hid (D = (Dr.none, 1)) := by rw [Hid, ← hD, fromS, hm1]; rfl
    rw [hm1] at hmay
    clear hD hm1
    go_enter Tryz.func29, Tryz.ntmps29
    go_wp2_with fail
    refine (hmay.out _ ((h.alloc _).alloc _)).mono ?_
    rintro e w1 ⟨rfl, hB⟩
    have hR1 := hR.call hB
    obtain ⟨⟨c0, c1', c2', c3⟩, ⟨f0, f1, f2, f3⟩⟩ := hR1.cells
    go_wp2_with fail
    rw [HD.out]
    obtain ⟨⟨z0, z1, z2, z3⟩, _⟩ := (hR1.store (.bool false) (.slice none 0 0) (.bool false) (.slice none 0 0)).cells
    exact bodyPost_ret (v := .tuple #[.agg #[.bool false, .slice none 0 0, .bool false, .slice none 0 0], .int .i64 1]) (by generalize World.setCell (World.setCell (World.setCell (World.setCell _ _ _) _ _) _ _) _ _ = W3 at z0 z1 z2 z3 ⊢; simp [results, Tryz.results29, go_sem, z0, z1, z2, z3]) rfl
      ⟨none, 0, 0, none, 0, 0, rfl, IL.nil _, IL.nil _, below_set4 hR1.2.2 (Nat.le_succ _) _ _ _ _, none_newer _, none_newer _⟩
  · rw [hm1] at hmay
    obtain ⟨hml, hs0, hs1⟩ := mayDc_iff.1 hm1
    simp only at hml hs0 hs1
    by_cases h0 : 0 ≤ i ∧ i ≤ 64
    case neg =>
      have HD : Hid (D = (Dr.none, 3)) := by rw [Hid, ← hD, fromS, hm1, if_pos rfl, if_neg (by omega)]
      have hin0 : (decide (0 ≤ i) && decide (i ≤ 64)) = false := by rw [Bool.eq_false_iff]; intro q; simp at q; exact h0 q
      rw [hin0] at hin
      clear hD hm1 hml hin0 h0
      go_enter Tryz.func29, Tryz.ntmps29
      go_wp2_with fail
      refine (hmay.out _ ((h.alloc _).alloc _)).mono ?_
      rintro e w1 ⟨rfl, hB⟩
      have hR1 := hR.call hB
      obtain ⟨⟨c0, c1', c2', c3⟩, ⟨f0, f1, f2, f3⟩⟩ := hR1.cells
      go_wp2_with fail
      refine (hin.out _).mono ?_
      rintro e w2 ⟨rfl, rfl⟩
      go_wp2_with fail
      rw [HD.out]
      obtain ⟨⟨z0, z1, z2, z3⟩, _⟩ := (hR1.store (.bool false) (.slice none 0 0) (.bool false) (.slice none 0 0)).cells
      exact bodyPost_ret (v := .tuple #[.agg #[.bool false, .slice none 0 0, .bool false, .slice none 0 0], .int .i64 3]) (by generalize World.setCell (World.setCell (World.setCell (World.setCell _ _ _) _ _) _ _) _ _ = W3 at z0 z1 z2 z3 ⊢; simp [results, Tryz.results29, go_sem, z0, z1, z2, z3]) rfl
        ⟨none, 0, 0, none, 0, 0, rfl, IL.nil _, IL.nil _, below_set4 hR1.2.2 (Nat.le_succ _) _ _ _ _, none_newer _, none_newer _⟩
    have hin0 : (decide (0 ≤ i) && decide (i ≤ 64)) = true := by simp; exact h0
    rw [hin0] at hin
    by_cases h2 : 0 ≤ j ∧ j ≤ 64
    case neg =>
      have HD : Hid (D = (Dr.none, 3)) := by rw [Hid, ← hD, fromS, hm1, if_pos rfl, if_neg (by omega)]
      have hjn0 : (decide (0 ≤ j) && decide (j ≤ 64)) = false := by rw [Bool.eq_false_iff]; intro q; simp at q; exact h2 q
      rw [hjn0] at hjn
      clear hD hm1 hml hjn0 h2
      go_enter Tryz.func29, Tryz.ntmps29
      go_wp2_with fail
      refine (hmay.out _ ((h.alloc _).alloc _)).mono ?_
      rintro e w1 ⟨rfl, hB⟩
      have hR1 := hR.call hB
      obtain ⟨⟨c0, c1', c2', c3⟩, ⟨f0, f1, f2, f3⟩⟩ := hR1.cells
      go_wp2_with fail
      refine (hin.out _).mono ?_
      rintro e w2 ⟨rfl, rfl⟩
      go_wp2_with fail
      refine (hjn.out _).mono ?_
      rintro e w2 ⟨rfl, rfl⟩
      go_wp2_with fail
      rw [HD.out]
      obtain ⟨⟨z0, z1, z2, z3⟩, _⟩ := (hR1.store (.bool false) (.slice none 0 0) (.bool false) (.slice none 0 0)).cells
      exact bodyPost_ret (v := .tuple #[.agg #[.bool false, .slice none 0 0, .bool false, .slice none 0 0], .int .i64 3]) (by generalize World.setCell (World.setCell (World.setCell (World.setCell _ _ _) _ _) _ _) _ _ = W3 at z0 z1 z2 z3 ⊢; simp [results, Tryz.results29, go_sem, z0, z1, z2, z3]) rfl
        ⟨none, 0, 0, none, 0, 0, rfl, IL.nil _, IL.nil _, below_set4 hR1.2.2 (Nat.le_succ _) _ _ _ _, none_newer _, none_newer _⟩
    have hjn0 : (decide (0 ≤ j) && decide (j ≤ 64)) = true := by simp; exact h2
    rw [hjn0] at hjn
    obtain ⟨i', rfl⟩ := Int.eq_ofNat_of_zero_le h0.1
    obtain ⟨j', rfl⟩ := Int.eq_ofNat_of_zero_le h2.1
    obtain ⟨s', rfl⟩ := Int.eq_ofNat_of_zero_le hs0
    have hi64 : i' ≤ 64 := by omega
    have hj64 : j' ≤ 64 := by omega
    have hs64 : s' ≤ 1000 := by omega
    obtain ⟨q, hq, hqs, hql⟩ := trim_scale b l s'
    have htr := Lib.hid (fun W hW => dtrim_any (A := A) (n := n) (c := c) (l := l) b (s' : Int) W hW hl (by omega) (by omega) (by omega))
    have hmt : I64 (trimDc ⟨b, l, (s' : Int)⟩).l := trim_I64 b s' hl
    have HD0 : Hid (D = (fromD (trimDc ⟨b, l, (s' : Int)⟩).neg (partsS (trimDc ⟨b, l, (s' : Int)⟩).l q) i' j', 0)) := by
      rw [Hid, ← hD, fromS, hm1, if_pos rfl, if_pos (by omega), hq]; rfl
    have hlen := h.len
    clear hD hm1 hml hs0 hs1 h0 h2 hin0 hjn0 hi hj hs
    generalize trimDc ⟨b, l, (s' : Int)⟩ = T at *
    obtain ⟨tb, tl, ts⟩ := T
    simp only at hq hql hmt HD0
    subst hq
    go_enter Tryz.func29, Tryz.ntmps29
    go_wp2_with fail
    refine (hmay.out _ ((h.alloc _).alloc _)).mono ?_
    rintro e w1 ⟨rfl, hB⟩
    have hX1 := hX.call hB
    have hR1 := hR.call hB
    obtain ⟨x0, x1, x2⟩ := hX1.cells3.1
    go_wp2_with fail
    refine (hin.out _).mono ?_
    rintro e w2 ⟨rfl, rfl⟩
    go_wp2_with fail
    refine (hjn.out _).mono ?_
    rintro e w2 ⟨rfl, rfl⟩
    go_wp2_with fail
    refine (htr.out _ (h.later hR1.2.2)).mono ?_
    rintro e w2 ⟨A2, n2, c2, rfl, hI2, hB2, hN2⟩
    have hR2 := hR1.call hB2
    have hg2 : w.heap.size + 2 ≤ w2.heap.size := hR2.lt
    have hn2 : n2 ≤ 10000 := by have := hI2.len; simp only at this; omega
    have hT2 := Blk.made w w2 29 #[.bool tb, .slice A2 n2 c2, .int .i64 (q : Int)] hR2.2.2 _ rfl
    have hRT := hR2.alloc (.cells #[.bool tb, .slice A2 n2 c2, .int .i64 (q : Int)] 29)
    have hIT := hI2.alloc (.cells #[.bool tb, .slice A2 n2 c2, .int .i64 (q : Int)] 29)
    clear hX1 x0 x1 x2 hX hR hR1 hR2 hmay hin hjn htr
    have hpa := Lib.hid (fun W hW => parts_any (A := A2) (n := n2) (c := c2) (l := tl) tb q W hW hmt (by omega) (by omega))
    have hpl : (partsS tl q).1.length ≤ 11000 ∧ (partsS tl q).2.length ≤ 11000 := by
      have e1 := wideL_len tl q
      have e2 : (partsS tl q).1 = trimL ((wideL tl q).take ((wideL tl q).length - q)) := rfl
      have e3 : (partsS tl q).2 = (wideL tl q).drop ((wideL tl q).length - q) := rfl
      have e4 := trimL_len ((wideL tl q).take ((wideL tl q).length - q))
      rw [e2, e3, e4]
      simp only [List.length_take, List.length_drop]
      omega
    generalize partsS tl q = P at *
    obtain ⟨P1, P2⟩ := P
    simp only at hpl HD0 hpa
    go_upto_region 7 with fail
    obtain ⟨v1, hv1⟩ : ∃ v1, v1 = w2.alloc (.cells #[.bool tb, .slice A2 n2 c2, .int .i64 (q : Int)] 29) := ⟨_, rfl⟩
    rw [← hv1] at hT2 hRT hIT
    rw [← hv1]
    have hg : w.heap.size + 2 ≤ w2.heap.size := hg2
    clear hv1
    generalize w2.heap.size = gT at *
    obtain ⟨t0, t1, t2⟩ := hT2.cells3.1
    go_wp2_with fail
    refine (hpa.out _ hIT).mono ?_
    rintro e w3 ⟨A3, n3, c3, A4, n4, c4, rfl, hI3, hI4, hB3⟩
    have hR3 := hRT.call hB3
    have hT3 := hT2.call hB3
    have hn3 : P1.length = n3 := hI3.len
    have hn4 : P2.length = n4 := hI4.len
    have HP1 := Lib.hid hn3
    clear hT2 hRT hIT hpa t0 t1 t2
    go_upto_region 8 with fail
    obtain ⟨d, hd⟩ : ∃ d, d = i' - n3 := ⟨_, rfl⟩
    have hmk := run_make_row' (P := Tryz.prog) 22 3 (.int .i64 0) 8 Tryz.underlying22 int_info rfl .i64 .i64 d (by omega) (by omega)
    rw [made_zeros] at hmk
    have hmax : (if (i' : Int) - (n3 : Int) < 0 then 0 else (i' : Int) - (n3 : Int)) = (d : Int) := by split <;> omega
    have hwr : IntKind.i64.wrap ((i' : Int) - (n3 : Int)) = (i' : Int) - (n3 : Int) := IntWalk.i64_in _ (by omega)
    have hdh : Hid (d = i' - n3) := hd
    have hdb : d + n3 ≤ 20000 := by omega
    clear hd
    have hO0 : OL (w3.alloc (.cells (List.replicate d (Value.int .i64 0)).toArray 3)) w3.heap.size (some ⟨w3.heap.size, 0, none⟩) d d (List.replicate d 0) :=
      OL.full (IL.of_heap (t := 3) (by rw [List.map_replicate]; exact (Blk.made w3 w3 3 _ (Later.refl _) _ rfl).2.1) (by simp) (by omega)) (fun q => by cases q) _ (fun _ => ⟨_, rfl, Nat.le_refl _⟩)
    generalize List.replicate d (Value.int .i64 0) = zs at *
    have HO0 := Lib.hid hO0
    clear hO0
    go_wp2_with (first
      | (at_builtin; refine wpList_append_OL w3.heap.size rfl (.tmp 41) (.tmp 42) rfl rfl rfl HO0.out (hI3.alloc _) (by simp) (by omega) ?_; intro A5 c5 w5 hO5 hB5 _))
    have hB35 : Below w3.heap.size w3 w5 := ((Below.refl _ _).alloc (Nat.le_refl _) _).trans hB5
    have hR5 := hR3.call hB35
    have hT5 := hT3.call hB35
    have hI4' := hI4.below hB35
    have hz3 := hR3.lt
    clear hmk hmax hwr HO0 hI3 hI4 hR3 hT3
    go_upto_region 9 with fail
    obtain ⟨e9, he9⟩ : ∃ d, d = j' - n4 := ⟨_, rfl⟩
    have hmax : (if (j' : Int) - (n4 : Int) < 0 then 0 else (j' : Int) - (n4 : Int)) = (e9 : Int) := by split <;> omega
    have hwr : IntKind.i64.wrap ((j' : Int) - (n4 : Int)) = (j' : Int) - (n4 : Int) := IntWalk.i64_in _ (by omega)
    have heh : Hid (e9 = j' - n4) := he9
    have heb : n4 + e9 ≤ 20000 := by omega
    clear he9
    go_wp2_with fail
    refine (clone_any _ _ _ P2 _ hI4' (by omega)).mono ?_
    rintro e w6 ⟨A6, n6, c6, rfl, hO6, hB6⟩
    obtain rfl : n6 = n4 := by have := hO6.len; omega
    have hz5 := hB35.size
    go_upto_region 10 with (first
      | (at_builtin; refine wpList_append_zeros w5.heap.size rfl (.tmp 45) (.tmp 50) rfl rfl rfl hO6 hB6.size (by omega) ?_; intro A7 c7 w7 hO7 hB7))
    have hB57 := hB6.trans hB7
    have hR7 := hR5.call hB57
    have hT7 := hT5.call hB57
    have hO5' := hO5.il.below hB57
    have hz7 := hR7.lt
    have hzt := hT5.lt
    have hap5 : 0 < d + n3 → ∀ a, A5 = some a → w.heap.size + 2 ≤ a.block := hO5.newer (by omega)
    have hap7 : 0 < n6 + e9 → ∀ a, A7 = some a → w.heap.size + 2 ≤ a.block := hO7.newer (by omega)
    have hL7 : Hid (List.replicate d 0 ++ P1 = wideL P1 i') := by rw [Hid, wideL, hn3, hdh.out]
    have hsP : Hid (i' = 0 → n3 = 0 → d = 0) := fun q r => by rw [hdh.out]; omega
    have hsQ : Hid (j' = 0 → e9 = 0) := fun q => by rw [heh.out]; omega
    have hsR : Hid (d = 0 → n3 = 0 → i' = 0) := fun q r => by have := hdh.out; omega
    have hsS : Hid (e9 = 0 → n6 = 0 → j' = 0) := fun q r => by have := heh.out; omega
    obtain ⟨NA, hNA⟩ : ∃ x, Hid (x = d + n3) := ⟨_, rfl⟩
    obtain ⟨NB, hNB⟩ : ∃ x, Hid (x = n6 + e9) := ⟨_, rfl⟩
    rw [hL7.out, ← hNA.out] at hO5'
    have hL9 : Hid (List.replicate e9 (0 : Int) = List.replicate (j' - n6) 0) := by rw [Hid, heh.out]
    rw [← hNA.out, ← hNB.out]
    rw [← hNA.out] at hap5
    rw [← hNB.out] at hap7
    rw [← hNB.out, hL9.out] at hO7
    have hNAb : NA ≤ 20000 := by rw [hNA.out]; omega
    have hNBb : NB ≤ 20000 := by rw [hNB.out]; omega
    clear hdb heb hn3 hR5 hT5 hI4' hO6 hB6 hB7 hB57 hO5 hB5 hB35 hz5 hmax hwr
    by_cases hz : NA = 0 ∧ NB = 0
    · have HD : Hid (D = (⟨tb, [0], false, []⟩, 0)) := by
        have e1 := hNA.out
        have e2 := hNB.out
        have e3 := hsR.out (by omega) (by omega)
        have e4 := hsS.out (by omega) (by omega)
        rw [Hid, HD0.out, fromD, if_pos ⟨by show P1.length = 0; rw [HP1.out]; omega, by show P2.length = 0; omega, e3, e4⟩]
      have hz1 : (((NA : Int) + (NB : Int)) == (0 : Int)) = true := by simp; omega
      have hz2 : decide (0 < NB) = false := by simp; omega
      have hzB := Lib.hid hz.2
      clear hz
      clear hsP hsQ hsR hsS hNA hNB hL7
      go_upto_region 12 with fail
      have hR8 := hR7.alloc (.cells #[.int .i64 0] 3)
      have hT8 := hT7.alloc (.cells #[.int .i64 0] 3)
      have hI8 := IL.one w7 3 0
      have hO8 := hO7.il.alloc (.cells #[.int .i64 0] 3)
      generalize World.alloc w7 _ = w8 at *
      obtain ⟨t0, t1, t2⟩ := hT8.cells3.1
      obtain ⟨⟨c0, c1', c2', c3⟩, ⟨f0, f1, f2, f3⟩⟩ := hR8.cells
      go_wp2_with fail
      rw [HD.out]
      obtain ⟨⟨z0, z1, z2, z3⟩, _⟩ := (hR8.store (.bool tb) (.slice (some ⟨w7.heap.size, 0, none⟩) 1 1) (.bool false) (.slice A7 NB c7)).cells
      refine bodyPost_ret (v := .tuple #[.agg #[.bool tb, .slice (some ⟨w7.heap.size, 0, none⟩) 1 1, .bool false, .slice A7 NB c7], .int .i64 0]) (by generalize World.setCell (World.setCell (World.setCell (World.setCell _ _ _) _ _) _ _) _ _ = W3 at z0 z1 z2 z3 ⊢; simp [results, Tryz.results29, go_sem, z0, z1, z2, z3]) rfl ?_
      have q := hO8.set4 (g := w.heap.size + 1) (fun hz a ha => by have := hap7 hz a ha; omega) (.bool tb) (.slice (some ⟨w7.heap.size, 0, none⟩) 1 1) (.bool false) (.slice A7 NB c7)
      have e : P2 ++ List.replicate (j' - n6) 0 = [] := List.eq_nil_of_length_eq_zero (by have := hO8.len; have := hzB.out; omega)
      rw [e] at q
      exact ⟨_, 1, 1, A7, NB, c7, rfl, hI8.set4 (fun _ a ha => by obtain rfl := Option.some.inj ha; show w7.heap.size ≠ _; omega) _ _ _ _, q, below_set4 hR8.2.2 (Nat.le_succ _) _ _ _ _, fun _ a ha => by obtain rfl := Option.some.inj ha; show _ ≤ w7.heap.size; omega, fun hz a ha => by have := hap7 hz a ha; omega⟩
    · have hsum : (((NA : Int) + (NB : Int)) == (0 : Int)) = false := by simp; omega
      have HD1 : Hid (D = (⟨tb, wideL P1 i', decide (0 < NB), P2 ++ List.replicate (j' - n6) 0⟩, 0)) := by
        have e1 := hNA.out
        have e2 := hNB.out
        have e5 := HP1.out
        rw [Hid, HD0.out, fromD, if_neg (fun q => hz (by obtain ⟨r1, r2, r3, r4⟩ : P1.length = 0 ∧ P2.length = 0 ∧ i' = 0 ∧ j' = 0 := q; have q1 := hsP.out r3 (by omega); have q2 := hsQ.out r4; omega))]
        have e6 : decide (0 < P2.length ∨ 0 < j') = decide (0 < NB) := by
          rw [Bool.eq_iff_iff]
          simp only [decide_eq_true_eq]
          constructor
          · intro q
            by_cases r : NB = 0
            · have := hsS.out (by omega) (by omega); omega
            · omega
          · intro q
            by_cases r : j' = 0
            · have := hsQ.out r; omega
            · omega
        show ((⟨tb, wideL P1 i', decide (0 < P2.length ∨ 0 < j'), P2 ++ List.replicate (j' - P2.length) 0⟩ : Dr), (0 : Int)) = _
        rw [e6, hn4]
      clear hz hsP hsQ hsR hsS hNA hNB hL7 HD0
      obtain ⟨t0, t1, t2⟩ := hT7.cells3.1
      obtain ⟨⟨c0, c1', c2', c3⟩, ⟨f0, f1, f2, f3⟩⟩ := hR7.cells
      have HD := HD1
      go_wp2_with fail
      rw [HD.out]
      obtain ⟨⟨z0, z1, z2, z3⟩, _⟩ := (hR7.store (.bool tb) (.slice A5 NA c5) (.bool (decide (0 < NB))) (.slice A7 NB c7)).cells
      exact bodyPost_ret (v := .tuple #[.agg #[.bool tb, .slice A5 NA c5, .bool (decide (0 < NB)), .slice A7 NB c7], .int .i64 0]) (by generalize World.setCell (World.setCell (World.setCell (World.setCell _ _ _) _ _) _ _) _ _ = W3 at z0 z1 z2 z3 ⊢; simp [results, Tryz.results29, go_sem, z0, z1, z2, z3]) rfl
        ⟨A5, NA, c5, A7, NB, c7, rfl, hO5'.set4 (fun hz a ha => by have := hap5 hz a ha; omega) _ _ _ _, hO7.il.set4 (fun hz a ha => by have := hap7 hz a ha; omega) _ _ _ _, below_set4 hR7.2.2 (Nat.le_succ _) _ _ _ _, fun hz a ha => by have := hap5 hz a ha; omega, fun hz a ha => by have := hap7 hz a ha; omega⟩

end Go.Proofs.YtickhmlhciafgaaGreat


namespace Go.Proofs.YtickhmlhciafgaaGreat
open Go.RowKit

theorem canon_of_trim {x : Dc} (h : mayL x.l = true) (h0 : 0 ≤ x.s) : canon (trimDc x).s.toNat (trimDc x).z = trimDc x := by
  rw [trimDc_canon h h0]; exact canon_self _ _
theorem from_dec {T : Dc} (hs : 0 ≤ T.s) (hT : canon T.s.toNat T.z = T) (hm : mayL T.l = true) (i j : Nat) :
    mayD (fromD T.neg (partsS T.l T.s.toNat) i j).neg (fromD T.neg (partsS T.l T.s.toNat) i j).int (fromD T.neg (partsS T.l T.s.toNat) i j).sep (fromD T.neg (partsS T.l T.s.toNat) i j).frac = true ∧
      decD (fromD T.neg (partsS T.l T.s.toNat) i j) = T ∧ i ≤ (fromD T.neg (partsS T.l T.s.toNat) i j).int.length ∧ j ≤ (fromD T.neg (partsS T.l T.s.toNat) i j).frac.length ∧
      0 < (atomsD (fromD T.neg (partsS T.l T.s.toNat) i j).int (fromD T.neg (partsS T.l T.s.toNat) i j).sep (fromD T.neg (partsS T.l T.s.toNat) i j).frac).length := by
  obtain ⟨q, hq⟩ := Int.eq_ofNat_of_zero_le hs
  rw [hq] at hT ⊢
  simp only [Int.toNat_natCast] at hT ⊢
  have hl2 := parts_len T.l q
  have hv := parts_val T.l q
  have hmp := parts_may hm q
  generalize partsS T.l q = P at *
  obtain ⟨P1, P2⟩ := P
  simp only at hl2 hv hmp
  have hz : T.z = if T.neg then -val (P1 ++ P2) else val (P1 ++ P2) := by rw [hv]; rfl
  have hm1 : ∀ x, x ∈ P1 → 0 ≤ x ∧ x ≤ 9 := fun x hx => mayL_iff.1 hmp x (List.mem_append.2 (.inl hx))
  have hm2 : ∀ x, x ∈ P2 → 0 ≤ x ∧ x ≤ 9 := fun x hx => mayL_iff.1 hmp x (List.mem_append.2 (.inr hx))
  unfold fromD
  split
  · rename_i h
    obtain ⟨g1, g2, g3, g4⟩ := h
    simp only at g1 g2
    have e1 : P1 = [] := List.eq_nil_of_length_eq_zero g1
    have e2 : P2 = [] := List.eq_nil_of_length_eq_zero g2
    subst e1 e2 g3 g4
    have hq0 : q = 0 := by rw [← hl2]; rfl
    subst hq0
    have hz0 : T.z = 0 := by rw [hz]; simp [val]
    rw [hz0, canon_zero] at hT
    refine ⟨by simp [mayD, mayL, isDig], ?_, Nat.zero_le _, Nat.zero_le _, by simp [atomsD]⟩
    unfold decD
    rw [trimDc_canon (by simp [mayL, isDig]) (by simp)]
    have : (⟨T.neg, [0] ++ [], ((([] : List Int).length : Nat) : Int)⟩ : Dc).z = 0 := by simp [Dc.z, val]
    rw [this, canon_zero]
    exact hT
  · rename_i h
    have hmw : mayL (wideL P1 i) = true := mayL_iff.2 fun x hx => by
      rcases List.mem_append.1 hx with hx | hx
      · have := List.eq_of_mem_replicate hx; omega
      · exact hm1 x hx
    have hmf : mayL (P2 ++ List.replicate (j - P2.length) 0) = true := mayL_iff.2 fun x hx => by
      rcases List.mem_append.1 hx with hx | hx
      · exact hm2 x hx
      · have := List.eq_of_mem_replicate hx; omega
    have hwl := wideL_len P1 i
    refine ⟨?_, ?_, by show i ≤ (wideL P1 i).length; rw [hwl]; exact Nat.le_max_right _ _, by show j ≤ (P2 ++ List.replicate (j - P2.length) (0 : Int)).length; simp; omega, ?_⟩
    · show mayD T.neg (wideL P1 i) (decide (0 < P2.length ∨ 0 < j)) (P2 ++ List.replicate (j - P2.length) 0) = true
      unfold mayD
      rw [hmw, hmf]
      simp only [Bool.true_and, Bool.or_eq_true, decide_eq_true_eq, beq_iff_eq]
      by_cases hc : 0 < P2.length ∨ 0 < j
      · exact .inl hc
      · right; rw [List.length_append, List.length_replicate]; omega
    · unfold decD
      show trimDc ⟨T.neg, wideL P1 i ++ (P2 ++ List.replicate (j - P2.length) 0), ((P2 ++ List.replicate (j - P2.length) (0 : Int)).length : Int)⟩ = T
      rw [trimDc_canon (by rw [mayL_iff]; intro x hx; exact (List.mem_append.1 hx).elim (mayL_iff.1 hmw x) (mayL_iff.1 hmf x)) (by simp only; omega)]
      have e1 : (⟨T.neg, wideL P1 i ++ (P2 ++ List.replicate (j - P2.length) 0), ((P2 ++ List.replicate (j - P2.length) (0 : Int)).length : Int)⟩ : Dc).z = T.z * 10 ^ (j - P2.length) := by
        have e2 : val (wideL P1 i ++ (P2 ++ List.replicate (j - P2.length) 0)) = val (P1 ++ P2) * 10 ^ (j - P2.length) := by
          unfold wideL
          rw [List.append_assoc, val_zeros_append, ← List.append_assoc, val_append_zeros]
        rw [hz]
        unfold Dc.z
        simp only
        rw [e2]
        split <;> simp [Int.neg_mul]
      rw [e1]
      have e3 : (((P2 ++ List.replicate (j - P2.length) (0 : Int)).length : Nat) : Int).toNat = q + (j - P2.length) := by simp; omega
      simp only [e3]
      rw [canon_shift, hT]
    · show 0 < (atomsD (wideL P1 i) (decide (0 < P2.length ∨ 0 < j)) (P2 ++ List.replicate (j - P2.length) 0)).length
      unfold atomsD
      have hh : P1.length = 0 → P2.length = 0 → i = 0 → j = 0 → False := fun r1 r2 r3 r4 => h ⟨r1, r2, r3, r4⟩
      clear h
      by_cases hc : 0 < P2.length ∨ 0 < j
      · rw [decide_eq_true hc]; simp; omega
      · rw [List.length_append]
        have hq : 0 < (wideL P1 i).length := by
          rw [hwl]
          rcases Nat.eq_zero_or_pos (max P1.length i) with g | g
          · exact (hh (by omega) (by omega) (by omega) (by omega)).elim
          · exact g
        omega
/-- What is made of a number that may be. -/
theorem from_ok {x : Dc} (hx : mayDc x = true) {i j : Int} (hi : 0 ≤ i ∧ i ≤ 64) (hj : 0 ≤ j ∧ j ≤ 64) :
    (fromS x i j).2 = 0 ∧ mayD (fromS x i j).1.neg (fromS x i j).1.int (fromS x i j).1.sep (fromS x i j).1.frac = true ∧ decD (fromS x i j).1 = trimDc x ∧
      i ≤ (fromS x i j).1.int.length ∧ j ≤ (fromS x i j).1.frac.length ∧ 0 < (atomsD (fromS x i j).1.int (fromS x i j).1.sep (fromS x i j).1.frac).length := by
  obtain ⟨h1, h2, h3⟩ := mayDc_iff.1 hx
  obtain ⟨i', rfl⟩ := Int.eq_ofNat_of_zero_le hi.1
  obtain ⟨j', rfl⟩ := Int.eq_ofNat_of_zero_le hj.1
  have hT := canon_of_trim h1 h2
  have hmd : mayDc (trimDc x) = true := by rw [trimDc_canon h1 h2]; exact mayDc_canon _ (by omega) _
  obtain ⟨m1, m2, _⟩ := mayDc_iff.1 hmd
  have e : fromS x (i' : Int) (j' : Int) = (fromD (trimDc x).neg (partsS (trimDc x).l (trimDc x).s.toNat) i' j', 0) := by
    unfold fromS
    rw [if_pos hx, if_pos ⟨hi.1, hi.2, hj.1, hj.2⟩]
    rfl
  rw [e]
  obtain ⟨r1, r2, r3, r4, r5⟩ := from_dec m2 hT m1 i' j'
  exact ⟨rfl, r1, r2, Int.ofNat_le.2 r3, Int.ofNat_le.2 r4, r5⟩
/-- How long its lists are. -/
theorem from_len {x : Dc} (hx : mayDc x = true) {i j : Int} (hi : 0 ≤ i ∧ i ≤ 64) (hj : 0 ≤ j ∧ j ≤ 64) (hl : x.l.length ≤ 100) :
    (fromS x i j).1.int.length ≤ 2000 ∧ (fromS x i j).1.frac.length ≤ 2000 := by
  obtain ⟨h1, h2, h3⟩ := mayDc_iff.1 hx
  have e0 := trimDc_len x
  have e1 : (trimDc x).s.toNat ≤ x.s.toNat := by rw [trimDc_canon h1 h2]; exact canon_le _ _
  have e2 := parts_len (trimDc x).l (trimDc x).s.toNat
  have e3 := parts_len1 (trimDc x).l (trimDc x).s.toNat
  unfold fromS
  rw [if_pos hx, if_pos ⟨hi.1, hi.2, hj.1, hj.2⟩]
  show (fromD _ _ i.toNat j.toNat).int.length ≤ 2000 ∧ (fromD _ _ i.toNat j.toNat).frac.length ≤ 2000
  generalize partsS (trimDc x).l (trimDc x).s.toNat = P at *
  unfold fromD
  split
  · exact ⟨by simp, by simp⟩
  · have e4 := wideL_len P.1 i.toNat
    refine ⟨?_, ?_⟩
    · show (wideL P.1 i.toNat).length ≤ 2000
      omega
    · show (P.2 ++ List.replicate (j.toNat - P.2.length) (0 : Int)).length ≤ 2000
      rw [List.length_append, List.length_replicate]
      omega

end Go.Proofs.YtickhmlhciafgaaGreat


namespace Go.Proofs.YtickhmlhciafgaaGreat
open Go.RowKit
set_option linter.unusedVariables false

/-- A draft of a number, and a code. -/
def changeS (v : Dc × Int) (mi mf : Int) : Dr × Int := if v.2 = 0 then fromS v.1 mi mf else (Dr.none, v.2)
def changedS (v : Dc × Int) (r : Ru) (d : Dr) : Dr × Int := if mayD d.neg d.int d.sep d.frac then changeS v r.n.mi r.n.mf else (Dr.none, 1)
def commitS (r : Ru) (d : Dr) : Dr × Int := changedS (valueC r (decD d)) r d
def stepS (r : Ru) (d : Dr) (k : Int) : Dr × Int := changedS (moveC r (decD d) k) r d
def mayR (d : Dr) : Prop := mayD d.neg d.int d.sep d.frac = true
theorem mayR_lists {d : Dr} (h : mayR d) : mayL d.int = true ∧ mayL d.frac = true := by
  unfold mayR mayD at h
  simp only [Bool.and_eq_true] at h
  exact ⟨h.1.1, h.1.2⟩
theorem decD_raw {d : Dr} (h : mayR d) (hf : d.frac.length ≤ 1000) : mayDc ⟨d.neg, d.int ++ d.frac, (d.frac.length : Int)⟩ = true := by
  obtain ⟨h1, h2⟩ := mayR_lists h
  exact mayDc_iff.2 ⟨by rw [mayL_append, h1, h2]; rfl, Int.natCast_nonneg _, by show ((d.frac.length : Nat) : Int) ≤ 1000; omega⟩
theorem decD_may {d : Dr} (h : mayR d) (hf : d.frac.length ≤ 1000) : mayDc (decD d) = true := mayDc_trim (decD_raw h hf)
theorem decD_trim {d : Dr} (h : mayR d) (hf : d.frac.length ≤ 1000) : trimDc (decD d) = decD d := by
  have := mayDc_iff.1 (decD_raw h hf)
  exact trimDc_idem this.1 this.2.1
theorem decD_len (d : Dr) : (decD d).l.length ≤ d.int.length + d.frac.length := by
  have := trimDc_len ⟨d.neg, d.int ++ d.frac, (d.frac.length : Int)⟩
  unfold decD
  simpa using this
theorem Ru.Ok.mini {r : Ru} (h : r.Ok) : (0 ≤ r.n.mi ∧ r.n.mi ≤ 64) ∧ (0 ≤ r.n.mf ∧ r.n.mf ≤ 64) := by
  have := h.ic; have := h.fc; have := h.sc; have := h.mi; have := h.mf
  omega
theorem commit_eq {r : Ru} (hr : r.Ok) {d : Dr} (h : mayR d) (hf : d.frac.length ≤ 1000) : commitS r d = fromS (valueC r (decD d)).1 r.n.mi r.n.mf := by
  have h' : mayD d.neg d.int d.sep d.frac = true := h
  unfold commitS changedS changeS
  rw [if_pos h', if_pos (value_code hr (decD_may h hf))]
theorem commit_ok {r : Ru} (hr : r.Ok) {d : Dr} (h : mayR d) (hf : d.frac.length ≤ 1000) :
    (commitS r d).2 = 0 ∧ mayR (commitS r d).1 ∧ decD (commitS r d).1 = (valueC r (decD d)).1 ∧ r.n.mi ≤ (commitS r d).1.int.length ∧ r.n.mf ≤ (commitS r d).1.frac.length ∧
      0 < (atomsD (commitS r d).1.int (commitS r d).1.sep (commitS r d).1.frac).length := by
  obtain ⟨v1, v2, _⟩ := value_in hr (decD_may h hf)
  obtain ⟨m1, m2⟩ := hr.mini
  have := from_ok v1 m1 m2
  rw [v2] at this
  rw [commit_eq hr h hf]
  exact this

theorem parts_short {l : List Int} (h : mayL l = true) (s q : Nat) : (partsS l s).1.length ≤ q ↔ val l < 10 ^ (q + s) := by
  have e1 := parts_val l s
  have e2 := parts_len l s
  have e3 := parts_may h s
  rw [mayL_append, Bool.and_eq_true] at e3
  have b1 := val_bd e3.1
  have b2 := val_bd e3.2
  rw [val_append, e2] at e1
  rw [e2] at b2
  have hp := ten_pos s
  have hq := ten_pos q
  have e4 := ofN_val e3.1 (parts_headed l s)
  generalize partsS l s = P at *
  constructor
  · intro hle
    have h1 : val P.1 < 10 ^ q := by
      have := pow_le hle
      omega
    have h2 : (val P.1 + 1) * 10 ^ s ≤ 10 ^ q * 10 ^ s := Int.mul_le_mul_of_nonneg_right (by omega) (by omega)
    rw [Int.add_mul] at h2
    rw [Int.pow_add]
    omega
  · intro hlt
    rw [Int.pow_add] at hlt
    have h1 : val P.1 < 10 ^ q := by
      rcases Int.lt_or_le (val P.1) (10 ^ q) with h | h
      · exact h
      · have := Int.mul_le_mul_of_nonneg_right h (show (0 : Int) ≤ 10 ^ s by omega)
        omega
    rw [e4]
    refine ofN_len ?_
    have : ((val P.1).toNat : Int) < ((10 ^ q : Nat) : Int) := by
      rw [Int.toNat_of_nonneg b1.1]
      simpa using h1
    exact Int.ofNat_lt.1 this
theorem abs_z {d : Dc} (h : mayL d.l = true) : (d.z.natAbs : Int) = val d.l := by
  have := (val_bd h).1
  unfold Dc.z
  split <;> omega
/-- Which trim numbers fit. -/
theorem fits_iff {n : Cn} {x : Dc} (hm : mayDc x = true) (ht : trimDc x = x) (q : Nat) (hq : n.ic = q) : fitsC n x = true ↔ (x.z.natAbs : Int) < 10 ^ (q + x.s.toNat) ∧ x.s ≤ n.sc := by
  obtain ⟨h1, h2, _⟩ := mayDc_iff.1 hm
  unfold fitsC
  rw [ht, Bool.and_eq_true, decide_eq_true_eq, decide_eq_true_eq, parts_len, abs_z h1, hq, ← parts_short h1, Int.toNat_of_nonneg h2]
  omega
theorem pow_cut {a b : Int} {q s K : Nat} (hs : s ≤ K) (h : a * 10 ^ (K - s) ≤ b) (hb : b < 10 ^ (q + K)) : a < 10 ^ (q + s) := by
  have e : (10 : Int) ^ (q + K) = 10 ^ (q + s) * 10 ^ (K - s) := by rw [← Int.pow_add]; congr 1; omega
  rw [e] at hb
  have hp := ten_pos (K - s)
  rcases Int.lt_or_le a (10 ^ (q + s)) with h' | h'
  · exact h'
  · have := Int.mul_le_mul_of_nonneg_right h' (show (0 : Int) ≤ 10 ^ (K - s) by omega)
    omega
theorem pow_wide {a : Int} {q s K : Nat} (hs : s ≤ K) (h : a < 10 ^ (q + s)) : a * 10 ^ (K - s) < 10 ^ (q + K) := by
  have e : (10 : Int) ^ (q + K) = 10 ^ (q + s) * 10 ^ (K - s) := by rw [← Int.pow_add]; congr 1; omega
  rw [e]
  exact Int.mul_lt_mul_of_pos_right h (ten_pos _)
theorem at_abs (d : Dc) (K : Nat) : ((d.at_ K).natAbs : Int) = (d.z.natAbs : Int) * 10 ^ (K - d.s.toNat) := by
  rw [at_z, Int.natAbs_mul, Int.natCast_mul]
  congr 1
/-- What lies between numbers that fit fits, if its scale does. -/
theorem fits_mid {r : Ru} (hr : r.Ok) {x : Dc} (hm : mayDc x = true) (ht : trimDc x = x) (h1 : ¬ cmpDc x r.lo < 0) (h2 : ¬ 0 < cmpDc x r.hi) (hs : x.s ≤ r.n.sc) : fitsC r.n x = true := by
  obtain ⟨q, hq⟩ : ∃ q : Nat, r.n.ic = q := ⟨r.n.ic.toNat, by have := hr.ic; omega⟩
  obtain ⟨K, hK⟩ : ∃ K : Nat, r.n.sc = K := ⟨r.n.sc.toNat, by have := hr.sc; omega⟩
  obtain ⟨l1, l2⟩ := (fits_iff hr.lo.1 hr.lo.2.1 q hq).1 hr.lo.2.2
  obtain ⟨g1, g2⟩ := (fits_iff hr.hi.1 hr.hi.2.1 q hq).1 hr.hi.2.2
  refine (fits_iff hm ht q hq).2 ⟨?_, hs⟩
  have k1 : r.lo.s.toNat ≤ K := by omega
  have k2 : r.hi.s.toNat ≤ K := by omega
  have k3 : x.s.toNat ≤ K := by omega
  rw [cmpDc_at x r.lo K k3 k1] at h1
  rw [cmpDc_at x r.hi K k3 k2] at h2
  have a1 : r.lo.at_ K ≤ x.at_ K := by
    unfold cmpI at h1
    split at h1 <;> omega
  have a2 : x.at_ K ≤ r.hi.at_ K := by
    unfold cmpI at h2
    split at h2
    · omega
    · split at h2 <;> omega
  have w1 := pow_wide k1 l1
  have w2 := pow_wide k2 g1
  rw [← at_abs] at w1 w2
  refine pow_cut k3 (b := ((x.at_ K).natAbs : Int)) (by rw [at_abs]; exact Int.le_refl _) ?_
  omega
/-- What is committed is within the limits. -/
theorem commit_fits {r : Ru} (hr : r.Ok) {d : Dr} (h : mayR d) (hf : d.frac.length ≤ 1000) : ((commitS r d).1.int.length : Int) ≤ r.n.ic ∧ ((commitS r d).1.frac.length : Int) ≤ r.n.sc := by
  obtain ⟨v1, v2, v3, v4, v5⟩ := value_in hr (decD_may h hf)
  have hfit := fits_mid hr v1 v2 v3 v4 v5
  rw [commit_eq hr h hf]
  generalize (valueC r (decD d)).1 = V at *
  obtain ⟨m1, m2⟩ := hr.mini
  have n1 := hr.mi
  have n2 := hr.mf
  have n3 := hr.ic
  unfold fitsC at hfit
  rw [v2, Bool.and_eq_true, decide_eq_true_eq, decide_eq_true_eq] at hfit
  unfold fromS
  rw [if_pos v1, if_pos ⟨m1.1, m1.2, m2.1, m2.2⟩, v2]
  show ((fromD _ _ r.n.mi.toNat r.n.mf.toNat).int.length : Int) ≤ _ ∧ ((fromD _ _ r.n.mi.toNat r.n.mf.toNat).frac.length : Int) ≤ _
  generalize partsS V.l V.s.toNat = P at *
  unfold fromD
  split
  · exact ⟨by show ((1 : Nat) : Int) ≤ _; omega, by show ((0 : Nat) : Int) ≤ _; omega⟩
  · have e4 := wideL_len P.1 r.n.mi.toNat
    refine ⟨?_, ?_⟩
    · show ((wideL P.1 r.n.mi.toNat).length : Int) ≤ _
      omega
    · show ((P.2 ++ List.replicate (r.n.mf.toNat - P.2.length) (0 : Int)).length : Int) ≤ _
      rw [List.length_append, List.length_replicate]
      omega
/-- What is committed is done, and stays so. -/
theorem commit_again {r : Ru} (hr : r.Ok) {d : Dr} (h : mayR d) (hf : d.frac.length ≤ 1000) : commitS r (commitS r d).1 = commitS r d := by
  obtain ⟨c1, c2, c3, _⟩ := commit_ok hr h hf
  obtain ⟨v1, v2, v3, v4, v5⟩ := value_in hr (decD_may h hf)
  have hl := (commit_fits hr h hf).2
  have := hr.sc
  have := hr.fc
  rw [commit_eq hr c2 (by omega), c3, value_self hr v1 v2 v5 v3 v4, commit_eq hr h hf]

end Go.Proofs.YtickhmlhciafgaaGreat

