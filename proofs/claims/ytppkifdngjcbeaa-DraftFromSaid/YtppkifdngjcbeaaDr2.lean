/- The walks of drafts: atoms, how many there are, cut and made ones. No condition. -/
import Derived.Test.YtppkifdngjcbeaaDr1
import Derived.Deep.DeepCutAuto
namespace Go.Proofs.Ytppkifdngjcbeaa
open Go.RowKit

theorem box4 {w W : World} {t : TypeId} {a b c d : Value} (h : Below (w.alloc (.cells #[a, b, c, d] t)).heap.size (w.alloc (.cells #[a, b, c, d] t)) W) :
    W.cell? ⟨w.heap.size, 0, none⟩ = some a ∧ W.cell? ⟨w.heap.size, 1, none⟩ = some b ∧ W.cell? ⟨w.heap.size, 2, none⟩ = some c ∧ W.cell? ⟨w.heap.size, 3, none⟩ = some d := by
  refine ⟨?_, ?_, ?_, ?_⟩ <;>
  · rw [h.cell (by simp), World.cell?_alloc_at _ _ _ _ rfl]; rfl

/-- What a new block holds, beside which a call has gone by. -/
theorem fresh4 {w W : World} {t : TypeId} {a b c d : Value} (h : Below (w.heap.size + 1) (w.alloc (.cells #[a, b, c, d] t)).drew W) :
    (W.cell? ⟨w.heap.size, 0, none⟩ = some a ∧ W.cell? ⟨w.heap.size, 1, none⟩ = some b ∧ W.cell? ⟨w.heap.size, 2, none⟩ = some c ∧ W.cell? ⟨w.heap.size, 3, none⟩ = some d) ∧
    (W.frozen? ⟨w.heap.size, 0, none⟩ = false ∧ W.frozen? ⟨w.heap.size, 1, none⟩ = false ∧ W.frozen? ⟨w.heap.size, 2, none⟩ = false ∧ W.frozen? ⟨w.heap.size, 3, none⟩ = false) := by
  have h' : Below (w.alloc (.cells #[a, b, c, d] t)).heap.size (w.alloc (.cells #[a, b, c, d] t)) W := by
    refine ⟨h.os, h.tape, h.output, h.size, fun k hk => h.block k (by simpa using hk)⟩
  refine ⟨box4 h', ?_, ?_, ?_, ?_⟩ <;>
  · rw [h'.frozen (by simp)]
    exact World.frozen?_alloc_at _ _ _ _ rfl

set_option maxHeartbeats 1000000 in
theorem atoms_any {A : Option Addr} {n c : Nat} {l : List Int} {E : Option Addr} {m k : Nat} {f : List Int} (b p : Bool) (w : World) (h : IL w A n c l) (g : IL w E m k f) (hn : n ≤ 1000000) (hm : m ≤ 1000000) :
    Calls Try.prog 72 #[.agg #[.bool b, .slice A n c, .bool p, .slice E m k]] w (RO w (atomsD l p f)) := by
  have bx : Below w.heap.size w (w.alloc (.cells #[.bool b, .slice A n c, .bool p, .slice E m k] 38)) := (Below.refl _ _).alloc (Nat.le_refl _) _
  cases p
  · go_enter Try.func72, Try.ntmps72
    go_wp2_with fail
    refine (clone_any _ _ _ l _ (h.alloc _) (by omega)).mono ?_
    rintro e w1 ⟨A1, n1, c1, rfl, hO, hB⟩
    obtain ⟨q0, q1, q2, q3⟩ := box4 hB
    have hn1 : n1 ≤ 1000000 := by rw [← hO.len, h.len]; exact hn
    go_wp2_with (first
      | (at_builtin; refine wpList_append_OL (w.heap.size + 1) rfl (.tmp 12) (.tmp 14) rfl rfl rfl (by simpa using hO) ((g.alloc _).below hB) (by have := hB.size; simpa using this) (by omega) ?_; intro A3 c3 w3 hO3 hB3 _))
    go_ret
    exact ⟨_, _, _, rfl, by simpa [atomsD] using hO3.mono (by omega), (below_from bx hB).trans (hB3.mono (by omega))⟩
  · go_enter Try.func72, Try.ntmps72
    go_wp2_with fail
    refine (clone_any _ _ _ l _ (h.alloc _) (by omega)).mono ?_
    rintro e w1 ⟨A1, n1, c1, rfl, hO, hB⟩
    obtain ⟨q0, q1, q2, q3⟩ := box4 hB
    have hn1 : n1 ≤ 1000000 := by rw [← hO.len, h.len]; exact hn
    have hs1 : w.heap.size + 1 ≤ w1.heap.size := by have := hB.size; simpa using this
    have hO' : OL w1 (w.heap.size + 1) A1 n1 c1 l := by simpa using hO
    have hb1 : Below (w.heap.size + 1) (w.alloc (.cells #[.bool b, .slice A n c, .bool true, .slice E m k] 38)) w1 := by simpa using hB
    go_wp2_with (first
      | (at_builtin; refine wpList_append_OL (w.heap.size + 1) rfl (.tmp 9) (.tmp 10) rfl rfl rfl (OL.alloc hO' _) (IL.one _ _ _) (by simp; omega) (by omega) ?_; intro A3 c3 w3 hO3 hB3 _; have hb3 := (hb1.alloc hs1 (.cells #[.int .i64 10] 3)).trans hB3; obtain ⟨r0, r1, r2, r3⟩ := box4 (W := w3) (by simpa using hb3))
      | (at_builtin; refine wpList_append_OL (w.heap.size + 1) rfl (.tmp 12) (.tmp 14) rfl rfl rfl hO3 (IL.below (g.alloc _) (by simpa using hb3)) (by have := hb3.size; simpa using this) (by omega) ?_; intro A4 c4 w4 hO4 hB4 _))
    go_ret
    exact ⟨_, _, _, rfl, by simpa [atomsD] using hO4.mono (by omega), bx.trans ((hb3.trans hB4).mono (by omega))⟩

set_option maxHeartbeats 1000000 in
theorem ratoms_any {A : Option Addr} {n c : Nat} {l : List Int} {E : Option Addr} {m k : Nat} {f : List Int} (b p : Bool) (w : World) (h : IL w A n c l) (g : IL w E m k f) (hn : n ≤ 1000000) (hm : m ≤ 1000000) :
    Calls Try.prog 41 #[.agg #[.bool b, .slice A n c, .bool p, .slice E m k]] w (RO w (atomsD l p f)) := by
  have bx : Below w.heap.size w (w.alloc (.cells #[.bool b, .slice A n c, .bool p, .slice E m k] 42)) := (Below.refl _ _).alloc (Nat.le_refl _) _
  cases p
  · go_enter Try.func41, Try.ntmps41
    go_wp2_with (first
      | (at_builtin; refine wpList_append_OL (w.heap.size + 1) rfl (.tmp 4) (.tmp 6) rfl rfl rfl (OL.nil _ _) (h.alloc _) (by simp) (by omega) ?_; intro A1 c1 w1 hO hB _; simp only [Nat.zero_add, List.nil_append] at hO; obtain ⟨q0, q1, q2, q3⟩ := box4 (W := w1) (by simpa using hB))
      | (at_builtin; refine wpList_append_OL (w.heap.size + 1) rfl (.tmp 13) (.tmp 15) rfl rfl rfl hO (IL.below (g.alloc _) (by simpa using hB)) (by have := hB.size; simpa using this) (by omega) ?_; intro A3 c3 w3 hO3 hB3 _))
    go_ret
    exact ⟨_, _, _, rfl, by simpa [atomsD] using hO3.mono (by omega), bx.trans ((hB.trans hB3).mono (by omega))⟩
  · go_enter Try.func41, Try.ntmps41
    go_wp2_with (first
      | (at_builtin; refine wpList_append_OL (w.heap.size + 1) rfl (.tmp 4) (.tmp 6) rfl rfl rfl (OL.nil _ _) (h.alloc _) (by simp) (by omega) ?_; intro A1 c1 w1 hO hB _; simp only [Nat.zero_add, List.nil_append] at hO; obtain ⟨q0, q1, q2, q3⟩ := box4 (W := w1) (by simpa using hB); have hs1 : w.heap.size + 1 ≤ w1.heap.size := (by have := hB.size; simpa using this))
      | (at_builtin; refine wpList_append_OL (w.heap.size + 1) rfl (.tmp 10) (.tmp 11) rfl rfl rfl (OL.alloc hO _) (IL.one _ _ _) (by simp; omega) (by omega) ?_; intro A3 c3 w3 hO3 hB3 _; have hb3 := (hB.alloc hs1 (.cells #[.int .i64 10] 3)).trans hB3; obtain ⟨r0, r1, r2, r3⟩ := box4 (W := w3) (by simpa using hb3))
      | (at_builtin; refine wpList_append_OL (w.heap.size + 1) rfl (.tmp 13) (.tmp 15) rfl rfl rfl hO3 (IL.below (g.alloc _) (by simpa using hb3)) (by have := hb3.size; simpa using this) (by omega) ?_; intro A4 c4 w4 hO4 hB4 _))
    go_ret
    exact ⟨_, _, _, rfl, by simpa [atomsD] using hO4.mono (by omega), bx.trans ((hb3.trans hB4).mono (by omega))⟩

theorem len_any {A : Option Addr} {n c : Nat} {l : List Int} {E : Option Addr} {m k : Nat} {f : List Int} (b p : Bool) (w : World) (h : IL w A n c l) (g : IL w E m k f) (hn : n ≤ 1000000) (hm : m ≤ 1000000) :
    Calls Try.prog 27 #[.agg #[.bool b, .slice A n c, .bool p, .slice E m k]] w (RV w (.int .i64 (atomsD l p f).length)) := by
  have bx : Below w.heap.size w (w.alloc (.cells #[.bool b, .slice A n c, .bool p, .slice E m k] 38)) := (Below.refl _ _).alloc (Nat.le_refl _) _
  go_enter Try.func27, Try.ntmps27
  go_wp2_with fail
  refine (atoms_any b p _ (h.alloc _) (g.alloc _) hn hm).mono ?_
  rintro e w1 ⟨A1, n1, c1, rfl, hO, hB⟩
  have hl := Lib.hid hO.len
  go_wp2_with fail
  go_ret
  exact ⟨ret_int (by rw [hl.out]), below_from bx hB⟩

/-! ### Cut and made ones -/
def goodL11 (l : List Int) (most : Nat) : List Int := (l.take most).map fun x => around x 11
theorem goodL11_succ (l : List Int) (k : Nat) (hk : k < l.length) : goodL11 l (k + 1) = goodL11 l k ++ [around (l.getD k 0) 11] := by
  unfold goodL11
  have e : l.getD k 0 = l[k] := by simp [List.getD, List.getElem?_eq_getElem hk]
  rw [List.take_succ_eq_append_getElem hk, List.map_append, e]
  rfl
theorem goodL11_all (l : List Int) (k m : Nat) (h : l.length ≤ k) (h2 : l.length ≤ m) : goodL11 l k = goodL11 l m := by
  unfold goodL11
  rw [List.take_of_length_le h, List.take_of_length_le h2]
theorem goodL11_bd (l : List Int) (m : Nat) : ∀ x, x ∈ goodL11 l m → 0 ≤ x ∧ x ≤ 10 := by
  intro x hx
  obtain ⟨y, _, rfl⟩ := List.mem_map.1 hx
  have := around_bd y 11 (by omega)
  omega
theorem goodL11_len (l : List Int) (m : Nat) : (goodL11 l m).length = min m l.length := by simp [goodL11]

set_option maxHeartbeats 400000 in
theorem points_any (A : Option Addr) (n c most : Nat) (l : List Int) (w : World) (h : IL w A n c l) (hl : I64 l) (hm : most ≤ 100000) :
    Calls Try.prog 38 #[.slice A n c, .int .i64 (most : Int)] w (RO w (goodL11 l most)) := by
  have hle := h.le
  have hcap := h.cap
  have hlen := Lib.hid h.len
  go_enter Try.func38, Try.ntmps38
  go_wp2
  go_loopw [5, 6] (fun v i wr => ∃ (k : Nat) (A' : Option Addr) (c' : Nat), k ≤ n ∧ k ≤ most ∧ i = .int .i64 k ∧ v = .slice A' k c' ∧ OL wr w.heap.size A' k c' (goodL11 l k) ∧ Below w.heap.size w wr)
    (fun _ i _ => n - (intOf i).toNat)
  case atStart => exact ⟨0, none, 0, Nat.zero_le _, Nat.zero_le _, rfl, rfl, by simpa [goodL11] using OL.nil _ _, Below.refl _ _⟩
  case round =>
    obtain ⟨k, A', c', hk, hkm, rfl, rfl, hO, hB⟩ := hrel
    have hsz := hB.size
    by_cases hlt : k < n
    · by_cases hlm : k < most
      · obtain ⟨b, off, rfl, hc⟩ := (h.below hB).at_ hlt
        have hx := hl.getD k
        generalize hxe : l.getD k 0 = x at *
        have Hxe := Lib.hid hxe
        clear hxe
        go_wp2_with (first
          | (go_at_call 19; refine (around_any _ _ _ hx.1 hx.2 (by omega) (by omega)).mono ?_; rintro e w' ⟨rfl, rfl⟩)
          | (at_builtin; refine wpList_append_OL w.heap.size rfl _ _ rfl rfl rfl (hO.alloc _) (IL.one _ _ _) (by simp; omega) (by omega) ?_; intro A2 c2 w2 hO2 hB2 hg2))
        go_roundw
        case rel => exact ⟨k + 1, A2, c2, by omega, by omega, by go_num, rfl, by rw [goodL11_succ l k (by rw [hlen.out]; exact hlt), Hxe.out]; exact hO2, (hB.alloc hsz _).trans hB2⟩
        case measure => simp [intOf]; omega
      · have hkm' : k = most := by omega
        subst hkm'
        go_wp2
        go_ret
        exact ⟨_, _, _, rfl, hO, hB⟩
    · have hkn : k = n := by omega
      subst hkn
      go_wp2
      go_ret
      exact ⟨_, _, _, rfl, by rw [goodL11_all l most k (by rw [hlen.out]; omega) (by rw [hlen.out]; omega)]; exact hO, hB⟩

/-- Cut to so many numbers. -/
theorem dfew_any {A : Option Addr} {n c : Nat} {l : List Int} {E : Option Addr} {m k : Nat} {f : List Int} (b p : Bool) (q : Nat) (w : World) (h : IL w A n c l) (g : IL w E m k f) (_hq : q ≤ 1000000) :
    Calls Try.prog 76 #[.agg #[.bool b, .slice A n c, .bool p, .slice E m k], .int .i64 (q : Int)] w (RD w ⟨b, l.take q, p, f.take q⟩) := by
  obtain ⟨k0, hk0, hmin0, hmin0'⟩ := min_cut n q
  obtain ⟨k1, hk1, hmin1, hmin1'⟩ := min_cut m q
  replace hmin0 := hmin0 q rfl
  replace hmin0' := hmin0' q rfl
  replace hmin1 := hmin1 q rfl
  replace hmin1' := hmin1' q rfl
  have r0 := h.few q A rfl k0 hk0
  have r1 := g.few q E rfl k1 hk1
  have hc0 := h.cap
  have hc1 := g.cap
  have he0 := h.le
  have he1 := g.le
  have b0 : k0 ≤ n ∧ k0 ≤ q := by omega
  have b1 : k1 ≤ m ∧ k1 ≤ q := by omega
  clear hk0 hk1
  go_enter Try.func76, Try.ntmps76
  go_wp2
  exact bodyPost_ret (v := .agg #[.bool b, .slice A k0 c, .bool p, .slice E k1 k]) (by simp [results, Try.results76, go_sem]) rfl ⟨A, k0, c, E, k1, k, rfl, (r0.alloc _).alloc _, (r1.alloc _).alloc _, ((Below.refl _ _).alloc (Nat.le_refl _) _).alloc (by simp) _⟩

set_option maxHeartbeats 1000000 in
theorem dgood_any {A : Option Addr} {n c : Nat} {l : List Int} {E : Option Addr} {m k : Nat} {f : List Int} (b p : Bool) (q r : Nat) (w : World) (h : IL w A n c l) (g : IL w E m k f) (hl : I64 l) (hf : I64 f) (hq : q ≤ 100000) (hr : r ≤ 100000) :
    Calls Try.prog 75 #[.agg #[.bool b, .slice A n c, .bool p, .slice E m k], .int .i64 (q : Int), .int .i64 (r : Int)] w (RD w ⟨b, goodL l q, p, if p then goodL f r else []⟩) := by
  have gg := Lib.hid (fun W hW => goodo_any A n c q l W hW hl hq)
  have gf := Lib.hid (fun W hW => goodo_any E m k r f W hW hf hr)
  generalize hD : (⟨b, goodL l q, p, if p then goodL f r else []⟩ : Dr) = D
  have HD := Lib.hid hD
  clear hD
  go_enter Try.func75, Try.ntmps75
  go_upto_region 1 with fail
  obtain ⟨wb, hwb⟩ : ∃ wb, wb = (w.alloc (.cells #[.bool b, .slice A n c, .bool p, .slice E m k] 42)).alloc (.cells #[.bool false, .slice none 0 0, .bool false, .slice none 0 0] 42) := ⟨_, rfl⟩
  rw [← hwb]
  have hS : ∀ W, Later wb W → (W.cell? ⟨w.heap.size, 0, none⟩ = some (.bool b) ∧ W.cell? ⟨w.heap.size, 1, none⟩ = some (.slice A n c) ∧ W.cell? ⟨w.heap.size, 2, none⟩ = some (.bool p) ∧ W.cell? ⟨w.heap.size, 3, none⟩ = some (.slice E m k)) ∧ Later wb W := by
    intro W hW
    subst hwb
    refine ⟨⟨hW.cell ?_, hW.cell ?_, hW.cell ?_, hW.cell ?_⟩, hW⟩ <;>
    · rw [World.cell?_alloc_past _ _ _ (by simp), World.cell?_alloc_at _ _ _ _ rfl]; rfl
  have hIb : IL wb A n c l := by subst hwb; exact (h.alloc _).alloc _
  have hGb : IL wb E m k f := by subst hwb; exact (g.alloc _).alloc _
  have HS := Lib.hid hS
  have HW := Lib.hid hwb
  clear hS hwb
  go_cut [7] (fun s7 W => ∃ (g : Nat) (A1 : Option Addr) (n1 c1 : Nat), s7 = .pointer (some ⟨g, 0, none⟩) ∧ IL W A1 n1 c1 (goodL l q) ∧ (0 < n1 → ∀ a, A1 = some a → wb.heap.size ≤ a.block ∧ a.block ≠ g) ∧ Fresh4 wb g 42 (.bool b) (.slice A1 n1 c1) (.bool p) (.slice none 0 0) W)
  case first =>
    have hfr := fun W => fresh4 (w := wb) (W := W) (t := 42) (a := .bool false) (b := .slice none 0 0) (c := .bool false) (d := .slice none 0 0)
    go_region_held3 (fun W => (W.cell? ⟨w.heap.size, 0, none⟩ = some (.bool b) ∧ W.cell? ⟨w.heap.size, 1, none⟩ = some (.slice A n c) ∧ W.cell? ⟨w.heap.size, 2, none⟩ = some (.bool p) ∧ W.cell? ⟨w.heap.size, 3, none⟩ = some (.slice E m k)) ∧ Later wb W)
      ((refine HS.out _ ?_; repeat (first | exact And.right (by assumption) | exact Later.refl _ | refine Later.drew ?_ | refine Later.alloc ?_ _ | refine Later.setCell ?_ (by simp) _ | refine Later.call ?_ hB)))
      ((go_at_call 12; refine (gg.out _ (hIb.later (And.right (by assumption)))).mono ?_; rintro e w1 ⟨A1, n1, c1, rfl, hI, hB⟩; have hB2 := hB; simp at hB2))
    · clear hfr
      go_wp2_with fail
      go_meet
      exact ⟨_, A1, n1, c1, rfl, hI.il.alloc _, hI.away, Fresh4.made wb w1 _ _ _ _ _ (Later.call (Later.refl _).drew hB) _ rfl⟩
    · go_wp2_with fail
      go_meet
      have hn := hI.after_ (S := wb.heap.size) (by simp)
      have hp : ∀ i, 0 < n1 → ∀ a, A1 = some a → a.block ≠ (⟨wb.heap.size, i, none⟩ : Addr).block := fun i hz a ha => (hn hz a ha).2
      have hF := (((((Fresh4.made wb wb 42 (.bool false) (.slice none 0 0) (.bool false) (.slice none 0 0) (Later.refl wb) _ rfl).drew.call hB).set0 (.bool b)).set1 (.slice A1 n1 c1)).set2 (.bool p)).set3 (.slice none 0 0)
      exact ⟨_, A1, n1, c1, rfl, (((hI.il.set_ (hp 0) _).set_ (hp 1) _).set_ (hp 2) _).set_ (hp 3) _, hn, hF⟩
  case rest =>
    obtain ⟨g, A1, n1, c1, rfl, hI, hne, hF⟩ := hcut
    obtain ⟨⟨q0, q1, q2, q3⟩, hL⟩ := HS.out _ hF.2.2
    have hR : Fresh4 w (w.heap.size + 1) 42 (.bool false) (.slice none 0 0) (.bool false) (.slice none 0 0) wb := by
      rw [HW.out]; exact Fresh4.made w _ _ _ _ _ _ ((Later.refl w).alloc _) _ (by simp)
    have hR2 := hR.call hL
    obtain ⟨⟨c0, c1', c2, c3⟩, ⟨f0, f1, f2, f3⟩⟩ := hF.cells
    obtain ⟨⟨d0, d1, d2, d3⟩, ⟨e0, e1, e2, e3⟩⟩ := hR2.cells
    have hsz := hL.size
    have hws : wb.heap.size = w.heap.size + 2 := by rw [HW.out]; simp
    have hg : g ≠ w.heap.size + 1 := by have := hF.1; omega
    have hne1 : ∀ i, 0 < n1 → ∀ a, A1 = some a → a.block ≠ (⟨g, i, none⟩ : Addr).block := fun i hz a ha => (hne hz a ha).2
    have hne2 : ∀ i, 0 < n1 → ∀ a, A1 = some a → a.block ≠ (⟨w.heap.size + 1, i, none⟩ : Addr).block := fun i hz a ha => by have := (hne hz a ha).1; simp; omega
    have Hg := Lib.hid hg
    have hbc : Below w.heap.size w wc := below_from (w1 := wb) (by rw [HW.out]; exact ((Below.refl _ _).alloc (Nat.le_refl _) _).alloc (by simp) _) hL
    have hR3 : w.heap.size ≤ w.heap.size + 1 := Nat.le_succ _
    clear HS HW hne
    cases p
    · go_wp2_with fail
      rw [← HD.out]
      obtain ⟨⟨z0, z1, z2, z3⟩, _⟩ := ((((hR2.set0 (.bool b)).set1 (.slice A1 n1 c1)).set2 (.bool false)).set3 (.slice none 0 0)).cells
      exact bodyPost_ret (v := .agg #[.bool b, .slice A1 n1 c1, .bool false, .slice none 0 0]) (by generalize World.setCell (World.setCell (World.setCell (World.setCell _ _ _) _ _) _ _) _ _ = W3 at z0 z1 z2 z3 ⊢; simp [results, Try.results75, go_sem, z0, z1, z2, z3]) rfl
        ⟨A1, n1, c1, none, 0, 0, rfl, (((hI.set_ (hne2 0) _).set_ (hne2 1) _).set_ (hne2 2) _).set_ (hne2 3) _, IL.nil _, (((hbc.setCell hR3 _).setCell hR3 _).setCell hR3 _).setCell hR3 _⟩
    · go_wp2_with fail
      refine (gf.out _ (hGb.later hL)).mono ?_
      rintro e w2 ⟨A2, n2, c2, rfl, hI2, hB2⟩
      obtain ⟨⟨c0, c1', c2', c3⟩, ⟨f0, f1, f2, f3⟩⟩ := (hF.call hB2).cells
      obtain ⟨⟨d0, d1, d2, d3⟩, ⟨e0, e1, e2, e3⟩⟩ := (hR2.call hB2).cells
      have hgw := hF.lt
      have hws2 := hL.size
      have hm1 : ∀ i, 0 < n2 → ∀ a, A2 = some a → a.block ≠ (⟨g, i, none⟩ : Addr).block := fun i hz a ha => by have := (hI2.away hz a ha).1; simp; omega
      have hm2 : ∀ i, 0 < n2 → ∀ a, A2 = some a → a.block ≠ (⟨w.heap.size + 1, i, none⟩ : Addr).block := fun i hz a ha => by have := (hI2.away hz a ha).1; simp; omega
      have hwg : w.heap.size ≤ g := by have := hF.1; omega
      go_wp2_with fail
      rw [← HD.out]
      obtain ⟨⟨z0, z1, z2, z3⟩, _⟩ := (((((hR2.call hB2).far (p := ⟨g, 3, none⟩) (by simpa using hg.symm) hwg (.slice A2 n2 c2)).set0 (.bool b)).set1 (.slice A1 n1 c1)).set2 (.bool true)).set3 (.slice A2 n2 c2) |>.cells
      exact bodyPost_ret (v := .agg #[.bool b, .slice A1 n1 c1, .bool true, .slice A2 n2 c2]) (by generalize World.setCell (World.setCell (World.setCell (World.setCell _ _ _) _ _) _ _) _ _ = W3 at z0 z1 z2 z3 ⊢; simp [results, Try.results75, go_sem, z0, z1, z2, z3]) rfl
        ⟨A1, n1, c1, A2, n2, c2, rfl, (((((hI.below hB2).set_ (hne1 3) _).set_ (hne2 0) _).set_ (hne2 1) _).set_ (hne2 2) _).set_ (hne2 3) _, ((((hI2.il.set_ (hm1 3) _).set_ (hm2 0) _).set_ (hm2 1) _).set_ (hm2 2) _).set_ (hm2 3) _, (((((below_from hbc hB2).setCell hwg _).setCell hR3 _).setCell hR3 _).setCell hR3 _).setCell hR3 _⟩

end Go.Proofs.Ytppkifdngjcbeaa
