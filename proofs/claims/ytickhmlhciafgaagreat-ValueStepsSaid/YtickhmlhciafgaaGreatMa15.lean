/- The walk of the draft of atoms. No condition. -/
import Derived.Test.YtickhmlhciafgaaGreatMa09
import Derived.Test.YtickhmlhciafgaaGreatMa04
import Derived.Test.YtickhmlhciafgaaGreatMa07
import Derived.Deep.DeepCutAuto
namespace Go.Proofs.YtickhmlhciafgaaGreat
open Go.RowKit

/-- A draft. -/
structure Dr where
  neg : Bool
  int : List Int
  sep : Bool
  frac : List Int

/-- What a call hands back that makes a draft. -/
def RD (w : World) (d : Dr) (e : Ending) (w' : World) : Prop := ∃ A n c E m k, e = .returned (.agg #[.bool d.neg, .slice A n c, .bool d.sep, .slice E m k]) ∧ IL w' A n c d.int ∧ IL w' E m k d.frac ∧ Below w.heap.size w w'
/-- A draft and a code. -/
def RDE (w : World) (d : Dr) (code : Int) (e : Ending) (w' : World) : Prop :=
  ∃ A n c E m k, e = .returned (.tuple #[.agg #[.bool d.neg, .slice A n c, .bool d.sep, .slice E m k], .int .i64 code]) ∧ IL w' A n c d.int ∧ IL w' E m k d.frac ∧ Below w.heap.size w w' ∧ (0 < n → ∀ a, A = some a → w.heap.size ≤ a.block) ∧ (0 < m → ∀ a, E = some a → w.heap.size ≤ a.block)
theorem none_newer (B : Nat) : 0 < 0 → ∀ a : Addr, none = some a → B ≤ a.block := fun h => absurd h (by omega)
theorem OL.newer {W : World} {B B' n c : Nat} {A : Option Addr} {l : List Int} (h : OL W B A n c l) (hB : B' ≤ B) : 0 < n → ∀ a, A = some a → B' ≤ a.block := by
  intro hn a ha
  obtain ⟨a', ha', hb'⟩ := h.new hn
  subst ha
  obtain rfl := Option.some.inj ha'
  omega

section
variable (b : Bool) (A : Option Addr) (n c : Nat) (p : Bool) (E : Option Addr) (m k : Nat)

end

def mayD (_b : Bool) (l : List Int) (p : Bool) (f : List Int) : Bool := mayL l && mayL f && (p || f.length == 0)

set_option maxHeartbeats 1000000 in
theorem dmay_any {A : Option Addr} {n c : Nat} {l : List Int} {E : Option Addr} {m k : Nat} {f : List Int} (b p : Bool) (w : World) (h : IL w A n c l) (g : IL w E m k f) (hl : I64 l) (hf : I64 f) :
    Calls Tryz.prog 107 #[.agg #[.bool b, .slice A n c, .bool p, .slice E m k]] w (RV w (.bool (mayD b l p f))) := by
  have bx : Below w.heap.size w (w.alloc (.cells #[.bool b, .slice A n c, .bool p, .slice E m k] 70)) := (Below.refl _ _).alloc (Nat.le_refl _) _
  have m1 := Lib.hid (fun W hW => may_any A n c l W hW hl)
  have m2 := Lib.hid (fun W hW => may_any E m k f W hW hf)
  have hfl : f.length = m := g.len
  cases ha : mayL l
  · have hr : Hid (mayD b l p f = false) := by unfold Hid mayD; rw [ha]; rfl
    rw [ha] at m1
    clear ha hfl
    go_enter Tryz.func107, Tryz.ntmps107
    go_wp2_with fail
    refine (m1.out _ (h.alloc _)).mono ?_
    rintro e w1 ⟨rfl, rfl⟩
    go_wp2_with fail
    go_ret
    exact ⟨ret_bool (by rw [hr.out]), bx⟩
  · rw [ha] at m1
    have HA := Lib.hid ha
    clear ha
    cases hb : mayL f
    · have hr : Hid (mayD b l p f = false) := by unfold Hid mayD; rw [HA.out, hb]; rfl
      rw [hb] at m2
      clear hb hfl
      go_enter Tryz.func107, Tryz.ntmps107
      go_wp2_with fail
      refine (m1.out _ (h.alloc _)).mono ?_
      rintro e w1 ⟨rfl, rfl⟩
      go_wp2_with fail
      refine (m2.out _ (g.alloc _)).mono ?_
      rintro e w1 ⟨rfl, rfl⟩
      go_wp2_with fail
      go_ret
      exact ⟨ret_bool (by rw [hr.out]), bx⟩
    · rw [hb] at m2
      have hr : Hid (mayD b l p f = (p || m == 0)) := by unfold Hid mayD; rw [HA.out, hb, hfl]; rfl
      clear hb hfl
      have hm0 : (m == 0) = true ∨ (m == 0) = false := by cases (m == 0) <;> simp
      cases p
      · by_cases hz : m = 0
        · subst hz
          go_enter Tryz.func107, Tryz.ntmps107
          go_wp2_with fail
          refine (m1.out _ (h.alloc _)).mono ?_
          rintro e w1 ⟨rfl, rfl⟩
          go_wp2_with fail
          refine (m2.out _ (g.alloc _)).mono ?_
          rintro e w1 ⟨rfl, rfl⟩
          go_wp2_with fail
          go_ret
          exact ⟨ret_bool (by rw [hr.out]; rfl), bx⟩
        · have hz2 : Hid ((m == 0) = false) := by simpa [Hid] using hz
          clear hm0
          go_enter Tryz.func107, Tryz.ntmps107
          go_wp2_with fail
          refine (m1.out _ (h.alloc _)).mono ?_
          rintro e w1 ⟨rfl, rfl⟩
          go_wp2_with fail
          refine (m2.out _ (g.alloc _)).mono ?_
          rintro e w1 ⟨rfl, rfl⟩
          go_wp2_with fail
          go_ret
          exact ⟨ret_bool (by rw [hr.out, hz2.out]; first | rfl | simpa using hz), bx⟩
      · clear hm0
        go_enter Tryz.func107, Tryz.ntmps107
        go_wp2_with fail
        refine (m1.out _ (h.alloc _)).mono ?_
        rintro e w1 ⟨rfl, rfl⟩
        go_wp2_with fail
        refine (m2.out _ (g.alloc _)).mono ?_
        rintro e w1 ⟨rfl, rfl⟩
        go_wp2_with fail
        go_ret
        exact ⟨ret_bool (by rw [hr.out]; rfl), bx⟩

set_option maxHeartbeats 1000000 in
theorem rdmay_any {A : Option Addr} {n c : Nat} {l : List Int} {E : Option Addr} {m k : Nat} {f : List Int} (b p : Bool) (w : World) (h : IL w A n c l) (g : IL w E m k f) :
    Calls Tryz.prog 72 #[.agg #[.bool b, .slice A n c, .bool p, .slice E m k]] w (RV w (.bool (mayD b l p f))) := by
  have bx : Below w.heap.size w (w.alloc (.cells #[.bool b, .slice A n c, .bool p, .slice E m k] 64)) := (Below.refl _ _).alloc (Nat.le_refl _) _
  have m1 := Lib.hid (fun W hW => rmay_any A n c l W hW)
  have m2 := Lib.hid (fun W hW => rmay_any E m k f W hW)
  have hr : Hid (mayD b l p f = (mayL l && mayL f && (p || m == 0))) := by unfold Hid mayD; rw [g.len]
  have hz : (m = 0 ∧ Hid ((m == 0) = true)) ∨ (0 < m ∧ Hid ((m == 0) = false)) := by
    rcases Nat.eq_zero_or_pos m with q | q
    · exact .inl ⟨q, by simp [Hid, q]⟩
    · exact .inr ⟨q, by simp [Hid]; omega⟩
  generalize mayL l = x at *
  generalize mayL f = y at *
  rcases hz with ⟨hz, hz2⟩ | ⟨hz, hz2⟩
  · have HZ := hz
    subst hz
    clear HZ
    cases x <;> cases y <;> cases p
    all_goals
      go_enter Tryz.func72, Tryz.ntmps72
      go_wp2_with fail
      refine (m1.out _ (h.alloc _)).mono ?_
      rintro e w1 ⟨rfl, rfl⟩
      go_wp2_with fail
      refine (m2.out _ (g.alloc _)).mono ?_
      rintro e w1 ⟨rfl, rfl⟩
      go_wp2_with fail
      go_ret
      exact ⟨ret_bool (by rw [hr.out]; rfl), bx⟩
  · cases x <;> cases y <;> cases p
    all_goals
      go_enter Tryz.func72, Tryz.ntmps72
      go_wp2_with fail
      refine (m1.out _ (h.alloc _)).mono ?_
      rintro e w1 ⟨rfl, rfl⟩
      go_wp2_with fail
      refine (m2.out _ (g.alloc _)).mono ?_
      rintro e w1 ⟨rfl, rfl⟩
      go_wp2_with fail
      go_ret
      exact ⟨ret_bool (by rw [hr.out, hz2.out]; first | rfl | (simp; omega)), bx⟩

def atomsD (l : List Int) (p : Bool) (f : List Int) : List Int := l ++ ((if p then [10] else []) ++ f)

end Go.Proofs.YtickhmlhciafgaaGreat


namespace Go.Proofs.YtickhmlhciafgaaGreat
open Go.RowKit

theorem box4 {w W : World} {t : TypeId} {a b c d : Value} (h : Below (w.alloc (.cells #[a, b, c, d] t)).heap.size (w.alloc (.cells #[a, b, c, d] t)) W) :
    W.cell? ⟨w.heap.size, 0, none⟩ = some a ∧ W.cell? ⟨w.heap.size, 1, none⟩ = some b ∧ W.cell? ⟨w.heap.size, 2, none⟩ = some c ∧ W.cell? ⟨w.heap.size, 3, none⟩ = some d := by
  refine ⟨?_, ?_, ?_, ?_⟩ <;>
  · rw [h.cell (by simp), World.cell?_alloc_at _ _ _ _ rfl]; rfl

/-- What a new block holds, beside which a call has gone by. -/
theorem fresh4 {w W : World} {t : TypeId} {a b c d : Value} (h : Below (w.heap.size + 1) (w.alloc (.cells #[a, b, c, d] t)).drew W) :
    (W.cell? ⟨w.heap.size, 0, none⟩ = some a ∧ W.cell? ⟨w.heap.size, 1, none⟩ = some b ∧ W.cell? ⟨w.heap.size, 2, none⟩ = some c ∧ W.cell? ⟨w.heap.size, 3, none⟩ = some d) ∧
    (W.frozen? ⟨w.heap.size, 0, none⟩ = false ∧ W.frozen? ⟨w.heap.size, 1, none⟩ = false ∧ W.frozen? ⟨w.heap.size, 2, none⟩ = false ∧ W.frozen? ⟨w.heap.size, 3, none⟩ = false) := by
  have h' : Below (w.alloc (.cells #[a, b, c, d] t)).heap.size (w.alloc (.cells #[a, b, c, d] t)) W := by
    refine ⟨h.os, h.tape, h.output, h.size, fun k hk => h.block k (by simpa using hk)⟩
  refine ⟨box4 h', ?_, ?_, ?_, ?_⟩ <;>
  · rw [h'.frozen (by simp)]
    exact World.frozen?_alloc_at _ _ _ _ rfl

/-! ### Cut and made ones -/
def goodL11 (l : List Int) (most : Nat) : List Int := (l.take most).map fun x => around x 11
theorem goodL11_succ (l : List Int) (k : Nat) (hk : k < l.length) : goodL11 l (k + 1) = goodL11 l k ++ [around (l.getD k 0) 11] := by
  unfold goodL11
  have e : l.getD k 0 = l[k] := by simp [List.getD, List.getElem?_eq_getElem hk]
  rw [List.take_succ_eq_append_getElem hk, List.map_append, e]
  rfl
theorem goodL11_all (l : List Int) (k m : Nat) (h : l.length ≤ k) (h2 : l.length ≤ m) : goodL11 l k = goodL11 l m := by
  unfold goodL11
  rw [List.take_of_length_le h, List.take_of_length_le h2]
theorem goodL11_bd (l : List Int) (m : Nat) : ∀ x, x ∈ goodL11 l m → 0 ≤ x ∧ x ≤ 10 := by
  intro x hx
  obtain ⟨y, _, rfl⟩ := List.mem_map.1 hx
  have := around_bd y 11 (by omega)
  omega
theorem goodL11_len (l : List Int) (m : Nat) : (goodL11 l m).length = min m l.length := by simp [goodL11]

/-- Cut to so many numbers. -/
theorem dfew_any {A : Option Addr} {n c : Nat} {l : List Int} {E : Option Addr} {m k : Nat} {f : List Int} (b p : Bool) (q : Nat) (w : World) (h : IL w A n c l) (g : IL w E m k f) (_hq : q ≤ 1000000) :
    Calls Tryz.prog 31 #[.agg #[.bool b, .slice A n c, .bool p, .slice E m k], .int .i64 (q : Int)] w (RD w ⟨b, l.take q, p, f.take q⟩) := by
  obtain ⟨k0, hk0, hmin0, hmin0'⟩ := min_cut n q
  obtain ⟨k1, hk1, hmin1, hmin1'⟩ := min_cut m q
  replace hmin0 := hmin0 q rfl
  replace hmin0' := hmin0' q rfl
  replace hmin1 := hmin1 q rfl
  replace hmin1' := hmin1' q rfl
  have r0 := h.few q A rfl k0 hk0
  have r1 := g.few q E rfl k1 hk1
  have hc0 := h.cap
  have hc1 := g.cap
  have he0 := h.le
  have he1 := g.le
  have b0 : k0 ≤ n ∧ k0 ≤ q := by omega
  have b1 : k1 ≤ m ∧ k1 ≤ q := by omega
  clear hk0 hk1
  go_enter Tryz.func31, Tryz.ntmps31
  go_wp2
  exact bodyPost_ret (v := .agg #[.bool b, .slice A k0 c, .bool p, .slice E k1 k]) (by simp [results, Tryz.results31, go_sem]) rfl ⟨A, k0, c, E, k1, k, rfl, (r0.alloc _).alloc _, (r1.alloc _).alloc _, ((Below.refl _ _).alloc (Nat.le_refl _) _).alloc (by simp) _⟩

set_option maxHeartbeats 1000000 in
theorem dgood_any {A : Option Addr} {n c : Nat} {l : List Int} {E : Option Addr} {m k : Nat} {f : List Int} (b p : Bool) (q r : Nat) (w : World) (h : IL w A n c l) (g : IL w E m k f) (hl : I64 l) (hf : I64 f) (hq : q ≤ 100000) (hr : r ≤ 100000) :
    Calls Tryz.prog 25 #[.agg #[.bool b, .slice A n c, .bool p, .slice E m k], .int .i64 (q : Int), .int .i64 (r : Int)] w (RD w ⟨b, goodL l q, p, if p then goodL f r else []⟩) := by
  have gg := Lib.hid (fun W hW => goodo_any A n c q l W hW hl hq)
  have gf := Lib.hid (fun W hW => goodo_any E m k r f W hW hf hr)
  generalize hD : (⟨b, goodL l q, p, if p then goodL f r else []⟩ : Dr) = D
  have HD := Lib.hid hD
  clear hD
  go_enter Tryz.func25, Tryz.ntmps25
  go_upto_region 1 with fail
  obtain ⟨wb, hwb⟩ : ∃ wb, wb = (w.alloc (.cells #[.bool b, .slice A n c, .bool p, .slice E m k] 64)).alloc (.cells #[.bool false, .slice none 0 0, .bool false, .slice none 0 0] 64) := ⟨_, rfl⟩
  rw [← hwb]
  have hS : ∀ W, Later wb W → (W.cell? ⟨w.heap.size, 0, none⟩ = some (.bool b) ∧ W.cell? ⟨w.heap.size, 1, none⟩ = some (.slice A n c) ∧ W.cell? ⟨w.heap.size, 2, none⟩ = some (.bool p) ∧ W.cell? ⟨w.heap.size, 3, none⟩ = some (.slice E m k)) ∧ Later wb W := by
    intro W hW
    subst hwb
    refine ⟨⟨hW.cell ?_, hW.cell ?_, hW.cell ?_, hW.cell ?_⟩, hW⟩ <;>
    · rw [World.cell?_alloc_past _ _ _ (by simp), World.cell?_alloc_at _ _ _ _ rfl]; rfl
  have hIb : IL wb A n c l := by subst hwb; exact (h.alloc _).alloc _
  have hGb : IL wb E m k f := by subst hwb; exact (g.alloc _).alloc _
  have HS := Lib.hid hS
  have HW := Lib.hid hwb
  clear hS hwb
  go_cut [7] (fun s7 W => ∃ (g : Nat) (A1 : Option Addr) (n1 c1 : Nat), s7 = .pointer (some ⟨g, 0, none⟩) ∧ IL W A1 n1 c1 (goodL l q) ∧ (0 < n1 → ∀ a, A1 = some a → wb.heap.size ≤ a.block ∧ a.block ≠ g) ∧ Fresh4 wb g 64 (.bool b) (.slice A1 n1 c1) (.bool p) (.slice none 0 0) W)
  case first =>
    have hfr := fun W => fresh4 (w := wb) (W := W) (t := 64) (a := .bool false) (b := .slice none 0 0) (c := .bool false) (d := .slice none 0 0)
    go_region_held3 (fun W => (W.cell? ⟨w.heap.size, 0, none⟩ = some (.bool b) ∧ W.cell? ⟨w.heap.size, 1, none⟩ = some (.slice A n c) ∧ W.cell? ⟨w.heap.size, 2, none⟩ = some (.bool p) ∧ W.cell? ⟨w.heap.size, 3, none⟩ = some (.slice E m k)) ∧ Later wb W)
      ((refine HS.out _ ?_; repeat (first | exact And.right (by assumption) | exact Later.refl _ | refine Later.drew ?_ | refine Later.alloc ?_ _ | refine Later.setCell ?_ (by simp) _ | refine Later.call ?_ hB)))
      ((go_at_call 50; refine (gg.out _ (hIb.later (And.right (by assumption)))).mono ?_; rintro e w1 ⟨A1, n1, c1, rfl, hI, hB⟩; have hB2 := hB; simp at hB2))
    · clear hfr
      go_wp2_with fail
      go_meet
      exact ⟨_, A1, n1, c1, rfl, hI.il.alloc _, hI.away, Fresh4.made wb w1 _ _ _ _ _ (Later.call (Later.refl _).drew hB) _ rfl⟩
    · go_wp2_with fail
      go_meet
      have hn := hI.after_ (S := wb.heap.size) (by simp)
      have hp : ∀ i, 0 < n1 → ∀ a, A1 = some a → a.block ≠ (⟨wb.heap.size, i, none⟩ : Addr).block := fun i hz a ha => (hn hz a ha).2
      have hF := (((((Fresh4.made wb wb 64 (.bool false) (.slice none 0 0) (.bool false) (.slice none 0 0) (Later.refl wb) _ rfl).drew.call hB).set0 (.bool b)).set1 (.slice A1 n1 c1)).set2 (.bool p)).set3 (.slice none 0 0)
      exact ⟨_, A1, n1, c1, rfl, (((hI.il.set_ (hp 0) _).set_ (hp 1) _).set_ (hp 2) _).set_ (hp 3) _, hn, hF⟩
  case rest =>
    obtain ⟨g, A1, n1, c1, rfl, hI, hne, hF⟩ := hcut
    obtain ⟨⟨q0, q1, q2, q3⟩, hL⟩ := HS.out _ hF.2.2
    have hR : Fresh4 w (w.heap.size + 1) 64 (.bool false) (.slice none 0 0) (.bool false) (.slice none 0 0) wb := by
      rw [HW.out]; exact Fresh4.made w _ _ _ _ _ _ ((Later.refl w).alloc _) _ (by simp)
    have hR2 := hR.call hL
    obtain ⟨⟨c0, c1', c2, c3⟩, ⟨f0, f1, f2, f3⟩⟩ := hF.cells
    obtain ⟨⟨d0, d1, d2, d3⟩, ⟨e0, e1, e2, e3⟩⟩ := hR2.cells
    have hsz := hL.size
    have hws : wb.heap.size = w.heap.size + 2 := by rw [HW.out]; simp
    have hg : g ≠ w.heap.size + 1 := by have := hF.1; omega
    have hne1 : ∀ i, 0 < n1 → ∀ a, A1 = some a → a.block ≠ (⟨g, i, none⟩ : Addr).block := fun i hz a ha => (hne hz a ha).2
    have hne2 : ∀ i, 0 < n1 → ∀ a, A1 = some a → a.block ≠ (⟨w.heap.size + 1, i, none⟩ : Addr).block := fun i hz a ha => by have := (hne hz a ha).1; simp; omega
    have Hg := Lib.hid hg
    have hbc : Below w.heap.size w wc := below_from (w1 := wb) (by rw [HW.out]; exact ((Below.refl _ _).alloc (Nat.le_refl _) _).alloc (by simp) _) hL
    have hR3 : w.heap.size ≤ w.heap.size + 1 := Nat.le_succ _
    clear HS HW hne
    cases p
    · go_wp2_with fail
      rw [← HD.out]
      obtain ⟨⟨z0, z1, z2, z3⟩, _⟩ := ((((hR2.set0 (.bool b)).set1 (.slice A1 n1 c1)).set2 (.bool false)).set3 (.slice none 0 0)).cells
      exact bodyPost_ret (v := .agg #[.bool b, .slice A1 n1 c1, .bool false, .slice none 0 0]) (by generalize World.setCell (World.setCell (World.setCell (World.setCell _ _ _) _ _) _ _) _ _ = W3 at z0 z1 z2 z3 ⊢; simp [results, Tryz.results25, go_sem, z0, z1, z2, z3]) rfl
        ⟨A1, n1, c1, none, 0, 0, rfl, (((hI.set_ (hne2 0) _).set_ (hne2 1) _).set_ (hne2 2) _).set_ (hne2 3) _, IL.nil _, (((hbc.setCell hR3 _).setCell hR3 _).setCell hR3 _).setCell hR3 _⟩
    · go_wp2_with fail
      refine (gf.out _ (hGb.later hL)).mono ?_
      rintro e w2 ⟨A2, n2, c2, rfl, hI2, hB2⟩
      obtain ⟨⟨c0, c1', c2', c3⟩, ⟨f0, f1, f2, f3⟩⟩ := (hF.call hB2).cells
      obtain ⟨⟨d0, d1, d2, d3⟩, ⟨e0, e1, e2, e3⟩⟩ := (hR2.call hB2).cells
      have hgw := hF.lt
      have hws2 := hL.size
      have hm1 : ∀ i, 0 < n2 → ∀ a, A2 = some a → a.block ≠ (⟨g, i, none⟩ : Addr).block := fun i hz a ha => by have := (hI2.away hz a ha).1; simp; omega
      have hm2 : ∀ i, 0 < n2 → ∀ a, A2 = some a → a.block ≠ (⟨w.heap.size + 1, i, none⟩ : Addr).block := fun i hz a ha => by have := (hI2.away hz a ha).1; simp; omega
      have hwg : w.heap.size ≤ g := by have := hF.1; omega
      go_wp2_with fail
      rw [← HD.out]
      obtain ⟨⟨z0, z1, z2, z3⟩, _⟩ := (((((hR2.call hB2).far (p := ⟨g, 3, none⟩) (by simpa using hg.symm) hwg (.slice A2 n2 c2)).set0 (.bool b)).set1 (.slice A1 n1 c1)).set2 (.bool true)).set3 (.slice A2 n2 c2) |>.cells
      exact bodyPost_ret (v := .agg #[.bool b, .slice A1 n1 c1, .bool true, .slice A2 n2 c2]) (by generalize World.setCell (World.setCell (World.setCell (World.setCell _ _ _) _ _) _ _) _ _ = W3 at z0 z1 z2 z3 ⊢; simp [results, Tryz.results25, go_sem, z0, z1, z2, z3]) rfl
        ⟨A1, n1, c1, A2, n2, c2, rfl, (((((hI.below hB2).set_ (hne1 3) _).set_ (hne2 0) _).set_ (hne2 1) _).set_ (hne2 2) _).set_ (hne2 3) _, ((((hI2.il.set_ (hm1 3) _).set_ (hm2 0) _).set_ (hm2 1) _).set_ (hm2 2) _).set_ (hm2 3) _, (((((below_from hbc hB2).setCell hwg _).setCell hR3 _).setCell hR3 _).setCell hR3 _).setCell hR3 _⟩

end Go.Proofs.YtickhmlhciafgaaGreat


namespace Go.Proofs.YtickhmlhciafgaaGreat
open Go.RowKit

set_option maxHeartbeats 400000 in
theorem equal_any (A : Option Addr) (n c : Nat) (l : List Int) (A2 : Option Addr) (n2 c2 : Nat) (l2 : List Int) (w : World) (h : IL w A n c l) (h2 : IL w A2 n2 c2 l2) :
    Calls Tryz.prog 109 #[.slice A n c, .slice A2 n2 c2] w (RQ w (.bool (l == l2))) := by
  have hle := h.le
  have hcap := h.cap
  have hle2 := h2.le
  have hcap2 := h2.cap
  have hlen := Lib.hid h.len
  have hlen2 := Lib.hid h2.len
  by_cases hn : n = n2
  · subst hn
    go_enter Tryz.func109, Tryz.ntmps109
    go_wp2
    go_loopw [5, 13] (fun _ i wr => ∃ k j : Nat, k ≤ n ∧ i = .int .i64 k ∧ Hid ((l == l2) = (l.drop k == l2.drop k)) ∧ wr = w.drewN j) (fun _ i _ => n - (intOf i).toNat)
    case atStart => exact ⟨0, 0, Nat.zero_le _, rfl, rfl, rfl⟩
    case round =>
      obtain ⟨k, j, hk, rfl, hI, rfl⟩ := hrel
      by_cases hlt : k < n
      · obtain ⟨b, off, rfl, hc⟩ := h.at_ hlt
        obtain ⟨b2, off2, rfl, hc2⟩ := h2.at_ hlt
        have hst := Lib.hid (eq_from (a := l) (b := l2) (k := k) (by rw [hlen.out]; exact hlt) (by rw [hlen2.out]; exact hlt))
        generalize l.getD k 0 = x at *
        generalize l2.getD k 0 = y at *
        have hlt' : (k : Int) < (n : Int) := by omega
        have hk0 : (0 : Int) ≤ (k : Int) := by omega
        by_cases hxy : x = y
        · have hxx : Hid ((x == y) = true) := by simpa [Hid] using hxy
          have hne : (x != y) = false := by simpa using hxy
          clear hxy
          go_wp2
          go_quiet (fail)
          go_wp2
          go_roundw
          case rel => exact ⟨k + 1, _, by omega, by go_num, by rw [Hid, hI.out, hst.out, hxx.out]; rfl, by first | rfl | exact World.drewN_drewN _ _ _⟩
          case measure => simp [intOf]; omega
        · have hxx : Hid ((x == y) = false) := by simpa [Hid] using hxy
          have hne : (x != y) = true := by simpa using hxy
          clear hxy
          go_wp2
          go_quiet (fail)
          go_wp2
          go_ret
          exact ⟨ret_bool (by rw [hI.out, hst.out, hxx.out]; rfl), _, by first | rfl | exact World.drewN_drewN _ _ _⟩
      · have hkn : k = n := by omega
        subst hkn
        go_wp2
        go_ret
        exact ⟨ret_bool (by rw [hI.out, List.drop_of_length_le (by rw [hlen.out]; omega), List.drop_of_length_le (by rw [hlen2.out]; omega)]; rfl), j, rfl⟩
  · have e1 : (l == l2) = false := by
      rw [beq_eq_false_iff_ne]
      intro he
      exact hn (by rw [← hlen.out, ← hlen2.out, he])
    have E1 := Lib.hid e1
    clear e1
    go_enter Tryz.func109, Tryz.ntmps109
    go_wp2
    go_ret
    exact ⟨ret_bool (by rw [E1.out]), 0, rfl⟩

/-! ### What is no atom -/
def isAtom (x : Int) : Bool := decide (0 ≤ x) && decide (x ≤ 10)
def oddL (l : List Int) : Bool := l.any fun x => !isAtom x

/-! ### Where a number is -/
/-! ### The draft of atoms, by definition -/
def preL (l : List Int) : List Int := l.takeWhile fun x => !(x == 10)
def postL (l : List Int) : List Int := (l.dropWhile fun x => !(x == 10)).tail
theorem idx_pre (l : List Int) (k : Nat) : idxP (· == 10) l k = if l.any (· == 10) then ((k + (preL l).length : Nat) : Int) else -1 := by
  induction l generalizing k with
  | nil => rfl
  | cons x l ih =>
    by_cases h : x = 10
    · subst h; simp [idxP, preL]
    · have hx : (x == 10) = false := by simpa using h
      simp only [idxP, preL, List.any_cons, hx, Bool.false_or, Bool.false_eq_true, if_false, List.takeWhile_cons, Bool.not_false, if_true, List.length_cons]
      rw [ih]
      simp only [preL]
      split
      · omega
      · rfl
theorem pre_take (l : List Int) : l.take (preL l).length = preL l := by
  unfold preL
  induction l with
  | nil => rfl
  | cons x l ih =>
    rw [List.takeWhile_cons]
    split
    · simp [ih]
    · rfl
theorem post_drop (l : List Int) (h : l.any (· == 10) = true) : l.drop ((preL l).length + 1) = postL l ∧ (preL l).length < l.length := by
  unfold preL postL
  induction l with
  | nil => simp at h
  | cons x l ih =>
    by_cases hx : x = 10
    · subst hx; simp
    · have hx2 : (x == 10) = false := by simpa using hx
      rw [List.any_cons, hx2, Bool.false_or] at h
      have := ih h
      simp only [List.takeWhile_cons, List.dropWhile_cons, hx2, Bool.not_false, if_true, List.length_cons, List.drop_succ_cons]
      exact ⟨this.1, by omega⟩

end Go.Proofs.YtickhmlhciafgaaGreat


namespace Go.Proofs.YtickhmlhciafgaaGreat
open Go.RowKit

def sameD (x y : Dr) : Bool := (x.neg == y.neg) && (x.sep == y.sep) && (x.int == y.int) && (x.frac == y.frac)
theorem sameD_refl (x : Dr) : sameD x x = true := by simp [sameD]

set_option maxHeartbeats 4000000 in
theorem dsame_any {A : Option Addr} {n c : Nat} {l : List Int} {E : Option Addr} {m k : Nat} {f : List Int} {A2 : Option Addr} {n2 c2 : Nat} {l2 : List Int} {E2 : Option Addr} {m2 k2 : Nat} {f2 : List Int}
    (b p b2 p2 : Bool) (w : World) (h : IL w A n c l) (g : IL w E m k f) (h2 : IL w A2 n2 c2 l2) (g2 : IL w E2 m2 k2 f2) :
    Calls Tryz.prog 74 #[.agg #[.bool b, .slice A n c, .bool p, .slice E m k], .agg #[.bool b2, .slice A2 n2 c2, .bool p2, .slice E2 m2 k2]] w (RV w (.bool (sameD ⟨b, l, p, f⟩ ⟨b2, l2, p2, f2⟩))) := by
  have e1 := Lib.hid (fun W hW hW2 => equal_any A n c l A2 n2 c2 l2 W hW hW2)
  have e2 := Lib.hid (fun W hW hW2 => equal_any E m k f E2 m2 k2 f2 W hW hW2)
  have hr : Hid (sameD ⟨b, l, p, f⟩ ⟨b2, l2, p2, f2⟩ = ((b == b2) && (p == p2) && (l == l2) && (f == f2))) := rfl
  have bx : Below w.heap.size w ((w.alloc (.cells #[.bool b, .slice A n c, .bool p, .slice E m k] 70)).alloc (.cells #[.bool b2, .slice A2 n2 c2, .bool p2, .slice E2 m2 k2] 70)) := ((Below.refl _ _).alloc (Nat.le_refl _) _).alloc (by simp) _
  generalize (l == l2) = x at *
  generalize (f == f2) = y at *
  cases b <;> cases b2 <;> cases p <;> cases p2
  all_goals first
    | (go_enter Tryz.func74, Tryz.ntmps74
       go_wp2_with fail
       go_ret
       exact ⟨ret_bool (by rw [hr.out]; rfl), bx⟩)
    | (cases x <;> cases y
       all_goals
         go_enter Tryz.func74, Tryz.ntmps74
         go_wp2_with fail
         refine (e1.out _ ((h.alloc _).alloc _) ((h2.alloc _).alloc _)).mono ?_
         rintro e w1 ⟨rfl, j1, rfl⟩
         go_wp2_with fail
         first
         | (go_ret
            exact ⟨ret_bool (by rw [hr.out]; rfl), bx.trans (below_drewN _ _ _)⟩)
         | (refine (e2.out _ (((g.alloc _).alloc _).below (below_drewN _ _ _)) (((g2.alloc _).alloc _).below (below_drewN _ _ _))).mono ?_
            rintro e w1 ⟨rfl, j2, rfl⟩
            go_wp2_with fail
            go_ret
            exact ⟨ret_bool (by rw [hr.out]; rfl), bx.trans (below_drewN _ _ _)⟩))

set_option maxHeartbeats 4000000 in
theorem rdsame_any {A : Option Addr} {n c : Nat} {l : List Int} {E : Option Addr} {m k : Nat} {f : List Int} {A2 : Option Addr} {n2 c2 : Nat} {l2 : List Int} {E2 : Option Addr} {m2 k2 : Nat} {f2 : List Int}
    (b p b2 p2 : Bool) (w : World) (h : IL w A n c l) (g : IL w E m k f) (h2 : IL w A2 n2 c2 l2) (g2 : IL w E2 m2 k2 f2) :
    Calls Tryz.prog 34 #[.agg #[.bool b, .slice A n c, .bool p, .slice E m k], .agg #[.bool b2, .slice A2 n2 c2, .bool p2, .slice E2 m2 k2]] w (RV w (.bool (sameD ⟨b, l, p, f⟩ ⟨b2, l2, p2, f2⟩))) := by
  have e1 := Lib.hid (fun W hW hW2 => same_any A n c l A2 n2 c2 l2 W hW hW2)
  have e2 := Lib.hid (fun W hW hW2 => same_any E m k f E2 m2 k2 f2 W hW hW2)
  have hr : Hid (sameD ⟨b, l, p, f⟩ ⟨b2, l2, p2, f2⟩ = ((b == b2) && (p == p2) && (l == l2) && (f == f2))) := rfl
  have bx : Below w.heap.size w ((w.alloc (.cells #[.bool b, .slice A n c, .bool p, .slice E m k] 64)).alloc (.cells #[.bool b2, .slice A2 n2 c2, .bool p2, .slice E2 m2 k2] 64)) := ((Below.refl _ _).alloc (Nat.le_refl _) _).alloc (by simp) _
  generalize (l == l2) = x at *
  generalize (f == f2) = y at *
  cases x <;> cases y
  case true.true =>
    cases b <;> cases b2 <;> cases p <;> cases p2
    all_goals
      go_enter Tryz.func34, Tryz.ntmps34
      go_wp2_with fail
      refine (e1.out _ ((h.alloc _).alloc _) ((h2.alloc _).alloc _)).mono ?_
      rintro e w1 ⟨rfl, j1, rfl⟩
      go_wp2_with fail
      refine (e2.out _ (((g.alloc _).alloc _).below (below_drewN _ _ _)) (((g2.alloc _).alloc _).below (below_drewN _ _ _))).mono ?_
      rintro e w1 ⟨rfl, j2, rfl⟩
      go_wp2_with fail
      go_ret
      exact ⟨ret_bool (by rw [hr.out]; rfl), bx.trans (below_drewN _ _ _)⟩
  all_goals
    go_enter Tryz.func34, Tryz.ntmps34
    go_wp2_with fail
    refine (e1.out _ ((h.alloc _).alloc _) ((h2.alloc _).alloc _)).mono ?_
    rintro e w1 ⟨rfl, j1, rfl⟩
    go_wp2_with fail
    refine (e2.out _ (((g.alloc _).alloc _).below (below_drewN _ _ _)) (((g2.alloc _).alloc _).below (below_drewN _ _ _))).mono ?_
    rintro e w1 ⟨rfl, j2, rfl⟩
    go_wp2_with fail
    go_ret
    exact ⟨ret_bool (by rw [hr.out]; simp), bx.trans (below_drewN _ _ _)⟩

end Go.Proofs.YtickhmlhciafgaaGreat


namespace Go.Proofs.YtickhmlhciafgaaGreat
open Go.RowKit

def Dr.none : Dr := ⟨false, [], false, []⟩
/-- The draft of atoms, and the code. -/
def ofS (b : Bool) (l : List Int) : Dr × Int :=
  if oddL l then (Dr.none, 1) else if l.any (· == 10) then (if (postL l).any (· == 10) then (Dr.none, 6) else (⟨b, preL l, true, postL l⟩, 0)) else (⟨b, l, false, []⟩, 0)

theorem IL.set4 {W : World} {A : Option Addr} {n c : Nat} {l : List Int} (h : IL W A n c l) {g : Nat} (hp : 0 < n → ∀ a, A = some a → a.block ≠ g) (u0 u1 u2 u3 : Value) :
    IL ((((W.setCell ⟨g, 0, none⟩ u0).setCell ⟨g, 1, none⟩ u1).setCell ⟨g, 2, none⟩ u2).setCell ⟨g, 3, none⟩ u3) A n c l :=
  (((h.set_ (p := ⟨g, 0, none⟩) hp _).set_ (p := ⟨g, 1, none⟩) hp _).set_ (p := ⟨g, 2, none⟩) hp _).set_ (p := ⟨g, 3, none⟩) hp _
theorem below_set4 {w0 W : World} {B : Nat} (h : Below B w0 W) {g : Nat} (hg : B ≤ g) (u0 u1 u2 u3 : Value) :
    Below B w0 ((((W.setCell ⟨g, 0, none⟩ u0).setCell ⟨g, 1, none⟩ u1).setCell ⟨g, 2, none⟩ u2).setCell ⟨g, 3, none⟩ u3) :=
  (((h.setCell (p := ⟨g, 0, none⟩) hg _).setCell (p := ⟨g, 1, none⟩) hg _).setCell (p := ⟨g, 2, none⟩) hg _).setCell (p := ⟨g, 3, none⟩) hg _
theorem Fresh4.store {w0 W : World} {g : Nat} {t : TypeId} {a b c d : Value} (h : Fresh4 w0 g t a b c d W) (u0 u1 u2 u3 : Value) :
    Fresh4 w0 g t u0 u1 u2 u3 ((((W.setCell ⟨g, 0, none⟩ u0).setCell ⟨g, 1, none⟩ u1).setCell ⟨g, 2, none⟩ u2).setCell ⟨g, 3, none⟩ u3) :=
  (((h.set0 _).set1 _).set2 _).set3 _
theorem IL.dropv {w : World} {A A' : Option Addr} {n c k n' c' : Nat} {l : List Int} (h : IL w A n c l) (hk : k ≤ n) (hn : n' = n - k) (hc : c' = c - k) (hA : k < n → A' = A.map (·.add k)) : IL w A' n' c' (l.drop k) := by
  subst hn hc; exact h.drop hk A' hA
theorem IL.takev {w : World} {A A' : Option Addr} {n c k c' : Nat} {l : List Int} (h : IL w A n c l) (hk : k ≤ n) (hc : c' = c) (hA : 0 < k → A' = A) : IL w A' k c' (l.take k) := by
  subst hc; exact h.take hk (Nat.le_trans hk h.le) (Nat.le_refl _) A' hA
theorem OL.apart {W : World} {B n c g : Nat} {A : Option Addr} {l : List Int} (h : OL W B A n c l) (hg : g < B) : 0 < n → ∀ a, A = some a → a.block ≠ g := fun hn a ha => by
  have := (h.away hn a ha).1
  omega

end Go.Proofs.YtickhmlhciafgaaGreat

