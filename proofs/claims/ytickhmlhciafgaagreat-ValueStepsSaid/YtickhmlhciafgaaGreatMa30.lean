/- What keys do to a state: the document's answer. No program in sight. No condition. -/
import Derived.Test.YtickhmlhciafgaaGreatMa29
import Derived.Test.YtickhmlhciafgaaGreatMa07
import Derived.Test.YtickhmlhciafgaaGreatMa05
import Derived.Test.YtickhmlhciafgaaGreatMa16
import Derived.Test.YtickhmlhciafgaaGreatMa06
namespace Go.Proofs.YtickhmlhciafgaaGreat
open Go.RowKit

def atomsR (d : Dr) : List Int := atomsD d.int d.sep d.frac
/-- A draft with other atoms in the place of some, and the code. -/
def spliceS (d : Dr) (i j : Int) (s : List Int) : Dr × Int :=
  if mayD d.neg d.int d.sep d.frac && !oddL s then
    if i < 0 ∨ j < i ∨ ((atomsR d).length : Int) < j then (Dr.none, 3) else ofS d.neg ((atomsR d).take i.toNat ++ s ++ (atomsR d).drop j.toNat)
  else (Dr.none, 1)

theorem atoms_len (l : List Int) (p : Bool) (f : List Int) : (atomsD l p f).length ≤ l.length + 1 + f.length := by
  unfold atomsD
  cases p <;> simp <;> omega
theorem I64.append {a b : List Int} (ha : I64 a) (hb : I64 b) : I64 (a ++ b) := fun x hx => (List.mem_append.1 hx).elim (ha x) (hb x)
theorem I64.take {a : List Int} (ha : I64 a) (k : Nat) : I64 (a.take k) := fun x hx => ha x (List.mem_of_mem_take hx)
theorem I64.drop {a : List Int} (ha : I64 a) (k : Nat) : I64 (a.drop k) := fun x hx => ha x (List.mem_of_mem_drop hx)
theorem I64.atoms {l f : List Int} (p : Bool) (hl : I64 l) (hf : I64 f) : I64 (atomsD l p f) := by
  unfold atomsD
  refine hl.append (I64.append ?_ hf)
  cases p
  · intro x hx; cases hx
  · intro x hx
    have : x = 10 := by simpa using hx
    omega

end Go.Proofs.YtickhmlhciafgaaGreat


namespace Go.Proofs.YtickhmlhciafgaaGreat
set_option linter.unusedSimpArgs false

theorem pts_append (a b : List Int) : pts (a ++ b) = pts a + pts b := List.countP_append
theorem pts_dig {l : List Int} (h : mayL l = true) : pts l = 0 := by
  unfold pts
  rw [List.countP_eq_zero]
  intro x hx
  have := mayL_iff.1 h x hx
  simp [is10]; omega
theorem odd_of {l : List Int} (h : ∀ x, x ∈ l → 0 ≤ x ∧ x ≤ 10) : oddL l = false := by
  unfold oddL
  rw [List.any_eq_false]
  intro x hx
  have := h x hx
  simp [isAtom]; omega
theorem atom_of {l : List Int} (h : oddL l = false) : ∀ x, x ∈ l → 0 ≤ x ∧ x ≤ 10 := by
  intro x hx
  have := List.any_eq_false.1 h x hx
  simp [isAtom] at this
  omega
theorem may_of {l : List Int} (h : oddL l = false) (hp : pts l = 0) : mayL l = true := by
  rw [mayL_iff]
  intro x hx
  have h1 := atom_of h x hx
  unfold pts at hp
  rw [List.countP_eq_zero] at hp
  have h2 := hp x hx
  simp [is10] at h2
  omega
theorem pre_post {l : List Int} (h : has10 l = true) : preL l ++ 10 :: postL l = l := by
  unfold preL postL has10 at *
  induction l with
  | nil => simp at h
  | cons x l ih =>
    by_cases hx : x = 10
    · subst hx; simp
    · have hx2 : (x == 10) = false := by simpa using hx
      rw [List.any_cons, hx2, Bool.false_or] at h
      have := ih h
      simp [List.takeWhile_cons, List.dropWhile_cons, hx2, this]
theorem pre_no10 (l : List Int) : pts (preL l) = 0 := by
  unfold preL
  induction l with
  | nil => rfl
  | cons x l ih =>
    rw [List.takeWhile_cons]
    split
    · next h =>
      have hx : is10 x = false := by simpa [is10] using h
      have : pts (x :: l.takeWhile fun x => !(x == 10)) = pts (l.takeWhile fun x => !(x == 10)) := by unfold pts; simp [List.countP_cons, hx]
      rw [this]; exact ih
    · rfl
theorem odd_append (a b : List Int) : oddL (a ++ b) = (oddL a || oddL b) := by simp [oddL]
theorem odd_cons (x : Int) (b : List Int) : oddL (x :: b) = (!isAtom x || oddL b) := by simp [oddL]

/-- Of atoms with one separator or none: the draft may be, and has these atoms. -/
theorem ofS_back (b : Bool) {X : List Int} (ho : oddL X = false) (hp : pts X ≤ 1) :
    ∃ x : Dr, ofS b X = (x, 0) ∧ x.neg = b ∧ mayD x.neg x.int x.sep x.frac = true ∧ atomsD x.int x.sep x.frac = X := by
  have hf := ofS_fin b X ho
  rw [if_neg (by omega)] at hf
  refine ⟨_, hf, rfl, ?_, ?_⟩
  · cases h : has10 X
    · have e := pre_all h
      have hz : pts X = 0 := by
        have := pts_pos X
        rw [h] at this
        rcases Nat.eq_zero_or_pos (pts X) with q | q
        · exact q
        · exact absurd (this.1 q) (by simp)
      have : fracS X = [] := by unfold fracS; rw [e.2]; rfl
      simp [mayD, this, e.1, may_of ho hz]
    · have e := pre_post h
      have e2 := pts_post X h
      have hz : pts (postL X) = 0 := by omega
      have hfr : fracS X = postL X := by
        unfold fracS
        rw [List.filter_eq_self]
        intro x hx
        unfold pts at hz
        rw [List.countP_eq_zero] at hz
        have := hz x hx
        simpa using this
      have ho2 := ho
      rw [← e, odd_append, odd_cons, Bool.or_eq_false_iff, Bool.or_eq_false_iff] at ho2
      simp [mayD, hfr, may_of ho2.1 (pre_no10 X), may_of ho2.2.2 hz]
  · cases h : has10 X
    · have e := pre_all h
      have : fracS X = [] := by unfold fracS; rw [e.2]; rfl
      simp [atomsD, this, e.1]
    · have e := pre_post h
      have e2 := pts_post X h
      have hz : pts (postL X) = 0 := by omega
      have hfr : fracS X = postL X := by
        unfold fracS
        rw [List.filter_eq_self]
        intro x hx
        unfold pts at hz
        rw [List.countP_eq_zero] at hz
        have := hz x hx
        simpa using this
      simp only [atomsD, hfr, if_true]
      simpa using e

theorem ofS_dig (b : Bool) {l : List Int} (h : mayL l = true) : ofS b l = (⟨b, l, false, []⟩, 0) := by
  have hz := pts_dig h
  have ho : oddL l = false := odd_of fun x hx => by have := mayL_iff.1 h x hx; omega
  have h10 : has10 l = false := by
    have := pts_pos l
    cases h : has10 l
    · rfl
    · have := this.2 h; omega
  rw [ofS_fin b l ho, if_neg (by omega), h10]
  have e := pre_all h10
  have : fracS l = [] := by unfold fracS; rw [e.2]; rfl
  rw [e.1, this]

/-- What comes of a splice into digits. -/
theorem splice_dig (b : Bool) {I s : List Int} (hI : mayL I = true) (hs : oddL s = false) {i : Nat} (hi : i ≤ I.length) :
    spliceS ⟨b, I, false, []⟩ i i s = ofS b (I.take i ++ s ++ I.drop i) := by
  unfold spliceS
  have e : mayD b I false [] = true := by simp [mayD, hI]
  have ea : atomsR ⟨b, I, false, []⟩ = I := by simp [atomsR, atomsD]
  rw [e, hs, ea]
  simp only [Bool.not_false, Bool.and_self, if_true]
  rw [if_neg (by omega)]
  rfl
theorem splice_many (b : Bool) {I s : List Int} (hI : mayL I = true) (hs : oddL s = false) {i : Nat} (hi : i ≤ I.length) (hp : 1 < pts s) :
    spliceS ⟨b, I, false, []⟩ i i s = (Dr.none, 6) := by
  rw [splice_dig b hI hs hi, ofS_fin]
  · rw [if_pos]
    rw [pts_append, pts_append]
    omega
  · rw [odd_append, odd_append, hs, odd_of fun x hx => (by have := mayL_iff.1 (mayL_take hI i) x hx; omega), odd_of fun x hx => (by have := mayL_iff.1 (mayL_drop hI i) x hx; omega)]
    rfl
theorem splice_back (b : Bool) {I s : List Int} (hI : mayL I = true) (hs : oddL s = false) {i : Nat} (hi : i ≤ I.length) (hp : pts s ≤ 1) :
    ∃ x : Dr, spliceS ⟨b, I, false, []⟩ i i s = (x, 0) ∧ (atomsD x.int x.sep x.frac).length = I.length + s.length ∧ (mayL x.int = true ∧ mayL x.frac = true) ∧ spliceS x i (i + s.length : Nat) [] = (⟨b, I, false, []⟩, 0) := by
  have h1 := mayL_take hI i
  have h2 := mayL_drop hI i
  have ho : oddL (I.take i ++ s ++ I.drop i) = false := by
    rw [odd_append, odd_append, hs, odd_of fun x hx => (by have := mayL_iff.1 h1 x hx; omega), odd_of fun x hx => (by have := mayL_iff.1 h2 x hx; omega)]
    rfl
  have hpp : pts (I.take i ++ s ++ I.drop i) ≤ 1 := by rw [pts_append, pts_append, pts_dig h1, pts_dig h2]; omega
  obtain ⟨x, e1, e2, e3, e4⟩ := ofS_back b ho hpp
  have hlen : (I.take i ++ s ++ I.drop i).length = I.length + s.length := by simp; omega
  refine ⟨x, by rw [splice_dig b hI hs hi]; exact e1, by rw [e4]; exact hlen, by simp only [mayD, Bool.and_eq_true] at e3; exact ⟨e3.1.1, e3.1.2⟩, ?_⟩
  unfold spliceS
  rw [e3]
  have : atomsR x = I.take i ++ s ++ I.drop i := e4
  rw [this]
  have eo : oddL [] = false := rfl
  rw [eo]
  simp only [Bool.not_false, Bool.and_self, if_true]
  rw [if_neg (by rw [hlen]; omega), e2]
  have t1 : (I.take i ++ s ++ I.drop i).take (i : Int).toNat = I.take i := by
    simp [List.take_append, Nat.min_eq_left hi]
  have t2 : (I.take i ++ s ++ I.drop i).drop ((i + s.length : Nat) : Int).toNat = I.drop i := by
    rw [Int.toNat_natCast, List.append_assoc, List.drop_append, List.drop_append]
    have e1 : (I.take i).length = i := by simp; omega
    rw [e1, List.drop_of_length_le (by rw [e1]; omega), List.drop_of_length_le (by omega)]
    have e2 : i + s.length - i - s.length = 0 := by omega
    rw [e2]; rfl
  rw [t1, t2]
  simp only [List.append_nil, List.take_append_drop]
  exact ofS_dig b hI

end Go.Proofs.YtickhmlhciafgaaGreat


namespace Go.Proofs.YtickhmlhciafgaaGreat
open Go.RowKit

theorem run_zeros_nil (w : World) (ty : TypeId) (k : Nat) (h0 : 0 < k) (hn : k ≤ 1000000000) :
    ∃ A' c' w', (Builtin.append_ #[22, 3] ty #[.slice none 0 0, .int .i64 (k : Int)]).run Tryz.prog w = .ok (.slice A' k c') w' ∧ OL w' w.heap.size A' 0 c' [] ∧ k ≤ c' ∧ c' ≤ 9223372036854775807 ∧ Below w.heap.size w w' := by
  obtain ⟨i0, hi0, hz0, hz1, hz2⟩ := info_parts int_info
  have hw : IntKind.i64.wrap (k : Int) = k := by rw [IntKind.wrap_i64]; omega
  have h48 : ¬ (281474976710656 < (k : Int) * (i0.bytes : Int)) := by rw [hz2]; omega
  have hneg : ¬ ((k : Int) < 0) := by omega
  have hg : (0 : Nat) < 0 + k := by omega
  have hold : (Builtin.firstCells i0.size 0 (.slice none 0 0)).run Tryz.prog w.drew = .ok ([] : List Value).toArray w.drew := by
    rw [hz1]
    simp [Builtin.firstCells]
  have hfit : Builtin.nextslicecap (0 + k) 0 * i0.bytes ≤ 281474976710656 := by
    rw [hz2]
    exact growslice_fits hg (by omega)
  have hr := Lib.run_append_grow_zeros (P := Tryz.prog) w 22 3 ty 3 i0 (.int .i64 0) .i64 .i64 Tryz.underlying22 Tryz.underlying3 hi0 hz0 none 0 0 [] hold k h0 (by omega) hg (by omega) (by rw [hz2]; omega) hfit
  have hge := grownCap_ge w (0 + k) 0 3
  have hcm : grownCap w (0 + k) 0 3 ≤ maxLen := grownCap_le_maxLen w (0 + k) 0 3 (by simp only [maxLen]; omega)
  rw [Nat.zero_add] at hr hge hcm
  refine ⟨_, _, _, hr, ⟨VL.empty _ _ _ (by simpa [maxLen] using hcm), .inr ⟨rfl, .inr ⟨w.heap.size, _, _, rfl, Nat.le_refl _, heap_alloc_new w.drew _, Nat.zero_le _, hcm, ?_, ?_⟩⟩⟩, hge, by simpa [maxLen] using hcm, ⟨rfl, rfl, rfl, by simp, fun q hq => Below.heap_alloc w.drew _ q (by simp; omega)⟩⟩
  · simp only [Array.size_append, List.size_toArray, size_zeroCells, Value.cells, List.length_cons, List.length_nil]
    omega
  · simp

theorem wpList_zeros_nil {w : World} {ops : Array Oper} {rest : List Oper} {o : Oper} {a : Act} {Q : Exit → Act → World → Prop} {k : Nat}
    (hgd : o.guard = none) (s x : Operand)
    (ho : o.op = .call { callee := .builtin .append, args := #[s, x], argTypes := #[22, 3] }) (hs : a.eval s = .slice none 0 0) (hx : a.eval x = .int .i64 (k : Int))
    (h0 : 0 < k) (hn : k ≤ 1000000000)
    (h : ∀ A' c' w', OL w' w.heap.size A' 0 c' [] → k ≤ c' → c' ≤ 9223372036854775807 → Below w.heap.size w w' → wpList Tryz.prog ops Q rest (a.put o.dst (.slice A' k c')) w') : wpList Tryz.prog ops Q (o :: rest) a w := by
  obtain ⟨A', c', w', hr, h3, h5, h6, h4⟩ := run_zeros_nil w o.type k h0 hn
  exact Lib.wpList_append_run w hgd s x _ _ ho _ _ hs hx _ w' hr (h A' c' w' h3 h5 h6 h4)

theorem grow_any (k : Nat) (w : World) (hn : k ≤ 1000000000) :
    Calls Tryz.prog 129 #[.slice none 0 0, .int .i64 (k : Int)] w fun e w' => ∃ A c, e = .returned (.slice A 0 c) ∧ OL w' w.heap.size A 0 c [] ∧ Below w.heap.size w w' := by
  rcases Nat.eq_zero_or_pos k with h0 | h0
  · subst h0
    go_enter Tryz.func129, Tryz.ntmps129
    go_wp2_with fail
    go_ret
    exact ⟨_, _, rfl, OL.nil _ _, Below.refl _ _⟩
  · go_enter Tryz.func129, Tryz.ntmps129
    go_wp2_with (first
      | (at_builtin; refine wpList_zeros_nil rfl _ _ rfl rfl rfl h0 hn ?_; intro A2 c2 w2 hO2 hk2 hm2 hB2))
    go_ret
    exact ⟨_, _, rfl, hO2, hB2⟩

theorem flat_succ (ls : List (List Int)) (k : Nat) (hk : k < ls.length) : (ls.take (k + 1)).flatten = (ls.take k).flatten ++ ls.getD k [] := by
  rw [List.take_succ_eq_append_getElem hk, List.flatten_append]
  simp [List.getD, List.getElem?_eq_getElem hk]
theorem flat_len (ls : List (List Int)) (M : Nat) (hl : ∀ l, l ∈ ls → l.length ≤ M) : ls.flatten.length ≤ ls.length * M := by
  induction ls with
  | nil => simp
  | cons x l ih =>
    have := ih (fun y hy => hl y (by simp [hy]))
    have := hl x (by simp)
    simp only [List.flatten_cons, List.length_append, List.length_cons, Nat.succ_mul]
    omega

set_option maxHeartbeats 1000000 in
theorem concat_any (A : Option Addr) (n c : Nat) (ls : List (List Int)) (w : World) (h : LL w A n c ls) (hn : ls.length ≤ 100) (hl : ∀ l, l ∈ ls → l.length ≤ 10000) :
    Calls Tryz.prog 106 #[.slice A n c] w (RO w ls.flatten) := by
  have hle := h.le
  have hcap := h.cap
  have hlen := Lib.hid h.len
  have hn' : n ≤ 100 := by rw [← hlen.out]; exact hn
  have hfl : ∀ k, (ls.take k).flatten.length ≤ 1000000 := fun k => by
    have h1 := flat_len (ls.take k) 10000 (fun l hh => hl l (List.mem_of_mem_take hh))
    have h2 : (ls.take k).length ≤ 100 := Nat.le_trans (List.length_take_le' _ _) hn
    have h3 : (ls.take k).length * 10000 ≤ 100 * 10000 := Nat.mul_le_mul_right _ h2
    omega
  have HFL := Lib.hid hfl
  have HST := Lib.hid (flat_succ ls)
  clear hfl hl hn
  go_enter Tryz.func106, Tryz.ntmps106
  go_wp2_with fail
  go_loop [3, 11] (fun v x => ∃ k : Nat, k ≤ n ∧ x = .int .i64 k ∧ v = .int .i64 ((ls.take k).flatten.length : Nat)) (fun _ x => n - (intOf x).toNat)
  case atStart => exact ⟨0, Nat.zero_le _, rfl, rfl⟩
  case round =>
    obtain ⟨k, hk, rfl, rfl⟩ := hrel
    have hf1 := HFL.out k
    have hf2 := HFL.out (k + 1)
    by_cases hlt : k < n
    · obtain ⟨b, off, A1, n1, c1, rfl, hc, hI⟩ := h.at_ hlt
      have hs := HST.out k (by rw [hlen.out]; exact hlt)
      have hle1 := hI.le
      have hcap1 := hI.cap
      have e2 : Hid ((ls.take (k + 1)).flatten.length = (ls.take k).flatten.length + n1) := by rw [Hid, hs, List.length_append, hI.len]
      rw [e2.out] at hf2
      generalize (ls.take k).flatten.length = q at *
      clear hs hI
      go_wp2_with fail
      go_round
      case rel => exact ⟨k + 1, by omega, by go_num, by rw [e2.out]; first | rfl | go_num⟩
      case measure => simp [intOf]; omega
    · have hkn : k = n := by omega
      have hall : ls.take k = ls := List.take_of_length_le (by rw [hlen.out]; omega)
      rw [hall] at hf1 ⊢
      subst hkn
      generalize hq : ls.flatten.length = q at *
      clear hall hq
      go_wp2_with fail
      refine (grow_any q _ (by omega)).mono ?_
      rintro e w1 ⟨A1, c1, rfl, hO1, hB1⟩
      have h1 := h.below hB1
      clear hf1 hf2
      go_wp2_with fail
      go_loopw [6, 27] (fun v x wr => ∃ (k' : Nat) (A' : Option Addr) (m c' : Nat), k' ≤ k ∧ x = .int .i64 k' ∧ v = .slice A' m c' ∧ OL wr w.heap.size A' m c' (ls.take k').flatten ∧ Below w.heap.size w wr) (fun _ x _ => k - (intOf x).toNat)
      case atStart => exact ⟨0, _, _, _, Nat.zero_le _, rfl, rfl, hO1, hB1⟩
      case round =>
        obtain ⟨k', A', m, c', hk', rfl, rfl, hO, hB⟩ := hrel
        have hf1 := HFL.out k'
        by_cases hlt' : k' < k
        · obtain ⟨b, off, A3, n3, c3, rfl, hc, hI⟩ := (h.below hB).at_ hlt'
          have hs := Lib.hid (HST.out k' (by rw [hlen.out]; exact hlt'))
          have hf2 := HFL.out (k' + 1)
          rw [hs.out, List.length_append, hI.len] at hf2
          have hm := hO.len
          go_wp2_with (first
            | (at_builtin; refine wpList_append_OL w.heap.size rfl _ _ rfl rfl rfl hO hI hB.size (by omega) ?_; intro A2 c2 w2 hO2 hB2 hg2))
          go_roundw
          case rel => exact ⟨k' + 1, A2, _, c2, by omega, by go_num, rfl, by rw [hs.out]; exact hO2, hB.trans hB2⟩
          case measure => simp [intOf]; omega
        · have hkn : k' = k := by omega
          subst hkn
          have hall : ls.take k' = ls := List.take_of_length_le (by rw [hlen.out]; omega)
          rw [hall] at hO
          clear hall
          go_wp2_with fail
          go_ret
          exact ⟨_, _, _, rfl, hO, hB⟩

end Go.Proofs.YtickhmlhciafgaaGreat


namespace Go.Proofs.YtickhmlhciafgaaGreat
open Go.RowKit

def fitsD (x : Dr) (a b : Int) : Bool := decide ((x.int.length : Int) ≤ a) && decide ((x.frac.length : Int) ≤ b)

/-! ### A draft's number -/
def decD (x : Dr) : Dc := trimDc ⟨x.neg, x.int ++ x.frac, (x.frac.length : Int)⟩

theorem LL.pair1 {w : World} {A A2 : Option Addr} {n c n2 c2 : Nat} {l l2 : List Int} (h : IL w A n c l) (h2 : IL w A2 n2 c2 l2) (e : TypeId) (b : Nat) (hb : b = w.heap.size) :
    LL (w.alloc (.cells #[.slice A n c, .slice A2 n2 c2] e)) (some ⟨b, 0, none⟩) 2 2 [l, l2] := by
  subst hb
  refine ⟨[.slice A n c, .slice A2 n2 c2], VL.lit w e 2 _ rfl (by omega), rfl, fun k hk => ?_⟩
  have hk2 : k = 0 ∨ k = 1 := by simp at hk; omega
  rcases hk2 with rfl | rfl
  · exact ⟨A, n, c, rfl, h.alloc _⟩
  · exact ⟨A2, n2, c2, rfl, h2.alloc _⟩

set_option maxHeartbeats 2000000 in
theorem rdec_any {A : Option Addr} {n c : Nat} {l : List Int} {E : Option Addr} {m k : Nat} {f : List Int} (b p : Bool) (w : World) (h : IL w A n c l) (g : IL w E m k f) (hl : I64 l) (hf : I64 f) (hn : n ≤ 10000) (hm : m ≤ 10000) :
    Calls Tryz.prog 66 #[.agg #[.bool b, .slice A n c, .bool p, .slice E m k]] w (RC w (decD ⟨b, l, p, f⟩)) := by
  have hI : I64 (l ++ f) := fun x hx => (List.mem_append.1 hx).elim (hl x) (hf x)
  have e2 := g.len
  have htr := Lib.hid (fun A n c W hW hn => rdtrim_any (A := A) (n := n) (c := c) (l := l ++ f) b (m : Int) W hW hI hn (by omega) (by omega))
  have hD : Hid (decD ⟨b, l, p, f⟩ = trimDc ⟨b, l ++ f, (m : Int)⟩) := by rw [Hid, decD, e2]
  rw [hD.out]
  generalize trimDc ⟨b, l ++ f, (m : Int)⟩ = D at *
  have hX0 := (Fresh4.made w w 64 (.bool b) (.slice A n c) (.bool p) (.slice E m k) (Later.refl w) _ rfl).alloc (.cells #[.bool false, .slice none 0 0, .int .i64 0] 24)
  have hR0 := Blk.made w (w.alloc (.cells #[.bool b, .slice A n c, .bool p, .slice E m k] 64)) 24 #[.bool false, .slice none 0 0, .int .i64 0] ((Later.refl w).alloc _) (w.heap.size + 1) (by simp)
  have hlt0 := hR0.lt
  clear hD
  go_enter Tryz.func66, Tryz.ntmps66
  go_wp2_with (first
    | (at_builtin; refine wpList_append_OL (w.heap.size + 2) rfl (.tmp 4) (.tmp 6) rfl rfl rfl (OL.nil _ _) ((h.alloc _).alloc _) (by simp) (by omega) ?_; intro A1 c1 w1 hO1 hB1 _; simp only [Nat.zero_add, List.nil_append] at hO1; have hX1 := hX0.under (by omega) hB1; have hR1 := hR0.under (by omega) hB1; have hlt1 := hR1.lt; obtain ⟨⟨q0, q1, q2, q3⟩, _⟩ := hX1.cells)
    | (at_builtin; refine wpList_append_OL (w.heap.size + 2) rfl (.tmp 8) (.tmp 10) rfl rfl rfl hO1 (g.later hX1.2.2) (by omega) (by omega) ?_; intro A2 c2 w2 hO2 hB2 _; have hX2 := hX1.under (by omega) hB2; have hR2 := hR1.under (by omega) hB2; have hlt2 := hR2.lt; obtain ⟨⟨q0, q1, q2, q3⟩, _⟩ := hX2.cells)
    | (go_at_call 80; refine (htr.out _ _ _ _ hO2.il (by omega)).mono ?_; rintro e w3 ⟨A3, n3, c3, rfl, hI3, hB3, hN3⟩; have hR3 := hR2.call hB3; obtain ⟨⟨r0, r1, r2⟩, ⟨r3, r4, r5⟩⟩ := hR3.cells3))
  obtain ⟨⟨z0, z1, z2⟩, _⟩ := (hR3.store3 (.bool D.neg) (.slice A3 n3 c3) (.int .i64 D.s)).cells3
  exact bodyPost_ret (v := .agg #[.bool D.neg, .slice A3 n3 c3, .int .i64 D.s]) (by generalize World.setCell (World.setCell (World.setCell _ _ _) _ _) _ _ = W3 at z0 z1 z2 ⊢; simp [results, Tryz.results66, go_sem, z0, z1, z2]) rfl
    ⟨A3, n3, c3, rfl, hI3.set3 (fun hz a ha => by have := hN3 hz a ha; omega) _ _ _, below_set3 hR3.later (Nat.le_succ _) _ _ _, fun hz a ha => by have := hN3 hz a ha; omega⟩

end Go.Proofs.YtickhmlhciafgaaGreat


namespace Go.Proofs.YtickhmlhciafgaaGreat
set_option linter.unusedSimpArgs false

structure St where
  d : Dr
  c : Int
  a : Int
def St.zero : St := ⟨Dr.none, 0, 0⟩
def mayDr (d : Dr) : Bool := mayD d.neg d.int d.sep d.frac
def lenR (d : Dr) : Int := ((atomsR d).length : Int)
def inS (d : Dr) (k : Int) : Bool := decide (0 ≤ k) && decide (k ≤ lenR d)
def mayS (s : St) : Bool := mayDr s.d && inS s.d s.c && inS s.d s.a
def frontS (s : St) : Int := if s.a < s.c then s.a else s.c
def backS (s : St) : Int := if s.c < s.a then s.a else s.c
def insS (s : St) (x y : Int) (l : List Int) : St × Int :=
  if mayS s then
    if (spliceS s.d (frontS s) (backS s) l).2 = 0 then
      if fitsD (spliceS s.d (frontS s) (backS s) l).1 x y then (⟨(spliceS s.d (frontS s) (backS s) l).1, frontS s + l.length, frontS s + l.length⟩, 0) else (St.zero, 4)
    else (St.zero, (spliceS s.d (frontS s) (backS s) l).2)
  else (St.zero, 1)
def negD (d : Dr) (b : Bool) : Dr := ⟨b, d.int, d.sep, d.frac⟩
def wholeS (s : St) : Bool := decide (0 < lenR s.d) && (frontS s == 0) && (backS s == lenR s.d)
def putS (s : St) (x y : Int) (signed cneg : Bool) (l : List Int) : St × Int :=
  if (insS s x y l).2 = 0 then
    if cneg && (!signed || decide (0 < frontS s)) then (St.zero, 5)
    else (⟨negD (insS s x y l).1.d (cneg || (s.d.neg && !wholeS s)), (insS s x y l).1.c, (insS s x y l).1.a⟩, 0)
  else (St.zero, (insS s x y l).2)
def leftS (l : List Int) (c : Int) : Int :=
  if c = 0 then 0 else if (l.take c.toNat).getD (c.toNat - 1) 0 = 10 then c - 1 else idxP (· == 10) (l.take c.toNat) 0 + 1
def rightS (l : List Int) (c : Int) : Int :=
  if idxP (· == 10) (l.drop c.toNat) 0 < 0 then c + (l.drop c.toNat).length else if idxP (· == 10) (l.drop c.toNat) 0 = 0 then c + 1 else c + idxP (· == 10) (l.drop c.toNat) 0
def toS (d : Dr) (c what : Int) : Int :=
  if what = 0 then (if c - 1 < 0 then 0 else c - 1) else if what = 1 then (if lenR d < c + 1 then lenR d else c + 1) else if what = 2 then leftS (atomsR d) c else if what = 3 then rightS (atomsR d) c
  else if what = 4 then 0 else lenR d
/-- From where to where an erasing goes. -/
def spanE (s : St) (what : Int) : Int × Int :=
  if what = 6 then (0, lenR s.d)
  else if frontS s = backS s then (if s.c < toS s.d s.c what then s.c else toS s.d s.c what, if toS s.d s.c what < s.c then s.c else toS s.d s.c what) else (frontS s, backS s)
def eraseS (s : St) (x y what : Int) : St × Int :=
  if mayS s && decide (0 ≤ what) && decide (what ≤ 6) then
    if (spanE s what).1 = (spanE s what).2 ∧ (s.d.neg && !(what == 6)) = s.d.neg then (St.zero, 7)
    else if fitsD (spliceS s.d (spanE s what).1 (spanE s what).2 []).1 x y then (⟨negD (spliceS s.d (spanE s what).1 (spanE s what).2 []).1 (s.d.neg && !(what == 6)), (spanE s what).1, (spanE s what).1⟩, 0)
    else (St.zero, 4)
  else (St.zero, 1)
def moveT (s : St) (how : Int) (keep : Bool) : Int :=
  if keep || (frontS s == backS s) then toS s.d s.c how else if how = 0 then frontS s else if how = 1 then backS s else toS s.d s.c how
def moveS (s : St) (how : Int) (keep : Bool) : St × Int :=
  if mayS s && decide (0 ≤ how) && decide (how ≤ 5) then (⟨s.d, moveT s how keep, if keep then s.a else moveT s how keep⟩, 0) else (St.zero, 1)
def selectS (s : St) (an ca : Int) : St × Int :=
  if mayS s then (if inS s.d an && inS s.d ca then (⟨s.d, ca, an⟩, 0) else (St.zero, 3)) else (St.zero, 1)
def toggleS (s : St) (signed : Bool) : St × Int :=
  if mayS s then (if signed then (⟨negD s.d (!s.d.neg), s.c, s.a⟩, 0) else (St.zero, 5)) else (St.zero, 1)
def sameS (x y : St) : Bool := sameD x.d y.d && (x.c == y.c) && (x.a == y.a)

theorem mayDr_iff {d : Dr} : mayDr d = true ↔ mayL d.int = true ∧ mayL d.frac = true ∧ (d.sep = true ∨ d.frac.length = 0) := by simp [mayDr, mayD, and_assoc]
theorem mayS_iff {s : St} : mayS s = true ↔ mayDr s.d = true ∧ (0 ≤ s.c ∧ s.c ≤ lenR s.d) ∧ (0 ≤ s.a ∧ s.a ≤ lenR s.d) := by simp [mayS, inS, and_assoc]
theorem atoms_pts {d : Dr} (h : mayDr d = true) : pts (atomsR d) ≤ 1 ∧ oddL (atomsR d) = false := by
  obtain ⟨h1, h2, _⟩ := mayDr_iff.1 h
  have o : ∀ {l : List Int}, mayL l = true → oddL l = false := fun hl => odd_of fun x hx => by have := mayL_iff.1 hl x hx; omega
  unfold atomsR atomsD
  rw [pts_append, pts_append, odd_append, odd_append, pts_dig h1, pts_dig h2, o h1, o h2]
  cases d.sep <;> simp [pts, oddL, is10, isAtom]
theorem take_drop_pts (l : List Int) {i j : Nat} (h : i ≤ j) : pts (l.take i ++ l.drop j) ≤ pts l := by
  have e : pts l = pts (l.take i) + pts (l.drop i) := by rw [← pts_append, List.take_append_drop]
  have e2 : pts (l.drop i) = pts ((l.drop i).take (j - i)) + pts (l.drop j) := by
    have : l.drop j = (l.drop i).drop (j - i) := by rw [List.drop_drop]; congr 1; omega
    rw [this, ← pts_append, List.take_append_drop]
  rw [pts_append]
  omega
theorem odd_take {l : List Int} (h : oddL l = false) (k : Nat) : oddL (l.take k) = false := odd_of fun x hx => atom_of h x (List.mem_of_mem_take hx)
theorem odd_drop {l : List Int} (h : oddL l = false) (k : Nat) : oddL (l.drop k) = false := odd_of fun x hx => atom_of h x (List.mem_of_mem_drop hx)
theorem splice_in {d : Dr} (h : mayDr d = true) {i j : Int} (h0 : 0 ≤ i) (h1 : i ≤ j) (h2 : j ≤ lenR d) {s : List Int} (hs : oddL s = false) :
    spliceS d i j s = ofS d.neg ((atomsR d).take i.toNat ++ s ++ (atomsR d).drop j.toNat) := by
  unfold spliceS
  rw [show mayD d.neg d.int d.sep d.frac = true from h, hs]
  unfold lenR at h2
  simp only [Bool.not_false, Bool.and_self, if_true]
  rw [if_neg (by omega)]
/-- What is left behind an erasing. -/
theorem splice_cut {d : Dr} (h : mayDr d = true) {i j : Int} (h0 : 0 ≤ i) (h1 : i ≤ j) (h2 : j ≤ lenR d) :
    ∃ x : Dr, spliceS d i j [] = (x, 0) ∧ x.neg = d.neg ∧ mayDr x = true ∧ atomsR x = (atomsR d).take i.toNat ++ (atomsR d).drop j.toNat := by
  obtain ⟨p1, p2⟩ := atoms_pts h
  rw [splice_in h h0 h1 h2 rfl, List.append_nil]
  have hp := take_drop_pts (atomsR d) (i := i.toNat) (j := j.toNat) (by omega)
  exact ofS_back d.neg (by rw [odd_append, odd_take p2, odd_drop p2]; rfl) (by omega)
theorem front_back {s : St} (h : mayS s = true) : 0 ≤ frontS s ∧ frontS s ≤ backS s ∧ backS s ≤ lenR s.d := by
  obtain ⟨_, h1, h2⟩ := mayS_iff.1 h
  unfold frontS backS
  split <;> split <;> omega

/-! ### Words -/
theorem idxP_at : ∀ (l : List Int) (k i : Nat), i < l.length → l.getD i 0 = 10 → (∀ j, j < i → l.getD j 0 ≠ 10) → idxP (· == 10) l k = ((k + i : Nat) : Int) := by
  intro l
  induction l with
  | nil => intro k i h; simp at h
  | cons x t ih =>
    intro k i h h1 h2
    unfold idxP
    cases i with
    | zero => simp at h1; simp [h1]
    | succ i =>
      have hx : x ≠ 10 := by have := h2 0 (by omega); simpa using this
      rw [if_neg (by simpa using hx), ih (k + 1) i (by simpa using h) (by simpa using h1) (fun j hj => by have := h2 (j + 1) (by omega); simpa using this)]
      congr 1; omega
theorem idxP_no : ∀ (l : List Int) (k : Nat), (∀ j, j < l.length → l.getD j 0 ≠ 10) → idxP (· == 10) l k = -1 := by
  intro l
  induction l with
  | nil => intro k _; rfl
  | cons x t ih =>
    intro k h
    unfold idxP
    have hx : x ≠ 10 := by have := h 0 (by simp); simpa using this
    rw [if_neg (by simpa using hx), ih (k + 1) (fun j hj => by have := h (j + 1) (by simpa using hj); simpa using this)]
theorem getD_take (l : List Int) {i k : Nat} (h : i < k) : (l.take k).getD i 0 = l.getD i 0 := by
  simp only [List.getD, List.getElem?_take]
  rw [if_pos h]
theorem getD_drop (l : List Int) (i k : Nat) : (l.drop k).getD i 0 = l.getD (k + i) 0 := by
  simp [List.getD, List.getElem?_drop]
theorem pts_two {l : List Int} {i j : Nat} (hij : i < j) (hj : j < l.length) (h1 : l.getD i 0 = 10) (h2 : l.getD j 0 = 10) : 2 ≤ pts l := by
  have e : pts l = pts (l.take j) + pts (l.drop j) := by rw [← pts_append, List.take_append_drop]
  have hpos : ∀ {t : List Int} {k : Nat}, k < t.length → t.getD k 0 = 10 → 0 < pts t := by
    intro t k hk h
    unfold pts
    rw [List.countP_pos_iff]
    refine ⟨t.getD k 0, ?_, by rw [h]; rfl⟩
    simp only [List.getD, List.getElem?_eq_getElem hk, Option.getD_some]
    exact List.getElem_mem hk
  have a := hpos (t := l.take j) (k := i) (by simp; omega) (by rw [getD_take l hij]; exact h1)
  have b := hpos (t := l.drop j) (k := 0) (by simp; omega) (by rw [getD_drop]; simpa using h2)
  omega
/-- A word to the left, step by step. -/
theorem left_loop {l : List Int} {c k : Nat} (hp : pts l ≤ 1) (hc : c ≤ l.length) (hk : k ≤ c) (hno : ∀ j, k ≤ j → j < c → l.getD j 0 ≠ 10) (hend : k = 0 ∨ l.getD (k - 1) 0 = 10)
    (hne : 0 < c → l.getD (c - 1) 0 ≠ 10) : leftS l (c : Int) = k := by
  unfold leftS
  by_cases h0 : c = 0
  · subst h0
    rw [if_pos (by omega)]
    omega
  · have e : (c : Int).toNat = c := by omega
    rw [if_neg (by omega), e, if_neg (by rw [getD_take l (by omega)]; exact hne (by omega))]
    rcases hend with h | h
    · subst h
      rw [idxP_no _ _ (fun j hj => by
        have hj2 : j < c := by simp at hj; omega
        rw [getD_take l hj2]; exact hno j (by omega) hj2)]
      rfl
    · by_cases hk0 : k = 0
      · subst hk0
        rw [idxP_no _ _ (fun j hj => by
          have hj2 : j < c := by simp at hj; omega
          rw [getD_take l hj2]; exact hno j (by omega) hj2)]
        rfl
      · rw [idxP_at _ 0 (k - 1) (by simp; omega) (by rw [getD_take l (by omega)]; exact h) (fun j hj => by
          rw [getD_take l (by omega)]
          intro hh
          have := pts_two (l := l) (i := j) (j := k - 1) hj (by omega) hh h
          omega)]
        omega
theorem left_ten {l : List Int} {c : Nat} (hc : 0 < c) (h : l.getD (c - 1) 0 = 10) : leftS l (c : Int) = (c : Int) - 1 := by
  unfold leftS
  have e : (c : Int).toNat = c := by omega
  rw [if_neg (by omega), e, if_pos (by rw [getD_take l (by omega)]; exact h)]
/-- A word to the right, step by step. -/
theorem right_loop {l : List Int} {c k : Nat} (hc : c ≤ k) (hk : k ≤ l.length) (hno : ∀ j, c ≤ j → j < k → l.getD j 0 ≠ 10) (hend : k = l.length ∨ l.getD k 0 = 10)
    (hne : c < l.length → l.getD c 0 ≠ 10) : rightS l (c : Int) = k := by
  unfold rightS
  have e : (c : Int).toNat = c := by omega
  rw [e]
  by_cases hl : k = l.length
  · have h1 : idxP (· == 10) (l.drop c) 0 = -1 := idxP_no _ _ (fun j hj => by
      rw [getD_drop]
      simp at hj
      exact hno (c + j) (by omega) (by omega))
    rw [h1, if_pos (by omega)]
    simp
    omega
  · have h10 : l.getD k 0 = 10 := hend.resolve_left hl
    have hck : c ≠ k := fun h => hne (by omega) (by rw [h]; exact h10)
    have h1 : idxP (· == 10) (l.drop c) 0 = ((0 + (k - c) : Nat) : Int) := idxP_at _ 0 (k - c) (by simp; omega) (by rw [getD_drop, show c + (k - c) = k by omega]; exact h10) (fun j hj => by
      rw [getD_drop]
      exact hno (c + j) (by omega) (by omega))
    rw [h1, if_neg (by omega), if_neg (by omega)]
    omega
theorem right_ten {l : List Int} {c : Nat} (hc : c < l.length) (h : l.getD c 0 = 10) : rightS l (c : Int) = (c : Int) + 1 := by
  unfold rightS
  have e : (c : Int).toNat = c := by omega
  have h1 : idxP (· == 10) (l.drop c) 0 = ((0 + 0 : Nat) : Int) := idxP_at _ 0 0 (by simp; omega) (by rw [getD_drop]; exact h) (fun j hj => by omega)
  rw [e, h1]
  simp

end Go.Proofs.YtickhmlhciafgaaGreat

