/- The walks of sums, differences, multiples. No condition. -/
import Derived.Test.YtaolimhbeoocjaaCarry
namespace Go.Proofs.Ytaolimhbeoocjaa
open Go.RowKit

theorem quiet_left {P : Program} {f : FuncId} {args : Array Value} {w : World} {n : Nat} {v : Value}
    (h : Calls P f args (w.drewN n) fun e w' => e = .returned v ∧ w.drewN n = w') : Calls P f args (w.drewN n) fun e w'' => e = .returned v ∧ ∃ m, w'' = w.drewN m :=
  h.mono fun _ _ ⟨he, hm⟩ => ⟨he, n, hm.symm⟩

theorem sum1_any (i : Nat) (p1 p2 : Addr) (A : Option Addr) (n c : Nat) (l : List Int) (A2 : Option Addr) (n2 c2 : Nat) (l2 : List Int) (w : World)
    (hc1 : w.cell? p1 = some (.slice A n c)) (hc2 : w.cell? p2 = some (.slice A2 n2 c2)) (h : IL w A n c l) (h2 : IL w A2 n2 c2 l2) (hm : mayL l = true) (hm2 : mayL l2 = true) (hi : i ≤ 1000000) :
    Calls Try.prog 47 #[.int .i64 (i : Int), .pointer (some p1), .pointer (some p2)] w (RQ w (.int .i64 (digL l i + digL l2 i))) := by
  have f1 := from_any (l := l) (i := i) A n c
  have f2 := from_any (l := l2) (i := i) A2 n2 c2
  have b1 := digL_may hm i
  have b2 := digL_may hm2 i
  generalize digL l i = x at *
  generalize digL l2 i = y at *
  have F1 := Lib.hid f1
  have F2 := Lib.hid f2
  clear f1 f2
  go_enter Try.func47, Try.ntmps47
  go_wp2
  go_quiet (first
    | (go_at_call 48; with_reducible exact quiet_left (F1.out _ (h.drewN _) hi))
    | (go_at_call 48; with_reducible exact quiet_left (F2.out _ (h2.drewN _) hi)))
  go_wp2
  go_ret
  exact ⟨rfl, _, rfl⟩

theorem sub1_any (i : Nat) (p1 p2 : Addr) (A : Option Addr) (n c : Nat) (l : List Int) (A2 : Option Addr) (n2 c2 : Nat) (l2 : List Int) (w : World)
    (hc1 : w.cell? p1 = some (.slice A n c)) (hc2 : w.cell? p2 = some (.slice A2 n2 c2)) (h : IL w A n c l) (h2 : IL w A2 n2 c2 l2) (hm : mayL l = true) (hm2 : mayL l2 = true) (hi : i ≤ 1000000) :
    Calls Try.prog 53 #[.int .i64 (i : Int), .pointer (some p1), .pointer (some p2)] w (RQ w (.int .i64 (digL l i - digL l2 i))) := by
  have f1 := from_any (l := l) (i := i) A n c
  have f2 := from_any (l := l2) (i := i) A2 n2 c2
  have b1 := digL_may hm i
  have b2 := digL_may hm2 i
  generalize digL l i = x at *
  generalize digL l2 i = y at *
  have F1 := Lib.hid f1
  have F2 := Lib.hid f2
  clear f1 f2
  go_enter Try.func53, Try.ntmps53
  go_wp2
  go_quiet (first
    | (go_at_call 48; with_reducible exact quiet_left (F1.out _ (h.drewN _) hi))
    | (go_at_call 48; with_reducible exact quiet_left (F2.out _ (h2.drewN _) hi)))
  go_wp2
  go_ret
  exact ⟨rfl, _, rfl⟩

/-! ### Lists of lists -/
/-- The slice value reads as lists of integers. -/
def LL (w : World) (A : Option Addr) (n c : Nat) (ls : List (List Int)) : Prop :=
  ∃ vs, VL w A n c vs ∧ vs.length = ls.length ∧ ∀ k, k < ls.length → ∃ A' n' c', vs[k]? = some (.slice A' n' c') ∧ IL w A' n' c' (ls.getD k [])
theorem LL.len {w : World} {A : Option Addr} {n c : Nat} {ls : List (List Int)} (h : LL w A n c ls) : ls.length = n := by
  obtain ⟨vs, h1, h2, _⟩ := h
  rw [← h2, h1.len]
theorem LL.le {w : World} {A : Option Addr} {n c : Nat} {ls : List (List Int)} (h : LL w A n c ls) : n ≤ c := by obtain ⟨vs, h1, _⟩ := h; exact h1.le
theorem LL.cap {w : World} {A : Option Addr} {n c : Nat} {ls : List (List Int)} (h : LL w A n c ls) : c ≤ 9223372036854775807 := by obtain ⟨vs, h1, _⟩ := h; exact h1.cap
theorem LL.below {w w' : World} {A : Option Addr} {n c : Nat} {ls : List (List Int)} (h : LL w A n c ls) (hb : Below w.heap.size w w') : LL w' A n c ls := by
  obtain ⟨vs, h1, h2, h3⟩ := h
  refine ⟨vs, h1.below hb, h2, fun k hk => ?_⟩
  obtain ⟨A', n', c', g1, g2⟩ := h3 k hk
  exact ⟨A', n', c', g1, g2.below hb⟩
theorem LL.at_ {w : World} {A : Option Addr} {n c : Nat} {ls : List (List Int)} (h : LL w A n c ls) {k : Nat} (hk : k < n) :
    ∃ b off A' n' c', A = some ⟨b, off, none⟩ ∧ w.cell? ⟨b, off + k, none⟩ = some (.slice A' n' c') ∧ IL w A' n' c' (ls.getD k []) := by
  have hl := h.len
  obtain ⟨vs, h1, h2, h3⟩ := h
  obtain ⟨A', n', c', g1, g2⟩ := h3 k (by omega)
  obtain ⟨b, off, v, e, gv, hc⟩ := h1.at_ hk
  rw [g1] at gv
  injection gv with gv
  exact ⟨b, off, A', n', c', e, by rw [hc, gv], g2⟩

def sumV (ls : List (List Int)) : Int := ls.foldl (fun a l => a + val l) 0
theorem sumV_snoc (ls : List (List Int)) (l : List Int) : sumV (ls ++ [l]) = sumV ls + val l := by simp [sumV, List.foldl_append]
def mayLL (ls : List (List Int)) : Bool := ls.all mayL
theorem mayLL_iff {ls : List (List Int)} : mayLL ls = true ↔ ∀ l, l ∈ ls → mayL l = true := by simp [mayLL]
theorem pow_mono {a b M : Nat} (h : a ≤ b) (h2 : M < 10 ^ a) : M < 10 ^ b := Nat.lt_of_lt_of_le h2 (Nat.pow_le_pow_right (by omega) h)
theorem sumV_bd (M : Nat) (ls : List (List Int)) (hm : mayLL ls = true) (hl : ∀ l, l ∈ ls → l.length ≤ M) : 0 ≤ sumV ls ∧ sumV ls < 10 ^ (M + ls.length) := by
  generalize hn : ls.length = n
  induction n generalizing ls with
  | zero =>
    have := List.eq_nil_of_length_eq_zero hn
    subst this
    have := ten_pos (M + 0)
    simp only [sumV, List.foldl_nil]
    omega
  | succ n ih =>
    rcases List.eq_nil_or_concat ls with rfl | ⟨r, x, rfl⟩
    · simp at hn
    · simp only [List.concat_eq_append] at hm hl hn ⊢
      rw [sumV_snoc]
      have hr := ih r (mayLL_iff.2 fun l h => mayLL_iff.1 hm l (by simp [h])) (fun l h => hl l (by simp [h])) (by simpa using hn)
      have hx := val_bd (mayLL_iff.1 hm x (by simp))
      have hp := pow_le (show x.length ≤ M + n by have := hl x (by simp); omega)
      have e : (10 : Int) ^ (M + (n + 1)) = 10 ^ (M + n) * 10 := by rw [← Nat.add_assoc, Int.pow_succ]
      omega
theorem toNat_pow {z : Int} {k : Nat} (h0 : 0 ≤ z) (h : z < 10 ^ k) : z.toNat < 10 ^ k := by
  have : ((z.toNat : Nat) : Int) < ((10 ^ k : Nat) : Int) := by
    rw [Int.toNat_of_nonneg h0]
    simpa using h
  exact_mod_cast this
theorem ofN_sumV_len (M : Nat) (ls : List (List Int)) (hm : mayLL ls = true) (hl : ∀ l, l ∈ ls → l.length ≤ M) : (ofN (sumV ls).toNat).length ≤ M + ls.length := by
  have := sumV_bd M ls hm hl
  exact ofN_len (toNat_pow this.1 this.2)

/-- A list of integers and a code. -/
def RLE (w : World) (l : List Int) (code : Int) (e : Ending) (w' : World) : Prop :=
  ∃ A n c, e = .returned (.tuple #[.slice A n c, .int .i64 code]) ∧ OL w' w.heap.size A n c l ∧ Below w.heap.size w w'

theorem take_snoc_getD {α : Type} (ls : List α) (d : α) (k : Nat) (h : k < ls.length) : ls.take (k + 1) = ls.take k ++ [ls.getD k d] := by
  rw [List.take_succ_eq_append_getElem h]
  simp [List.getD, List.getElem?_eq_getElem h]
theorem mayLL_snoc (ls : List (List Int)) (l : List Int) : mayLL (ls ++ [l]) = (mayLL ls && mayL l) := by simp [mayLL]
theorem getD_mem' {ls : List (List Int)} {k : Nat} (h : k < ls.length) : ls.getD k [] ∈ ls := by
  have : ls.getD k [] = ls[k] := by simp [List.getD, List.getElem?_eq_getElem h]
  rw [this]; exact List.getElem_mem h

/-- What the sum of lists is: or the error. -/
def sumR (ls : List (List Int)) : List Int × Int := if mayLL ls then (ofN (sumV ls).toNat, 0) else ([], 1)

set_option maxHeartbeats 1000000 in
theorem sum_any (A : Option Addr) (n c : Nat) (ls : List (List Int)) (w : World) (h : LL w A n c ls) (hn : ls.length ≤ 100) (hl : ∀ l, l ∈ ls → l.length ≤ 50000 ∧ I64 l) :
    Calls Try.prog 36 #[.slice A n c] w (RLE w (sumR ls).1 (sumR ls).2) := by
  have hle := h.le
  have hcap := h.cap
  have hlen := Lib.hid h.len
  have hn' : n ≤ 100 := by rw [← hlen.out]; exact hn
  have HL := Lib.hid hl
  clear hl hn
  go_enter Try.func36, Try.ntmps36
  go_wp2_with fail
  go_loopw [4, 10] (fun v i wr => ∃ (k : Nat) (A' : Option Addr) (m c' : Nat), k ≤ n ∧ i = .int .i64 k ∧ v = .slice A' m c' ∧
      Hid (mayLL (ls.take k) = true) ∧ OL wr w.heap.size A' m c' (ofN (sumV (ls.take k)).toNat) ∧ Below w.heap.size w wr)
    (fun _ i _ => n - (intOf i).toNat)
  case atStart => exact ⟨0, none, 0, 0, Nat.zero_le _, rfl, rfl, rfl, OL.nil _ _, Below.refl _ _⟩
  case round =>
    obtain ⟨k, A', m, c', hk, rfl, rfl, hM, hO, hB⟩ := hrel
    have hsz := hB.size
    by_cases hlt : k < n
    · have hkl : k < ls.length := by rw [hlen.out]; exact hlt
      obtain ⟨b, off, E, q, d, rfl, hc, hE⟩ := (h.below hB).at_ hlt
      have hmem := getD_mem' hkl
      have hs := Lib.hid (take_snoc_getD ls [] k hkl)
      have hIx := (HL.out _ hmem).2
      have hlx : q ≤ 50000 := by rw [← hE.len]; exact (HL.out _ hmem).1
      have hml : m ≤ 51000 := by
        rw [← hO.len]
        have := ofN_sumV_len 50000 (ls.take k) hM.out (fun l hl => (HL.out l (List.mem_of_mem_take hl)).1)
        have h2 := List.length_take_le k ls
        omega
      have hS0 := (sumV_bd 50000 (ls.take k) hM.out (fun l hl => (HL.out l (List.mem_of_mem_take hl)).1)).1
      generalize ls.getD k [] = x at *
      cases hmx : mayL x
      · have hr : sumR ls = ([], 1) := by
          unfold sumR
          rw [if_neg]
          rw [Bool.not_eq_true, ← Bool.not_eq_true]
          intro hall
          have hy := mayLL_iff.1 hall x hmem
          rw [hmx] at hy
          cases hy
        have HR := Lib.hid hr
        have HMX := Lib.hid hmx
        clear hr hmx
        go_wp2_with (first
          | (go_at_call 30; refine (may_any _ _ _ x _ (hE.alloc _) hIx).mono ?_; rw [HMX.out]; rintro e w' ⟨rfl, rfl⟩))
        go_ret2
        exact ⟨_, _, _, by rw [HR.out]; rfl, by rw [HR.out]; exact OL.nil _ _, hB.alloc hsz _⟩
      · have HMX := Lib.hid hmx
        have hmS : mayL (ofN (sumV (ls.take k)).toNat) = true := mayL_ofN _
        have hv1 : Hid (val (ofN (sumV (ls.take k)).toNat) = sumV (ls.take k)) := by
          rw [Hid, val_ofN, Int.toNat_of_nonneg hS0]
        generalize ofN (sumV (ls.take k)).toNat = S at *
        have HMS := Lib.hid hmS
        clear hmx hmS
        have hcl : ∀ (i : Nat) (W : World), i < max m q → Below ((wr.alloc (.cells #[.slice E q d] 22)).alloc (.cells #[.slice A' m c'] 22)).heap.size ((wr.alloc (.cells #[.slice E q d] 22)).alloc (.cells #[.slice A' m c'] 22)) W →
            Calls Try.prog 47 #[.int .i64 (i : Int), .pointer (some ⟨wr.heap.size + 1, 0, none⟩), .pointer (some ⟨wr.heap.size, 0, none⟩)] W (RQ W (.int .i64 (digL S i + digL x i))) := by
          intro i W hi hBW
          refine sum1_any i _ _ A' m c' S E q d x W ?_ ?_ ?_ ?_ HMS.out HMX.out (by omega)
          · rw [hBW.cell (by simp), World.cell?_alloc_at _ _ _ _ (by simp)]; rfl
          · rw [hBW.cell (by simp; omega), World.cell?_alloc_past _ _ _ (by simp), World.cell?_alloc_at _ _ _ _ rfl]; rfl
          · exact ((hO.il.alloc _).alloc _).below hBW
          · exact ((hE.alloc _).alloc _).below hBW
        have HCL := Lib.hid hcl
        have HSUM : Hid (∀ M, m ≤ M → q ≤ M → sumTo (fun i => digL S i + digL x i) M = sumV (ls.take (k + 1))) := by
          intro M h1 h2
          rw [sumTo_add, sumTo_val (by rw [hO.len]; exact h1), sumTo_val (by rw [hE.len]; exact h2), hs.out, sumV_snoc, hv1.out]
        have HS1 := Lib.hid ((sumV_bd 50000 (ls.take (k + 1)) (by rw [hs.out, mayLL_snoc, hM.out, HMX.out]; rfl) (fun l hl => (HL.out l (List.mem_of_mem_take hl)).1)).1)
        have HF : Hid (∀ i : Nat, -100000 ≤ digL S i + digL x i ∧ digL S i + digL x i ≤ 100000) := by
          intro i
          have b1 := digL_may HMS.out i
          have b2 := digL_may HMX.out i
          omega
        clear hcl
        rcases Nat.lt_or_ge m q with hmq | hmq
        all_goals
          go_wp2_with (first
            | (go_at_call 30; refine (may_any _ _ _ x _ (hE.alloc _) hIx).mono ?_; rw [HMX.out]; rintro e w' ⟨rfl, rfl⟩)
            | (go_at_call 46; refine (carry_sum _ _ _ (fun i => digL S i + digL x i) _ (by omega) (fun i _ => HF.out i) (by rw [HSUM.out _ (by omega) (by omega)]; exact HS1.out) (fun i W hi hb => HCL.out i W (by omega) hb)).mono ?_; rintro e w3 ⟨A3, n3, c3, rfl, hO3, hB3⟩))
          go_roundw
          case rel => exact ⟨k + 1, A3, n3, c3, by omega, by go_num, rfl, by rw [Hid, hs.out, mayLL_snoc, hM.out, HMX.out]; rfl, by rw [HSUM.out _ (by omega) (by omega)] at hO3; exact hO3.mono (by simp; omega), ((hB.alloc hsz _).alloc (by simp; omega) _).trans (hB3.mono (by simp; omega))⟩
          case measure => simp [intOf]; omega
    · have hkn : k = n := by omega
      subst hkn
      have hr : sumR ls = (ofN (sumV (ls.take k)).toNat, 0) := by
        have e : ls.take k = ls := List.take_of_length_le (by rw [hlen.out]; omega)
        have hM' := hM.out
        rw [e] at hM' ⊢
        unfold sumR
        rw [if_pos hM']
      have HR := Lib.hid hr
      clear hr
      go_wp2_with fail
      go_ret2
      exact ⟨_, _, _, by rw [HR.out]; rfl, by rw [HR.out]; exact hO, hB⟩

end Go.Proofs.Ytaolimhbeoocjaa
