/- The walks of the comparisons. No condition. -/
import Derived.Test.YtaolimhbeoocjaaSum
namespace Go.Proofs.Ytaolimhbeoocjaa
open Go.RowKit

theorem cmp_any (a b : Int) (w : World) (_ha : -9223372036854775808 ≤ a ∧ a ≤ 9223372036854775807) (_hb : -9223372036854775808 ≤ b ∧ b ≤ 9223372036854775807) :
    Calls Try.prog 51 #[.int .i64 a, .int .i64 b] w fun e w' => e = .returned (.int .i64 (cmpI a b)) ∧ w = w' := by
  rcases Int.lt_or_le a b with h | h
  · have e1 : Hid (cmpI a b = -1) := by unfold Hid cmpI; rw [if_pos h]
    go_enter Try.func51, Try.ntmps51
    go_wp2
    go_ret
    exact ⟨ret_int (by rw [e1.out]), rfl⟩
  · rcases Int.lt_or_le b a with h2 | h2
    · have e1 : Hid (cmpI a b = 1) := by unfold Hid cmpI; rw [if_neg (by omega), if_pos h2]
      go_enter Try.func51, Try.ntmps51
      go_wp2
      go_ret
      exact ⟨ret_int (by rw [e1.out]), rfl⟩
    · have e1 : Hid (cmpI a b = 0) := by unfold Hid cmpI; rw [if_neg (by omega), if_neg (by omega)]
      go_enter Try.func51, Try.ntmps51
      go_wp2
      go_ret
      exact ⟨ret_int (by rw [e1.out]), rfl⟩

theorem lexC_drop {a b : List Int} {k : Nat} (ha : k < a.length) (hb : k < b.length) :
    lexC (a.drop k) (b.drop k) = if cmpI (a.getD k 0) (b.getD k 0) ≠ 0 then cmpI (a.getD k 0) (b.getD k 0) else lexC (a.drop (k + 1)) (b.drop (k + 1)) := by
  rw [List.drop_eq_getElem_cons ha, List.drop_eq_getElem_cons hb]
  simp only [lexC, cmpI, List.getD, List.getElem?_eq_getElem ha, List.getElem?_eq_getElem hb, Option.getD_some]
  split
  · simp
  · split
    · simp
    · simp
theorem cmpI_cases (a b : Int) : cmpI a b = -1 ∨ cmpI a b = 0 ∨ cmpI a b = 1 := by
  unfold cmpI
  split
  · exact .inl rfl
  · split
    · exact .inr (.inr rfl)
    · exact .inr (.inl rfl)
theorem lexC_cases (a b : List Int) : lexC a b = -1 ∨ lexC a b = 0 ∨ lexC a b = 1 := by
  induction a generalizing b with
  | nil => cases b <;> simp [lexC]
  | cons x a ih =>
    cases b with
    | nil => simp [lexC]
    | cons y b =>
      simp only [lexC]
      split
      · exact .inl rfl
      · split
        · exact .inr (.inr rfl)
        · exact ih b
theorem cmpL_cases (a b : List Int) : cmpL a b = -1 ∨ cmpL a b = 0 ∨ cmpL a b = 1 := by
  unfold cmpL
  split
  · exact .inl rfl
  · split
    · exact .inr (.inr rfl)
    · exact lexC_cases _ _

set_option maxHeartbeats 1000000 in
theorem lex_any (A : Option Addr) (n c : Nat) (l : List Int) (A2 : Option Addr) (n2 c2 : Nat) (l2 : List Int) (w : World) (h : IL w A n c l) (h2 : IL w A2 n2 c2 l2) (hl : I64 l) (hl2 : I64 l2) :
    Calls Try.prog 52 #[.slice A n c, .slice A2 n2 c2] w fun e w' => e = .returned (.int .i64 (lexC l l2)) ∧ w = w' := by
  have hle := h.le
  have hcap := h.cap
  have hle2 := h2.le
  have hcap2 := h2.cap
  have hlen := Lib.hid h.len
  have hlen2 := Lib.hid h2.len
  go_enter Try.func52, Try.ntmps52
  go_wp2_with fail
  go_loop [11] (fun i => ∃ k : Nat, k ≤ n ∧ k ≤ n2 ∧ i = .int .i64 k ∧ Hid (lexC l l2 = lexC (l.drop k) (l2.drop k))) (fun i => n - (intOf i).toNat)
  case atStart => exact ⟨0, Nat.zero_le _, Nat.zero_le _, rfl, rfl⟩
  case round =>
    obtain ⟨k, hk, hk2, rfl, hI⟩ := hrel
    by_cases hlt : k < n
    · obtain ⟨b, off, rfl, hc⟩ := h.at_ hlt
      by_cases hlt2 : k < n2
      · obtain ⟨b2, off2, rfl, hc2⟩ := h2.at_ hlt2
        have hx := hl.getD k
        have hy := hl2.getD k
        have hst := Lib.hid (lexC_drop (a := l) (b := l2) (k := k) (by rw [hlen.out]; exact hlt) (by rw [hlen2.out]; exact hlt2))
        generalize l.getD k 0 = x at *
        generalize l2.getD k 0 = y at *
        have hcc := cmpI_cases x y
        have hcall := Lib.hid (cmp_any x y w hx hy)
        generalize cmpI x y = z at *
        by_cases hz : z = 0
        · subst hz
          clear hcc
          go_wp2_with (first
            | (go_at_call 51; refine hcall.out.mono ?_; rintro e w' ⟨rfl, rfl⟩))
          go_round
          case rel => exact ⟨k + 1, by omega, by omega, by go_num, by rw [Hid, hI.out, hst.out]; rfl⟩
          case measure => simp [intOf]; omega
        · have hzz : (z != 0) = true := by simpa using hz
          go_wp2_with (first
            | (go_at_call 51; refine hcall.out.mono ?_; rintro e w' ⟨rfl, rfl⟩))
          go_ret
          exact ⟨ret_int (by rw [hI.out, hst.out, if_pos hz]), rfl⟩
      · have e1 : Hid (lexC (l.drop k) (l2.drop k) = 1) := by
          rw [Hid, List.drop_eq_getElem_cons (show k < l.length by rw [hlen.out]; exact hlt), List.drop_of_length_le (show l2.length ≤ k by rw [hlen2.out]; omega)]; rfl
        go_wp2
        go_ret
        exact ⟨ret_int (by rw [hI.out, e1.out]), rfl⟩
    · have hkn : k = n := by omega
      subst hkn
      by_cases hlt2 : k < n2
      · have e1 : Hid (lexC (l.drop k) (l2.drop k) = -1) := by
          rw [Hid, List.drop_eq_getElem_cons (show k < l2.length by rw [hlen2.out]; exact hlt2), List.drop_of_length_le (show l.length ≤ k by rw [hlen.out]; omega)]; rfl
        go_wp2
        go_ret
        exact ⟨ret_int (by rw [hI.out, e1.out]), rfl⟩
      · have e1 : Hid (lexC (l.drop k) (l2.drop k) = 0) := by
          rw [Hid, List.drop_of_length_le (show l2.length ≤ k by rw [hlen2.out]; omega), List.drop_of_length_le (show l.length ≤ k by rw [hlen.out]; omega)]; rfl
        go_wp2
        go_ret
        exact ⟨ret_int (by rw [hI.out, e1.out]), rfl⟩

theorem or_any (A : Option Addr) (c : Nat) (x y z : Int) (w : World) (h : IL w A 2 c [x, y]) (hz : z = if x ≠ 0 then x else y) :
    Calls Try.prog 50 #[.slice A 2 c] w fun e w' => e = .returned (.int .i64 z) ∧ w = w' := by
  have HZ := Lib.hid hz
  clear hz
  obtain ⟨b, off, rfl, hc⟩ := h.at_ (k := 0) (by omega)
  obtain ⟨b', off', e, hc'⟩ := h.at_ (k := 1) (by omega)
  injection e with e
  injection e with e1 e2
  subst e1 e2
  have hc0 : w.cell? ⟨b, off, none⟩ = some (.int .i64 x) := by simpa using hc
  have hc1 : w.cell? ⟨b, off + 1, none⟩ = some (.int .i64 y) := by simpa using hc'
  clear hc hc'
  by_cases hx : x = 0
  · subst hx
    go_enter Try.func50, Try.ntmps50
    go_wp2_with fail
    go_loop [5, 8] (fun v i => ∃ k : Nat, k ≤ 2 ∧ i = .int .i64 k ∧ Hid (k = 2 → y = 0)) (fun _ i => 2 - (intOf i).toNat)
    case atStart => exact ⟨0, by omega, rfl, fun h => absurd h (by omega)⟩
    case round =>
      obtain ⟨k, hk, rfl, hI⟩ := hrel
      rcases (show k = 0 ∨ k = 1 ∨ k = 2 by omega) with rfl | rfl | rfl
      · go_wp2
        go_round
        case rel => exact ⟨1, by omega, rfl, fun h => absurd h (by omega)⟩
        case measure => simp [intOf]
      · by_cases hy : y = 0
        · subst hy
          go_wp2
          go_round
          case rel => exact ⟨2, by omega, rfl, fun _ => trivial⟩
          case measure => simp [intOf]
        · go_wp2
          go_ret
          exact ⟨ret_int (by rw [HZ.out]; simp), rfl⟩
      · have hy := hI.out rfl
        subst hy
        go_wp2
        go_ret
        exact ⟨ret_int (by rw [HZ.out]; simp), rfl⟩
  · go_enter Try.func50, Try.ntmps50
    go_wp2_with fail
    go_loop [5, 8] (fun v i => i = .int .i64 0) (fun _ i => 0)
    case atStart => exact rfl
    case round =>
      subst hrel
      go_wp2
      go_ret
      exact ⟨ret_int (by rw [HZ.out]; simp [hx]), rfl⟩

/-- What the comparison is: of the lengths, then of the digits. -/
theorem cmpL_eq (a b : List Int) : cmpL a b = if cmpI ((trimL a).length : Int) ((trimL b).length : Int) ≠ 0 then cmpI ((trimL a).length : Int) ((trimL b).length : Int) else lexC (trimL a) (trimL b) := by
  unfold cmpL
  by_cases h1 : (trimL a).length < (trimL b).length
  · have e : cmpI ((trimL a).length : Int) ((trimL b).length : Int) = -1 := by unfold cmpI; rw [if_pos (by omega)]
    rw [if_pos h1, e]; rfl
  · rw [if_neg h1]
    by_cases h2 : (trimL b).length < (trimL a).length
    · have e : cmpI ((trimL a).length : Int) ((trimL b).length : Int) = 1 := by unfold cmpI; rw [if_neg (by omega), if_pos (by omega)]
      rw [if_pos h2, e]; rfl
    · have e : cmpI ((trimL a).length : Int) ((trimL b).length : Int) = 0 := by unfold cmpI; rw [if_neg (by omega), if_neg (by omega)]
      rw [if_neg h2, e]; rfl

theorem I64_drop {l : List Int} (h : I64 l) (k : Nat) : I64 (l.drop k) := fun x hx => h x (List.mem_of_mem_drop hx)
theorem I64_take {l : List Int} (h : I64 l) (k : Nat) : I64 (l.take k) := fun x hx => h x (List.mem_of_mem_take hx)
theorem I64_trim {l : List Int} (h : I64 l) : I64 (trimL l) := by rw [trimL_drop]; exact I64_drop h _

set_option maxHeartbeats 1000000 in
theorem compare_any (A : Option Addr) (n c : Nat) (l : List Int) (A2 : Option Addr) (n2 c2 : Nat) (l2 : List Int) (w : World) (h : IL w A n c l) (h2 : IL w A2 n2 c2 l2) (hl : I64 l) (hl2 : I64 l2)
    (hn : n ≤ 100000000) (hn2 : n2 ≤ 100000000) :
    Calls Try.prog 38 #[.slice A n c, .slice A2 n2 c2] w (RV w (.int .i64 (cmpL l l2))) := by
  have hq := Lib.hid (cmpL_eq l l2)
  have ht1 := Lib.hid (trim_any A n c l w h hl hn)
  have hI1 := I64_trim hl
  have hI2 := I64_trim hl2
  have hb1 : (trimL l).length ≤ n := by rw [trimL_len, h.len]; omega
  have hb2 : (trimL l2).length ≤ n2 := by rw [trimL_len, h2.len]; omega
  have ht2 := fun W hW => Lib.hid (trim_any A2 n2 c2 l2 W hW hl2 hn2)
  have HT2 := Lib.hid ht2
  clear ht2 hl hl2
  generalize trimL l = t1 at *
  generalize trimL l2 = t2 at *
  go_enter Try.func38, Try.ntmps38
  go_wp2_with fail
  refine ht1.out.mono ?_
  rintro e w1 ⟨A', n', c', rfl, hO, hB⟩
  go_wp2_with fail
  refine (HT2.out _ (h2.below hB)).out.mono ?_
  rintro e w2 ⟨A2', n2', c2', rfl, hO2, hB2⟩
  have hI := hO.il.below hB2
  have hn' : n' ≤ 100000000 := by rw [← hO.len]; omega
  have hn2' : n2' ≤ 100000000 := by rw [← hO2.len]; omega
  have HL1 := Lib.hid hO.len
  have HL2 := Lib.hid hO2.len
  have hcmp := Lib.hid (cmp_any (n' : Int) (n2' : Int) w2 ⟨by omega, by omega⟩ ⟨by omega, by omega⟩)
  have hlex := Lib.hid (lex_any _ _ _ t1 _ _ _ t2 w2 hI hO2.il hI1 hI2)
  rw [Hid, HL1.out, HL2.out] at hq
  have HQ := Lib.hid hq
  clear hq
  generalize cmpI (n' : Int) (n2' : Int) = x at *
  generalize lexC t1 t2 = y at *
  go_wp2_with (first
    | (go_at_call 51; refine hcmp.out.mono ?_; rintro e w' ⟨rfl, rfl⟩)
    | (go_at_call 52; refine hlex.out.mono ?_; rintro e w' ⟨rfl, rfl⟩)
    | (go_at_call 50; refine (or_any _ _ x y _ _ (VL.lit _ _ 2 [.int .i64 x, .int .i64 y] rfl (by omega)) HQ.out).mono ?_; rintro e w' ⟨rfl, rfl⟩))
  go_ret
  exact ⟨rfl, ((below_from hB hB2).alloc (by have := (below_from hB hB2).size; omega) _)⟩

end Go.Proofs.Ytaolimhbeoocjaa
