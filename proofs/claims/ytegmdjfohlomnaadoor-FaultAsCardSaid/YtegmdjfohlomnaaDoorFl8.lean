/- The walks of the document's Decimal and Text. No condition. -/
import Derived.Test.YtegmdjfohlomnaaDoorFl6
import Derived.Deep.OwnRows
import Derived.Laws.IdiomStrings
import Derived.Laws.Concat
namespace Go.Proofs.YtegmdjfohlomnaaDoor
open Go.RowKit

def bs (l : List UInt8) : ByteArray := ⟨l.toArray⟩
theorem bs_append (a b : List UInt8) : bs a ++ bs b = bs (a ++ b) := by unfold bs; rw [ByteArray.mk_append_mk]
theorem conv_one (x : Int) (hx : 0 ≤ x ∧ x ≤ 255) (g : Nat) (W : World) (hc : W.cell? ⟨g, 0, none⟩ = some (.int .u8 x)) :
    (convert 74 9 (.slice (some ⟨g, 0, none⟩) 1 1)).run Tryd.prog W = .ok (.string (bs [UInt8.ofNat x.toNat])) W := by
  have := run_convert_bytes_back (P := Tryd.prog) W 74 9 5 ⟨g, 0, none⟩ 1 [UInt8.ofNat x.toNat] Tryd.underlying74 Tryd.underlying5 Tryd.underlying9 (by
    intro j hj
    obtain rfl : j = 0 := by simpa using hj
    rw [Addr.add_lit, hc]
    simp only [List.getElem_cons_zero, UInt8.toNat_ofNat']
    congr 2
    omega)
  exact this

theorem dec_small {u : Nat} (h : u < 10) : Lib.decDigits u = [UInt8.ofNat (48 + u)] := by rw [Lib.decDigits, dif_pos h]
theorem dec_big {u : Nat} (h : ¬ u < 10) : Lib.decDigits u = Lib.decDigits (u / 10) ++ [UInt8.ofNat (48 + u % 10)] := by rw [Lib.decDigits, dif_neg h]
theorem itB_neg {n d : Int} (hn : n < 0) (hb : -10 < n) (hd : d = (n.natAbs % 10 : Nat)) : itB n = bs [45] ++ bs [UInt8.ofNat (48 + d).toNat] := by
  rw [bs_append]
  unfold itB Lib.itoa
  rw [if_pos hn, dec_small (by omega)]
  show bs _ = _
  congr 4
  omega
theorem itB_small {n d : Int} (hn : ¬ n < 0) (hb : n < 10) (hd : d = (n.natAbs % 10 : Nat)) : itB n = bs [UInt8.ofNat (48 + d).toNat] := by
  unfold itB Lib.itoa
  rw [if_neg hn, dec_small (by omega)]
  show bs _ = _
  congr 3
  omega
theorem itB_big {n d : Int} (hb : n ≤ -10 ∨ 10 ≤ n) (hd : d = (n.natAbs % 10 : Nat)) : itB n = itB (n.tdiv 10) ++ bs [UInt8.ofNat (48 + d).toNat] := by
  have hq : n.tdiv 10 = if n < 0 then -((n.natAbs / 10 : Nat) : Int) else ((n.natAbs / 10 : Nat) : Int) := by
    split
    · have : n = -(n.natAbs : Int) := by omega
      rw [this, Int.neg_tdiv, Int.tdiv_eq_ediv_of_nonneg (by omega)]
      simp
    · rw [Int.tdiv_eq_ediv_of_nonneg (by omega)]
      omega
  unfold itB
  rw [show ∀ l : List UInt8, (⟨l.toArray⟩ : ByteArray) = bs l from fun _ => rfl, show ∀ l : List UInt8, (⟨l.toArray⟩ : ByteArray) = bs l from fun _ => rfl, bs_append]
  congr 1
  unfold Lib.itoa
  have hdd : (48 + d).toNat = 48 + n.natAbs % 10 := by omega
  rw [hq, hdd]
  by_cases hn : n < 0
  · rw [if_pos hn, if_pos hn, if_pos (by omega), dec_big (by omega)]
    rw [show (-((n.natAbs / 10 : Nat) : Int)).natAbs = n.natAbs / 10 by omega]
    rfl
  · rw [if_neg hn, if_neg hn, if_neg (by omega), dec_big (by omega)]
    rw [show (((n.natAbs / 10 : Nat) : Int)).toNat = n.natAbs / 10 by omega, show n.toNat = n.natAbs by omega]

theorem dec_len : ∀ (k u : Nat), u < 10 ^ (k + 1) → (Lib.decDigits u).length ≤ k + 1
  | 0, u, h => by rw [dec_small (by simpa using h)]; simp
  | k + 1, u, h => by
    by_cases hu : u < 10
    · rw [dec_small hu]; simp
    · rw [dec_big hu]
      have := dec_len k (u / 10) (by rw [Nat.pow_succ] at h; omega)
      simp
      omega
theorem itB_size {n : Int} (h0 : -9223372036854775808 ≤ n) (h1 : n ≤ 9223372036854775807) : (itB n).size ≤ 21 := by
  have e : (itB n).size = (Lib.itoa n).length := by simp [itB, ByteArray.size]
  rw [e]
  unfold Lib.itoa
  split
  · have := dec_len 19 n.natAbs (by omega)
    simp
    omega
  · have := dec_len 19 n.toNat (by omega)
    omega
theorem tmod_is (n : Int) : n.tmod 10 = if n < 0 then -((n.natAbs % 10 : Nat) : Int) else ((n.natAbs % 10 : Nat) : Int) := by
  split
  · have : n = -(n.natAbs : Int) := by omega
    rw [this, Int.neg_tmod, Int.tmod_eq_emod_of_nonneg (by omega)]
    simp
  · rw [Int.tmod_eq_emod_of_nonneg (by omega)]
    omega

set_option maxHeartbeats 1000000 in
theorem decimal_any (m : Nat) : ∀ (n : Int) (w : World), n.natAbs = m → -9223372036854775808 ≤ n → n ≤ 9223372036854775807 → Calls Tryd.prog 31 #[.int .i64 n] w (RV w (.string (itB n))) := by
  induction m using Nat.strongRecOn with
  | _ m ih =>
  intro n w hm h0 h1
  have hmod := Lib.hid (tmod_is n)
  have hrec := Lib.hid (fun W => fun hb : 10 ≤ n.natAbs => ih (n.tdiv 10).natAbs (by rw [Int.natAbs_tdiv, ← hm]; show n.natAbs / 10 < n.natAbs; omega) (n.tdiv 10) W rfl (by have := Int.natAbs_tdiv n 10; have h2 : (n.tdiv 10).natAbs = n.natAbs / 10 := this; omega) (by have := Int.natAbs_tdiv n 10; have h2 : (n.tdiv 10).natAbs = n.natAbs / 10 := this; omega))
  have hq0 : -9223372036854775808 ≤ n.tdiv 10 ∧ n.tdiv 10 ≤ 9223372036854775807 := by have := Int.natAbs_tdiv n 10; have h2 : (n.tdiv 10).natAbs = n.natAbs / 10 := this; omega
  have hts := itB_size hq0.1 hq0.2
  clear ih
  by_cases hr : n.tmod 10 < 0
  · have hd : Hid (-(n.tmod 10) = (n.natAbs % 10 : Nat)) := by have h2 := hmod.out; unfold Hid; split at h2 <;> omega
    have hd2 : 0 ≤ -(n.tmod 10) ∧ -(n.tmod 10) ≤ 9 := by have := hd.out; omega
    have hd3 : 0 ≤ 48 + -(n.tmod 10) ∧ 48 + -(n.tmod 10) ≤ 255 := by omega
    have hcv := conv_one (48 + -(n.tmod 10)) hd3
    have hd4 := Lib.hid hd.out
    have hone : (bs [UInt8.ofNat (48 + -(n.tmod 10)).toNat]).size ≤ 1 := by simp [bs, ByteArray.size]
    have hneg : n < 0 := by have h2 := hmod.out; split at h2 <;> omega
    by_cases hb : -10 < n
    · have hfin := Lib.hid (itB_neg hneg hb hd.out)
      clear hrec hmod hd hd4
      generalize itB n = it at *
      generalize bs [UInt8.ofNat (48 + -(n.tmod 10)).toNat] = one at *
      go_enter Tryd.func31, Tryd.ntmps31
      go_wp2
      go_ret
      exact ⟨by rw [hfin.out]; rfl, (Below.refl _ _).alloc (Nat.le_refl _) _⟩
    · have hfin := Lib.hid (itB_big (Or.inl (by omega)) hd.out)
      have hrec2 := Lib.hid (fun W => hrec.out W (by omega))
      clear hrec hmod hd hd4
      generalize itB (n.tdiv 10) = t at *
      generalize itB n = it at *
      generalize bs [UInt8.ofNat (48 + -(n.tmod 10)).toNat] = one at *
      go_enter Tryd.func31, Tryd.ntmps31
      go_wp2_with (go_at_call 31; refine (hrec2.out _).mono ?_; rintro e w2 ⟨rfl, hb2'⟩)
      go_ret
      exact ⟨by rw [hfin.out]; rfl, ((Below.refl _ _).alloc (Nat.le_refl _) _).trans (hb2'.mono (by simp))⟩
  · by_cases hneg0 : n < 0
    · have hd : Hid (n.tmod 10 = (n.natAbs % 10 : Nat)) := by have h2 := hmod.out; unfold Hid; split at h2 <;> omega
      have hd2 : 0 ≤ n.tmod 10 ∧ n.tmod 10 ≤ 9 := by have := hd.out; omega
      have hd3 : 0 ≤ 48 + n.tmod 10 ∧ 48 + n.tmod 10 ≤ 255 := by omega
      have hb : ¬ -10 < n := by have h2 := hmod.out; rw [if_pos hneg0] at h2; omega
      have hcv := conv_one (48 + n.tmod 10) hd3
      have hd4 := Lib.hid hd.out
      have hone : (bs [UInt8.ofNat (48 + n.tmod 10).toNat]).size ≤ 1 := by simp [bs, ByteArray.size]
      have hfin := Lib.hid (itB_big (Or.inl (by omega)) hd.out)
      have hrec2 := Lib.hid (fun W => hrec.out W (by omega))
      clear hrec hmod hd hd4
      generalize itB (n.tdiv 10) = t at *
      generalize itB n = it at *
      generalize bs [UInt8.ofNat (48 + n.tmod 10).toNat] = one at *
      go_enter Tryd.func31, Tryd.ntmps31
      go_wp2_with (go_at_call 31; refine (hrec2.out _).mono ?_; rintro e w2 ⟨rfl, hb2'⟩)
      go_ret
      exact ⟨by rw [hfin.out]; rfl, ((Below.refl _ _).alloc (Nat.le_refl _) _).trans (hb2'.mono (by simp))⟩
    · have e1 : n.tmod 10 = n % 10 := Int.tmod_eq_emod_of_nonneg (by omega)
      have e2 : n.tdiv 10 = n / 10 := Int.tdiv_eq_ediv_of_nonneg (by omega)
      have hbig := Lib.hid (fun hb : n ≤ -10 ∨ 10 ≤ n => itB_big (d := n % 10) hb (by omega))
      rw [e1] at hr
      rw [e2] at hrec hq0 hts hbig
      clear e1 e2 hmod
      have hd : Hid (n % 10 = (n.natAbs % 10 : Nat)) := by unfold Hid; omega
      have hd2 : 0 ≤ n % 10 ∧ n % 10 ≤ 9 := by omega
      have hd3 : 0 ≤ 48 + n % 10 ∧ 48 + n % 10 ≤ 255 := by omega
      have hb : -10 < n := by omega
      have hcv := conv_one (48 + n % 10) hd3
      have hd4 := Lib.hid hd.out
      have hone : (bs [UInt8.ofNat (48 + n % 10).toNat]).size ≤ 1 := by simp [bs, ByteArray.size]
      by_cases hb2 : n < 10
      · have hfin := Lib.hid (itB_small hneg0 hb2 hd.out)
        clear hrec hbig hd hd4
        generalize itB n = it at *
        generalize bs [UInt8.ofNat (48 + n % 10).toNat] = one at *
        go_enter Tryd.func31, Tryd.ntmps31
        go_wp2
        go_ret
        exact ⟨by rw [hfin.out]; rfl, (Below.refl _ _).alloc (Nat.le_refl _) _⟩
      · have hfin := Lib.hid (hbig.out (Or.inr (by omega)))
        have hrec2 := Lib.hid (fun W => hrec.out W (by omega))
        clear hrec hbig hd hd4
        generalize itB (n / 10) = t at *
        generalize itB n = it at *
        generalize bs [UInt8.ofNat (48 + n % 10).toNat] = one at *
        go_enter Tryd.func31, Tryd.ntmps31
        go_wp2_with (go_at_call 31; refine (hrec2.out _).mono ?_; rintro e w2 ⟨rfl, hb2'⟩)
        go_ret
        exact ⟨by rw [hfin.out]; rfl, ((Below.refl _ _).alloc (Nat.le_refl _) _).trans (hb2'.mono (by simp))⟩


end Go.Proofs.YtegmdjfohlomnaaDoor
