/- The walk of the document's printing of a decimal. No condition. -/
import Derived.Test.YtaolimhbeoocjaaDe13
import Derived.Test.YtaolimhbeoocjaaDe5
namespace Go.Proofs.Ytaolimhbeoocjaa
open Go.RowKit

theorem textL_wide {l : List Int} (h : mayL l = true) (k : Nat) : textL (wideL l k) = List.replicate (k - l.length) 48 ++ textL l := by
  rw [textL_may (mayL_wide h k), textL_may h]
  unfold wideL
  rw [List.map_append, List.map_replicate]
  rfl
def szOf : Value → Nat
  | .string x => x.size
  | _ => 0
set_option maxHeartbeats 4000000 in
theorem rprint_any {A : Option Addr} {n c : Nat} {l : List Int} (b : Bool) (s : Int) (w : World) (h : IL w A n c l) (hn : n ≤ 10000) (hs : -9223372036854775808 ≤ s ∧ s ≤ 9223372036854775807) :
    Calls Try.prog 5 #[.agg #[.bool b, .slice A n c, .int .i64 s]] w (RV w (.string (bs (printL ⟨b, l, s⟩)))) := by
  have hmay := Lib.hid (fun W hW => rcmay_any (A := A) (n := n) (c := c) (l := l) b s W hW hs)
  have hX0 := Blk.made w w 24 #[.bool b, .slice A n c, .int .i64 s] (Later.refl w) _ rfl
  have hlen := h.len
  obtain ⟨P, hP⟩ : ∃ P, printL ⟨b, l, s⟩ = P := ⟨_, rfl⟩
  have hPR : Hid (P = if mayDc ⟨b, l, s⟩ then (if b then [45] else []) ++ cutL (textL (wideL l (s.toNat + 1))) s.toNat else []) := by rw [Hid, ← hP]; rfl
  rw [hP]
  clear hP
  cases hmd : mayDc ⟨b, l, s⟩
  · have HP : Hid (P = []) := by rw [Hid, hPR.out, hmd]; rfl
    rw [hmd] at hmay
    clear hPR hmd
    go_enter Try.func5, Try.ntmps5
    go_wp2_with fail
    refine (hmay.out _ (h.alloc _)).mono ?_
    rintro e w1 ⟨rfl, hB1⟩
    go_wp2_with fail
    go_ret
    exact ⟨by rw [HP.out]; rfl, (hX0.call hB1).later⟩
  · rw [hmd] at hmay
    obtain ⟨hml, hs0, hs1⟩ := mayDc_iff.1 hmd
    simp only at hml hs0 hs1
    obtain ⟨s', rfl⟩ := Int.eq_ofNat_of_zero_le hs0
    have hwl := wideL_len l (s' + 1)
    have hti := Lib.hid (fun A n c W (hW : IL W A n c l) hn => rtext_any A n c l W hW hn)
    have hmw := mayL_wide hml (s' + 1)
    have htl := textL_length hmw
    have htx : Hid (textL (wideL l (s' + 1)) = List.replicate (s' + 1 - n) 48 ++ textL l) := by rw [Hid, textL_wide hml, hlen]
    have ht0 : (textL l).length = n := by rw [textL_length hml]; exact hlen
    have HP : Hid (P = (if b then [45] else []) ++ cutL (textL (wideL l (s' + 1))) s') := by rw [Hid, hPR.out, hmd]; rfl
    have hwb : (wideL l (s' + 1)).length ≤ 20000 := by omega
    have hs' : s' ≤ 1000 := by omega
    generalize hyy : wideL l (s' + 1) = y at *
    clear hyy
    obtain ⟨a, ha⟩ : ∃ a, (textL y).length = a + s' := ⟨(textL y).length - s', by omega⟩
    have hab : a + s' ≤ 20000 := by omega
    generalize textL l = t0 at *
    generalize textL y = t at *
    have e1 : Hid ((bs t).extract 0 a = bs (t.take a)) := by rw [Hid, bs_extract]; simp
    have e2 : Hid ((bs t).extract a (a + s') = bs (t.drop a)) := by rw [Hid, bs_extract, List.take_of_length_le (by simp; omega)]
    have hcut : 0 < s' → Hid (cutL t s' = t.take a ++ (46 :: t.drop a)) := fun q => by rw [Hid, cutL, if_pos q, ha, Nat.add_sub_cancel]
    have hcut0 : s' = 0 → Hid (cutL t s' = t) := fun q => by rw [Hid, cutL, if_neg (by omega)]
    have hsz : (bs t).size = a + s' := by rw [bs_size]; exact ha
    have HSZ := Lib.hid hsz
    have z1 : ((bs t).extract 0 a).size = a := by rw [ByteArray.size_extract, hsz]; omega
    have z2 : ((bs t).extract a (a + s')).size = s' := by rw [ByteArray.size_extract, hsz]; omega
    generalize hT : bs t = T at *
    have HT := Lib.hid hT
    clear hT hmd hPR ha
    have hT0 : ∀ j, (bs (List.replicate j 48 ++ t0)).size = j + n := fun j => by rw [bs_size, List.length_append, List.length_replicate, ht0]
    have HTX : Hid (bs (List.replicate (s' + 1 - n) 48 ++ t0) = T) := by rw [Hid, ← htx.out]; exact HT.out
    have happ : ∀ j, Hid (({ data := #[48] } : ByteArray) ++ bs (List.replicate j 48 ++ t0) = bs (List.replicate (j + 1) 48 ++ t0)) := fun j => by
      rw [Hid, show ({ data := #[48] } : ByteArray) = bs [48] from rfl, bs_append, List.replicate_succ]; rfl
    go_enter Try.func5, Try.ntmps5
    go_wp2_with fail
    refine (hmay.out _ (h.alloc _)).mono ?_
    rintro e w1 ⟨rfl, hB1⟩
    have hX1 := hX0.call hB1
    obtain ⟨⟨q0, q1, q2⟩, _⟩ := hX1.cells3
    go_wp2_with fail
    refine (hti.out _ _ _ _ (h.later hX1.later) (by omega)).mono ?_
    rintro e w2 ⟨rfl, hB2⟩
    have hX2 := hX1.call hB2
    clear q0 q1 q2 hX1 hX0 hB1 hB2 hti hmay
    obtain ⟨⟨q0, q1, q2⟩, _⟩ := hX2.cells3
    go_wp2_with fail
    go_loopw [4] (fun v wr => ∃ j : Nat, j ≤ s' + 1 - n ∧ v = .string (bs (List.replicate j 48 ++ t0)) ∧ wr = w2) (fun v _ => s' + 1 - szOf v)
    case atStart => exact ⟨0, Nat.zero_le _, rfl, rfl⟩
    case round =>
      obtain ⟨j, hj, rfl, rfl⟩ := hrel
      have hz0 := hT0 j
      have hz1 := hT0 (j + 1)
      have hap := happ j
      by_cases hlt : j + n < s' + 1
      · generalize bs (List.replicate j 48 ++ t0) = U at *
        generalize hU2 : bs (List.replicate (j + 1) 48 ++ t0) = U2 at *
        have hlt2 : ((U.size : Nat) : Int) < (s' : Int) + 1 := by omega
        go_wp2_with fail
        go_roundw
        case rel => exact ⟨j + 1, by omega, by rw [hap.out, hU2], trivial⟩
        case measure =>
          simp only [szOf]
          rw [hap.out]
          omega
      have hjn : j = s' + 1 - n := by omega
      subst hjn
      clear hap hz1 happ hT0
      rw [HTX.out] at hz0 ⊢
      have hnlt : ¬ ((T.size : Nat) : Int) < (s' : Int) + 1 := by omega
      have hwr : ((T.size : Nat) : Int) - (s' : Int) = (a : Int) := by omega
      clear HTX htx ht0 hj hlt hz0
      rcases Nat.eq_zero_or_pos s' with hz | hz
      · have HP2 : Hid (bs P = bs (if b then [45] else []) ++ T) := by rw [Hid, HP.out, (hcut0 hz).out, ← bs_append, HT.out]
        have hz' : ¬ 0 < s' := by omega
        clear hcut hcut0 hz
        cases b
        all_goals
          go_wp2_with fail
          go_ret
          exact ⟨by rw [HP2.out]; first | rfl | (simp [bs_nil]; done), hX2.later⟩
      · have HP2 : Hid (bs P = if b then bs [45] ++ (T.extract 0 a ++ (bs [46] ++ T.extract a (a + s'))) else T.extract 0 a ++ (bs [46] ++ T.extract a (a + s'))) := by
          rw [Hid, HP.out, (hcut hz).out, e1.out, e2.out, bs_append, bs_append, bs_append]
          cases b <;> rfl
        have k1 : (({ data := #[46] } : ByteArray)).size = 1 := rfl
        have q5 : (T.extract 0 a ++ ({ data := #[46] } : ByteArray)).size = a + 1 := by rw [ByteArray.size_append, k1, z1]
        have q6 : (T.extract 0 a ++ ({ data := #[46] } : ByteArray) ++ T.extract a (a + s')).size = a + 1 + s' := by rw [ByteArray.size_append, q5, z2]
        have q7 : (T.extract 0 a ++ (({ data := #[46] } : ByteArray) ++ T.extract a (a + s'))).size = a + 1 + s' := by rw [ByteArray.size_append, ByteArray.size_append, k1, z1, z2]; omega
        clear hcut hcut0
        cases b
        all_goals
          go_wp2_with fail
          go_region
          all_goals
            go_wp2_with fail
            go_ret
            exact ⟨by rw [HP2.out]; first | rfl | (simp [bs, ByteArray.append_assoc]; done), hX2.later.drew⟩

end Go.Proofs.Ytaolimhbeoocjaa
