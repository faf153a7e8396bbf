/- The walk of the program's printing of decimals. No condition. -/
import Derived.Test.YtaolimhbeoocjaaDe5
import Derived.Test.YtaolimhbeoocjaaTexts
namespace Go.Proofs.Ytaolimhbeoocjaa
open Go.RowKit

/-- A decimal's text. -/
def cutL (t : List UInt8) (s : Nat) : List UInt8 := if 0 < s then t.take (t.length - s) ++ (46 :: t.drop (t.length - s)) else t
def printL (d : Dc) : List UInt8 := if mayDc d then (if d.neg then [45] else []) ++ cutL (textL (wideL d.l (d.s.toNat + 1))) d.s.toNat else []
theorem bs_extract (t : List UInt8) (i j : Nat) : (bs t).extract i j = bs ((t.drop i).take (j - i)) := by
  have h : ((bs t).extract i j).data.toList = (t.drop i).take (j - i) := by
    rw [ByteArray.data_extract]
    simp [bs]
  rw [← bs_back ((bs t).extract i j), h]
theorem mayL_wide {l : List Int} (h : mayL l = true) (k : Nat) : mayL (wideL l k) = true := by unfold wideL; rw [mayL_append, h, mayL_replicate]; rfl
theorem textL_length {l : List Int} (h : mayL l = true) : (textL l).length = l.length := by rw [textL_may h]; simp

set_option maxHeartbeats 2000000 in
theorem cprint_any {A : Option Addr} {n c : Nat} {l : List Int} (b : Bool) (s : Int) (w : World) (h : IL w A n c l) (hl : I64 l) (hs : -9223372036854775808 ≤ s ∧ s ≤ 9223372036854775807) (hn : n ≤ 10000) :
    Calls Try.prog 15 #[.agg #[.bool b, .slice A n c, .int .i64 s]] w (RV w (.string (bs (printL ⟨b, l, s⟩)))) := by
  have hmay := Lib.hid (fun W hW => cmay_any (A := A) (n := n) (c := c) (l := l) b s W hW hl hs)
  have hPR : Hid (printL ⟨b, l, s⟩ = if mayDc ⟨b, l, s⟩ then (if b then [45] else []) ++ cutL (textL (wideL l (s.toNat + 1))) s.toNat else []) := rfl
  have hX0 := Blk.made w w 32 #[.bool b, .slice A n c, .int .i64 s] (Later.refl w) _ rfl
  have el := h.len
  generalize printL ⟨b, l, s⟩ = P at *
  cases hmd : mayDc ⟨b, l, s⟩
  · rw [hmd] at hmay
    have HP : Hid (P = []) := by rw [Hid, hPR.out, hmd]; rfl
    clear hmd
    go_enter Try.func15, Try.ntmps15
    go_wp2_with fail
    refine (hmay.out _ (h.alloc _)).mono ?_
    rintro e w1 ⟨rfl, hB1⟩
    go_wp2_with fail
    go_ret
    exact ⟨by rw [HP.out]; rfl, (hX0.call hB1).later⟩
  · rw [hmd] at hmay
    obtain ⟨hml, hs0, hs1⟩ := mayDc_iff.1 hmd
    simp only at hml hs0 hs1
    obtain ⟨s', rfl⟩ := Int.eq_ofNat_of_zero_le hs0
    have hw := Lib.hid (fun W (hW : IL W A n c l) => show Calls Try.prog 29 #[.agg #[.bool b, .slice A n c, .int .i64 (s' : Int)], .int .i64 ((s' : Int) + 1)] W (RO W (wideL l (s' + 1))) from wide_any b (s' : Int) (s' + 1) W hW (by omega) (by omega))
    have hwl := wideL_len l (s' + 1)
    have hti := Lib.hid (fun A n c W (hW : IL W A n c (wideL l (s' + 1))) hn => text_any A n c (wideL l (s' + 1)) W hW (hl.wide _) hn)
    have hmw := mayL_wide hml (s' + 1)
    have htl := textL_length hmw
    have HP : Hid (P = (if b then [45] else []) ++ cutL (textL (wideL l (s' + 1))) s') := by rw [Hid, hPR.out, hmd]; rfl
    have hwb : (wideL l (s' + 1)).length ≤ 20000 := by omega
    generalize wideL l (s' + 1) = y at *
    obtain ⟨a, ha⟩ : ∃ a, (textL y).length = a + s' := ⟨(textL y).length - s', by omega⟩
    have hab : a + s' ≤ 20000 := by omega
    generalize textL y = t at *
    have e1 : Hid ((bs t).extract 0 a = bs (t.take a)) := by rw [Hid, bs_extract]; simp
    have e2 : Hid ((bs t).extract a (a + s') = bs (t.drop a)) := by rw [Hid, bs_extract, List.take_of_length_le (by simp; omega)]
    have hcut : 0 < s' → Hid (cutL t s' = t.take a ++ (46 :: t.drop a)) := fun q => by rw [Hid, cutL, if_pos q, ha, Nat.add_sub_cancel]
    have hcut0 : s' = 0 → Hid (cutL t s' = t) := fun q => by rw [Hid, cutL, if_neg (by omega)]
    have hsz : (bs t).size = a + s' := by rw [bs_size]; exact ha
    have HSZ := Lib.hid hsz
    have z1 : ((bs t).extract 0 a).size = a := by rw [ByteArray.size_extract, hsz]; omega
    have z2 : ((bs t).extract a (a + s')).size = s' := by rw [ByteArray.size_extract, hsz]; omega
    generalize hT : bs t = T at *
    have HT := Lib.hid hT
    clear hT hmd hPR ha
    rcases Nat.eq_zero_or_pos s' with hz | hz
    · have HP2 : Hid (bs P = bs (if b then [45] else []) ++ T) := by rw [Hid, HP.out, (hcut0 hz).out, ← bs_append, HT.out]
      have hz' : ¬ 0 < s' := by omega
      clear hcut hcut0 hz
      cases b
      all_goals
        go_enter Try.func15, Try.ntmps15
        go_wp2_with fail
        refine (hmay.out _ (h.alloc _)).mono ?_
        rintro e w1 ⟨rfl, hB1⟩
        have hX1 := hX0.call hB1
        obtain ⟨⟨q0, q1, q2⟩, _⟩ := hX1.cells3
        go_wp2_with fail
        refine (hw.out _ (h.later hX1.later)).mono ?_
        rintro e w2 ⟨A2, n2, c2, rfl, hO2, hB2⟩
        have hn2 : n2 ≤ 1000000 := by have := hO2.len; omega
        go_wp2_with fail
        refine (hti.out _ _ _ _ hO2.il hn2).mono ?_
        rintro e w3 ⟨rfl, hB3⟩
        have hX3 := (hX1.call hB2).call hB3
        obtain ⟨⟨q0, q1, q2⟩, _⟩ := hX3.cells3
        go_wp2_with fail
        go_ret
        exact ⟨by rw [HP2.out]; first | rfl | (simp [bs_nil]; done), hX3.later⟩
    · have HP2 : Hid (bs P = if b then bs [45] ++ (T.extract 0 a ++ (bs [46] ++ T.extract a (a + s'))) else T.extract 0 a ++ (bs [46] ++ T.extract a (a + s'))) := by
        rw [Hid, HP.out, (hcut hz).out, e1.out, e2.out, bs_append, bs_append, bs_append]
        cases b <;> rfl
      have k1 : (({ data := #[46] } : ByteArray)).size = 1 := rfl
      have q5 : (T.extract 0 a ++ ({ data := #[46] } : ByteArray)).size = a + 1 := by rw [ByteArray.size_append, k1, z1]
      have q6 : (T.extract 0 a ++ ({ data := #[46] } : ByteArray) ++ T.extract a (a + s')).size = a + 1 + s' := by rw [ByteArray.size_append, q5, z2]
      have q7 : (T.extract 0 a ++ (({ data := #[46] } : ByteArray) ++ T.extract a (a + s'))).size = a + 1 + s' := by rw [ByteArray.size_append, ByteArray.size_append, k1, z1, z2]; omega
      clear hcut hcut0
      cases b
      all_goals
        go_enter Try.func15, Try.ntmps15
        go_wp2_with fail
        refine (hmay.out _ (h.alloc _)).mono ?_
        rintro e w1 ⟨rfl, hB1⟩
        have hX1 := hX0.call hB1
        obtain ⟨⟨q0, q1, q2⟩, _⟩ := hX1.cells3
        go_wp2_with fail
        refine (hw.out _ (h.later hX1.later)).mono ?_
        rintro e w2 ⟨A2, n2, c2, rfl, hO2, hB2⟩
        have hn2 : n2 ≤ 1000000 := by have := hO2.len; omega
        go_wp2_with fail
        refine (hti.out _ _ _ _ hO2.il hn2).mono ?_
        rintro e w3 ⟨rfl, hB3⟩
        have hX3 := (hX1.call hB2).call hB3
        obtain ⟨⟨q0, q1, q2⟩, _⟩ := hX3.cells3
        go_wp2_with fail
        go_region
        all_goals
          go_wp2_with fail
          go_ret
          exact ⟨by rw [HP2.out]; first | rfl | (simp [bs, ByteArray.append_assoc]; done), hX3.later.drew⟩

end Go.Proofs.Ytaolimhbeoocjaa
