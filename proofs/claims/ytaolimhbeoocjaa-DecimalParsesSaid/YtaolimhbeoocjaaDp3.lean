/- The walks of what the program's parsing of a decimal calls: digits, CutPrefix and Cut at one byte. No condition. -/
import Derived.Test.YtaolimhbeoocjaaDp2
import Derived.Lib.OthersKept
import Derived.Lib.Bytealg
import Derived.Lib.Strings
import Derived.BigCall
import Derived.Laws.Strings3
import Derived.WalkKit
namespace Go.Proofs.Ytaolimhbeoocjaa
open Go.RowKit

theorem index_point (l : List UInt8) : Lib.indexByte l 46 = if pointB l then ((wholeB l).length : Int) else -1 := by
  induction l with
  | nil => rfl
  | cons x r ih =>
    unfold Lib.indexByte
    by_cases hx : x = 46
    · subst hx; rfl
    · have h1 : (x == 46) = false := by simpa using hx
      have h2 : pointB (x :: r) = pointB r := by unfold pointB; rw [List.any_cons, h1]; rfl
      have h3 : wholeB (x :: r) = x :: wholeB r := by unfold wholeB; rw [List.takeWhile_cons_of_pos (by simpa using hx)]
      rw [h1, h2, h3, ih]
      cases pointB r
      · rfl
      · simp only [if_true, Bool.false_eq_true, if_false, List.length_cons]
        have : ((((wholeB r).length : Nat) : Int) == -1) = false := by
          rw [beq_eq_false_iff_ne]
          omega
        rw [this]
        simp
theorem indexByte_any (s : ByteArray) (c : Int) (w : World) :
    Calls Try.prog 61 #[.string s, .int .u8 c] w fun e w' => e = .returned (.int .i64 (Lib.indexByte s.data.toList c.toNat.toUInt8)) ∧ w' = w := by
  go_enter Try.func61, Try.ntmps61
  go_wp2
  rw [run_callFunc_extern Try.func66 (by kernel_rfl) (by kernel_rfl) (by kernel_rfl) (e := Extern.BytealgIndexByte.indexByte) (by kernel_rfl), Lib.run_indexByteString]
  simp only [Result.andThen]
  rw [Oper.upon_value]
  go_wp2
  go_ret
  exact ⟨rfl, rfl⟩
theorem index_one (s : ByteArray) (c : UInt8) (w : World) :
    Calls Try.prog 55 #[.string s, .string ⟨#[c]⟩] w fun e w' => e = .returned (.int .i64 (Lib.indexByte s.data.toList c)) ∧ w' = w := by
  go_enter Try.func55, Try.ntmps55
  go_wp2_with (go_at_call 61; refine (indexByte_any _ _ _).mono ?_; rintro e w' ⟨rfl, rfl⟩)
  · have h : ([c] == s.toList) = true := by assumption
    go_ret
    refine ⟨?_, rfl⟩
    have e : s.data.toList = [c] := by rw [← Lib.toList_data]; exact (beq_iff_eq.1 h).symm
    rw [e]
    simp [Lib.indexByte]
  · go_ret
    exact ⟨rfl, rfl⟩
set_option maxHeartbeats 1000000 in
theorem digits_any (s : ByteArray) (w : World) :
    Calls Try.prog 25 #[.string s] w (RV w (.bool (isDs s.data.toList))) := by
  have hlen : Hid (s.data.toList.length = s.size) := Array.length_toList
  go_enter Try.func25, Try.ntmps25
  go_wp2_with fail
  go_loopw [] (fun wr => ∃ pos : Nat, pos ≤ s.size ∧ wr.heap[w.heap.size]? = some (.stringIter s pos) ∧ Below w.heap.size w wr ∧ Hid ((s.data.toList.take pos).all isB = true)) (fun wr => s.size - wr.iterPos w.heap.size)
  case atStart => exact ⟨0, Nat.zero_le _, World.iter_heap w s 0, (Below.refl _ _).alloc (Nat.le_refl _) _, rfl⟩
  case round =>
    obtain ⟨pos, hle, hit, hB, hall⟩ := hrel
    by_cases hp : pos < s.size
    · have htk : Hid (s.data.toList.take (pos + 1) = s.data.toList.take pos ++ [s[pos]]) := by
        rw [Hid, List.take_succ_eq_append_getElem (by rw [hlen.out]; exact hp)]; rfl
      have hbad : isB s[pos] = false → Hid (isDs s.data.toList = false) := fun h => by
        rw [Hid]
        unfold isDs
        have : s.data.toList.all isB = false := by
          rw [List.all_eq_false]
          exact ⟨s[pos], by show s[pos] ∈ s.data.toList; exact Array.getElem_mem_toList (by exact hp), by rw [h]; simp⟩
        rw [this]; simp
      by_cases h48 : s[pos].toNat < 48
      · have HD := hbad (by simp [isB]; omega)
        have hnx := fun ty => Lib.run_next_ascii_at (P := Try.prog) wr w.heap.size s pos ty hit hp (by omega)
        have hB2 := Lib.below_iterAt hB (Nat.le_refl _) s (pos + 1)
        have h48' : (s[pos].toNat : Int) < 48 := by omega
        go_wp2_with fail
        go_ret
        exact ⟨by rw [HD.out]; rfl, hB2⟩
      by_cases h57 : 57 < s[pos].toNat
      · have HD := hbad (by simp [isB]; omega)
        have hnx := fun ty => Lib.run_next_any_at (P := Try.prog) wr w.heap.size s pos ty hit hp
        have hB2 := Lib.below_iterAt hB (Nat.le_refl _) s (pos + (Utf8.decode s pos).2)
        have hgt : 57 < (Utf8.decode s pos).1 := by
          by_cases h128 : s[pos].toNat < 128
          · rw [decode_ascii s pos hp h128]; exact h57
          · have := (decode_high s pos hp (by omega)).1; omega
        generalize Utf8.decode s pos = dd at *
        obtain ⟨r, wd⟩ := dd
        simp only at hgt hB2 hnx
        have hgt1 : ¬ (r : Int) < 48 := by omega
        have hgt2 : (57 : Int) < (r : Int) := by omega
        go_wp2_with fail
        go_ret
        exact ⟨by rw [HD.out]; rfl, hB2⟩
      · have hnx := fun ty => Lib.run_next_ascii_at (P := Try.prog) wr w.heap.size s pos ty hit hp (by omega)
        have hB2 := Lib.below_iterAt hB (Nat.le_refl _) s (pos + 1)
        have hit2 := Lib.iterAt_heap wr w.heap.size s pos (pos + 1) hit
        have hd : Hid (isB s[pos] = true) := by rw [Hid]; simp [isB]; omega
        have g1 : ¬ (s[pos].toNat : Int) < 48 := by omega
        have g2 : ¬ (57 : Int) < (s[pos].toNat : Int) := by omega
        clear hbad
        go_wp2_with fail
        go_roundw
        case rel => exact ⟨pos + 1, by omega, hit2, hB2, by rw [Hid, htk.out, List.all_append, hall.out]; simpa using hd.out⟩
        case measure =>
          simp only [World.iterPos, hit, hit2]
          omega
    · have hpe : pos = s.size := by omega
      have hal : Hid (s.data.toList.all isB = true) := by
        have := hall.out
        rw [List.take_of_length_le (by rw [hlen.out]; omega)] at this
        exact this
      have hnx := fun ty => Lib.run_next_end_at (P := Try.prog) wr w.heap.size s pos ty hit hp
      go_wp2_with fail
      all_goals
        go_ret
        refine ⟨?_, hB⟩
        unfold isDs
        rw [hal.out]
        show Ending.returned (.bool (!s.toList.isEmpty)) = _
        rw [Bool.and_true, Lib.toList_data]

theorem extract_one {s : ByteArray} (h : 0 < s.size) : (s.extract 0 1).toList = [s[0]] := by
  have e := bs_extract s.data.toList 0 1
  rw [bs_back] at e
  rw [e, Lib.toList_data, bs_list]
  rw [List.drop_zero]
  have hl : s.data.toList.length = s.size := Array.length_toList
  have := List.take_succ_eq_append_getElem (l := s.data.toList) (i := 0) (by omega)
  rw [this]
  rfl
theorem hasprefix_any (s : ByteArray) (w : World) :
    Calls Try.prog 54 #[.string s, .string ⟨#[45]⟩] w fun e w' => e = .returned (.bool (negB s.data.toList)) ∧ w = w' := by
  rcases Nat.eq_zero_or_pos s.size with h0 | h0
  · have hn := (neg_nil h0).1
    rw [hn]
    go_enter Try.func54, Try.ntmps54
    go_wp2
    go_ret
    exact ⟨rfl, rfl⟩
  · have hn := neg_at h0
    have he : Hid (((s.extract 0 1).toList == [45]) = negB s.data.toList) := by
      rw [Hid, extract_one h0, hn]
      simp
    generalize negB s.data.toList = nb at *
    have h1 : (1 : Int) ≤ (s.size : Int) := by omega
    have h2 : 1 ≤ s.size := h0
    go_enter Try.func54, Try.ntmps54
    go_wp2_with fail
    go_ret
    exact ⟨by rw [← he.out]; rfl, rfl⟩

end Go.Proofs.Ytaolimhbeoocjaa
