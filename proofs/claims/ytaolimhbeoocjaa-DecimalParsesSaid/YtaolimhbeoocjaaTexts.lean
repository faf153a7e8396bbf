/- The walks of digits' texts. No condition. -/
import Derived.Test.YtaolimhbeoocjaaL5b
import Derived.Deep.OwnRows
import Derived.Laws.IdiomStrings
import Derived.Laws.Concat
namespace Go.Proofs.Ytaolimhbeoocjaa
open Go.RowKit

/-- A list of bytes as a string. -/
def bs (l : List UInt8) : ByteArray := ⟨l.toArray⟩
theorem bs_size (l : List UInt8) : (bs l).size = l.length := by simp [bs, ByteArray.size]
theorem bs_append (a b : List UInt8) : bs a ++ bs b = bs (a ++ b) := by unfold bs; rw [ByteArray.mk_append_mk]
theorem bs_list (l : List UInt8) : (bs l).data.toList = l := by simp [bs]
theorem bs_back (s : ByteArray) : bs s.data.toList = s := by simp [bs]
theorem bs_nil : bs [] = { data := #[] } := rfl

def byteOf (d : Int) : UInt8 := UInt8.ofNat (48 + d).toNat
theorem byteOf_nat {d : Int} (h : 0 ≤ d ∧ d ≤ 9) : ((byteOf d).toNat : Int) = 48 + d := by
  unfold byteOf
  rw [UInt8.toNat_ofNat']
  omega
def textL (l : List Int) : List UInt8 := if mayL l then l.map byteOf else []
theorem textL_may {l : List Int} (h : mayL l = true) : textL l = l.map byteOf := by unfold textL; rw [if_pos h]
theorem textL_not {l : List Int} (h : mayL l = false) : textL l = [] := by unfold textL; rw [h]; rfl
theorem textL_len (l : List Int) : (textL l).length ≤ l.length := by unfold textL; split <;> simp

def isB (c : UInt8) : Bool := decide (48 ≤ c.toNat) && decide (c.toNat ≤ 57)
def parseR (l : List UInt8) : List Int × Int := if l.all isB then (l.map fun c => (c.toNat : Int) - 48, 0) else ([], 2)
theorem parse_text {l : List Int} (h : mayL l = true) : parseR (textL l) = (l, 0) := by
  have hb := mayL_iff.1 h
  rw [textL_may h]
  unfold parseR
  have h1 : (l.map byteOf).all isB = true := by
    rw [List.all_eq_true]
    intro c hc
    obtain ⟨d, hd, rfl⟩ := List.mem_map.1 hc
    have := byteOf_nat (hb d hd)
    have := hb d hd
    simp [isB]
    omega
  rw [if_pos h1]
  congr 1
  rw [List.map_map]
  conv => rhs; rw [← List.map_id l]
  apply List.map_congr_left
  intro d hd
  have := byteOf_nat (hb d hd)
  simp only [Function.comp, id]
  omega
theorem text_parse {l : List UInt8} (h : l.all isB = true) : textL (parseR l).1 = l ∧ mayL (parseR l).1 = true := by
  unfold parseR
  rw [if_pos h]
  rw [List.all_eq_true] at h
  have hm : mayL (l.map fun c => (c.toNat : Int) - 48) = true := by
    rw [mayL_iff]
    intro x hx
    obtain ⟨c, hc, rfl⟩ := List.mem_map.1 hx
    have := h c hc
    simp [isB] at this
    omega
  refine ⟨?_, hm⟩
  rw [textL_may hm, List.map_map]
  conv => rhs; rw [← List.map_id l]
  apply List.map_congr_left
  intro c hc
  have h2 := h c hc
  simp [isB] at h2
  simp only [Function.comp, id, byteOf]
  have : (48 + ((c.toNat : Int) - 48)).toNat = c.toNat := by omega
  rw [this]
  simp

theorem byte_info : (Try.prog.info? 5).map (fun i => (i.zero, i.size, i.bytes)) = some (some (.int .u8 0), 1, 1) := by kernel_rfl

/-- The cells of a text, so many of them written. -/
def txtCells (l : List Int) (k : Nat) : Array Value := ((List.range l.length).map fun i => if i < k then Value.int .u8 (48 + l.getD i 0) else Value.int .u8 0).toArray
theorem txtCells_zero (l : List Int) : madeCells #[Value.int .u8 0] l.length = txtCells l 0 := by
  apply Array.ext
  · simp [txtCells, madeCells]
  · intro i h1 h2
    simp [txtCells, madeCells, Nat.mod_one]
theorem txtCells_step (l : List Int) (k : Nat) (_hk : k < l.length) : (txtCells l k).setIfInBounds k (.int .u8 (48 + l.getD k 0)) = txtCells l (k + 1) := by
  apply Array.ext
  · simp [txtCells]
  · intro i h1 h2
    have hi : i < l.length := by simpa [txtCells] using h2
    rw [Array.getElem_setIfInBounds (by simpa [txtCells] using hi)]
    simp only [txtCells, List.getElem_toArray, List.getElem_map, List.getElem_range]
    by_cases h3 : k = i
    · subst h3
      rw [if_pos rfl, if_pos (by omega)]
    · rw [if_neg h3]
      by_cases h4 : i < k
      · rw [if_pos h4, if_pos (by omega)]
      · rw [if_neg h4, if_neg (by omega)]
theorem txtCells_get {l : List Int} {k i : Nat} (hk : k < l.length) : (txtCells l i)[k]? = some (if k < i then Value.int .u8 (48 + l.getD k 0) else Value.int .u8 0) := by
  simp [txtCells, List.getElem?_range hk]

theorem conv_text (w : World) (l : List Int) (n : Nat) (hn : n = l.length) (hm : mayL l = true) :
    (convert 30 9 (.slice (some ⟨w.heap.size, 0, none⟩) n n)).run Try.prog (w.alloc (.cells (txtCells l n) 5)) = .ok (.string (bs (textL l))) (w.alloc (.cells (txtCells l n) 5)) := by
  have hl : (textL l).length = n := by rw [textL_may hm, hn]; simp
  have := run_convert_bytes_back (P := Try.prog) (w.alloc (.cells (txtCells l n) 5)) 30 9 5 ⟨w.heap.size, 0, none⟩ n (textL l) Try.underlying30 Try.underlying5 Try.underlying9 (by
    intro j hj
    rw [Addr.add_lit, World.cell?_alloc_at _ _ _ _ rfl, Nat.zero_add, txtCells_get (by omega), if_pos (by omega)]
    congr 2
    have hj2 : j < l.length := by omega
    have hb := mayL_getD hm j
    have e : (textL l)[j] = byteOf (l.getD j 0) := by
      simp only [textL_may hm, List.getElem_map]
      congr 1
      simp [List.getD, List.getElem?_eq_getElem hj2]
    rw [e, byteOf_nat hb])
  rw [hl] at this
  exact this

set_option maxHeartbeats 1000000 in
theorem text_any (A : Option Addr) (n c : Nat) (l : List Int) (w : World) (h : IL w A n c l) (hl : I64 l) (hn : n ≤ 1000000) :
    Calls Try.prog 28 #[.slice A n c] w (RV w (.string (bs (textL l)))) := by
  have hcap := h.cap
  have hle := h.le
  have hlen := Lib.hid h.len
  have hm1 := Lib.hid (may_any A n c l w h hl)
  cases ha : mayL l
  · have hr : Hid (bs (textL l) = { data := #[] }) := by rw [Hid, textL_not ha, bs_nil]
    rw [ha] at hm1
    clear ha
    go_enter Try.func28, Try.ntmps28
    go_wp2_with (first | (go_at_call 30; refine hm1.out.mono ?_; rintro e w' ⟨rfl, rfl⟩))
    go_ret
    exact ⟨by rw [hr.out]; rfl, Below.refl _ _⟩
  · rw [ha] at hm1
    have HA := Lib.hid ha
    clear ha
    have hmk := run_make_row' (P := Try.prog) 30 5 (.int .u8 0) 1 Try.underlying30 byte_info rfl .i64 .i64 n (by omega) (by omega)
    have h0 : madeCells #[Value.int .u8 0] n = txtCells l 0 := by rw [← hlen.out]; exact txtCells_zero l
    rw [h0] at hmk
    clear h0
    have hcv : Hid (∀ W : World, (convert 30 9 (.slice (some ⟨W.heap.size, 0, none⟩) n n)).run Try.prog (W.alloc (.cells (txtCells l n) 5)) = .ok (.string (bs (textL l))) (W.alloc (.cells (txtCells l n) 5))) :=
      fun W => conv_text W l n hlen.out.symm HA.out
    go_enter Try.func28, Try.ntmps28
    go_wp2_with (first | (go_at_call 30; refine hm1.out.mono ?_; rintro e w' ⟨rfl, rfl⟩))
    go_loopw [14] (fun i wr => ∃ k : Nat, k ≤ n ∧ i = .int .i64 k ∧ wr = w.alloc (.cells (txtCells l k) 5)) (fun i _ => n - (intOf i).toNat)
    case atStart => exact ⟨0, Nat.zero_le _, rfl, rfl⟩
    case round =>
      obtain ⟨k, hk, rfl, rfl⟩ := hrel
      by_cases hlt : k < n
      · obtain ⟨b, off, rfl, hc⟩ := (h.alloc (.cells (txtCells l k) 5)).at_ hlt
        have hst := Lib.hid (txtCells_step l k (by rw [hlen.out]; exact hlt))
        have hx := mayL_getD HA.out k
        have hcb : (w.alloc (.cells (txtCells l k) 5)).cell? ⟨w.heap.size, k, none⟩ = some (.int .u8 0) := by
          rw [World.cell?_alloc_at _ _ _ _ rfl, txtCells_get (by rw [hlen.out]; exact hlt), if_neg (by omega)]
        generalize l.getD k 0 = x at *
        go_wp2
        go_roundw
        case rel => exact ⟨k + 1, by omega, by go_num, by rw [hst.out]⟩
        case measure => simp [intOf]; omega
      · have hkn : k = n := by omega
        subst hkn
        have hcv2 := hcv.out w
        go_wp2
        go_ret
        exact ⟨rfl, (Below.refl _ _).alloc (Nat.le_refl _) _⟩

/-! ### The document's -/
theorem conv_one (x : Int) (hx : 0 ≤ x ∧ x ≤ 255) (g : Nat) (W : World) (hc : W.cell? ⟨g, 0, none⟩ = some (.int .u8 x)) :
    (convert 30 9 (.slice (some ⟨g, 0, none⟩) 1 1)).run Try.prog W = .ok (.string (bs [UInt8.ofNat x.toNat])) W := by
  have := run_convert_bytes_back (P := Try.prog) W 30 9 5 ⟨g, 0, none⟩ 1 [UInt8.ofNat x.toNat] Try.underlying30 Try.underlying5 Try.underlying9 (by
    intro j hj
    obtain rfl : j = 0 := by simpa using hj
    rw [Addr.add_lit, hc]
    simp only [List.getElem_cons_zero, UInt8.toNat_ofNat']
    congr 2
    omega)
  exact this

theorem map_take_succ {α β : Type} (f : α → β) (l : List α) (d : α) (k : Nat) (h : k < l.length) : (l.take (k + 1)).map f = (l.take k).map f ++ [f (l.getD k d)] := by
  rw [List.take_succ_eq_append_getElem h, List.map_append]
  simp [List.getD, List.getElem?_eq_getElem h]

set_option maxHeartbeats 1000000 in
theorem rtext_any (A : Option Addr) (n c : Nat) (l : List Int) (w : World) (h : IL w A n c l) (hn : n ≤ 1000000) :
    Calls Try.prog 20 #[.slice A n c] w (RV w (.string (bs (textL l)))) := by
  have hcap := h.cap
  have hle := h.le
  have hlen := Lib.hid h.len
  go_enter Try.func20, Try.ntmps20
  go_wp2
  go_loopw [3, 4] (fun s i wr => ∃ (k : Nat) (t : ByteArray), k ≤ n ∧ i = .int .i64 k ∧ s = .string t ∧ Hid (t = bs ((l.take k).map byteOf)) ∧ t.size ≤ 1000000 ∧ Hid (mayL l = mayL (l.drop k)) ∧ Below w.heap.size w wr) (fun _ i _ => n - (intOf i).toNat)
  case atStart => exact ⟨0, { data := #[] }, Nat.zero_le _, rfl, rfl, rfl, by simp [ByteArray.size], rfl, Below.refl _ _⟩
  case round =>
    obtain ⟨k, t, hk, rfl, rfl, hT, hts, hM, hB⟩ := hrel
    have hsz := hB.size
    by_cases hlt : k < n
    · obtain ⟨b, off, rfl, hc⟩ := (h.below hB).at_ hlt
      have hst := Lib.hid (mayL_from (l := l) (k := k) (by rw [hlen.out]; exact hlt))
      have hmp := Lib.hid (map_take_succ byteOf l 0 k (by rw [hlen.out]; exact hlt))
      have htk : t.size = k := by rw [hT.out, bs_size]; simp; have := hlen.out; omega
      have htk2 := Lib.hid htk
      have hts2 : t.size ≤ 999999 := by omega
      clear htk
      generalize l.getD k 0 = x at *
      by_cases h0 : x < 0
      · have hd : Hid (isDig x = false) := by simp [Hid, isDig]; omega
        have hr : Hid (bs (textL l) = { data := #[] }) := by rw [Hid, textL_not (by rw [hM.out, hst.out, hd.out]; rfl), bs_nil]
        go_wp2
        go_ret
        exact ⟨by rw [hr.out]; rfl, hB⟩
      · by_cases h9 : 9 < x
        · have hd : Hid (isDig x = false) := by simp [Hid, isDig]; omega
          have hr : Hid (bs (textL l) = { data := #[] }) := by rw [Hid, textL_not (by rw [hM.out, hst.out, hd.out]; rfl), bs_nil]
          go_wp2
          go_ret
          exact ⟨by rw [hr.out]; rfl, hB⟩
        · have hd : Hid (isDig x = true) := by simp [Hid, isDig]; omega
          have hcv := conv_one (48 + x) (by omega)
          have hbb : bs [UInt8.ofNat (48 + x).toNat] = bs [byteOf x] := rfl
          have hbs := bs_size [byteOf x]
          simp at hbs
          have HBS := Lib.hid hbs
          have hle1 : (bs [byteOf x]).size ≤ 1 := by omega
          rw [hbb] at hcv
          have happ : Hid (t ++ bs [byteOf x] = bs ((l.take (k + 1)).map byteOf)) := by rw [Hid, hT.out, bs_append, hmp.out]
          have hsa : Hid ((t ++ bs [byteOf x]).size ≤ 1000000) := by rw [Hid, ByteArray.size_append]; omega
          clear hbb hbs
          generalize bs [byteOf x] = one at *
          go_wp2
          go_roundw
          case rel => exact ⟨k + 1, _, by omega, by go_num, rfl, happ.out, hsa.out, by rw [Hid, hM.out, hst.out, hd.out]; rfl, hB.alloc hsz _⟩
          case measure => simp [intOf]; omega
    · have hkn : k = n := by omega
      subst hkn
      have hr : Hid (bs (textL l) = t) := by
        rw [Hid, hT.out, textL_may (by rw [hM.out, List.drop_of_length_le (by rw [hlen.out]; omega)]; rfl), List.take_of_length_le (by rw [hlen.out]; omega)]
      go_wp2
      go_ret
      exact ⟨by rw [hr.out]; rfl, hB⟩

/-! ### Parsing -/
theorem all_from {l : List UInt8} {k : Nat} (h : k < l.length) : (l.drop k).all isB = (isB l[k] && (l.drop (k + 1)).all isB) := by
  rw [List.drop_eq_getElem_cons h]; rfl
theorem parse_bad {l : List UInt8} (h : l.all isB = false) : parseR l = ([], 2) := by unfold parseR; rw [h]; rfl
theorem parse_good {l : List UInt8} (h : l.all isB = true) : parseR l = (l.map fun c => (c.toNat : Int) - 48, 0) := by unfold parseR; rw [h]; rfl
def digsOf (l : List UInt8) : List Int := l.map fun c => (c.toNat : Int) - 48
theorem byte_lt (c : UInt8) : (c.toNat : Int) ≤ 255 := by have := c.toNat_lt; omega

set_option maxHeartbeats 1000000 in
theorem parse_any (s : ByteArray) (w : World) (hs : s.size ≤ 1000000) :
    Calls Try.prog 26 #[.string s] w (RLE w (parseR s.data.toList).1 (parseR s.data.toList).2) := by
  have hlen : Hid (s.data.toList.length = s.size) := Array.length_toList
  generalize hP : parseR s.data.toList = p at *
  have HP := Lib.hid hP
  clear hP
  go_enter Try.func26, Try.ntmps26
  go_wp2_with fail
  go_loopw [4, 8] (fun v i wr => ∃ (k : Nat) (A' : Option Addr) (c' : Nat), k ≤ s.size ∧ i = .int .i64 k ∧ v = .slice A' k c' ∧ Hid (s.data.toList.all isB = (s.data.toList.drop k).all isB) ∧ OL wr w.heap.size A' k c' (digsOf (s.data.toList.take k)) ∧ Below w.heap.size w wr)
    (fun _ i _ => s.size - (intOf i).toNat)
  case atStart => exact ⟨0, none, 0, Nat.zero_le _, rfl, rfl, rfl, OL.nil _ _, Below.refl _ _⟩
  case round =>
    obtain ⟨k, A', c', hk, rfl, rfl, hI, hO, hB⟩ := hrel
    have hsz := hB.size
    by_cases hlt : k < s.size
    · have hst : Hid ((s.data.toList.drop k).all isB = (isB s[k] && (s.data.toList.drop (k + 1)).all isB)) := all_from (l := s.data.toList) (by rw [hlen.out]; exact hlt)
      have htk : Hid (digsOf (s.data.toList.take (k + 1)) = digsOf (s.data.toList.take k) ++ [(s[k].toNat : Int) - 48]) := by
        rw [Hid, digsOf, List.take_succ_eq_append_getElem (by rw [hlen.out]; exact hlt), List.map_append]; rfl
      have hb := byte_lt s[k]
      by_cases h0 : (s[k].toNat : Int) < 48
      · have hd : Hid (isB s[k] = false) := by simp [Hid, isB]; omega
        have hr : Hid (p = ([], 2)) := by rw [Hid, ← HP.out, parse_bad (by rw [hI.out, hst.out, hd.out]; rfl)]
        go_wp2
        go_ret2
        exact ⟨_, _, _, by rw [hr.out]; rfl, by rw [hr.out]; exact OL.nil _ _, hB⟩
      · by_cases h9 : (57 : Int) < (s[k].toNat : Int)
        · have hd : Hid (isB s[k] = false) := by simp [Hid, isB]; omega
          have hr : Hid (p = ([], 2)) := by rw [Hid, ← HP.out, parse_bad (by rw [hI.out, hst.out, hd.out]; rfl)]
          go_wp2
          go_ret2
          exact ⟨_, _, _, by rw [hr.out]; rfl, by rw [hr.out]; exact OL.nil _ _, hB⟩
        · have hd : Hid (isB s[k] = true) := by simp [Hid, isB]; omega
          go_wp2_with (first
            | (at_builtin; refine wpList_append_OL w.heap.size rfl _ _ rfl rfl rfl (hO.alloc _) (IL.one _ _ ((s[k].toNat : Int) - 48)) (by simp; omega) (by omega) ?_; intro A2 c2 w2 hO2 hB2 _))
          go_roundw
          case rel => exact ⟨k + 1, A2, c2, by omega, by go_num, rfl, by rw [Hid, hI.out, hst.out, hd.out]; rfl, by rw [htk.out]; exact hO2, (hB.alloc hsz _).trans hB2⟩
          case measure => simp [intOf]; omega
    · have hkn : k = s.size := by omega
      have hr : Hid (p = (digsOf (s.data.toList.take k), 0)) := by
        rw [Hid, ← HP.out, parse_good (by rw [hI.out, List.drop_of_length_le (by rw [hlen.out]; omega)]; rfl), List.take_of_length_le (by rw [hlen.out]; omega)]; rfl
      have hge : ¬ k < s.size := hlt
      clear hkn
      go_wp2_with fail
      go_ret2
      exact ⟨_, _, _, by rw [hr.out]; rfl, by rw [hr.out]; exact hO, hB⟩

end Go.Proofs.Ytaolimhbeoocjaa
