/- The walks of digits' texts. No condition. -/
import Derived.Test.YtppkifdngjcbeaaL5b
import Derived.Deep.OwnRows
import Derived.Laws.IdiomStrings
import Derived.Laws.Concat
namespace Go.Proofs.Ytppkifdngjcbeaa
open Go.RowKit

/-- A list of bytes as a string. -/
def bs (l : List UInt8) : ByteArray := ⟨l.toArray⟩
theorem bs_size (l : List UInt8) : (bs l).size = l.length := by simp [bs, ByteArray.size]
theorem bs_append (a b : List UInt8) : bs a ++ bs b = bs (a ++ b) := by unfold bs; rw [ByteArray.mk_append_mk]
theorem bs_list (l : List UInt8) : (bs l).data.toList = l := by simp [bs]
theorem bs_back (s : ByteArray) : bs s.data.toList = s := by simp [bs]
theorem bs_nil : bs [] = { data := #[] } := rfl

def byteOf (d : Int) : UInt8 := UInt8.ofNat (48 + d).toNat
theorem byteOf_nat {d : Int} (h : 0 ≤ d ∧ d ≤ 9) : ((byteOf d).toNat : Int) = 48 + d := by
  unfold byteOf
  rw [UInt8.toNat_ofNat']
  omega
def textL (l : List Int) : List UInt8 := if mayL l then l.map byteOf else []
theorem textL_may {l : List Int} (h : mayL l = true) : textL l = l.map byteOf := by unfold textL; rw [if_pos h]
theorem textL_not {l : List Int} (h : mayL l = false) : textL l = [] := by unfold textL; rw [h]; rfl
theorem textL_len (l : List Int) : (textL l).length ≤ l.length := by unfold textL; split <;> simp

def isB (c : UInt8) : Bool := decide (48 ≤ c.toNat) && decide (c.toNat ≤ 57)
def parseR (l : List UInt8) : List Int × Int := if l.all isB then (l.map fun c => (c.toNat : Int) - 48, 0) else ([], 2)
theorem parse_text {l : List Int} (h : mayL l = true) : parseR (textL l) = (l, 0) := by
  have hb := mayL_iff.1 h
  rw [textL_may h]
  unfold parseR
  have h1 : (l.map byteOf).all isB = true := by
    rw [List.all_eq_true]
    intro c hc
    obtain ⟨d, hd, rfl⟩ := List.mem_map.1 hc
    have := byteOf_nat (hb d hd)
    have := hb d hd
    simp [isB]
    omega
  rw [if_pos h1]
  congr 1
  rw [List.map_map]
  conv => rhs; rw [← List.map_id l]
  apply List.map_congr_left
  intro d hd
  have := byteOf_nat (hb d hd)
  simp only [Function.comp, id]
  omega
theorem text_parse {l : List UInt8} (h : l.all isB = true) : textL (parseR l).1 = l ∧ mayL (parseR l).1 = true := by
  unfold parseR
  rw [if_pos h]
  rw [List.all_eq_true] at h
  have hm : mayL (l.map fun c => (c.toNat : Int) - 48) = true := by
    rw [mayL_iff]
    intro x hx
    obtain ⟨c, hc, rfl⟩ := List.mem_map.1 hx
    have := h c hc
    simp [isB] at this
    omega
  refine ⟨?_, hm⟩
  rw [textL_may hm, List.map_map]
  conv => rhs; rw [← List.map_id l]
  apply List.map_congr_left
  intro c hc
  have h2 := h c hc
  simp [isB] at h2
  simp only [Function.comp, id, byteOf]
  have : (48 + ((c.toNat : Int) - 48)).toNat = c.toNat := by omega
  rw [this]
  simp

theorem byte_info : (Try.prog.info? 5).map (fun i => (i.zero, i.size, i.bytes)) = some (some (.int .u8 0), 1, 1) := by kernel_rfl

/-- The cells of a text, so many of them written. -/
def txtCells (l : List Int) (k : Nat) : Array Value := ((List.range l.length).map fun i => if i < k then Value.int .u8 (48 + l.getD i 0) else Value.int .u8 0).toArray
theorem txtCells_zero (l : List Int) : madeCells #[Value.int .u8 0] l.length = txtCells l 0 := by
  apply Array.ext
  · simp [txtCells, madeCells]
  · intro i h1 h2
    simp [txtCells, madeCells, Nat.mod_one]
theorem txtCells_step (l : List Int) (k : Nat) (_hk : k < l.length) : (txtCells l k).setIfInBounds k (.int .u8 (48 + l.getD k 0)) = txtCells l (k + 1) := by
  apply Array.ext
  · simp [txtCells]
  · intro i h1 h2
    have hi : i < l.length := by simpa [txtCells] using h2
    rw [Array.getElem_setIfInBounds (by simpa [txtCells] using hi)]
    simp only [txtCells, List.getElem_toArray, List.getElem_map, List.getElem_range]
    by_cases h3 : k = i
    · subst h3
      rw [if_pos rfl, if_pos (by omega)]
    · rw [if_neg h3]
      by_cases h4 : i < k
      · rw [if_pos h4, if_pos (by omega)]
      · rw [if_neg h4, if_neg (by omega)]
theorem txtCells_get {l : List Int} {k i : Nat} (hk : k < l.length) : (txtCells l i)[k]? = some (if k < i then Value.int .u8 (48 + l.getD k 0) else Value.int .u8 0) := by
  simp [txtCells, List.getElem?_range hk]

theorem conv_text (w : World) (l : List Int) (n : Nat) (hn : n = l.length) (hm : mayL l = true) :
    (convert 136 9 (.slice (some ⟨w.heap.size, 0, none⟩) n n)).run Try.prog (w.alloc (.cells (txtCells l n) 5)) = .ok (.string (bs (textL l))) (w.alloc (.cells (txtCells l n) 5)) := by
  have hl : (textL l).length = n := by rw [textL_may hm, hn]; simp
  have := run_convert_bytes_back (P := Try.prog) (w.alloc (.cells (txtCells l n) 5)) 136 9 5 ⟨w.heap.size, 0, none⟩ n (textL l) Try.underlying136 Try.underlying5 Try.underlying9 (by
    intro j hj
    rw [Addr.add_lit, World.cell?_alloc_at _ _ _ _ rfl, Nat.zero_add, txtCells_get (by omega), if_pos (by omega)]
    congr 2
    have hj2 : j < l.length := by omega
    have hb := mayL_getD hm j
    have e : (textL l)[j] = byteOf (l.getD j 0) := by
      simp only [textL_may hm, List.getElem_map]
      congr 1
      simp [List.getD, List.getElem?_eq_getElem hj2]
    rw [e, byteOf_nat hb])
  rw [hl] at this
  exact this

set_option maxHeartbeats 1000000 in
theorem text_any (A : Option Addr) (n c : Nat) (l : List Int) (w : World) (h : IL w A n c l) (hl : I64 l) (hn : n ≤ 1000000) :
    Calls Try.prog 93 #[.slice A n c] w (RV w (.string (bs (textL l)))) := by
  have hcap := h.cap
  have hle := h.le
  have hlen := Lib.hid h.len
  have hm1 := Lib.hid (may_any A n c l w h hl)
  cases ha : mayL l
  · have hr : Hid (bs (textL l) = { data := #[] }) := by rw [Hid, textL_not ha, bs_nil]
    rw [ha] at hm1
    clear ha
    go_enter Try.func93, Try.ntmps93
    go_wp2_with (first | (go_at_call 56; refine hm1.out.mono ?_; rintro e w' ⟨rfl, rfl⟩))
    go_ret
    exact ⟨by rw [hr.out]; rfl, Below.refl _ _⟩
  · rw [ha] at hm1
    have HA := Lib.hid ha
    clear ha
    have hmk := run_make_row' (P := Try.prog) 136 5 (.int .u8 0) 1 Try.underlying136 byte_info rfl .i64 .i64 n (by omega) (by omega)
    have h0 : madeCells #[Value.int .u8 0] n = txtCells l 0 := by rw [← hlen.out]; exact txtCells_zero l
    rw [h0] at hmk
    clear h0
    have hcv : Hid (∀ W : World, (convert 136 9 (.slice (some ⟨W.heap.size, 0, none⟩) n n)).run Try.prog (W.alloc (.cells (txtCells l n) 5)) = .ok (.string (bs (textL l))) (W.alloc (.cells (txtCells l n) 5))) :=
      fun W => conv_text W l n hlen.out.symm HA.out
    go_enter Try.func93, Try.ntmps93
    go_wp2_with (first | (go_at_call 56; refine hm1.out.mono ?_; rintro e w' ⟨rfl, rfl⟩))
    go_loopw [14] (fun i wr => ∃ k : Nat, k ≤ n ∧ i = .int .i64 k ∧ wr = w.alloc (.cells (txtCells l k) 5)) (fun i _ => n - (intOf i).toNat)
    case atStart => exact ⟨0, Nat.zero_le _, rfl, rfl⟩
    case round =>
      obtain ⟨k, hk, rfl, rfl⟩ := hrel
      by_cases hlt : k < n
      · obtain ⟨b, off, rfl, hc⟩ := (h.alloc (.cells (txtCells l k) 5)).at_ hlt
        have hst := Lib.hid (txtCells_step l k (by rw [hlen.out]; exact hlt))
        have hx := mayL_getD HA.out k
        have hcb : (w.alloc (.cells (txtCells l k) 5)).cell? ⟨w.heap.size, k, none⟩ = some (.int .u8 0) := by
          rw [World.cell?_alloc_at _ _ _ _ rfl, txtCells_get (by rw [hlen.out]; exact hlt), if_neg (by omega)]
        generalize l.getD k 0 = x at *
        go_wp2
        go_roundw
        case rel => exact ⟨k + 1, by omega, by go_num, by rw [hst.out]⟩
        case measure => simp [intOf]; omega
      · have hkn : k = n := by omega
        subst hkn
        have hcv2 := hcv.out w
        go_wp2
        go_ret
        exact ⟨rfl, (Below.refl _ _).alloc (Nat.le_refl _) _⟩

/-! ### The document's -/
theorem conv_one (x : Int) (hx : 0 ≤ x ∧ x ≤ 255) (g : Nat) (W : World) (hc : W.cell? ⟨g, 0, none⟩ = some (.int .u8 x)) :
    (convert 136 9 (.slice (some ⟨g, 0, none⟩) 1 1)).run Try.prog W = .ok (.string (bs [UInt8.ofNat x.toNat])) W := by
  have := run_convert_bytes_back (P := Try.prog) W 136 9 5 ⟨g, 0, none⟩ 1 [UInt8.ofNat x.toNat] Try.underlying136 Try.underlying5 Try.underlying9 (by
    intro j hj
    obtain rfl : j = 0 := by simpa using hj
    rw [Addr.add_lit, hc]
    simp only [List.getElem_cons_zero, UInt8.toNat_ofNat']
    congr 2
    omega)
  exact this

theorem map_take_succ {α β : Type} (f : α → β) (l : List α) (d : α) (k : Nat) (h : k < l.length) : (l.take (k + 1)).map f = (l.take k).map f ++ [f (l.getD k d)] := by
  rw [List.take_succ_eq_append_getElem h, List.map_append]
  simp [List.getD, List.getElem?_eq_getElem h]

/-! ### Parsing -/
theorem all_from {l : List UInt8} {k : Nat} (h : k < l.length) : (l.drop k).all isB = (isB l[k] && (l.drop (k + 1)).all isB) := by
  rw [List.drop_eq_getElem_cons h]; rfl
theorem parse_bad {l : List UInt8} (h : l.all isB = false) : parseR l = ([], 2) := by unfold parseR; rw [h]; rfl
theorem parse_good {l : List UInt8} (h : l.all isB = true) : parseR l = (l.map fun c => (c.toNat : Int) - 48, 0) := by unfold parseR; rw [h]; rfl
def digsOf (l : List UInt8) : List Int := l.map fun c => (c.toNat : Int) - 48
theorem byte_lt (c : UInt8) : (c.toNat : Int) ≤ 255 := by have := c.toNat_lt; omega

end Go.Proofs.Ytppkifdngjcbeaa
