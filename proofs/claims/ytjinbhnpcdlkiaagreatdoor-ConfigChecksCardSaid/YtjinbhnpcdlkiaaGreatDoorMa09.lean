/- The walk of the program's printing of decimals. No condition. -/
import Derived.Test.YtjinbhnpcdlkiaaGreatDoorMa08
import Derived.Test.YtjinbhnpcdlkiaaGreatDoorMa07
import Derived.Deep.OwnRows
import Derived.Laws.IdiomStrings
import Derived.Laws.Concat
namespace Go.Proofs.YtjinbhnpcdlkiaaGreatDoor
open Go.RowKit

theorem timesR_ok {l : List Int} (h : mayL l = true) {k : Int} (h0 : 0 ≤ k) (h1 : k ≤ 1000) : timesR l k = (ofN (k * val l).toNat, 0) := by
  unfold timesR
  rw [h, if_pos rfl, if_neg (by omega)]
theorem ofN_times_len {l : List Int} {M : Nat} (h : mayL l = true) (h1 : l.length ≤ M) {k : Int} (h0 : 0 ≤ k) (h2 : k ≤ 1000) : (ofN (k * val l).toNat).length ≤ M + 4 := by
  refine ofN_len ?_
  have v1 := (val_bd h).2
  have p1 := pow_le h1
  have v3 := (val_bd h).1
  have hm : k * val l ≤ 1000 * val l := Int.mul_le_mul_of_nonneg_right h2 v3
  have hp : 0 ≤ k * val l := Int.mul_nonneg h0 v3
  have e2 : (10 : Int) ^ (M + 4) = 10 ^ M * 10000 := by rw [Int.pow_add]; rfl
  have e : ((k * val l).toNat : Int) < ((10 ^ (M + 4) : Nat) : Int) := by push_cast; omega
  exact_mod_cast e

set_option maxHeartbeats 4000000 in
theorem ctimes_any {A : Option Addr} {n c : Nat} {l : List Int} (b : Bool) (s k : Int) (w : World) (h : IL w A n c l) (hl : I64 l) (hn : n ≤ 10000) (hs : -9223372036854775808 ≤ s ∧ s ≤ 9223372036854775807) (hk : -9223372036854775808 ≤ k ∧ k ≤ 9223372036854775807) :
    Calls Tryz.prog 55 #[.agg #[.bool b, .slice A n c, .int .i64 s], .int .i64 k] w (RCE w (timesDc ⟨b, l, s⟩ k).1 (timesDc ⟨b, l, s⟩ k).2) := by
  have hmay := Lib.hid (fun W hW => cmay_any (A := A) (n := n) (c := c) (l := l) b s W hW hl hs)
  have hTD : Hid (timesDc ⟨b, l, s⟩ k = if mayDc ⟨b, l, s⟩ then (if k < -1000 ∨ 1000 < k then (Dc.zero, 3) else (canon s.toNat (k * Dc.z ⟨b, l, s⟩), 0)) else (Dc.zero, 1)) := rfl
  have hX0 := (Blk.made w w 36 #[.bool b, .slice A n c, .int .i64 s] (Later.refl w) _ rfl).alloc (.cells #[.bool false, .slice none 0 0, .int .i64 0] 36)
  have hR0 := Blk.made w (w.alloc (.cells #[.bool b, .slice A n c, .int .i64 s] 36)) 36 #[.bool false, .slice none 0 0, .int .i64 0] ((Later.refl w).alloc _) (w.heap.size + 1) (by simp)
  have el := h.len
  generalize timesDc ⟨b, l, s⟩ k = D at *
  cases hmd : mayDc ⟨b, l, s⟩
  · rw [hmd] at hmay
    have HD : Hid (D = (Dc.zero, 1)) := by rw [Hid, hTD.out, hmd]; rfl
    clear hmd
    go_enter Tryz.func55, Tryz.ntmps55
    go_wp2_with fail
    refine (hmay.out _ ((h.alloc _).alloc _)).mono ?_
    rintro e w1 ⟨rfl, hB1⟩
    have hR := hR0.call hB1
    obtain ⟨⟨r0, r1, r2⟩, ⟨r3, r4, r5⟩⟩ := hR.cells3
    go_wp2_with fail
    rw [HD.out]
    obtain ⟨⟨z0, z1, z2⟩, _⟩ := (hR.store3 (.bool false) (.slice none 0 0) (.int .i64 0)).cells3
    exact bodyPost_ret (v := .tuple #[.agg #[.bool false, .slice none 0 0, .int .i64 0], .int .i64 1]) (by generalize World.setCell (World.setCell (World.setCell _ _ _) _ _) _ _ = W3 at z0 z1 z2 ⊢; simp [results, Tryz.results55, go_sem, z0, z1, z2]) rfl
      ⟨none, 0, 0, rfl, IL.nil _, below_set3 hR.later (Nat.le_succ _) _ _ _, none_new _⟩
  · rw [hmd] at hmay
    obtain ⟨hml, hs0, hs1⟩ := mayDc_iff.1 hmd
    simp only at hml hs0 hs1
    have hbad : ¬ (k < -1000 ∨ 1000 < k) ∨ Hid (D = (Dc.zero, 3)) := by
      rcases Classical.em (k < -1000 ∨ 1000 < k) with q | q
      · right; rw [Hid, hTD.out, hmd, if_pos rfl, if_pos q]
      · exact .inl q
    by_cases hk0 : k < -1000 ∨ 1000 < k
    · have HD : Hid (D = (Dc.zero, 3)) := hbad.resolve_left (fun q => q hk0)
      clear hbad hmd
      rcases hk0 with hk0 | hk0
      all_goals
        go_enter Tryz.func55, Tryz.ntmps55
        go_wp2_with fail
        refine (hmay.out _ ((h.alloc _).alloc _)).mono ?_
        rintro e w1 ⟨rfl, hB1⟩
        have hR := hR0.call hB1
        obtain ⟨⟨r0, r1, r2⟩, ⟨r3, r4, r5⟩⟩ := hR.cells3
        go_wp2_with fail
        rw [HD.out]
        obtain ⟨⟨z0, z1, z2⟩, _⟩ := (hR.store3 (.bool false) (.slice none 0 0) (.int .i64 0)).cells3
        exact bodyPost_ret (v := .tuple #[.agg #[.bool false, .slice none 0 0, .int .i64 0], .int .i64 3]) (by generalize World.setCell (World.setCell (World.setCell _ _ _) _ _) _ _ = W3 at z0 z1 z2 ⊢; simp [results, Tryz.results55, go_sem, z0, z1, z2]) rfl
          ⟨none, 0, 0, rfl, IL.nil _, below_set3 hR.later (Nat.le_succ _) _ _ _, none_new _⟩
    · obtain ⟨s', rfl⟩ := Int.eq_ofNat_of_zero_le hs0
      have HD0 : D = (canon s' (k * Dc.z ⟨b, l, s'⟩), 0) := by rw [hTD.out, hmd, if_pos rfl, if_neg hk0]; rfl
      have heq := times_eq (d := ⟨b, l, (s' : Int)⟩) hml k s' rfl
      simp only at heq
      obtain ⟨a, ha0, ha1, ha2⟩ : ∃ a : Int, (if k < -k then -k else k) = a ∧ 0 ≤ a ∧ a ≤ 1000 := ⟨_, rfl, by split <;> omega, by split <;> omega⟩
      rw [ha0] at heq
      have hx2 : (if -k < k then k else -k) = a := by rw [← ha0]; split <;> split <;> omega
      have hx3 : (if k ≤ -k then -k else k) = a := by rw [← ha0]; split <;> split <;> omega
      have hti := Lib.hid (fun A n c W (hW : IL W A n c l) (hn : n ≤ 50000) => show Calls Tryz.prog 79 #[.slice A n c, .int .i64 a] W (RLE W (ofN (a * val l).toNat) 0) by
        have := times_any A n c l a W hW hl hn (by omega)
        rw [timesR_ok hml ha1 ha2] at this
        exact this)
      have hvl := ofN_times_len (M := 10000) hml (by omega) ha1 ha2
      have htr := Lib.hid (fun A n c W hW hn => dtrim_any (A := A) (n := n) (c := c) (l := ofN (a * val l).toNat) (b != decide (k < 0)) (s' : Int) W hW (I64_of_may (mayL_ofN _)) hn (by omega) (by omega))
      rw [heq] at htr
      generalize canon s' (k * Dc.z ⟨b, l, (s' : Int)⟩) = R at *
      generalize ofN (a * val l).toNat = v at *
      have HD := Lib.hid HD0
      clear HD0 heq hbad hmd hTD
      go_enter Tryz.func55, Tryz.ntmps55
      go_wp2_with fail
      refine (hmay.out _ ((h.alloc _).alloc _)).mono ?_
      rintro e w1 ⟨rfl, hB1⟩
      have hX1 := hX0.call hB1
      have hR1 := hR0.call hB1
      obtain ⟨⟨q0, q1, q2⟩, _⟩ := hX1.cells3
      go_wp2_with fail
      refine (hti.out _ _ _ _ (h.later hX1.later) (by omega)).mono ?_
      rintro e w2 ⟨A2, n2, c2, rfl, hO2, hB2⟩
      have hn2 : n2 ≤ 100000 := by rw [← hO2.len]; omega
      have hX2 := hX1.call hB2
      have hR2 := hR1.call hB2
      have hlt := hR2.lt
      obtain ⟨⟨q0', q1', q2'⟩, _⟩ := hX2.cells3
      clear ha0 hx2 hx3
      go_wp2_with fail
      refine (htr.out _ _ _ _ hO2.il (by omega)).mono ?_
      rintro e w3 ⟨A3, n3, c3, rfl, hI3, hB3, hN3⟩
      have hR3 := hR2.call hB3
      obtain ⟨⟨r0, r1, r2⟩, ⟨r3, r4, r5⟩⟩ := hR3.cells3
      go_wp2_with fail
      rw [HD.out]
      obtain ⟨⟨z0, z1, z2⟩, _⟩ := (hR3.store3 (.bool R.neg) (.slice A3 n3 c3) (.int .i64 R.s)).cells3
      exact bodyPost_ret (v := .tuple #[.agg #[.bool R.neg, .slice A3 n3 c3, .int .i64 R.s], .int .i64 0]) (by generalize World.setCell (World.setCell (World.setCell _ _ _) _ _) _ _ = W3 at z0 z1 z2 ⊢; simp [results, Tryz.results55, go_sem, z0, z1, z2]) rfl
        ⟨A3, n3, c3, rfl, hI3.set3 (fun hz a ha => by have := hN3 hz a ha; omega) _ _ _, below_set3 hR3.later (Nat.le_succ _) _ _ _, fun hz a ha => by have := hN3 hz a ha; omega⟩

end Go.Proofs.YtjinbhnpcdlkiaaGreatDoor


namespace Go.Proofs.YtjinbhnpcdlkiaaGreatDoor
open Go.RowKit

theorem LL.two {w : World} {A A2 : Option Addr} {n c n2 c2 : Nat} {l l2 : List Int} (h : IL w A n c l) (h2 : IL w A2 n2 c2 l2) (e : TypeId) (b : Nat) (hb : b = w.heap.size) :
    LL (w.alloc (.cells #[.slice A n c, .slice A2 n2 c2] e)) (some ⟨b, 0, none⟩) 2 2 [l, l2] := by
  subst hb
  refine ⟨[.slice A n c, .slice A2 n2 c2], VL.lit w e 2 _ rfl (by omega), rfl, fun k hk => ?_⟩
  rcases (show k = 0 ∨ k = 1 by simp at hk; omega) with rfl | rfl
  · exact ⟨A, n, c, rfl, h.alloc _⟩
  · exact ⟨A2, n2, c2, rfl, h2.alloc _⟩
theorem IL.lit1 (w : World) (e : TypeId) (x : Int) (b : Nat) (hb : b = w.heap.size) : IL (w.alloc (.cells #[.int .i64 x] e)) (some ⟨b, 0, none⟩) 1 1 [x] := by
  subst hb
  exact VL.lit w e 1 [.int .i64 x] rfl (by omega)
theorem IL.lit2 (w : World) (e : TypeId) (x y : Int) (b : Nat) (hb : b = w.heap.size) : IL (w.alloc (.cells #[.int .i64 x, .int .i64 y] e)) (some ⟨b, 0, none⟩) 2 2 [x, y] := by
  subst hb
  exact VL.lit w e 2 [.int .i64 x, .int .i64 y] rfl (by omega)
theorem IL.lit3 (w : World) (e : TypeId) (x y z : Int) (b : Nat) (hb : b = w.heap.size) : IL (w.alloc (.cells #[.int .i64 x, .int .i64 y, .int .i64 z] e)) (some ⟨b, 0, none⟩) 3 3 [x, y, z] := by
  subst hb
  exact VL.lit w e 3 [.int .i64 x, .int .i64 y, .int .i64 z] rfl (by omega)
theorem IL.lit4 (w : World) (e : TypeId) (x y z u : Int) (b : Nat) (hb : b = w.heap.size) : IL (w.alloc (.cells #[.int .i64 x, .int .i64 y, .int .i64 z, .int .i64 u] e)) (some ⟨b, 0, none⟩) 4 4 [x, y, z, u] := by
  subst hb
  exact VL.lit w e 4 [.int .i64 x, .int .i64 y, .int .i64 z, .int .i64 u] rfl (by omega)

theorem I64_small {l : List Int} (h : l.all (fun x => decide (-100 ≤ x) && decide (x ≤ 100)) = true) : I64 l := fun x hx => by
  have := List.all_eq_true.1 h x hx
  simp at this
  omega

theorem cmpL_neg {a b : List Int} (ha : mayL a = true) (hb : mayL b = true) : cmpL b a = -cmpL a b := by
  rw [cmpL_val ha hb, cmpL_val hb ha]
  unfold cmpI
  split <;> split <;> (try split) <;> (try split) <;> omega
theorem cmpL_le {a b : List Int} (ha : mayL a = true) (hb : mayL b = true) : cmpL a b ≤ 0 ↔ val a ≤ val b := by
  rw [cmpL_val ha hb]
  unfold cmpI
  split
  · omega
  · split <;> omega

end Go.Proofs.YtjinbhnpcdlkiaaGreatDoor


namespace Go.Proofs.YtjinbhnpcdlkiaaGreatDoor
open Go.RowKit

theorem good_w (A : Option Addr) (n c most : Nat) (l : List Int) (w : World) (h : IL w A n c l) (hl : I64 l) (hm : most ≤ 100000) :
    Calls Tryz.prog 34 #[.slice A n c, .int .i64 (most : Int)] w (RL w (goodL l most)) := good_any A n c most l w h hl hm
theorem same_w (A : Option Addr) (n c : Nat) (l : List Int) (A2 : Option Addr) (n2 c2 : Nat) (l2 : List Int) (w : World) (h : IL w A n c l) (h2 : IL w A2 n2 c2 l2) (b : Bool) (hb : (l == l2) = b) :
    Calls Tryz.prog 51 #[.slice A n c, .slice A2 n2 c2] w (RV w (.bool b)) := by
  subst hb
  exact (same_any A n c l A2 n2 c2 l2 w h h2).mono fun _ _ h => RQ.rv h
theorem ol_il {w w' : World} {l : List Int} {e : Ending} (h : RO w l e w') : RL w l e w' := RO.rl h
/-- What is cut to the first so many. -/
theorem IL.few {w : World} {A : Option Addr} {n c : Nat} {l : List Int} (h : IL w A n c l) (k : Nat) (A' : Option Addr) (hA : A' = A) (m : Nat) (hm : m = min n k) : IL w A' m c (l.take k) := by
  subst hA
  have hl := h.len
  have hle := h.le
  have h2 := h.take (k := m) (c' := c) (by omega) (by omega) (Nat.le_refl _) A' (fun _ => rfl)
  have : l.take k = l.take m := by
    rcases Nat.lt_or_ge k n with q | q
    · rw [hm, Nat.min_eq_right (by omega)]
    · rw [hm, Nat.min_eq_left (by omega), List.take_of_length_le (by omega), List.take_of_length_le (by omega)]
  rw [this]
  exact h2
theorem min_cut (n : Nat) (m : Nat) : ∃ k : Nat, k = min n m ∧ (∀ x : Int, x = (m : Int) → (if x < (n : Int) then x else (n : Int)) = (k : Int)) ∧ ∀ x : Int, x = (m : Int) → (if m < n then x else (n : Int)) = (k : Int) :=
  ⟨min n m, rfl, by intro x hx; subst hx; split <;> omega, by intro x hx; subst hx; split <;> omega⟩
theorem sumR_two5 {a b : List Int} (ha : mayL a = true) (hb : mayL b = true) : sumR [a, b] = (ofN (val a + val b).toNat, 0) := by
  unfold sumR mayLL
  rw [if_pos (by simp [ha, hb])]
  simp [sumV]
theorem subR_ok {a b : List Int} (ha : mayL a = true) (hb : mayL b = true) (h : val b ≤ val a) : subR a b = (ofN (val a - val b).toNat, 0) := by
  unfold subR
  rw [if_pos (by simp [ha, hb]), if_neg (by omega)]
theorem subR_lt {a b : List Int} (ha : mayL a = true) (hb : mayL b = true) (h : val a < val b) : subR a b = ([], 3) := by
  unfold subR
  rw [if_pos (by simp [ha, hb]), if_pos h]
theorem subR_code (a b : List Int) : ((subR a b).2 == 1) = !(mayL a && mayL b) := by
  unfold subR
  split
  · rename_i h
    rw [h]
    split <;> rfl
  · rename_i h
    simp only [Bool.not_eq_true] at h
    rw [h]
    rfl
theorem ofN_len_le {z : Int} {k : Nat} (h0 : 0 ≤ z) (h : z < 10 ^ k) : (ofN z.toNat).length ≤ k := ofN_len (toNat_pow h0 h)

end Go.Proofs.YtjinbhnpcdlkiaaGreatDoor


namespace Go.Proofs.YtjinbhnpcdlkiaaGreatDoor
open Go.RowKit

/-- A list of bytes as a string. -/
def bs (l : List UInt8) : ByteArray := ⟨l.toArray⟩
theorem bs_size (l : List UInt8) : (bs l).size = l.length := by simp [bs, ByteArray.size]
theorem bs_append (a b : List UInt8) : bs a ++ bs b = bs (a ++ b) := by unfold bs; rw [ByteArray.mk_append_mk]
theorem bs_list (l : List UInt8) : (bs l).data.toList = l := by simp [bs]
theorem bs_back (s : ByteArray) : bs s.data.toList = s := by simp [bs]
theorem bs_nil : bs [] = { data := #[] } := rfl

def byteOf (d : Int) : UInt8 := UInt8.ofNat (48 + d).toNat
theorem byteOf_nat {d : Int} (h : 0 ≤ d ∧ d ≤ 9) : ((byteOf d).toNat : Int) = 48 + d := by
  unfold byteOf
  rw [UInt8.toNat_ofNat']
  omega
def textL (l : List Int) : List UInt8 := if mayL l then l.map byteOf else []
theorem textL_may {l : List Int} (h : mayL l = true) : textL l = l.map byteOf := by unfold textL; rw [if_pos h]
theorem textL_not {l : List Int} (h : mayL l = false) : textL l = [] := by unfold textL; rw [h]; rfl
theorem textL_len (l : List Int) : (textL l).length ≤ l.length := by unfold textL; split <;> simp

def isB (c : UInt8) : Bool := decide (48 ≤ c.toNat) && decide (c.toNat ≤ 57)
def parseR (l : List UInt8) : List Int × Int := if l.all isB then (l.map fun c => (c.toNat : Int) - 48, 0) else ([], 2)
theorem parse_text {l : List Int} (h : mayL l = true) : parseR (textL l) = (l, 0) := by
  have hb := mayL_iff.1 h
  rw [textL_may h]
  unfold parseR
  have h1 : (l.map byteOf).all isB = true := by
    rw [List.all_eq_true]
    intro c hc
    obtain ⟨d, hd, rfl⟩ := List.mem_map.1 hc
    have := byteOf_nat (hb d hd)
    have := hb d hd
    simp [isB]
    omega
  rw [if_pos h1]
  congr 1
  rw [List.map_map]
  conv => rhs; rw [← List.map_id l]
  apply List.map_congr_left
  intro d hd
  have := byteOf_nat (hb d hd)
  simp only [Function.comp, id]
  omega
theorem text_parse {l : List UInt8} (h : l.all isB = true) : textL (parseR l).1 = l ∧ mayL (parseR l).1 = true := by
  unfold parseR
  rw [if_pos h]
  rw [List.all_eq_true] at h
  have hm : mayL (l.map fun c => (c.toNat : Int) - 48) = true := by
    rw [mayL_iff]
    intro x hx
    obtain ⟨c, hc, rfl⟩ := List.mem_map.1 hx
    have := h c hc
    simp [isB] at this
    omega
  refine ⟨?_, hm⟩
  rw [textL_may hm, List.map_map]
  conv => rhs; rw [← List.map_id l]
  apply List.map_congr_left
  intro c hc
  have h2 := h c hc
  simp [isB] at h2
  simp only [Function.comp, id, byteOf]
  have : (48 + ((c.toNat : Int) - 48)).toNat = c.toNat := by omega
  rw [this]
  simp

theorem byte_info : (Tryz.prog.info? 5).map (fun i => (i.zero, i.size, i.bytes)) = some (some (.int .u8 0), 1, 1) := by kernel_rfl

/-- The cells of a text, so many of them written. -/
def txtCells (l : List Int) (k : Nat) : Array Value := ((List.range l.length).map fun i => if i < k then Value.int .u8 (48 + l.getD i 0) else Value.int .u8 0).toArray
theorem txtCells_zero (l : List Int) : madeCells #[Value.int .u8 0] l.length = txtCells l 0 := by
  apply Array.ext
  · simp [txtCells, madeCells]
  · intro i h1 h2
    simp [txtCells, madeCells, Nat.mod_one]
theorem txtCells_step (l : List Int) (k : Nat) (_hk : k < l.length) : (txtCells l k).setIfInBounds k (.int .u8 (48 + l.getD k 0)) = txtCells l (k + 1) := by
  apply Array.ext
  · simp [txtCells]
  · intro i h1 h2
    have hi : i < l.length := by simpa [txtCells] using h2
    rw [Array.getElem_setIfInBounds (by simpa [txtCells] using hi)]
    simp only [txtCells, List.getElem_toArray, List.getElem_map, List.getElem_range]
    by_cases h3 : k = i
    · subst h3
      rw [if_pos rfl, if_pos (by omega)]
    · rw [if_neg h3]
      by_cases h4 : i < k
      · rw [if_pos h4, if_pos (by omega)]
      · rw [if_neg h4, if_neg (by omega)]
theorem txtCells_get {l : List Int} {k i : Nat} (hk : k < l.length) : (txtCells l i)[k]? = some (if k < i then Value.int .u8 (48 + l.getD k 0) else Value.int .u8 0) := by
  simp [txtCells, List.getElem?_range hk]

theorem conv_text (w : World) (l : List Int) (n : Nat) (hn : n = l.length) (hm : mayL l = true) :
    (convert 123 9 (.slice (some ⟨w.heap.size, 0, none⟩) n n)).run Tryz.prog (w.alloc (.cells (txtCells l n) 5)) = .ok (.string (bs (textL l))) (w.alloc (.cells (txtCells l n) 5)) := by
  have hl : (textL l).length = n := by rw [textL_may hm, hn]; simp
  have := run_convert_bytes_back (P := Tryz.prog) (w.alloc (.cells (txtCells l n) 5)) 123 9 5 ⟨w.heap.size, 0, none⟩ n (textL l) Tryz.underlying123 Tryz.underlying5 Tryz.underlying9 (by
    intro j hj
    rw [Addr.add_lit, World.cell?_alloc_at _ _ _ _ rfl, Nat.zero_add, txtCells_get (by omega), if_pos (by omega)]
    congr 2
    have hj2 : j < l.length := by omega
    have hb := mayL_getD hm j
    have e : (textL l)[j] = byteOf (l.getD j 0) := by
      simp only [textL_may hm, List.getElem_map]
      congr 1
      simp [List.getD, List.getElem?_eq_getElem hj2]
    rw [e, byteOf_nat hb])
  rw [hl] at this
  exact this

set_option maxHeartbeats 1000000 in
theorem text_any (A : Option Addr) (n c : Nat) (l : List Int) (w : World) (h : IL w A n c l) (hl : I64 l) (hn : n ≤ 1000000) :
    Calls Tryz.prog 57 #[.slice A n c] w (RV w (.string (bs (textL l)))) := by
  have hcap := h.cap
  have hle := h.le
  have hlen := Lib.hid h.len
  have hm1 := Lib.hid (may_any A n c l w h hl)
  cases ha : mayL l
  · have hr : Hid (bs (textL l) = { data := #[] }) := by rw [Hid, textL_not ha, bs_nil]
    rw [ha] at hm1
    clear ha
    go_enter Tryz.func57, Tryz.ntmps57
    go_wp2_with (first | (go_at_call 78; refine hm1.out.mono ?_; rintro e w' ⟨rfl, rfl⟩))
    go_ret
    exact ⟨by rw [hr.out]; rfl, Below.refl _ _⟩
  · rw [ha] at hm1
    have HA := Lib.hid ha
    clear ha
    have hmk := run_make_row' (P := Tryz.prog) 123 5 (.int .u8 0) 1 Tryz.underlying123 byte_info rfl .i64 .i64 n (by omega) (by omega)
    have h0 : madeCells #[Value.int .u8 0] n = txtCells l 0 := by rw [← hlen.out]; exact txtCells_zero l
    rw [h0] at hmk
    clear h0
    have hcv : Hid (∀ W : World, (convert 123 9 (.slice (some ⟨W.heap.size, 0, none⟩) n n)).run Tryz.prog (W.alloc (.cells (txtCells l n) 5)) = .ok (.string (bs (textL l))) (W.alloc (.cells (txtCells l n) 5))) :=
      fun W => conv_text W l n hlen.out.symm HA.out
    go_enter Tryz.func57, Tryz.ntmps57
    go_wp2_with (first | (go_at_call 78; refine hm1.out.mono ?_; rintro e w' ⟨rfl, rfl⟩))
    go_loopw [14] (fun i wr => ∃ k : Nat, k ≤ n ∧ i = .int .i64 k ∧ wr = w.alloc (.cells (txtCells l k) 5)) (fun i _ => n - (intOf i).toNat)
    case atStart => exact ⟨0, Nat.zero_le _, rfl, rfl⟩
    case round =>
      obtain ⟨k, hk, rfl, rfl⟩ := hrel
      by_cases hlt : k < n
      · obtain ⟨b, off, rfl, hc⟩ := (h.alloc (.cells (txtCells l k) 5)).at_ hlt
        have hst := Lib.hid (txtCells_step l k (by rw [hlen.out]; exact hlt))
        have hx := mayL_getD HA.out k
        have hcb : (w.alloc (.cells (txtCells l k) 5)).cell? ⟨w.heap.size, k, none⟩ = some (.int .u8 0) := by
          rw [World.cell?_alloc_at _ _ _ _ rfl, txtCells_get (by rw [hlen.out]; exact hlt), if_neg (by omega)]
        generalize l.getD k 0 = x at *
        go_wp2
        go_roundw
        case rel => exact ⟨k + 1, by omega, by go_num, by rw [hst.out]⟩
        case measure => simp [intOf]; omega
      · have hkn : k = n := by omega
        subst hkn
        have hcv2 := hcv.out w
        go_wp2
        go_ret
        exact ⟨rfl, (Below.refl _ _).alloc (Nat.le_refl _) _⟩

/-! ### The document's -/
theorem conv_one (x : Int) (hx : 0 ≤ x ∧ x ≤ 255) (g : Nat) (W : World) (hc : W.cell? ⟨g, 0, none⟩ = some (.int .u8 x)) :
    (convert 123 9 (.slice (some ⟨g, 0, none⟩) 1 1)).run Tryz.prog W = .ok (.string (bs [UInt8.ofNat x.toNat])) W := by
  have := run_convert_bytes_back (P := Tryz.prog) W 123 9 5 ⟨g, 0, none⟩ 1 [UInt8.ofNat x.toNat] Tryz.underlying123 Tryz.underlying5 Tryz.underlying9 (by
    intro j hj
    obtain rfl : j = 0 := by simpa using hj
    rw [Addr.add_lit, hc]
    simp only [List.getElem_cons_zero, UInt8.toNat_ofNat']
    congr 2
    omega)
  exact this

theorem map_take_succ {α β : Type} (f : α → β) (l : List α) (d : α) (k : Nat) (h : k < l.length) : (l.take (k + 1)).map f = (l.take k).map f ++ [f (l.getD k d)] := by
  rw [List.take_succ_eq_append_getElem h, List.map_append]
  simp [List.getD, List.getElem?_eq_getElem h]

set_option maxHeartbeats 1000000 in
theorem rtext_any (A : Option Addr) (n c : Nat) (l : List Int) (w : World) (h : IL w A n c l) (hn : n ≤ 1000000) :
    Calls Tryz.prog 38 #[.slice A n c] w (RV w (.string (bs (textL l)))) := by
  have hcap := h.cap
  have hle := h.le
  have hlen := Lib.hid h.len
  go_enter Tryz.func38, Tryz.ntmps38
  go_wp2
  go_loopw [3, 4] (fun s i wr => ∃ (k : Nat) (t : ByteArray), k ≤ n ∧ i = .int .i64 k ∧ s = .string t ∧ Hid (t = bs ((l.take k).map byteOf)) ∧ t.size ≤ 1000000 ∧ Hid (mayL l = mayL (l.drop k)) ∧ Below w.heap.size w wr) (fun _ i _ => n - (intOf i).toNat)
  case atStart => exact ⟨0, { data := #[] }, Nat.zero_le _, rfl, rfl, rfl, by simp [ByteArray.size], rfl, Below.refl _ _⟩
  case round =>
    obtain ⟨k, t, hk, rfl, rfl, hT, hts, hM, hB⟩ := hrel
    have hsz := hB.size
    by_cases hlt : k < n
    · obtain ⟨b, off, rfl, hc⟩ := (h.below hB).at_ hlt
      have hst := Lib.hid (mayL_from (l := l) (k := k) (by rw [hlen.out]; exact hlt))
      have hmp := Lib.hid (map_take_succ byteOf l 0 k (by rw [hlen.out]; exact hlt))
      have htk : t.size = k := by rw [hT.out, bs_size]; simp; have := hlen.out; omega
      have htk2 := Lib.hid htk
      have hts2 : t.size ≤ 999999 := by omega
      clear htk
      generalize l.getD k 0 = x at *
      by_cases h0 : x < 0
      · have hd : Hid (isDig x = false) := by simp [Hid, isDig]; omega
        have hr : Hid (bs (textL l) = { data := #[] }) := by rw [Hid, textL_not (by rw [hM.out, hst.out, hd.out]; rfl), bs_nil]
        go_wp2
        go_ret
        exact ⟨by rw [hr.out]; rfl, hB⟩
      · by_cases h9 : 9 < x
        · have hd : Hid (isDig x = false) := by simp [Hid, isDig]; omega
          have hr : Hid (bs (textL l) = { data := #[] }) := by rw [Hid, textL_not (by rw [hM.out, hst.out, hd.out]; rfl), bs_nil]
          go_wp2
          go_ret
          exact ⟨by rw [hr.out]; rfl, hB⟩
        · have hd : Hid (isDig x = true) := by simp [Hid, isDig]; omega
          have hcv := conv_one (48 + x) (by omega)
          have hbb : bs [UInt8.ofNat (48 + x).toNat] = bs [byteOf x] := rfl
          have hbs := bs_size [byteOf x]
          simp at hbs
          have HBS := Lib.hid hbs
          have hle1 : (bs [byteOf x]).size ≤ 1 := by omega
          rw [hbb] at hcv
          have happ : Hid (t ++ bs [byteOf x] = bs ((l.take (k + 1)).map byteOf)) := by rw [Hid, hT.out, bs_append, hmp.out]
          have hsa : Hid ((t ++ bs [byteOf x]).size ≤ 1000000) := by rw [Hid, ByteArray.size_append]; omega
          clear hbb hbs
          generalize bs [byteOf x] = one at *
          go_wp2
          go_roundw
          case rel => exact ⟨k + 1, _, by omega, by go_num, rfl, happ.out, hsa.out, by rw [Hid, hM.out, hst.out, hd.out]; rfl, hB.alloc hsz _⟩
          case measure => simp [intOf]; omega
    · have hkn : k = n := by omega
      subst hkn
      have hr : Hid (bs (textL l) = t) := by
        rw [Hid, hT.out, textL_may (by rw [hM.out, List.drop_of_length_le (by rw [hlen.out]; omega)]; rfl), List.take_of_length_le (by rw [hlen.out]; omega)]
      go_wp2
      go_ret
      exact ⟨by rw [hr.out]; rfl, hB⟩

/-! ### Parsing -/
theorem all_from {l : List UInt8} {k : Nat} (h : k < l.length) : (l.drop k).all isB = (isB l[k] && (l.drop (k + 1)).all isB) := by
  rw [List.drop_eq_getElem_cons h]; rfl
theorem parse_bad {l : List UInt8} (h : l.all isB = false) : parseR l = ([], 2) := by unfold parseR; rw [h]; rfl
theorem parse_good {l : List UInt8} (h : l.all isB = true) : parseR l = (l.map fun c => (c.toNat : Int) - 48, 0) := by unfold parseR; rw [h]; rfl
def digsOf (l : List UInt8) : List Int := l.map fun c => (c.toNat : Int) - 48
theorem byte_lt (c : UInt8) : (c.toNat : Int) ≤ 255 := by have := c.toNat_lt; omega

set_option maxHeartbeats 1000000 in
theorem parse_any (s : ByteArray) (w : World) (hs : s.size ≤ 1000000) :
    Calls Tryz.prog 64 #[.string s] w (RLE w (parseR s.data.toList).1 (parseR s.data.toList).2) := by
  have hlen : Hid (s.data.toList.length = s.size) := Array.length_toList
  generalize hP : parseR s.data.toList = p at *
  have HP := Lib.hid hP
  clear hP
  go_enter Tryz.func64, Tryz.ntmps64
  go_wp2_with fail
  go_loopw [4, 8] (fun v i wr => ∃ (k : Nat) (A' : Option Addr) (c' : Nat), k ≤ s.size ∧ i = .int .i64 k ∧ v = .slice A' k c' ∧ Hid (s.data.toList.all isB = (s.data.toList.drop k).all isB) ∧ OL wr w.heap.size A' k c' (digsOf (s.data.toList.take k)) ∧ Below w.heap.size w wr)
    (fun _ i _ => s.size - (intOf i).toNat)
  case atStart => exact ⟨0, none, 0, Nat.zero_le _, rfl, rfl, rfl, OL.nil _ _, Below.refl _ _⟩
  case round =>
    obtain ⟨k, A', c', hk, rfl, rfl, hI, hO, hB⟩ := hrel
    have hsz := hB.size
    by_cases hlt : k < s.size
    · have hst : Hid ((s.data.toList.drop k).all isB = (isB s[k] && (s.data.toList.drop (k + 1)).all isB)) := all_from (l := s.data.toList) (by rw [hlen.out]; exact hlt)
      have htk : Hid (digsOf (s.data.toList.take (k + 1)) = digsOf (s.data.toList.take k) ++ [(s[k].toNat : Int) - 48]) := by
        rw [Hid, digsOf, List.take_succ_eq_append_getElem (by rw [hlen.out]; exact hlt), List.map_append]; rfl
      have hb := byte_lt s[k]
      by_cases h0 : (s[k].toNat : Int) < 48
      · have hd : Hid (isB s[k] = false) := by simp [Hid, isB]; omega
        have hr : Hid (p = ([], 2)) := by rw [Hid, ← HP.out, parse_bad (by rw [hI.out, hst.out, hd.out]; rfl)]
        go_wp2
        go_ret2
        exact ⟨_, _, _, by rw [hr.out]; rfl, by rw [hr.out]; exact OL.nil _ _, hB⟩
      · by_cases h9 : (57 : Int) < (s[k].toNat : Int)
        · have hd : Hid (isB s[k] = false) := by simp [Hid, isB]; omega
          have hr : Hid (p = ([], 2)) := by rw [Hid, ← HP.out, parse_bad (by rw [hI.out, hst.out, hd.out]; rfl)]
          go_wp2
          go_ret2
          exact ⟨_, _, _, by rw [hr.out]; rfl, by rw [hr.out]; exact OL.nil _ _, hB⟩
        · have hd : Hid (isB s[k] = true) := by simp [Hid, isB]; omega
          go_wp2_with (first
            | (at_builtin; refine wpList_append_OL w.heap.size rfl _ _ rfl rfl rfl (hO.alloc _) (IL.one _ _ ((s[k].toNat : Int) - 48)) (by simp; omega) (by omega) ?_; intro A2 c2 w2 hO2 hB2 _))
          go_roundw
          case rel => exact ⟨k + 1, A2, c2, by omega, by go_num, rfl, by rw [Hid, hI.out, hst.out, hd.out]; rfl, by rw [htk.out]; exact hO2, (hB.alloc hsz _).trans hB2⟩
          case measure => simp [intOf]; omega
    · have hkn : k = s.size := by omega
      have hr : Hid (p = (digsOf (s.data.toList.take k), 0)) := by
        rw [Hid, ← HP.out, parse_good (by rw [hI.out, List.drop_of_length_le (by rw [hlen.out]; omega)]; rfl), List.take_of_length_le (by rw [hlen.out]; omega)]; rfl
      have hge : ¬ k < s.size := hlt
      clear hkn
      go_wp2_with fail
      go_ret2
      exact ⟨_, _, _, by rw [hr.out]; rfl, by rw [hr.out]; exact hO, hB⟩

end Go.Proofs.YtjinbhnpcdlkiaaGreatDoor


namespace Go.Proofs.YtjinbhnpcdlkiaaGreatDoor
open Go.RowKit

/-- A decimal's text. -/
def cutL (t : List UInt8) (s : Nat) : List UInt8 := if 0 < s then t.take (t.length - s) ++ (46 :: t.drop (t.length - s)) else t
def printL (d : Dc) : List UInt8 := if mayDc d then (if d.neg then [45] else []) ++ cutL (textL (wideL d.l (d.s.toNat + 1))) d.s.toNat else []
theorem bs_extract (t : List UInt8) (i j : Nat) : (bs t).extract i j = bs ((t.drop i).take (j - i)) := by
  have h : ((bs t).extract i j).data.toList = (t.drop i).take (j - i) := by
    rw [ByteArray.data_extract]
    simp [bs]
  rw [← bs_back ((bs t).extract i j), h]
theorem mayL_wide {l : List Int} (h : mayL l = true) (k : Nat) : mayL (wideL l k) = true := by unfold wideL; rw [mayL_append, h, mayL_replicate]; rfl
theorem textL_length {l : List Int} (h : mayL l = true) : (textL l).length = l.length := by rw [textL_may h]; simp

set_option maxHeartbeats 2000000 in
theorem cprint_any {A : Option Addr} {n c : Nat} {l : List Int} (b : Bool) (s : Int) (w : World) (h : IL w A n c l) (hl : I64 l) (hs : -9223372036854775808 ≤ s ∧ s ≤ 9223372036854775807) (hn : n ≤ 10000) :
    Calls Tryz.prog 33 #[.agg #[.bool b, .slice A n c, .int .i64 s]] w (RV w (.string (bs (printL ⟨b, l, s⟩)))) := by
  have hmay := Lib.hid (fun W hW => cmay_any (A := A) (n := n) (c := c) (l := l) b s W hW hl hs)
  have hPR : Hid (printL ⟨b, l, s⟩ = if mayDc ⟨b, l, s⟩ then (if b then [45] else []) ++ cutL (textL (wideL l (s.toNat + 1))) s.toNat else []) := rfl
  have hX0 := Blk.made w w 36 #[.bool b, .slice A n c, .int .i64 s] (Later.refl w) _ rfl
  have el := h.len
  generalize printL ⟨b, l, s⟩ = P at *
  cases hmd : mayDc ⟨b, l, s⟩
  · rw [hmd] at hmay
    have HP : Hid (P = []) := by rw [Hid, hPR.out, hmd]; rfl
    clear hmd
    go_enter Tryz.func33, Tryz.ntmps33
    go_wp2_with fail
    refine (hmay.out _ (h.alloc _)).mono ?_
    rintro e w1 ⟨rfl, hB1⟩
    go_wp2_with fail
    go_ret
    exact ⟨by rw [HP.out]; rfl, (hX0.call hB1).later⟩
  · rw [hmd] at hmay
    obtain ⟨hml, hs0, hs1⟩ := mayDc_iff.1 hmd
    simp only at hml hs0 hs1
    obtain ⟨s', rfl⟩ := Int.eq_ofNat_of_zero_le hs0
    have hw := Lib.hid (fun W (hW : IL W A n c l) => show Calls Tryz.prog 58 #[.agg #[.bool b, .slice A n c, .int .i64 (s' : Int)], .int .i64 ((s' : Int) + 1)] W (RO W (wideL l (s' + 1))) from wide_any b (s' : Int) (s' + 1) W hW (by omega) (by omega))
    have hwl := wideL_len l (s' + 1)
    have hti := Lib.hid (fun A n c W (hW : IL W A n c (wideL l (s' + 1))) hn => text_any A n c (wideL l (s' + 1)) W hW (hl.wide _) hn)
    have hmw := mayL_wide hml (s' + 1)
    have htl := textL_length hmw
    have HP : Hid (P = (if b then [45] else []) ++ cutL (textL (wideL l (s' + 1))) s') := by rw [Hid, hPR.out, hmd]; rfl
    have hwb : (wideL l (s' + 1)).length ≤ 20000 := by omega
    generalize wideL l (s' + 1) = y at *
    obtain ⟨a, ha⟩ : ∃ a, (textL y).length = a + s' := ⟨(textL y).length - s', by omega⟩
    have hab : a + s' ≤ 20000 := by omega
    generalize textL y = t at *
    have e1 : Hid ((bs t).extract 0 a = bs (t.take a)) := by rw [Hid, bs_extract]; simp
    have e2 : Hid ((bs t).extract a (a + s') = bs (t.drop a)) := by rw [Hid, bs_extract, List.take_of_length_le (by simp; omega)]
    have hcut : 0 < s' → Hid (cutL t s' = t.take a ++ (46 :: t.drop a)) := fun q => by rw [Hid, cutL, if_pos q, ha, Nat.add_sub_cancel]
    have hcut0 : s' = 0 → Hid (cutL t s' = t) := fun q => by rw [Hid, cutL, if_neg (by omega)]
    have hsz : (bs t).size = a + s' := by rw [bs_size]; exact ha
    have HSZ := Lib.hid hsz
    have z1 : ((bs t).extract 0 a).size = a := by rw [ByteArray.size_extract, hsz]; omega
    have z2 : ((bs t).extract a (a + s')).size = s' := by rw [ByteArray.size_extract, hsz]; omega
    generalize hT : bs t = T at *
    have HT := Lib.hid hT
    clear hT hmd hPR ha
    rcases Nat.eq_zero_or_pos s' with hz | hz
    · have HP2 : Hid (bs P = bs (if b then [45] else []) ++ T) := by rw [Hid, HP.out, (hcut0 hz).out, ← bs_append, HT.out]
      have hz' : ¬ 0 < s' := by omega
      clear hcut hcut0 hz
      cases b
      all_goals
        go_enter Tryz.func33, Tryz.ntmps33
        go_wp2_with fail
        refine (hmay.out _ (h.alloc _)).mono ?_
        rintro e w1 ⟨rfl, hB1⟩
        have hX1 := hX0.call hB1
        obtain ⟨⟨q0, q1, q2⟩, _⟩ := hX1.cells3
        go_wp2_with fail
        refine (hw.out _ (h.later hX1.later)).mono ?_
        rintro e w2 ⟨A2, n2, c2, rfl, hO2, hB2⟩
        have hn2 : n2 ≤ 1000000 := by have := hO2.len; omega
        go_wp2_with fail
        refine (hti.out _ _ _ _ hO2.il hn2).mono ?_
        rintro e w3 ⟨rfl, hB3⟩
        have hX3 := (hX1.call hB2).call hB3
        obtain ⟨⟨q0, q1, q2⟩, _⟩ := hX3.cells3
        go_wp2_with fail
        go_ret
        exact ⟨by rw [HP2.out]; first | rfl | (simp [bs_nil]; done), hX3.later⟩
    · have HP2 : Hid (bs P = if b then bs [45] ++ (T.extract 0 a ++ (bs [46] ++ T.extract a (a + s'))) else T.extract 0 a ++ (bs [46] ++ T.extract a (a + s'))) := by
        rw [Hid, HP.out, (hcut hz).out, e1.out, e2.out, bs_append, bs_append, bs_append]
        cases b <;> rfl
      have k1 : (({ data := #[46] } : ByteArray)).size = 1 := rfl
      have q5 : (T.extract 0 a ++ ({ data := #[46] } : ByteArray)).size = a + 1 := by rw [ByteArray.size_append, k1, z1]
      have q6 : (T.extract 0 a ++ ({ data := #[46] } : ByteArray) ++ T.extract a (a + s')).size = a + 1 + s' := by rw [ByteArray.size_append, q5, z2]
      have q7 : (T.extract 0 a ++ (({ data := #[46] } : ByteArray) ++ T.extract a (a + s'))).size = a + 1 + s' := by rw [ByteArray.size_append, ByteArray.size_append, k1, z1, z2]; omega
      clear hcut hcut0
      cases b
      all_goals
        go_enter Tryz.func33, Tryz.ntmps33
        go_wp2_with fail
        refine (hmay.out _ (h.alloc _)).mono ?_
        rintro e w1 ⟨rfl, hB1⟩
        have hX1 := hX0.call hB1
        obtain ⟨⟨q0, q1, q2⟩, _⟩ := hX1.cells3
        go_wp2_with fail
        refine (hw.out _ (h.later hX1.later)).mono ?_
        rintro e w2 ⟨A2, n2, c2, rfl, hO2, hB2⟩
        have hn2 : n2 ≤ 1000000 := by have := hO2.len; omega
        go_wp2_with fail
        refine (hti.out _ _ _ _ hO2.il hn2).mono ?_
        rintro e w3 ⟨rfl, hB3⟩
        have hX3 := (hX1.call hB2).call hB3
        obtain ⟨⟨q0, q1, q2⟩, _⟩ := hX3.cells3
        go_wp2_with fail
        go_region
        all_goals
          go_wp2_with fail
          go_ret
          exact ⟨by rw [HP2.out]; first | rfl | (simp [bs, ByteArray.append_assoc]; done), hX3.later.drew⟩

end Go.Proofs.YtjinbhnpcdlkiaaGreatDoor

