/- The walk of the program's check of limits that may be. No condition. -/
import Derived.Test.YtjinbhnpcdlkiaaGreatDoorMa08
import Derived.Test.YtjinbhnpcdlkiaaGreatDoorMa01
import Derived.Test.YtjinbhnpcdlkiaaGreatDoorMa10
import Derived.Test.YtjinbhnpcdlkiaaGreatDoorMa02
import Derived.Test.YtjinbhnpcdlkiaaGreatDoorMa11
namespace Go.Proofs.YtjinbhnpcdlkiaaGreatDoor
open Go.RowKit

theorem blk_s3 {w0 W : World} {g : Nat} {t : TypeId} {a b c : Value} (h : Blk w0 g t #[a, b, c] W) : W.cell? ⟨g, 0, none⟩ = some a ∧ Blk w0 g t #[a, b, c] W := ⟨h.cells3.1.1, h⟩

set_option maxHeartbeats 2000000 in
theorem calign_any {A : Option Addr} {n c : Nat} {l : List Int} (b : Bool) (s k : Int) (w : World) (h : IL w A n c l) (hl : I64 l) (hs : -9223372036854775808 ≤ s ∧ s ≤ 9223372036854775807) (hk : -9223372036854775808 ≤ k ∧ k ≤ 9223372036854775807) (hn : n ≤ 10000) :
    Calls Tryz.prog 74 #[.agg #[.bool b, .slice A n c, .int .i64 s], .int .i64 k] w (RCE w (alignDc ⟨b, l, s⟩ k).1 (alignDc ⟨b, l, s⟩ k).2) := by
  have hmay := Lib.hid (fun W hW => cmay_any (A := A) (n := n) (c := c) (l := l) b s W hW hl hs)
  have hAL : Hid (alignDc ⟨b, l, s⟩ k = if mayDc ⟨b, l, s⟩ then (if k < (trimDc ⟨b, l, s⟩).s ∨ 1000 < k then (Dc.zero, 3) else (⟨(trimDc ⟨b, l, s⟩).neg, trimL (zerosB (trimDc ⟨b, l, s⟩).l (k - (trimDc ⟨b, l, s⟩).s).toNat), k⟩, 0)) else (Dc.zero, 1)) := rfl
  have hR0 := Blk.made w (w.alloc (.cells #[.bool b, .slice A n c, .int .i64 s] 36)) 36 #[.bool false, .slice none 0 0, .int .i64 0] ((Later.refl w).alloc _) (w.heap.size + 1) (by simp)
  have hX0 := (Blk.made w w 36 #[.bool b, .slice A n c, .int .i64 s] (Later.refl w) _ rfl).alloc (.cells #[.bool false, .slice none 0 0, .int .i64 0] 36)
  have el := h.len
  generalize alignDc ⟨b, l, s⟩ k = D at *
  cases hmd : mayDc ⟨b, l, s⟩
  · rw [hmd] at hmay
    have HD : Hid (D = (Dc.zero, 1)) := by rw [Hid, hAL.out, hmd]; rfl
    clear hmd
    go_enter Tryz.func74, Tryz.ntmps74
    go_wp2_with fail
    refine (hmay.out _ ((h.alloc _).alloc _)).mono ?_
    rintro e w1 ⟨rfl, hB1⟩
    have hR := hR0.call hB1
    obtain ⟨⟨r0, r1, r2⟩, ⟨r3, r4, r5⟩⟩ := hR.cells3
    go_wp2_with fail
    rw [HD.out]
    obtain ⟨⟨z0, z1, z2⟩, _⟩ := (hR.store3 (.bool false) (.slice none 0 0) (.int .i64 0)).cells3
    exact bodyPost_ret (v := .tuple #[.agg #[.bool false, .slice none 0 0, .int .i64 0], .int .i64 1]) (by generalize World.setCell (World.setCell (World.setCell _ _ _) _ _) _ _ = W3 at z0 z1 z2 ⊢; simp [results, Tryz.results74, go_sem, z0, z1, z2]) rfl
      ⟨none, 0, 0, rfl, IL.nil _, below_set3 hR.later (Nat.le_succ _) _ _ _, none_new _⟩
  · rw [hmd] at hmay
    obtain ⟨hml, hs0, hs1⟩ := mayDc_iff.1 hmd
    simp only at hml hs0 hs1
    obtain ⟨X, sx, ex, esx, bx1, bx2, mx, lx, _⟩ := trimDc_parts (d := ⟨b, l, s⟩) hml hs0 hs1
    have htr := Lib.hid (fun W hW => dtrim_any (A := A) (n := n) (c := c) (l := l) b s W hW hl (by omega) hs0 (by omega))
    rw [ex] at htr
    have HD : Hid (D = if k < (sx : Int) ∨ 1000 < k then (Dc.zero, 3) else (⟨X.neg, trimL (zerosB X.l (k - (sx : Int)).toNat), k⟩, 0)) := by rw [Hid, hAL.out, hmd, if_pos rfl, ex, esx]
    clear hmd ex hAL
    obtain ⟨xb, xl, xs⟩ := X
    simp only at esx mx lx HD
    subst esx
    have hxl : xl.length ≤ 10000 := by omega
    by_cases hk0 : k < (sx : Int)
    · have HD2 : Hid (D = (Dc.zero, 3)) := by rw [Hid, HD.out, if_pos (.inl hk0)]
      go_enter Tryz.func74, Tryz.ntmps74
      go_wp2_with fail
      refine (hmay.out _ ((h.alloc _).alloc _)).mono ?_
      rintro e w1 ⟨rfl, hB1⟩
      have hR1 := hR0.call hB1
      have hX1 := hX0.call hB1
      obtain ⟨⟨q0, q1, q2⟩, _⟩ := hX1.cells3
      go_wp2_with fail
      refine (htr.out _ (h.later hX1.later)).mono ?_
      rintro e w2 ⟨A2, n2, c2, rfl, hI2, hB2, hN2⟩
      have hR := (hR1.call hB2).alloc (.cells #[.bool xb, .slice A2 n2 c2, .int .i64 (sx : Int)] 36)
      obtain ⟨⟨r0, r1, r2⟩, ⟨r3, r4, r5⟩⟩ := hR.cells3
      go_wp2_with fail
      rw [HD2.out]
      obtain ⟨⟨z0, z1, z2⟩, _⟩ := (hR.store3 (.bool false) (.slice none 0 0) (.int .i64 0)).cells3
      exact bodyPost_ret (v := .tuple #[.agg #[.bool false, .slice none 0 0, .int .i64 0], .int .i64 3]) (by generalize World.setCell (World.setCell (World.setCell _ _ _) _ _) _ _ = W3 at z0 z1 z2 ⊢; simp [results, Tryz.results74, go_sem, z0, z1, z2]) rfl
        ⟨none, 0, 0, rfl, IL.nil _, below_set3 hR.later (Nat.le_succ _) _ _ _, none_new _⟩
    by_cases hk1 : 1000 < k
    · have HD2 : Hid (D = (Dc.zero, 3)) := by rw [Hid, HD.out, if_pos (.inr hk1)]
      go_enter Tryz.func74, Tryz.ntmps74
      go_wp2_with fail
      refine (hmay.out _ ((h.alloc _).alloc _)).mono ?_
      rintro e w1 ⟨rfl, hB1⟩
      have hR1 := hR0.call hB1
      have hX1 := hX0.call hB1
      obtain ⟨⟨q0, q1, q2⟩, _⟩ := hX1.cells3
      go_wp2_with fail
      refine (htr.out _ (h.later hX1.later)).mono ?_
      rintro e w2 ⟨A2, n2, c2, rfl, hI2, hB2, hN2⟩
      have hR := (hR1.call hB2).alloc (.cells #[.bool xb, .slice A2 n2 c2, .int .i64 (sx : Int)] 36)
      obtain ⟨⟨r0, r1, r2⟩, ⟨r3, r4, r5⟩⟩ := hR.cells3
      go_wp2_with fail
      rw [HD2.out]
      obtain ⟨⟨z0, z1, z2⟩, _⟩ := (hR.store3 (.bool false) (.slice none 0 0) (.int .i64 0)).cells3
      exact bodyPost_ret (v := .tuple #[.agg #[.bool false, .slice none 0 0, .int .i64 0], .int .i64 3]) (by generalize World.setCell (World.setCell (World.setCell _ _ _) _ _) _ _ = W3 at z0 z1 z2 ⊢; simp [results, Tryz.results74, go_sem, z0, z1, z2]) rfl
        ⟨none, 0, 0, rfl, IL.nil _, below_set3 hR.later (Nat.le_succ _) _ _ _, none_new _⟩
    have HD2 : Hid (D = (⟨xb, trimL (zerosB xl (k - (sx : Int)).toNat), k⟩, 0)) := by rw [Hid, HD.out, if_neg (by omega)]
    obtain ⟨k', rfl⟩ := Int.eq_ofNat_of_zero_le (show 0 ≤ k by omega)
    have e1 : ((k' : Int) - (sx : Int)).toNat = k' - sx := by omega
    rw [e1] at HD2
    have hsk : sx ≤ k' := by omega
    have hk2 : k' ≤ 1000 := by omega
    have hsh := Lib.hid (fun A n c W (hW : IL W A n c xl) (hn : n ≤ 1000000) => show Calls Tryz.prog 67 #[.slice A n c, .int .i64 ((k' : Int) - (sx : Int))] W (RLE W (zerosB xl (k' - sx)) 0) by
      have := shift_any A n c xl ((k' : Int) - (sx : Int)) W hW (I64_of_may mx) hn (by omega)
      rw [shiftR_zeros mx k' sx hsk hk2] at this
      exact this)
    have iz : I64 (zerosB xl (k' - sx)) := I64_of_may (mayL_zerosB mx _)
    have hzl : (zerosB xl (k' - sx)).length ≤ 100000 := by rw [zerosB_len]; omega
    have hdt := Lib.hid (fun A n c W (hW : IL W A n c (zerosB xl (k' - sx))) (hn : n ≤ 100000000) => trim_any A n c (zerosB xl (k' - sx)) W hW iz hn)
    generalize zerosB xl (k' - sx) = y at *
    clear e1 HD
    go_enter Tryz.func74, Tryz.ntmps74
    go_wp2_with fail
    refine (hmay.out _ ((h.alloc _).alloc _)).mono ?_
    rintro e w1 ⟨rfl, hB1⟩
    have hR1 := hR0.call hB1
    have hX1 := hX0.call hB1
    obtain ⟨⟨q0, q1, q2⟩, _⟩ := hX1.cells3
    go_wp2_with fail
    refine (htr.out _ (h.later hX1.later)).mono ?_
    rintro e w2 ⟨A2, n2, c2, rfl, hI2, hB2, hN2⟩
    have hR := (hR1.call hB2).alloc (.cells #[.bool xb, .slice A2 n2 c2, .int .i64 (sx : Int)] 36)
    obtain ⟨⟨r0, r1, r2⟩, ⟨r3, r4, r5⟩⟩ := hR.cells3
    have hT := Blk.made w w2 36 #[.bool xb, .slice A2 n2 c2, .int .i64 (sx : Int)] (hR1.call hB2).later _ rfl
    have hn2 : n2 ≤ 10000 := by rw [← hI2.len]; exact hxl
    go_wp2_with fail
    refine (hsh.out _ _ _ _ (hI2.alloc _) (by omega)).mono ?_
    rintro e w3 ⟨A3, n3, c3, rfl, hO3, hB3⟩
    have hn3 : n3 ≤ 100000 := by rw [← hO3.len]; exact hzl
    have hR3 := hR.call hB3
    have hT3 := hT.call hB3
    obtain ⟨⟨t0, t1, t2⟩, _⟩ := hT3.cells3
    go_upto_region 7 with fail
    have hg2 : w.heap.size + 1 < w2.heap.size := (hR1.call hB2).lt
    have HR3 := Lib.hid hR3
    have HT3 := Lib.hid hT3
    clear hR3 hT3
    go_region_held3 (fun W => W.cell? ⟨w2.heap.size, 0, none⟩ = some (.bool xb) ∧ Blk w w2.heap.size 36 #[.bool xb, .slice A2 n2 c2, .int .i64 (sx : Int)] W)
      ((refine blk_s3 ?_; repeat (first | exact HT3.out | exact And.right (by assumption) | refine Blk.drew ?_ | refine Blk.call ?_ hB4 | refine Blk.far ?_ (Nat.ne_of_gt hg2) (Nat.le_succ _) _)))
      ((go_at_call 66; refine (hdt.out _ _ _ _ hO3.il.drew (by omega)).mono ?_; rintro e w4 ⟨A4, n4, c4, rfl, hO4, hB4⟩; obtain ⟨⟨y0, y1, y2⟩, ⟨y3, y4, y5⟩⟩ := (HR3.out.drew.call hB4).cells3))
    all_goals
      go_wp2_with fail
      have hnew : 0 < n4 → ∀ a, A4 = some a → w.heap.size + 1 < a.block := fun hz a ha => by
        obtain ⟨a', ha', hb'⟩ := hO4.new hz
        subst ha
        obtain rfl := Option.some.inj ha'
        have := HR3.out.lt
        simp at hb'
        omega
      rw [HD2.out]
      obtain ⟨⟨z0, z1, z2⟩, _⟩ := ((HR3.out.drew.call hB4).store3 (.bool xb) (.slice A4 n4 c4) (.int .i64 (k' : Int))).cells3
      exact bodyPost_ret (v := .tuple #[.agg #[.bool xb, .slice A4 n4 c4, .int .i64 (k' : Int)], .int .i64 0]) (by generalize World.setCell (World.setCell (World.setCell _ _ _) _ _) _ _ = W3 at z0 z1 z2 ⊢; simp [results, Tryz.results74, go_sem, z0, z1, z2]) rfl
        ⟨A4, n4, c4, rfl, hO4.il.set3 (fun hz a ha => by have := hnew hz a ha; omega) _ _ _, below_set3 (HR3.out.drew.call hB4).later (Nat.le_succ _) _ _ _, fun hz a ha => by have := hnew hz a ha; omega⟩

end Go.Proofs.YtjinbhnpcdlkiaaGreatDoor


namespace Go.Proofs.YtjinbhnpcdlkiaaGreatDoor
open Go.RowKit

def DB (w0 : World) (g : Nat) (t : TypeId) (A : Option Addr) (n c : Nat) (X : Dc) (W : World) : Prop :=
  Blk w0 g t #[.bool X.neg, .slice A n c, .int .i64 X.s] W ∧ IL W A n c X.l
section
variable {w0 W W' : World} {g : Nat} {t : TypeId} {A : Option Addr} {n c : Nat} {X : Dc}
theorem DB.alloc (h : DB w0 g t A n c X W) (o : Obj) : DB w0 g t A n c X (W.alloc o) := ⟨h.1.alloc o, h.2.alloc o⟩
theorem DB.call (h : DB w0 g t A n c X W) (hb : Below W.heap.size W W') : DB w0 g t A n c X W' := ⟨h.1.call hb, h.2.below hb⟩
theorem DB.made (w0 W : World) (t : TypeId) {A : Option Addr} {n c : Nat} {X : Dc} (hL : Later w0 W) (hI : IL W A n c X.l) (g : Nat) (hg : g = W.heap.size) :
    DB w0 g t A n c X (W.alloc (.cells #[.bool X.neg, .slice A n c, .int .i64 X.s] t)) := ⟨Blk.made w0 W t _ hL g hg, hI.alloc _⟩
theorem DB.later (h : DB w0 g t A n c X W) : Later w0 W := h.1.later
theorem DB.il (h : DB w0 g t A n c X W) : IL W A n c X.l := h.2
theorem DB.at_ (h : DB w0 g t A n c X W) : DcAt g A n c X W := ⟨h.1.cells3.1, h.2⟩
theorem DB.c0 (h : DB w0 g t A n c X W) : W.cell? ⟨g, 0, none⟩ = some (.bool X.neg) := h.1.cells3.1.1
theorem DB.c1 (h : DB w0 g t A n c X W) : W.cell? ⟨g, 1, none⟩ = some (.slice A n c) := h.1.cells3.1.2.1
theorem DB.c2 (h : DB w0 g t A n c X W) : W.cell? ⟨g, 2, none⟩ = some (.int .i64 X.s) := h.1.cells3.1.2.2
theorem DB.len (h : DB w0 g t A n c X W) : X.l.length = n := h.2.len
end
/-- What is read of a later world. -/
theorem DcAt.call {g : Nat} {A : Option Addr} {n c : Nat} {X : Dc} {W W' : World} (h : DcAt g A n c X W) (hb : Below W.heap.size W W') : DcAt g A n c X W' := h.later hb
/-- Two decimals that are the same. -/
theorem csame_at {g : Nat} {A : Option Addr} {n c : Nat} {X : Dc} {g2 : Nat} {A2 : Option Addr} {n2 c2 : Nat} {W : World} (h : DcAt g A n c X W) (h2 : DcAt g2 A2 n2 c2 X W) (s : Ext W) :
    Calls Tryz.prog 29 #[.agg #[.bool X.neg, .slice A n c, .int .i64 X.s], .agg #[.bool X.neg, .slice A2 n2 c2, .int .i64 X.s]] s.world (RV s.world (.bool true)) := by
  have := csame_any X.neg X.neg X.s X.s s.world (h.il s) (h2.il s)
  rw [show sameDc ⟨X.neg, X.l, X.s⟩ ⟨X.neg, X.l, X.s⟩ = true from sameDc_refl _] at this
  exact this
/-- A decimal's value: where its digits lie, and how they read. -/
structure CV where
  A : Option Addr
  n : Nat
  c : Nat
  X : Dc
def CV.ok (x : CV) (W : World) : Prop := IL W x.A x.n x.c x.X.l
theorem CV.ok.later {x : CV} {W W' : World} (h : x.ok W) (hb : Later W W') : x.ok W' := IL.later h hb
/-- The three cells of a decimal from an offset on. -/
def CV.at_ (x : CV) (W : World) (g o : Nat) : Prop :=
  W.cell? ⟨g, o, none⟩ = some (.bool x.X.neg) ∧ W.cell? ⟨g, o + 1, none⟩ = some (.slice x.A x.n x.c) ∧ W.cell? ⟨g, o + 2, none⟩ = some (.int .i64 x.X.s)
theorem CV.at_.later {x : CV} {W W' : World} {g o : Nat} (h : x.at_ W g o) (hb : Later W W') : x.at_ W' g o := ⟨hb.cell h.1, hb.cell h.2.1, hb.cell h.2.2⟩
/-- A decimal stored into a block of the call's own. -/
theorem DB.store {w0 W : World} {g : Nat} {t : TypeId} {a b c : Value} (h : Blk w0 g t #[a, b, c] W) {A : Option Addr} {n q : Nat} {X : Dc} (hI : IL W A n q X.l) (hp : 0 < n → ∀ a, A = some a → a.block ≠ g) :
    DB w0 g t A n q X (((W.setCell ⟨g, 0, none⟩ (.bool X.neg)).setCell ⟨g, 1, none⟩ (.slice A n q)).setCell ⟨g, 2, none⟩ (.int .i64 X.s)) :=
  ⟨h.store3 _ _ _, hI.set3 hp _ _ _⟩
theorem DB.from_ {w0 w1 W : World} {g : Nat} {t : TypeId} {A : Option Addr} {n c : Nat} {X : Dc} (hL : Later w0 w1) (h : DB w1 g t A n c X W) : DB w0 g t A n c X W :=
  ⟨⟨Nat.le_trans hL.size h.1.1, h.1.2.1, below_from hL h.later⟩, h.2⟩
theorem IL.block_lt {W : World} {A : Option Addr} {n c : Nat} {l : List Int} (h : IL W A n c l) : 0 < n → ∀ a, A = some a → a.block < W.heap.size := by
  intro hn a ha
  obtain ⟨b, off, e, hb, _⟩ := h.2.2.2 hn
  rw [ha] at e
  rw [Option.some.inj e]
  exact hb
theorem IL.apart {W : World} {A : Option Addr} {n c : Nat} {l : List Int} (h : IL W A n c l) {g : Nat} (hg : W.heap.size ≤ g) : 0 < n → ∀ a, A = some a → a.block ≠ g := fun hn a ha => by
  have := h.block_lt hn a ha
  omega

end Go.Proofs.YtjinbhnpcdlkiaaGreatDoor


namespace Go.Proofs.YtjinbhnpcdlkiaaGreatDoor
open Go.RowKit

def nameB (m : Int) : ByteArray :=
  if m = 0 then { data := #[100, 111, 119, 110] } else if m = 1 then { data := #[117, 112] } else if m = 2 then { data := #[102, 108, 111, 111, 114] } else if m = 3 then { data := #[99, 101, 105, 108] }
  else if m = 4 then { data := #[104, 97, 108, 102, 100, 111, 119, 110] } else if m = 5 then { data := #[104, 97, 108, 102, 117, 112] } else if m = 6 then { data := #[104, 97, 108, 102, 101, 118, 101, 110] } else { data := #[] }
def nameCells : Array Value := #[.string (nameB 0), .string (nameB 1), .string (nameB 2), .string (nameB 3), .string (nameB 4), .string (nameB 5), .string (nameB 6)]

theorem names_any (w : World) : Calls Tryz.prog 60 #[] w fun e w' => e = .returned (.slice (some ⟨w.heap.size, 0, none⟩) 7 7) ∧ w' = w.alloc (.cells nameCells 9) := by
  go_enter Tryz.func60, Tryz.ntmps60
  go_wp2
  go_ret
  exact ⟨rfl, rfl⟩
theorem seven {m : Int} (h : 0 ≤ m ∧ m ≤ 6) : m = 0 ∨ m = 1 ∨ m = 2 ∨ m = 3 ∨ m = 4 ∨ m = 5 ∨ m = 6 := by omega

theorem name_any (m : Int) (w : World) : Calls Tryz.prog 39 #[.int .i64 m] w (RV w (.string (nameB m))) := by
  by_cases h : 0 ≤ m ∧ m ≤ 6
  · have hc : ∀ i, (w.alloc (.cells nameCells 9)).cell? ⟨w.heap.size, i, none⟩ = nameCells[i]? := fun i => by rw [World.cell?_alloc_at _ _ _ _ rfl]
    have h0 : (w.alloc (.cells nameCells 9)).cell? ⟨w.heap.size, 0, none⟩ = some (.string (nameB 0)) := hc 0
    have h1 : (w.alloc (.cells nameCells 9)).cell? ⟨w.heap.size, 1, none⟩ = some (.string (nameB 1)) := hc 1
    have h2 : (w.alloc (.cells nameCells 9)).cell? ⟨w.heap.size, 2, none⟩ = some (.string (nameB 2)) := hc 2
    have h3 : (w.alloc (.cells nameCells 9)).cell? ⟨w.heap.size, 3, none⟩ = some (.string (nameB 3)) := hc 3
    have h4 : (w.alloc (.cells nameCells 9)).cell? ⟨w.heap.size, 4, none⟩ = some (.string (nameB 4)) := hc 4
    have h5 : (w.alloc (.cells nameCells 9)).cell? ⟨w.heap.size, 5, none⟩ = some (.string (nameB 5)) := hc 5
    have h6 : (w.alloc (.cells nameCells 9)).cell? ⟨w.heap.size, 6, none⟩ = some (.string (nameB 6)) := hc 6
    have HB : Below w.heap.size w (w.alloc (.cells nameCells 9)) := (Below.refl _ _).alloc (Nat.le_refl _) _
    have HW : ∃ W, W = w.alloc (.cells nameCells 9) := ⟨_, rfl⟩
    obtain ⟨W, hW⟩ := HW
    rw [← hW] at h0 h1 h2 h3 h4 h5 h6 HB
    have hn := Lib.hid (show Calls Tryz.prog 60 #[] w fun e w' => e = .returned (.slice (some ⟨w.heap.size, 0, none⟩) 7 7) ∧ w' = W by rw [hW]; exact names_any w)
    clear hc hW
    rcases seven h with rfl | rfl | rfl | rfl | rfl | rfl | rfl
    all_goals
      go_enter Tryz.func39, Tryz.ntmps39
      go_wp2_with fail
      refine hn.out.mono ?_
      rintro e w1 ⟨rfl, rfl⟩
      go_wp2_with fail
      go_ret
      exact ⟨rfl, HB⟩
  · have hb : nameB m = { data := #[] } := by
      unfold nameB
      rw [if_neg (by omega), if_neg (by omega), if_neg (by omega), if_neg (by omega), if_neg (by omega), if_neg (by omega), if_neg (by omega)]
    rw [hb]
    clear hb
    rcases Int.lt_or_le m 0 with h1 | h1
    · go_enter Tryz.func39, Tryz.ntmps39
      go_wp2_with fail
      go_ret
      exact ⟨rfl, Below.refl _ _⟩
    · have h2 : 6 < m := by omega
      clear h
      go_enter Tryz.func39, Tryz.ntmps39
      go_wp2_with fail
      go_ret
      exact ⟨rfl, Below.refl _ _⟩

theorem away_any (m : Int) (neg odd : Bool) (c : Int) (w : World) (hm : 0 ≤ m ∧ m ≤ 6) :
    Calls Tryz.prog 75 #[.int .i64 m, .bool neg, .bool odd, .int .i64 c] w fun e w' => e = .returned (.bool (awayB m neg odd c)) ∧ w = w' := by
  rcases seven hm with rfl | rfl | rfl | rfl | rfl | rfl | rfl
  · go_enter Tryz.func75, Tryz.ntmps75
    go_wp2
    go_ret
    exact ⟨rfl, rfl⟩
  · go_enter Tryz.func75, Tryz.ntmps75
    go_wp2
    go_ret
    exact ⟨rfl, rfl⟩
  · go_enter Tryz.func75, Tryz.ntmps75
    go_wp2
    go_ret
    exact ⟨rfl, rfl⟩
  · go_enter Tryz.func75, Tryz.ntmps75
    go_wp2
    go_ret
    exact ⟨rfl, rfl⟩
  · go_enter Tryz.func75, Tryz.ntmps75
    go_wp2
    go_ret
    exact ⟨rfl, rfl⟩
  · go_enter Tryz.func75, Tryz.ntmps75
    go_wp2
    go_ret
    exact ⟨rfl, rfl⟩
  · by_cases hc : c = 0
    · subst hc
      go_enter Tryz.func75, Tryz.ntmps75
      go_wp2
      go_ret
      exact ⟨rfl, rfl⟩
    · have hb : (c == (0 : Int)) = false := by simpa using hc
      have hv : Hid (awayB 6 neg odd c = decide (0 < c)) := by unfold awayB; simp [Hid, hc]
      rw [hv.out]
      go_enter Tryz.func75, Tryz.ntmps75
      go_wp2
      go_ret
      exact ⟨rfl, rfl⟩

end Go.Proofs.YtjinbhnpcdlkiaaGreatDoor


namespace Go.Proofs.YtjinbhnpcdlkiaaGreatDoor
open Go.RowKit

/-- Limits that may be. -/
structure Cn.Ok (n : Cn) : Prop where
  ic : 1 ≤ n.ic ∧ n.ic ≤ 64
  fc : 0 ≤ n.fc ∧ n.fc ≤ 64
  sc : 0 ≤ n.sc ∧ n.sc ≤ n.fc
  mi : 0 ≤ n.mi ∧ n.mi ≤ n.ic
  mf : 0 ≤ n.mf ∧ n.mf ≤ n.sc
  md : 0 ≤ n.md ∧ n.md ≤ 6
  hs : 1 ≤ n.hs ∧ n.hs ≤ 1024
theorem name_ne {m : Int} (h : 0 ≤ m ∧ m ≤ 6) : (nameB m).toList.isEmpty = false := by
  have hc : m = 0 ∨ m = 1 ∨ m = 2 ∨ m = 3 ∨ m = 4 ∨ m = 5 ∨ m = 6 := by omega
  rcases hc with rfl | rfl | rfl | rfl | rfl | rfl | rfl <;> decide +kernel
set_option maxRecDepth 100000 in
set_option maxHeartbeats 4000000 in
theorem ccheck_ok (n : Cn) (w : World) (hn : n.Ok) :
    Calls Tryz.prog 19 #[.agg #[.int .i64 n.ic, .int .i64 n.fc, .int .i64 n.sc, .int .i64 n.mi, .int .i64 n.mf, .int .i64 n.md, .int .i64 n.hs]] w (RV w .nilIface) := by
  have hX := (Blk.made w w 37 #[.int .i64 n.ic, .int .i64 n.fc, .int .i64 n.sc, .int .i64 n.mi, .int .i64 n.mf, .int .i64 n.md, .int .i64 n.hs] (Later.refl w) _ rfl)
  have hnm := Lib.hid (fun W => name_any n.md W)
  have hne := name_ne hn.md
  generalize nameB n.md = nb at *
  go_enter Tryz.func19, Tryz.ntmps19
  go_upto_region 2 with fail
  have hX1 := hX.alloc (.cells #[.string { data := #[105, 110, 116, 99, 97, 112] }, .int .i64 n.ic, .int .i64 1, .int .i64 64, .string { data := #[102, 114, 97, 99, 99, 97, 112] }, .int .i64 n.fc, .int .i64 0, .int .i64 64, .string { data := #[115, 99, 97, 108, 101] }, .int .i64 n.sc, .int .i64 0, .int .i64 n.fc, .string { data := #[109, 105, 110, 105, 110, 116] }, .int .i64 n.mi, .int .i64 0, .int .i64 n.ic, .string { data := #[109, 105, 110, 102, 114, 97, 99] }, .int .i64 n.mf, .int .i64 0, .int .i64 n.sc] 94)
  have hK := Blk.made w (w.alloc (.cells #[.int .i64 n.ic, .int .i64 n.fc, .int .i64 n.sc, .int .i64 n.mi, .int .i64 n.mf, .int .i64 n.md, .int .i64 n.hs] 37)) 94 #[.string { data := #[105, 110, 116, 99, 97, 112] }, .int .i64 n.ic, .int .i64 1, .int .i64 64, .string { data := #[102, 114, 97, 99, 99, 97, 112] }, .int .i64 n.fc, .int .i64 0, .int .i64 64, .string { data := #[115, 99, 97, 108, 101] }, .int .i64 n.sc, .int .i64 0, .int .i64 n.fc, .string { data := #[109, 105, 110, 105, 110, 116] }, .int .i64 n.mi, .int .i64 0, .int .i64 n.ic, .string { data := #[109, 105, 110, 102, 114, 97, 99] }, .int .i64 n.mf, .int .i64 0, .int .i64 n.sc] ((Later.refl w).alloc _) (w.heap.size + 1) (by simp)
  generalize World.alloc (World.alloc w _) _ = w9 at *
  obtain ⟨Sn, Ni, Li, Ti, hF⟩ : ∃ (Sn : Nat → ByteArray) (Ni Li Ti : Nat → Int), ∀ i, i < 5 → (w9.cell? ⟨w.heap.size + 1, i * 4, none⟩ = some (.string (Sn i)) ∧ w9.cell? ⟨w.heap.size + 1, i * 4 + 1, none⟩ = some (.int .i64 (Ni i)) ∧ w9.cell? ⟨w.heap.size + 1, i * 4 + 2, none⟩ = some (.int .i64 (Li i)) ∧ w9.cell? ⟨w.heap.size + 1, i * 4 + 3, none⟩ = some (.int .i64 (Ti i))) ∧ Li i ≤ Ni i ∧ Ni i ≤ Ti i := by
    refine ⟨fun i => if i = 0 then ({ data := #[105, 110, 116, 99, 97, 112] } : ByteArray) else if i = 1 then ({ data := #[102, 114, 97, 99, 99, 97, 112] } : ByteArray) else if i = 2 then ({ data := #[115, 99, 97, 108, 101] } : ByteArray) else if i = 3 then ({ data := #[109, 105, 110, 105, 110, 116] } : ByteArray) else ({ data := #[109, 105, 110, 102, 114, 97, 99] } : ByteArray), fun i => if i = 0 then n.ic else if i = 1 then n.fc else if i = 2 then n.sc else if i = 3 then n.mi else n.mf, fun i => if i = 0 then (1 : Int) else if i = 1 then (0 : Int) else if i = 2 then (0 : Int) else if i = 3 then (0 : Int) else (0 : Int), fun i => if i = 0 then (64 : Int) else if i = 1 then (64 : Int) else if i = 2 then n.fc else if i = 3 then n.ic else n.sc, fun i hi => ?_⟩
    have hcs : i = 0 ∨ i = 1 ∨ i = 2 ∨ i = 3 ∨ i = 4 := by omega
    rcases hcs with rfl | rfl | rfl | rfl | rfl
    · exact ⟨⟨hK.cell 0, hK.cell 1, hK.cell 2, hK.cell 3⟩, hn.ic.1, hn.ic.2⟩
    · exact ⟨⟨hK.cell 4, hK.cell 5, hK.cell 6, hK.cell 7⟩, hn.fc.1, hn.fc.2⟩
    · exact ⟨⟨hK.cell 8, hK.cell 9, hK.cell 10, hK.cell 11⟩, hn.sc.1, hn.sc.2⟩
    · exact ⟨⟨hK.cell 12, hK.cell 13, hK.cell 14, hK.cell 15⟩, hn.mi.1, hn.mi.2⟩
    · exact ⟨⟨hK.cell 16, hK.cell 17, hK.cell 18, hK.cell 19⟩, hn.mf.1, hn.mf.2⟩
  have HF := Lib.hid hF
  have HN := Lib.hid hn
  clear hF hn hX
  go_wp2_with fail
  go_loopw [30] (fun v wr => ∃ i : Nat, i ≤ 5 ∧ v = .int .i64 i ∧ Later w9 wr) (fun v _ => 5 - (intOf v).toNat)
  case atStart => exact ⟨0, by omega, rfl, Later.refl _⟩
  case round =>
    obtain ⟨i, hi, rfl, hL⟩ := hrel
    by_cases hlt : i < 5
    · obtain ⟨⟨c0, c1, c2, c3⟩, b1, b2⟩ := HF.out i hlt
      generalize Sn i = sn at *
      generalize Ni i = ni at *
      generalize Li i = li at *
      generalize Ti i = ti at *
      have hi3 : (i : Int) < 5 := by omega
      have hi0 : (0 : Int) ≤ (i : Int) := by omega
      have e0 := hL.cell c0
      have e1 := hL.cell c1
      have e2 := hL.cell c2
      have e3 := hL.cell c3
      have b3 : ¬ ni < li := by omega
      have b4 : ¬ ti < ni := by omega
      clear c0 c1 c2 c3
      go_wp2_with fail
      go_roundw
      case rel => exact ⟨i + 1, by omega, by go_num, hL.alloc _⟩
      case measure => simp [intOf]; omega
    · have k5 := (hX1.call hL).cell 5
      have k6 := (hX1.call hL).cell 6
      have k5' : wr.cell? ⟨w.heap.size, 5, none⟩ = some (.int .i64 n.md) := k5
      have k6' : wr.cell? ⟨w.heap.size, 6, none⟩ = some (.int .i64 n.hs) := k6
      clear k5 k6
      go_wp2_with fail
      refine (hnm.out _).mono ?_
      rintro e w10 ⟨rfl, hB⟩
      have k7 : w10.cell? ⟨w.heap.size, 6, none⟩ = some (.int .i64 n.hs) := (hX1.call (below_from hL hB)).cell 6
      have g1 : ¬ n.hs < 1 := by have := HN.out.hs; omega
      have g2 : ¬ 1024 < n.hs := by have := HN.out.hs; omega
      go_wp2_with fail
      go_ret
      exact ⟨rfl, (hX1.call (below_from hL hB)).later⟩

end Go.Proofs.YtjinbhnpcdlkiaaGreatDoor

