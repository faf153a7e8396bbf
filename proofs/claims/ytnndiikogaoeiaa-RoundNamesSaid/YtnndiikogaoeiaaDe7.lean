/- The walks of the program's levelling, comparing and adding of decimals. No condition. -/
import Derived.Test.YtnndiikogaoeiaaDe5
import Derived.Test.YtnndiikogaoeiaaCanon2
import Derived.Test.YtnndiikogaoeiaaShift
namespace Go.Proofs.Ytnndiikogaoeiaa
open Go.RowKit

theorem shiftR_zeros {l : List Int} (h : mayL l = true) (N s : Nat) (hs : s ≤ N) (hN : N ≤ 1000) : shiftR l ((N : Int) - (s : Int)) = (zerosB l (N - s), 0) := by
  unfold shiftR shiftL zerosB
  rw [h, if_pos rfl, if_neg (by omega), if_neg (by omega)]
  congr 3
  omega
theorem zerosB_len (l : List Int) (k : Nat) : (zerosB l k).length = l.length + k := by simp [zerosB]

theorem Blk.far3 {w0 W : World} {g g' : Nat} {t : TypeId} {cs : Array Value} (h : Blk w0 g t cs W) (hg : g ≠ g') (h0 : w0.heap.size ≤ g') (u0 u1 u2 : Value) :
    Blk w0 g t cs (((W.setCell ⟨g', 0, none⟩ u0).setCell ⟨g', 1, none⟩ u1).setCell ⟨g', 2, none⟩ u2) :=
  ((h.far (p := ⟨g', 0, none⟩) hg h0 u0).far (p := ⟨g', 1, none⟩) hg h0 u1).far (p := ⟨g', 2, none⟩) hg h0 u2
theorem OL.newc {W : World} {B B' n c : Nat} {A : Option Addr} {l : List Int} (h : OL W B A n c l) (hB : B' ≤ B) : 0 < n → ∀ a, A = some a → B' ≤ a.block := by
  intro hn a ha
  obtain ⟨a', ha', hb'⟩ := h.new hn
  subst ha
  obtain rfl := Option.some.inj ha'
  omega
/-- Two lists and a number. -/
def RPI (w : World) (x y : List Int) (N : Int) (e : Ending) (w' : World) : Prop :=
  ∃ A n c E m q, e = .returned (.tuple #[.slice A n c, .slice E m q, .int .i64 N]) ∧ IL w' A n c x ∧ IL w' E m q y ∧ Below w.heap.size w w' ∧ (0 < n → ∀ a, A = some a → w.heap.size ≤ a.block) ∧ (0 < m → ∀ a, E = some a → w.heap.size ≤ a.block)

set_option maxHeartbeats 1000000 in
theorem level_any {A : Option Addr} {n c : Nat} {l : List Int} {A2 : Option Addr} {n2 c2 : Nat} {l2 : List Int} (b b2 : Bool) (s s2 : Nat) (w : World) (h : IL w A n c l) (h2 : IL w A2 n2 c2 l2) (hm : mayL l = true) (hm2 : mayL l2 = true)
    (hn : n ≤ 100000) (hn2 : n2 ≤ 100000) (hs : s ≤ 1000) (hs2 : s2 ≤ 1000) (N : Nat) (hN : N = max s s2) :
    Calls Try.prog 70 #[.agg #[.bool b, .slice A n c, .int .i64 (s : Int)], .agg #[.bool b2, .slice A2 n2 c2, .int .i64 (s2 : Int)]] w (RPI w (zerosB l (N - s)) (zerosB l2 (N - s2)) N) := by
  have hmax : (if (s : Int) < (s2 : Int) then (s2 : Int) else (s : Int)) = (N : Int) := by split <;> omega
  have hmax2 : (if s < s2 then (s2 : Int) else (s : Int)) = (N : Int) := by split <;> omega
  have hsN : s ≤ N := by omega
  have hs2N : s2 ≤ N := by omega
  have hN1 : N ≤ 1000 := by omega
  have f1 := Lib.hid (fun W (hW : IL W A n c l) => show Calls Try.prog 59 #[.slice A n c, .int .i64 ((N : Int) - (s : Int))] W (RLE W (zerosB l (N - s)) 0) by
    have := shift_any A n c l ((N : Int) - (s : Int)) W hW (I64_of_may hm) (by omega) (by omega)
    rw [shiftR_zeros hm N s hsN hN1] at this
    exact this)
  have f2 := Lib.hid (fun W (hW : IL W A2 n2 c2 l2) => show Calls Try.prog 59 #[.slice A2 n2 c2, .int .i64 ((N : Int) - (s2 : Int))] W (RLE W (zerosB l2 (N - s2)) 0) by
    have := shift_any A2 n2 c2 l2 ((N : Int) - (s2 : Int)) W hW (I64_of_may hm2) (by omega) (by omega)
    rw [shiftR_zeros hm2 N s2 hs2N hN1] at this
    exact this)
  have hX := (Blk.made w w 27 #[.bool b, .slice A n c, .int .i64 (s : Int)] (Later.refl w) _ rfl).alloc (.cells #[.bool b2, .slice A2 n2 c2, .int .i64 (s2 : Int)] 27)
  have hY := Blk.made w (w.alloc (.cells #[.bool b, .slice A n c, .int .i64 (s : Int)] 27)) 27 #[.bool b2, .slice A2 n2 c2, .int .i64 (s2 : Int)] ((Later.refl w).alloc _) (w.heap.size + 1) (by simp)
  clear hN
  go_enter Try.func70, Try.ntmps70
  go_wp2_with fail
  refine (f1.out _ ((h.alloc _).alloc _)).mono ?_
  rintro e w1 ⟨A3, n3, c3, rfl, hO3, hB3⟩
  have hY1 := hY.call hB3
  obtain ⟨⟨q0, q1, q2⟩, _⟩ := hY1.cells3
  go_wp2_with fail
  refine (f2.out _ (h2.later hY1.later)).mono ?_
  rintro e w2 ⟨A4, n4, c4, rfl, hO4, hB4⟩
  go_wp2_with fail
  go_ret3
  exact ⟨_, _, _, _, _, _, rfl, hO3.il.below hB4, hO4.il, hY1.later.call hB4, hO3.newc (by simp; omega), hO4.newc (by have := hY1.later.size; omega)⟩

/-- What decimals are that are held against each other, trim. -/
theorem trimDc_parts {d : Dc} (h : mayL d.l = true) (h0 : 0 ≤ d.s) (h1 : d.s ≤ 1000) :
    ∃ (x : Dc) (sx : Nat), trimDc d = x ∧ x.s = (sx : Int) ∧ sx ≤ 1000 ∧ (sx : Int) ≤ d.s ∧ mayL x.l = true ∧ x.l.length ≤ d.l.length ∧ Canonic x d.s.toNat d.z := by
  have c := trimDc_canonic h h0
  have c1 := c.lo
  have c2 := c.hi
  exact ⟨_, (trimDc d).s.toNat, rfl, by omega, by omega, by omega, c.may, trimDc_len d, c⟩

set_option maxHeartbeats 4000000 in
theorem ccompare_any {A : Option Addr} {n c : Nat} {l : List Int} {A2 : Option Addr} {n2 c2 : Nat} {l2 : List Int} (b b2 : Bool) (s s2 : Int) (w : World) (h : IL w A n c l) (h2 : IL w A2 n2 c2 l2) (hm : mayL l = true) (hm2 : mayL l2 = true)
    (hn : n ≤ 10000) (hn2 : n2 ≤ 10000) (hs0 : 0 ≤ s) (hs1 : s ≤ 1000) (ht0 : 0 ≤ s2) (ht1 : s2 ≤ 1000) :
    Calls Try.prog 39 #[.agg #[.bool b, .slice A n c, .int .i64 s], .agg #[.bool b2, .slice A2 n2 c2, .int .i64 s2]] w (RV w (.int .i64 (cmpDc ⟨b, l, s⟩ ⟨b2, l2, s2⟩))) := by
  have hx := Lib.hid (fun W hW => dtrim_any (A := A) (n := n) (c := c) (l := l) b s W hW (I64_of_may hm) (by omega) hs0 (by omega))
  have hy := Lib.hid (fun W hW => dtrim_any (A := A2) (n := n2) (c := c2) (l := l2) b2 s2 W hW (I64_of_may hm2) (by omega) ht0 (by omega))
  obtain ⟨X, sx, ex, esx, bx1, bx2, mx, lx, cx⟩ := trimDc_parts (d := ⟨b, l, s⟩) hm hs0 hs1
  obtain ⟨Y, sy, ey, esy, by1, by2, my, ly, cy⟩ := trimDc_parts (d := ⟨b2, l2, s2⟩) hm2 ht0 ht1
  have hfin := cmpDc_trim (a := ⟨b, l, s⟩) (b := ⟨b2, l2, s2⟩) hm hs0 hm2 ht0
  have el := h.len
  have el2 := h2.len
  rw [← hfin, ex, ey]
  rw [ex] at hx
  rw [ey] at hy
  clear hfin ex ey
  obtain ⟨xb, xl, xs⟩ := X
  obtain ⟨yb, yl, ys⟩ := Y
  simp only at esx esy mx my lx ly
  subst esx esy
  obtain ⟨N, hN⟩ : ∃ N, N = max sx sy := ⟨_, rfl⟩
  have hsx : sx ≤ N := by omega
  have hsy : sy ≤ N := by omega
  have hNb : N ≤ 1000 := by omega
  have hres := Lib.hid (signC_cmp cx cy N hsx hsy)
  simp only [Int.toNat_natCast] at hres
  have hlv := Lib.hid (fun A n c A2 n2 c2 W hW hW2 hn hn2 => level_any (A := A) (n := n) (c := c) (l := xl) (A2 := A2) (n2 := n2) (c2 := c2) (l2 := yl) xb yb sx sy W hW hW2 mx my hn hn2 bx1 by1 N hN)
  have i1 : I64 (zerosB xl (N - sx)) := I64_of_may (mayL_zerosB mx _)
  have i2 : I64 (zerosB yl (N - sy)) := I64_of_may (mayL_zerosB my _)
  have l1 : (zerosB xl (N - sx)).length ≤ 100000 := by rw [zerosB_len]; omega
  have l2' : (zerosB yl (N - sy)).length ≤ 100000 := by rw [zerosB_len]; omega
  have hc1 := Lib.hid (fun A n c A2 n2 c2 W hW hW2 hn hn2 => compare_any A n c (zerosB xl (N - sx)) A2 n2 c2 (zerosB yl (N - sy)) W hW hW2 i1 i2 hn hn2)
  have hc2 := Lib.hid (fun A n c A2 n2 c2 W hW hW2 hn hn2 => compare_any A n c (zerosB yl (N - sy)) A2 n2 c2 (zerosB xl (N - sx)) W hW hW2 i2 i1 hn hn2)
  have hsw : Hid (cmpL (zerosB yl (N - sy)) (zerosB xl (N - sx)) = -cmpL (zerosB xl (N - sx)) (zerosB yl (N - sy))) := by
    rw [Hid, cmpL_val (mayL_zerosB my _) (mayL_zerosB mx _), cmpL_val (mayL_zerosB mx _) (mayL_zerosB my _), cmpI_neg]
  have hX := (Blk.made w w 27 #[.bool b, .slice A n c, .int .i64 s] (Later.refl w) _ rfl).alloc (.cells #[.bool b2, .slice A2 n2 c2, .int .i64 s2] 27)
  have hY := Blk.made w (w.alloc (.cells #[.bool b, .slice A n c, .int .i64 s] 27)) 27 #[.bool b2, .slice A2 n2 c2, .int .i64 s2] ((Later.refl w).alloc _) (w.heap.size + 1) (by simp)
  have hxl : xl.length ≤ 10000 := by omega
  have hyl : yl.length ≤ 10000 := by omega
  have hIb := (h.alloc (.cells #[.bool b, .slice A n c, .int .i64 s] 27)).alloc (.cells #[.bool b2, .slice A2 n2 c2, .int .i64 s2] 27)
  have hIb2 := (h2.alloc (.cells #[.bool b, .slice A n c, .int .i64 s] 27)).alloc (.cells #[.bool b2, .slice A2 n2 c2, .int .i64 s2] 27)
  clear cx cy hN el el2 lx ly
  go_enter Try.func39, Try.ntmps39
  go_upto_region 1 with fail
  obtain ⟨wb, hwb⟩ : ∃ wb, wb = (w.alloc (.cells #[.bool b, .slice A n c, .int .i64 s] 27)).alloc (.cells #[.bool b2, .slice A2 n2 c2, .int .i64 s2] 27) := ⟨_, rfl⟩
  rw [← hwb] at hX hY hIb hIb2
  rw [← hwb]
  clear hwb
  have q0 := fun W (hW : Later wb W) => (hX.call hW).cells3
  have q1 := fun W (hW : Later wb W) => (hY.call hW).cells3
  have Q0 := Lib.hid q0
  have Q1 := Lib.hid q1
  obtain ⟨⟨x0, x1, x2⟩, ⟨x3, x4, x5⟩⟩ := Q0.out wb.drew (Later.refl wb).drew
  obtain ⟨⟨y0, y1, y2⟩, ⟨y3, y4, y5⟩⟩ := Q1.out wb.drew (Later.refl wb).drew
  have hLb : Later w wb := hX.later
  clear q0 q1
  go_cut [8] (fun _ W => ∃ (A1 : Option Addr) (n1 c1 : Nat) (A3 : Option Addr) (n3 c3 : Nat), Blk w w.heap.size 27 #[.bool xb, .slice A1 n1 c1, .int .i64 (sx : Int)] W ∧ Blk w (w.heap.size + 1) 27 #[.bool yb, .slice A3 n3 c3, .int .i64 (sy : Int)] W ∧ IL W A1 n1 c1 xl ∧ IL W A3 n3 c3 yl)
  case first =>
    go_region_law (first
      | (go_simp; go_at_call 43; (with_reducible refine (hx.out _ (hIb.later (Later.refl wb).drew)).mono ?_); rintro e w1 ⟨A1, n1, c1, rfl, hI1, hB1, hN1⟩; have hL1 : Later wb w1 := (Later.refl wb).drew.call hB1; obtain ⟨⟨x0', x1', x2'⟩, ⟨x3', x4', x5'⟩⟩ := Q0.out w1 hL1; obtain ⟨⟨y0', y1', y2'⟩, ⟨y3', y4', y5'⟩⟩ := Q1.out w1 hL1)
      | (go_simp; go_at_call 43; (with_reducible refine (hy.out _ (hIb2.later hL1)).mono ?_); rintro e w2 ⟨A3, n3, c3, rfl, hI3, hB3, hN3⟩; have hX2 := (hX.call hL1).call hB3; have hY2 := (hY.call hL1).call hB3; obtain ⟨⟨x0'', x1'', x2''⟩, ⟨x3'', x4'', x5''⟩⟩ := hX2.cells3; obtain ⟨⟨y0'', y1'', y2''⟩, ⟨y3'', y4'', y5''⟩⟩ := hY2.cells3))
    all_goals
      go_wp2_with fail
      go_meet
      have hlw := hY.lt
      have hlw1 := hL1.size
      have a1 : ∀ g, g < w.heap.size + 2 → 0 < n1 → ∀ a, A1 = some a → a.block ≠ g := fun g hg hz a ha => by have := hN1 hz a ha; (try simp at this); omega
      have a3 : ∀ g, g < w.heap.size + 2 → 0 < n3 → ∀ a, A3 = some a → a.block ≠ g := fun g hg hz a ha => by have := hN3 hz a ha; (try simp at this); omega
      exact ⟨A1, n1, c1, A3, n3, c3, (hX2.store3 _ _ _).far3 (by omega) (by omega) _ _ _, (hY2.far3 (by omega) (by omega) _ _ _).store3 _ _ _, ((hI1.below hB3).set3 (a1 _ (by omega)) _ _ _).set3 (a1 _ (by omega)) _ _ _, (hI3.set3 (a3 _ (by omega)) _ _ _).set3 (a3 _ (by omega)) _ _ _⟩
  case rest =>
    obtain ⟨A1, n1, c1, A3, n3, c3, hX1, hY1, hI1, hI3⟩ := hcut
    obtain ⟨⟨x0, x1, x2⟩, ⟨x3, x4, x5⟩⟩ := hX1.cells3
    obtain ⟨⟨y0, y1, y2⟩, ⟨y3, y4, y5⟩⟩ := hY1.cells3
    have hn1 : n1 ≤ 100000 := by have := hI1.len; omega
    have hn3 : n3 ≤ 100000 := by have := hI3.len; omega
    have HX1 := Lib.hid hX1
    have HY1 := Lib.hid hY1
    clear hX1 hY1 Q0 Q1 hX hY
    go_wp2_with fail
    refine (hlv.out _ _ _ _ _ _ _ hI1 hI3 hn1 hn3).mono ?_
    rintro e w3 ⟨A4, n4, c4, A5, n5, c5, rfl, hI4, hI5, hB3, _, _⟩
    obtain ⟨⟨x0', x1', x2'⟩, _⟩ := (HX1.out.call hB3).cells3
    obtain ⟨⟨y0', y1', y2'⟩, _⟩ := (HY1.out.call hB3).cells3
    have hn4 : n4 ≤ 100000000 := by have := hI4.len; omega
    have hn5 : n5 ≤ 100000000 := by have := hI5.len; omega
    have hL3 : Later w w3 := HX1.out.later.call hB3
    generalize zerosB xl (N - sx) = zx at *
    generalize zerosB yl (N - sy) = zy at *
    cases xb <;> cases yb
    all_goals
      go_wp2_with (first
        | (go_at_call 60; (with_reducible refine (hc1.out _ _ _ _ _ _ _ hI4 hI5 hn4 hn5).mono ?_); rintro e w4 ⟨rfl, hB4⟩)
        | (go_at_call 60; (with_reducible refine (hc2.out _ _ _ _ _ _ _ hI5 hI4 hn5 hn4).mono ?_); rintro e w4 ⟨rfl, hB4⟩))
      go_ret
      exact ⟨ret_int (by first | (rw [← hres.out]; rfl) | (rw [hsw.out, ← hres.out]; rfl)), by first | exact hL3 | exact hL3.call hB4⟩

end Go.Proofs.Ytnndiikogaoeiaa
