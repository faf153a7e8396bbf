/- The walk of the program's adding of decimals. No condition. -/
import Derived.Test.YtjinbhnpcdlkiaaGreatDoorMa07
import Derived.Test.YtjinbhnpcdlkiaaGreatDoorMa01
import Derived.Test.YtjinbhnpcdlkiaaGreatDoorMa05
import Derived.Test.YtjinbhnpcdlkiaaGreatDoorMa06
namespace Go.Proofs.YtjinbhnpcdlkiaaGreatDoor
open Go.RowKit

def shiftR (l : List Int) (k : Int) : List Int × Int := if mayL l then (if k < -1000 ∨ 1000 < k then ([], 3) else (shiftL l k, 0)) else ([], 1)

set_option maxHeartbeats 1000000 in
theorem shift_any (A : Option Addr) (n c : Nat) (l : List Int) (k : Int) (w : World) (h : IL w A n c l) (hl : I64 l) (hn : n ≤ 1000000) (hk : -9223372036854775808 ≤ k ∧ k ≤ 9223372036854775807) :
    Calls Tryz.prog 67 #[.slice A n c, .int .i64 k] w (RLE w (shiftR l k).1 (shiftR l k).2) := by
  have hcap := h.cap
  have hle := h.le
  have hlen := Lib.hid h.len
  have hm1 := Lib.hid (may_any A n c l w h hl)
  cases ha : mayL l
  · have hr : Hid (shiftR l k = ([], 1)) := by unfold Hid shiftR; rw [ha]; rfl
    rw [ha] at hm1
    clear ha
    go_enter Tryz.func67, Tryz.ntmps67
    go_wp2_with (first | (go_at_call 78; refine hm1.out.mono ?_; rintro e w' ⟨rfl, rfl⟩))
    go_ret2
    exact ⟨_, _, _, by rw [hr.out]; rfl, by rw [hr.out]; exact OL.nil _ _, Below.refl _ _⟩
  · rw [ha] at hm1
    have HA := Lib.hid ha
    clear ha
    by_cases hk0 : k < -1000
    · have hr : Hid (shiftR l k = ([], 3)) := by unfold Hid shiftR; rw [HA.out, if_pos rfl, if_pos (.inl hk0)]
      go_enter Tryz.func67, Tryz.ntmps67
      go_wp2_with (first | (go_at_call 78; refine hm1.out.mono ?_; rintro e w' ⟨rfl, rfl⟩))
      go_ret2
      exact ⟨_, _, _, by rw [hr.out]; rfl, by rw [hr.out]; exact OL.nil _ _, Below.refl _ _⟩
    · by_cases hk1 : 1000 < k
      · have hr : Hid (shiftR l k = ([], 3)) := by unfold Hid shiftR; rw [HA.out, if_pos rfl, if_pos (.inr hk1)]
        go_enter Tryz.func67, Tryz.ntmps67
        go_wp2_with (first | (go_at_call 78; refine hm1.out.mono ?_; rintro e w' ⟨rfl, rfl⟩))
        go_ret2
        exact ⟨_, _, _, by rw [hr.out]; rfl, by rw [hr.out]; exact OL.nil _ _, Below.refl _ _⟩
      · have hr0 : Hid (shiftR l k = (shiftL l k, 0)) := by unfold Hid shiftR; rw [HA.out, if_pos rfl, if_neg (by omega)]
        rcases Int.lt_or_le k 0 with hneg | hneg
        · rcases Int.lt_or_le ((n : Int) + k) 0 with hs | hs
          · have hr : Hid (shiftR l k = ([], 0)) := by
              have : l.length - (-k).toNat = 0 := by rw [hlen.out]; omega
              rw [Hid, hr0.out, shiftL, if_pos hneg, this]; rfl
            go_enter Tryz.func67, Tryz.ntmps67
            go_wp2_with (first
              | (go_at_call 78; refine hm1.out.mono ?_; rintro e w' ⟨rfl, rfl⟩)
              | (go_at_call 83; refine (clone_any _ _ _ [] _ (IL.empty _ _ _ (by omega)) (by omega)).mono ?_; rintro e w' ⟨A', n', c', rfl, hO, hB⟩))
            all_goals
              go_ret2
              exact ⟨_, _, _, by rw [hr.out]; rfl, by rw [hr.out]; exact hO, hB⟩
          · have hr : Hid (shiftR l k = (l.take ((n : Int) + k).toNat, 0)) := by
              rw [Hid, hr0.out, shiftL, if_pos hneg, hlen.out]; congr 2; omega
            go_enter Tryz.func67, Tryz.ntmps67
            go_wp2_with (first
              | (go_at_call 78; refine hm1.out.mono ?_; rintro e w' ⟨rfl, rfl⟩)
              | (go_at_call 83; refine (clone_any _ _ _ _ _ (h.take (k := ((n : Int) + k).toNat) (by omega) (by omega) (Nat.le_refl _) _ (by intro hkn; first | rfl | exact if_neg (by omega))) (by omega)).mono ?_; rintro e w' ⟨A', n', c', rfl, hO, hB⟩))
            all_goals
              go_ret2
              exact ⟨_, _, _, by rw [hr.out]; rfl, by rw [hr.out]; exact hO, hB⟩
        · obtain ⟨m, rfl⟩ := Int.eq_ofNat_of_zero_le hneg
          have hr : Hid (shiftR l (m : Int) = (l ++ List.replicate m 0, 0)) := by rw [Hid, hr0.out, shiftL, if_neg (by omega)]; rfl
          go_enter Tryz.func67, Tryz.ntmps67
          go_wp2_with fail
          refine hm1.out.mono ?_
          rintro e w' ⟨rfl, rfl⟩
          go_wp2_with fail
          refine (clone_any _ _ _ l _ h (by omega)).mono ?_
          rintro e w' ⟨A', n', c', rfl, hO, hB⟩
          have hn' : n' = n := by rw [← hO.len]; exact hlen.out
          subst hn'
          go_wp2_with (first
            | (at_builtin; refine wpList_append_zeros w.heap.size rfl _ _ rfl rfl rfl hO hB.size (by omega) ?_; intro A2 c2 w2 hO2 hB2))
          go_ret2
          exact ⟨_, _, _, by rw [hr.out]; rfl, by rw [hr.out]; exact hO2, hB.trans hB2⟩

end Go.Proofs.YtjinbhnpcdlkiaaGreatDoor


namespace Go.Proofs.YtjinbhnpcdlkiaaGreatDoor
open Go.RowKit

theorem shiftR_zeros {l : List Int} (h : mayL l = true) (N s : Nat) (hs : s ≤ N) (hN : N ≤ 1000) : shiftR l ((N : Int) - (s : Int)) = (zerosB l (N - s), 0) := by
  unfold shiftR shiftL zerosB
  rw [h, if_pos rfl, if_neg (by omega), if_neg (by omega)]
  congr 3
  omega
theorem zerosB_len (l : List Int) (k : Nat) : (zerosB l k).length = l.length + k := by simp [zerosB]

theorem Blk.far3 {w0 W : World} {g g' : Nat} {t : TypeId} {cs : Array Value} (h : Blk w0 g t cs W) (hg : g ≠ g') (h0 : w0.heap.size ≤ g') (u0 u1 u2 : Value) :
    Blk w0 g t cs (((W.setCell ⟨g', 0, none⟩ u0).setCell ⟨g', 1, none⟩ u1).setCell ⟨g', 2, none⟩ u2) :=
  ((h.far (p := ⟨g', 0, none⟩) hg h0 u0).far (p := ⟨g', 1, none⟩) hg h0 u1).far (p := ⟨g', 2, none⟩) hg h0 u2
theorem OL.newc {W : World} {B B' n c : Nat} {A : Option Addr} {l : List Int} (h : OL W B A n c l) (hB : B' ≤ B) : 0 < n → ∀ a, A = some a → B' ≤ a.block := by
  intro hn a ha
  obtain ⟨a', ha', hb'⟩ := h.new hn
  subst ha
  obtain rfl := Option.some.inj ha'
  omega
/-- Two lists and a number. -/
def RPI (w : World) (x y : List Int) (N : Int) (e : Ending) (w' : World) : Prop :=
  ∃ A n c E m q, e = .returned (.tuple #[.slice A n c, .slice E m q, .int .i64 N]) ∧ IL w' A n c x ∧ IL w' E m q y ∧ Below w.heap.size w w' ∧ (0 < n → ∀ a, A = some a → w.heap.size ≤ a.block) ∧ (0 < m → ∀ a, E = some a → w.heap.size ≤ a.block)

set_option maxHeartbeats 1000000 in
theorem level_any {A : Option Addr} {n c : Nat} {l : List Int} {A2 : Option Addr} {n2 c2 : Nat} {l2 : List Int} (b b2 : Bool) (s s2 : Nat) (w : World) (h : IL w A n c l) (h2 : IL w A2 n2 c2 l2) (hm : mayL l = true) (hm2 : mayL l2 = true)
    (hn : n ≤ 100000) (hn2 : n2 ≤ 100000) (hs : s ≤ 1000) (hs2 : s2 ≤ 1000) (N : Nat) (hN : N = max s s2) :
    Calls Tryz.prog 43 #[.agg #[.bool b, .slice A n c, .int .i64 (s : Int)], .agg #[.bool b2, .slice A2 n2 c2, .int .i64 (s2 : Int)]] w (RPI w (zerosB l (N - s)) (zerosB l2 (N - s2)) N) := by
  have hmax : (if (s : Int) < (s2 : Int) then (s2 : Int) else (s : Int)) = (N : Int) := by split <;> omega
  have hmax2 : (if s < s2 then (s2 : Int) else (s : Int)) = (N : Int) := by split <;> omega
  have hsN : s ≤ N := by omega
  have hs2N : s2 ≤ N := by omega
  have hN1 : N ≤ 1000 := by omega
  have f1 := Lib.hid (fun W (hW : IL W A n c l) => show Calls Tryz.prog 67 #[.slice A n c, .int .i64 ((N : Int) - (s : Int))] W (RLE W (zerosB l (N - s)) 0) by
    have := shift_any A n c l ((N : Int) - (s : Int)) W hW (I64_of_may hm) (by omega) (by omega)
    rw [shiftR_zeros hm N s hsN hN1] at this
    exact this)
  have f2 := Lib.hid (fun W (hW : IL W A2 n2 c2 l2) => show Calls Tryz.prog 67 #[.slice A2 n2 c2, .int .i64 ((N : Int) - (s2 : Int))] W (RLE W (zerosB l2 (N - s2)) 0) by
    have := shift_any A2 n2 c2 l2 ((N : Int) - (s2 : Int)) W hW (I64_of_may hm2) (by omega) (by omega)
    rw [shiftR_zeros hm2 N s2 hs2N hN1] at this
    exact this)
  have hX := (Blk.made w w 36 #[.bool b, .slice A n c, .int .i64 (s : Int)] (Later.refl w) _ rfl).alloc (.cells #[.bool b2, .slice A2 n2 c2, .int .i64 (s2 : Int)] 36)
  have hY := Blk.made w (w.alloc (.cells #[.bool b, .slice A n c, .int .i64 (s : Int)] 36)) 36 #[.bool b2, .slice A2 n2 c2, .int .i64 (s2 : Int)] ((Later.refl w).alloc _) (w.heap.size + 1) (by simp)
  clear hN
  go_enter Tryz.func43, Tryz.ntmps43
  go_wp2_with fail
  refine (f1.out _ ((h.alloc _).alloc _)).mono ?_
  rintro e w1 ⟨A3, n3, c3, rfl, hO3, hB3⟩
  have hY1 := hY.call hB3
  obtain ⟨⟨q0, q1, q2⟩, _⟩ := hY1.cells3
  go_wp2_with fail
  refine (f2.out _ (h2.later hY1.later)).mono ?_
  rintro e w2 ⟨A4, n4, c4, rfl, hO4, hB4⟩
  go_wp2_with fail
  go_ret3
  exact ⟨_, _, _, _, _, _, rfl, hO3.il.below hB4, hO4.il, hY1.later.call hB4, hO3.newc (by simp; omega), hO4.newc (by have := hY1.later.size; omega)⟩

/-- What decimals are that are held against each other, trim. -/
theorem trimDc_parts {d : Dc} (h : mayL d.l = true) (h0 : 0 ≤ d.s) (h1 : d.s ≤ 1000) :
    ∃ (x : Dc) (sx : Nat), trimDc d = x ∧ x.s = (sx : Int) ∧ sx ≤ 1000 ∧ (sx : Int) ≤ d.s ∧ mayL x.l = true ∧ x.l.length ≤ d.l.length ∧ Canonic x d.s.toNat d.z := by
  have c := trimDc_canonic h h0
  have c1 := c.lo
  have c2 := c.hi
  exact ⟨_, (trimDc d).s.toNat, rfl, by omega, by omega, by omega, c.may, trimDc_len d, c⟩

set_option maxHeartbeats 4000000 in
theorem ccompare_any {A : Option Addr} {n c : Nat} {l : List Int} {A2 : Option Addr} {n2 c2 : Nat} {l2 : List Int} (b b2 : Bool) (s s2 : Int) (w : World) (h : IL w A n c l) (h2 : IL w A2 n2 c2 l2) (hm : mayL l = true) (hm2 : mayL l2 = true)
    (hn : n ≤ 10000) (hn2 : n2 ≤ 10000) (hs0 : 0 ≤ s) (hs1 : s ≤ 1000) (ht0 : 0 ≤ s2) (ht1 : s2 ≤ 1000) :
    Calls Tryz.prog 21 #[.agg #[.bool b, .slice A n c, .int .i64 s], .agg #[.bool b2, .slice A2 n2 c2, .int .i64 s2]] w (RV w (.int .i64 (cmpDc ⟨b, l, s⟩ ⟨b2, l2, s2⟩))) := by
  have hx := Lib.hid (fun W hW => dtrim_any (A := A) (n := n) (c := c) (l := l) b s W hW (I64_of_may hm) (by omega) hs0 (by omega))
  have hy := Lib.hid (fun W hW => dtrim_any (A := A2) (n := n2) (c := c2) (l := l2) b2 s2 W hW (I64_of_may hm2) (by omega) ht0 (by omega))
  obtain ⟨X, sx, ex, esx, bx1, bx2, mx, lx, cx⟩ := trimDc_parts (d := ⟨b, l, s⟩) hm hs0 hs1
  obtain ⟨Y, sy, ey, esy, by1, by2, my, ly, cy⟩ := trimDc_parts (d := ⟨b2, l2, s2⟩) hm2 ht0 ht1
  have hfin := cmpDc_trim (a := ⟨b, l, s⟩) (b := ⟨b2, l2, s2⟩) hm hs0 hm2 ht0
  have el := h.len
  have el2 := h2.len
  rw [← hfin, ex, ey]
  rw [ex] at hx
  rw [ey] at hy
  clear hfin ex ey
  obtain ⟨xb, xl, xs⟩ := X
  obtain ⟨yb, yl, ys⟩ := Y
  simp only at esx esy mx my lx ly
  subst esx esy
  obtain ⟨N, hN⟩ : ∃ N, N = max sx sy := ⟨_, rfl⟩
  have hsx : sx ≤ N := by omega
  have hsy : sy ≤ N := by omega
  have hNb : N ≤ 1000 := by omega
  have hres := Lib.hid (signC_cmp cx cy N hsx hsy)
  simp only [Int.toNat_natCast] at hres
  have hlv := Lib.hid (fun A n c A2 n2 c2 W hW hW2 hn hn2 => level_any (A := A) (n := n) (c := c) (l := xl) (A2 := A2) (n2 := n2) (c2 := c2) (l2 := yl) xb yb sx sy W hW hW2 mx my hn hn2 bx1 by1 N hN)
  have i1 : I64 (zerosB xl (N - sx)) := I64_of_may (mayL_zerosB mx _)
  have i2 : I64 (zerosB yl (N - sy)) := I64_of_may (mayL_zerosB my _)
  have l1 : (zerosB xl (N - sx)).length ≤ 100000 := by rw [zerosB_len]; omega
  have l2' : (zerosB yl (N - sy)).length ≤ 100000 := by rw [zerosB_len]; omega
  have hc1 := Lib.hid (fun A n c A2 n2 c2 W hW hW2 hn hn2 => compare_any A n c (zerosB xl (N - sx)) A2 n2 c2 (zerosB yl (N - sy)) W hW hW2 i1 i2 hn hn2)
  have hc2 := Lib.hid (fun A n c A2 n2 c2 W hW hW2 hn hn2 => compare_any A n c (zerosB yl (N - sy)) A2 n2 c2 (zerosB xl (N - sx)) W hW hW2 i2 i1 hn hn2)
  have hsw : Hid (cmpL (zerosB yl (N - sy)) (zerosB xl (N - sx)) = -cmpL (zerosB xl (N - sx)) (zerosB yl (N - sy))) := by
    rw [Hid, cmpL_val (mayL_zerosB my _) (mayL_zerosB mx _), cmpL_val (mayL_zerosB mx _) (mayL_zerosB my _), cmpI_neg]
  have hX := (Blk.made w w 36 #[.bool b, .slice A n c, .int .i64 s] (Later.refl w) _ rfl).alloc (.cells #[.bool b2, .slice A2 n2 c2, .int .i64 s2] 36)
  have hY := Blk.made w (w.alloc (.cells #[.bool b, .slice A n c, .int .i64 s] 36)) 36 #[.bool b2, .slice A2 n2 c2, .int .i64 s2] ((Later.refl w).alloc _) (w.heap.size + 1) (by simp)
  have hxl : xl.length ≤ 10000 := by omega
  have hyl : yl.length ≤ 10000 := by omega
  have hIb := (h.alloc (.cells #[.bool b, .slice A n c, .int .i64 s] 36)).alloc (.cells #[.bool b2, .slice A2 n2 c2, .int .i64 s2] 36)
  have hIb2 := (h2.alloc (.cells #[.bool b, .slice A n c, .int .i64 s] 36)).alloc (.cells #[.bool b2, .slice A2 n2 c2, .int .i64 s2] 36)
  clear cx cy hN el el2 lx ly
  go_enter Tryz.func21, Tryz.ntmps21
  go_upto_region 1 with fail
  obtain ⟨wb, hwb⟩ : ∃ wb, wb = (w.alloc (.cells #[.bool b, .slice A n c, .int .i64 s] 36)).alloc (.cells #[.bool b2, .slice A2 n2 c2, .int .i64 s2] 36) := ⟨_, rfl⟩
  rw [← hwb] at hX hY hIb hIb2
  rw [← hwb]
  clear hwb
  have q0 := fun W (hW : Later wb W) => (hX.call hW).cells3
  have q1 := fun W (hW : Later wb W) => (hY.call hW).cells3
  have Q0 := Lib.hid q0
  have Q1 := Lib.hid q1
  obtain ⟨⟨x0, x1, x2⟩, ⟨x3, x4, x5⟩⟩ := Q0.out wb.drew (Later.refl wb).drew
  obtain ⟨⟨y0, y1, y2⟩, ⟨y3, y4, y5⟩⟩ := Q1.out wb.drew (Later.refl wb).drew
  have hLb : Later w wb := hX.later
  clear q0 q1
  go_cut [8] (fun _ W => ∃ (A1 : Option Addr) (n1 c1 : Nat) (A3 : Option Addr) (n3 c3 : Nat), Blk w w.heap.size 36 #[.bool xb, .slice A1 n1 c1, .int .i64 (sx : Int)] W ∧ Blk w (w.heap.size + 1) 36 #[.bool yb, .slice A3 n3 c3, .int .i64 (sy : Int)] W ∧ IL W A1 n1 c1 xl ∧ IL W A3 n3 c3 yl)
  case first =>
    go_region_law (first
      | (go_simp; go_at_call 42; (with_reducible refine (hx.out _ (hIb.later (Later.refl wb).drew)).mono ?_); rintro e w1 ⟨A1, n1, c1, rfl, hI1, hB1, hN1⟩; have hL1 : Later wb w1 := (Later.refl wb).drew.call hB1; obtain ⟨⟨x0', x1', x2'⟩, ⟨x3', x4', x5'⟩⟩ := Q0.out w1 hL1; obtain ⟨⟨y0', y1', y2'⟩, ⟨y3', y4', y5'⟩⟩ := Q1.out w1 hL1)
      | (go_simp; go_at_call 42; (with_reducible refine (hy.out _ (hIb2.later hL1)).mono ?_); rintro e w2 ⟨A3, n3, c3, rfl, hI3, hB3, hN3⟩; have hX2 := (hX.call hL1).call hB3; have hY2 := (hY.call hL1).call hB3; obtain ⟨⟨x0'', x1'', x2''⟩, ⟨x3'', x4'', x5''⟩⟩ := hX2.cells3; obtain ⟨⟨y0'', y1'', y2''⟩, ⟨y3'', y4'', y5''⟩⟩ := hY2.cells3))
    all_goals
      go_wp2_with fail
      go_meet
      have hlw := hY.lt
      have hlw1 := hL1.size
      have a1 : ∀ g, g < w.heap.size + 2 → 0 < n1 → ∀ a, A1 = some a → a.block ≠ g := fun g hg hz a ha => by have := hN1 hz a ha; (try simp at this); omega
      have a3 : ∀ g, g < w.heap.size + 2 → 0 < n3 → ∀ a, A3 = some a → a.block ≠ g := fun g hg hz a ha => by have := hN3 hz a ha; (try simp at this); omega
      exact ⟨A1, n1, c1, A3, n3, c3, (hX2.store3 _ _ _).far3 (by omega) (by omega) _ _ _, (hY2.far3 (by omega) (by omega) _ _ _).store3 _ _ _, ((hI1.below hB3).set3 (a1 _ (by omega)) _ _ _).set3 (a1 _ (by omega)) _ _ _, (hI3.set3 (a3 _ (by omega)) _ _ _).set3 (a3 _ (by omega)) _ _ _⟩
  case rest =>
    obtain ⟨A1, n1, c1, A3, n3, c3, hX1, hY1, hI1, hI3⟩ := hcut
    obtain ⟨⟨x0, x1, x2⟩, ⟨x3, x4, x5⟩⟩ := hX1.cells3
    obtain ⟨⟨y0, y1, y2⟩, ⟨y3, y4, y5⟩⟩ := hY1.cells3
    have hn1 : n1 ≤ 100000 := by have := hI1.len; omega
    have hn3 : n3 ≤ 100000 := by have := hI3.len; omega
    have HX1 := Lib.hid hX1
    have HY1 := Lib.hid hY1
    clear hX1 hY1 Q0 Q1 hX hY
    go_wp2_with fail
    refine (hlv.out _ _ _ _ _ _ _ hI1 hI3 hn1 hn3).mono ?_
    rintro e w3 ⟨A4, n4, c4, A5, n5, c5, rfl, hI4, hI5, hB3, _, _⟩
    obtain ⟨⟨x0', x1', x2'⟩, _⟩ := (HX1.out.call hB3).cells3
    obtain ⟨⟨y0', y1', y2'⟩, _⟩ := (HY1.out.call hB3).cells3
    have hn4 : n4 ≤ 100000000 := by have := hI4.len; omega
    have hn5 : n5 ≤ 100000000 := by have := hI5.len; omega
    have hL3 : Later w w3 := HX1.out.later.call hB3
    generalize zerosB xl (N - sx) = zx at *
    generalize zerosB yl (N - sy) = zy at *
    cases xb <;> cases yb
    all_goals
      go_wp2_with (first
        | (go_at_call 44; (with_reducible refine (hc1.out _ _ _ _ _ _ _ hI4 hI5 hn4 hn5).mono ?_); rintro e w4 ⟨rfl, hB4⟩)
        | (go_at_call 44; (with_reducible refine (hc2.out _ _ _ _ _ _ _ hI5 hI4 hn5 hn4).mono ?_); rintro e w4 ⟨rfl, hB4⟩))
      go_ret
      exact ⟨ret_int (by first | (rw [← hres.out]; rfl) | (rw [hsw.out, ← hres.out]; rfl)), by first | exact hL3 | exact hL3.call hB4⟩

end Go.Proofs.YtjinbhnpcdlkiaaGreatDoor


namespace Go.Proofs.YtjinbhnpcdlkiaaGreatDoor
open Go.RowKit

theorem LL.pair {w : World} {A A2 : Option Addr} {n c n2 c2 : Nat} {l l2 : List Int} (h : IL w A n c l) (h2 : IL w A2 n2 c2 l2) (e : TypeId) (b : Nat) (hb : b = w.heap.size) :
    LL (w.alloc (.cells #[.slice A n c, .slice A2 n2 c2] e)) (some ⟨b, 0, none⟩) 2 2 [l, l2] := by
  subst hb
  refine ⟨[.slice A n c, .slice A2 n2 c2], VL.lit w e 2 _ rfl (by omega), rfl, fun k hk => ?_⟩
  have hk2 : k = 0 ∨ k = 1 := by simp at hk; omega
  rcases hk2 with rfl | rfl
  · exact ⟨A, n, c, rfl, h.alloc _⟩
  · exact ⟨A2, n2, c2, rfl, h2.alloc _⟩
theorem sumR_two {a b : List Int} (ha : mayL a = true) (hb : mayL b = true) : sumR [a, b] = (ofN (val a + val b).toNat, 0) := by
  unfold sumR mayLL sumV
  simp [ha, hb]
theorem subR_two {a b : List Int} (ha : mayL a = true) (hb : mayL b = true) (h : ¬ val a < val b) : subR a b = (ofN (val a - val b).toNat, 0) := by
  unfold subR
  rw [ha, hb, if_neg h]; rfl
theorem ofN_sum_len {a b : List Int} {M : Nat} (ha : mayL a = true) (hb : mayL b = true) (h1 : a.length ≤ M) (h2 : b.length ≤ M) : (ofN (val a + val b).toNat).length ≤ M + 1 := by
  refine ofN_len ?_
  have v1 := (val_bd ha).2
  have v2 := (val_bd hb).2
  have p1 := pow_le h1
  have p2 := pow_le h2
  have v3 := (val_bd ha).1
  have v4 := (val_bd hb).1
  have : (val a + val b) < 10 ^ (M + 1) := by rw [Int.pow_succ]; omega
  have e : ((val a + val b).toNat : Int) < ((10 ^ (M + 1) : Nat) : Int) := by push_cast; omega
  exact_mod_cast e
theorem ofN_diff_len {a b : List Int} {M : Nat} (ha : mayL a = true) (hb : mayL b = true) (h1 : a.length ≤ M) : (ofN (val a - val b).toNat).length ≤ M := by
  refine ofN_len ?_
  have v1 := (val_bd ha).2
  have p1 := pow_le h1
  have v3 := (val_bd ha).1
  have v4 := (val_bd hb).1
  have := ten_pos M
  have e : ((val a - val b).toNat : Int) < ((10 ^ M : Nat) : Int) := by push_cast; omega
  exact_mod_cast e

set_option maxHeartbeats 4000000 in
theorem cadd_any {A : Option Addr} {n c : Nat} {l : List Int} {A2 : Option Addr} {n2 c2 : Nat} {l2 : List Int} (b b2 : Bool) (s s2 : Int) (w : World) (h : IL w A n c l) (h2 : IL w A2 n2 c2 l2) (hl : I64 l) (hl2 : I64 l2)
    (hn : n ≤ 10000) (hn2 : n2 ≤ 10000) (hs : -9223372036854775808 ≤ s ∧ s ≤ 9223372036854775807) (hs2 : -9223372036854775808 ≤ s2 ∧ s2 ≤ 9223372036854775807) :
    Calls Tryz.prog 56 #[.agg #[.bool b, .slice A n c, .int .i64 s], .agg #[.bool b2, .slice A2 n2 c2, .int .i64 s2]] w (RCE w (addDc ⟨b, l, s⟩ ⟨b2, l2, s2⟩).1 (addDc ⟨b, l, s⟩ ⟨b2, l2, s2⟩).2) := by
  have m1 := Lib.hid (fun W hW => cmay_any (A := A) (n := n) (c := c) (l := l) b s W hW hl hs)
  have m2 := Lib.hid (fun W hW => cmay_any (A := A2) (n := n2) (c := c2) (l := l2) b2 s2 W hW hl2 hs2)
  have hAD : Hid (addDc ⟨b, l, s⟩ ⟨b2, l2, s2⟩ = if mayDc ⟨b, l, s⟩ && mayDc ⟨b2, l2, s2⟩ then (canon (max s.toNat s2.toNat) (Dc.at_ ⟨b, l, s⟩ (max s.toNat s2.toNat) + Dc.at_ ⟨b2, l2, s2⟩ (max s.toNat s2.toNat)), 0) else (Dc.zero, 1)) := rfl
  have el := h.len
  have el2 := h2.len
  have hX0 := ((Blk.made w w 36 #[.bool b, .slice A n c, .int .i64 s] (Later.refl w) _ rfl).alloc (.cells #[.bool b2, .slice A2 n2 c2, .int .i64 s2] 36)).alloc (.cells #[.bool false, .slice none 0 0, .int .i64 0] 36)
  have hY0 := (Blk.made w (w.alloc (.cells #[.bool b, .slice A n c, .int .i64 s] 36)) 36 #[.bool b2, .slice A2 n2 c2, .int .i64 s2] ((Later.refl w).alloc _) (w.heap.size + 1) (by simp)).alloc (.cells #[.bool false, .slice none 0 0, .int .i64 0] 36)
  have hR0 := Blk.made w ((w.alloc (.cells #[.bool b, .slice A n c, .int .i64 s] 36)).alloc (.cells #[.bool b2, .slice A2 n2 c2, .int .i64 s2] 36)) 36 #[.bool false, .slice none 0 0, .int .i64 0] (((Later.refl w).alloc _).alloc _) (w.heap.size + 2) (by simp)
  generalize addDc ⟨b, l, s⟩ ⟨b2, l2, s2⟩ = D at *
  cases hm1 : mayDc ⟨b, l, s⟩
  · rw [hm1] at m1
    have HD : Hid (D = (Dc.zero, 1)) := by rw [Hid, hAD.out, hm1]; rfl
    clear hm1 hAD
    go_enter Tryz.func56, Tryz.ntmps56
    go_wp2_with fail
    refine (m1.out _ (((h.alloc _).alloc _).alloc _)).mono ?_
    rintro e w1 ⟨rfl, hB1⟩
    have hR := hR0.call hB1
    obtain ⟨⟨r0, r1, r2⟩, ⟨r3, r4, r5⟩⟩ := hR.cells3
    go_wp2_with fail
    rw [HD.out]
    obtain ⟨⟨z0, z1, z2⟩, _⟩ := (hR.store3 (.bool false) (.slice none 0 0) (.int .i64 0)).cells3
    exact bodyPost_ret (v := .tuple #[.agg #[.bool false, .slice none 0 0, .int .i64 0], .int .i64 1]) (by generalize World.setCell (World.setCell (World.setCell _ _ _) _ _) _ _ = W3 at z0 z1 z2 ⊢; simp [results, Tryz.results56, go_sem, z0, z1, z2]) rfl
      ⟨none, 0, 0, rfl, IL.nil _, below_set3 hR.later (by omega) _ _ _, none_new _⟩
  · rw [hm1] at m1
    cases hm2 : mayDc ⟨b2, l2, s2⟩
    · rw [hm2] at m2
      have HD : Hid (D = (Dc.zero, 1)) := by rw [Hid, hAD.out, hm1, hm2]; rfl
      clear hm1 hm2 hAD
      go_enter Tryz.func56, Tryz.ntmps56
      go_wp2_with fail
      refine (m1.out _ (((h.alloc _).alloc _).alloc _)).mono ?_
      rintro e w1 ⟨rfl, hB1⟩
      have hY1 := hY0.call hB1
      obtain ⟨⟨q0, q1, q2⟩, _⟩ := hY1.cells3
      go_wp2_with fail
      refine (m2.out _ (h2.later hY1.later)).mono ?_
      rintro e w2 ⟨rfl, hB2⟩
      have hR := (hR0.call hB1).call hB2
      obtain ⟨⟨r0, r1, r2⟩, ⟨r3, r4, r5⟩⟩ := hR.cells3
      go_wp2_with fail
      rw [HD.out]
      obtain ⟨⟨z0, z1, z2⟩, _⟩ := (hR.store3 (.bool false) (.slice none 0 0) (.int .i64 0)).cells3
      exact bodyPost_ret (v := .tuple #[.agg #[.bool false, .slice none 0 0, .int .i64 0], .int .i64 1]) (by generalize World.setCell (World.setCell (World.setCell _ _ _) _ _) _ _ = W3 at z0 z1 z2 ⊢; simp [results, Tryz.results56, go_sem, z0, z1, z2]) rfl
        ⟨none, 0, 0, rfl, IL.nil _, below_set3 hR.later (by omega) _ _ _, none_new _⟩
    · rw [hm2] at m2
      obtain ⟨hml, hs0, hs1⟩ := mayDc_iff.1 hm1
      obtain ⟨hml2, ht0, ht1⟩ := mayDc_iff.1 hm2
      simp only at hml hs0 hs1 hml2 ht0 ht1
      obtain ⟨sx, rfl⟩ := Int.eq_ofNat_of_zero_le hs0
      obtain ⟨sy, rfl⟩ := Int.eq_ofNat_of_zero_le ht0
      obtain ⟨N, hN⟩ : ∃ N, N = max sx sy := ⟨_, rfl⟩
      have HD : Hid (D = (canon N (Dc.at_ ⟨b, l, sx⟩ N + Dc.at_ ⟨b2, l2, sy⟩ N), 0)) := by rw [Hid, hAD.out, hm1, hm2, hN]; rfl
      have hlv := Lib.hid (fun W hW hW2 => level_any (A := A) (n := n) (c := c) (l := l) (A2 := A2) (n2 := n2) (c2 := c2) (l2 := l2) b b2 sx sy W hW hW2 hml hml2 (by omega) (by omega) (by omega) (by omega) N hN)
      have as_ := fun hbb => add_same (a := ⟨b, l, (sx : Int)⟩) (b := ⟨b2, l2, (sy : Int)⟩) hml hml2 hbb N
      have ad_ := fun hbb => add_diff (a := ⟨b, l, (sx : Int)⟩) (b := ⟨b2, l2, (sy : Int)⟩) hml hml2 hbb N
      simp only [Int.toNat_natCast] at as_ ad_
      have hNb : N ≤ 1000 := by omega
      have mx := mayL_zerosB hml (N - sx)
      have my := mayL_zerosB hml2 (N - sy)
      have lx : (zerosB l (N - sx)).length ≤ 11000 := by rw [zerosB_len]; omega
      have ly : (zerosB l2 (N - sy)).length ≤ 11000 := by rw [zerosB_len]; omega
      generalize canon N (Dc.at_ ⟨b, l, (sx : Int)⟩ N + Dc.at_ ⟨b2, l2, (sy : Int)⟩ N) = R at *
      generalize zerosB l (N - sx) = x at *
      generalize zerosB l2 (N - sy) = y at *
      clear hm1 hm2 hAD hN
      by_cases hbb : b = b2
      · have has := Lib.hid (as_ hbb)
        have hbq : (b == b2) = true := by simpa using hbb
        have hsum := Lib.hid (fun A n c W (hW : LL W A n c [x, y]) => show Calls Tryz.prog 77 #[.slice A n c] W (RLE W (ofN (val x + val y).toNat) 0) by
          have := sum_any A n c [x, y] W hW (by simp) (fun q hq => by
            rcases List.mem_cons.1 hq with rfl | hq
            · exact ⟨by omega, I64_of_may mx⟩
            · rcases List.mem_cons.1 hq with rfl | hq
              · exact ⟨by omega, I64_of_may my⟩
              · cases hq)
          rw [sumR_two mx my] at this
          exact this)
        have hvl := ofN_sum_len mx my lx ly
        have htr := Lib.hid (fun A n c W hW hn => dtrim_any (A := A) (n := n) (c := c) (l := ofN (val x + val y).toNat) b (N : Int) W hW (I64_of_may (mayL_ofN _)) hn (by omega) (by omega))
        rw [has.out] at htr
        generalize ofN (val x + val y).toNat = v at *
        clear as_ ad_ hbb has
        go_enter Tryz.func56, Tryz.ntmps56
        go_wp2_with fail
        refine (m1.out _ (((h.alloc _).alloc _).alloc _)).mono ?_
        rintro e w1 ⟨rfl, hB1⟩
        have hY1 := hY0.call hB1
        obtain ⟨⟨q0, q1, q2⟩, _⟩ := hY1.cells3
        go_wp2_with fail
        refine (m2.out _ (h2.later hY1.later)).mono ?_
        rintro e w2 ⟨rfl, hB2⟩
        have hX2 := (hX0.call hB1).call hB2
        have hY2 := hY1.call hB2
        obtain ⟨⟨q0, q1, q2⟩, _⟩ := hX2.cells3
        obtain ⟨⟨r0, r1, r2⟩, _⟩ := hY2.cells3
        go_wp2_with fail
        refine (hlv.out _ (h.later hX2.later) (h2.later hX2.later)).mono ?_
        rintro e w3 ⟨A3, n3, c3, A4, n4, c4, rfl, hI3, hI4, hB3, hN3, hN4⟩
        have hl2 := ((hR0.call hB1).call hB2).lt
        have hX3 := hX2.call hB3
        have hY3 := hY2.call hB3
        have hR3 := ((hR0.call hB1).call hB2).call hB3
        obtain ⟨⟨q0, q1, q2⟩, ⟨q3, q4, q5⟩⟩ := hX3.cells3
        obtain ⟨⟨r0, r1, r2⟩, _⟩ := hY3.cells3
        have hn3 : n3 ≤ 11000 := by rw [← hI3.len]; exact lx
        have hn4 : n4 ≤ 11000 := by rw [← hI4.len]; exact ly
        go_wp2_with fail
        refine (hsum.out _ _ _ _ (LL.pair hI3 hI4 _ _ rfl)).mono ?_
        rintro e w4 ⟨A5, n5, c5, rfl, hO5, hB4⟩
        have hn5 : n5 ≤ 100000 := by rw [← hO5.len]; omega
        have hX4 := (hX3.alloc _).call hB4
        have hR4 := (hR3.alloc _).call hB4
        obtain ⟨⟨q0, q1, q2⟩, _⟩ := hX4.cells3
        go_wp2_with fail
        refine (htr.out _ _ _ _ hO5.il (by omega)).mono ?_
        rintro e w5 ⟨A6, n6, c6, rfl, hI6, hB5, hN6⟩
        have hR5 := hR4.call hB5
        have hlt := hR4.lt
        obtain ⟨⟨r0, r1, r2⟩, ⟨r3, r4, r5⟩⟩ := hR5.cells3
        go_wp2_with fail
        rw [HD.out]
        obtain ⟨⟨z0, z1, z2⟩, _⟩ := (hR5.store3 (.bool R.neg) (.slice A6 n6 c6) (.int .i64 R.s)).cells3
        exact bodyPost_ret (v := .tuple #[.agg #[.bool R.neg, .slice A6 n6 c6, .int .i64 R.s], .int .i64 0]) (by generalize World.setCell (World.setCell (World.setCell _ _ _) _ _) _ _ = W3 at z0 z1 z2 ⊢; simp [results, Tryz.results56, go_sem, z0, z1, z2]) rfl
          ⟨A6, n6, c6, rfl, hI6.set3 (fun hz a ha => by have := hN6 hz a ha; omega) _ _ _, below_set3 hR5.later (by omega) _ _ _, fun hz a ha => by have := hN6 hz a ha; omega⟩
      · have had0 := ad_ hbb
        have hbq : (b == b2) = false := by simpa using hbb
        have hcm := Lib.hid (fun A n c A2 n2 c2 W hW hW2 hn hn2 => compare_any A n c x A2 n2 c2 y W hW hW2 (I64_of_may mx) (I64_of_may my) hn hn2)
        clear as_ ad_ hbb
        by_cases hlt : val x < val y
        · have had := had0
          clear had0
          have htr := Lib.hid (fun A n c W hW hn => dtrim_any (A := A) (n := n) (c := c) (l := ofN (val y - val x).toNat) b2 (N : Int) W hW (I64_of_may (mayL_ofN _)) hn (by omega) (by omega))
          have hvl := ofN_diff_len my mx ly
          have hsub := Lib.hid (fun A n c A2 n2 c2 W hW hW2 hn hn2 => show Calls Tryz.prog 80 #[.slice A n c, .slice A2 n2 c2] W (RLE W (ofN (val y - val x).toNat) 0) by
            have := sub_any A n c y A2 n2 c2 x W hW hW2 (I64_of_may my) (I64_of_may mx) hn hn2
            rw [subR_two my mx (by omega)] at this
            exact this)
          rw [if_pos hlt] at had
          rw [had] at htr
          have hcn := (cmpL_ltz mx my).2 hlt
          clear hlt had
          generalize ofN (val y - val x).toNat = v at *
          generalize cmpL x y = cc at *
          go_enter Tryz.func56, Tryz.ntmps56
          go_wp2_with fail
          refine (m1.out _ (((h.alloc _).alloc _).alloc _)).mono ?_
          rintro e w1 ⟨rfl, hB1⟩
          have hY1 := hY0.call hB1
          obtain ⟨⟨q0, q1, q2⟩, _⟩ := hY1.cells3
          go_wp2_with fail
          refine (m2.out _ (h2.later hY1.later)).mono ?_
          rintro e w2 ⟨rfl, hB2⟩
          have hX2 := (hX0.call hB1).call hB2
          have hY2 := hY1.call hB2
          obtain ⟨⟨q0, q1, q2⟩, _⟩ := hX2.cells3
          obtain ⟨⟨r0, r1, r2⟩, _⟩ := hY2.cells3
          go_wp2_with fail
          refine (hlv.out _ (h.later hX2.later) (h2.later hX2.later)).mono ?_
          rintro e w3 ⟨A3, n3, c3, A4, n4, c4, rfl, hI3, hI4, hB3, hN3, hN4⟩
          have hl2 := ((hR0.call hB1).call hB2).lt
          have hX3 := hX2.call hB3
          have hY3 := hY2.call hB3
          have hR3 := ((hR0.call hB1).call hB2).call hB3
          obtain ⟨⟨q0, q1, q2⟩, ⟨q3, q4, q5⟩⟩ := hX3.cells3
          obtain ⟨⟨r0, r1, r2⟩, _⟩ := hY3.cells3
          have hn3 : n3 ≤ 11000 := by rw [← hI3.len]; exact lx
          have hn4 : n4 ≤ 11000 := by rw [← hI4.len]; exact ly
          go_wp2_with fail
          refine (hcm.out _ _ _ _ _ _ _ hI3 hI4 (by omega) (by omega)).mono ?_
          rintro e w4 ⟨rfl, hB4⟩
          have hX4 := hX3.call hB4
          have hY4 := hY3.call hB4
          have hR4 := hR3.call hB4
          have hI34 := hI3.below hB4
          have hI44 := hI4.below hB4
          obtain ⟨⟨q0, q1, q2⟩, ⟨q3, q4, q5⟩⟩ := hX4.cells3
          obtain ⟨⟨r0, r1, r2⟩, ⟨r3, r4, r5⟩⟩ := hY4.cells3
          have a3 : 0 < n3 → ∀ a, A3 = some a → a.block ≠ w.heap.size := fun hz a ha => by have := (hN3 hz a ha); omega
          have a4 : 0 < n4 → ∀ a, A4 = some a → a.block ≠ w.heap.size := fun hz a ha => by have := (hN4 hz a ha); omega
          have hX4' := hX4.store3 (.bool b2) (.slice A2 n2 c2) (.int .i64 (sy : Int))
          have hR4' := hR4.far3 (g' := w.heap.size) (by omega) (Nat.le_refl _) (.bool b2) (.slice A2 n2 c2) (.int .i64 (sy : Int))
          go_wp2_with fail
          refine (hsub.out _ _ _ _ _ _ _ (hI44.set3 a4 _ _ _) (hI34.set3 a3 _ _ _) (by omega) (by omega)).mono ?_
          rintro e w5 ⟨A5, n5, c5, rfl, hO5, hB5⟩
          have hX5 := hX4'.call hB5
          have hR5 := hR4'.call hB5
          have hn5 : n5 ≤ 100000 := by rw [← hO5.len]; omega
          obtain ⟨⟨q0', q1', q2'⟩, _⟩ := hX5.cells3
          go_wp2_with fail
          refine (htr.out _ _ _ _ hO5.il (by omega)).mono ?_
          rintro e w6 ⟨A6, n6, c6, rfl, hI6, hB6, hN6⟩
          have hR6 := hR5.call hB6
          have hlt := hR5.lt
          obtain ⟨⟨r0', r1', r2'⟩, ⟨r3', r4', r5'⟩⟩ := hR6.cells3
          go_wp2_with fail
          rw [HD.out]
          obtain ⟨⟨z0, z1, z2⟩, _⟩ := (hR6.store3 (.bool R.neg) (.slice A6 n6 c6) (.int .i64 R.s)).cells3
          exact bodyPost_ret (v := .tuple #[.agg #[.bool R.neg, .slice A6 n6 c6, .int .i64 R.s], .int .i64 0]) (by generalize World.setCell (World.setCell (World.setCell _ _ _) _ _) _ _ = W3 at z0 z1 z2 ⊢; simp [results, Tryz.results56, go_sem, z0, z1, z2]) rfl
            ⟨A6, n6, c6, rfl, hI6.set3 (fun hz a ha => by have := hN6 hz a ha; omega) _ _ _, below_set3 hR6.later (by omega) _ _ _, fun hz a ha => by have := hN6 hz a ha; omega⟩
        · have had := had0
          clear had0
          have htr := Lib.hid (fun A n c W hW hn => dtrim_any (A := A) (n := n) (c := c) (l := ofN (val x - val y).toNat) b (N : Int) W hW (I64_of_may (mayL_ofN _)) hn (by omega) (by omega))
          have hvl := ofN_diff_len mx my lx
          have hsub := Lib.hid (fun A n c A2 n2 c2 W hW hW2 hn hn2 => show Calls Tryz.prog 80 #[.slice A n c, .slice A2 n2 c2] W (RLE W (ofN (val x - val y).toNat) 0) by
            have := sub_any A n c x A2 n2 c2 y W hW hW2 (I64_of_may mx) (I64_of_may my) hn hn2
            rw [subR_two mx my hlt] at this
            exact this)
          rw [if_neg hlt] at had
          rw [had] at htr
          have hcn : ¬ cmpL x y < 0 := fun q => hlt ((cmpL_ltz mx my).1 q)
          clear hlt had
          generalize ofN (val x - val y).toNat = v at *
          generalize cmpL x y = cc at *
          go_enter Tryz.func56, Tryz.ntmps56
          go_wp2_with fail
          refine (m1.out _ (((h.alloc _).alloc _).alloc _)).mono ?_
          rintro e w1 ⟨rfl, hB1⟩
          have hY1 := hY0.call hB1
          obtain ⟨⟨q0, q1, q2⟩, _⟩ := hY1.cells3
          go_wp2_with fail
          refine (m2.out _ (h2.later hY1.later)).mono ?_
          rintro e w2 ⟨rfl, hB2⟩
          have hX2 := (hX0.call hB1).call hB2
          have hY2 := hY1.call hB2
          obtain ⟨⟨q0, q1, q2⟩, _⟩ := hX2.cells3
          obtain ⟨⟨r0, r1, r2⟩, _⟩ := hY2.cells3
          go_wp2_with fail
          refine (hlv.out _ (h.later hX2.later) (h2.later hX2.later)).mono ?_
          rintro e w3 ⟨A3, n3, c3, A4, n4, c4, rfl, hI3, hI4, hB3, hN3, hN4⟩
          have hl2 := ((hR0.call hB1).call hB2).lt
          have hX3 := hX2.call hB3
          have hY3 := hY2.call hB3
          have hR3 := ((hR0.call hB1).call hB2).call hB3
          obtain ⟨⟨q0, q1, q2⟩, ⟨q3, q4, q5⟩⟩ := hX3.cells3
          obtain ⟨⟨r0, r1, r2⟩, _⟩ := hY3.cells3
          have hn3 : n3 ≤ 11000 := by rw [← hI3.len]; exact lx
          have hn4 : n4 ≤ 11000 := by rw [← hI4.len]; exact ly
          go_wp2_with fail
          refine (hcm.out _ _ _ _ _ _ _ hI3 hI4 (by omega) (by omega)).mono ?_
          rintro e w4 ⟨rfl, hB4⟩
          have hX4 := hX3.call hB4
          have hY4 := hY3.call hB4
          have hR4 := hR3.call hB4
          have hI34 := hI3.below hB4
          have hI44 := hI4.below hB4
          obtain ⟨⟨q0, q1, q2⟩, ⟨q3, q4, q5⟩⟩ := hX4.cells3
          obtain ⟨⟨r0, r1, r2⟩, ⟨r3, r4, r5⟩⟩ := hY4.cells3
          go_wp2_with fail
          refine (hsub.out _ _ _ _ _ _ _ hI34 hI44 (by omega) (by omega)).mono ?_
          rintro e w5 ⟨A5, n5, c5, rfl, hO5, hB5⟩
          have hX5 := hX4.call hB5
          have hR5 := hR4.call hB5
          have hn5 : n5 ≤ 100000 := by rw [← hO5.len]; omega
          obtain ⟨⟨q0', q1', q2'⟩, _⟩ := hX5.cells3
          go_wp2_with fail
          refine (htr.out _ _ _ _ hO5.il (by omega)).mono ?_
          rintro e w6 ⟨A6, n6, c6, rfl, hI6, hB6, hN6⟩
          have hR6 := hR5.call hB6
          have hlt := hR5.lt
          obtain ⟨⟨r0', r1', r2'⟩, ⟨r3', r4', r5'⟩⟩ := hR6.cells3
          go_wp2_with fail
          rw [HD.out]
          obtain ⟨⟨z0, z1, z2⟩, _⟩ := (hR6.store3 (.bool R.neg) (.slice A6 n6 c6) (.int .i64 R.s)).cells3
          exact bodyPost_ret (v := .tuple #[.agg #[.bool R.neg, .slice A6 n6 c6, .int .i64 R.s], .int .i64 0]) (by generalize World.setCell (World.setCell (World.setCell _ _ _) _ _) _ _ = W3 at z0 z1 z2 ⊢; simp [results, Tryz.results56, go_sem, z0, z1, z2]) rfl
            ⟨A6, n6, c6, rfl, hI6.set3 (fun hz a ha => by have := hN6 hz a ha; omega) _ _ _, below_set3 hR6.later (by omega) _ _ _, fun hz a ha => by have := hN6 hz a ha; omega⟩

end Go.Proofs.YtjinbhnpcdlkiaaGreatDoor

