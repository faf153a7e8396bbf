/- The walks of the program's levelling, comparing and adding of decimals. No condition. -/
import Derived.Test.YtaolimhbeoocjaaDe5
import Derived.Test.YtaolimhbeoocjaaCanon2
import Derived.Test.YtaolimhbeoocjaaShift
namespace Go.Proofs.Ytaolimhbeoocjaa
open Go.RowKit

theorem shiftR_zeros {l : List Int} (h : mayL l = true) (N s : Nat) (hs : s ≤ N) (hN : N ≤ 1000) : shiftR l ((N : Int) - (s : Int)) = (zerosB l (N - s), 0) := by
  unfold shiftR shiftL zerosB
  rw [h, if_pos rfl, if_neg (by omega), if_neg (by omega)]
  congr 3
  omega
theorem zerosB_len (l : List Int) (k : Nat) : (zerosB l k).length = l.length + k := by simp [zerosB]

theorem Blk.far3 {w0 W : World} {g g' : Nat} {t : TypeId} {cs : Array Value} (h : Blk w0 g t cs W) (hg : g ≠ g') (h0 : w0.heap.size ≤ g') (u0 u1 u2 : Value) :
    Blk w0 g t cs (((W.setCell ⟨g', 0, none⟩ u0).setCell ⟨g', 1, none⟩ u1).setCell ⟨g', 2, none⟩ u2) :=
  ((h.far (p := ⟨g', 0, none⟩) hg h0 u0).far (p := ⟨g', 1, none⟩) hg h0 u1).far (p := ⟨g', 2, none⟩) hg h0 u2
theorem OL.newc {W : World} {B B' n c : Nat} {A : Option Addr} {l : List Int} (h : OL W B A n c l) (hB : B' ≤ B) : 0 < n → ∀ a, A = some a → B' ≤ a.block := by
  intro hn a ha
  obtain ⟨a', ha', hb'⟩ := h.new hn
  subst ha
  obtain rfl := Option.some.inj ha'
  omega
/-- Two lists and a number. -/
def RPI (w : World) (x y : List Int) (N : Int) (e : Ending) (w' : World) : Prop :=
  ∃ A n c E m q, e = .returned (.tuple #[.slice A n c, .slice E m q, .int .i64 N]) ∧ IL w' A n c x ∧ IL w' E m q y ∧ Below w.heap.size w w' ∧ (0 < n → ∀ a, A = some a → w.heap.size ≤ a.block) ∧ (0 < m → ∀ a, E = some a → w.heap.size ≤ a.block)

set_option maxHeartbeats 1000000 in
theorem level_any {A : Option Addr} {n c : Nat} {l : List Int} {A2 : Option Addr} {n2 c2 : Nat} {l2 : List Int} (b b2 : Bool) (s s2 : Nat) (w : World) (h : IL w A n c l) (h2 : IL w A2 n2 c2 l2) (hm : mayL l = true) (hm2 : mayL l2 = true)
    (hn : n ≤ 100000) (hn2 : n2 ≤ 100000) (hs : s ≤ 1000) (hs2 : s2 ≤ 1000) (N : Nat) (hN : N = max s s2) :
    Calls Try.prog 35 #[.agg #[.bool b, .slice A n c, .int .i64 (s : Int)], .agg #[.bool b2, .slice A2 n2 c2, .int .i64 (s2 : Int)]] w (RPI w (zerosB l (N - s)) (zerosB l2 (N - s2)) N) := by
  have hmax : (if (s : Int) < (s2 : Int) then (s2 : Int) else (s : Int)) = (N : Int) := by split <;> omega
  have hmax2 : (if s < s2 then (s2 : Int) else (s : Int)) = (N : Int) := by split <;> omega
  have hsN : s ≤ N := by omega
  have hs2N : s2 ≤ N := by omega
  have hN1 : N ≤ 1000 := by omega
  have f1 := Lib.hid (fun W (hW : IL W A n c l) => show Calls Try.prog 45 #[.slice A n c, .int .i64 ((N : Int) - (s : Int))] W (RLE W (zerosB l (N - s)) 0) by
    have := shift_any A n c l ((N : Int) - (s : Int)) W hW (I64_of_may hm) (by omega) (by omega)
    rw [shiftR_zeros hm N s hsN hN1] at this
    exact this)
  have f2 := Lib.hid (fun W (hW : IL W A2 n2 c2 l2) => show Calls Try.prog 45 #[.slice A2 n2 c2, .int .i64 ((N : Int) - (s2 : Int))] W (RLE W (zerosB l2 (N - s2)) 0) by
    have := shift_any A2 n2 c2 l2 ((N : Int) - (s2 : Int)) W hW (I64_of_may hm2) (by omega) (by omega)
    rw [shiftR_zeros hm2 N s2 hs2N hN1] at this
    exact this)
  have hX := (Blk.made w w 32 #[.bool b, .slice A n c, .int .i64 (s : Int)] (Later.refl w) _ rfl).alloc (.cells #[.bool b2, .slice A2 n2 c2, .int .i64 (s2 : Int)] 32)
  have hY := Blk.made w (w.alloc (.cells #[.bool b, .slice A n c, .int .i64 (s : Int)] 32)) 32 #[.bool b2, .slice A2 n2 c2, .int .i64 (s2 : Int)] ((Later.refl w).alloc _) (w.heap.size + 1) (by simp)
  clear hN
  go_enter Try.func35, Try.ntmps35
  go_wp2_with fail
  refine (f1.out _ ((h.alloc _).alloc _)).mono ?_
  rintro e w1 ⟨A3, n3, c3, rfl, hO3, hB3⟩
  have hY1 := hY.call hB3
  obtain ⟨⟨q0, q1, q2⟩, _⟩ := hY1.cells3
  go_wp2_with fail
  refine (f2.out _ (h2.later hY1.later)).mono ?_
  rintro e w2 ⟨A4, n4, c4, rfl, hO4, hB4⟩
  go_wp2_with fail
  go_ret3
  exact ⟨_, _, _, _, _, _, rfl, hO3.il.below hB4, hO4.il, hY1.later.call hB4, hO3.newc (by simp; omega), hO4.newc (by have := hY1.later.size; omega)⟩

/-- What decimals are that are held against each other, trim. -/
theorem trimDc_parts {d : Dc} (h : mayL d.l = true) (h0 : 0 ≤ d.s) (h1 : d.s ≤ 1000) :
    ∃ (x : Dc) (sx : Nat), trimDc d = x ∧ x.s = (sx : Int) ∧ sx ≤ 1000 ∧ (sx : Int) ≤ d.s ∧ mayL x.l = true ∧ x.l.length ≤ d.l.length ∧ Canonic x d.s.toNat d.z := by
  have c := trimDc_canonic h h0
  have c1 := c.lo
  have c2 := c.hi
  exact ⟨_, (trimDc d).s.toNat, rfl, by omega, by omega, by omega, c.may, trimDc_len d, c⟩

end Go.Proofs.Ytaolimhbeoocjaa
