/- The walks of drafts: what may be, atoms, whether two are the same. No condition. -/
import Derived.Test.YtppkifdngjcbeaaTexts
import Derived.Test.YtppkifdngjcbeaaExt
import Derived.Test.YtppkifdngjcbeaaRb
namespace Go.Proofs.Ytppkifdngjcbeaa
open Go.RowKit

/-- A draft. -/
structure Dr where
  neg : Bool
  int : List Int
  sep : Bool
  frac : List Int

/-- What a call hands back that makes a draft. -/
def RD (w : World) (d : Dr) (e : Ending) (w' : World) : Prop := ∃ A n c E m k, e = .returned (.agg #[.bool d.neg, .slice A n c, .bool d.sep, .slice E m k]) ∧ IL w' A n c d.int ∧ IL w' E m k d.frac ∧ Below w.heap.size w w'
/-- A draft and a code. -/
def RDE (w : World) (d : Dr) (code : Int) (e : Ending) (w' : World) : Prop :=
  ∃ A n c E m k, e = .returned (.tuple #[.agg #[.bool d.neg, .slice A n c, .bool d.sep, .slice E m k], .int .i64 code]) ∧ IL w' A n c d.int ∧ IL w' E m k d.frac ∧ Below w.heap.size w w' ∧ (0 < n → ∀ a, A = some a → w.heap.size ≤ a.block) ∧ (0 < m → ∀ a, E = some a → w.heap.size ≤ a.block)
theorem none_newer (B : Nat) : 0 < 0 → ∀ a : Addr, none = some a → B ≤ a.block := fun h => absurd h (by omega)
theorem OL.newer {W : World} {B B' n c : Nat} {A : Option Addr} {l : List Int} (h : OL W B A n c l) (hB : B' ≤ B) : 0 < n → ∀ a, A = some a → B' ≤ a.block := by
  intro hn a ha
  obtain ⟨a', ha', hb'⟩ := h.new hn
  subst ha
  obtain rfl := Option.some.inj ha'
  omega

section
variable (b : Bool) (A : Option Addr) (n c : Nat) (p : Bool) (E : Option Addr) (m k : Nat)

theorem as_any (w : World) : Calls Try.prog 23 #[.agg #[.bool b, .slice A n c, .bool p, .slice E m k]] w (RV w (.agg #[.bool b, .slice A n c, .bool p, .slice E m k])) := by
  go_enter Try.func23, Try.ntmps23
  go_wp2
  exact bodyPost_ret (v := .agg #[.bool b, .slice A n c, .bool p, .slice E m k]) (by simp [results, Try.results23, go_sem]) rfl ⟨rfl, ((Below.refl _ _).alloc (Nat.le_refl _) _).alloc (by simp) _⟩
end

def mayD (_b : Bool) (l : List Int) (p : Bool) (f : List Int) : Bool := mayL l && mayL f && (p || f.length == 0)

set_option maxHeartbeats 1000000 in
theorem dmay_any {A : Option Addr} {n c : Nat} {l : List Int} {E : Option Addr} {m k : Nat} {f : List Int} (b p : Bool) (w : World) (h : IL w A n c l) (g : IL w E m k f) (hl : I64 l) (hf : I64 f) :
    Calls Try.prog 24 #[.agg #[.bool b, .slice A n c, .bool p, .slice E m k]] w (RV w (.bool (mayD b l p f))) := by
  have bx : Below w.heap.size w (w.alloc (.cells #[.bool b, .slice A n c, .bool p, .slice E m k] 38)) := (Below.refl _ _).alloc (Nat.le_refl _) _
  have m1 := Lib.hid (fun W hW => may_any A n c l W hW hl)
  have m2 := Lib.hid (fun W hW => may_any E m k f W hW hf)
  have hfl : f.length = m := g.len
  cases ha : mayL l
  · have hr : Hid (mayD b l p f = false) := by unfold Hid mayD; rw [ha]; rfl
    rw [ha] at m1
    clear ha hfl
    go_enter Try.func24, Try.ntmps24
    go_wp2_with fail
    refine (m1.out _ (h.alloc _)).mono ?_
    rintro e w1 ⟨rfl, rfl⟩
    go_wp2_with fail
    go_ret
    exact ⟨ret_bool (by rw [hr.out]), bx⟩
  · rw [ha] at m1
    have HA := Lib.hid ha
    clear ha
    cases hb : mayL f
    · have hr : Hid (mayD b l p f = false) := by unfold Hid mayD; rw [HA.out, hb]; rfl
      rw [hb] at m2
      clear hb hfl
      go_enter Try.func24, Try.ntmps24
      go_wp2_with fail
      refine (m1.out _ (h.alloc _)).mono ?_
      rintro e w1 ⟨rfl, rfl⟩
      go_wp2_with fail
      refine (m2.out _ (g.alloc _)).mono ?_
      rintro e w1 ⟨rfl, rfl⟩
      go_wp2_with fail
      go_ret
      exact ⟨ret_bool (by rw [hr.out]), bx⟩
    · rw [hb] at m2
      have hr : Hid (mayD b l p f = (p || m == 0)) := by unfold Hid mayD; rw [HA.out, hb, hfl]; rfl
      clear hb hfl
      have hm0 : (m == 0) = true ∨ (m == 0) = false := by cases (m == 0) <;> simp
      cases p
      · by_cases hz : m = 0
        · subst hz
          go_enter Try.func24, Try.ntmps24
          go_wp2_with fail
          refine (m1.out _ (h.alloc _)).mono ?_
          rintro e w1 ⟨rfl, rfl⟩
          go_wp2_with fail
          refine (m2.out _ (g.alloc _)).mono ?_
          rintro e w1 ⟨rfl, rfl⟩
          go_wp2_with fail
          go_ret
          exact ⟨ret_bool (by rw [hr.out]; rfl), bx⟩
        · have hz2 : Hid ((m == 0) = false) := by simpa [Hid] using hz
          clear hm0
          go_enter Try.func24, Try.ntmps24
          go_wp2_with fail
          refine (m1.out _ (h.alloc _)).mono ?_
          rintro e w1 ⟨rfl, rfl⟩
          go_wp2_with fail
          refine (m2.out _ (g.alloc _)).mono ?_
          rintro e w1 ⟨rfl, rfl⟩
          go_wp2_with fail
          go_ret
          exact ⟨ret_bool (by rw [hr.out, hz2.out]; first | rfl | simpa using hz), bx⟩
      · clear hm0
        go_enter Try.func24, Try.ntmps24
        go_wp2_with fail
        refine (m1.out _ (h.alloc _)).mono ?_
        rintro e w1 ⟨rfl, rfl⟩
        go_wp2_with fail
        refine (m2.out _ (g.alloc _)).mono ?_
        rintro e w1 ⟨rfl, rfl⟩
        go_wp2_with fail
        go_ret
        exact ⟨ret_bool (by rw [hr.out]; rfl), bx⟩

set_option maxHeartbeats 1000000 in
theorem rdmay_any {A : Option Addr} {n c : Nat} {l : List Int} {E : Option Addr} {m k : Nat} {f : List Int} (b p : Bool) (w : World) (h : IL w A n c l) (g : IL w E m k f) :
    Calls Try.prog 82 #[.agg #[.bool b, .slice A n c, .bool p, .slice E m k]] w (RV w (.bool (mayD b l p f))) := by
  have bx : Below w.heap.size w (w.alloc (.cells #[.bool b, .slice A n c, .bool p, .slice E m k] 42)) := (Below.refl _ _).alloc (Nat.le_refl _) _
  have m1 := Lib.hid (fun W hW => rmay_any A n c l W hW)
  have m2 := Lib.hid (fun W hW => rmay_any E m k f W hW)
  have hr : Hid (mayD b l p f = (mayL l && mayL f && (p || m == 0))) := by unfold Hid mayD; rw [g.len]
  have hz : (m = 0 ∧ Hid ((m == 0) = true)) ∨ (0 < m ∧ Hid ((m == 0) = false)) := by
    rcases Nat.eq_zero_or_pos m with q | q
    · exact .inl ⟨q, by simp [Hid, q]⟩
    · exact .inr ⟨q, by simp [Hid]; omega⟩
  generalize mayL l = x at *
  generalize mayL f = y at *
  rcases hz with ⟨hz, hz2⟩ | ⟨hz, hz2⟩
  · have HZ := hz
    subst hz
    clear HZ
    cases x <;> cases y <;> cases p
    all_goals
      go_enter Try.func82, Try.ntmps82
      go_wp2_with fail
      refine (m1.out _ (h.alloc _)).mono ?_
      rintro e w1 ⟨rfl, rfl⟩
      go_wp2_with fail
      refine (m2.out _ (g.alloc _)).mono ?_
      rintro e w1 ⟨rfl, rfl⟩
      go_wp2_with fail
      go_ret
      exact ⟨ret_bool (by rw [hr.out]; rfl), bx⟩
  · cases x <;> cases y <;> cases p
    all_goals
      go_enter Try.func82, Try.ntmps82
      go_wp2_with fail
      refine (m1.out _ (h.alloc _)).mono ?_
      rintro e w1 ⟨rfl, rfl⟩
      go_wp2_with fail
      refine (m2.out _ (g.alloc _)).mono ?_
      rintro e w1 ⟨rfl, rfl⟩
      go_wp2_with fail
      go_ret
      exact ⟨ret_bool (by rw [hr.out, hz2.out]; first | rfl | (simp; omega)), bx⟩

def atomsD (l : List Int) (p : Bool) (f : List Int) : List Int := l ++ ((if p then [10] else []) ++ f)

end Go.Proofs.Ytppkifdngjcbeaa
