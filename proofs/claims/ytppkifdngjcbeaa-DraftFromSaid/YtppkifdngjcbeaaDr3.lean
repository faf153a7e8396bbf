/- The walks of drafts: whether two are the same, the draft of atoms. No condition. -/
import Derived.Test.YtppkifdngjcbeaaDr2
import Derived.Test.YtppkifdngjcbeaaDi
namespace Go.Proofs.Ytppkifdngjcbeaa
open Go.RowKit

def sameD (x y : Dr) : Bool := (x.neg == y.neg) && (x.sep == y.sep) && (x.int == y.int) && (x.frac == y.frac)
theorem sameD_refl (x : Dr) : sameD x x = true := by simp [sameD]

set_option maxHeartbeats 4000000 in
theorem rdsame_any {A : Option Addr} {n c : Nat} {l : List Int} {E : Option Addr} {m k : Nat} {f : List Int} {A2 : Option Addr} {n2 c2 : Nat} {l2 : List Int} {E2 : Option Addr} {m2 k2 : Nat} {f2 : List Int}
    (b p b2 p2 : Bool) (w : World) (h : IL w A n c l) (g : IL w E m k f) (h2 : IL w A2 n2 c2 l2) (g2 : IL w E2 m2 k2 f2) :
    Calls Try.prog 22 #[.agg #[.bool b, .slice A n c, .bool p, .slice E m k], .agg #[.bool b2, .slice A2 n2 c2, .bool p2, .slice E2 m2 k2]] w (RV w (.bool (sameD ⟨b, l, p, f⟩ ⟨b2, l2, p2, f2⟩))) := by
  have e1 := Lib.hid (fun W hW hW2 => same_any A n c l A2 n2 c2 l2 W hW hW2)
  have e2 := Lib.hid (fun W hW hW2 => same_any E m k f E2 m2 k2 f2 W hW hW2)
  have hr : Hid (sameD ⟨b, l, p, f⟩ ⟨b2, l2, p2, f2⟩ = ((b == b2) && (p == p2) && (l == l2) && (f == f2))) := rfl
  have bx : Below w.heap.size w ((w.alloc (.cells #[.bool b, .slice A n c, .bool p, .slice E m k] 42)).alloc (.cells #[.bool b2, .slice A2 n2 c2, .bool p2, .slice E2 m2 k2] 42)) := ((Below.refl _ _).alloc (Nat.le_refl _) _).alloc (by simp) _
  generalize (l == l2) = x at *
  generalize (f == f2) = y at *
  cases x <;> cases y
  case true.true =>
    cases b <;> cases b2 <;> cases p <;> cases p2
    all_goals
      go_enter Try.func22, Try.ntmps22
      go_wp2_with fail
      refine (e1.out _ ((h.alloc _).alloc _) ((h2.alloc _).alloc _)).mono ?_
      rintro e w1 ⟨rfl, j1, rfl⟩
      go_wp2_with fail
      refine (e2.out _ (((g.alloc _).alloc _).below (below_drewN _ _ _)) (((g2.alloc _).alloc _).below (below_drewN _ _ _))).mono ?_
      rintro e w1 ⟨rfl, j2, rfl⟩
      go_wp2_with fail
      go_ret
      exact ⟨ret_bool (by rw [hr.out]; rfl), bx.trans (below_drewN _ _ _)⟩
  all_goals
    go_enter Try.func22, Try.ntmps22
    go_wp2_with fail
    refine (e1.out _ ((h.alloc _).alloc _) ((h2.alloc _).alloc _)).mono ?_
    rintro e w1 ⟨rfl, j1, rfl⟩
    go_wp2_with fail
    refine (e2.out _ (((g.alloc _).alloc _).below (below_drewN _ _ _)) (((g2.alloc _).alloc _).below (below_drewN _ _ _))).mono ?_
    rintro e w1 ⟨rfl, j2, rfl⟩
    go_wp2_with fail
    go_ret
    exact ⟨ret_bool (by rw [hr.out]; simp), bx.trans (below_drewN _ _ _)⟩

end Go.Proofs.Ytppkifdngjcbeaa
