/- The walk of the table of ways. No condition. -/
import Derived.Test.YtppkifdngjcbeaaEd7
namespace Go.Proofs.Ytppkifdngjcbeaa
open Go.RowKit

def wayCells : Array Value := #[.func (.func 94) #[] #[], .func (.func 95) #[] #[], .func (.func 96) #[] #[], .func (.func 97) #[] #[], .func (.func 98) #[] #[], .func (.func 99) #[] #[]]
theorem ways_any (w : World) : Calls Try.prog 77 #[] w fun e w' => e = .returned (.slice (some ⟨w.heap.size, 0, none⟩) 6 6) ∧ w' = w.alloc (.cells wayCells 117) := by
  go_enter Try.func77, Try.ntmps77
  go_wp2
  go_ret
  exact ⟨rfl, rfl⟩

theorem SB.car {w0 W : World} {g : Nat} {t : TypeId} {x : SV} (h : SB w0 g t x W) (k : Int) (h1 : 0 < x.v.n → ∀ a, x.v.A = some a → a.block ≠ g) (h2 : 0 < x.v.m → ∀ a, x.v.E = some a → a.block ≠ g) :
    SB w0 g t ⟨x.v, k, x.a⟩ (W.setCell ⟨g, 4, none⟩ (.int .i64 k)) := ⟨h.1.set_ 4 (.int .i64 k), h.2.1.set_ h1 _, h.2.2.set_ h2 _⟩
theorem SB.anc {w0 W : World} {g : Nat} {t : TypeId} {x : SV} (h : SB w0 g t x W) (k : Int) (h1 : 0 < x.v.n → ∀ a, x.v.A = some a → a.block ≠ g) (h2 : 0 < x.v.m → ∀ a, x.v.E = some a → a.block ≠ g) :
    SB w0 g t ⟨x.v, x.c, k⟩ (W.setCell ⟨g, 5, none⟩ (.int .i64 k)) := ⟨h.1.set_ 5 (.int .i64 k), h.2.1.set_ h1 _, h.2.2.set_ h2 _⟩
theorem six {m : Int} (h : 0 ≤ m ∧ m ≤ 5) : m = 0 ∨ m = 1 ∨ m = 2 ∨ m = 3 ∨ m = 4 ∨ m = 5 := by omega
theorem toS_bd {d : Dr} {c : Int} (hc : 0 ≤ c ∧ c ≤ lenR d) (what : Int) : 0 ≤ toS d c what ∧ toS d c what ≤ lenR d := by
  have hl : lenR d = ((atomsR d).length : Int) := rfl
  unfold toS
  split
  · split <;> omega
  · split
    · split <;> omega
    · split
      · unfold leftS
        split
        · omega
        · split
          · omega
          · rw [idx_pre]
            have h1 := (List.takeWhile_sublist (p := fun x => !(x == 10)) (l := (atomsR d).take c.toNat)).length_le
            have h2 : ((atomsR d).take c.toNat).length ≤ c.toNat := by simp; omega
            split
            · rename_i h10 hany
              unfold preL
              have h3 : ((atomsR d).take c.toNat).length = c.toNat := by simp; omega
              have h4 : (preL ((atomsR d).take c.toNat)).length < ((atomsR d).take c.toNat).length := by
                have e := pre_post (l := (atomsR d).take c.toNat) hany
                have := congrArg List.length e
                simp only [List.length_append, List.length_cons] at this
                omega
              unfold preL at h4
              omega
            · omega
      · split
        · unfold rightS
          have h3 : (((atomsR d).drop c.toNat).length : Int) = lenR d - c := by simp; omega
          split
          · omega
          · rename_i hneg
            rw [idx_pre] at hneg ⊢
            split at hneg
            · rename_i hany
              rw [if_pos hany]
              have h4 : (preL ((atomsR d).drop c.toNat)).length < ((atomsR d).drop c.toNat).length := by
                have e := pre_post (l := (atomsR d).drop c.toNat) hany
                have := congrArg List.length e
                simp only [List.length_append, List.length_cons] at this
                omega
              split <;> omega
            · omega
        · split <;> omega

end Go.Proofs.Ytppkifdngjcbeaa
