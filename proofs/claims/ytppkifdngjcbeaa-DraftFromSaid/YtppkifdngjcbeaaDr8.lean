/- The walks of a draft's text. No condition. -/
import Derived.Test.YtppkifdngjcbeaaDr7
namespace Go.Proofs.Ytppkifdngjcbeaa
open Go.RowKit

def textD (d : Dr) : List UInt8 := (if d.neg then [45] else []) ++ textL d.int ++ (if d.sep then [46] else []) ++ textL d.frac

set_option maxHeartbeats 1000000 in
theorem dtext_any {A : Option Addr} {n c : Nat} {l : List Int} {E : Option Addr} {m k : Nat} {f : List Int} (b p : Bool) (w : World) (h : IL w A n c l) (g : IL w E m k f) (hl : I64 l) (hf : I64 f) (hn : n ≤ 10000) (hm : m ≤ 10000) :
    Calls Try.prog 74 #[.agg #[.bool b, .slice A n c, .bool p, .slice E m k]] w (RV w (.string (bs (textD ⟨b, l, p, f⟩)))) := by
  have hX : Fresh4 w w.heap.size 38 (.bool b) (.slice A n c) (.bool p) (.slice E m k) (w.alloc (.cells #[.bool b, .slice A n c, .bool p, .slice E m k] 38)) := Fresh4.made w w _ _ _ _ _ (Later.refl w) _ rfl
  have ht1 := Lib.hid (fun W hW => text_any A n c l W hW hl (by omega))
  have ht2 := Lib.hid (fun W hW => text_any E m k f W hW hf (by omega))
  have e1 := textL_len l
  have e2 := textL_len f
  have l1 := h.len
  have l2 := g.len
  have HT : Hid (textD ⟨b, l, p, f⟩ = (if b then [45] else []) ++ textL l ++ (if p then [46] else []) ++ textL f) := rfl
  generalize textD ⟨b, l, p, f⟩ = T at *
  generalize textL l = x at *
  generalize textL f = y at *
  have hx : x.length ≤ 10000 := by omega
  have hy : y.length ≤ 10000 := by omega
  have qx : (bs x).size ≤ 10000 := by rw [bs_size]; exact hx
  have qy : (bs y).size ≤ 10000 := by rw [bs_size]; exact hy
  have q0 : (bs [45]).size = 1 := rfl
  have q1 : (bs [46]).size = 1 := rfl
  have k0 : (({ data := #[45] } : ByteArray)).size = 1 := rfl
  have k1 : (({ data := #[46] } : ByteArray)).size = 1 := rfl
  have q2 : (({ data := #[45] } : ByteArray) ++ bs x).size ≤ 10001 := by rw [ByteArray.size_append, k0]; omega
  have q3 : (bs x ++ ({ data := #[46] } : ByteArray)).size ≤ 10001 := by rw [ByteArray.size_append, k1]; omega
  have q4 : (({ data := #[45] } : ByteArray) ++ bs x ++ ({ data := #[46] } : ByteArray)).size ≤ 10002 := by rw [ByteArray.size_append, k1]; omega
  have q5 : (({ data := #[45] } : ByteArray) ++ (bs x ++ ({ data := #[46] } : ByteArray))).size ≤ 10002 := by rw [ByteArray.size_append, k0]; omega
  clear e1 e2 l1 l2
  cases b <;> cases p
  all_goals
    go_enter Try.func74, Try.ntmps74
    go_wp2_with fail
    refine (ht1.out _ (h.later hX.2.2)).mono ?_
    rintro e w1 ⟨rfl, hB⟩
    have hX1 := hX.call hB
    obtain ⟨⟨b0, b1, b2, b3⟩, _⟩ := hX1.cells
    go_wp2_with fail
    refine (ht2.out _ (g.later hX1.2.2)).mono ?_
    rintro e w2 ⟨rfl, hB2⟩
    go_wp2_with fail
    go_ret
    exact ⟨by rw [HT.out]; simp [bs, ByteArray.mk_append_mk], (hX1.call hB2).2.2⟩

end Go.Proofs.Ytppkifdngjcbeaa
