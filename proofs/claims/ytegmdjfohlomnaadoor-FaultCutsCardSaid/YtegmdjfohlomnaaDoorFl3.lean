/- errors.Is, and the small functions of the faults: a code in so many faults. No condition. -/
import Derived.Test.YtegmdjfohlomnaaDoorFl2
import Derived.Test.YtegmdjfohlomnaaDoorFlShelf
namespace Go.Proofs.YtegmdjfohlomnaaDoor
open Go.RowKit Go.Extern.Stop Go.Stop Go.Extern

/-- The slice reads as the texts ss. -/
def SL (w : World) (A : Option Addr) (n c : Nat) (ss : List ByteArray) : Prop := VL w A n c (ss.map Value.string)
/-- .. and is the call's own, behind block B. -/
def SO (w : World) (B : Nat) (A : Option Addr) (n c : Nat) (ss : List ByteArray) : Prop := OV w B 9 A n c (ss.map Value.string)
theorem str_info : (Tryd.prog.info? 9).map (fun i => (i.zero, i.size, i.bytes)) = some (some (.string ⟨#[]⟩), 1, 16) := by kernel_rfl
theorem strs_oneCell (ss : List ByteArray) : ∀ u ∈ ss.map Value.string, u.oneCell' = true := fun u hu => by
  obtain ⟨s, _, rfl⟩ := List.mem_map.1 hu
  rfl
theorem SL.one (w : World) (e : TypeId) (s : ByteArray) : SL (w.alloc (.cells #[.string s] e)) (some ⟨w.heap.size, 0, none⟩) 1 1 [s] := VL.lit w e 1 [.string s] rfl (by omega)
theorem SO.sl {w : World} {B : Nat} {A : Option Addr} {n c : Nat} {ss : List ByteArray} (h : SO w B A n c ss) : SL w A n c ss := OV.vl h
theorem SL.len {w : World} {A : Option Addr} {n c : Nat} {ss : List ByteArray} (h : SL w A n c ss) : ss.length = n := by have := VL.len h; simpa using this
/-- An append to a list of texts in the walk. -/
theorem wpList_append_SO {w : World} {ops : Array Oper} {rest : List Oper} {o : Oper} {a : Act} {Q : Exit → Act → World → Prop} {A A2 : Option Addr} {n c n2 c2 : Nat} {l l2 : List ByteArray}
    (B : Nat) (hgd : o.guard = none) (s x : Operand)
    (ho : o.op = .call { callee := .builtin .append, args := #[s, x], argTypes := #[22, 22] }) (hs : a.eval s = .slice A n c) (hx : a.eval x = .slice A2 n2 c2)
    (h1 : SO w B A n c l) (h2 : SL w A2 n2 c2 l2) (hB : B ≤ w.heap.size) (hn : n + n2 ≤ 1000000000)
    (h : ∀ A' c' w', SO w' B A' (n + n2) c' (l ++ l2) → Below B w w' → w.grownBy w' (Value.slice A n c).ownBlock → wpList Tryd.prog ops Q rest (a.put o.dst (.slice A' (n + n2) c')) w') : wpList Tryd.prog ops Q (o :: rest) a w := by
  obtain ⟨A', c', w', hr, h3, h4, h5, _, _⟩ := run_append_OV Tryd.underlying22 str_info rfl (by omega) o.type hB h1 h2 (strs_oneCell _) hn
  exact Lib.wpList_append_run w hgd s x _ _ ho _ _ hs hx _ w' hr (h A' c' w' (by unfold SO; rw [List.map_append]; exact h3) h4 h5)

/-- What the package variables hold, as far as it is read. -/
structure Gl (w : World) : Prop where
  et : w.cell? ⟨0, 0, none⟩ = some (.iface 81 (.agg #[.pointer (some ⟨5, 24, none⟩)]))
  tab : Lib.TabIs Tryd.prog w "internal/strconv.uint64pow10" .u64 Lib.pow10Tab
theorem Gl.below {w W : World} (h : Gl w) (hb : Below w.heap.size w W) : Gl W := by
  refine ⟨(hb.cell (World.block_lt_of_cell? w _ h.et)).trans h.et, ?_⟩
  have ht := h.tab
  have hgn : Tryd.prog.globalNamed "internal/strconv.uint64pow10" = some 2 := by kernel_rfl
  unfold Lib.TabIs World.var? at ht ⊢
  rw [hgn] at ht ⊢
  simp only [Option.bind_some] at ht ⊢
  have hlt : 2 < w.heap.size := by
    rcases Nat.lt_or_ge 2 w.heap.size with h' | h'
    · exact h'
    · rw [Array.getElem?_eq_none h'] at ht; cases ht
  rw [hb.block _ hlt]
  exact ht
theorem Gl.some_ {w : World} (h : Gl w) : 0 < w.heap.size := World.block_lt_of_cell? w _ h.et

def cmpF : Array Value → Sem Value := ReflectliteType.method fun t => do Rtype.noPackHeld "Comparable" t; pure (.bool (← typeInfo t).comparable)
theorem fa_comparable2 (w : World) : (cmpF #[.agg #[.pointer (some ⟨5, 31, none⟩)]]).run Tryd.prog w = .ok (.bool true) w := by kernel_rfl
theorem eq_codes (c o : Int) (w : World) : (binOp .eql 24 (.iface 31 (.int .i64 c)) (.iface 31 (.int .i64 o))).run Tryd.prog w = .ok (.bool (c == o)) w :=
  Lib.run_eql_iface_int w c o Tryd.underlying24 fa_compE Tryd.underlying31
theorem eq_other (v : Value) (o : Int) (w : World) : (binOp .eql 24 (.iface 40 v) (.iface 31 (.int .i64 o))).run Tryd.prog w = .ok (.bool false) w :=
  run_eql_iface_types _ _ _ _ Tryd.underlying24 (by decide) w

/-- errors.is at a code: is it the one that is in so many faults? -/
theorem fa_is (c o : Int) (v0 : Value) (ws : List ByteArray) (B : Nat) (w : World) (hC : Ch w ws B c v0) :
    Calls Tryd.prog 37 #[v0, .iface 31 (.int .i64 o), .bool true] w fun e w' => e = .returned (.bool (c == o)) ∧ w' = w := by
  have q1 := eq_codes
  have q2 := eq_other
  have n1 := fa_noIsF
  have n2 := fa_noIsE
  have u1 := fa_hasUnwrapF
  have u2 := fa_noUnwrapE
  have u3 := fa_noUnwrapsE
  have mU := fa_methodUnwrap
  go_enter Tryd.func37, Tryd.ntmps37
  go_wp2
  go_loopw [0] (fun v wr => wr = w ∧ ∃ ws' B', Ch w ws' B' c v) (fun v _ => depthV v)
  case atStart => exact ⟨rfl, ws, B, hC⟩
  case round =>
    obtain ⟨rfl, ws', B', hCh⟩ := hrel
    cases ws' with
    | nil =>
      obtain rfl := hCh
      cases hco : (c == o) with
      | true =>
        go_wp2
        go_ret
        exact ⟨by rw [hco]; rfl, rfl⟩
      | false =>
        go_wp2
        go_ret
        exact ⟨by rw [hco]; rfl, rfl⟩
    | cons s r =>
      obtain ⟨p, u, hp, rfl, hh, hr⟩ := hCh
      have hd := hr.depth
      obtain ⟨tu, yu, rfl⟩ := hr.iface
      have hc : wr.cell? ⟨p, 1, none⟩ = some (.iface tu yu) := by
        rw [cell_of_row wr p 1 _ _ (0, 0) hh]; rfl
      go_wp2
      go_roundw
      case rel => exact ⟨trivial, r, p, hr⟩
      case measure => exact Nat.lt_succ_of_le hd

theorem is_code (c o : Int) (v0 : Value) (ws : List ByteArray) (B : Nat) (w : World) (hC : Ch w ws B c v0) :
    Calls Tryd.prog 27 #[v0, .iface 31 (.int .i64 o)] w fun e w' => e = .returned (.bool (c == o)) ∧ w' = w := by
  have h_fTypeOf := @run_callFunc_extern Tryd.prog 36 _ ReflectliteType.typeOf Tryd.func36 (by kernel_rfl) (by kernel_rfl) (by kernel_rfl) (by kernel_rfl)
  have h_fComp := @run_callFunc_extern Tryd.prog 84 _ cmpF Tryd.func84 (by kernel_rfl) (by kernel_rfl) (by kernel_rfl) (by kernel_rfl)
  have tE := fa_typeOfE
  have mC := fa_methodComparable
  have c1 := fa_comparable2
  obtain ⟨t0, y0, rfl⟩ := hC.iface
  go_enter Tryd.func27, Tryd.ntmps27
  go_wp2_with (first | (go_at_call 37; refine (fa_is c o _ ws B _ hC).mono ?_; rintro e w' ⟨rfl, rfl⟩) | go_in)
  go_ret
  exact ⟨rfl, rfl⟩

/-! ### The package fault -/
theorem of_ok (w : World) : Calls Tryd.prog 19 #[.int .i64 0] w fun e w' => e = .returned .nilIface ∧ w' = w := by
  go_enter Tryd.func19, Tryd.ntmps19
  go_wp2
  go_ret
  exact ⟨rfl, rfl⟩
theorem of_code (c : Int) (hc : c ≠ 0) (w : World) : Calls Tryd.prog 19 #[.int .i64 c] w fun e w' => e = .returned (.iface 31 (.int .i64 c)) ∧ w' = w := by
  have hc2 : (c == 0) = false := by simpa using hc
  go_enter Tryd.func19, Tryd.ntmps19
  go_wp2
  go_ret
  exact ⟨rfl, rfl⟩
theorem wrap_nil (s : ByteArray) (w : World) : Calls Tryd.prog 18 #[.string s, .nilIface] w fun e w' => e = .returned .nilIface ∧ w' = w := by
  go_enter Tryd.func18, Tryd.ntmps18
  go_wp2
  go_ret
  exact ⟨rfl, rfl⟩
theorem wrap_any (s : ByteArray) (v0 : Value) (ws : List ByteArray) (B : Nat) (c : Int) (w : World) (hC : Ch w ws B c v0) (hB : B ≤ w.heap.size) :
    Calls Tryd.prog 18 #[.string s, v0] w fun e w' => e = .returned (.iface 40 (.pointer (some ⟨w.heap.size, 0, none⟩))) ∧ Ch w' (s :: ws) w'.heap.size c (.iface 40 (.pointer (some ⟨w.heap.size, 0, none⟩))) ∧ Below w.heap.size w w' := by
  obtain ⟨t0, y0, rfl⟩ := hC.iface
  go_enter Tryd.func18, Tryd.ntmps18
  go_wp2
  go_ret
  have hb : Below w.heap.size w (w.alloc (.cells #[.string s, .iface t0 y0] 44)) := (Below.refl _ _).alloc (Nat.le_refl _) _
  exact ⟨rfl, ⟨_, _, by simp, rfl, heap_alloc_new _ _, (hC.below hb hB).mono hB⟩, hb⟩

/-- fault.Code of a code in so many faults. -/
theorem code_any (c : Int) (v0 : Value) (ws : List ByteArray) (B : Nat) (w : World) (hG : Gl w) (hC : Ch w ws B c v0) (hB : B ≤ w.heap.size) :
    Calls Tryd.prog 14 #[v0] w (RV w (.int .i64 c)) := by
  have hlt := hG.some_
  have hb1 : Below w.heap.size w (w.alloc (.cells #[.int .i64 0] 31)) := (Below.refl _ _).alloc (Nat.le_refl _) _
  have hG1 := hG.below hb1
  have hC1 := hC.below hb1 hB
  go_enter Tryd.func14, Tryd.ntmps14
  go_wp2_with (go_at_call 21; refine (as_E c v0 ws B w.heap.size (.int .i64 0) _ hG1.et (heap_alloc_new _ _) hC1 (by simp; omega)).mono ?_; rintro e w' ⟨rfl, hg, hcell⟩; have hc7 : w'.cell? ⟨w.heap.size, 0, none⟩ = some (.int .i64 c) := by (rw [cell_of_row w' _ 0 _ _ (0, 0) hcell]; rfl))
  go_ret
  exact ⟨rfl, hb1.grown hg (by simp) (by intro k e; injection e with e; omega)⟩
theorem code_nil (w : World) : Calls Tryd.prog 14 #[.nilIface] w (RV w (.int .i64 0)) := by
  have hb1 : Below w.heap.size w (w.alloc (.cells #[.int .i64 0] 31)) := (Below.refl _ _).alloc (Nat.le_refl _) _
  go_enter Tryd.func14, Tryd.ntmps14
  go_wp2_with (go_at_call 21; refine (as_nil _ _).mono ?_; rintro e w' ⟨rfl, rfl⟩)
  go_ret
  exact ⟨rfl, hb1⟩
theorem has_any (c o : Int) (v0 : Value) (ws : List ByteArray) (B : Nat) (w : World) (hC : Ch w ws B c v0) :
    Calls Tryd.prog 28 #[v0, .int .i64 o] w (RV w (.bool (c == o))) := by
  obtain ⟨t0, y0, rfl⟩ := hC.iface
  go_enter Tryd.func28, Tryd.ntmps28
  go_wp2_with (go_at_call 27; refine (is_code c o _ ws B _ hC).mono ?_; rintro e w' ⟨rfl, rfl⟩)
  go_ret
  exact ⟨rfl, Below.refl _ _⟩
theorem has_nil (o : Int) (w : World) : Calls Tryd.prog 28 #[.nilIface, .int .i64 o] w (RV w (.bool (o == 0))) := by
  go_enter Tryd.func28, Tryd.ntmps28
  go_wp2
  go_ret
  exact ⟨rfl, Below.refl _ _⟩

end Go.Proofs.YtegmdjfohlomnaaDoor
