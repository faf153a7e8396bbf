/- errors.As and errors.Is, by contract, at an error that is a code in so many faults. No condition. -/
import Derived.Test.YtegmdjfohlomnaaDoorFl1
import Derived.Test.YtegmdjfohlomnaaDoorRl
namespace Go.Proofs.YtegmdjfohlomnaaDoor
open Go.RowKit Go.Extern.Stop Go.Stop Go.Extern

/-- An error: a code in so many faults, the outermost first; all of them lie below B. -/
def Ch (W : World) : List ByteArray → Nat → Int → Value → Prop
  | [], _, c, v => v = .iface 31 (.int .i64 c)
  | s :: r, B, c, v => ∃ p u, p < B ∧ v = .iface 40 (.pointer (some ⟨p, 0, none⟩)) ∧ W.heap[p]? = some (.cells #[.string s, u] 44 (0, 0)) ∧ Ch W r p c u
theorem Ch.keep {W W' : World} : ∀ {ws : List ByteArray} {B : Nat} {c : Int} {v : Value}, Ch W ws B c v → (∀ k, k < B → W'.heap[k]? = W.heap[k]?) → Ch W' ws B c v
  | [], _, _, _, h, _ => h
  | _ :: _, B, _, _, ⟨p, u, hp, hv, hh, hr⟩, hk => ⟨p, u, hp, hv, (hk p hp).trans hh, Ch.keep hr fun k hkp => hk k (by omega)⟩
theorem Ch.mono {W : World} : ∀ {ws : List ByteArray} {B B' : Nat} {c : Int} {v : Value}, Ch W ws B c v → B ≤ B' → Ch W ws B' c v
  | [], _, _, _, _, h, _ => h
  | _ :: _, _, _, _, _, ⟨p, u, hp, hv, hh, hr⟩, hB => ⟨p, u, by omega, hv, hh, hr⟩
theorem Ch.below {W W' : World} {ws : List ByteArray} {B B' : Nat} {c : Int} {v : Value} (h : Ch W ws B c v) (hb : Below B' W W') (hB : B ≤ B') : Ch W' ws B c v :=
  h.keep fun k hk => hb.block k (by omega)
theorem Ch.grown {W W' : World} {ws : List ByteArray} {B g : Nat} {c : Int} {v : Value} (h : Ch W ws B c v) (hg : W.grownBy W' (some g)) (hB : B ≤ W.heap.size) (hB2 : B ≤ g) : Ch W' ws B c v :=
  h.keep fun k hk => hg.block k (by omega) (by intro e; injection e with e; omega)
def depthV : Value → Nat
  | .iface _ (.pointer (some a)) => a.block + 1
  | _ => 0

/-- errors.as: the error is of the type that is asked for. -/
theorem fa_asF (t vb : Addr) (x : Addr) (old : Value) (w : World) (ht : w.cell? t = some old) (hf : w.frozen? t = false) (hv : w.cell? vb = some (.pointer (some t))) :
    Calls Tryd.prog 35 #[.iface 40 (.pointer (some x)), .iface 42 (.pointer (some t)), .agg #[.pointer (some ⟨5, 42, none⟩), .pointer (some vb), .int .u64 150], .iface 81 (.agg #[.pointer (some ⟨5, 40, none⟩)])] w fun e w' => e = .returned (.bool true) ∧ w' = ((w.alloc (.cells #[.pointer (some ⟨5, 42, none⟩), .pointer (some vb), .int .u64 150] 62)).alloc (.cells #[.pointer (some x)] 40)).setCell t (.pointer (some x)) := by
  have h_f32 := @run_callFunc_extern Tryd.prog 32 _ (fun args => ReflectliteValue.unpack (args.getD 0 (.tuple #[]))) Tryd.func32 (by kernel_rfl) (by kernel_rfl) (by kernel_rfl) (by kernel_rfl)
  have h_fTypeOf := @run_callFunc_extern Tryd.prog 36 _ ReflectliteType.typeOf Tryd.func36 (by kernel_rfl) (by kernel_rfl) (by kernel_rfl) (by kernel_rfl)
  have h_fAssign := @run_callFunc_extern Tryd.prog 83 _ (ReflectliteType.relation "AssignableTo" ReflectliteType.assignableTo) Tryd.func83 (by kernel_rfl) (by kernel_rfl) (by kernel_rfl) (by kernel_rfl)
  have h_f42 := @run_callFunc_extern Tryd.prog 42 _ (ReflectliteValue.method (ReflectliteValue.valueError "reflectlite.Value.Elem" 0) ReflectliteValue.elem) Tryd.func42 (by kernel_rfl) (by kernel_rfl) (by kernel_rfl) (by kernel_rfl)
  have h_f43 := @run_callFunc_extern Tryd.prog 43 _ ReflectliteValue.set Tryd.func43 (by kernel_rfl) (by kernel_rfl) (by kernel_rfl) (by kernel_rfl)
  have tF := fa_typeOfF
  have tE := fa_typeOfE
  have mA := fa_methodAssignableTo
  have a1 := fa_assignFF
  have a2 := fa_assignFE
  have v1 := fa_valF
  have n1 := fa_noAsF
  have n2 := fa_noAsE
  have u1 := fa_hasUnwrapF
  have u2 := fa_noUnwrapE
  have u3 := fa_noUnwrapsE
  have mU := fa_methodUnwrap
  have htl : t.block < w.heap.size := World.block_lt_of_cell? w t ht
  have hvl : vb.block < w.heap.size := World.block_lt_of_cell? w vb hv
  have el := fa_elemVF vb t (w.alloc (.cells #[.pointer (some ⟨5, 42, none⟩), .pointer (some vb), .int .u64 150] 62)) (by rw [World.cell?_alloc_lt _ _ vb hvl]; exact hv)
  have el2 := fun o => fa_elemVF vb t ((w.alloc (.cells #[.pointer (some ⟨5, 42, none⟩), .pointer (some vb), .int .u64 150] 62)).alloc o) (by rw [World.cell?_alloc_lt _ _ vb (by simp; omega), World.cell?_alloc_lt _ _ vb hvl]; exact hv)
  have st := fa_setF t ⟨w.heap.size + 1, 0, none⟩ x old ((w.alloc (.cells #[.pointer (some ⟨5, 42, none⟩), .pointer (some vb), .int .u64 150] 62)).alloc (.cells #[.pointer (some x)] 40))
    (by rw [World.cell?_alloc_at _ _ _ _ (by simp)]; rfl)
    (by rw [World.cell?_alloc_lt _ _ t (by simp; omega), World.cell?_alloc_lt _ _ t htl]; exact ht)
    (by rw [World.frozen?_alloc_old _ _ t (by simp; omega), World.frozen?_alloc_old _ _ t (Nat.ne_of_lt htl)]; exact hf)
  go_enter Tryd.func35, Tryd.ntmps35
  go_wp2
  refine wp_loop_rounds 1 ?_
  rw [rounds_succ]
  go_wp2
  go_ret
  exact ⟨rfl, rfl⟩

/-- errors.as: the error is of the type that is asked for. -/
theorem fa_asE (t vb : Addr) (x : Int) (old : Value) (w : World) (ht : w.cell? t = some old) (hf : w.frozen? t = false) (hv : w.cell? vb = some (.pointer (some t))) :
    Calls Tryd.prog 35 #[.iface 31 (.int .i64 x), .iface 58 (.pointer (some t)), .agg #[.pointer (some ⟨5, 58, none⟩), .pointer (some vb), .int .u64 150], .iface 81 (.agg #[.pointer (some ⟨5, 31, none⟩)])] w fun e w' => e = .returned (.bool true) ∧ w' = ((w.alloc (.cells #[.pointer (some ⟨5, 58, none⟩), .pointer (some vb), .int .u64 150] 62)).alloc (.cells #[.int .i64 x] 31)).setCell t (.int .i64 x) := by
  have h_f32 := @run_callFunc_extern Tryd.prog 32 _ (fun args => ReflectliteValue.unpack (args.getD 0 (.tuple #[]))) Tryd.func32 (by kernel_rfl) (by kernel_rfl) (by kernel_rfl) (by kernel_rfl)
  have h_fTypeOf := @run_callFunc_extern Tryd.prog 36 _ ReflectliteType.typeOf Tryd.func36 (by kernel_rfl) (by kernel_rfl) (by kernel_rfl) (by kernel_rfl)
  have h_fAssign := @run_callFunc_extern Tryd.prog 83 _ (ReflectliteType.relation "AssignableTo" ReflectliteType.assignableTo) Tryd.func83 (by kernel_rfl) (by kernel_rfl) (by kernel_rfl) (by kernel_rfl)
  have h_f42 := @run_callFunc_extern Tryd.prog 42 _ (ReflectliteValue.method (ReflectliteValue.valueError "reflectlite.Value.Elem" 0) ReflectliteValue.elem) Tryd.func42 (by kernel_rfl) (by kernel_rfl) (by kernel_rfl) (by kernel_rfl)
  have h_f43 := @run_callFunc_extern Tryd.prog 43 _ ReflectliteValue.set Tryd.func43 (by kernel_rfl) (by kernel_rfl) (by kernel_rfl) (by kernel_rfl)
  have tF := fa_typeOfF
  have tE := fa_typeOfE
  have mA := fa_methodAssignableTo
  have a1 := fa_assignEF
  have a2 := fa_assignEE
  have v1 := fa_valE
  have n1 := fa_noAsF
  have n2 := fa_noAsE
  have u1 := fa_hasUnwrapF
  have u2 := fa_noUnwrapE
  have u3 := fa_noUnwrapsE
  have mU := fa_methodUnwrap
  have htl : t.block < w.heap.size := World.block_lt_of_cell? w t ht
  have hvl : vb.block < w.heap.size := World.block_lt_of_cell? w vb hv
  have el := fa_elemVE vb t (w.alloc (.cells #[.pointer (some ⟨5, 58, none⟩), .pointer (some vb), .int .u64 150] 62)) (by rw [World.cell?_alloc_lt _ _ vb hvl]; exact hv)
  have el2 := fun o => fa_elemVE vb t ((w.alloc (.cells #[.pointer (some ⟨5, 58, none⟩), .pointer (some vb), .int .u64 150] 62)).alloc o) (by rw [World.cell?_alloc_lt _ _ vb (by simp; omega), World.cell?_alloc_lt _ _ vb hvl]; exact hv)
  have st := fa_setE t ⟨w.heap.size + 1, 0, none⟩ x old ((w.alloc (.cells #[.pointer (some ⟨5, 58, none⟩), .pointer (some vb), .int .u64 150] 62)).alloc (.cells #[.int .i64 x] 31))
    (by rw [World.cell?_alloc_at _ _ _ _ (by simp)]; rfl)
    (by rw [World.cell?_alloc_lt _ _ t (by simp; omega), World.cell?_alloc_lt _ _ t htl]; exact ht)
    (by rw [World.frozen?_alloc_old _ _ t (by simp; omega), World.frozen?_alloc_old _ _ t (Nat.ne_of_lt htl)]; exact hf)
  go_enter Tryd.func35, Tryd.ntmps35
  go_wp2
  refine wp_loop_rounds 1 ?_
  rw [rounds_succ]
  go_wp2
  go_ret
  exact ⟨rfl, rfl⟩

theorem Ch.depth {W : World} : ∀ {ws : List ByteArray} {B : Nat} {c : Int} {v : Value}, Ch W ws B c v → depthV v ≤ B
  | [], _, _, _, h => by rw [show _ = _ from h]; exact Nat.zero_le _
  | _ :: _, _, _, _, ⟨_, _, hp, hv, _, _⟩ => by rw [hv]; exact hp
theorem Ch.iface {W : World} : ∀ {ws : List ByteArray} {B : Nat} {c : Int} {v : Value}, Ch W ws B c v → ∃ t y, v = .iface t y
  | [], _, _, _, h => ⟨_, _, h⟩
  | _ :: _, _, _, _, ⟨_, _, _, hv, _, _⟩ => ⟨_, _, hv⟩
/-- errors.as at a fault's variable: a code is none. -/
theorem fa_asFE (t vb : Addr) (c : Int) (w : World) :
    Calls Tryd.prog 35 #[.iface 31 (.int .i64 c), .iface 42 (.pointer (some t)), .agg #[.pointer (some ⟨5, 42, none⟩), .pointer (some vb), .int .u64 150], .iface 81 (.agg #[.pointer (some ⟨5, 40, none⟩)])] w fun e w' => e = .returned (.bool false) ∧ w' = (w.alloc (.cells #[.pointer (some ⟨5, 42, none⟩), .pointer (some vb), .int .u64 150] 62)) := by
  have h_fTypeOf := @run_callFunc_extern Tryd.prog 36 _ ReflectliteType.typeOf Tryd.func36 (by kernel_rfl) (by kernel_rfl) (by kernel_rfl) (by kernel_rfl)
  have h_fAssign := @run_callFunc_extern Tryd.prog 83 _ (ReflectliteType.relation "AssignableTo" ReflectliteType.assignableTo) Tryd.func83 (by kernel_rfl) (by kernel_rfl) (by kernel_rfl) (by kernel_rfl)
  have tE := fa_typeOfE
  have mA := fa_methodAssignableTo
  have a2 := fa_assignFE
  have n2 := fa_noAsE
  have u2 := fa_noUnwrapE
  have u3 := fa_noUnwrapsE
  go_enter Tryd.func35, Tryd.ntmps35
  go_wp2
  refine wp_loop_rounds 1 ?_
  rw [rounds_succ]
  go_wp2
  go_ret
  exact ⟨rfl, rfl⟩

/-- errors.as at a code's variable, however many faults there are. -/
theorem fa_asCh (t vb : Addr) (c : Int) (old v0 : Value) (ws : List ByteArray) (B : Nat) (w : World) (ht : w.cell? t = some old) (hf : w.frozen? t = false) (hv : w.cell? vb = some (.pointer (some t))) (hC : Ch w ws B c v0) (hB : B ≤ w.heap.size) :
    Calls Tryd.prog 35 #[v0, .iface 58 (.pointer (some t)), .agg #[.pointer (some ⟨5, 58, none⟩), .pointer (some vb), .int .u64 150], .iface 81 (.agg #[.pointer (some ⟨5, 31, none⟩)])] w fun e w' => e = .returned (.bool true) ∧ w' = ((w.alloc (.cells #[.pointer (some ⟨5, 58, none⟩), .pointer (some vb), .int .u64 150] 62)).alloc (.cells #[.int .i64 c] 31)).setCell t (.int .i64 c) := by
  have h_f32 := @run_callFunc_extern Tryd.prog 32 _ (fun args => ReflectliteValue.unpack (args.getD 0 (.tuple #[]))) Tryd.func32 (by kernel_rfl) (by kernel_rfl) (by kernel_rfl) (by kernel_rfl)
  have h_fTypeOf := @run_callFunc_extern Tryd.prog 36 _ ReflectliteType.typeOf Tryd.func36 (by kernel_rfl) (by kernel_rfl) (by kernel_rfl) (by kernel_rfl)
  have h_fAssign := @run_callFunc_extern Tryd.prog 83 _ (ReflectliteType.relation "AssignableTo" ReflectliteType.assignableTo) Tryd.func83 (by kernel_rfl) (by kernel_rfl) (by kernel_rfl) (by kernel_rfl)
  have h_f42 := @run_callFunc_extern Tryd.prog 42 _ (ReflectliteValue.method (ReflectliteValue.valueError "reflectlite.Value.Elem" 0) ReflectliteValue.elem) Tryd.func42 (by kernel_rfl) (by kernel_rfl) (by kernel_rfl) (by kernel_rfl)
  have h_f43 := @run_callFunc_extern Tryd.prog 43 _ ReflectliteValue.set Tryd.func43 (by kernel_rfl) (by kernel_rfl) (by kernel_rfl) (by kernel_rfl)
  have tF := fa_typeOfF
  have tE := fa_typeOfE
  have mA := fa_methodAssignableTo
  have a1 := fa_assignEF
  have a2 := fa_assignEE
  have v1 := fa_valE
  have n1 := fa_noAsF
  have u1 := fa_hasUnwrapF
  have mU := fa_methodUnwrap
  have htl : t.block < w.heap.size := World.block_lt_of_cell? w t ht
  have hvl : vb.block < w.heap.size := World.block_lt_of_cell? w vb hv
  have el := fa_elemVE vb t (w.alloc (.cells #[.pointer (some ⟨5, 58, none⟩), .pointer (some vb), .int .u64 150] 62)) (by rw [World.cell?_alloc_lt _ _ vb hvl]; exact hv)
  have st := fa_setE t ⟨w.heap.size + 1, 0, none⟩ c old ((w.alloc (.cells #[.pointer (some ⟨5, 58, none⟩), .pointer (some vb), .int .u64 150] 62)).alloc (.cells #[.int .i64 c] 31))
    (by rw [World.cell?_alloc_at _ _ _ _ (by simp)]; rfl)
    (by rw [World.cell?_alloc_lt _ _ t (by simp; omega), World.cell?_alloc_lt _ _ t htl]; exact ht)
    (by rw [World.frozen?_alloc_old _ _ t (by simp; omega), World.frozen?_alloc_old _ _ t (Nat.ne_of_lt htl)]; exact hf)
  go_enter Tryd.func35, Tryd.ntmps35
  go_wp2
  go_loopw [0] (fun v wr => wr = (w.alloc (.cells #[.pointer (some ⟨5, 58, none⟩), .pointer (some vb), .int .u64 150] 62)) ∧ ∃ ws' B', B' ≤ B ∧ Ch w ws' B' c v) (fun v _ => depthV v)
  case atStart => exact ⟨rfl, ws, B, Nat.le_refl _, hC⟩
  case round =>
    obtain ⟨rfl, ws', B', hB', hCh⟩ := hrel
    cases ws' with
    | nil =>
      obtain rfl := hCh
      go_wp2
      go_ret
      exact ⟨rfl, rfl⟩
    | cons s r =>
      obtain ⟨p, u, hp, rfl, hh, hr⟩ := hCh
      have hd := hr.depth
      obtain ⟨tu, yu, rfl⟩ := hr.iface
      have hc : (w.alloc (.cells #[.pointer (some ⟨5, 58, none⟩), .pointer (some vb), .int .u64 150] 62)).cell? ⟨p, 1, none⟩ = some (.iface tu yu) := by
        rw [World.cell?_alloc_lt _ _ ⟨p, 1, none⟩ (show p < w.heap.size by omega), cell_of_row w p 1 _ _ (0, 0) hh]; rfl
      go_wp2
      go_roundw
      case rel => exact ⟨trivial, r, p, by omega, hr⟩
      case measure => exact Nat.lt_succ_of_le hd

theorem grown_set {w : World} {g : Nat} {u : Value} {o1 o2 o3 o4 : Obj} (_hg : g < w.heap.size) : w.grownBy (((((w.alloc o1).alloc o2).alloc o3).alloc o4).setCell ⟨g, 0, none⟩ u) (some g) :=
  have hb : Below w.heap.size w ((((w.alloc o1).alloc o2).alloc o3).alloc o4) := ((((Below.refl _ _).alloc (Nat.le_refl _) _).alloc (by simp) _).alloc (by simp; omega) _).alloc (by simp; omega) _
  ⟨rfl, rfl, rfl, by simp [World.setCell]; omega, fun k hk hne => by
    rw [Below.heap_setCell _ ⟨g, 0, none⟩ u k (fun e => hne (by rw [e]))]
    exact hb.block k hk⟩
theorem set_grown {w : World} {g : Nat} {t : TypeId} {old u : Value} {o1 o2 o3 o4 : Obj} (hg : g < w.heap.size) (h : w.heap[g]? = some (.cells #[old] t (0, 0))) :
    (((((w.alloc o1).alloc o2).alloc o3).alloc o4).setCell ⟨g, 0, none⟩ u).heap[g]? = some (.cells #[u] t (0, 0)) := by
  have hb : Below w.heap.size w ((((w.alloc o1).alloc o2).alloc o3).alloc o4) := ((((Below.refl _ _).alloc (Nat.le_refl _) _).alloc (by simp) _).alloc (by simp; omega) _).alloc (by simp; omega) _
  have h2 := (hb.block g hg).trans h
  simp [World.setCell, Array.getElem?_modify, h2]

/-- errors.As, a fault's variable and a fault: the fault. -/
theorem as_F (x : Addr) (g : Nat) (old : Value) (w : World) (hg : w.cell? ⟨0, 0, none⟩ = some (.iface 81 (.agg #[.pointer (some ⟨5, 24, none⟩)]))) (ht : w.heap[g]? = some (.cells #[old] 40 (0, 0))) :
    Calls Tryd.prog 21 #[.iface 40 (.pointer (some x)), .iface 42 (.pointer (some ⟨g, 0, none⟩))] w fun e w' => e = .returned (.bool true) ∧ w.grownBy w' (some g) ∧ w'.heap[g]? = some (.cells #[.pointer (some x)] 40 (0, 0)) := by
  have h_f32 := @run_callFunc_extern Tryd.prog 32 _ (fun args => ReflectliteValue.unpack (args.getD 0 (.tuple #[]))) Tryd.func32 (by kernel_rfl) (by kernel_rfl) (by kernel_rfl) (by kernel_rfl)
  have h_f33 := @run_callFunc_extern Tryd.prog 33 _ (ReflectliteValue.methodAny (ReflectliteValue.valueError "reflectlite.Value.Type" 0) (fun t _ _ _ => ReflectliteType.toType t)) Tryd.func33 (by kernel_rfl) (by kernel_rfl) (by kernel_rfl) (by kernel_rfl)
  have h_f34 := @run_callFunc_extern Tryd.prog 34 _ (ReflectliteValue.method (ReflectliteValue.valueError "reflectlite.Value.IsNil" 0) ReflectliteValue.isNil) Tryd.func34 (by kernel_rfl) (by kernel_rfl) (by kernel_rfl) (by kernel_rfl)
  have h_fKind := @run_callFunc_extern Tryd.prog 74 _ (ReflectliteType.abiMethod fun t => do pure (.int .u8 (← Rtype.kind t))) Tryd.func74 (by kernel_rfl) (by kernel_rfl) (by kernel_rfl) (by kernel_rfl)
  have h_fElem := @run_callFunc_extern Tryd.prog 85 _ (ReflectliteType.method ReflectliteType.elem) Tryd.func85 (by kernel_rfl) (by kernel_rfl) (by kernel_rfl) (by kernel_rfl)
  have h_fImpl := @run_callFunc_extern Tryd.prog 86 _ (ReflectliteType.relation "Implements" ReflectliteType.implements_) Tryd.func86 (by kernel_rfl) (by kernel_rfl) (by kernel_rfl) (by kernel_rfl)
  have f6 := fa_valueOfF
  have f7 := fa_typeF
  have mK := fa_methodKind
  have mE := fa_methodElem
  have mI := fa_methodImplements
  have k1 := fa_kindPF
  have k2 := fa_kindF
  have e1 := fa_elemF
  have i1 := fa_implementsF
  have htl : g < w.heap.size := (Array.getElem?_eq_some_iff.1 ht).1
  have ht0 : w.cell? ⟨g, 0, none⟩ = some old := cell_of_row w g 0 _ _ (0, 0) ht
  have hf0 : w.frozen? ⟨g, 0, none⟩ = false := by simp [World.frozen?, ht]
  have hlt : 0 < w.heap.size := World.block_lt_of_cell? w _ hg
  have n8 := fa_isNilF ⟨w.heap.size, 0, none⟩ ⟨g, 0, none⟩ ((w.alloc (.cells #[.pointer (some ⟨g, 0, none⟩)] 42)).alloc (.cells #[.pointer (some ⟨5, 42, none⟩), .pointer (some ⟨w.heap.size, 0, none⟩), .int .u64 150] 62)) (by rw [World.cell?_alloc_lt _ _ ⟨w.heap.size, 0, none⟩ (by simp)]; simp)
  have hg2 : ((w.alloc (.cells #[.pointer (some ⟨g, 0, none⟩)] 42)).alloc (.cells #[.pointer (some ⟨5, 42, none⟩), .pointer (some ⟨w.heap.size, 0, none⟩), .int .u64 150] 62)).cell? ⟨0, 0, none⟩ = some (.iface 81 (.agg #[.pointer (some ⟨5, 24, none⟩)])) := by
    rw [World.cell?_alloc_lt _ _ ⟨0, 0, none⟩ (by simp), World.cell?_alloc_lt _ _ ⟨0, 0, none⟩ hlt]; exact hg
  clear hg
  go_enter Tryd.func21, Tryd.ntmps21
  go_wp2_with (first | (go_at_call 35; refine (fa_asF _ _ x old _ (by rw [World.cell?_alloc_lt _ _ ⟨g, 0, none⟩ (by simp; omega), World.cell?_alloc_lt _ _ ⟨g, 0, none⟩ htl]; exact ht0) (by rw [World.frozen?_alloc_old _ _ ⟨g, 0, none⟩ (by simp; omega), World.frozen?_alloc_old _ _ ⟨g, 0, none⟩ (Nat.ne_of_lt htl)]; exact hf0) (by rw [World.cell?_alloc_lt _ _ ⟨w.heap.size, 0, none⟩ (by simp)]; simp)).mono ?_; rintro e w' ⟨rfl, rfl⟩) | go_in)
  go_ret
  exact ⟨rfl, grown_set htl, set_grown htl ht⟩

/-- errors.As, a fault's variable and a code: nothing. -/
theorem as_FE (c : Int) (g : Nat) (old : Value) (w : World) (hg : w.cell? ⟨0, 0, none⟩ = some (.iface 81 (.agg #[.pointer (some ⟨5, 24, none⟩)]))) (ht : w.heap[g]? = some (.cells #[old] 40 (0, 0))) :
    Calls Tryd.prog 21 #[.iface 31 (.int .i64 c), .iface 42 (.pointer (some ⟨g, 0, none⟩))] w fun e w' => e = .returned (.bool false) ∧ Below w.heap.size w w' := by
  have h_f32 := @run_callFunc_extern Tryd.prog 32 _ (fun args => ReflectliteValue.unpack (args.getD 0 (.tuple #[]))) Tryd.func32 (by kernel_rfl) (by kernel_rfl) (by kernel_rfl) (by kernel_rfl)
  have h_f33 := @run_callFunc_extern Tryd.prog 33 _ (ReflectliteValue.methodAny (ReflectliteValue.valueError "reflectlite.Value.Type" 0) (fun t _ _ _ => ReflectliteType.toType t)) Tryd.func33 (by kernel_rfl) (by kernel_rfl) (by kernel_rfl) (by kernel_rfl)
  have h_f34 := @run_callFunc_extern Tryd.prog 34 _ (ReflectliteValue.method (ReflectliteValue.valueError "reflectlite.Value.IsNil" 0) ReflectliteValue.isNil) Tryd.func34 (by kernel_rfl) (by kernel_rfl) (by kernel_rfl) (by kernel_rfl)
  have h_fKind := @run_callFunc_extern Tryd.prog 74 _ (ReflectliteType.abiMethod fun t => do pure (.int .u8 (← Rtype.kind t))) Tryd.func74 (by kernel_rfl) (by kernel_rfl) (by kernel_rfl) (by kernel_rfl)
  have h_fElem := @run_callFunc_extern Tryd.prog 85 _ (ReflectliteType.method ReflectliteType.elem) Tryd.func85 (by kernel_rfl) (by kernel_rfl) (by kernel_rfl) (by kernel_rfl)
  have h_fImpl := @run_callFunc_extern Tryd.prog 86 _ (ReflectliteType.relation "Implements" ReflectliteType.implements_) Tryd.func86 (by kernel_rfl) (by kernel_rfl) (by kernel_rfl) (by kernel_rfl)
  have f6 := fa_valueOfF
  have f7 := fa_typeF
  have mK := fa_methodKind
  have mE := fa_methodElem
  have mI := fa_methodImplements
  have k1 := fa_kindPF
  have k2 := fa_kindF
  have e1 := fa_elemF
  have i1 := fa_implementsF
  have htl : g < w.heap.size := (Array.getElem?_eq_some_iff.1 ht).1
  have ht0 : w.cell? ⟨g, 0, none⟩ = some old := cell_of_row w g 0 _ _ (0, 0) ht
  have hf0 : w.frozen? ⟨g, 0, none⟩ = false := by simp [World.frozen?, ht]
  have hlt : 0 < w.heap.size := World.block_lt_of_cell? w _ hg
  have n8 := fa_isNilF ⟨w.heap.size, 0, none⟩ ⟨g, 0, none⟩ ((w.alloc (.cells #[.pointer (some ⟨g, 0, none⟩)] 42)).alloc (.cells #[.pointer (some ⟨5, 42, none⟩), .pointer (some ⟨w.heap.size, 0, none⟩), .int .u64 150] 62)) (by rw [World.cell?_alloc_lt _ _ ⟨w.heap.size, 0, none⟩ (by simp)]; simp)
  have hg2 : ((w.alloc (.cells #[.pointer (some ⟨g, 0, none⟩)] 42)).alloc (.cells #[.pointer (some ⟨5, 42, none⟩), .pointer (some ⟨w.heap.size, 0, none⟩), .int .u64 150] 62)).cell? ⟨0, 0, none⟩ = some (.iface 81 (.agg #[.pointer (some ⟨5, 24, none⟩)])) := by
    rw [World.cell?_alloc_lt _ _ ⟨0, 0, none⟩ (by simp), World.cell?_alloc_lt _ _ ⟨0, 0, none⟩ hlt]; exact hg
  clear hg
  go_enter Tryd.func21, Tryd.ntmps21
  go_wp2_with (first | (go_at_call 35; refine (fa_asFE _ _ c _).mono ?_; rintro e w' ⟨rfl, rfl⟩) | go_in)
  go_ret
  exact ⟨rfl, (((Below.refl _ _).alloc (Nat.le_refl _) _).alloc (by simp) _).alloc (by simp; omega) _⟩

/-- errors.As, a code's variable: the code. -/
theorem as_E (c : Int) (v0 : Value) (ws : List ByteArray) (B : Nat) (g : Nat) (old : Value) (w : World) (hg : w.cell? ⟨0, 0, none⟩ = some (.iface 81 (.agg #[.pointer (some ⟨5, 24, none⟩)]))) (ht : w.heap[g]? = some (.cells #[old] 31 (0, 0))) (hC : Ch w ws B c v0) (hB : B ≤ w.heap.size) :
    Calls Tryd.prog 21 #[v0, .iface 58 (.pointer (some ⟨g, 0, none⟩))] w fun e w' => e = .returned (.bool true) ∧ w.grownBy w' (some g) ∧ w'.heap[g]? = some (.cells #[.int .i64 c] 31 (0, 0)) := by
  have h_f32 := @run_callFunc_extern Tryd.prog 32 _ (fun args => ReflectliteValue.unpack (args.getD 0 (.tuple #[]))) Tryd.func32 (by kernel_rfl) (by kernel_rfl) (by kernel_rfl) (by kernel_rfl)
  have h_f33 := @run_callFunc_extern Tryd.prog 33 _ (ReflectliteValue.methodAny (ReflectliteValue.valueError "reflectlite.Value.Type" 0) (fun t _ _ _ => ReflectliteType.toType t)) Tryd.func33 (by kernel_rfl) (by kernel_rfl) (by kernel_rfl) (by kernel_rfl)
  have h_f34 := @run_callFunc_extern Tryd.prog 34 _ (ReflectliteValue.method (ReflectliteValue.valueError "reflectlite.Value.IsNil" 0) ReflectliteValue.isNil) Tryd.func34 (by kernel_rfl) (by kernel_rfl) (by kernel_rfl) (by kernel_rfl)
  have h_fKind := @run_callFunc_extern Tryd.prog 74 _ (ReflectliteType.abiMethod fun t => do pure (.int .u8 (← Rtype.kind t))) Tryd.func74 (by kernel_rfl) (by kernel_rfl) (by kernel_rfl) (by kernel_rfl)
  have h_fElem := @run_callFunc_extern Tryd.prog 85 _ (ReflectliteType.method ReflectliteType.elem) Tryd.func85 (by kernel_rfl) (by kernel_rfl) (by kernel_rfl) (by kernel_rfl)
  have h_fImpl := @run_callFunc_extern Tryd.prog 86 _ (ReflectliteType.relation "Implements" ReflectliteType.implements_) Tryd.func86 (by kernel_rfl) (by kernel_rfl) (by kernel_rfl) (by kernel_rfl)
  have f6 := fa_valueOfE
  have f7 := fa_typeE
  have mK := fa_methodKind
  have mE := fa_methodElem
  have mI := fa_methodImplements
  have k1 := fa_kindPE
  have k2 := fa_kindE
  have e1 := fa_elemE
  have i1 := fa_implementsE
  have htl : g < w.heap.size := (Array.getElem?_eq_some_iff.1 ht).1
  have ht0 : w.cell? ⟨g, 0, none⟩ = some old := cell_of_row w g 0 _ _ (0, 0) ht
  have hf0 : w.frozen? ⟨g, 0, none⟩ = false := by simp [World.frozen?, ht]
  have hlt : 0 < w.heap.size := World.block_lt_of_cell? w _ hg
  have n8 := fa_isNilE ⟨w.heap.size, 0, none⟩ ⟨g, 0, none⟩ ((w.alloc (.cells #[.pointer (some ⟨g, 0, none⟩)] 58)).alloc (.cells #[.pointer (some ⟨5, 58, none⟩), .pointer (some ⟨w.heap.size, 0, none⟩), .int .u64 150] 62)) (by rw [World.cell?_alloc_lt _ _ ⟨w.heap.size, 0, none⟩ (by simp)]; simp)
  have hg2 : ((w.alloc (.cells #[.pointer (some ⟨g, 0, none⟩)] 58)).alloc (.cells #[.pointer (some ⟨5, 58, none⟩), .pointer (some ⟨w.heap.size, 0, none⟩), .int .u64 150] 62)).cell? ⟨0, 0, none⟩ = some (.iface 81 (.agg #[.pointer (some ⟨5, 24, none⟩)])) := by
    rw [World.cell?_alloc_lt _ _ ⟨0, 0, none⟩ (by simp), World.cell?_alloc_lt _ _ ⟨0, 0, none⟩ hlt]; exact hg
  obtain ⟨tx0, y0, rfl⟩ := hC.iface
  clear hg
  go_enter Tryd.func21, Tryd.ntmps21
  go_wp2_with (first | (go_at_call 35; refine (fa_asCh _ _ c old (.iface tx0 y0) ws B _ (by rw [World.cell?_alloc_lt _ _ ⟨g, 0, none⟩ (by simp; omega), World.cell?_alloc_lt _ _ ⟨g, 0, none⟩ htl]; exact ht0) (by rw [World.frozen?_alloc_old _ _ ⟨g, 0, none⟩ (by simp; omega), World.frozen?_alloc_old _ _ ⟨g, 0, none⟩ (Nat.ne_of_lt htl)]; exact hf0) (by rw [World.cell?_alloc_lt _ _ ⟨w.heap.size, 0, none⟩ (by simp)]; simp) (hC.below (B' := w.heap.size) (((Below.refl _ _).alloc (Nat.le_refl _) _).alloc (by simp) _) hB) (by simp; omega)).mono ?_; rintro e w' ⟨rfl, rfl⟩) | go_in)
  go_ret
  exact ⟨rfl, grown_set htl, set_grown htl ht⟩

theorem as_nil (t : Value) (w : World) : Calls Tryd.prog 21 #[.nilIface, t] w fun e w' => e = .returned (.bool false) ∧ w' = w := by
  go_enter Tryd.func21, Tryd.ntmps21
  go_wp2
  go_ret
  exact ⟨rfl, rfl⟩

end Go.Proofs.YtegmdjfohlomnaaDoor
