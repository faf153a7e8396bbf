/- errors.Is, and the small functions of the faults: a code in so many faults. No condition. -/
import Derived.Test.YtjinbhnpcdlkiaaGreatDoorMa23
import Derived.Test.YtjinbhnpcdlkiaaGreatDoorMa18
namespace Go.Proofs.YtjinbhnpcdlkiaaGreatDoor
open Go.RowKit Go.Extern.Stop Go.Stop Go.Extern

/-- An error: a code in so many faults, the outermost first; all of them lie below B. -/
def Ch (W : World) : List ByteArray → Nat → Int → Value → Prop
  | [], _, c, v => v = .iface 49 (.int .i64 c)
  | s :: r, B, c, v => ∃ p u, p < B ∧ v = .iface 81 (.pointer (some ⟨p, 0, none⟩)) ∧ W.heap[p]? = some (.cells #[.string s, u] 84 (0, 0)) ∧ Ch W r p c u
theorem Ch.keep {W W' : World} : ∀ {ws : List ByteArray} {B : Nat} {c : Int} {v : Value}, Ch W ws B c v → (∀ k, k < B → W'.heap[k]? = W.heap[k]?) → Ch W' ws B c v
  | [], _, _, _, h, _ => h
  | _ :: _, B, _, _, ⟨p, u, hp, hv, hh, hr⟩, hk => ⟨p, u, hp, hv, (hk p hp).trans hh, Ch.keep hr fun k hkp => hk k (by omega)⟩
theorem Ch.mono {W : World} : ∀ {ws : List ByteArray} {B B' : Nat} {c : Int} {v : Value}, Ch W ws B c v → B ≤ B' → Ch W ws B' c v
  | [], _, _, _, _, h, _ => h
  | _ :: _, _, _, _, _, ⟨p, u, hp, hv, hh, hr⟩, hB => ⟨p, u, by omega, hv, hh, hr⟩
theorem Ch.below {W W' : World} {ws : List ByteArray} {B B' : Nat} {c : Int} {v : Value} (h : Ch W ws B c v) (hb : Below B' W W') (hB : B ≤ B') : Ch W' ws B c v :=
  h.keep fun k hk => hb.block k (by omega)
theorem Ch.grown {W W' : World} {ws : List ByteArray} {B g : Nat} {c : Int} {v : Value} (h : Ch W ws B c v) (hg : W.grownBy W' (some g)) (hB : B ≤ W.heap.size) (hB2 : B ≤ g) : Ch W' ws B c v :=
  h.keep fun k hk => hg.block k (by omega) (by intro e; injection e with e; omega)
def depthV : Value → Nat
  | .iface _ (.pointer (some a)) => a.block + 1
  | _ => 0

/-- errors.as: the error is of the type that is asked for. -/
theorem fa_asF (t vb : Addr) (x : Addr) (old : Value) (w : World) (ht : w.cell? t = some old) (hf : w.frozen? t = false) (hv : w.cell? vb = some (.pointer (some t))) :
    Calls Tryz.prog 50 #[.iface 81 (.pointer (some x)), .iface 82 (.pointer (some t)), .agg #[.pointer (some ⟨2, 82, none⟩), .pointer (some vb), .int .u64 150], .iface 136 (.agg #[.pointer (some ⟨2, 81, none⟩)])] w fun e w' => e = .returned (.bool true) ∧ w' = ((w.alloc (.cells #[.pointer (some ⟨2, 82, none⟩), .pointer (some vb), .int .u64 150] 108)).alloc (.cells #[.pointer (some x)] 81)).setCell t (.pointer (some x)) := by
  have h_f32 := @run_callFunc_extern Tryz.prog 47 _ (fun args => ReflectliteValue.unpack (args.getD 0 (.tuple #[]))) Tryz.func47 (by kernel_rfl) (by kernel_rfl) (by kernel_rfl) (by kernel_rfl)
  have h_fTypeOf := @run_callFunc_extern Tryz.prog 71 _ ReflectliteType.typeOf Tryz.func71 (by kernel_rfl) (by kernel_rfl) (by kernel_rfl) (by kernel_rfl)
  have h_fAssign := @run_callFunc_extern Tryz.prog 128 _ (ReflectliteType.relation "AssignableTo" ReflectliteType.assignableTo) Tryz.func128 (by kernel_rfl) (by kernel_rfl) (by kernel_rfl) (by kernel_rfl)
  have h_f42 := @run_callFunc_extern Tryz.prog 72 _ (ReflectliteValue.method (ReflectliteValue.valueError "reflectlite.Value.Elem" 0) ReflectliteValue.elem) Tryz.func72 (by kernel_rfl) (by kernel_rfl) (by kernel_rfl) (by kernel_rfl)
  have h_f43 := @run_callFunc_extern Tryz.prog 73 _ ReflectliteValue.set Tryz.func73 (by kernel_rfl) (by kernel_rfl) (by kernel_rfl) (by kernel_rfl)
  have tF := fa_typeOfF
  have tE := fa_typeOfE
  have mA := fa_methodAssignableTo
  have a1 := fa_assignFF
  have a2 := fa_assignFE
  have v1 := fa_valF
  have n1 := fa_noAsF
  have n2 := fa_noAsE
  have u1 := fa_hasUnwrapF
  have u2 := fa_noUnwrapE
  have u3 := fa_noUnwrapsE
  have mU := fa_methodUnwrap
  have htl : t.block < w.heap.size := World.block_lt_of_cell? w t ht
  have hvl : vb.block < w.heap.size := World.block_lt_of_cell? w vb hv
  have el := fa_elemVF vb t (w.alloc (.cells #[.pointer (some ⟨2, 82, none⟩), .pointer (some vb), .int .u64 150] 108)) (by rw [World.cell?_alloc_lt _ _ vb hvl]; exact hv)
  have el2 := fun o => fa_elemVF vb t ((w.alloc (.cells #[.pointer (some ⟨2, 82, none⟩), .pointer (some vb), .int .u64 150] 108)).alloc o) (by rw [World.cell?_alloc_lt _ _ vb (by simp; omega), World.cell?_alloc_lt _ _ vb hvl]; exact hv)
  have st := fa_setF t ⟨w.heap.size + 1, 0, none⟩ x old ((w.alloc (.cells #[.pointer (some ⟨2, 82, none⟩), .pointer (some vb), .int .u64 150] 108)).alloc (.cells #[.pointer (some x)] 81))
    (by rw [World.cell?_alloc_at _ _ _ _ (by simp)]; rfl)
    (by rw [World.cell?_alloc_lt _ _ t (by simp; omega), World.cell?_alloc_lt _ _ t htl]; exact ht)
    (by rw [World.frozen?_alloc_old _ _ t (by simp; omega), World.frozen?_alloc_old _ _ t (Nat.ne_of_lt htl)]; exact hf)
  go_enter Tryz.func50, Tryz.ntmps50
  go_wp2
  refine wp_loop_rounds 1 ?_
  rw [rounds_succ]
  go_wp2
  go_ret
  exact ⟨rfl, rfl⟩

/-- errors.as: the error is of the type that is asked for. -/
theorem fa_asE (t vb : Addr) (x : Int) (old : Value) (w : World) (ht : w.cell? t = some old) (hf : w.frozen? t = false) (hv : w.cell? vb = some (.pointer (some t))) :
    Calls Tryz.prog 50 #[.iface 49 (.int .i64 x), .iface 78 (.pointer (some t)), .agg #[.pointer (some ⟨2, 78, none⟩), .pointer (some vb), .int .u64 150], .iface 136 (.agg #[.pointer (some ⟨2, 49, none⟩)])] w fun e w' => e = .returned (.bool true) ∧ w' = ((w.alloc (.cells #[.pointer (some ⟨2, 78, none⟩), .pointer (some vb), .int .u64 150] 108)).alloc (.cells #[.int .i64 x] 49)).setCell t (.int .i64 x) := by
  have h_f32 := @run_callFunc_extern Tryz.prog 47 _ (fun args => ReflectliteValue.unpack (args.getD 0 (.tuple #[]))) Tryz.func47 (by kernel_rfl) (by kernel_rfl) (by kernel_rfl) (by kernel_rfl)
  have h_fTypeOf := @run_callFunc_extern Tryz.prog 71 _ ReflectliteType.typeOf Tryz.func71 (by kernel_rfl) (by kernel_rfl) (by kernel_rfl) (by kernel_rfl)
  have h_fAssign := @run_callFunc_extern Tryz.prog 128 _ (ReflectliteType.relation "AssignableTo" ReflectliteType.assignableTo) Tryz.func128 (by kernel_rfl) (by kernel_rfl) (by kernel_rfl) (by kernel_rfl)
  have h_f42 := @run_callFunc_extern Tryz.prog 72 _ (ReflectliteValue.method (ReflectliteValue.valueError "reflectlite.Value.Elem" 0) ReflectliteValue.elem) Tryz.func72 (by kernel_rfl) (by kernel_rfl) (by kernel_rfl) (by kernel_rfl)
  have h_f43 := @run_callFunc_extern Tryz.prog 73 _ ReflectliteValue.set Tryz.func73 (by kernel_rfl) (by kernel_rfl) (by kernel_rfl) (by kernel_rfl)
  have tF := fa_typeOfF
  have tE := fa_typeOfE
  have mA := fa_methodAssignableTo
  have a1 := fa_assignEF
  have a2 := fa_assignEE
  have v1 := fa_valE
  have n1 := fa_noAsF
  have n2 := fa_noAsE
  have u1 := fa_hasUnwrapF
  have u2 := fa_noUnwrapE
  have u3 := fa_noUnwrapsE
  have mU := fa_methodUnwrap
  have htl : t.block < w.heap.size := World.block_lt_of_cell? w t ht
  have hvl : vb.block < w.heap.size := World.block_lt_of_cell? w vb hv
  have el := fa_elemVE vb t (w.alloc (.cells #[.pointer (some ⟨2, 78, none⟩), .pointer (some vb), .int .u64 150] 108)) (by rw [World.cell?_alloc_lt _ _ vb hvl]; exact hv)
  have el2 := fun o => fa_elemVE vb t ((w.alloc (.cells #[.pointer (some ⟨2, 78, none⟩), .pointer (some vb), .int .u64 150] 108)).alloc o) (by rw [World.cell?_alloc_lt _ _ vb (by simp; omega), World.cell?_alloc_lt _ _ vb hvl]; exact hv)
  have st := fa_setE t ⟨w.heap.size + 1, 0, none⟩ x old ((w.alloc (.cells #[.pointer (some ⟨2, 78, none⟩), .pointer (some vb), .int .u64 150] 108)).alloc (.cells #[.int .i64 x] 49))
    (by rw [World.cell?_alloc_at _ _ _ _ (by simp)]; rfl)
    (by rw [World.cell?_alloc_lt _ _ t (by simp; omega), World.cell?_alloc_lt _ _ t htl]; exact ht)
    (by rw [World.frozen?_alloc_old _ _ t (by simp; omega), World.frozen?_alloc_old _ _ t (Nat.ne_of_lt htl)]; exact hf)
  go_enter Tryz.func50, Tryz.ntmps50
  go_wp2
  refine wp_loop_rounds 1 ?_
  rw [rounds_succ]
  go_wp2
  go_ret
  exact ⟨rfl, rfl⟩

theorem Ch.depth {W : World} : ∀ {ws : List ByteArray} {B : Nat} {c : Int} {v : Value}, Ch W ws B c v → depthV v ≤ B
  | [], _, _, _, h => by rw [show _ = _ from h]; exact Nat.zero_le _
  | _ :: _, _, _, _, ⟨_, _, hp, hv, _, _⟩ => by rw [hv]; exact hp
theorem Ch.iface {W : World} : ∀ {ws : List ByteArray} {B : Nat} {c : Int} {v : Value}, Ch W ws B c v → ∃ t y, v = .iface t y
  | [], _, _, _, h => ⟨_, _, h⟩
  | _ :: _, _, _, _, ⟨_, _, _, hv, _, _⟩ => ⟨_, _, hv⟩
/-- errors.as at a fault's variable: a code is none. -/
theorem fa_asFE (t vb : Addr) (c : Int) (w : World) :
    Calls Tryz.prog 50 #[.iface 49 (.int .i64 c), .iface 82 (.pointer (some t)), .agg #[.pointer (some ⟨2, 82, none⟩), .pointer (some vb), .int .u64 150], .iface 136 (.agg #[.pointer (some ⟨2, 81, none⟩)])] w fun e w' => e = .returned (.bool false) ∧ w' = (w.alloc (.cells #[.pointer (some ⟨2, 82, none⟩), .pointer (some vb), .int .u64 150] 108)) := by
  have h_fTypeOf := @run_callFunc_extern Tryz.prog 71 _ ReflectliteType.typeOf Tryz.func71 (by kernel_rfl) (by kernel_rfl) (by kernel_rfl) (by kernel_rfl)
  have h_fAssign := @run_callFunc_extern Tryz.prog 128 _ (ReflectliteType.relation "AssignableTo" ReflectliteType.assignableTo) Tryz.func128 (by kernel_rfl) (by kernel_rfl) (by kernel_rfl) (by kernel_rfl)
  have tE := fa_typeOfE
  have mA := fa_methodAssignableTo
  have a2 := fa_assignFE
  have n2 := fa_noAsE
  have u2 := fa_noUnwrapE
  have u3 := fa_noUnwrapsE
  go_enter Tryz.func50, Tryz.ntmps50
  go_wp2
  refine wp_loop_rounds 1 ?_
  rw [rounds_succ]
  go_wp2
  go_ret
  exact ⟨rfl, rfl⟩

/-- errors.as at a code's variable, however many faults there are. -/
theorem fa_asCh (t vb : Addr) (c : Int) (old v0 : Value) (ws : List ByteArray) (B : Nat) (w : World) (ht : w.cell? t = some old) (hf : w.frozen? t = false) (hv : w.cell? vb = some (.pointer (some t))) (hC : Ch w ws B c v0) (hB : B ≤ w.heap.size) :
    Calls Tryz.prog 50 #[v0, .iface 78 (.pointer (some t)), .agg #[.pointer (some ⟨2, 78, none⟩), .pointer (some vb), .int .u64 150], .iface 136 (.agg #[.pointer (some ⟨2, 49, none⟩)])] w fun e w' => e = .returned (.bool true) ∧ w' = ((w.alloc (.cells #[.pointer (some ⟨2, 78, none⟩), .pointer (some vb), .int .u64 150] 108)).alloc (.cells #[.int .i64 c] 49)).setCell t (.int .i64 c) := by
  have h_f32 := @run_callFunc_extern Tryz.prog 47 _ (fun args => ReflectliteValue.unpack (args.getD 0 (.tuple #[]))) Tryz.func47 (by kernel_rfl) (by kernel_rfl) (by kernel_rfl) (by kernel_rfl)
  have h_fTypeOf := @run_callFunc_extern Tryz.prog 71 _ ReflectliteType.typeOf Tryz.func71 (by kernel_rfl) (by kernel_rfl) (by kernel_rfl) (by kernel_rfl)
  have h_fAssign := @run_callFunc_extern Tryz.prog 128 _ (ReflectliteType.relation "AssignableTo" ReflectliteType.assignableTo) Tryz.func128 (by kernel_rfl) (by kernel_rfl) (by kernel_rfl) (by kernel_rfl)
  have h_f42 := @run_callFunc_extern Tryz.prog 72 _ (ReflectliteValue.method (ReflectliteValue.valueError "reflectlite.Value.Elem" 0) ReflectliteValue.elem) Tryz.func72 (by kernel_rfl) (by kernel_rfl) (by kernel_rfl) (by kernel_rfl)
  have h_f43 := @run_callFunc_extern Tryz.prog 73 _ ReflectliteValue.set Tryz.func73 (by kernel_rfl) (by kernel_rfl) (by kernel_rfl) (by kernel_rfl)
  have tF := fa_typeOfF
  have tE := fa_typeOfE
  have mA := fa_methodAssignableTo
  have a1 := fa_assignEF
  have a2 := fa_assignEE
  have v1 := fa_valE
  have n1 := fa_noAsF
  have u1 := fa_hasUnwrapF
  have mU := fa_methodUnwrap
  have htl : t.block < w.heap.size := World.block_lt_of_cell? w t ht
  have hvl : vb.block < w.heap.size := World.block_lt_of_cell? w vb hv
  have el := fa_elemVE vb t (w.alloc (.cells #[.pointer (some ⟨2, 78, none⟩), .pointer (some vb), .int .u64 150] 108)) (by rw [World.cell?_alloc_lt _ _ vb hvl]; exact hv)
  have st := fa_setE t ⟨w.heap.size + 1, 0, none⟩ c old ((w.alloc (.cells #[.pointer (some ⟨2, 78, none⟩), .pointer (some vb), .int .u64 150] 108)).alloc (.cells #[.int .i64 c] 49))
    (by rw [World.cell?_alloc_at _ _ _ _ (by simp)]; rfl)
    (by rw [World.cell?_alloc_lt _ _ t (by simp; omega), World.cell?_alloc_lt _ _ t htl]; exact ht)
    (by rw [World.frozen?_alloc_old _ _ t (by simp; omega), World.frozen?_alloc_old _ _ t (Nat.ne_of_lt htl)]; exact hf)
  go_enter Tryz.func50, Tryz.ntmps50
  go_wp2
  go_loopw [0] (fun v wr => wr = (w.alloc (.cells #[.pointer (some ⟨2, 78, none⟩), .pointer (some vb), .int .u64 150] 108)) ∧ ∃ ws' B', B' ≤ B ∧ Ch w ws' B' c v) (fun v _ => depthV v)
  case atStart => exact ⟨rfl, ws, B, Nat.le_refl _, hC⟩
  case round =>
    obtain ⟨rfl, ws', B', hB', hCh⟩ := hrel
    cases ws' with
    | nil =>
      obtain rfl := hCh
      go_wp2
      go_ret
      exact ⟨rfl, rfl⟩
    | cons s r =>
      obtain ⟨p, u, hp, rfl, hh, hr⟩ := hCh
      have hd := hr.depth
      obtain ⟨tu, yu, rfl⟩ := hr.iface
      have hc : (w.alloc (.cells #[.pointer (some ⟨2, 78, none⟩), .pointer (some vb), .int .u64 150] 108)).cell? ⟨p, 1, none⟩ = some (.iface tu yu) := by
        rw [World.cell?_alloc_lt _ _ ⟨p, 1, none⟩ (show p < w.heap.size by omega), cell_of_row w p 1 _ _ (0, 0) hh]; rfl
      go_wp2
      go_roundw
      case rel => exact ⟨trivial, r, p, by omega, hr⟩
      case measure => exact Nat.lt_succ_of_le hd

theorem grown_set {w : World} {g : Nat} {u : Value} {o1 o2 o3 o4 : Obj} (_hg : g < w.heap.size) : w.grownBy (((((w.alloc o1).alloc o2).alloc o3).alloc o4).setCell ⟨g, 0, none⟩ u) (some g) :=
  have hb : Below w.heap.size w ((((w.alloc o1).alloc o2).alloc o3).alloc o4) := ((((Below.refl _ _).alloc (Nat.le_refl _) _).alloc (by simp) _).alloc (by simp; omega) _).alloc (by simp; omega) _
  ⟨rfl, rfl, rfl, by simp [World.setCell]; omega, fun k hk hne => by
    rw [Below.heap_setCell _ ⟨g, 0, none⟩ u k (fun e => hne (by rw [e]))]
    exact hb.block k hk⟩
theorem set_grown {w : World} {g : Nat} {t : TypeId} {old u : Value} {o1 o2 o3 o4 : Obj} (hg : g < w.heap.size) (h : w.heap[g]? = some (.cells #[old] t (0, 0))) :
    (((((w.alloc o1).alloc o2).alloc o3).alloc o4).setCell ⟨g, 0, none⟩ u).heap[g]? = some (.cells #[u] t (0, 0)) := by
  have hb : Below w.heap.size w ((((w.alloc o1).alloc o2).alloc o3).alloc o4) := ((((Below.refl _ _).alloc (Nat.le_refl _) _).alloc (by simp) _).alloc (by simp; omega) _).alloc (by simp; omega) _
  have h2 := (hb.block g hg).trans h
  simp [World.setCell, Array.getElem?_modify, h2]

/-- errors.As, a fault's variable and a fault: the fault. -/
theorem as_F (x : Addr) (g : Nat) (old : Value) (w : World) (hg : w.cell? ⟨0, 0, none⟩ = some (.iface 136 (.agg #[.pointer (some ⟨2, 41, none⟩)]))) (ht : w.heap[g]? = some (.cells #[old] 81 (0, 0))) :
    Calls Tryz.prog 28 #[.iface 81 (.pointer (some x)), .iface 82 (.pointer (some ⟨g, 0, none⟩))] w fun e w' => e = .returned (.bool true) ∧ w.grownBy w' (some g) ∧ w'.heap[g]? = some (.cells #[.pointer (some x)] 81 (0, 0)) := by
  have h_f32 := @run_callFunc_extern Tryz.prog 47 _ (fun args => ReflectliteValue.unpack (args.getD 0 (.tuple #[]))) Tryz.func47 (by kernel_rfl) (by kernel_rfl) (by kernel_rfl) (by kernel_rfl)
  have h_f33 := @run_callFunc_extern Tryz.prog 48 _ (ReflectliteValue.methodAny (ReflectliteValue.valueError "reflectlite.Value.Type" 0) (fun t _ _ _ => ReflectliteType.toType t)) Tryz.func48 (by kernel_rfl) (by kernel_rfl) (by kernel_rfl) (by kernel_rfl)
  have h_f34 := @run_callFunc_extern Tryz.prog 49 _ (ReflectliteValue.method (ReflectliteValue.valueError "reflectlite.Value.IsNil" 0) ReflectliteValue.isNil) Tryz.func49 (by kernel_rfl) (by kernel_rfl) (by kernel_rfl) (by kernel_rfl)
  have h_fKind := @run_callFunc_extern Tryz.prog 118 _ (ReflectliteType.abiMethod fun t => do pure (.int .u8 (← Rtype.kind t))) Tryz.func118 (by kernel_rfl) (by kernel_rfl) (by kernel_rfl) (by kernel_rfl)
  have h_fElem := @run_callFunc_extern Tryz.prog 130 _ (ReflectliteType.method ReflectliteType.elem) Tryz.func130 (by kernel_rfl) (by kernel_rfl) (by kernel_rfl) (by kernel_rfl)
  have h_fImpl := @run_callFunc_extern Tryz.prog 131 _ (ReflectliteType.relation "Implements" ReflectliteType.implements_) Tryz.func131 (by kernel_rfl) (by kernel_rfl) (by kernel_rfl) (by kernel_rfl)
  have f6 := fa_valueOfF
  have f7 := fa_typeF
  have mK := fa_methodKind
  have mE := fa_methodElem
  have mI := fa_methodImplements
  have k1 := fa_kindPF
  have k2 := fa_kindF
  have e1 := fa_elemF
  have i1 := fa_implementsF
  have htl : g < w.heap.size := (Array.getElem?_eq_some_iff.1 ht).1
  have ht0 : w.cell? ⟨g, 0, none⟩ = some old := cell_of_row w g 0 _ _ (0, 0) ht
  have hf0 : w.frozen? ⟨g, 0, none⟩ = false := by simp [World.frozen?, ht]
  have hlt : 0 < w.heap.size := World.block_lt_of_cell? w _ hg
  have n8 := fa_isNilF ⟨w.heap.size, 0, none⟩ ⟨g, 0, none⟩ ((w.alloc (.cells #[.pointer (some ⟨g, 0, none⟩)] 82)).alloc (.cells #[.pointer (some ⟨2, 82, none⟩), .pointer (some ⟨w.heap.size, 0, none⟩), .int .u64 150] 108)) (by rw [World.cell?_alloc_lt _ _ ⟨w.heap.size, 0, none⟩ (by simp)]; simp)
  have hg2 : ((w.alloc (.cells #[.pointer (some ⟨g, 0, none⟩)] 82)).alloc (.cells #[.pointer (some ⟨2, 82, none⟩), .pointer (some ⟨w.heap.size, 0, none⟩), .int .u64 150] 108)).cell? ⟨0, 0, none⟩ = some (.iface 136 (.agg #[.pointer (some ⟨2, 41, none⟩)])) := by
    rw [World.cell?_alloc_lt _ _ ⟨0, 0, none⟩ (by simp), World.cell?_alloc_lt _ _ ⟨0, 0, none⟩ hlt]; exact hg
  clear hg
  go_enter Tryz.func28, Tryz.ntmps28
  go_wp2_with (first | (go_at_call 50; refine (fa_asF _ _ x old _ (by rw [World.cell?_alloc_lt _ _ ⟨g, 0, none⟩ (by simp; omega), World.cell?_alloc_lt _ _ ⟨g, 0, none⟩ htl]; exact ht0) (by rw [World.frozen?_alloc_old _ _ ⟨g, 0, none⟩ (by simp; omega), World.frozen?_alloc_old _ _ ⟨g, 0, none⟩ (Nat.ne_of_lt htl)]; exact hf0) (by rw [World.cell?_alloc_lt _ _ ⟨w.heap.size, 0, none⟩ (by simp)]; simp)).mono ?_; rintro e w' ⟨rfl, rfl⟩) | go_in)
  go_ret
  exact ⟨rfl, grown_set htl, set_grown htl ht⟩

/-- errors.As, a fault's variable and a code: nothing. -/
theorem as_FE (c : Int) (g : Nat) (old : Value) (w : World) (hg : w.cell? ⟨0, 0, none⟩ = some (.iface 136 (.agg #[.pointer (some ⟨2, 41, none⟩)]))) (ht : w.heap[g]? = some (.cells #[old] 81 (0, 0))) :
    Calls Tryz.prog 28 #[.iface 49 (.int .i64 c), .iface 82 (.pointer (some ⟨g, 0, none⟩))] w fun e w' => e = .returned (.bool false) ∧ Below w.heap.size w w' := by
  have h_f32 := @run_callFunc_extern Tryz.prog 47 _ (fun args => ReflectliteValue.unpack (args.getD 0 (.tuple #[]))) Tryz.func47 (by kernel_rfl) (by kernel_rfl) (by kernel_rfl) (by kernel_rfl)
  have h_f33 := @run_callFunc_extern Tryz.prog 48 _ (ReflectliteValue.methodAny (ReflectliteValue.valueError "reflectlite.Value.Type" 0) (fun t _ _ _ => ReflectliteType.toType t)) Tryz.func48 (by kernel_rfl) (by kernel_rfl) (by kernel_rfl) (by kernel_rfl)
  have h_f34 := @run_callFunc_extern Tryz.prog 49 _ (ReflectliteValue.method (ReflectliteValue.valueError "reflectlite.Value.IsNil" 0) ReflectliteValue.isNil) Tryz.func49 (by kernel_rfl) (by kernel_rfl) (by kernel_rfl) (by kernel_rfl)
  have h_fKind := @run_callFunc_extern Tryz.prog 118 _ (ReflectliteType.abiMethod fun t => do pure (.int .u8 (← Rtype.kind t))) Tryz.func118 (by kernel_rfl) (by kernel_rfl) (by kernel_rfl) (by kernel_rfl)
  have h_fElem := @run_callFunc_extern Tryz.prog 130 _ (ReflectliteType.method ReflectliteType.elem) Tryz.func130 (by kernel_rfl) (by kernel_rfl) (by kernel_rfl) (by kernel_rfl)
  have h_fImpl := @run_callFunc_extern Tryz.prog 131 _ (ReflectliteType.relation "Implements" ReflectliteType.implements_) Tryz.func131 (by kernel_rfl) (by kernel_rfl) (by kernel_rfl) (by kernel_rfl)
  have f6 := fa_valueOfF
  have f7 := fa_typeF
  have mK := fa_methodKind
  have mE := fa_methodElem
  have mI := fa_methodImplements
  have k1 := fa_kindPF
  have k2 := fa_kindF
  have e1 := fa_elemF
  have i1 := fa_implementsF
  have htl : g < w.heap.size := (Array.getElem?_eq_some_iff.1 ht).1
  have ht0 : w.cell? ⟨g, 0, none⟩ = some old := cell_of_row w g 0 _ _ (0, 0) ht
  have hf0 : w.frozen? ⟨g, 0, none⟩ = false := by simp [World.frozen?, ht]
  have hlt : 0 < w.heap.size := World.block_lt_of_cell? w _ hg
  have n8 := fa_isNilF ⟨w.heap.size, 0, none⟩ ⟨g, 0, none⟩ ((w.alloc (.cells #[.pointer (some ⟨g, 0, none⟩)] 82)).alloc (.cells #[.pointer (some ⟨2, 82, none⟩), .pointer (some ⟨w.heap.size, 0, none⟩), .int .u64 150] 108)) (by rw [World.cell?_alloc_lt _ _ ⟨w.heap.size, 0, none⟩ (by simp)]; simp)
  have hg2 : ((w.alloc (.cells #[.pointer (some ⟨g, 0, none⟩)] 82)).alloc (.cells #[.pointer (some ⟨2, 82, none⟩), .pointer (some ⟨w.heap.size, 0, none⟩), .int .u64 150] 108)).cell? ⟨0, 0, none⟩ = some (.iface 136 (.agg #[.pointer (some ⟨2, 41, none⟩)])) := by
    rw [World.cell?_alloc_lt _ _ ⟨0, 0, none⟩ (by simp), World.cell?_alloc_lt _ _ ⟨0, 0, none⟩ hlt]; exact hg
  clear hg
  go_enter Tryz.func28, Tryz.ntmps28
  go_wp2_with (first | (go_at_call 50; refine (fa_asFE _ _ c _).mono ?_; rintro e w' ⟨rfl, rfl⟩) | go_in)
  go_ret
  exact ⟨rfl, (((Below.refl _ _).alloc (Nat.le_refl _) _).alloc (by simp) _).alloc (by simp; omega) _⟩

/-- errors.As, a code's variable: the code. -/
theorem as_E (c : Int) (v0 : Value) (ws : List ByteArray) (B : Nat) (g : Nat) (old : Value) (w : World) (hg : w.cell? ⟨0, 0, none⟩ = some (.iface 136 (.agg #[.pointer (some ⟨2, 41, none⟩)]))) (ht : w.heap[g]? = some (.cells #[old] 49 (0, 0))) (hC : Ch w ws B c v0) (hB : B ≤ w.heap.size) :
    Calls Tryz.prog 28 #[v0, .iface 78 (.pointer (some ⟨g, 0, none⟩))] w fun e w' => e = .returned (.bool true) ∧ w.grownBy w' (some g) ∧ w'.heap[g]? = some (.cells #[.int .i64 c] 49 (0, 0)) := by
  have h_f32 := @run_callFunc_extern Tryz.prog 47 _ (fun args => ReflectliteValue.unpack (args.getD 0 (.tuple #[]))) Tryz.func47 (by kernel_rfl) (by kernel_rfl) (by kernel_rfl) (by kernel_rfl)
  have h_f33 := @run_callFunc_extern Tryz.prog 48 _ (ReflectliteValue.methodAny (ReflectliteValue.valueError "reflectlite.Value.Type" 0) (fun t _ _ _ => ReflectliteType.toType t)) Tryz.func48 (by kernel_rfl) (by kernel_rfl) (by kernel_rfl) (by kernel_rfl)
  have h_f34 := @run_callFunc_extern Tryz.prog 49 _ (ReflectliteValue.method (ReflectliteValue.valueError "reflectlite.Value.IsNil" 0) ReflectliteValue.isNil) Tryz.func49 (by kernel_rfl) (by kernel_rfl) (by kernel_rfl) (by kernel_rfl)
  have h_fKind := @run_callFunc_extern Tryz.prog 118 _ (ReflectliteType.abiMethod fun t => do pure (.int .u8 (← Rtype.kind t))) Tryz.func118 (by kernel_rfl) (by kernel_rfl) (by kernel_rfl) (by kernel_rfl)
  have h_fElem := @run_callFunc_extern Tryz.prog 130 _ (ReflectliteType.method ReflectliteType.elem) Tryz.func130 (by kernel_rfl) (by kernel_rfl) (by kernel_rfl) (by kernel_rfl)
  have h_fImpl := @run_callFunc_extern Tryz.prog 131 _ (ReflectliteType.relation "Implements" ReflectliteType.implements_) Tryz.func131 (by kernel_rfl) (by kernel_rfl) (by kernel_rfl) (by kernel_rfl)
  have f6 := fa_valueOfE
  have f7 := fa_typeE
  have mK := fa_methodKind
  have mE := fa_methodElem
  have mI := fa_methodImplements
  have k1 := fa_kindPE
  have k2 := fa_kindE
  have e1 := fa_elemE
  have i1 := fa_implementsE
  have htl : g < w.heap.size := (Array.getElem?_eq_some_iff.1 ht).1
  have ht0 : w.cell? ⟨g, 0, none⟩ = some old := cell_of_row w g 0 _ _ (0, 0) ht
  have hf0 : w.frozen? ⟨g, 0, none⟩ = false := by simp [World.frozen?, ht]
  have hlt : 0 < w.heap.size := World.block_lt_of_cell? w _ hg
  have n8 := fa_isNilE ⟨w.heap.size, 0, none⟩ ⟨g, 0, none⟩ ((w.alloc (.cells #[.pointer (some ⟨g, 0, none⟩)] 78)).alloc (.cells #[.pointer (some ⟨2, 78, none⟩), .pointer (some ⟨w.heap.size, 0, none⟩), .int .u64 150] 108)) (by rw [World.cell?_alloc_lt _ _ ⟨w.heap.size, 0, none⟩ (by simp)]; simp)
  have hg2 : ((w.alloc (.cells #[.pointer (some ⟨g, 0, none⟩)] 78)).alloc (.cells #[.pointer (some ⟨2, 78, none⟩), .pointer (some ⟨w.heap.size, 0, none⟩), .int .u64 150] 108)).cell? ⟨0, 0, none⟩ = some (.iface 136 (.agg #[.pointer (some ⟨2, 41, none⟩)])) := by
    rw [World.cell?_alloc_lt _ _ ⟨0, 0, none⟩ (by simp), World.cell?_alloc_lt _ _ ⟨0, 0, none⟩ hlt]; exact hg
  obtain ⟨tx0, y0, rfl⟩ := hC.iface
  clear hg
  go_enter Tryz.func28, Tryz.ntmps28
  go_wp2_with (first | (go_at_call 50; refine (fa_asCh _ _ c old (.iface tx0 y0) ws B _ (by rw [World.cell?_alloc_lt _ _ ⟨g, 0, none⟩ (by simp; omega), World.cell?_alloc_lt _ _ ⟨g, 0, none⟩ htl]; exact ht0) (by rw [World.frozen?_alloc_old _ _ ⟨g, 0, none⟩ (by simp; omega), World.frozen?_alloc_old _ _ ⟨g, 0, none⟩ (Nat.ne_of_lt htl)]; exact hf0) (by rw [World.cell?_alloc_lt _ _ ⟨w.heap.size, 0, none⟩ (by simp)]; simp) (hC.below (B' := w.heap.size) (((Below.refl _ _).alloc (Nat.le_refl _) _).alloc (by simp) _) hB) (by simp; omega)).mono ?_; rintro e w' ⟨rfl, rfl⟩) | go_in)
  go_ret
  exact ⟨rfl, grown_set htl, set_grown htl ht⟩

theorem as_nil (t : Value) (w : World) : Calls Tryz.prog 28 #[.nilIface, t] w fun e w' => e = .returned (.bool false) ∧ w' = w := by
  go_enter Tryz.func28, Tryz.ntmps28
  go_wp2
  go_ret
  exact ⟨rfl, rfl⟩

end Go.Proofs.YtjinbhnpcdlkiaaGreatDoor


namespace Go.Proofs.YtjinbhnpcdlkiaaGreatDoor
open Go.RowKit Go.Extern.Stop Go.Stop Go.Extern

/-- The slice reads as the texts ss. -/
def SL (w : World) (A : Option Addr) (n c : Nat) (ss : List ByteArray) : Prop := VL w A n c (ss.map Value.string)
/-- .. and is the call's own, behind block B. -/
def SO (w : World) (B : Nat) (A : Option Addr) (n c : Nat) (ss : List ByteArray) : Prop := OV w B 9 A n c (ss.map Value.string)
theorem str_info : (Tryz.prog.info? 9).map (fun i => (i.zero, i.size, i.bytes)) = some (some (.string ⟨#[]⟩), 1, 16) := by kernel_rfl
theorem strs_oneCell (ss : List ByteArray) : ∀ u ∈ ss.map Value.string, u.oneCell' = true := fun u hu => by
  obtain ⟨s, _, rfl⟩ := List.mem_map.1 hu
  rfl
theorem SL.one (w : World) (e : TypeId) (s : ByteArray) : SL (w.alloc (.cells #[.string s] e)) (some ⟨w.heap.size, 0, none⟩) 1 1 [s] := VL.lit w e 1 [.string s] rfl (by omega)
theorem SO.sl {w : World} {B : Nat} {A : Option Addr} {n c : Nat} {ss : List ByteArray} (h : SO w B A n c ss) : SL w A n c ss := OV.vl h
theorem SL.len {w : World} {A : Option Addr} {n c : Nat} {ss : List ByteArray} (h : SL w A n c ss) : ss.length = n := by have := VL.len h; simpa using this
/-- An append to a list of texts in the walk. -/
theorem wpList_append_SO {w : World} {ops : Array Oper} {rest : List Oper} {o : Oper} {a : Act} {Q : Exit → Act → World → Prop} {A A2 : Option Addr} {n c n2 c2 : Nat} {l l2 : List ByteArray}
    (B : Nat) (hgd : o.guard = none) (s x : Operand)
    (ho : o.op = .call { callee := .builtin .append, args := #[s, x], argTypes := #[55, 55] }) (hs : a.eval s = .slice A n c) (hx : a.eval x = .slice A2 n2 c2)
    (h1 : SO w B A n c l) (h2 : SL w A2 n2 c2 l2) (hB : B ≤ w.heap.size) (hn : n + n2 ≤ 1000000000)
    (h : ∀ A' c' w', SO w' B A' (n + n2) c' (l ++ l2) → Below B w w' → w.grownBy w' (Value.slice A n c).ownBlock → wpList Tryz.prog ops Q rest (a.put o.dst (.slice A' (n + n2) c')) w') : wpList Tryz.prog ops Q (o :: rest) a w := by
  obtain ⟨A', c', w', hr, h3, h4, h5, _, _⟩ := run_append_OV Tryz.underlying55 str_info rfl (by omega) o.type hB h1 h2 (strs_oneCell _) hn
  exact Lib.wpList_append_run w hgd s x _ _ ho _ _ hs hx _ w' hr (h A' c' w' (by unfold SO; rw [List.map_append]; exact h3) h4 h5)

/-- What the package variables hold, as far as it is read. -/
structure Gl (w : World) : Prop where
  et : w.cell? ⟨0, 0, none⟩ = some (.iface 136 (.agg #[.pointer (some ⟨2, 41, none⟩)]))
theorem Gl.below {w W : World} (h : Gl w) (hb : Below w.heap.size w W) : Gl W := ⟨(hb.cell (World.block_lt_of_cell? w _ h.et)).trans h.et⟩
theorem Gl.some_ {w : World} (h : Gl w) : 0 < w.heap.size := World.block_lt_of_cell? w _ h.et

def cmpF : Array Value → Sem Value := ReflectliteType.method fun t => do Rtype.noPackHeld "Comparable" t; pure (.bool (← typeInfo t).comparable)
theorem fa_comparable2 (w : World) : (cmpF #[.agg #[.pointer (some ⟨2, 49, none⟩)]]).run Tryz.prog w = .ok (.bool true) w := by kernel_rfl
theorem eq_codes (c o : Int) (w : World) : (binOp .eql 41 (.iface 49 (.int .i64 c)) (.iface 49 (.int .i64 o))).run Tryz.prog w = .ok (.bool (c == o)) w :=
  Lib.run_eql_iface_int w c o Tryz.underlying41 fa_compE Tryz.underlying49
theorem eq_other (v : Value) (o : Int) (w : World) : (binOp .eql 41 (.iface 81 v) (.iface 49 (.int .i64 o))).run Tryz.prog w = .ok (.bool false) w :=
  run_eql_iface_types _ _ _ _ Tryz.underlying41 (by decide) w

/-! ### The package fault -/
theorem of_ok (w : World) : Calls Tryz.prog 23 #[.int .i64 0] w fun e w' => e = .returned .nilIface ∧ w' = w := by
  go_enter Tryz.func23, Tryz.ntmps23
  go_wp2
  go_ret
  exact ⟨rfl, rfl⟩
theorem of_code (c : Int) (hc : c ≠ 0) (w : World) : Calls Tryz.prog 23 #[.int .i64 c] w fun e w' => e = .returned (.iface 49 (.int .i64 c)) ∧ w' = w := by
  have hc2 : (c == 0) = false := by simpa using hc
  go_enter Tryz.func23, Tryz.ntmps23
  go_wp2
  go_ret
  exact ⟨rfl, rfl⟩
theorem wrap_nil (s : ByteArray) (w : World) : Calls Tryz.prog 22 #[.string s, .nilIface] w fun e w' => e = .returned .nilIface ∧ w' = w := by
  go_enter Tryz.func22, Tryz.ntmps22
  go_wp2
  go_ret
  exact ⟨rfl, rfl⟩
theorem wrap_any (s : ByteArray) (v0 : Value) (ws : List ByteArray) (B : Nat) (c : Int) (w : World) (hC : Ch w ws B c v0) (hB : B ≤ w.heap.size) :
    Calls Tryz.prog 22 #[.string s, v0] w fun e w' => e = .returned (.iface 81 (.pointer (some ⟨w.heap.size, 0, none⟩))) ∧ Ch w' (s :: ws) w'.heap.size c (.iface 81 (.pointer (some ⟨w.heap.size, 0, none⟩))) ∧ Below w.heap.size w w' := by
  obtain ⟨t0, y0, rfl⟩ := hC.iface
  go_enter Tryz.func22, Tryz.ntmps22
  go_wp2
  go_ret
  have hb : Below w.heap.size w (w.alloc (.cells #[.string s, .iface t0 y0] 84)) := (Below.refl _ _).alloc (Nat.le_refl _) _
  exact ⟨rfl, ⟨_, _, by simp, rfl, heap_alloc_new _ _, (hC.below hb hB).mono hB⟩, hb⟩

/-- fault.Code of a code in so many faults. -/
theorem code_any (c : Int) (v0 : Value) (ws : List ByteArray) (B : Nat) (w : World) (hG : Gl w) (hC : Ch w ws B c v0) (hB : B ≤ w.heap.size) :
    Calls Tryz.prog 11 #[v0] w (RV w (.int .i64 c)) := by
  have hlt := hG.some_
  have hb1 : Below w.heap.size w (w.alloc (.cells #[.int .i64 0] 49)) := (Below.refl _ _).alloc (Nat.le_refl _) _
  have hG1 := hG.below hb1
  have hC1 := hC.below hb1 hB
  go_enter Tryz.func11, Tryz.ntmps11
  go_wp2_with (go_at_call 28; refine (as_E c v0 ws B w.heap.size (.int .i64 0) _ hG1.et (heap_alloc_new _ _) hC1 (by simp; omega)).mono ?_; rintro e w' ⟨rfl, hg, hcell⟩; have hc7 : w'.cell? ⟨w.heap.size, 0, none⟩ = some (.int .i64 c) := by (rw [cell_of_row w' _ 0 _ _ (0, 0) hcell]; rfl))
  go_ret
  exact ⟨rfl, hb1.grown hg (by simp) (by intro k e; injection e with e; omega)⟩
theorem code_nil (w : World) : Calls Tryz.prog 11 #[.nilIface] w (RV w (.int .i64 0)) := by
  have hb1 : Below w.heap.size w (w.alloc (.cells #[.int .i64 0] 49)) := (Below.refl _ _).alloc (Nat.le_refl _) _
  go_enter Tryz.func11, Tryz.ntmps11
  go_wp2_with (go_at_call 28; refine (as_nil _ _).mono ?_; rintro e w' ⟨rfl, rfl⟩)
  go_ret
  exact ⟨rfl, hb1⟩
end Go.Proofs.YtjinbhnpcdlkiaaGreatDoor

