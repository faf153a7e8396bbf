/- The walks of a draft's text. No condition. -/
import Derived.Test.YtickhmlhciafgaaGreatMa33
import Derived.Test.YtickhmlhciafgaaGreatMa31
import Derived.Test.YtickhmlhciafgaaGreatMa15
import Derived.Test.YtickhmlhciafgaaGreatMa23
import Derived.Test.YtickhmlhciafgaaGreatMa30
namespace Go.Proofs.YtickhmlhciafgaaGreat
open Go.RowKit
set_option linter.unusedVariables false

def ZF4 : Array Value := #[.bool false, .slice none 0 0, .bool false, .slice none 0 0]
def Z17 : Array Value := #[.bool false, .slice none 0 0, .int .i64 0, .bool false, .slice none 0 0, .int .i64 0, .bool false, .slice none 0 0, .int .i64 0, .bool false, .int .i64 0, .int .i64 0, .int .i64 0, .int .i64 0, .int .i64 0, .int .i64 0, .int .i64 0]
set_option maxRecDepth 100000 in
set_option maxHeartbeats 4000000 in
theorem ccommit_any (y : RuV) (x : DV) (w : World) (hy : y.ok w) (hr : y.r.Ok) (hb : y.r.Bd) (hx : x.ok w) (hi : I64 x.l) (hf : I64 x.f) (n1 : x.n ≤ 1000) (n2 : x.m ≤ 1000) :
    Calls Tryz.prog 32 #[.agg y.cs, .agg x.cs] w (PK (kde (commitS y.r x.d).2) (commitS y.r x.d).1 w) := by
  have hB0 := (((Blk.made w w 32 y.cs (Later.refl w) _ rfl).alloc (.cells x.cs 70)).alloc (.cells #[.bool false, .slice none 0 0, .bool false, .slice none 0 0] 70))
  have hB1 := ((Blk.made w (w.alloc (.cells y.cs 32)) 70 x.cs ((Later.refl w).alloc _) (w.heap.size + 1) (by simp)).alloc (.cells #[.bool false, .slice none 0 0, .bool false, .slice none 0 0] 70))
  have hR := (Blk.made w ((w.alloc (.cells y.cs 32)).alloc (.cells x.cs 70)) 70 #[.bool false, .slice none 0 0, .bool false, .slice none 0 0] (((Later.refl w).alloc _).alloc _) (w.heap.size + 2) (by simp))
  have e1 := hx.1.len
  have e2 := hx.2.len
  have hfl : mayR x.d → x.d.frac.length ≤ 1000 := fun _ => by show x.f.length ≤ 1000; omega
  have hch := Lib.hid (fun (gf : Nat) (tf : TypeId) W (hG : Blk w w.heap.size 32 y.cs W) (hF : Blk w gf tf #[.func (.func 71) #[] #[.pointer (some ⟨w.heap.size, 0, none⟩)]] W) =>
    show Calls Tryz.prog 70 #[.agg y.cs, .agg x.cs, .slice (some ⟨gf, 0, none⟩) 1 1] W (PK (kde (commitS y.r x.d).2) (commitS y.r x.d).1 W) from
    (changed_commit y x.d ⟨w.heap.size, 0, none⟩ (valueC y.r (decD x.d)) W (hx.1.later hG.later) (hx.2.later hG.later) hi hf (by omega) (by omega) hr.mini.1 hr.mini.2 (fun hm hv => by
      have hd := decD_may hm (hfl hm)
      have hl := value_len hr hd hb.lo.2 hb.hi.2 (by have := decD_len x.d; have : x.d.int.length = x.l.length := rfl; have : x.d.frac.length = x.f.length := rfl; omega)
      exact ⟨(value_in hr hd).1, by omega⟩) hF (fun A n c W' hL hm hI => by
      have hd := decD_may hm (hfl hm)
      exact commit1_any y (decD x.d) W' (hG.call hL) (hy.later (hG.call hL).later) hb hI (may_bd hd).1 (may_bd hd).2 (by have := hI.len; have := decD_len x.d; have : x.d.int.length = x.l.length := rfl; have : x.d.frac.length = x.f.length := rfl; omega))).mono fun e W' h => h.pk)
  generalize commitS y.r x.d = G at *
  obtain ⟨G, eg⟩ := G
  simp only at hch
  go_enter Tryz.func32, Tryz.ntmps32
  go_upto_region 1 with fail
  generalize World.alloc (World.alloc (World.alloc w _) _) _ = w1 at *
  have hL1 := hR.later
  go_wp2_with (first | (refine wpList_load_blk hB0 row_rules rfl rfl rfl rfl ?_; go_simp) | (refine wpList_load_blk hB1 row_draft rfl rfl rfl rfl ?_; go_simp))
  refine (hch.out _ _ _ (hB0.alloc _) (Blk.made w w1 _ _ hL1 _ rfl)).mono ?_
  rintro e w2 ⟨z, rfl, hz, hzo, hB2, hzn⟩
  have hR2 := (hR.alloc _).call hB2
  have hlt := hR2.lt
  have hl0 := hR.lt
  have hs1 : w1.heap.size < w2.heap.size := by have := hB2.size; simp at this; omega
  have hzn := hzn.mono (b := w1.heap.size) (by simp)
  unfold kde
  go_wp2_with (refine wpList_store_blk hR2 row_draft rfl rfl rfl rfl rfl rfl (by kernel_rfl) ?_; intro w9 hR9 hS9; go_simp)
  exact bodyPost_ret (results_ct hR9 row_draft rfl Tryz.results32 rfl rfl) rfl ⟨z, rfl, hz, hzo.sto hS9 (hzn.off hl0), hS9.below hR2.later (by omega), hzn.mono hL1.size⟩

def DV.zero : DV := ⟨false, none, 0, 0, [], false, none, 0, 0, []⟩
theorem DV.zero_ok (W : World) : DV.zero.ok W := ⟨IL.nil _, IL.nil _⟩
set_option maxRecDepth 100000 in
set_option maxHeartbeats 4000000 in
theorem cstart_any (y : RuV) (w : World) (hy : y.ok w) (hr : y.r.Ok) (hb : y.r.Bd) :
    Calls Tryz.prog 37 #[.agg y.cs] w (PK kd (commitS y.r Dr.none).1 w) := by
  have hB0 := ((Blk.made w w 32 y.cs (Later.refl w) _ rfl).alloc (.cells #[.bool false, .slice none 0 0, .bool false, .slice none 0 0] 70))
  have hR := (Blk.made w (w.alloc (.cells y.cs 32)) 70 #[.bool false, .slice none 0 0, .bool false, .slice none 0 0] ((Later.refl w).alloc _) (w.heap.size + 1) (by simp))
  have hcm := Lib.hid (fun W (hW : y.ok W) => show Calls Tryz.prog 32 #[.agg y.cs, .agg #[.bool false, .slice none 0 0, .bool false, .slice none 0 0]] W (PK (kde (commitS y.r Dr.none).2) (commitS y.r Dr.none).1 W) from
    ccommit_any y DV.zero W hW hr hb (DV.zero_ok W) (fun x hx => absurd hx (List.not_mem_nil)) (fun x hx => absurd hx (List.not_mem_nil)) (Nat.zero_le _) (Nat.zero_le _))
  generalize commitS y.r Dr.none = G at *
  obtain ⟨G, eg⟩ := G
  simp only at hcm
  go_enter Tryz.func37, Tryz.ntmps37
  go_upto_region 1 with fail
  generalize World.alloc (World.alloc w _) _ = w1 at *
  go_wp2_with (refine wpList_load_blk hB0 row_rules rfl rfl rfl rfl ?_; go_simp)
  refine (hcm.out _ (hy.later hB0.later)).mono ?_
  rintro e w2 ⟨z, rfl, hz, hzo, hB2, hzn⟩
  have hR2 := (hR.call hB2).alloc (.cells #[.bool false, .slice none 0 0, .bool false, .slice none 0 0] 70)
  have hZ0 := Blk.made w w2 70 #[.bool false, .slice none 0 0, .bool false, .slice none 0 0] (hR.call hB2).later _ rfl
  have hzo2 := hzo.alloc (.cells #[.bool false, .slice none 0 0, .bool false, .slice none 0 0] 70)
  have hl0 := hR.lt
  have hs2 := hB2.size
  have hzf := hzo.off (Nat.le_refl _)
  unfold kde
  go_upto_region 2 with (refine wpList_store_blk hZ0 row_draft rfl rfl rfl rfl rfl rfl (by kernel_rfl) ?_; intro w3 hZ hS3; go_simp)
  have hR3 := hS3.far hR2 (by omega) hZ0.1
  have hzo3 := hzo2.sto hS3 hzf
  go_wp2_with (first | (refine wpList_load_blk hZ row_draft rfl rfl rfl rfl ?_; go_simp) | (refine wpList_store_blk hR3 row_draft rfl rfl rfl rfl rfl rfl (by kernel_rfl) ?_; intro w9 hR9 hS9; go_simp))
  exact bodyPost_ret (results_c hR9 row_draft rfl Tryz.results37 rfl) rfl ⟨z, rfl, hz, hzo3.sto hS9 (hzn.off hl0), hS9.below hR3.later (by omega), hzn.mono hR.later.size⟩

def doneS (r : Ru) (d : Dr) : Bool := decide ((commitS r d).2 = 0) && sameD (commitS r d).1 d
set_option maxRecDepth 100000 in
set_option maxHeartbeats 4000000 in
theorem cdone_any (y : RuV) (x : DV) (w : World) (hy : y.ok w) (hr : y.r.Ok) (hb : y.r.Bd) (hx : x.ok w) (hi : I64 x.l) (hf : I64 x.f) (n1 : x.n ≤ 1000) (n2 : x.m ≤ 1000) :
    Calls Tryz.prog 36 #[.agg y.cs, .agg x.cs] w (RV w (.bool (doneS y.r x.d))) := by
  have hB0 := ((Blk.made w w 32 y.cs (Later.refl w) _ rfl).alloc (.cells x.cs 70))
  have hB1 := (Blk.made w (w.alloc (.cells y.cs 32)) 70 x.cs ((Later.refl w).alloc _) (w.heap.size + 1) (by simp))
  have hcm := Lib.hid (fun W (hY : y.ok W) (hX : x.ok W) => show Calls Tryz.prog 32 #[.agg y.cs, .agg x.cs] W (PK (kde (commitS y.r x.d).2) (commitS y.r x.d).1 W) from ccommit_any y x W hY hr hb hX hi hf n1 n2)
  have hD : Hid (doneS y.r x.d = (decide ((commitS y.r x.d).2 = 0) && sameD (commitS y.r x.d).1 x.d)) := rfl
  have hsm := Lib.hid (fun (z : DV) W (h1 : z.ok W) (h2 : x.ok W) => show Calls Tryz.prog 74 #[.agg z.cs, .agg x.cs] W (RV W (.bool (sameD z.d x.d))) from dsame_any _ _ _ _ W h1.1 h1.2 h2.1 h2.2)
  generalize doneS y.r x.d = D at *
  generalize commitS y.r x.d = G at *
  obtain ⟨G, eg⟩ := G
  simp only at hcm hD
  go_enter Tryz.func36, Tryz.ntmps36
  go_upto_region 1 with fail
  generalize World.alloc (World.alloc w _) _ = w1 at *
  go_wp2_with (first | (refine wpList_load_blk hB0 row_rules rfl rfl rfl rfl ?_; go_simp) | (refine wpList_load_blk hB1 row_draft rfl rfl rfl rfl ?_; go_simp))
  refine (hcm.out _ (hy.later hB0.later) (hx.later hB0.later)).mono ?_
  rintro e w2 ⟨z, rfl, hz, hzo, hB2, hzn⟩
  have hX2 := (hB1.call hB2).alloc (.cells #[.bool false, .slice none 0 0, .bool false, .slice none 0 0] 70)
  have hZ0 := Blk.made w w2 70 #[.bool false, .slice none 0 0, .bool false, .slice none 0 0] (hB1.call hB2).later _ rfl
  have hzo2 := hzo.alloc (.cells #[.bool false, .slice none 0 0, .bool false, .slice none 0 0] 70)
  have hl0 := (hB1.call hB2).lt
  have hzf := hzo.off (Nat.le_refl _)
  unfold kde
  go_upto_region 2 with (refine wpList_store_blk hZ0 row_draft rfl rfl rfl rfl rfl rfl (by kernel_rfl) ?_; intro w3 hZ hS3; go_simp)
  have hX3 := hS3.far hX2 (by omega) hZ0.1
  have hzo3 := hzo2.sto hS3 hzf
  have hxo3 := hx.later hZ.later
  by_cases hec : eg = 0
  · subst hec
    go_wp2_with (first | (refine wpList_load_blkg hZ row_draft rfl rfl rfl rfl ?_; go_simp) | (refine wpList_load_blkg hX3 row_draft rfl rfl rfl rfl ?_; go_simp))
    refine (hsm.out _ _ hzo3 hxo3).mono ?_
    rintro e w4 ⟨rfl, hB4⟩
    go_wp2_with fail
    go_ret
    exact ⟨ret_bool (by rw [hD.out, hz.out]; simp), hZ.later.call hB4⟩
  · have hb : (eg == (0 : Int)) = false := by simpa using hec
    go_wp2_with fail
    go_ret
    exact ⟨ret_bool (by rw [hD.out]; simp [hec]), hZ.later⟩

theorem of20_any (x : DV) (w : World) : Calls Tryz.prog 27 #[.agg x.cs] w (RV w (.agg x.cs)) := by
  have hB0 := ((Blk.made w w 64 x.cs (Later.refl w) _ rfl).alloc (.cells #[.bool false, .slice none 0 0, .bool false, .slice none 0 0] 70))
  have hR := (Blk.made w (w.alloc (.cells x.cs 64)) 70 #[.bool false, .slice none 0 0, .bool false, .slice none 0 0] ((Later.refl w).alloc _) (w.heap.size + 1) (by simp))
  go_enter Tryz.func27, Tryz.ntmps27
  go_upto_region 1 with fail
  generalize World.alloc (World.alloc w _) _ = w1 at *
  go_wp2_with (first | (refine wpList_load_blk hB0 row_draft14 rfl rfl rfl rfl ?_; go_simp) | (refine wpList_store_blk hR row_draft rfl rfl rfl rfl rfl rfl (by kernel_rfl) ?_; intro w9 hR9 hS9; go_simp))
  exact bodyPost_ret (results_c hR9 row_draft rfl Tryz.results27 rfl) rfl ⟨rfl, hS9.below hR.later (by omega)⟩
theorem as20_any (x : DV) (w : World) : Calls Tryz.prog 35 #[.agg x.cs] w (RV w (.agg x.cs)) := by
  have hB0 := ((Blk.made w w 70 x.cs (Later.refl w) _ rfl).alloc (.cells #[.bool false, .slice none 0 0, .bool false, .slice none 0 0] 64))
  have hR := (Blk.made w (w.alloc (.cells x.cs 70)) 64 #[.bool false, .slice none 0 0, .bool false, .slice none 0 0] ((Later.refl w).alloc _) (w.heap.size + 1) (by simp))
  go_enter Tryz.func35, Tryz.ntmps35
  go_upto_region 1 with fail
  generalize World.alloc (World.alloc w _) _ = w1 at *
  go_wp2_with (first | (refine wpList_load_blk hB0 row_draft rfl rfl rfl rfl ?_; go_simp) | (refine wpList_store_blk hR row_draft14 rfl rfl rfl rfl rfl rfl (by kernel_rfl) ?_; intro w9 hR9 hS9; go_simp))
  exact bodyPost_ret (results_c hR9 row_draft14 rfl Tryz.results35 rfl) rfl ⟨rfl, hS9.below hR.later (by omega)⟩

/-- Rules, by values. -/
def RuV.new (y : RuV) (B : Nat) : Prop := (0 < y.n1 → ∀ a, y.A1 = some a → B ≤ a.block) ∧ (0 < y.n2 → ∀ a, y.A2 = some a → B ≤ a.block) ∧ (0 < y.n3 → ∀ a, y.A3 = some a → B ≤ a.block)
def RuV.off (y : RuV) (b : Nat) : Prop := (0 < y.n1 → ∀ a, y.A1 = some a → a.block ≠ b) ∧ (0 < y.n2 → ∀ a, y.A2 = some a → a.block ≠ b) ∧ (0 < y.n3 → ∀ a, y.A3 = some a → a.block ≠ b)
theorem RuV.far.new {y : RuV} {B g : Nat} (h : y.far B g) : y.new B := h.below (Nat.le_refl _)
theorem RuV.new.off {y : RuV} {B b : Nat} (h : y.new B) (hb : b < B) : y.off b := RuV.ne h hb
theorem RuV.new.mono {y : RuV} {B b : Nat} (h : y.new B) (hb : b ≤ B) : y.new b := ⟨fun hz a ha => Nat.le_trans hb (h.1 hz a ha), fun hz a ha => Nat.le_trans hb (h.2.1 hz a ha), fun hz a ha => Nat.le_trans hb (h.2.2 hz a ha)⟩
theorem RuV.ok.below {y : RuV} {W W' : World} (h : y.ok W) (hb : Below W.heap.size W W') : y.ok W' := h.later hb
theorem RuV.cs_inj {x y : RuV} (h : x.cs = y.cs) (hr : x.r = y.r) : x = y := by
  obtain ⟨r, A1, n1, c1, A2, n2, c2, A3, n3, c3⟩ := x
  obtain ⟨r', A1', n1', c1', A2', n2', c2', A3', n3', c3'⟩ := y
  simp only at hr
  subst hr
  simp only [RuV.cs, Array.mk.injEq, List.cons.injEq, Value.slice.injEq, and_true, true_and] at h
  obtain ⟨⟨rfl, rfl, rfl⟩, ⟨rfl, rfl, rfl⟩, rfl, rfl, rfl⟩ := h
  rfl
def PR (K : RuV → Value) (R : Ru) (w : World) (e : Ending) (w' : World) : Prop := ∃ y : RuV, e = .returned (K y) ∧ Hid (y.r = R) ∧ y.ok w' ∧ Below w.heap.size w w' ∧ y.new w.heap.size
def kr (y : RuV) : Value := .agg y.cs
theorem kr_inj {x y : RuV} (h : kr x = kr y) : x.cs = y.cs := by simpa [kr] using h
def VR (K : RuV → Value) (d : Ru) (u : Value) : Prop := ∃ y, u = K y ∧ Hid (y.r = d)
def FR (K : RuV → Value) (d : Ru) (u : Value) (W : World) : Prop := ∀ y, u = K y → y.r = d → y.ok W
def AR (K : RuV → Value) (d : Ru) (u : Value) (b : Nat) : Prop := ∀ y, u = K y → y.r = d → y.off b
theorem upRu {K : RuV → Value} (hK : ∀ {x y}, K x = K y → x.cs = y.cs) (d : Ru) : UpR (PR K d) (VR K d) (FR K d) (AR K d) where
  up W e W' h := by
    obtain ⟨y, he, hy, hok, hB, hN⟩ := h
    have key : ∀ y', K y = K y' → y'.r = d → y' = y := fun y' h1 h2 => RuV.cs_inj (hK h1.symm) (h2.trans (Hid.out hy).symm)
    exact ⟨K y, he, ⟨y, rfl, hy⟩, fun y' h1 h2 => by rw [key y' h1 h2]; exact hok, hB, fun b hb y' h1 h2 => by rw [key y' h1 h2]; exact hN.off hb⟩
  f1 _ _ _ h hb := fun y h1 h2 => (h y h1 h2).below hb
  f2 _ _ _ _ h hs ha := fun y h1 h2 => (h y h1 h2).sto hs (ha y h1 h2)
  f4 _ _ _ h hb := fun y h1 h2 => (h y h1 h2).apart hb
/-- Results: two structs in cells of their own, and a value. -/
theorem results_cct {P : Program} {w0 w1 W : World} {g g' n n' : Nat} {t t' : TypeId} {cs cs' : Array Value} (h : Blk w0 g t cs W) {ty : TypeId} (hT : RowT P ty n) (hn : cs.size = n) (h' : Blk w1 g' t' cs' W) {ty' : TypeId} (hT' : RowT P ty' n') (hn' : cs'.size = n') {fn : Func} {tmps : Array Value} {i j k : Nat} {v : Value}
    (hf : fn.results = #[.cell i ty, .cell j ty', .tmp k]) (hp : tmps.getD i undef = .pointer (some ⟨g, 0, none⟩)) (hp' : tmps.getD j undef = .pointer (some ⟨g', 0, none⟩)) (hv : tmps.getD k undef = v) : (results fn tmps).run P W = .ok (.tuple #[.agg cs, .agg cs', v]) W := by
  have hl := loadVar_blk h hT hn
  have hl' := loadVar_blk h' hT' hn'
  rw [Array.getD_eq_getD_getElem?] at hp hp' hv
  simp [results, hf, hp, hp', hv, asAddr, hl, hl']
set_option maxRecDepth 100000 in
set_option maxHeartbeats 4000000 in
theorem begin20_any (x : GV) (w : World) (hx : x.ok w) (hb : x.Bd) :
    Calls Tryz.prog 24 #[.agg x.cs] w (fun e w' => ∃ y z : RuV, e = .returned (.tuple #[.agg y.cs, .agg z.cs, .bool true]) ∧ Hid (y.r = (goodG x.g).ru) ∧ Hid (z.r = (goodG x.g).ru) ∧ y.ok w' ∧ z.ok w' ∧ Below w.heap.size w w') := by
  have hB0 := (((Blk.made w w 28 x.cs (Later.refl w) _ rfl).alloc (.cells #[.bool false, .slice none 0 0, .int .i64 0, .bool false, .slice none 0 0, .int .i64 0, .bool false, .slice none 0 0, .int .i64 0, .bool false, .int .i64 0, .int .i64 0, .int .i64 0, .int .i64 0, .int .i64 0, .int .i64 0, .int .i64 0] 32)).alloc (.cells #[.bool false, .slice none 0 0, .int .i64 0, .bool false, .slice none 0 0, .int .i64 0, .bool false, .slice none 0 0, .int .i64 0, .bool false, .int .i64 0, .int .i64 0, .int .i64 0, .int .i64 0, .int .i64 0, .int .i64 0, .int .i64 0] 44))
  have hB1 := ((Blk.made w (w.alloc (.cells x.cs 28)) 32 #[.bool false, .slice none 0 0, .int .i64 0, .bool false, .slice none 0 0, .int .i64 0, .bool false, .slice none 0 0, .int .i64 0, .bool false, .int .i64 0, .int .i64 0, .int .i64 0, .int .i64 0, .int .i64 0, .int .i64 0, .int .i64 0] ((Later.refl w).alloc _) (w.heap.size + 1) (by simp)).alloc (.cells #[.bool false, .slice none 0 0, .int .i64 0, .bool false, .slice none 0 0, .int .i64 0, .bool false, .slice none 0 0, .int .i64 0, .bool false, .int .i64 0, .int .i64 0, .int .i64 0, .int .i64 0, .int .i64 0, .int .i64 0, .int .i64 0] 44))
  have hB2' := (Blk.made w ((w.alloc (.cells x.cs 28)).alloc (.cells #[.bool false, .slice none 0 0, .int .i64 0, .bool false, .slice none 0 0, .int .i64 0, .bool false, .slice none 0 0, .int .i64 0, .bool false, .int .i64 0, .int .i64 0, .int .i64 0, .int .i64 0, .int .i64 0, .int .i64 0, .int .i64 0] 32)) 44 #[.bool false, .slice none 0 0, .int .i64 0, .bool false, .slice none 0 0, .int .i64 0, .bool false, .slice none 0 0, .int .i64 0, .bool false, .int .i64 0, .int .i64 0, .int .i64 0, .int .i64 0, .int .i64 0, .int .i64 0, .int .i64 0] (((Later.refl w).alloc _).alloc _) (w.heap.size + 2) (by simp))
  have hgo := Lib.hid (fun W (h : x.ok W) => rgood13_any x W h hb)
  have hru := Lib.hid (fun W (h : x.ok W) => show Calls Tryz.prog 11 #[.agg x.cs] W (PR kr (goodG x.g).ru W) from (rrules_any x W h hb).mono fun e W' ⟨y, h1, h2, h3, h4, h5⟩ => ⟨y, h1, h2, h3, h4, h5.new⟩)
  have hcok := goodG_ok x.g
  have hcn := Lib.hid (fun W => hcok.cnew W)
  generalize (goodG x.g).ru = R at *
  generalize goodG x.g = c at *
  go_enter Tryz.func24, Tryz.ntmps24
  go_upto_region 1 with fail
  generalize World.alloc (World.alloc (World.alloc w _) _) _ = w1 at *
  go_wp2_with (refine wpList_load_blk hB0 row_made13 rfl rfl rfl rfl ?_; go_simp)
  refine (hgo.out _ (hx.later hB0.later)).mono ?_
  rintro e w2 ⟨rfl, hB2⟩
  have hX2 := (hB0.call hB2).alloc (.cells #[.string { data := #[] }, .string { data := #[] }, .string { data := #[] }, .int .i64 0, .int .i64 0, .int .i64 0, .int .i64 0, .int .i64 0, .int .i64 0, .int .i64 0] 41)
  have hR2 := (hB1.call hB2).alloc (.cells #[.string { data := #[] }, .string { data := #[] }, .string { data := #[] }, .int .i64 0, .int .i64 0, .int .i64 0, .int .i64 0, .int .i64 0, .int .i64 0, .int .i64 0] 41)
  have hS2 := (hB2'.call hB2).alloc (.cells #[.string { data := #[] }, .string { data := #[] }, .string { data := #[] }, .int .i64 0, .int .i64 0, .int .i64 0, .int .i64 0, .int .i64 0, .int .i64 0, .int .i64 0] 41)
  have hC0 := Blk.made w w2 41 #[.string { data := #[] }, .string { data := #[] }, .string { data := #[] }, .int .i64 0, .int .i64 0, .int .i64 0, .int .i64 0, .int .i64 0, .int .i64 0, .int .i64 0] (hB0.call hB2).later _ rfl
  have l1 := (hB0.call hB2).lt
  have l2 := (hB1.call hB2).lt
  have l3 := (hB2'.call hB2).lt
  go_upto_region 2 with (refine wpList_store_blk hC0 row_conf13 rfl rfl rfl rfl rfl rfl (by kernel_rfl) ?_; intro w3 hC hS3; go_simp)
  have hX3 := hS3.far hX2 (by omega) hC0.1
  have hR3 := hS3.far hR2 (by omega) hC0.1
  have hT3 := hS3.far hS2 (by omega) hC0.1
  clear hB0 hB1 hB2' hX2 hR2 hS2 hC0 hS3 hgo
  have k0 : w3.cell? ⟨w2.heap.size, 0, none⟩ = some (.string c.m) := hC.cell 0
  have k1 : w3.cell? ⟨w2.heap.size, 1, none⟩ = some (.string c.x) := hC.cell 1
  have k2 : w3.cell? ⟨w2.heap.size, 2, none⟩ = some (.string c.s) := hC.cell 2
  have hbt := built_conf c
  go_wp2_with (first | (refine wpList_load_part (hC.part 3 [.int .i64 c.n.ic, .int .i64 c.n.fc, .int .i64 c.n.sc, .int .i64 c.n.mi, .int .i64 c.n.mf, .int .i64 c.n.md, .int .i64 c.n.hs] rfl) row_limits13 rfl rfl rfl rfl ?_; go_simp) | (refine wpList_build_ _ _ rfl rfl ?_ hbt ?_; (exact rfl); go_simp))
  refine (hcn.out _).mono ?_
  rintro e w4 ⟨y, rfl, hyr, hyok, hB4, hyf⟩
  clear k0 k1 k2
  have hyr : Hid (y.r = R) := hyr
  have hynew : y.new (w.heap.size + 3) := hyf.new.mono (by have := hT3.lt; have := hC.lt; omega)
  have hX4 := (hX3.call hB4).alloc (.cells #[.bool false, .slice none 0 0, .int .i64 0, .bool false, .slice none 0 0, .int .i64 0, .bool false, .slice none 0 0, .int .i64 0, .bool false, .int .i64 0, .int .i64 0, .int .i64 0, .int .i64 0, .int .i64 0, .int .i64 0, .int .i64 0] 32)
  have hR4 := (hR3.call hB4).alloc (.cells #[.bool false, .slice none 0 0, .int .i64 0, .bool false, .slice none 0 0, .int .i64 0, .bool false, .slice none 0 0, .int .i64 0, .bool false, .int .i64 0, .int .i64 0, .int .i64 0, .int .i64 0, .int .i64 0, .int .i64 0, .int .i64 0] 32)
  have hT4 := (hT3.call hB4).alloc (.cells #[.bool false, .slice none 0 0, .int .i64 0, .bool false, .slice none 0 0, .int .i64 0, .bool false, .slice none 0 0, .int .i64 0, .bool false, .int .i64 0, .int .i64 0, .int .i64 0, .int .i64 0, .int .i64 0, .int .i64 0, .int .i64 0] 32)
  have hY0 := Blk.made w w4 32 #[.bool false, .slice none 0 0, .int .i64 0, .bool false, .slice none 0 0, .int .i64 0, .bool false, .slice none 0 0, .int .i64 0, .bool false, .int .i64 0, .int .i64 0, .int .i64 0, .int .i64 0, .int .i64 0, .int .i64 0, .int .i64 0] (hX3.call hB4).later _ rfl
  have hyok4 := hyok.later ((Later.refl w4).alloc (.cells #[.bool false, .slice none 0 0, .int .i64 0, .bool false, .slice none 0 0, .int .i64 0, .bool false, .slice none 0 0, .int .i64 0, .bool false, .int .i64 0, .int .i64 0, .int .i64 0, .int .i64 0, .int .i64 0, .int .i64 0, .int .i64 0] 32))
  have l4 := (hX3.call hB4).lt
  have l5 := (hR3.call hB4).lt
  have l6 := (hT3.call hB4).lt
  have l7 := hR3.lt
  go_upto_region 3 with (refine wpList_store_blk hY0 row_rules rfl rfl rfl rfl rfl rfl (by kernel_rfl) ?_; intro w5 hY hS5; go_simp)
  have hyok5 := hyok4.sto hS5 (hyok.apart (Nat.le_refl _))
  have hX5 := hS5.far hX4 (by omega) hY0.1
  have hR5 := hS5.far hR4 (by omega) hY0.1
  have hT5 := hS5.far hT4 (by omega) hY0.1
  clear hX3 hX4 hR3 hR4 hT3 hT4 hY0 hS5 hyok hyok4 hcn
  have hgx : w4.heap.size ≠ w.heap.size + 1 ∧ w4.heap.size ≠ w.heap.size + 2 := ⟨by omega, by omega⟩
  generalize w4.heap.size = gy at *
  refine wp_region_held (S := fun W => Blk w gy 32 y.cs W ∧ Blk w w.heap.size 28 x.cs W) (by kernel_rfl) ?_
  have hS : Blk w gy 32 y.cs w5.drew ∧ Blk w w.heap.size 28 x.cs w5.drew := ⟨hY.drew, hX5.drew⟩
  refine wpAnyH_take (i := 3) (v := .nilIface) rfl (by kernel_rfl) (by kernel_rfl) (by kernel_rfl) (fun _ _ _ h => h) (.inl ⟨rfl, fun W hW => rfl⟩) hS ?_
  go_simp
  refine wpAnyH_take (i := 4) (v := .bool true) rfl (by kernel_rfl) (by kernel_rfl) (by kernel_rfl) (fun _ _ _ h => h) (.inl ⟨rfl, fun W hW => rfl⟩) hS ?_
  go_simp
  refine wpAnyH_take (i := 0) (v := .agg y.cs) rfl (by kernel_rfl) (by kernel_rfl) (by kernel_rfl) (fun _ _ _ h => h) (yieldsIf_blk (fun W hW => hW.1) row_rules rfl rfl rfl rfl) hS ?_
  go_simp
  refine wpAnyH_take (i := 1) (v := .agg x.cs) rfl (by kernel_rfl) (by kernel_rfl) (by kernel_rfl) (fun _ _ _ h => h) (yieldsIf_blk (fun W hW => hW.2) row_made13 rfl rfl rfl rfl) hS ?_
  go_simp
  refine wpAnyH_one (i := 2) (by kernel_rfl) rfl rfl (fun K hK => ?_)
  go_simp
  refine (hru.out _ (hx.later hS.2.later)).mono ?_
  rintro e w6 ⟨z, rfl, hz, hzo, hB6, hzn⟩
  have hS6 : Blk w gy 32 y.cs w6 ∧ Blk w w.heap.size 28 x.cs w6 := ⟨hS.1.call hB6, hS.2.call hB6⟩
  have hR6 := hR5.drew.call hB6
  have hT6 := hT5.drew.call hB6
  have hyok6 := (hyok5.later ((Later.refl w5).drew)).later hB6
  have l9 := hT5.lt
  have hzn := hzn.mono (b := w5.heap.size) (Nat.le_refl _)
  refine hK.out _ _ hS6 ?_
  clear hK K
  unfold kr
  go_simp
  refine wpAnyH_one (i := 5) (by kernel_rfl) rfl rfl (fun K hK => ?_)
  refine wp_store_blk hR6 row_rules rfl rfl rfl rfl rfl (by kernel_rfl) ?_
  intro w7 hR7 hS7
  have hg0 : w.heap.size ≤ w.heap.size + 1 := by omega
  have hS7' : Blk w gy 32 y.cs w7 ∧ Blk w w.heap.size 28 x.cs w7 := ⟨hS7.far hS6.1 hgx.1 hg0, hS7.far hS6.2 (by omega) hg0⟩
  have hT7 := hS7.far hT6 (by omega) hg0
  have hyok7 := hyok6.sto hS7 (RuV.ne (B := w.heap.size + 3) hynew (by omega))
  have hzo7 := hzo.sto hS7 (hzn.off (by omega))
  refine hK.out _ _ hS7' ?_
  clear hK K
  go_simp
  refine wpAnyH_one (i := 6) (by kernel_rfl) rfl rfl (fun K hK => ?_)
  refine wp_store_blk hT7 row_rules13 rfl rfl rfl rfl rfl (by kernel_rfl) ?_
  intro w8 hT8 hS8
  have hg1 : w.heap.size ≤ w.heap.size + 2 := by omega
  have hS8' : Blk w gy 32 y.cs w8 ∧ Blk w w.heap.size 28 x.cs w8 := ⟨hS8.far hS7'.1 hgx.2 hg1, hS8.far hS7'.2 (by omega) hg1⟩
  have hR8 := hS8.far hR7 (by omega) hg1
  have hyok8 := hyok7.sto hS8 (RuV.ne (B := w.heap.size + 3) hynew (by omega))
  have hzo8 := hzo7.sto hS8 (hzn.off (by omega))
  refine hK.out _ _ hS8' ?_
  clear hK K
  go_simp
  refine wpAnyH_one (i := 7) (by kernel_rfl) rfl rfl (fun K hK => ?_)
  go_simp
  refine hK.out _ _ hS8' ?_
  clear hK K
  go_simp
  refine wpAnyH_done (by kernel_rfl) ?_ _
  go_wp2_with fail
  exact bodyPost_ret (results_cct hR8 row_rules rfl hT8 row_rules13 rfl Tryz.results24 rfl rfl rfl) rfl ⟨y, z, rfl, hyr, hz, hyok8, hzo8, hT8.later⟩

end Go.Proofs.YtickhmlhciafgaaGreat


namespace Go.Proofs.YtickhmlhciafgaaGreat
open Go.RowKit

theorem oddL_mem {s : List Int} {k : Nat} (hk : k < s.length) (h : isAtom (s.getD k 0) = false) : oddL s = true := by
  unfold oddL
  rw [List.any_eq_true]
  have e : s.getD k 0 = s[k] := by simp [List.getD, List.getElem?_eq_getElem hk]
  exact ⟨s[k], List.getElem_mem hk, by rw [← e, h]; rfl⟩

end Go.Proofs.YtickhmlhciafgaaGreat


namespace Go.Proofs.YtickhmlhciafgaaGreat
open Go.RowKit

def textD (d : Dr) : List UInt8 := (if d.neg then [45] else []) ++ textL d.int ++ (if d.sep then [46] else []) ++ textL d.frac

set_option maxHeartbeats 1000000 in
theorem dtext_any {A : Option Addr} {n c : Nat} {l : List Int} {E : Option Addr} {m k : Nat} {f : List Int} (b p : Bool) (w : World) (h : IL w A n c l) (g : IL w E m k f) (hl : I64 l) (hf : I64 f) (hn : n ≤ 10000) (hm : m ≤ 10000) :
    Calls Tryz.prog 69 #[.agg #[.bool b, .slice A n c, .bool p, .slice E m k]] w (RV w (.string (bs (textD ⟨b, l, p, f⟩)))) := by
  have hX : Fresh4 w w.heap.size 70 (.bool b) (.slice A n c) (.bool p) (.slice E m k) (w.alloc (.cells #[.bool b, .slice A n c, .bool p, .slice E m k] 70)) := Fresh4.made w w _ _ _ _ _ (Later.refl w) _ rfl
  have ht1 := Lib.hid (fun W hW => text_any A n c l W hW hl (by omega))
  have ht2 := Lib.hid (fun W hW => text_any E m k f W hW hf (by omega))
  have e1 := textL_len l
  have e2 := textL_len f
  have l1 := h.len
  have l2 := g.len
  have HT : Hid (textD ⟨b, l, p, f⟩ = (if b then [45] else []) ++ textL l ++ (if p then [46] else []) ++ textL f) := rfl
  generalize textD ⟨b, l, p, f⟩ = T at *
  generalize textL l = x at *
  generalize textL f = y at *
  have hx : x.length ≤ 10000 := by omega
  have hy : y.length ≤ 10000 := by omega
  have qx : (bs x).size ≤ 10000 := by rw [bs_size]; exact hx
  have qy : (bs y).size ≤ 10000 := by rw [bs_size]; exact hy
  have q0 : (bs [45]).size = 1 := rfl
  have q1 : (bs [46]).size = 1 := rfl
  have k0 : (({ data := #[45] } : ByteArray)).size = 1 := rfl
  have k1 : (({ data := #[46] } : ByteArray)).size = 1 := rfl
  have q2 : (({ data := #[45] } : ByteArray) ++ bs x).size ≤ 10001 := by rw [ByteArray.size_append, k0]; omega
  have q3 : (bs x ++ ({ data := #[46] } : ByteArray)).size ≤ 10001 := by rw [ByteArray.size_append, k1]; omega
  have q4 : (({ data := #[45] } : ByteArray) ++ bs x ++ ({ data := #[46] } : ByteArray)).size ≤ 10002 := by rw [ByteArray.size_append, k1]; omega
  have q5 : (({ data := #[45] } : ByteArray) ++ (bs x ++ ({ data := #[46] } : ByteArray))).size ≤ 10002 := by rw [ByteArray.size_append, k0]; omega
  clear e1 e2 l1 l2
  cases b <;> cases p
  all_goals
    go_enter Tryz.func69, Tryz.ntmps69
    go_wp2_with fail
    refine (ht1.out _ (h.later hX.2.2)).mono ?_
    rintro e w1 ⟨rfl, hB⟩
    have hX1 := hX.call hB
    obtain ⟨⟨b0, b1, b2, b3⟩, _⟩ := hX1.cells
    go_wp2_with fail
    refine (ht2.out _ (g.later hX1.2.2)).mono ?_
    rintro e w2 ⟨rfl, hB2⟩
    go_wp2_with fail
    go_ret
    exact ⟨by rw [HT.out]; simp [bs, ByteArray.mk_append_mk], (hX1.call hB2).2.2⟩

end Go.Proofs.YtickhmlhciafgaaGreat

