/- The example of layer 13 lives; the conversions of its laws. No condition. -/
import Derived.Test.YtickhmlhciafgaaGreatMa22
import Derived.Test.YtickhmlhciafgaaGreatMa18
import Derived.Test.YtickhmlhciafgaaGreatMa08
import Derived.Test.YtickhmlhciafgaaGreatMa09
import Derived.Test.YtickhmlhciafgaaGreatMa10
namespace Go.Proofs.YtickhmlhciafgaaGreat
open Go.RowKit

/-- Rules, handed back. -/
def RRu (w : World) (R : Ru) (e : Ending) (w' : World) : Prop :=
  ∃ y : RuV, e = .returned (.agg y.cs) ∧ y.r = R ∧ y.ok w' ∧ Below w.heap.size w w' ∧ y.far w.heap.size w'.heap.size
theorem Cm.Ok.new {c : Cm} (h : c.Ok) (W : World) : Calls Tryz.prog 49 #[.agg c.cs] W (RNew13 W c.ru) :=
  rnew_ok c.n c.m c.x c.s c.dm c.dx c.ds W h.n h.m h.x h.s h.row h.pos
theorem Cm.Ok.cnew {c : Cm} (h : c.Ok) (W : World) : Calls Tryz.prog 8 #[.agg c.cs] W (RNew W c.ru) :=
  cnew_ok c.n c.m c.x c.s c.dm c.dx c.ds W h.n h.m h.x h.s h.row h.pos
theorem RuV.far.below {y : RuV} {B g B' : Nat} (h : y.far B g) (hb : B' ≤ B) : (0 < y.n1 → ∀ a, y.A1 = some a → B' ≤ a.block) ∧ (0 < y.n2 → ∀ a, y.A2 = some a → B' ≤ a.block) ∧ (0 < y.n3 → ∀ a, y.A3 = some a → B' ≤ a.block) :=
  ⟨fun hz a ha => Nat.le_trans hb (h.1 hz a ha).1, fun hz a ha => Nat.le_trans hb (h.2.1 hz a ha).1, fun hz a ha => Nat.le_trans hb (h.2.2 hz a ha).1⟩
/-- Lists that lie in new memory are not in an elder block. -/
theorem RuV.ne {y : RuV} {B g : Nat} (h : (0 < y.n1 → ∀ a, y.A1 = some a → B ≤ a.block) ∧ (0 < y.n2 → ∀ a, y.A2 = some a → B ≤ a.block) ∧ (0 < y.n3 → ∀ a, y.A3 = some a → B ≤ a.block)) (hg : g < B) : (0 < y.n1 → ∀ a, y.A1 = some a → a.block ≠ g) ∧ (0 < y.n2 → ∀ a, y.A2 = some a → a.block ≠ g) ∧ (0 < y.n3 → ∀ a, y.A3 = some a → a.block ≠ g) :=
  ⟨fun hz a ha => by have := h.1 hz a ha; omega, fun hz a ha => by have := h.2.1 hz a ha; omega, fun hz a ha => by have := h.2.2 hz a ha; omega⟩
theorem RuV.mkfar {y : RuV} {B g : Nat} {W : World} (h : (0 < y.n1 → ∀ a, y.A1 = some a → B ≤ a.block) ∧ (0 < y.n2 → ∀ a, y.A2 = some a → B ≤ a.block) ∧ (0 < y.n3 → ∀ a, y.A3 = some a → B ≤ a.block)) (hok : y.ok W) (hg : W.heap.size ≤ g) : y.far B g :=
  ⟨fun hz a ha => ⟨h.1 hz a ha, hok.1.apart hg hz a ha⟩, fun hz a ha => ⟨h.2.1 hz a ha, hok.2.1.apart hg hz a ha⟩, fun hz a ha => ⟨h.2.2 hz a ha, hok.2.2.apart hg hz a ha⟩⟩
set_option maxRecDepth 100000 in
set_option maxHeartbeats 4000000 in
theorem rrules_any (x : GV) (w : World) (hx : x.ok w) (hb : x.Bd) : Calls Tryz.prog 11 #[.agg x.cs] w (RRu w (goodG x.g).ru) := by
  have hok := goodG_ok x.g
  have hg := Lib.hid (fun W (h : x.ok W) => rgood13_any x W h hb)
  have hn := Lib.hid (fun W => hok.new W)
  generalize (goodG x.g).ru = R at *
  generalize goodG x.g = c at *
  have hX := (Blk.made w w 28 x.cs (Later.refl w) _ rfl).alloc (.cells #[.bool false, .slice none 0 0, .int .i64 0, .bool false, .slice none 0 0, .int .i64 0, .bool false, .slice none 0 0, .int .i64 0, .bool false, .int .i64 0, .int .i64 0, .int .i64 0, .int .i64 0, .int .i64 0, .int .i64 0, .int .i64 0] 44)
  have hR := (Blk.made w (w.alloc (.cells x.cs 28)) 44 #[.bool false, .slice none 0 0, .int .i64 0, .bool false, .slice none 0 0, .int .i64 0, .bool false, .slice none 0 0, .int .i64 0, .bool false, .int .i64 0, .int .i64 0, .int .i64 0, .int .i64 0, .int .i64 0, .int .i64 0, .int .i64 0] ((Later.refl w).alloc _) (w.heap.size + 1) (by simp))
  go_enter Tryz.func11, Tryz.ntmps11
  go_upto_region 1 with fail
  generalize World.alloc (World.alloc w _) _ = w1 at *
  go_wp2_with (refine wpList_load_blk hX row_made13 rfl rfl rfl rfl ?_; go_simp)
  refine (hg.out _ (hx.later hX.later)).mono ?_
  rintro e w2 ⟨rfl, hB2⟩
  have hR2 := hR.call hB2
  go_wp2_with fail
  refine (hn.out _).mono ?_
  rintro e w3 ⟨y, rfl, hy, hyok, hB3, hyf⟩
  have hR3 := (hR2.call hB3).alloc (.cells #[.bool false, .slice none 0 0, .int .i64 0, .bool false, .slice none 0 0, .int .i64 0, .bool false, .slice none 0 0, .int .i64 0, .bool false, .int .i64 0, .int .i64 0, .int .i64 0, .int .i64 0, .int .i64 0, .int .i64 0, .int .i64 0] 44)
  have hY0 := Blk.made w w3 44 #[.bool false, .slice none 0 0, .int .i64 0, .bool false, .slice none 0 0, .int .i64 0, .bool false, .slice none 0 0, .int .i64 0, .bool false, .int .i64 0, .int .i64 0, .int .i64 0, .int .i64 0, .int .i64 0, .int .i64 0, .int .i64 0] (hR2.call hB3).later _ rfl
  have hyok3 := hyok.later ((Later.refl w3).alloc (.cells #[.bool false, .slice none 0 0, .int .i64 0, .bool false, .slice none 0 0, .int .i64 0, .bool false, .slice none 0 0, .int .i64 0, .bool false, .int .i64 0, .int .i64 0, .int .i64 0, .int .i64 0, .int .i64 0, .int .i64 0, .int .i64 0] 44))
  have hl2 := hR2.lt
  have hl3 := (hR2.call hB3).lt
  have hf := hyf.below (B' := w2.heap.size) (Nat.le_refl _)
  go_upto_region 2 with (refine wpList_store_blk hY0 row_rules13 rfl rfl rfl rfl rfl rfl (by kernel_rfl) ?_; intro w4 hY hS4; go_simp)
  have hR3 := hS4.far hR3 (by omega) hY0.1
  have hyok3 := hyok3.sto hS4 (hyok.apart (Nat.le_refl _))
  go_wp2_with (first | (refine wpList_load_blk hY row_rules13 rfl rfl rfl rfl ?_; go_simp) | (refine wpList_store_blk hR3 row_rules13 rfl rfl rfl rfl rfl rfl (by kernel_rfl) ?_; intro w9 hR9 hS9; go_simp))
  have hk := hyok3.sto hS9 (RuV.ne hf hl2)
  exact bodyPost_ret (results_c hR9 row_rules13 rfl Tryz.results11 rfl) rfl
    ⟨y, rfl, hy, hk, hS9.below hR3.later (by omega), RuV.mkfar (hyf.below (by omega)) hk (Nat.le_refl _)⟩
theorem row_conf : RowT Tryz.prog 38 10 := ⟨by kernel_rfl, by kernel_rfl⟩
theorem built_conf (c : Cm) : Tryz.prog.built 38 [(0, .string c.m), (1, .string c.x), (2, .string c.s), (3, .agg #[.int .i64 c.n.ic, .int .i64 c.n.fc, .int .i64 c.n.sc, .int .i64 c.n.mi, .int .i64 c.n.mf, .int .i64 c.n.md, .int .i64 c.n.hs])] = some c.cs := by kernel_rfl
set_option maxRecDepth 100000 in
set_option maxHeartbeats 4000000 in
theorem of13_any (c : Cm) (w : World) : Calls Tryz.prog 9 #[.agg c.cs] w (RV w (.agg c.cs)) := by
  have hX := (Blk.made w w 41 c.cs (Later.refl w) _ rfl).alloc (.cells #[.string { data := #[] }, .string { data := #[] }, .string { data := #[] }, .int .i64 0, .int .i64 0, .int .i64 0, .int .i64 0, .int .i64 0, .int .i64 0, .int .i64 0] 38)
  have hR := (Blk.made w (w.alloc (.cells c.cs 41)) 38 #[.string { data := #[] }, .string { data := #[] }, .string { data := #[] }, .int .i64 0, .int .i64 0, .int .i64 0, .int .i64 0, .int .i64 0, .int .i64 0, .int .i64 0] ((Later.refl w).alloc _) (w.heap.size + 1) (by simp))
  go_enter Tryz.func9, Tryz.ntmps9
  go_upto_region 1 with fail
  generalize World.alloc (World.alloc w _) _ = w1 at *
  have c0 : w1.cell? ⟨w.heap.size, 0, none⟩ = some (.string c.m) := hX.cell 0
  have c1 : w1.cell? ⟨w.heap.size, 1, none⟩ = some (.string c.x) := hX.cell 1
  have c2 : w1.cell? ⟨w.heap.size, 2, none⟩ = some (.string c.s) := hX.cell 2
  have hbt := built_conf c
  go_wp2_with (first | (refine wpList_load_part (hX.part 3 [.int .i64 c.n.ic, .int .i64 c.n.fc, .int .i64 c.n.sc, .int .i64 c.n.mi, .int .i64 c.n.mf, .int .i64 c.n.md, .int .i64 c.n.hs] rfl) row_limits13 rfl rfl rfl rfl ?_; go_simp) | (refine wpList_build_ _ _ rfl rfl ?_ hbt ?_; (exact rfl); go_simp) | (refine wpList_store_blk hR row_conf rfl rfl rfl rfl rfl rfl (by kernel_rfl) ?_; intro w9 hR9 hS9; go_simp))
  exact bodyPost_ret (results_c hR9 row_conf rfl Tryz.results9 rfl) rfl ⟨rfl, hS9.below hR.later (by omega)⟩

end Go.Proofs.YtickhmlhciafgaaGreat


namespace Go.Proofs.YtickhmlhciafgaaGreat
open Go.RowKit

theorem timesDc_may {d : Dc} (h : mayDc d = true) (k : Int) : mayDc (timesDc d k).1 = true := by
  obtain ⟨h1, h2, h3⟩ := mayDc_iff.1 h
  have := times_s (d := d) (by omega) k
  exact mayDc_iff.2 ⟨mayL_times k, by omega, by omega⟩
theorem addDc_may (a b : Dc) : mayDc (addDc a b).1 = true := mayDc_iff.2 ⟨mayL_add a b, (add_s a b).1, (add_s a b).2⟩
set_option maxRecDepth 100000 in
set_option maxHeartbeats 4000000 in
theorem cmove_any (x : RuV) {A : Option Addr} {n c : Nat} (D : Dc) (k : Int) (w : World) (hx : x.ok w) (hd : IL w A n c D.l) (hr : x.r.Bd) (iD : I64 D.l) (sD : -9223372036854775808 ≤ D.s ∧ D.s ≤ 9223372036854775807) (nD : n ≤ 2000) (hk : -9223372036854775808 ≤ k ∧ k ≤ 9223372036854775807) :
    Calls Tryz.prog 22 #[.agg x.cs, .agg #[.bool D.neg, .slice A n c, .int .i64 D.s], .int .i64 k] w (RCE w (moveC x.r D k).1 (moveC x.r D k).2) := by
  have hM : Hid (moveC x.r D k = if mayDc D then (if (timesDc x.r.st k).2 = 0 then valueC x.r (addDc D (timesDc x.r.st k).1).1 else (Dc.zero, (timesDc x.r.st k).2)) else (Dc.zero, 1)) := rfl
  have hmay := Lib.hid (fun W (hW : IL W A n c D.l) => show Calls Tryz.prog 56 #[.agg #[.bool D.neg, .slice A n c, .int .i64 D.s]] W (RV W (.bool (mayDc D))) from cmay_any D.neg D.s W hW iD sD)
  have hti := Lib.hid (fun W (hW : x.ok W) => show Calls Tryz.prog 60 #[.agg #[.bool x.r.st.neg, .slice x.A3 x.n3 x.c3, .int .i64 x.r.st.s], .int .i64 k] W (RCE W (timesDc x.r.st k).1 (timesDc x.r.st k).2) from
    ctimes_any _ _ k W hW.2.2 (may_bd hr.st.1).1 (by have := hW.2.2.len; have := hr.st.2; omega) (may_bd hr.st.1).2 hk)
  have htm := timesDc_may hr.st.1 k
  have htl := times_len (mayDc_iff.1 hr.st.1).1 hr.st.2 k
  have hlD := hd.len
  have hva := Lib.hid (fun (A : Option Addr) (n c : Nat) (E : Dc) W (hW : x.ok W) (hE : IL W A n c E.l) (iE : I64 E.l) (sE : -9223372036854775808 ≤ E.s ∧ E.s ≤ 9223372036854775807) (nE : E.l.length ≤ 5000) => show Calls Tryz.prog 14 #[.agg x.cs, .agg #[.bool E.neg, .slice A n c, .int .i64 E.s]] W (RCE W (valueC x.r E).1 (valueC x.r E).2) from
    cvalue_any x E W hW hE hr iE sE (by have := hE.len; omega))
  generalize hMM : moveC x.r D k = MM at *
  clear hMM
  obtain ⟨T, ec, hT⟩ : ∃ T ec, timesDc x.r.st k = (T, ec) := ⟨_, _, rfl⟩
  rw [hT] at hM hti htm htl
  clear hT
  simp only at hM hti htm htl
  have hX := ((Blk.made w w 32 x.cs (Later.refl w) _ rfl).alloc (.cells #[.bool D.neg, .slice A n c, .int .i64 D.s] 29)).alloc (.cells #[.bool false, .slice none 0 0, .int .i64 0] 29)
  have hE := (Blk.made w (w.alloc (.cells x.cs 32)) 29 #[.bool D.neg, .slice A n c, .int .i64 D.s] ((Later.refl w).alloc _) (w.heap.size + 1) (by simp)).alloc (.cells #[.bool false, .slice none 0 0, .int .i64 0] 29)
  have hR := Blk.made w ((w.alloc (.cells x.cs 32)).alloc (.cells #[.bool D.neg, .slice A n c, .int .i64 D.s] 29)) 29 #[.bool false, .slice none 0 0, .int .i64 0] (((Later.refl w).alloc _).alloc _) (w.heap.size + 2) (by simp)
  go_enter Tryz.func22, Tryz.ntmps22
  go_upto_region 1 with fail
  generalize World.alloc (World.alloc (World.alloc w _) _) _ = w1 at *
  cases hmd : mayDc D
  · rw [hmd] at hmay hM
    rw [if_neg (by simp)] at hM
    clear hmd
    go_wp2_with (refine wpList_load_blk hE row_dec rfl rfl rfl rfl ?_; go_simp)
    refine (hmay.out _ (hd.later hE.later)).mono ?_
    rintro e w2 ⟨rfl, hB2⟩
    have hR2 := hR.call hB2
    go_wp2_with (refine wpList_store_blk hR2 row_dec rfl rfl rfl rfl rfl rfl (by kernel_rfl) ?_; intro w9 hR9 hS9; go_simp)
    rw [hM.out]
    exact bodyPost_ret (results_ct hR9 row_dec rfl Tryz.results22 rfl rfl) rfl ⟨none, 0, 0, rfl, IL.nil _, hS9.below hR2.later (by omega), none_new _⟩
  · rw [hmd] at hmay hM
    rw [if_pos rfl] at hM
    have hmD := Lib.hid hmd
    clear hmd
    go_wp2_with (refine wpList_load_blk hE row_dec rfl rfl rfl rfl ?_; go_simp)
    refine (hmay.out _ (hd.later hE.later)).mono ?_
    rintro e w2 ⟨rfl, hB2⟩
    have hX2 := hX.call hB2
    have hE2 := hE.call hB2
    have hR2 := hR.call hB2
    clear hX hE hR
    go_wp2_with (refine wpList_load_part (hX2.part 6 [.bool x.r.st.neg, .slice x.A3 x.n3 x.c3, .int .i64 x.r.st.s] rfl) row_dec rfl rfl rfl rfl ?_; go_simp)
    refine (hti.out _ (hx.later hX2.later)).mono ?_
    rintro e w3 ⟨A3, n3, c3, rfl, hI3, hB3, _⟩
    have hF := Blk.made w w3 29 #[.bool T.neg, .slice A3 n3 c3, .int .i64 T.s] (hR2.call hB3).later _ rfl
    have hX3 := (hX2.call hB3).alloc (.cells #[.bool T.neg, .slice A3 n3 c3, .int .i64 T.s] 29)
    have hE3 := (hE2.call hB3).alloc (.cells #[.bool T.neg, .slice A3 n3 c3, .int .i64 T.s] 29)
    have hR3 := (hR2.call hB3).alloc (.cells #[.bool T.neg, .slice A3 n3 c3, .int .i64 T.s] 29)
    have hI3' := hI3.alloc (.cells #[.bool T.neg, .slice A3 n3 c3, .int .i64 T.s] 29)
    clear hX2 hE2 hR2 hI3
    go_upto_region 4 with fail
    generalize World.alloc w3 _ = w4 at *
    by_cases hec : ec = 0
    · subst hec
      rw [if_pos rfl] at hM
      have had := Lib.hid (fun W (h1 : IL W A n c D.l) (h2 : IL W A3 n3 c3 T.l) => show Calls Tryz.prog 61 #[.agg #[.bool D.neg, .slice A n c, .int .i64 D.s], .agg #[.bool T.neg, .slice A3 n3 c3, .int .i64 T.s]] W (RCE W (addDc D T).1 (addDc D T).2) from
        cadd_any _ _ _ _ W h1 h2 iD (may_bd htm).1 (by omega) (by have := h2.len; omega) sD (may_bd htm).2)
      have hal := add_len (M := 2004) (N := 1000) (mayDc_iff.1 hmD.out).1 (mayDc_iff.1 htm).1 (by omega) (by omega) (by have := (mayDc_iff.1 hmD.out).2; omega) (by have := (mayDc_iff.1 htm).2; omega)
      have ham : mayDc (addDc D T).1 = true := addDc_may _ _
      generalize addDc D T = S at *
      obtain ⟨S, es⟩ := S
      simp only at had hal ham hM
      go_wp2_with (first | (refine wpList_load_blk hE3 row_dec rfl rfl rfl rfl ?_; go_simp) | (refine wpList_load_blk hF row_dec rfl rfl rfl rfl ?_; go_simp))
      refine (had.out _ (hd.later hE3.later) hI3').mono ?_
      rintro e w5 ⟨A5, n5, c5, rfl, hI5, hB5, _⟩
      have hG := Blk.made w w5 29 #[.bool S.neg, .slice A5 n5 c5, .int .i64 S.s] (hR3.call hB5).later _ rfl
      have hX5 := (hX3.call hB5).alloc (.cells #[.bool S.neg, .slice A5 n5 c5, .int .i64 S.s] 29)
      have hR5 := (hR3.call hB5).alloc (.cells #[.bool S.neg, .slice A5 n5 c5, .int .i64 S.s] 29)
      have hI5' := hI5.alloc (.cells #[.bool S.neg, .slice A5 n5 c5, .int .i64 S.s] 29)
      clear hX3 hE3 hR3
      go_upto_region 7 with fail
      generalize World.alloc w5 _ = w6 at *
      go_wp2_with (first | (refine wpList_load_blk hX5 row_rules rfl rfl rfl rfl ?_; go_simp) | (refine wpList_load_blk hG row_dec rfl rfl rfl rfl ?_; go_simp))
      refine (hva.out _ _ _ _ _ (hx.later hX5.later) hI5' (may_bd ham).1 (may_bd ham).2 (by omega)).mono ?_
      rintro e w7 ⟨A7, n7, c7, rfl, hI7, hB7, hN7⟩
      have hR7 := hR5.call hB7
      have hl5 := hR5.lt
      go_wp2_with (refine wpList_store_blk hR7 row_dec rfl rfl rfl rfl rfl rfl (by kernel_rfl) ?_; intro w9 hR9 hS9; go_simp)
      rw [hM.out]
      exact bodyPost_ret (results_ct hR9 row_dec rfl Tryz.results22 rfl rfl) rfl ⟨A7, n7, c7, rfl, hS9.il hI7 (fun hz a ha => by have := hN7 hz a ha; omega), hS9.below hR7.later (by omega), fun hz a ha => by have := hN7 hz a ha; omega⟩
    · rw [if_neg hec] at hM
      have hb : (ec != (0 : Int)) = true := by simpa using hec
      go_wp2_with (refine wpList_store_blk hR3 row_dec rfl rfl rfl rfl rfl rfl (by kernel_rfl) ?_; intro w9 hR9 hS9; go_simp)
      rw [hM.out]
      exact bodyPost_ret (results_ct hR9 row_dec rfl Tryz.results22 rfl rfl) rfl ⟨none, 0, 0, rfl, IL.nil _, hS9.below hR3.later (by omega), none_new _⟩

end Go.Proofs.YtickhmlhciafgaaGreat


namespace Go.Proofs.YtickhmlhciafgaaGreat
open Go.RowKit

theorem Cm.Ok.ruOk {c : Cm} (h : c.Ok) : c.ru.Ok := by
  have fit : ∀ {s : ByteArray} {D : Dc}, TextOk c.n s D → mayDc (trimDc D) = true ∧ trimDc (trimDc D) = trimDc D ∧ fitsC c.n (trimDc D) = true := fun {s D} ht => by
    obtain ⟨_, _, h1, _, h2⟩ := ht
    obtain ⟨m1, m2, _⟩ := mayDc_iff.1 h1
    have e := trimDc_idem m1 m2
    refine ⟨mayDc_trim h1, e, ?_⟩
    unfold fitsC at h2 ⊢
    rw [e]
    exact h2
  exact ⟨h.n.ic, h.n.fc, h.n.sc, h.n.mi, h.n.mf, h.n.md, h.n.hs, fit h.m, fit h.x, fit h.s, h.row, h.pos, rfl⟩
theorem Ru.Ok.bd {r : Ru} (h : r.Ok) (n1 : r.lo.l.length ≤ 2000) (n2 : r.hi.l.length ≤ 2000) (n3 : r.st.l.length ≤ 2000) : r.Bd :=
  ⟨by have := h.ic; omega, by have := h.sc; have := h.fc; omega, h.md, ⟨h.lo.1, n1⟩, ⟨h.hi.1, n2⟩, ⟨h.st.1, n3⟩⟩
theorem Cm.Ok.ruBd {c : Cm} (h : c.Ok) : c.ru.Bd :=
  h.ruOk.bd (Nat.le_trans (trimDc_len _) h.m.2.2.2.1) (Nat.le_trans (trimDc_len _) h.x.2.2.2.1) (Nat.le_trans (trimDc_len _) h.s.2.2.2.1)
section
variable {P : Program} {C : World → Prop} {K : Act → Prop} {a : Act} {o : Oper} {w0 w : World} {g off n : Nat} {t ty : TypeId} {cs : Array Value}
/-- The load of a struct in a quiet region. -/
theorem quiet_load_part {l : List Value} (hR : ∀ W, C W → W.rangeAt g off l) (hT : RowT P ty n) (hn : l.length = n) {x : Operand} (ho : o.op = .load ty x) (hx : a.eval x = .pointer (some ⟨g, off, none⟩)) (hk : K (a.put o.dst (.agg l.toArray))) : o.quiet P a C K := by
  obtain ⟨h1, h2⟩ := hT
  cases hu : P.underlying ty with
  | none => simp [hu] at h1
  | some d =>
    rw [hu] at h1
    refine ⟨.agg l.toArray, fun W hW => ?_, hk⟩
    unfold Oper.quietAt execOp
    simp only [ho, hx, Instr.loadAt, Instr.sureAddr, Sem.run_bind, Sem.run_pure, Result.andThen_ok, run_loadVar_mid W g off ty l d (hR W hW) hu (by simpa using h1) (by rw [h2, hn])]
    exact ⟨rfl, rfl⟩
/-- .. of a block that is known whole, in what is later. -/
theorem quiet_load_blk (hB : Blk w0 g t cs w) (hT : RowT P ty n) (hn : cs.size = n) {x : Operand} (ho : o.op = .load ty x) (hx : a.eval x = .pointer (some ⟨g, 0, none⟩)) (hk : K (a.put o.dst (.agg cs))) : o.quiet P a (fun W => ∃ s : Ext w, W = s.world) K :=
  quiet_load_part (fun W ⟨s, hs⟩ => by rw [hs]; exact (hB.call s.h).range) hT (by simpa using hn) ho hx (by simpa using hk)
theorem quiet_load_of (hB : Blk w0 g t cs w) (off : Nat) (l : List Value) (hl : (cs.toList.drop off).take l.length = l) (hT : RowT P ty n) (hn : l.length = n) {x : Operand} (ho : o.op = .load ty x) (hx : a.eval x = .pointer (some ⟨g, off, none⟩)) (hk : K (a.put o.dst (.agg l.toArray))) : o.quiet P a (fun W => ∃ s : Ext w, W = s.world) K :=
  quiet_load_part (fun W ⟨s, hs⟩ => by rw [hs]; exact (hB.call s.h).part off l hl) hT hn ho hx hk
end

end Go.Proofs.YtickhmlhciafgaaGreat


namespace Go.Proofs.YtickhmlhciafgaaGreat
open Go.RowKit

theorem cmpDc_zero_iff {x y : Dc} (hx : mayDc x = true) (hy : mayDc y = true) (tx : trimDc x = x) (ty : trimDc y = y) : cmpDc x y = 0 ↔ x = y := by
  have ex := trimDc_canon (mayDc_iff.1 hx).1 (mayDc_iff.1 hx).2.1
  have ey := trimDc_canon (mayDc_iff.1 hy).1 (mayDc_iff.1 hy).2.1
  rw [tx] at ex
  rw [ty] at ey
  exact cmpDc_eq_zero ex ey
theorem cmpDc_trim2 {x y : Dc} (hx : mayDc x = true) (_hy : mayDc y = true) : cmpDc (trimDc x) y = cmpDc x y := cmpDc_trimL (mayDc_iff.1 hx).1 (mayDc_iff.1 hx).2.1
/-- A decimal that is trim is below 0 just if it bears the sign. -/
theorem neg_iff {x : Dc} (hx : mayDc x = true) (tx : trimDc x = x) : cmpDc x Dc.zero < 0 ↔ x.neg = true := by
  have hc := trimDc_canonic (mayDc_iff.1 hx).1 (mayDc_iff.1 hx).2.1
  rw [tx] at hc
  have e0 : Dc.zero.at_ x.s.toNat = 0 := by simp [Dc.at_, Dc.zero, Dc.z, val]
  have e1 : x.at_ x.s.toNat = x.z := by simp [Dc.at_]
  rw [cmpDc_at _ _ x.s.toNat (Nat.le_refl _) (Nat.zero_le _), e0, e1]
  have hv : 0 ≤ val x.l := (val_bd (mayDc_iff.1 hx).1).1
  cases hn : x.neg
  · have : x.z = val x.l := by simp [Dc.z, hn]
    unfold cmpI
    rw [this]
    constructor
    · intro h; split at h <;> (try split at h) <;> omega
    · intro h; cases h
  · have := canonic_neg hc hn
    unfold cmpI
    rw [if_pos this]
    simp
theorem fits_scale {n : Cn} {d : Dc} (h : fitsC n d = true) (h0 : 0 ≤ (trimDc d).s) : (trimDc d).s ≤ n.sc := by
  unfold fitsC at h
  simp only [Bool.and_eq_true, decide_eq_true_eq] at h
  have := parts_len (trimDc d).l (trimDc d).s.toNat
  omega
/-- The number, rounded. -/
def rndR (r : Ru) (d : Dc) : Dc := scaled r.n.sc.toNat (roundZ r.n.md d r.n.sc.toNat)
theorem rndR_may {r : Ru} (hr : r.Ok) (d : Dc) : mayDc (rndR r d) = true := scaled_may _ (by have := hr.sc; have := hr.fc; omega) _
theorem value_eq {r : Ru} (hr : r.Ok) {d : Dc} (hd : mayDc d = true) :
    valueC r d = if cmpDc (rndR r d) r.lo < 0 then (r.lo, 0) else if 0 < cmpDc (rndR r d) r.hi then (r.hi, 0) else (trimDc (rndR r d), 0) := by
  have h1 := hr.sc
  have h2 := hr.fc
  have e : roundDc d r.n.sc r.n.md = (rndR r d, 0) := by
    have := roundDc_in hd r.n.sc.toNat (by omega) r.n.md hr.md
    rw [Int.toNat_of_nonneg h1.1] at this
    exact this
  unfold valueC
  rw [e]
  simp only [if_true]
  unfold clampDc
  rw [rndR_may hr, hr.lo.1, hr.hi.1]
  simp only [Bool.and_self, if_true]
  rw [if_neg hr.row, hr.lo.2.1, hr.hi.2.1]
theorem value_code {r : Ru} (hr : r.Ok) {d : Dc} (hd : mayDc d = true) : (valueC r d).2 = 0 := by
  rw [value_eq hr hd]
  split
  · rfl
  · split <;> rfl
/-- What is within the bounds, and of the scale, is its own value. -/
theorem value_self {r : Ru} (hr : r.Ok) {d : Dc} (hd : mayDc d = true) (td : trimDc d = d) (hs : d.s ≤ r.n.sc) (h1 : ¬ cmpDc d r.lo < 0) (h2 : ¬ 0 < cmpDc d r.hi) : valueC r d = (d, 0) := by
  have hsc := hr.sc
  have hz : cmpDc (rndR r d) d = 0 := round_cmp_same hd r.n.md r.n.sc.toNat (by rw [td]; omega)
  have hm := rndR_may hr d
  have ht : trimDc (rndR r d) = d := by
    refine (cmpDc_zero_iff (mayDc_trim hm) hd (trimDc_idem (mayDc_iff.1 hm).1 (mayDc_iff.1 hm).2.1) td).1 ?_
    rw [cmpDc_trim2 hm hd]; exact hz
  have e1 : cmpDc (rndR r d) r.lo = cmpDc d r.lo := by rw [← cmpDc_trim2 hm hr.lo.1, ht]
  have e2 : cmpDc (rndR r d) r.hi = cmpDc d r.hi := by rw [← cmpDc_trim2 hm hr.hi.1, ht]
  rw [value_eq hr hd, e1, e2, if_neg h1, if_neg h2, ht]
theorem lo_scale {r : Ru} (hr : r.Ok) : r.lo.s ≤ r.n.sc := by
  have := fits_scale hr.lo.2.2 (by rw [hr.lo.2.1]; exact (mayDc_iff.1 hr.lo.1).2.1)
  rwa [hr.lo.2.1] at this
theorem hi_scale {r : Ru} (hr : r.Ok) : r.hi.s ≤ r.n.sc := by
  have := fits_scale hr.hi.2.2 (by rw [hr.hi.2.1]; exact (mayDc_iff.1 hr.hi.1).2.1)
  rwa [hr.hi.2.1] at this
theorem value_lo {r : Ru} (hr : r.Ok) : valueC r r.lo = (r.lo, 0) :=
  value_self hr hr.lo.1 hr.lo.2.1 (lo_scale hr) (by rw [cmpDc_self]; omega) hr.row
theorem value_hi {r : Ru} (hr : r.Ok) : valueC r r.hi = (r.hi, 0) :=
  value_self hr hr.hi.1 hr.hi.2.1 (hi_scale hr) (by have := hr.row; rw [cmpDc_swap]; omega) (by rw [cmpDc_self]; omega)
/-- A value: may be, trim, within the bounds, of the scale. -/
theorem value_in {r : Ru} (hr : r.Ok) {d : Dc} (hd : mayDc d = true) :
    mayDc (valueC r d).1 = true ∧ trimDc (valueC r d).1 = (valueC r d).1 ∧ ¬ cmpDc (valueC r d).1 r.lo < 0 ∧ ¬ 0 < cmpDc (valueC r d).1 r.hi ∧ (valueC r d).1.s ≤ r.n.sc := by
  have hm := rndR_may hr d
  have hrow := hr.row
  rw [value_eq hr hd]
  split
  · exact ⟨hr.lo.1, hr.lo.2.1, by rw [cmpDc_self]; omega, hr.row, lo_scale hr⟩
  · rename_i h1
    split
    · exact ⟨hr.hi.1, hr.hi.2.1, by show ¬ cmpDc r.hi r.lo < 0; rw [cmpDc_swap]; omega, by rw [cmpDc_self]; omega, hi_scale hr⟩
    · rename_i h2
      refine ⟨mayDc_trim hm, trimDc_idem (mayDc_iff.1 hm).1 (mayDc_iff.1 hm).2.1, ?_, ?_, ?_⟩
      · show ¬ cmpDc (trimDc (rndR r d)) r.lo < 0
        rw [cmpDc_trim2 hm hr.lo.1]; exact h1
      · show ¬ 0 < cmpDc (trimDc (rndR r d)) r.hi
        rw [cmpDc_trim2 hm hr.hi.1]; exact h2
      · have := (scaled_trim r.n.sc.toNat (by have := hr.sc; have := hr.fc; omega) (roundZ r.n.md d r.n.sc.toNat)).2
        have := hr.sc
        show (trimDc (rndR r d)).s ≤ r.n.sc
        unfold rndR
        omega
/-- A greater number's value is no less. -/
theorem value_mono {r : Ru} (hr : r.Ok) {x y : Dc} (hx : mayDc x = true) (hy : mayDc y = true) (h : ¬ 0 < cmpDc x y) : ¬ 0 < cmpDc (valueC r x).1 (valueC r y).1 := by
  have hmx := rndR_may hr x
  have hmy := rndR_may hr y
  have hmono : cmpDc (rndR r x) (rndR r y) ≤ 0 := ((round_mono hx hy r.n.md r.n.sc.toNat).1).resolve_left h
  obtain ⟨a1, a2, a3, a4, _⟩ := value_in hr hx
  obtain ⟨b1, b2, b3, b4, _⟩ := value_in hr hy
  rw [value_eq hr hx] at a3 a4 ⊢
  rw [value_eq hr hy] at b3 b4 ⊢
  have hrow := hr.row
  by_cases h1 : cmpDc (rndR r x) r.lo < 0
  · rw [if_pos h1]
    simp only
    rw [cmpDc_swap]
    omega
  · rw [if_neg h1] at a3 a4 ⊢
    by_cases g1 : 0 < cmpDc (rndR r y) r.hi ∧ ¬ cmpDc (rndR r y) r.lo < 0
    · rw [if_neg g1.2, if_pos g1.1]
      exact a4
    · by_cases h2 : 0 < cmpDc (rndR r x) r.hi
      · rw [if_pos h2]
        -- then y's number is above hi too
        have k1 : cmpDc r.hi (rndR r x) ≤ 0 := by rw [cmpDc_swap]; omega
        have k2 := cmpDc_trans k1 hmono
        by_cases g2 : cmpDc (rndR r y) r.lo < 0
        · have k3 : cmpDc r.hi r.lo ≤ 0 := cmpDc_trans k2 (by omega)
          rw [if_pos g2]
          simp only
          omega
        · rw [if_neg g2]
          have g3 : ¬ 0 < cmpDc (rndR r y) r.hi := fun g => g1 ⟨g, g2⟩
          rw [if_neg g3]
          simp only
          have k4 : cmpDc (trimDc (rndR r y)) r.hi = -cmpDc r.hi (trimDc (rndR r y)) := by rw [← cmpDc_swap]
          rw [cmpDc_trim2 hmy hr.hi.1] at k4
          have k5 : cmpDc (rndR r y) r.hi = -cmpDc r.hi (rndR r y) := by rw [← cmpDc_swap]
          omega
      · rw [if_neg h2]
        by_cases g2 : cmpDc (rndR r y) r.lo < 0
        · have k2 := cmpDc_trans hmono (show cmpDc (rndR r y) r.lo ≤ 0 by omega)
          rw [if_pos g2]
          show ¬ 0 < cmpDc (trimDc (rndR r x)) r.lo
          rw [cmpDc_trim2 hmx hr.lo.1]
          omega
        · rw [if_neg g2, if_neg (fun g => g1 ⟨g, g2⟩)]
          show ¬ 0 < cmpDc (trimDc (rndR r x)) (trimDc (rndR r y))
          rw [cmpDc_trim (mayDc_iff.1 hmx).1 (mayDc_iff.1 hmx).2.1 (mayDc_iff.1 hmy).1 (mayDc_iff.1 hmy).2.1]
          omega

end Go.Proofs.YtickhmlhciafgaaGreat


namespace Go.Proofs.YtickhmlhciafgaaGreat
open Go.RowKit

theorem as13_any (b : Bool) (A : Option Addr) (n c : Nat) (s : Int) (w : World) : Calls Tryz.prog 18 #[.agg #[.bool b, .slice A n c, .int .i64 s]] w (RV w (.agg #[.bool b, .slice A n c, .int .i64 s])) := by
  have hX := (Blk.made w w 29 #[.bool b, .slice A n c, .int .i64 s] (Later.refl w) _ rfl).alloc (.cells #[.bool false, .slice none 0 0, .int .i64 0] 24)
  have hR := (Blk.made w (w.alloc (.cells #[.bool b, .slice A n c, .int .i64 s] 29)) 24 #[.bool false, .slice none 0 0, .int .i64 0] ((Later.refl w).alloc _) (w.heap.size + 1) (by simp))
  go_enter Tryz.func18, Tryz.ntmps18
  go_upto_region 1 with fail
  generalize World.alloc (World.alloc w _) _ = w1 at *
  go_wp2_with (first | (refine wpList_load_blk hX row_dec rfl rfl rfl rfl ?_; go_simp) | (refine wpList_store_blk hR row_dec6 rfl rfl rfl rfl rfl rfl (by kernel_rfl) ?_; intro w9 hR9 hS9; go_simp))
  exact bodyPost_ret (results_c hR9 row_dec6 rfl Tryz.results18 rfl) rfl ⟨rfl, hS9.below hR.later (by omega)⟩
theorem dec13_any (b : Bool) (A : Option Addr) (n c : Nat) (s : Int) (w : World) : Calls Tryz.prog 15 #[.agg #[.bool b, .slice A n c, .int .i64 s]] w (RV w (.agg #[.bool b, .slice A n c, .int .i64 s])) := by
  have hX := (Blk.made w w 24 #[.bool b, .slice A n c, .int .i64 s] (Later.refl w) _ rfl).alloc (.cells #[.bool false, .slice none 0 0, .int .i64 0] 29)
  have hR := (Blk.made w (w.alloc (.cells #[.bool b, .slice A n c, .int .i64 s] 24)) 29 #[.bool false, .slice none 0 0, .int .i64 0] ((Later.refl w).alloc _) (w.heap.size + 1) (by simp))
  go_enter Tryz.func15, Tryz.ntmps15
  go_upto_region 1 with fail
  generalize World.alloc (World.alloc w _) _ = w1 at *
  go_wp2_with (first | (refine wpList_load_blk hX row_dec6 rfl rfl rfl rfl ?_; go_simp) | (refine wpList_store_blk hR row_dec rfl rfl rfl rfl rfl rfl (by kernel_rfl) ?_; intro w9 hR9 hS9; go_simp))
  exact bodyPost_ret (results_c hR9 row_dec rfl Tryz.results15 rfl) rfl ⟨rfl, hS9.below hR.later (by omega)⟩
def n13 : Cn := ⟨3, 2, 1, 0, 0, 6, 1⟩
def c13 : Cm := ⟨n13, { data := #[48] }, { data := #[57, 57, 46, 53] }, { data := #[48, 46, 53] }, ⟨false, [0], 0⟩, ⟨false, [9, 9, 5], 1⟩, ⟨false, [0, 5], 1⟩⟩
theorem c13_ok : c13.Ok :=
  ⟨⟨by decide, by decide, by decide, by decide, by decide, by decide, by decide⟩,
    ⟨by decide, by kernel_rfl, by decide, by decide, by kernel_rfl⟩, ⟨by decide, by kernel_rfl, by decide, by decide, by kernel_rfl⟩, ⟨by decide, by kernel_rfl, by decide, by decide, by kernel_rfl⟩,
    by decide +kernel, by decide +kernel⟩
theorem v13_1 : valueC c13.ru ⟨false, [7, 2, 5], 2⟩ = (⟨false, [7, 2], 1⟩, 0) := by kernel_rfl
theorem v13_2 : moveC c13.ru ⟨false, [7], 0⟩ (-3) = (⟨false, [5, 5], 1⟩, 0) := by kernel_rfl

end Go.Proofs.YtickhmlhciafgaaGreat

