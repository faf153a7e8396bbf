/- Which configurations may be, and of others where something is wrong, and what: the walk. No condition. -/
import Derived.Test.YtjinbhnpcdlkiaaGreatDoorMa30
namespace Go.Proofs.YtjinbhnpcdlkiaaGreatDoor
open Go.RowKit
set_option linter.unusedVariables false

/-- A configuration of texts of 20 bytes at most. -/
def cutC (c : Cm) : Cm := ⟨c.n, fewB c.m 20, fewB c.x 20, fewB c.s 20, Dc.zero, Dc.zero, Dc.zero⟩
theorem cutC_sized (c : Cm) : (cutC c).sized 2000 := ⟨Nat.le_trans (fewB_size _ _) (by omega), Nat.le_trans (fewB_size _ _) (by omega), Nat.le_trans (fewB_size _ _) (by omega)⟩
theorem goodG_sized (g : Gv) : (goodG g).sized 2000 := ⟨(goodG_ok g).m.1, (goodG_ok g).x.1, (goodG_ok g).s.1⟩
def Cm.new (c : Cm) : Ru × ByteArray × Int := newC c.n c.m c.x c.s
set_option maxRecDepth 100000 in
set_option maxHeartbeats 4000000 in
theorem configChecks_walk (w : World) (hG : Gl w) (c : Cm) (x : GV) (hx : x.ok w) (hb : x.Bd) {k0 : Int} (hk : -9223372036854775808 ≤ k0 ∧ k0 ≤ 9223372036854775807) {n0 : Int} (hn : -9223372036854775808 ≤ n0 ∧ n0 ≤ 9223372036854775807) (t0 : ByteArray) :
    Calls Tryz.prog 3 #[.agg c.cs, .agg x.cs, .int .i64 k0, .int .i64 n0, .string t0] w (RV w (.bool true)) := by
  have hfw := Lib.hid (fun s W => show Calls Tryz.prog 4 #[.string s, .int .i64 20] W (RV W (.string (fewB s 20))) from (few_any s 20 W (by omega)).mono fun e W' ⟨h1, h2⟩ => ⟨h1, by rw [h2]; exact Below.refl _ _⟩)
  have har := Lib.hid (fun W => show Calls Tryz.prog 7 #[.int .i64 n0, .int .i64 12] W (RV W (.int .i64 (around n0 12))) from (around_any n0 12 W hn.1 hn.2 (by omega) (by omega)).mono fun e W' ⟨h1, h2⟩ => ⟨h1, by rw [h2]; exact Below.refl _ _⟩)
  have hgo := Lib.hid (fun W (h : x.ok W) => rgood13_any x W h hb)
  have hch := Lib.hid (fun (c : Cm) v t W => changed_any c k0 v t W hk.1 hk.2)
  have hgs := goodG_sized x.g
  generalize goodG x.g = g at *
  generalize around n0 12 = a12 at *
  have hcs := cutC_sized c
  have hts : (fewB t0 20).size ≤ 2000 := Nat.le_trans (fewB_size _ _) (by omega)
  have hX0 := ((Blk.made w w 25 c.cs (Later.refl w) (w.heap.size) (by simp)).alloc (.cells x.cs 30))
  have hX1 := (Blk.made w (w.alloc (.cells c.cs 25)) 30 x.cs ((Later.refl w).alloc _) (w.heap.size + 1) (by simp))
  go_enter Tryz.func3, Tryz.ntmps3
  go_upto_region 1 with fail
  generalize World.alloc (World.alloc w _) _ = w0 at *
  have c0 : w0.cell? ⟨w.heap.size, 0, none⟩ = some (.string c.m) := hX0.cell 0
  go_wp2_with fail
  refine (hfw.out _ _).mono ?_
  rintro e v0 ⟨rfl, hB⟩
  have hX0n := hX0.call hB
  have hX1n := hX1.call hB
  have c1 : v0.cell? ⟨w.heap.size, 0, none⟩ = some (.string c.m) := hX0n.cell 0
  have f1 := hX0n.free 0
  clear c0 hX0 hX1
  have hX0 := hX0n.set_ 0 (.string (fewB c.m 20))
  have hX1 := (Sto.set v0 ⟨w.heap.size, 0, none⟩ (.string (fewB c.m 20))).far hX1n (by show w.heap.size + 1 ≠ w.heap.size; omega) (Nat.le_refl _)
  go_upto_region 2 with fail
  clear c1 f1 hX0n hX1n hB
  generalize World.setCell v0 _ _ = w1 at *
  have c0 : w1.cell? ⟨w.heap.size, 1, none⟩ = some (.string c.x) := hX0.cell 1
  go_wp2_with fail
  refine (hfw.out _ _).mono ?_
  rintro e v0 ⟨rfl, hB⟩
  have hX0n := hX0.call hB
  have hX1n := hX1.call hB
  have c1 : v0.cell? ⟨w.heap.size, 1, none⟩ = some (.string c.x) := hX0n.cell 1
  have f1 := hX0n.free 1
  clear c0 hX0 hX1
  have hX0 := hX0n.set_ 1 (.string (fewB c.x 20))
  have hX1 := (Sto.set v0 ⟨w.heap.size, 1, none⟩ (.string (fewB c.x 20))).far hX1n (by show w.heap.size + 1 ≠ w.heap.size; omega) (Nat.le_refl _)
  go_upto_region 3 with fail
  clear c1 f1 hX0n hX1n hB
  generalize World.setCell v0 _ _ = w2 at *
  have c0 : w2.cell? ⟨w.heap.size, 2, none⟩ = some (.string c.s) := hX0.cell 2
  go_wp2_with fail
  refine (hfw.out _ _).mono ?_
  rintro e v0 ⟨rfl, hB⟩
  have hX0n := hX0.call hB
  have hX1n := hX1.call hB
  have c1 : v0.cell? ⟨w.heap.size, 2, none⟩ = some (.string c.s) := hX0n.cell 2
  have f1 := hX0n.free 2
  clear c0 hX0 hX1
  have hX0 := hX0n.set_ 2 (.string (fewB c.s 20))
  have hX1 := (Sto.set v0 ⟨w.heap.size, 2, none⟩ (.string (fewB c.s 20))).far hX1n (by show w.heap.size + 1 ≠ w.heap.size; omega) (Nat.le_refl _)
  go_upto_region 4 with fail
  clear c1 f1 hX0n hX1n hB
  generalize World.setCell v0 _ _ = w3 at *
  have hC : Blk w w.heap.size 25 (cutC c).cs w3 := hX0
  generalize cutC c = d at *
  clear hX0
  go_wp2_with (refine wpList_load_blk hX1 row_made13 rfl rfl rfl rfl ?_; go_simp)
  refine (hgo.out _ (hx.later hX1.later)).mono ?_
  rintro e w4 ⟨rfl, hB4⟩
  have hD0 := Blk.made w w4 25 #[.string { data := #[] }, .string { data := #[] }, .string { data := #[] }, .int .i64 0, .int .i64 0, .int .i64 0, .int .i64 0, .int .i64 0, .int .i64 0, .int .i64 0] (hC.call hB4).later _ rfl
  have hC4 := (hC.call hB4).alloc (.cells #[.string { data := #[] }, .string { data := #[] }, .string { data := #[] }, .int .i64 0, .int .i64 0, .int .i64 0, .int .i64 0, .int .i64 0, .int .i64 0, .int .i64 0] 25)
  have hlt := hC4.lt
  have hlt4 := (hX1.call hB4).lt
  go_upto_region 5 with (refine wpList_store_blk hD0 row_conf13 rfl rfl rfl rfl rfl rfl (by kernel_rfl) ?_; intro w5 hD hS5; go_simp)
  have hC5 := hS5.far hC4 (by omega) hD0.1
  clear hC hX1 hD0 hC4 hS5 hgo
  generalize w4.heap.size = gD at *
  have z1 := fun s : Ext w5 => Ext.cell (show w5.cell? ⟨gD, 1, none⟩ = some (.string g.x) from hD.cell 1) s
  refine wp_ext_tail 15 (by kernel_rfl) (by kernel_rfl) (by kernel_rfl) (by kernel_rfl) (by kernel_rfl) (by kernel_rfl) (by simp) (by kernel_rfl) ?_
  simp only [List.take_succ_cons, List.take_zero, List.drop_succ_cons, List.drop_zero]
  repeat (first
    | (go_big_quiet_want; refine quiet_load_blk hC5 row_conf13 rfl rfl rfl ?_; go_simp; go_big_quiet_on)
    | (go_big_quiet_want; refine quiet_load_blk hD row_conf13 rfl rfl rfl ?_; go_simp; go_big_quiet_on)
    | (go_big_quiet_step (first
      | (go_at_call 4; exact quiet_ext _ (hfw.out _ _))
      | (go_at_call 7; exact quiet_ext _ (har.out _))
      | (go_at_call 6; exact quiet_ext _ (hch.out _ _ _ _)))))
  refine wpQuiet_nil ?_
  rintro _ ⟨s, rfl⟩
  have hL6 : Later w s.world := hD.later.call s.h
  clear z1
  generalize s.world = w6 at *
  have hsa := changedC_sized (k := around k0 10) (v := n0) hgs hts
  have hsb := changedC_sized (k := around k0 10) (v := a12) hgs hgs.2.1
  generalize changedC g (around k0 10) n0 (fewB t0 20) = ca at *
  generalize changedC g (around k0 10) a12 g.x = cb at *
  refine wpList_run1 rfl (exec_buildSlice [(0, .agg d.cs), (1, .agg g.cs), (2, .agg ca.cs), (3, .agg cb.cs)] rfl rfl (buildSlice4 d g ca cb _)) ?_
  go_simp
  have hB0 := Blk.made w w6 25 (cells4 d g ca cb) hL6 _ rfl
  obtain ⟨F, hF⟩ := rows4 d g ca cb hcs hgs hsa hsb
  have hF := Lib.hid hF
  generalize cells4 d g ca cb = CS at *
  generalize World.alloc w6 _ = w7 at *
  generalize w6.heap.size = gs at *
  clear hfw har hch hgs hcs hts hsa hsb hC5 hD hx hb hlt hlt4
  go_wp2_with fail
  go_loopw [13] (fun i wr => ∃ k : Nat, k ≤ 4 ∧ i = .int .i64 k ∧ Blk w gs 25 CS wr) (fun i _ => 4 - (intOf i).toNat)
  case atStart => exact ⟨0, by omega, rfl, hB0⟩
  case round =>
    obtain ⟨k, hk4, rfl, hB⟩ := hrel
    clear hB0
    by_cases hlt : k < 4
    · obtain ⟨⟨sm, sx, ss⟩, hrow⟩ := hF.out k hlt
      generalize F k = q at *
      have hrow := Lib.hid (fun W h => hrow w gs 25 W h)
      have hnew := Lib.hid (fun W => show Calls Tryz.prog 8 #[.agg q.cs] W (RNewE W q.new) from cnew_any q.n q.m q.x q.s W sm sx ss)
      have hrnew := Lib.hid (fun W => show Calls Tryz.prog 10 #[.agg q.cs] W (RNew13E W q.new) from rnew_any q.n q.m q.x q.s W sm sx ss)
      have hqs : q.cs.toList.length = 10 := rfl
      generalize q.new = X at *
      obtain ⟨R, wh, code⟩ := X
      have hk0 : (0 : Int) ≤ (k : Int) := by omega
      have hkc : (k : Int) < 4 := by omega
      go_wp2_with (refine wpList_load_part (hrow.out _ hB) row_conf13 hqs rfl rfl rfl ?_; go_simp)
      refine (of13_any q _).mono ?_
      rintro e v1 ⟨rfl, hB1⟩
      go_wp2_with fail
      refine (hnew.out _).mono ?_
      rintro e v2 ⟨y, v, rfl, hyr, hyok, hE, hB2, hyf⟩
      have hY0 := Blk.made w v2 39 #[.bool false, .slice none 0 0, .int .i64 0, .bool false, .slice none 0 0, .int .i64 0, .bool false, .slice none 0 0, .int .i64 0, .bool false, .int .i64 0, .int .i64 0, .int .i64 0, .int .i64 0, .int .i64 0, .int .i64 0, .int .i64 0] ((hB.call hB1).call hB2).later _ rfl
      have hlv : w.heap.size ≤ v2.heap.size := ((hB.call hB1).call hB2).later.size
      go_upto_region 10 with (refine wpList_store_blk hY0 row_rules rfl rfl rfl rfl rfl rfl (by kernel_rfl) ?_; intro v3 hY hS3; go_simp)
      have hbl : Below v2.heap.size v2 v3 := hS3.below ((Below.refl _ _).alloc (Nat.le_refl _) _) (Nat.le_refl _)
      have hE3 := hE.below hbl
      have hyok3 := hyok.later hbl
      have hB3 := ((hB.call hB1).call hB2).call hbl
      clear hE hyok hB hB1 hB2 hY0 hS3 hyf hbl hlv hnew
      generalize v2.heap.size = gy at *
      go_wp2_with (refine wpList_load_part (hrow.out _ hB3) row_conf13 hqs rfl rfl rfl ?_; go_simp)
      refine (hrnew.out _).mono ?_
      rintro e v4 ⟨z, rfl, hzr, hzok, hB4, hzf⟩
      have hZ0 := Blk.made w v4 48 #[.bool false, .slice none 0 0, .int .i64 0, .bool false, .slice none 0 0, .int .i64 0, .bool false, .slice none 0 0, .int .i64 0, .bool false, .int .i64 0, .int .i64 0, .int .i64 0, .int .i64 0, .int .i64 0, .int .i64 0, .int .i64 0] (hB3.call hB4).later _ rfl
      have hlv : w.heap.size ≤ v4.heap.size := (hB3.call hB4).later.size
      have hlY := hY.lt
      have hY4 := (hY.call hB4).alloc (.cells #[.bool false, .slice none 0 0, .int .i64 0, .bool false, .slice none 0 0, .int .i64 0, .bool false, .slice none 0 0, .int .i64 0, .bool false, .int .i64 0, .int .i64 0, .int .i64 0, .int .i64 0, .int .i64 0, .int .i64 0, .int .i64 0] 48)
      have hs4 := Below.size hB4
      go_upto_region 11 with (refine wpList_store_blk hZ0 row_rules13 rfl rfl rfl rfl rfl rfl (by kernel_rfl) ?_; intro v5 hZ hS5; go_simp)
      have hbl : Below v4.heap.size v4 v5 := hS5.below ((Below.refl _ _).alloc (Nat.le_refl _) _) (Nat.le_refl _)
      have hzy : y.r = z.r := hyr.trans hzr.symm
      have hE5 := (hE3.below hB4).below hbl
      have hY5 := hS5.far hY4 (by omega) hlv
      have hyok5 := (hyok3.later hB4).later hbl
      have hzok5 := hzok.later hbl
      have hB5 := (hB3.call hB4).call hbl
      clear hE3 hyok3 hB3 hB4 hZ0 hS5 hzf hbl hlv hrnew hY hY4 hyr hzr hlY hs4 hzok
      generalize v4.heap.size = gz at *
      have hlk := Lib.hid (fun W (h1 : y.ok W) (h2 : z.ok W) => like_any y z W h1 h2 hzy)
      have hG5 := hG.below hB5.later
      have hys : y.cs.size = 17 := rfl
      have hzs : z.cs.size = 17 := rfl
      have hE5 : ErrV _ v5 wh code v := hE5
      rcases hE5 with ⟨rfl, rfl⟩ | ⟨hc0, p, hp, rfl, hch⟩
      · as_aux_lemma =>
        go_wp2_with fail
        refine (code_nil _).mono ?_
        rintro e v6 ⟨rfl, hb6⟩
        have hY6 := hY5.call hb6
        have hZ6 := hZ.call hb6
        have hB6 := hB5.call hb6
        go_wp2_with (first | (refine wpList_load_blkg hY6 row_rules hys rfl rfl rfl ?_; go_simp) | (refine wpList_load_blkg hZ6 row_rules13 hzs rfl rfl rfl ?_; go_simp))
        refine (hlk.out _ (hyok5.later hb6) (hzok5.later hb6)).mono ?_
        rintro e v7 ⟨rfl, hb7⟩
        have hB7 := hB6.call hb7
        go_wp2_with fail
        go_roundw
        case rel => exact ⟨k + 1, by omega, by go_num, hB7⟩
        case measure => simp [intOf]; omega
      · as_aux_lemma =>
        have hcb : (code == 0) = false := by simpa using hc0
        go_wp2_with fail
        refine (code_any code _ _ _ _ hG5 hch (Nat.le_refl _)).mono ?_
        rintro e v6 ⟨rfl, hb6⟩
        have hY6 := hY5.call hb6
        have hZ6 := hZ.call hb6
        have hB6 := hB5.call hb6
        have hch6 := hch.below hb6 (Nat.le_refl _)
        have hs6 := Below.size hb6
        go_wp2_with (first | (refine wpList_load_blkg hY6 row_rules hys rfl rfl rfl ?_; go_simp) | (refine wpList_load_blkg hZ6 row_rules13 hzs rfl rfl rfl ?_; go_simp))
        refine (hlk.out _ (hyok5.later hb6) (hzok5.later hb6)).mono ?_
        rintro e v7 ⟨rfl, hb7⟩
        have hB7 := hB6.call hb7
        have hch7 := hch6.below hb7 hs6
        have hs7 := Below.size hb7
        go_wp2_with fail
        refine (path_any code _ _ _ _ (hG.below hB7.later) hch7 (by omega) (by simp)).mono ?_
        rintro e v8 ⟨A8, n8, c8, rfl, hO8, hb8⟩
        have hB8 := hB7.call hb8
        go_wp2_with fail
        refine (texts_any _ _ _ _ _ _ _ _ _ (SO.sl (OV.alloc hO8 _)) (SL.one _ _ _)).mono ?_
        rw [decide_eq_true (rfl : [wh] = [wh])]
        rintro e v9 ⟨rfl, k9, rfl⟩
        go_wp2_with fail
        go_roundw
        case rel => exact ⟨k + 1, by omega, by go_num, (hB8.alloc _).call (below_drewN _ _ _)⟩
        case measure => simp [intOf]; omega
    · go_wp2_with fail
      refine (lives13_any _).mono ?_
      rintro e v9 ⟨rfl, hb9⟩
      go_wp2_with fail
      go_ret
      exact ⟨rfl, hB.later.call hb9⟩

end Go.Proofs.YtjinbhnpcdlkiaaGreatDoor

