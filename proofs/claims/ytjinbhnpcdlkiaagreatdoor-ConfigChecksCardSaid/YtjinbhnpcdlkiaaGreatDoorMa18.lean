/- Rules as an array of seventeen cells; struct types of the program. No condition. -/
import Derived.Test.YtjinbhnpcdlkiaaGreatDoorMa17
import Derived.Test.YtjinbhnpcdlkiaaGreatDoorMa04
import Derived.Deep.MidRow
import Derived.StillTailTactics
namespace Go.Proofs.YtjinbhnpcdlkiaaGreatDoor
open Go.RowKit

theorem arr17 (a0 a1 a2 a3 a4 a5 a6 a7 a8 a9 a10 a11 a12 a13 a14 a15 a16 u0 u1 u2 u3 u4 u5 u6 u7 u8 u9 u10 u11 u12 u13 u14 u15 u16 : Value) : ((((((((((((((((((#[a0, a1, a2, a3, a4, a5, a6, a7, a8, a9, a10, a11, a12, a13, a14, a15, a16] : Array Value).setIfInBounds 0 u0).setIfInBounds 1 u1).setIfInBounds 2 u2).setIfInBounds 3 u3).setIfInBounds 4 u4).setIfInBounds 5 u5).setIfInBounds 6 u6).setIfInBounds 7 u7).setIfInBounds 8 u8).setIfInBounds 9 u9).setIfInBounds 10 u10).setIfInBounds 11 u11).setIfInBounds 12 u12).setIfInBounds 13 u13).setIfInBounds 14 u14).setIfInBounds 15 u15).setIfInBounds 16 u16) = (#[u0, u1, u2, u3, u4, u5, u6, u7, u8, u9, u10, u11, u12, u13, u14, u15, u16] : Array Value) := by kernel_rfl
theorem Blk.store17 {w0 W : World} {g : Nat} {t : TypeId} {a0 a1 a2 a3 a4 a5 a6 a7 a8 a9 a10 a11 a12 a13 a14 a15 a16 : Value} (h : Blk w0 g t #[a0, a1, a2, a3, a4, a5, a6, a7, a8, a9, a10, a11, a12, a13, a14, a15, a16] W) (u0 u1 u2 u3 u4 u5 u6 u7 u8 u9 u10 u11 u12 u13 u14 u15 u16 : Value) : Blk w0 g t #[u0, u1, u2, u3, u4, u5, u6, u7, u8, u9, u10, u11, u12, u13, u14, u15, u16] (((((((((((((((((W.setCell ⟨g, 0, none⟩ u0).setCell ⟨g, 1, none⟩ u1).setCell ⟨g, 2, none⟩ u2).setCell ⟨g, 3, none⟩ u3).setCell ⟨g, 4, none⟩ u4).setCell ⟨g, 5, none⟩ u5).setCell ⟨g, 6, none⟩ u6).setCell ⟨g, 7, none⟩ u7).setCell ⟨g, 8, none⟩ u8).setCell ⟨g, 9, none⟩ u9).setCell ⟨g, 10, none⟩ u10).setCell ⟨g, 11, none⟩ u11).setCell ⟨g, 12, none⟩ u12).setCell ⟨g, 13, none⟩ u13).setCell ⟨g, 14, none⟩ u14).setCell ⟨g, 15, none⟩ u15).setCell ⟨g, 16, none⟩ u16) := by
  have q := (((((((((((((((((h.set_ 0 u0).set_ 1 u1).set_ 2 u2).set_ 3 u3).set_ 4 u4).set_ 5 u5).set_ 6 u6).set_ 7 u7).set_ 8 u8).set_ 9 u9).set_ 10 u10).set_ 11 u11).set_ 12 u12).set_ 13 u13).set_ 14 u14).set_ 15 u15).set_ 16 u16)
  rw [arr17] at q
  exact q
theorem IL.set17 {W : World} {A : Option Addr} {n c : Nat} {l : List Int} (h : IL W A n c l) {g : Nat} (hp : 0 < n → ∀ a, A = some a → a.block ≠ g) (u0 u1 u2 u3 u4 u5 u6 u7 u8 u9 u10 u11 u12 u13 u14 u15 u16 : Value) : IL (((((((((((((((((W.setCell ⟨g, 0, none⟩ u0).setCell ⟨g, 1, none⟩ u1).setCell ⟨g, 2, none⟩ u2).setCell ⟨g, 3, none⟩ u3).setCell ⟨g, 4, none⟩ u4).setCell ⟨g, 5, none⟩ u5).setCell ⟨g, 6, none⟩ u6).setCell ⟨g, 7, none⟩ u7).setCell ⟨g, 8, none⟩ u8).setCell ⟨g, 9, none⟩ u9).setCell ⟨g, 10, none⟩ u10).setCell ⟨g, 11, none⟩ u11).setCell ⟨g, 12, none⟩ u12).setCell ⟨g, 13, none⟩ u13).setCell ⟨g, 14, none⟩ u14).setCell ⟨g, 15, none⟩ u15).setCell ⟨g, 16, none⟩ u16) A n c l := (((((((((((((((((h.set_ (p := ⟨g, 0, none⟩) hp u0).set_ (p := ⟨g, 1, none⟩) hp u1).set_ (p := ⟨g, 2, none⟩) hp u2).set_ (p := ⟨g, 3, none⟩) hp u3).set_ (p := ⟨g, 4, none⟩) hp u4).set_ (p := ⟨g, 5, none⟩) hp u5).set_ (p := ⟨g, 6, none⟩) hp u6).set_ (p := ⟨g, 7, none⟩) hp u7).set_ (p := ⟨g, 8, none⟩) hp u8).set_ (p := ⟨g, 9, none⟩) hp u9).set_ (p := ⟨g, 10, none⟩) hp u10).set_ (p := ⟨g, 11, none⟩) hp u11).set_ (p := ⟨g, 12, none⟩) hp u12).set_ (p := ⟨g, 13, none⟩) hp u13).set_ (p := ⟨g, 14, none⟩) hp u14).set_ (p := ⟨g, 15, none⟩) hp u15).set_ (p := ⟨g, 16, none⟩) hp u16)
theorem below_set17 {w0 W : World} {B : Nat} (h : Below B w0 W) {g : Nat} (hg : B ≤ g) (u0 u1 u2 u3 u4 u5 u6 u7 u8 u9 u10 u11 u12 u13 u14 u15 u16 : Value) : Below B w0 (((((((((((((((((W.setCell ⟨g, 0, none⟩ u0).setCell ⟨g, 1, none⟩ u1).setCell ⟨g, 2, none⟩ u2).setCell ⟨g, 3, none⟩ u3).setCell ⟨g, 4, none⟩ u4).setCell ⟨g, 5, none⟩ u5).setCell ⟨g, 6, none⟩ u6).setCell ⟨g, 7, none⟩ u7).setCell ⟨g, 8, none⟩ u8).setCell ⟨g, 9, none⟩ u9).setCell ⟨g, 10, none⟩ u10).setCell ⟨g, 11, none⟩ u11).setCell ⟨g, 12, none⟩ u12).setCell ⟨g, 13, none⟩ u13).setCell ⟨g, 14, none⟩ u14).setCell ⟨g, 15, none⟩ u15).setCell ⟨g, 16, none⟩ u16) := (((((((((((((((((h.setCell (p := ⟨g, 0, none⟩) hg u0).setCell (p := ⟨g, 1, none⟩) hg u1).setCell (p := ⟨g, 2, none⟩) hg u2).setCell (p := ⟨g, 3, none⟩) hg u3).setCell (p := ⟨g, 4, none⟩) hg u4).setCell (p := ⟨g, 5, none⟩) hg u5).setCell (p := ⟨g, 6, none⟩) hg u6).setCell (p := ⟨g, 7, none⟩) hg u7).setCell (p := ⟨g, 8, none⟩) hg u8).setCell (p := ⟨g, 9, none⟩) hg u9).setCell (p := ⟨g, 10, none⟩) hg u10).setCell (p := ⟨g, 11, none⟩) hg u11).setCell (p := ⟨g, 12, none⟩) hg u12).setCell (p := ⟨g, 13, none⟩) hg u13).setCell (p := ⟨g, 14, none⟩) hg u14).setCell (p := ⟨g, 15, none⟩) hg u15).setCell (p := ⟨g, 16, none⟩) hg u16)
set_option maxRecDepth 100000 in
set_option maxHeartbeats 2000000 in
theorem rfits13_any (n : Cn) {A : Option Addr} {m c : Nat} (D : Dc) (w : World) (hd : IL w A m c D.l) (hmd : mayL D.l = true ∧ 0 ≤ D.s ∧ D.s ≤ 100000) (nD : m ≤ 5000) :
    Calls Tryz.prog 26 #[.agg #[.int .i64 n.ic, .int .i64 n.fc, .int .i64 n.sc, .int .i64 n.mi, .int .i64 n.mf, .int .i64 n.md, .int .i64 n.hs], .agg #[.bool D.neg, .slice A m c, .int .i64 D.s]] w (RV w (.bool (fitsC n D))) := by
  obtain ⟨h1, h2, h3⟩ := hmd
  have hX := (Blk.made w w 23 #[.int .i64 n.ic, .int .i64 n.fc, .int .i64 n.sc, .int .i64 n.mi, .int .i64 n.mf, .int .i64 n.md, .int .i64 n.hs] (Later.refl w) _ rfl).alloc (.cells #[.bool D.neg, .slice A m c, .int .i64 D.s] 28)
  have hE := (Blk.made w (w.alloc (.cells #[.int .i64 n.ic, .int .i64 n.fc, .int .i64 n.sc, .int .i64 n.mi, .int .i64 n.mf, .int .i64 n.md, .int .i64 n.hs] 23)) 28 #[.bool D.neg, .slice A m c, .int .i64 D.s] ((Later.refl w).alloc _) (w.heap.size + 1) (by simp))
  have hlD := hd.len
  have htc := trimDc_canonic h1 h2
  obtain ⟨q, hq, hqs, hql⟩ : ∃ q : Nat, (trimDc D).s = q ∧ q ≤ 100000 ∧ (trimDc D).l.length ≤ D.l.length := by
    obtain ⟨q, hq⟩ := Int.eq_ofNat_of_zero_le htc.lo
    exact ⟨q, hq, by have := trim_le h1 h2; omega, trimDc_len D⟩
  have htr := Lib.hid (fun W (hW : IL W A m c D.l) => show Calls Tryz.prog 27 #[.agg #[.bool D.neg, .slice A m c, .int .i64 D.s]] W (RC W (trimDc D)) from rdtrim_any D.neg D.s W hW (I64_of_may h1) (by omega) (by omega) (by omega))
  have hf : Hid (fitsC n D = (decide (((partsS (trimDc D).l (trimDc D).s.toNat).1.length : Int) ≤ n.ic) && decide (((partsS (trimDc D).l (trimDc D).s.toNat).2.length : Int) ≤ n.sc))) := rfl
  clear htc
  generalize fitsC n D = fb at *
  generalize trimDc D = T at *
  have hpa := Lib.hid (fun (A : Option Addr) (n c : Nat) W (hW : IL W A n c T.l) => show Calls Tryz.prog 45 #[.agg #[.bool T.neg, .slice A n c, .int .i64 T.s]] W (RP W (partsS T.l q).1 (partsS T.l q).2) by
    have := rparts_any T.neg q W hW (by have := hW.len; omega) (by omega)
    rw [← hq] at this
    exact this)
  rw [hq] at hf
  rw [Int.toNat_natCast] at hf
  generalize partsS T.l q = PP at *
  obtain ⟨P1, P2⟩ := PP
  simp only at hf hpa
  clear hq
  go_enter Tryz.func26, Tryz.ntmps26
  go_upto_region 1 with fail
  generalize World.alloc (World.alloc w _) _ = w1 at *
  obtain ⟨⟨d0, d1, d2⟩, _⟩ := hE.cells3
  have hL1 := hE.later
  go_wp2_with fail
  refine (htr.out _ (hd.later hL1)).mono ?_
  rintro e w3 ⟨A3, n3, c3, rfl, hI3, hB3, _⟩
  go_wp2_with fail
  refine (hpa.out _ _ _ _ hI3).mono ?_
  rintro e w4 ⟨A4, n4, c4, A5, n5, c5, rfl, hI4, hI5, hB4⟩
  have hX4 := (hX.call hB3).call hB4
  have k0 : w4.cell? ⟨w.heap.size, 0, none⟩ = some (.int .i64 n.ic) := hX4.cell 0
  have k2 : w4.cell? ⟨w.heap.size, 2, none⟩ = some (.int .i64 n.sc) := hX4.cell 2
  have e4 := Lib.hid hI4.len
  have e5 := Lib.hid hI5.len
  rw [e4.out, e5.out] at hf
  have hL4 := hX4.later
  clear d0 d1 d2 hE hX hX4
  by_cases g1 : (n4 : Int) ≤ n.ic
  · have G1 := Lib.hid (decide_eq_true g1)
    go_wp2_with fail
    go_ret
    refine ⟨?_, hL4⟩
    rw [hf.out, G1.out, Bool.true_and]
    rfl
  · have G1 := Lib.hid (decide_eq_false g1)
    go_wp2_with fail
    go_ret
    refine ⟨?_, hL4⟩
    rw [hf.out, G1.out, Bool.false_and]
    rfl

end Go.Proofs.YtjinbhnpcdlkiaaGreatDoor


namespace Go.Proofs.YtjinbhnpcdlkiaaGreatDoor
open Go.RowKit

theorem Blk.range {w0 W : World} {g : Nat} {t : TypeId} {cs : Array Value} (h : Blk w0 g t cs W) : W.rangeAt g 0 cs.toList := fun j v hv => by
  rw [h.cell (0 + j), Nat.zero_add]
  simpa using hv
theorem Blk.part {w0 W : World} {g : Nat} {t : TypeId} {cs : Array Value} (h : Blk w0 g t cs W) (o : Nat) (l : List Value) (hl : (cs.toList.drop o).take l.length = l) : W.rangeAt g o l := fun j v hv => by
  rw [h.cell (o + j)]
  rw [← hl, List.getElem?_take] at hv
  split at hv
  · simpa using hv
  · cases hv
theorem Blk.there {w0 W : World} {g : Nat} {t : TypeId} {cs : Array Value} (h : Blk w0 g t cs W) (o n : Nat) (hn : o + n ≤ cs.size) : W.there g o n := fun j hj =>
  ⟨by rw [h.cell (o + j), Array.getElem?_eq_getElem (by omega)]; rfl, h.free (o + j)⟩
/-- a world in which the cells of block g alone have turned -/
structure Sto (w W' : World) (g : Nat) : Prop where
  os : W'.os = w.os
  tape : W'.tape = w.tape
  output : W'.output = w.output
  size : W'.heap.size = w.heap.size
  block : ∀ k, k ≠ g → W'.heap[k]? = w.heap[k]?
theorem Sto.refl (w : World) (g : Nat) : Sto w w g := ⟨rfl, rfl, rfl, rfl, fun _ _ => rfl⟩
theorem Sto.set (w : World) (p : Addr) (u : Value) : Sto w (w.setCell p u) p.block :=
  ⟨rfl, rfl, rfl, by simp, fun k hk => Below.heap_setCell w p u k hk⟩
theorem Sto.trans {w W W' : World} {g : Nat} (h : Sto w W g) (k : Sto W W' g) : Sto w W' g :=
  ⟨k.os.trans h.os, k.tape.trans h.tape, k.output.trans h.output, k.size.trans h.size, fun i hi => (k.block i hi).trans (h.block i hi)⟩
theorem Sto.cells (g : Nat) : ∀ (vs : List Value) (o : Nat) (w : World), Sto w (w.setCells g o vs) g
  | [], _, w => Sto.refl w g
  | v :: r, o, w => (Sto.set w ⟨g, o, none⟩ v).trans (Sto.cells g r (o + 1) _)
theorem Sto.below {w0 w W' : World} {g B : Nat} (h : Sto w W' g) (hb : Below B w0 w) (hg : B ≤ g) : Below B w0 W' :=
  hb.trans ⟨h.os, h.tape, h.output, by rw [h.size]; exact Nat.le_refl _, fun k hk => h.block k (by omega)⟩
theorem Sto.later {w0 w W' : World} {g : Nat} (h : Sto w W' g) (hb : Later w0 w) (hg : w0.heap.size ≤ g) : Later w0 W' := h.below hb hg
theorem Sto.far {w0 w W' : World} {g g' : Nat} {t : TypeId} {cs : Array Value} (h : Sto w W' g) (hB : Blk w0 g' t cs w) (hne : g' ≠ g) (hg : w0.heap.size ≤ g) : Blk w0 g' t cs W' :=
  ⟨hB.1, (h.block g' hne).trans hB.2.1, h.later hB.2.2 hg⟩
theorem Sto.cell {w W' : World} {g : Nat} (h : Sto w W' g) {p : Addr} (hp : p.block ≠ g) : W'.cell? p = w.cell? p := by
  unfold World.cell?
  rw [h.block p.block hp]
theorem Sto.il {w W' : World} {g : Nat} {A : Option Addr} {n c : Nat} {l : List Int} (h : Sto w W' g) (hI : IL w A n c l) (hp : 0 < n → ∀ a, A = some a → a.block ≠ g) : IL W' A n c l := by
  obtain ⟨h1, h2, h3, h4⟩ := hI
  refine ⟨h1, h2, h3, fun hn => ?_⟩
  obtain ⟨b, off, e, hb, hc⟩ := h4 hn
  refine ⟨b, off, e, by rw [h.size]; exact hb, fun j v hj => ?_⟩
  have hne : b ≠ g := hp hn _ e
  rw [h.cell (p := ⟨b, off + j, none⟩) hne]
  exact hc j v hj
theorem setCells_block (g : Nat) (t : TypeId) : ∀ (vs : List Value) (pre post : List Value) (w : World), w.heap[g]? = some (.cells (pre ++ post).toArray t (0, 0)) → post.length = vs.length →
    (w.setCells g pre.length vs).heap[g]? = some (.cells (pre ++ vs).toArray t (0, 0))
  | [], pre, post, w, h, hl => by
    have : post = [] := List.eq_nil_of_length_eq_zero (by simpa using hl)
    subst this
    exact h
  | v :: r, pre, [], w, h, hl => by simp at hl
  | v :: r, pre, u :: post, w, h, hl => by
    have h' : (w.setCell ⟨g, pre.length, none⟩ v).heap[g]? = some (.cells ((pre ++ [v]) ++ post).toArray t (0, 0)) := by
      have : (w.setCell ⟨g, pre.length, none⟩ v).heap[g]? = some (.cells ((pre ++ u :: post).toArray.setIfInBounds pre.length v) t (0, 0)) := by
        simp [World.setCell, Array.getElem?_modify, h]
      rw [this]
      congr 2
      apply Array.ext'
      simp
    have q := setCells_block g t r (pre ++ [v]) post _ h' (by simpa using hl)
    rw [World.setCells]
    rw [List.append_assoc] at q
    simpa using q
theorem Blk.stored {w0 W : World} {g : Nat} {t : TypeId} {cs : Array Value} (h : Blk w0 g t cs W) (us : Array Value) (hu : us.size = cs.size) : Blk w0 g t us (W.setCells g 0 us.toList) := by
  refine ⟨h.1, ?_, (Sto.cells g us.toList 0 W).later h.2.2 h.1⟩
  have q := setCells_block g t us.toList [] cs.toList W (by simpa using h.2.1) (by simpa using hu.symm)
  simpa using q
/-- Part of a block: from cell o on. -/
theorem Blk.stored_at {w0 W : World} {g : Nat} {t : TypeId} {cs : Array Value} (h : Blk w0 g t cs W) (us : List Value) (o : Nat) (cs' : Array Value)
    (hin : ∀ j, j < us.length → cs'[o + j]? = us[j]?) (hout : ∀ j, j < o ∨ o + us.length ≤ j → cs'[j]? = cs[j]?) (hle : o + us.length ≤ cs.size) : Blk w0 g t cs' (W.setCells g o us) := by
  have key : ∀ (vs : List Value) (o : Nat) (C : Array Value) (w : World), w.heap[g]? = some (.cells C t (0, 0)) → ∃ D : Array Value, (w.setCells g o vs).heap[g]? = some (.cells D t (0, 0)) ∧ D.size = C.size ∧
      (∀ j, j < o ∨ o + vs.length ≤ j → D[j]? = C[j]?) ∧ (o + vs.length ≤ C.size → ∀ j, j < vs.length → D[o + j]? = vs[j]?) := by
    intro vs
    induction vs with
    | nil => exact fun o C w hw => ⟨C, hw, rfl, fun _ _ => rfl, fun _ j hj => absurd hj (by simp)⟩
    | cons v r ih =>
      intro o C w hw
      have hw' : (w.setCell ⟨g, o, none⟩ v).heap[g]? = some (.cells (C.setIfInBounds o v) t (0, 0)) := by simp [World.setCell, Array.getElem?_modify, hw]
      obtain ⟨D, h1, h2, h3, h4⟩ := ih (o + 1) _ _ hw'
      refine ⟨D, h1, by simpa using h2, fun j hj => ?_, fun hle j hj => ?_⟩
      · have : j < o + 1 ∨ o + 1 + r.length ≤ j ∨ j = o := by simp at hj; omega
        rw [h3 j (by simp at hj; omega), Array.getElem?_setIfInBounds]
        have : o ≠ j := by simp at hj; omega
        simp [this]
      · rcases Nat.eq_zero_or_pos j with rfl | hz
        · rw [h3 (o + 0) (.inl (by omega)), Array.getElem?_setIfInBounds]
          have : o < C.size := by simp at hle; omega
          simp [this]
        · obtain ⟨i, rfl⟩ : ∃ i, j = i + 1 := ⟨j - 1, by omega⟩
          have := h4 (by simp at hle ⊢; omega) i (by simpa using hj)
          rw [show o + (i + 1) = o + 1 + i by omega, this]
          simp
  obtain ⟨D, h1, h2, h3, h4⟩ := key us o cs W h.2.1
  refine ⟨h.1, ?_, (Sto.cells g us o W).later h.2.2 h.1⟩
  have : D = cs' := by
    apply Array.ext_getElem?
    intro j
    by_cases hj : j < o ∨ o + us.length ≤ j
    · rw [h3 j hj, hout j hj]
    · obtain ⟨i, rfl⟩ : ∃ i, j = o + i := ⟨j - o, by omega⟩
      rw [h4 hle i (by omega), hin i (by omega)]
  rw [h1, this]

/-- A type that is a struct of n cells. -/
structure RowT (P : Program) (ty : TypeId) (n : Nat) : Prop where
  row : (P.underlying ty).map (·.isRow) = some true
  size : (P.info? ty).map (·.size) = some n
section
variable {P : Program} {ops : Array Oper} {rest : List Oper} {op : Oper} {a : Act} {w w0 : World} {Q : Exit → Act → World → Prop} {g o n : Nat} {t : TypeId} {cs : Array Value}
/-- The load of a struct in a block. -/
theorem wpList_load_part {l : List Value} (hR : w.rangeAt g o l) {ty : TypeId} (hT : RowT P ty n) (hn : l.length = n) {x : Operand} (hgd : op.guard = none) (ho : op.op = .load ty x) (hx : a.eval x = .pointer (some ⟨g, o, none⟩))
    (h : wpList P ops Q rest (a.put op.dst (.agg l.toArray)) w) : wpList P ops Q (op :: rest) a w := by
  obtain ⟨h1, h2⟩ := hT
  cases hu : P.underlying ty with
  | none => simp [hu] at h1
  | some d =>
    rw [hu] at h1
    exact wpList_load_mid hgd ty x ho g o hx l d hR hu (by simpa using h1) (by rw [h2, hn]) h
/-- The load of a struct that is a block. -/
theorem wpList_load_blk (hB : Blk w0 g t cs w) {ty : TypeId} (hT : RowT P ty n) (hn : cs.size = n) {x : Operand} (hgd : op.guard = none) (ho : op.op = .load ty x) (hx : a.eval x = .pointer (some ⟨g, 0, none⟩))
    (h : wpList P ops Q rest (a.put op.dst (.agg cs)) w) : wpList P ops Q (op :: rest) a w :=
  wpList_load_part hB.range hT (by simpa using hn) hgd ho hx (by simpa using h)
/-- The store of a struct into a block of its own. -/
theorem wpList_store_blk (hB : Blk w0 g t cs w) {ty : TypeId} (hT : RowT P ty n) {x y : Operand} {us : Array Value} (hgd : op.guard = none) (ho : op.op = .store ty x y) (hx : a.eval x = .pointer (some ⟨g, 0, none⟩)) (hy : a.eval y = .agg us)
    (hs : us.size = n) (hc : cs.size = n) (h1 : us.all (·.oneCell') = true)
    (h : ∀ W, Blk w0 g t us W → Sto w W g → wpList P ops Q rest (a.put op.dst undef) W) : wpList P ops Q (op :: rest) a w :=
  wpList_store_mid hgd ty x y ho g 0 us hx hy (hB.there 0 us.size (by omega)) (by rw [hT.size, hs]) h1 (h _ (hB.stored us (by omega)) (Sto.cells g _ 0 w))
/-- The store of a struct into a part of a block. -/
theorem wpList_store_part (hB : Blk w0 g t cs w) {ty : TypeId} (hT : RowT P ty n) {x y : Operand} {us : Array Value} (cs' : Array Value) (hgd : op.guard = none) (ho : op.op = .store ty x y) (hx : a.eval x = .pointer (some ⟨g, o, none⟩)) (hy : a.eval y = .agg us)
    (hs : us.size = n) (hc : o + n ≤ cs.size) (h1 : us.all (·.oneCell') = true) (hin : ∀ j, j < n → cs'[o + j]? = us[j]?) (hout : ∀ j, j < o ∨ o + n ≤ j → cs'[j]? = cs[j]?)
    (h : ∀ W, Blk w0 g t cs' W → Sto w W g → wpList P ops Q rest (a.put op.dst undef) W) : wpList P ops Q (op :: rest) a w :=
  wpList_store_mid hgd ty x y ho g o us hx hy (hB.there o us.size (by omega)) (by rw [hT.size, hs]) h1
    (h _ (hB.stored_at us.toList o cs' (fun j hj => by rw [hin j (by simpa [hs] using hj)]; simp) (fun j hj => hout j (by simpa [hs] using hj)) (by simpa [hs] using hc)) (Sto.cells g _ o w))
end

/-- A struct's value, as results read it. -/
theorem loadVar_blk {P : Program} {w0 W : World} {g n : Nat} {t : TypeId} {cs : Array Value} (h : Blk w0 g t cs W) {ty : TypeId} (hT : RowT P ty n) (hn : cs.size = n) : (loadVar ty ⟨g, 0, none⟩).run P W = .ok (.agg cs) W := by
  obtain ⟨h1, h2⟩ := hT
  cases hu : P.underlying ty with
  | none => simp [hu] at h1
  | some d =>
    rw [hu] at h1
    have := run_loadVar_mid W g 0 ty cs.toList d h.range hu (by simpa using h1) (by rw [h2, ← hn]; simp)
    simpa using this
/-- Results: a struct in a cell of its own. -/
theorem results_c {P : Program} {w0 W : World} {g n : Nat} {t : TypeId} {cs : Array Value} (h : Blk w0 g t cs W) {ty : TypeId} (hT : RowT P ty n) (hn : cs.size = n) {fn : Func} {tmps : Array Value} {i : Nat}
    (hf : fn.results = #[.cell i ty]) (hp : tmps.getD i undef = .pointer (some ⟨g, 0, none⟩)) : (results fn tmps).run P W = .ok (.agg cs) W := by
  have hl := loadVar_blk h hT hn
  rw [Array.getD_eq_getD_getElem?] at hp
  simp [results, hf, hp, asAddr, hl]
/-- Results: a struct in a cell of its own, and a value. -/
theorem results_ct {P : Program} {w0 W : World} {g n : Nat} {t : TypeId} {cs : Array Value} (h : Blk w0 g t cs W) {ty : TypeId} (hT : RowT P ty n) (hn : cs.size = n) {fn : Func} {tmps : Array Value} {i k : Nat} {v : Value}
    (hf : fn.results = #[.cell i ty, .tmp k]) (hp : tmps.getD i undef = .pointer (some ⟨g, 0, none⟩)) (hv : tmps.getD k undef = v) : (results fn tmps).run P W = .ok (.tuple #[.agg cs, v]) W := by
  have hl := loadVar_blk h hT hn
  rw [Array.getD_eq_getD_getElem?] at hp hv
  simp [results, hf, hp, hv, asAddr, hl]
/-- Results: a struct in a cell of its own, and two values. -/
theorem results_ctt {P : Program} {w0 W : World} {g n : Nat} {t : TypeId} {cs : Array Value} (h : Blk w0 g t cs W) {ty : TypeId} (hT : RowT P ty n) (hn : cs.size = n) {fn : Func} {tmps : Array Value} {i k m : Nat} {v u : Value}
    (hf : fn.results = #[.cell i ty, .tmp k, .tmp m]) (hp : tmps.getD i undef = .pointer (some ⟨g, 0, none⟩)) (hv : tmps.getD k undef = v) (hu : tmps.getD m undef = u) : (results fn tmps).run P W = .ok (.tuple #[.agg cs, v, u]) W := by
  have hl := loadVar_blk h hT hn
  rw [Array.getD_eq_getD_getElem?] at hp hv hu
  simp [results, hf, hp, hv, hu, asAddr, hl]

/-- A struct that is built, in a region's quiet part, and in a plain one. -/
theorem wpStill_build {P : Program} {ops : Array Oper} {rest : List Oper} {o : Oper} {a : Act} {w : World} {Q : Act → Prop} {t : TypeId} {ps : List (Nat × Operand)} (vs : List (Nat × Value)) (cells : Array Value) (hg : o.guard = none) (ho : o.op = .build t ps.toArray)
    (hv : (ps.map fun p => (p.1, a.eval p.2)) = vs) (hp : P.built t vs = some cells) (h : wpStill P ops w Q rest (a.put o.dst (.agg cells))) : wpStill P ops w Q (o :: rest) a := by
  refine wpStill_step fun K hK => ?_
  rw [if_pos (by simp [Region.wanted, hg])]
  have hp' : P.built t (ps.toArray.map fun (i, x) => (i, a.eval x)).toList = some cells := by
    rw [← hp, ← hv]
    simp
  unfold Oper.still execOp
  simp only [ho, Sem.run_bind, run_build w t _ cells hp', Result.andThen_ok]
  exact ⟨rfl, hK _ h⟩
theorem wpList_build_ {P : Program} {ops : Array Oper} {rest : List Oper} {o : Oper} {a : Act} {w : World} {Q : Exit → Act → World → Prop} {t : TypeId} {ps : List (Nat × Operand)} (vs : List (Nat × Value)) (cells : Array Value) (hg : o.guard = none) (ho : o.op = .build t ps.toArray)
    (hv : (ps.map fun p => (p.1, a.eval p.2)) = vs) (hp : P.built t vs = some cells) (h : wpList P ops Q rest (a.put o.dst (.agg cells)) w) : wpList P ops Q (o :: rest) a w := by
  have hp' : P.built t (ps.toArray.map fun (i, x) => (i, a.eval x)).toList = some cells := by
    rw [← hp, ← hv]
    simp
  exact wpList_build hg t ps.toArray ho (by rw [hp']; rfl) (by rw [hp']; exact h)
/-- A drawn region whose first n operations only read. -/
theorem wp_tail {P : Program} {id : Nat} {Q : Exit → Act → World → Prop} {a : Act} {w : World} {l : List Oper} (n : Nat) (hm : P.follows .mixedOrders = true) (hB : Region.lexTailB .any l.toArray n = true)
    (h : ∀ W, W = w.drew → wpStill P l.toArray W (fun a' => wpList P l.toArray Q (l.drop n) a' W) (l.take n) a) : (Code.region id l.toArray true).wp P Q a w :=
  wp_region_still_tail n hm hB (h _ rfl)

end Go.Proofs.YtjinbhnpcdlkiaaGreatDoor


namespace Go.Proofs.YtjinbhnpcdlkiaaGreatDoor
open Go.RowKit

/-- The cells of rules. -/
def RuV.cs (x : RuV) : Array Value := #[.bool x.r.lo.neg, .slice x.A1 x.n1 x.c1, .int .i64 x.r.lo.s, .bool x.r.hi.neg, .slice x.A2 x.n2 x.c2, .int .i64 x.r.hi.s, .bool x.r.st.neg, .slice x.A3 x.n3 x.c3, .int .i64 x.r.st.s, .bool x.r.sg, .int .i64 x.r.n.ic, .int .i64 x.r.n.fc, .int .i64 x.r.n.sc, .int .i64 x.r.n.mi, .int .i64 x.r.n.mf, .int .i64 x.r.n.md, .int .i64 x.r.n.hs]
/-- The cells of limits. -/
def Cn.cs (n : Cn) : Array Value := #[.int .i64 n.ic, .int .i64 n.fc, .int .i64 n.sc, .int .i64 n.mi, .int .i64 n.mf, .int .i64 n.md, .int .i64 n.hs]
/-- The cells of a decimal. -/
def dcs (D : Dc) (A : Option Addr) (n c : Nat) : Array Value := #[.bool D.neg, .slice A n c, .int .i64 D.s]
theorem row_rules : RowT Tryz.prog 39 17 := ⟨by kernel_rfl, by kernel_rfl⟩
theorem row_rules13 : RowT Tryz.prog 48 17 := ⟨by kernel_rfl, by kernel_rfl⟩
theorem row_dec : RowT Tryz.prog 36 3 := ⟨by kernel_rfl, by kernel_rfl⟩
theorem row_dec6 : RowT Tryz.prog 28 3 := ⟨by kernel_rfl, by kernel_rfl⟩
theorem row_limits : RowT Tryz.prog 37 7 := ⟨by kernel_rfl, by kernel_rfl⟩
theorem row_limits13 : RowT Tryz.prog 23 7 := ⟨by kernel_rfl, by kernel_rfl⟩
/-- Its lists lie in new memory, and not in block g. -/
def RuV.far (y : RuV) (B g : Nat) : Prop := (0 < y.n1 → ∀ a, y.A1 = some a → B ≤ a.block ∧ a.block ≠ g) ∧ (0 < y.n2 → ∀ a, y.A2 = some a → B ≤ a.block ∧ a.block ≠ g) ∧ (0 < y.n3 → ∀ a, y.A3 = some a → B ≤ a.block ∧ a.block ≠ g)
theorem RuV.ok.sto {y : RuV} {w W : World} {g : Nat} (h : y.ok w) (hs : Sto w W g) (hp : (0 < y.n1 → ∀ a, y.A1 = some a → a.block ≠ g) ∧ (0 < y.n2 → ∀ a, y.A2 = some a → a.block ≠ g) ∧ (0 < y.n3 → ∀ a, y.A3 = some a → a.block ≠ g)) : y.ok W :=
  ⟨hs.il h.1 hp.1, hs.il h.2.1 hp.2.1, hs.il h.2.2 hp.2.2⟩
theorem RuV.ok.apart {y : RuV} {w : World} (h : y.ok w) {g : Nat} (hg : w.heap.size ≤ g) : (0 < y.n1 → ∀ a, y.A1 = some a → a.block ≠ g) ∧ (0 < y.n2 → ∀ a, y.A2 = some a → a.block ≠ g) ∧ (0 < y.n3 → ∀ a, y.A3 = some a → a.block ≠ g) :=
  ⟨h.1.apart hg, h.2.1.apart hg, h.2.2.apart hg⟩
theorem blk_result {w0 W : World} {g n : Nat} {t : TypeId} {cs : Array Value} (h : Blk w0 g t cs W) {ty : TypeId} (hT : RowT Tryz.prog ty n) (hn : cs.size = n) : (loadVar ty ⟨g, 0, none⟩).run Tryz.prog W = .ok (.agg cs) W := by
  obtain ⟨h1, h2⟩ := hT
  cases hu : Tryz.prog.underlying ty with
  | none => simp [hu] at h1
  | some d =>
    rw [hu] at h1
    have := run_loadVar_mid W g 0 ty cs.toList d h.range hu (by simpa using h1) (by rw [h2, ← hn]; simp)
    simpa using this

end Go.Proofs.YtjinbhnpcdlkiaaGreatDoor

