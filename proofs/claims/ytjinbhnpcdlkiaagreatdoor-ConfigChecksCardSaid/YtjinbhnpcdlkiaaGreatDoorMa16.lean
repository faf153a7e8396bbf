/- The walks of what the program's parsing of a decimal calls: digits, CutPrefix and Cut at one byte. No condition. -/
import Derived.Test.YtjinbhnpcdlkiaaGreatDoorMa11
import Derived.Test.YtjinbhnpcdlkiaaGreatDoorMa15
import Derived.Lib.OthersKept
import Derived.Lib.Bytealg
import Derived.Lib.Strings
import Derived.BigCall
import Derived.Laws.Strings3
import Derived.WalkKit
namespace Go.Proofs.YtjinbhnpcdlkiaaGreatDoor
open Go.RowKit

theorem neg_nil {s : ByteArray} (h : s.size = 0) : negB s.data.toList = false ∧ bodyB s.data.toList = s.data.toList := by
  have : s.data.toList = [] := List.eq_nil_of_length_eq_zero (by rw [Array.length_toList]; exact h)
  rw [this]
  exact ⟨rfl, rfl⟩
theorem neg_at {s : ByteArray} (h : 0 < s.size) : negB s.data.toList = (s[0] == 45) := by
  have : s.data.toList.head? = some s[0] := by
    rw [List.head?_eq_getElem?, List.getElem?_eq_getElem (by rw [Array.length_toList]; exact h)]; rfl
  unfold negB
  rw [this]
  rfl
/-- Where the document's parsing is: behind the first k bytes of the body p. -/
def PzAt (w : World) (nb : Bool) (q : List UInt8) (A : Option Addr) (n c : Nat) (W : World) : Prop :=
  Blk w w.heap.size 28 #[.bool false, .slice none 0 0, .int .i64 0] W ∧ Blk w (w.heap.size + 1) 28 #[.bool nb, .slice A n c, .int .i64 ((restB q).length : Int)] W ∧
    OL W (w.heap.size + 2) A n c (digsOf (wholeB q ++ restB q)) ∧ Hid (okB q = true)
set_option maxHeartbeats 4000000 in
theorem rcparse_any (s : ByteArray) (w : World) (hs : s.size ≤ 100000) :
    Calls Tryz.prog 25 #[.string s] w (RCE w (parseS s.data.toList).1 (parseS s.data.toList).2) := by
  have hlen : s.data.toList.length = s.size := Array.length_toList
  have hD0 := Blk.made w (w.alloc (.cells #[.bool false, .slice none 0 0, .int .i64 0] 28)) 28 #[.bool false, .slice none 0 0, .int .i64 0] ((Later.refl w).alloc _) (w.heap.size + 1) (by simp)
  have hR0 := (Blk.made w w 28 #[.bool false, .slice none 0 0, .int .i64 0] (Later.refl w) _ rfl).alloc (.cells #[.bool false, .slice none 0 0, .int .i64 0] 28)
  obtain ⟨o, ho⟩ : ∃ o : Nat, Hid (o = if negB s.data.toList then 1 else 0) := ⟨_, rfl⟩
  obtain ⟨nb, hnb⟩ : ∃ nb : Bool, Hid (nb = negB s.data.toList) := ⟨_, rfl⟩
  have hos : o ≤ s.size := by
    rw [ho.out]
    split
    · rename_i h
      rcases Nat.eq_zero_or_pos s.size with h0 | h0
      · rw [(neg_nil h0).1] at h; cases h
      · omega
    · omega
  have hbody : Hid (bodyB s.data.toList = s.data.toList.drop o) := by
    rw [Hid, bodyB, ho.out]; split <;> simp
  generalize hDD : parseS s.data.toList = D
  have HD : Hid (D = parseB nb (s.data.toList.drop o)) := by rw [Hid, ← hDD, parseS, hbody.out, hnb.out]
  clear hDD
  go_enter Tryz.func25, Tryz.ntmps25
  go_upto_region 3 with fail
  generalize World.alloc (World.alloc w _) _ = w1 at *
  obtain ⟨⟨d0, d1, d2⟩, ⟨d3, d4, d5⟩⟩ := hD0.cells3
  have hD1 : Blk w (w.heap.size + 1) 28 #[.bool true, .slice none 0 0, .int .i64 0] (w1.setCell ⟨w.heap.size + 1, 0, none⟩ (.bool true)) := hD0.set_ 0 (.bool true)
  have hR1 := hR0.far (p := ⟨w.heap.size + 1, 0, none⟩) (by simp) (by simp) (.bool true)
  go_cut [16] from 9 to 16 (fun v W => v = .bool nb ∧ W = w1)
  case first =>
    rcases Nat.eq_zero_or_pos s.size with h0 | h0
    · have e1 := neg_nil h0
      have e2 : nb = false := by rw [hnb.out, e1.1]
      subst e2
      go_wp2_with fail
      go_meet
      exact ⟨rfl, rfl⟩
    · have e1 := neg_at h0
      cases hb : (s[0] == 45)
      · have e2 : nb = false := by rw [hnb.out, e1, hb]
        have hb2 : ((s[0].toNat : Int) == 45) = false := by
          rw [Bool.eq_false_iff]; intro q; rw [beq_eq_false_iff_ne] at hb
          have q2 : (s[0].toNat : Int) = 45 := by simpa using q
          exact hb (UInt8.toNat_inj.1 (by show s[0].toNat = 45; omega))
        subst e2
        go_wp2_with fail
        go_meet
        exact ⟨rfl, rfl⟩
      · have e2 : nb = true := by rw [hnb.out, e1, hb]
        have hb2 : ((s[0].toNat : Int) == 45) = true := by
          have q : s[0] = 45 := by simpa using hb
          rw [q]; rfl
        subst e2
        go_wp2_with fail
        go_meet
        exact ⟨rfl, rfl⟩
  case rest =>
  obtain ⟨rfl, hwc⟩ := hcut
  rw [hwc]
  clear hwc wc
  go_upto_if 16 with fail
  go_cut [5] (fun v W => v = .int .i64 (o : Int) ∧ Blk w (w.heap.size + 1) 28 #[.bool nb, .slice none 0 0, .int .i64 0] W ∧ Blk w w.heap.size 28 #[.bool false, .slice none 0 0, .int .i64 0] W)
  case first =>
    have e3 : o = if nb then 1 else 0 := by rw [ho.out, hnb.out]
    clear hbody HD ho hnb
    cases nb
    · obtain rfl : o = 0 := e3
      go_wp2_with fail
      go_meet
      exact ⟨rfl, hD0, hR0⟩
    · obtain rfl : o = 1 := e3
      go_wp2_with fail
      go_meet
      exact ⟨rfl, hD1, hR1⟩
  case rest =>
  obtain ⟨rfl, hD2, hR2⟩ := hcut
  clear hD0 hR0 hD1 hR1 d0 d1 d2 d3 d4 d5 ho hnb hbody
  generalize hp : s.data.toList.drop o = p at *
  have hpl : p.length = s.size - o := by rw [← hp, List.length_drop, hlen]
  have hpk : ∀ (k : Nat) (h : o + k < s.size), Hid (p[k]? = some s[o + k]) := fun k h => by
    rw [Hid, ← hp, List.getElem?_drop, List.getElem?_eq_getElem (by rw [hlen]; exact h)]; rfl
  clear hp hlen
  go_wp2_with fail
  go_loopw [5, 6, 7] (fun i ah pt wr => ∃ (k idx : Nat) (A : Option Addr) (n c : Nat), idx = o + k ∧ idx ≤ s.size ∧ i = .int .i64 (idx : Int) ∧ ah = .int .i64 ((wholeB (p.take k)).length : Int) ∧ pt = .bool (pointB (p.take k)) ∧ PzAt w nb (p.take k) A n c wr) (fun i _ _ _ => s.size - (intOf i).toNat)
  case atStart => exact ⟨0, o, none, 0, 0, rfl, hos, rfl, rfl, rfl, hR2, hD2, OL.nil _ _, rfl⟩
  case round =>
    obtain ⟨k, idx, A, n, c, hidx, hle, rfl, rfl, rfl, hR, hDb, hO, hok⟩ := hrel
    obtain ⟨⟨d0, d1, d2⟩, ⟨d3, d4, d5⟩⟩ := hDb.cells3
    obtain ⟨⟨r0, r1, r2⟩, ⟨r3, r4, r5⟩⟩ := hR.cells3
    have hsz := hDb.lt
    have hql : (p.take k).length ≤ s.size := by rw [List.length_take]; omega
    have hwl : (wholeB (p.take k)).length ≤ (p.take k).length := (List.takeWhile_prefix _).length_le
    have hrl : (restB (p.take k)).length ≤ (p.take k).length := by unfold restB; rw [List.length_drop]; omega
    have hnn := hO.len
    unfold digsOf at hnn
    rw [List.length_map, List.length_append] at hnn
    by_cases hlt : idx < s.size
    · have hko : o + k < s.size := by omega
      have hkp : k < p.length := by omega
      have hpc : p[k] = s[idx] := by
        have := (hpk k hko).out
        rw [List.getElem?_eq_getElem hkp] at this
        have e := Option.some.inj this
        rw [e]
        congr 1
        exact hidx.symm
      have hq2 : Hid (p.take (k + 1) = p.take k ++ [s[idx]]) := by rw [Hid, List.take_succ_eq_append_getElem hkp, hpc]
      have hbad : okB (p.take k ++ [s[idx]]) = false → Hid (D = (Dc.zero, 2)) := fun h => by
        rw [← hpc] at h
        rw [Hid, HD.out]
        exact parse_bad_at hkp h
      have hb := byte_lt s[idx]
      generalize p.take k = q at *
      have HQ := Lib.hid (And.intro hwl (And.intro hrl hql))
      have HIX := Lib.hid hidx
      clear hpc hkp hko hpk hwl hrl hql HD hidx
      by_cases hx : (s[idx].toNat : Int) = 46
      · have hc46 : Hid (s[idx] = 46) := UInt8.toNat_inj.1 (by show s[idx].toNat = 46; omega)
        have hxb : ((s[idx].toNat : Int) == 46) = true := by simpa using hx
        cases hpt : pointB q
        · have HP := Lib.hid hpt
          go_wp2_with fail
          go_roundw
          case rel =>
            obtain ⟨e1, e2, e3⟩ := point_dot HP.out
            have e4 : p.take (k + 1) = q ++ [46] := by rw [hq2.out, hc46.out]
            refine ⟨k + 1, idx + 1, A, n, c, by have := HIX.out; omega, by omega, by go_num, ?_, ?_, ?_⟩
            · rw [e4, e2, whole_no HP.out]
            · rw [e4, e1]
            · rw [e4]
              unfold PzAt
              rw [e2, e3, ok_dot HP.out]
              rw [rest_no HP.out] at hDb
              rw [whole_no HP.out, rest_no HP.out] at hO
              exact ⟨hR, hDb, hO, hok⟩
          case measure => simp [intOf]; omega
        · have HD2 := hbad (by rw [ok_point hpt, hok.out, hc46.out]; rfl)
          have hx48 : (s[idx].toNat : Int) < 48 := by omega
          clear hbad
          go_wp2_with fail
          rw [HD2.out]
          obtain ⟨⟨z0, z1, z2⟩, _⟩ := (hR.store3 (.bool false) (.slice none 0 0) (.int .i64 0)).cells3
          exact bodyPost_ret (v := .tuple #[.agg #[.bool false, .slice none 0 0, .int .i64 0], .int .i64 2]) (by generalize World.setCell (World.setCell (World.setCell _ _ _) _ _) _ _ = W3 at z0 z1 z2 ⊢; simp [results, Tryz.results25, go_sem, z0, z1, z2]) rfl
            ⟨none, 0, 0, rfl, IL.nil _, below_set3 hR.later (Nat.le_refl _) _ _ _, none_new _⟩
      have hxb : ((s[idx].toNat : Int) == 46) = false := by rw [Bool.eq_false_iff]; intro h; exact hx (by simpa using h)
      have hc46 : s[idx] ≠ 46 := fun h => hx (by rw [h]; rfl)
      have hok2 : okB (q ++ [s[idx]]) = isB s[idx] := by
        cases hpt : pointB q
        · rw [ok_nopoint hpt hc46, hok.out]; rfl
        · rw [ok_point hpt, hok.out]; rfl
      by_cases h48 : (s[idx].toNat : Int) < 48
      · have HD2 := hbad (by rw [hok2]; simp [isB]; omega)
        clear hbad hok2 hx hc46
        cases hpt : pointB q
        all_goals
          go_wp2_with fail
          rw [HD2.out]
          obtain ⟨⟨z0, z1, z2⟩, _⟩ := (hR.store3 (.bool false) (.slice none 0 0) (.int .i64 0)).cells3
          exact bodyPost_ret (v := .tuple #[.agg #[.bool false, .slice none 0 0, .int .i64 0], .int .i64 2]) (by generalize World.setCell (World.setCell (World.setCell _ _ _) _ _) _ _ = W3 at z0 z1 z2 ⊢; simp [results, Tryz.results25, go_sem, z0, z1, z2]) rfl
            ⟨none, 0, 0, rfl, IL.nil _, below_set3 hR.later (Nat.le_refl _) _ _ _, none_new _⟩
      by_cases h57 : (57 : Int) < (s[idx].toNat : Int)
      · have HD2 := hbad (by rw [hok2]; simp [isB]; omega)
        clear hbad hok2 hx hc46
        cases hpt : pointB q
        all_goals
          go_wp2_with fail
          rw [HD2.out]
          obtain ⟨⟨z0, z1, z2⟩, _⟩ := (hR.store3 (.bool false) (.slice none 0 0) (.int .i64 0)).cells3
          exact bodyPost_ret (v := .tuple #[.agg #[.bool false, .slice none 0 0, .int .i64 0], .int .i64 2]) (by generalize World.setCell (World.setCell (World.setCell _ _ _) _ _) _ _ = W3 at z0 z1 z2 ⊢; simp [results, Tryz.results25, go_sem, z0, z1, z2]) rfl
            ⟨none, 0, 0, rfl, IL.nil _, below_set3 hR.later (Nat.le_refl _) _ _ _, none_new _⟩
      have hisb : Hid (isB s[idx] = true) := by rw [Hid]; simp [isB]; omega
      have hok3 : Hid (okB (q ++ [s[idx]]) = true) := by rw [Hid, hok2]; exact hisb.out
      have H46 := Lib.hid hc46
      clear hbad hok2 hx hc46
      have hr9 : (restB q).length ≤ 100000 := by have := HQ.out; omega
      have hw9 : (wholeB q).length ≤ 100000 := by have := HQ.out; omega
      have hn9 : n ≤ 200000 := by omega
      obtain ⟨NR, hNR⟩ : ∃ x, x = (restB q).length := ⟨_, rfl⟩
      obtain ⟨NW, hNW⟩ : ∃ x, x = (wholeB q).length := ⟨_, rfl⟩
      rw [← hNR] at hDb hr9 d2
      rw [← hNW] at hw9
      rw [← hNW]
      have HNR := Lib.hid hNR
      have HNW := Lib.hid hNW
      clear hNR hNW hnn
      have hO' := Lib.hid hO
      have hD' := Lib.hid hDb
      have hR' := Lib.hid hR
      clear hO hDb hR r0 r1 r2 r3 r4 r5
      have hal := fun o => (hD'.out.alloc o).cells3.1.2.1
      cases hpt : pointB q
      all_goals
        have HP := Lib.hid hpt
        go_wp2_with (first
          | (at_builtin; refine wpList_append_OL (w.heap.size + 2) rfl (.tmp 41) (.tmp 45) rfl rfl rfl (hO'.out.alloc _) (IL.one _ _ _) (by simp; omega) (by omega) ?_; intro A5 c5 w5 hO5 hB5 _; obtain ⟨⟨y0, y1, y2⟩, ⟨y3, y4, y5⟩⟩ := ((hD'.out.alloc (.cells #[.int .i64 ((s[idx].toNat : Int) - 48)] 3)).under (by omega) hB5).cells3))
        have hD5 := (hD'.out.alloc (.cells #[.int .i64 ((s[idx].toNat : Int) - 48)] 3)).under (B := w.heap.size + 2) (by omega) hB5
        have hR5 := (hR'.out.alloc (.cells #[.int .i64 ((s[idx].toNat : Int) - 48)] 3)).under (B := w.heap.size + 2) (by omega) hB5
        have hA5 : ∀ a, A5 = some a → w.heap.size + 2 ≤ a.block := fun a ha => (hO5.blk (by omega) a ha).1
        have hDs : Hid (digsOf (wholeB (p.take (k + 1)) ++ restB (p.take (k + 1))) = digsOf (wholeB q ++ restB q) ++ [(s[idx].toNat : Int) - 48]) := by
          rw [Hid, hq2.out]
          first
          | (rw [whole_no (point_no HP.out H46.out), rest_no (point_no HP.out H46.out), whole_no HP.out, rest_no HP.out, List.append_nil, List.append_nil]; unfold digsOf; rw [List.map_append]; rfl)
          | (obtain ⟨_, e2, e3⟩ := point_in s[idx] HP.out; rw [e2, e3, ← List.append_assoc]; unfold digsOf; rw [List.map_append]; rfl)
        go_roundw
        case rel =>
          first
          | (obtain ⟨e1, e2, e3⟩ := point_in s[idx] HP.out
             have hD6 : Blk w (w.heap.size + 1) 28 #[.bool nb, .slice A5 (n + 1) c5, .int .i64 ((NR + 1 : Nat) : Int)] ((w5.setCell ⟨w.heap.size + 1, 1, none⟩ (.slice A5 (n + 1) c5)).setCell ⟨w.heap.size + 1, 2, none⟩ (.int .i64 ((NR + 1 : Nat) : Int))) := (hD5.set_ 1 (.slice A5 (n + 1) c5)).set_ 2 (.int .i64 ((NR + 1 : Nat) : Int))
             have hR6 := (hR5.far (p := ⟨w.heap.size + 1, 1, none⟩) (by simp) (by simp) (.slice A5 (n + 1) c5)).far (p := ⟨w.heap.size + 1, 2, none⟩) (by simp) (by simp) (.int .i64 ((NR + 1 : Nat) : Int))
             have hO6 := (hO5.set_ (p := ⟨w.heap.size + 1, 1, none⟩) (fun a ha => by have := hA5 a ha; simp only; omega) (.slice A5 (n + 1) c5)).set_ (p := ⟨w.heap.size + 1, 2, none⟩) (fun a ha => by have := hA5 a ha; simp only; omega) (.int .i64 ((NR + 1 : Nat) : Int))
             refine ⟨k + 1, idx + 1, A5, n + 1, c5, by have := HIX.out; omega, by omega, by go_num, by rw [hq2.out, e2, ← HNW.out], by rw [hq2.out, e1], ?_⟩
             unfold PzAt
             rw [hDs.out, hq2.out, e3, List.length_append, ← HNR.out]
             exact ⟨hR6, hD6, hO6, hok3⟩)
          | (have e1 := point_no HP.out H46.out
             have hD6 : Blk w (w.heap.size + 1) 28 #[.bool nb, .slice A5 (n + 1) c5, .int .i64 (NR : Int)] (w5.setCell ⟨w.heap.size + 1, 1, none⟩ (.slice A5 (n + 1) c5)) := hD5.set_ 1 (.slice A5 (n + 1) c5)
             have hR6 := hR5.far (p := ⟨w.heap.size + 1, 1, none⟩) (by simp) (by simp) (.slice A5 (n + 1) c5)
             have hO6 := hO5.set_ (p := ⟨w.heap.size + 1, 1, none⟩) (fun a ha => by have := hA5 a ha; simp only; omega) (.slice A5 (n + 1) c5)
             have e2 := HNR.out
             rw [rest_no HP.out] at e2
             have e3 := HNW.out
             rw [whole_no HP.out] at e3
             refine ⟨k + 1, idx + 1, A5, n + 1, c5, by have := HIX.out; omega, by omega, by go_num, by rw [hq2.out, whole_no e1, List.length_append, ← e3]; go_num, by rw [hq2.out, e1], ?_⟩
             unfold PzAt
             rw [hDs.out, hq2.out, rest_no e1, ← e2]
             exact ⟨hR6, hD6, hO6, hok3⟩)
        case measure => simp [intOf]; omega
    · have hkp : p.take k = p := List.take_of_length_le (by omega)
      rw [hkp] at hDb hO hok hwl hrl hql hnn d2 ⊢
      have hap : 0 < n → ∀ a, A = some a → w.heap.size + 2 ≤ a.block := hO.newer (Nat.le_refl _)
      obtain ⟨hwa, hra⟩ : (wholeB p).all isB = true ∧ (restB p).all isB = true := by have := hok.out; unfold okB at this; rw [Bool.and_eq_true] at this; exact this
      have hI := hO.il
      obtain ⟨NR, hNR⟩ : ∃ x, x = (restB p).length := ⟨_, rfl⟩
      obtain ⟨NW, hNW⟩ : ∃ x, x = (wholeB p).length := ⟨_, rfl⟩
      have hr9 : NR ≤ 100000 := by omega
      have hok0 : 0 < NW → (pointB p = true → 0 < NR) → (isDs (wholeB p) && (!pointB p || isDs (restB p))) = true := fun h1 h2 => by
        have g1 : (wholeB p).isEmpty = false := by rw [List.isEmpty_eq_false_iff]; intro q; rw [q] at hNW; simp at hNW; omega
        have g2 : pointB p = true → (restB p).isEmpty = false := fun hp => by rw [List.isEmpty_eq_false_iff]; intro q; rw [q] at hNR; have := h2 hp; simp at hNR; omega
        unfold isDs
        rw [g1, hwa, hra]
        cases hp : pointB p
        · rfl
        · rw [g2 hp]; rfl
      have HOK : 0 < NW → (pointB p = true → 0 < NR) → NR ≤ 1000 → Hid (D = (⟨nb, digsOf (wholeB p ++ restB p), (NR : Int)⟩, 0)) := fun h1 h2 h3 => by
        rw [Hid, HD.out]
        unfold parseB
        rw [if_pos (hok0 h1 h2), ← hNR, if_pos h3]
      have HR3 : 0 < NW → (pointB p = true → 0 < NR) → 1000 < NR → Hid (D = (Dc.zero, 3)) := fun h1 h2 h3 => by
        rw [Hid, HD.out]
        unfold parseB
        rw [if_pos (hok0 h1 h2), ← hNR, if_neg (by omega)]
      have HE1 : NW = 0 → Hid (D = (Dc.zero, 2)) := fun h => by
        have e : wholeB p = [] := List.eq_nil_of_length_eq_zero (by omega)
        rw [Hid, HD.out]
        unfold parseB
        rw [e, if_neg (by simp [isDs])]
      have HE2 : pointB p = true → NR = 0 → Hid (D = (Dc.zero, 2)) := fun hp h => by
        have e : restB p = [] := List.eq_nil_of_length_eq_zero (by omega)
        rw [Hid, HD.out]
        unfold parseB
        rw [e, hp, if_neg (by simp [isDs])]
      have HR0 : pointB p = false → NR = 0 := fun hp => by rw [hNR, rest_no hp]; rfl
      rw [← hNR] at hDb d2
      rw [← hNW]
      clear hok0 HD hwa hra hok hwl hrl hql hpk hnn hpl hO
      generalize digsOf (wholeB p ++ restB p) = Z at *
      clear hNR hNW
      have hnlt : ¬ (idx : Int) < (s.size : Int) := by omega
      have HIX := Lib.hid hidx
      clear hidx
      rcases Nat.eq_zero_or_pos NW with hw0 | hw0
      · have HD2 := HE1 hw0
        have hb0 : ((NW : Int) == (0 : Int)) = true := by simp; omega
        clear HE1 HE2 HOK HR3 HR0 hw0
        go_wp2_with fail
        rw [HD2.out]
        obtain ⟨⟨z0, z1, z2⟩, _⟩ := (hR.store3 (.bool false) (.slice none 0 0) (.int .i64 0)).cells3
        exact bodyPost_ret (v := .tuple #[.agg #[.bool false, .slice none 0 0, .int .i64 0], .int .i64 2]) (by generalize World.setCell (World.setCell (World.setCell _ _ _) _ _) _ _ = W3 at z0 z1 z2 ⊢; simp [results, Tryz.results25, go_sem, z0, z1, z2]) rfl
          ⟨none, 0, 0, rfl, IL.nil _, below_set3 hR.later (Nat.le_refl _) _ _ _, none_new _⟩
      have hb0 : ((NW : Int) == (0 : Int)) = false := by simp; omega
      cases hpt : pointB p
      · have hr0 := HR0 hpt
        subst hr0
        have HD2 := HOK hw0 (fun h => by rw [hpt] at h; cases h) (by omega)
        clear HE1 HE2 HOK HR3 HR0 hw0
        go_wp2_with fail
        rw [HD2.out]
        obtain ⟨⟨z0, z1, z2⟩, _⟩ := (hR.store3 (.bool nb) (.slice A n c) (.int .i64 0)).cells3
        exact bodyPost_ret (v := .tuple #[.agg #[.bool nb, .slice A n c, .int .i64 0], .int .i64 0]) (by generalize World.setCell (World.setCell (World.setCell _ _ _) _ _) _ _ = W3 at z0 z1 z2 ⊢; simp [results, Tryz.results25, go_sem, z0, z1, z2]) rfl
          ⟨A, n, c, rfl, hI.set3 (fun hz a ha => by have := hap hz a ha; omega) _ _ _, below_set3 hR.later (Nat.le_refl _) _ _ _, fun hz a ha => by have := hap hz a ha; omega⟩
      · rcases Nat.eq_zero_or_pos NR with hr0 | hr0
        · have HD2 := HE2 hpt hr0
          have hb1 : ((NR : Int) == (0 : Int)) = true := by simp; omega
          clear HE1 HE2 HOK HR3 HR0 hw0 hr0
          go_wp2_with fail
          rw [HD2.out]
          obtain ⟨⟨z0, z1, z2⟩, _⟩ := (hR.store3 (.bool false) (.slice none 0 0) (.int .i64 0)).cells3
          exact bodyPost_ret (v := .tuple #[.agg #[.bool false, .slice none 0 0, .int .i64 0], .int .i64 2]) (by generalize World.setCell (World.setCell (World.setCell _ _ _) _ _) _ _ = W3 at z0 z1 z2 ⊢; simp [results, Tryz.results25, go_sem, z0, z1, z2]) rfl
            ⟨none, 0, 0, rfl, IL.nil _, below_set3 hR.later (Nat.le_refl _) _ _ _, none_new _⟩
        have hb1 : ((NR : Int) == (0 : Int)) = false := by simp; omega
        by_cases h1000 : 1000 < NR
        · have HD2 := HR3 hw0 (fun _ => hr0) h1000
          have hi : (1000 : Int) < (NR : Int) := by omega
          clear HE1 HE2 HOK HR3 HR0 hw0
          go_wp2_with fail
          rw [HD2.out]
          obtain ⟨⟨z0, z1, z2⟩, _⟩ := (hR.store3 (.bool false) (.slice none 0 0) (.int .i64 0)).cells3
          exact bodyPost_ret (v := .tuple #[.agg #[.bool false, .slice none 0 0, .int .i64 0], .int .i64 3]) (by generalize World.setCell (World.setCell (World.setCell _ _ _) _ _) _ _ = W3 at z0 z1 z2 ⊢; simp [results, Tryz.results25, go_sem, z0, z1, z2]) rfl
            ⟨none, 0, 0, rfl, IL.nil _, below_set3 hR.later (Nat.le_refl _) _ _ _, none_new _⟩
        have HD2 := HOK hw0 (fun _ => hr0) (by omega)
        have hi : ¬ (1000 : Int) < (NR : Int) := by omega
        clear HE1 HE2 HOK HR3 HR0 hw0
        go_wp2_with fail
        rw [HD2.out]
        obtain ⟨⟨z0, z1, z2⟩, _⟩ := (hR.store3 (.bool nb) (.slice A n c) (.int .i64 (NR : Int))).cells3
        exact bodyPost_ret (v := .tuple #[.agg #[.bool nb, .slice A n c, .int .i64 (NR : Int)], .int .i64 0]) (by generalize World.setCell (World.setCell (World.setCell _ _ _) _ _) _ _ = W3 at z0 z1 z2 ⊢; simp [results, Tryz.results25, go_sem, z0, z1, z2]) rfl
          ⟨A, n, c, rfl, hI.set3 (fun hz a ha => by have := hap hz a ha; omega) _ _ _, below_set3 hR.later (Nat.le_refl _) _ _ _, fun hz a ha => by have := hap hz a ha; omega⟩

end Go.Proofs.YtjinbhnpcdlkiaaGreatDoor


namespace Go.Proofs.YtjinbhnpcdlkiaaGreatDoor
open Go.RowKit

theorem index_point (l : List UInt8) : Lib.indexByte l 46 = if pointB l then ((wholeB l).length : Int) else -1 := by
  induction l with
  | nil => rfl
  | cons x r ih =>
    unfold Lib.indexByte
    by_cases hx : x = 46
    · subst hx; rfl
    · have h1 : (x == 46) = false := by simpa using hx
      have h2 : pointB (x :: r) = pointB r := by unfold pointB; rw [List.any_cons, h1]; rfl
      have h3 : wholeB (x :: r) = x :: wholeB r := by unfold wholeB; rw [List.takeWhile_cons_of_pos (by simpa using hx)]
      rw [h1, h2, h3, ih]
      cases pointB r
      · rfl
      · simp only [if_true, Bool.false_eq_true, if_false, List.length_cons]
        have : ((((wholeB r).length : Nat) : Int) == -1) = false := by
          rw [beq_eq_false_iff_ne]
          omega
        rw [this]
        simp
set_option maxRecDepth 100000 in
theorem indexByte_any (s : ByteArray) (c : Int) (w : World) :
    Calls Tryz.prog 98 #[.string s, .int .u8 c] w fun e w' => e = .returned (.int .i64 (Lib.indexByte s.data.toList c.toNat.toUInt8)) ∧ w' = w := by
  go_enter Tryz.func98, Tryz.ntmps98
  go_wp2
  rw [run_callFunc_extern Tryz.func102 (by kernel_rfl) (by kernel_rfl) (by kernel_rfl) (e := Extern.BytealgIndexByte.indexByte) (by kernel_rfl), Lib.run_indexByteString]
  simp only [Result.andThen]
  rw [Oper.upon_value]
  go_wp2
  go_ret
  exact ⟨rfl, rfl⟩
set_option maxRecDepth 100000 in
theorem index_one (s : ByteArray) (c : UInt8) (w : World) :
    Calls Tryz.prog 94 #[.string s, .string ⟨#[c]⟩] w fun e w' => e = .returned (.int .i64 (Lib.indexByte s.data.toList c)) ∧ w' = w := by
  go_enter Tryz.func94, Tryz.ntmps94
  go_wp2_with (go_at_call 98; refine (indexByte_any _ _ _).mono ?_; rintro e w' ⟨rfl, rfl⟩)
  · have h : ([c] == s.toList) = true := by assumption
    go_ret
    refine ⟨?_, rfl⟩
    have e : s.data.toList = [c] := by rw [← Lib.toList_data]; exact (beq_iff_eq.1 h).symm
    rw [e]
    simp [Lib.indexByte]
  · go_ret
    exact ⟨rfl, rfl⟩
set_option maxRecDepth 100000 in
set_option maxHeartbeats 1000000 in
theorem digits_any (s : ByteArray) (w : World) :
    Calls Tryz.prog 63 #[.string s] w (RV w (.bool (isDs s.data.toList))) := by
  have hlen : Hid (s.data.toList.length = s.size) := Array.length_toList
  go_enter Tryz.func63, Tryz.ntmps63
  go_wp2_with fail
  go_loopw [] (fun wr => ∃ pos : Nat, pos ≤ s.size ∧ wr.heap[w.heap.size]? = some (.stringIter s pos) ∧ Below w.heap.size w wr ∧ Hid ((s.data.toList.take pos).all isB = true)) (fun wr => s.size - wr.iterPos w.heap.size)
  case atStart => exact ⟨0, Nat.zero_le _, World.iter_heap w s 0, (Below.refl _ _).alloc (Nat.le_refl _) _, rfl⟩
  case round =>
    obtain ⟨pos, hle, hit, hB, hall⟩ := hrel
    by_cases hp : pos < s.size
    · have htk : Hid (s.data.toList.take (pos + 1) = s.data.toList.take pos ++ [s[pos]]) := by
        rw [Hid, List.take_succ_eq_append_getElem (by rw [hlen.out]; exact hp)]; rfl
      have hbad : isB s[pos] = false → Hid (isDs s.data.toList = false) := fun h => by
        rw [Hid]
        unfold isDs
        have : s.data.toList.all isB = false := by
          rw [List.all_eq_false]
          exact ⟨s[pos], by show s[pos] ∈ s.data.toList; exact Array.getElem_mem_toList (by exact hp), by rw [h]; simp⟩
        rw [this]; simp
      by_cases h48 : s[pos].toNat < 48
      · have HD := hbad (by simp [isB]; omega)
        have hnx := fun ty => Lib.run_next_ascii_at (P := Tryz.prog) wr w.heap.size s pos ty hit hp (by omega)
        have hB2 := Lib.below_iterAt hB (Nat.le_refl _) s (pos + 1)
        have h48' : (s[pos].toNat : Int) < 48 := by omega
        go_wp2_with fail
        go_ret
        exact ⟨by rw [HD.out]; rfl, hB2⟩
      by_cases h57 : 57 < s[pos].toNat
      · have HD := hbad (by simp [isB]; omega)
        have hnx := fun ty => Lib.run_next_any_at (P := Tryz.prog) wr w.heap.size s pos ty hit hp
        have hB2 := Lib.below_iterAt hB (Nat.le_refl _) s (pos + (Utf8.decode s pos).2)
        have hgt : 57 < (Utf8.decode s pos).1 := by
          by_cases h128 : s[pos].toNat < 128
          · rw [decode_ascii s pos hp h128]; exact h57
          · have := (decode_high s pos hp (by omega)).1; omega
        generalize Utf8.decode s pos = dd at *
        obtain ⟨r, wd⟩ := dd
        simp only at hgt hB2 hnx
        have hgt1 : ¬ (r : Int) < 48 := by omega
        have hgt2 : (57 : Int) < (r : Int) := by omega
        go_wp2_with fail
        go_ret
        exact ⟨by rw [HD.out]; rfl, hB2⟩
      · have hnx := fun ty => Lib.run_next_ascii_at (P := Tryz.prog) wr w.heap.size s pos ty hit hp (by omega)
        have hB2 := Lib.below_iterAt hB (Nat.le_refl _) s (pos + 1)
        have hit2 := Lib.iterAt_heap wr w.heap.size s pos (pos + 1) hit
        have hd : Hid (isB s[pos] = true) := by rw [Hid]; simp [isB]; omega
        have g1 : ¬ (s[pos].toNat : Int) < 48 := by omega
        have g2 : ¬ (57 : Int) < (s[pos].toNat : Int) := by omega
        clear hbad
        go_wp2_with fail
        go_roundw
        case rel => exact ⟨pos + 1, by omega, hit2, hB2, by rw [Hid, htk.out, List.all_append, hall.out]; simpa using hd.out⟩
        case measure =>
          simp only [World.iterPos, hit, hit2]
          omega
    · have hpe : pos = s.size := by omega
      have hal : Hid (s.data.toList.all isB = true) := by
        have := hall.out
        rw [List.take_of_length_le (by rw [hlen.out]; omega)] at this
        exact this
      have hnx := fun ty => Lib.run_next_end_at (P := Tryz.prog) wr w.heap.size s pos ty hit hp
      go_wp2_with fail
      all_goals
        go_ret
        refine ⟨?_, hB⟩
        unfold isDs
        rw [hal.out]
        show Ending.returned (.bool (!s.toList.isEmpty)) = _
        rw [Bool.and_true, Lib.toList_data]

theorem extract_one {s : ByteArray} (h : 0 < s.size) : (s.extract 0 1).toList = [s[0]] := by
  have e := bs_extract s.data.toList 0 1
  rw [bs_back] at e
  rw [e, Lib.toList_data, bs_list]
  rw [List.drop_zero]
  have hl : s.data.toList.length = s.size := Array.length_toList
  have := List.take_succ_eq_append_getElem (l := s.data.toList) (i := 0) (by omega)
  rw [this]
  rfl
set_option maxRecDepth 100000 in
theorem hasprefix_any (s : ByteArray) (w : World) :
    Calls Tryz.prog 93 #[.string s, .string ⟨#[45]⟩] w fun e w' => e = .returned (.bool (negB s.data.toList)) ∧ w = w' := by
  rcases Nat.eq_zero_or_pos s.size with h0 | h0
  · have hn := (neg_nil h0).1
    rw [hn]
    go_enter Tryz.func93, Tryz.ntmps93
    go_wp2
    go_ret
    exact ⟨rfl, rfl⟩
  · have hn := neg_at h0
    have he : Hid (((s.extract 0 1).toList == [45]) = negB s.data.toList) := by
      rw [Hid, extract_one h0, hn]
      simp
    generalize negB s.data.toList = nb at *
    have h1 : (1 : Int) ≤ (s.size : Int) := by omega
    have h2 : 1 ≤ s.size := h0
    go_enter Tryz.func93, Tryz.ntmps93
    go_wp2_with fail
    go_ret
    exact ⟨by rw [← he.out]; rfl, rfl⟩

end Go.Proofs.YtjinbhnpcdlkiaaGreatDoor

