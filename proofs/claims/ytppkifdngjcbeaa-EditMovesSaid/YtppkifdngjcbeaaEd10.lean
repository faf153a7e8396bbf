/- The walks of the document's words. No condition. -/
import Derived.Test.YtppkifdngjcbeaaEd3
import Derived.Test.YtppkifdngjcbeaaEd7
namespace Go.Proofs.Ytppkifdngjcbeaa
open Go.RowKit

set_option maxHeartbeats 4000000 in
theorem wordl_any (A : Option Addr) (n c : Nat) (l : List Int) (k : Nat) (w : World) (h : IL w A n c l) (hk : k ≤ n) (hn : n ≤ 100000) (hp : pts l ≤ 1) :
    Calls Try.prog 100 #[.slice A n c, .int .i64 (k : Int), .bool false] w (RV w (.int .i64 (leftS l (k : Int)))) := by
  have hlen := Lib.hid h.len
  have hle := h.le
  have hcap := h.cap
  rcases Nat.eq_zero_or_pos k with h0 | h0
  · subst h0
    have hD : Hid (leftS l ((0 : Nat) : Int) = 0) := rfl
    go_enter Try.func100, Try.ntmps100
    go_wp2_with fail
    go_loopw [1] (fun v wr => v = .int .i64 0 ∧ Later w wr) (fun _ _ => 0)
    case atStart => exact ⟨rfl, Later.refl _⟩
    case round =>
      obtain ⟨rfl, hL⟩ := hrel
      go_wp2_with fail
      go_ret
      exact ⟨by rw [hD.out]; rfl, hL⟩
  · obtain ⟨bb, off, e, hc⟩ := h.at_ (k := k - 1) (by omega)
    have hkp : (0 : Int) < (k : Int) := by omega
    have hw1 : IntKind.i64.wrap ((k : Int) - 1) = (k : Int) - 1 := IntWalk.i64_in _ (by omega)
    have hm1 : (if (k : Int) - 1 < 0 then (0 : Int) else (k : Int) - 1) = ((k - 1 : Nat) : Int) := by rw [if_neg (by omega)]; omega
    subst e
    by_cases h10 : l.getD (k - 1) 0 = 10
    · have hD : Hid (leftS l (k : Int) = (k : Int) - 1) := by rw [Hid, left_ten h0 h10]
      rw [h10] at hc
      go_enter Try.func100, Try.ntmps100
      go_wp2_with fail
      go_ret
      exact ⟨by rw [hD.out]; rfl, Later.refl _⟩
    · have h10h := Lib.hid h10
      have hD := Lib.hid (fun (j : Nat) (hj : j ≤ k) (hno : ∀ i, j ≤ i → i < k → l.getD i 0 ≠ 10) (he : j = 0 ∨ l.getD (j - 1) 0 = 10) => left_loop (l := l) (c := k) (k := j) hp (by rw [hlen.out]; exact hk) hj hno he (fun _ => h10))
      generalize hdg : l.getD (k - 1) 0 = dg at hc h10
      have h10b : (dg == 10) = false := by simpa using h10
      clear hdg
      go_enter Try.func100, Try.ntmps100
      go_wp2_with fail
      go_loopw [1] (fun v wr => ∃ j : Nat, j ≤ k ∧ v = .int .i64 (j : Int) ∧ Later w wr ∧ Hid (∀ i, j ≤ i → i < k → l.getD i 0 ≠ 10)) (fun v _ => (intOf v).toNat)
      case atStart => exact ⟨k, Nat.le_refl _, rfl, Later.refl _, fun i h1 h2 => by omega⟩
      case round =>
        clear hc hm1 hw1 hkp h10b h10
        obtain ⟨j, hj, rfl, hL, hno⟩ := hrel
        rcases Nat.eq_zero_or_pos j with j0 | j0
        · subst j0
          have hDv := Lib.hid (hD.out 0 hj hno.out (.inl rfl))
          go_wp2_with fail
          go_ret
          exact ⟨by rw [hDv.out]; rfl, hL⟩
        · obtain ⟨b2, o2, e, hc⟩ := (h.later hL).at_ (k := j - 1) (by omega)
          obtain ⟨rfl, rfl⟩ : bb = b2 ∧ off = o2 := by simpa using e
          have hjp : (0 : Int) < (j : Int) := by omega
          have hw1 : IntKind.i64.wrap ((j : Int) - 1) = (j : Int) - 1 := IntWalk.i64_in _ (by omega)
          have hm1 : (if (j : Int) - 1 < 0 then (0 : Int) else (j : Int) - 1) = ((j - 1 : Nat) : Int) := by rw [if_neg (by omega)]; omega
          by_cases g10 : l.getD (j - 1) 0 = 10
          · have hDv := Lib.hid (hD.out j hj hno.out (.inr g10))
            rw [g10] at hc
            clear hD hno
            go_wp2_with fail
            go_ret
            exact ⟨by rw [hDv.out]; rfl, hL⟩
          · have hno2 := Lib.hid (show ∀ i, j - 1 ≤ i → i < k → l.getD i 0 ≠ 10 from fun i h1 h2 => by
              by_cases hi : i = j - 1
              · rw [hi]; exact g10
              · exact hno.out i (by omega) h2)
            generalize l.getD (j - 1) 0 = dg2 at hc g10
            have g10b : (dg2 == 10) = false := by simpa using g10
            clear hD hno
            go_wp2_with fail
            go_roundw
            case rel => first | exact ⟨j - 1, by omega, by go_num, hL, hno2⟩ | ((repeat apply Exists.intro); exact ⟨⟨j - 1, by omega, by go_num, hL, hno2⟩, rfl⟩)
            case measure => simp [intOf]; omega

set_option maxHeartbeats 4000000 in
theorem wordr_any (A : Option Addr) (n c : Nat) (l : List Int) (k : Nat) (w : World) (h : IL w A n c l) (hk : k ≤ n) (hn : n ≤ 100000) :
    Calls Try.prog 100 #[.slice A n c, .int .i64 (k : Int), .bool true] w (RV w (.int .i64 (rightS l (k : Int)))) := by
  have hlen := Lib.hid h.len
  have hle := h.le
  have hcap := h.cap
  have hD := Lib.hid (fun (j : Nat) (hj : k ≤ j) (hjl : j ≤ n) (hno : ∀ i, k ≤ i → i < j → l.getD i 0 ≠ 10) (he : j = n ∨ l.getD j 0 = 10) (hne : k < n → l.getD k 0 ≠ 10) => right_loop (l := l) (c := k) (k := j) hj (by rw [hlen.out]; exact hjl) hno (by rw [hlen.out]; exact he) (fun q => hne (by rw [hlen.out] at q; exact q)))
  have hDt := Lib.hid (fun (hkn : k < n) (h10 : l.getD k 0 = 10) => right_ten (l := l) (c := k) (by rw [hlen.out]; exact hkn) h10)
  rcases Nat.lt_or_ge k n with h0 | h0
  · obtain ⟨bb, off, e, hc⟩ := h.at_ (k := k) h0
    have hkp : (k : Int) < (n : Int) := by omega
    have hw0 : IntKind.i64.wrap ((n : Int) - 1) = (n : Int) - 1 := IntWalk.i64_in _ (by omega)
    have hw1 : IntKind.i64.wrap ((k : Int) + 1) = (k : Int) + 1 := IntWalk.i64_in _ (by omega)
    have hm0 : (if (n : Int) - 1 < 0 then (0 : Int) else (n : Int) - 1) = (n : Int) - 1 := if_neg (by omega)
    have hm1 : (if (n : Int) - 1 < (k : Int) then (n : Int) - 1 else (k : Int)) = (k : Int) := if_neg (by omega)
    subst e
    by_cases h10 : l.getD k 0 = 10
    · have hDv := Lib.hid (hDt.out h0 h10)
      rw [h10] at hc
      clear hD hDt
      go_enter Try.func100, Try.ntmps100
      go_wp2_with fail
      go_ret
      exact ⟨by rw [hDv.out]; rfl, Later.refl _⟩
    · have h10h := Lib.hid h10
      generalize hdg : l.getD k 0 = dg at hc h10
      have h10b : (dg == 10) = false := by simpa using h10
      clear hdg hDt
      go_enter Try.func100, Try.ntmps100
      go_wp2_with fail
      go_loopw [1] (fun v wr => ∃ j : Nat, k ≤ j ∧ j ≤ n ∧ v = .int .i64 (j : Int) ∧ Later w wr ∧ Hid (∀ i, k ≤ i → i < j → l.getD i 0 ≠ 10)) (fun v _ => n - (intOf v).toNat)
      case atStart => exact ⟨k, Nat.le_refl _, hk, rfl, Later.refl _, fun i h1 h2 => by omega⟩
      case round =>
        clear hc hm1 hw1 hkp h10b h10
        obtain ⟨j, hkj, hj, rfl, hL, hno⟩ := hrel
        rcases Nat.lt_or_ge j n with j0 | j0
        · obtain ⟨b2, o2, e, hc⟩ := (h.later hL).at_ (k := j) j0
          obtain ⟨rfl, rfl⟩ : bb = b2 ∧ off = o2 := by simpa using e
          have hjp : (j : Int) < (n : Int) := by omega
          have hw1 : IntKind.i64.wrap ((j : Int) + 1) = (j : Int) + 1 := IntWalk.i64_in _ (by omega)
          have hm1 : (if (n : Int) - 1 < (j : Int) then (n : Int) - 1 else (j : Int)) = (j : Int) := if_neg (by omega)
          by_cases g10 : l.getD j 0 = 10
          · have hDv := Lib.hid (hD.out j hkj hj hno.out (.inr g10) (fun _ => h10h.out))
            rw [g10] at hc
            clear hD hno
            go_wp2_with fail
            go_ret
            exact ⟨by rw [hDv.out]; rfl, hL⟩
          · have hno2 := Lib.hid (show ∀ i, k ≤ i → i < j + 1 → l.getD i 0 ≠ 10 from fun i h1 h2 => by
              by_cases hi : i = j
              · rw [hi]; exact g10
              · exact hno.out i h1 (by omega))
            generalize l.getD j 0 = dg2 at hc g10
            have g10b : (dg2 == 10) = false := by simpa using g10
            clear hD hno
            go_wp2_with fail
            go_roundw
            case rel => first | exact ⟨j + 1, by omega, by omega, by go_num, hL, hno2⟩ | ((repeat apply Exists.intro); exact ⟨⟨j + 1, by omega, by omega, by go_num, hL, hno2⟩, rfl⟩)
            case measure => simp [intOf]; omega
        · have hjn : j = n := by omega
          subst hjn
          have hDv := Lib.hid (hD.out j hkj hj hno.out (.inl rfl) (fun _ => h10h.out))
          have hjp : ¬ (j : Int) < (j : Int) := by omega
          clear hm0 hw0
          go_wp2_with fail
          go_ret
          exact ⟨by rw [hDv.out]; rfl, hL⟩
  · have hkn : k = n := by omega
    subst hkn
    have hDv := Lib.hid (hD.out k (Nat.le_refl _) (Nat.le_refl _) (fun i h1 h2 => by omega) (.inl rfl) (fun q => by omega))
    have hjp : ¬ (k : Int) < (k : Int) := by omega
    clear hD hDt
    go_enter Try.func100, Try.ntmps100
    go_wp2_with fail
    go_loopw [1] (fun v wr => v = .int .i64 (k : Int) ∧ Later w wr) (fun _ _ => 0)
    case atStart => exact ⟨rfl, Later.refl _⟩
    case round =>
      obtain ⟨rfl, hL⟩ := hrel
      go_wp2_with fail
      go_ret
      exact ⟨by rw [hDv.out]; rfl, hL⟩

set_option maxHeartbeats 4000000 in
theorem rto_any (x : SV) (what : Int) (w : World) (h : x.v.ok w) (hf : x.v.fit) (hm : mayS x.s = true) (hk0 : 0 ≤ what) (hk6 : what ≤ 6) :
    Calls Try.prog 78 #[.agg #[.bool x.v.b, .slice x.v.A x.v.n x.v.c, .bool x.v.p, .slice x.v.E x.v.m x.v.q, .int .i64 x.c, .int .i64 x.a], .int .i64 what] w (RV w (.int .i64 (toS x.v.d x.c what))) := by
  have hat := Lib.hid (fun W (hW : x.v.ok W) => show Calls Try.prog 41 #[.agg #[.bool x.v.b, .slice x.v.A x.v.n x.v.c, .bool x.v.p, .slice x.v.E x.v.m x.v.q]] W (RL W (atomsR x.v.d)) from (ratoms_any x.v.b x.v.p W hW.1 hW.2 (by have := hf.2.2.1; omega) (by have := hf.2.2.2; omega)).mono (fun _ _ h => h.rl))
  have hX0 := SB.made w w 53 x (Later.refl w) h _ rfl
  have hb := lenR_le h hf
  obtain ⟨hmd, ⟨hc0, hc1⟩, _⟩ := mayS_iff.1 hm
  have hc0' : 0 ≤ x.c := hc0
  have hc1' : x.c ≤ lenR x.v.d := hc1
  have hp : pts (atomsR x.v.d) ≤ 1 := (atoms_pts hmd).1
  have hln : lenR x.v.d = ((atomsR x.v.d).length : Int) := rfl
  have hD : Hid (toS x.v.d x.c what = if what = 0 then (if x.c - 1 < 0 then 0 else x.c - 1) else if what = 1 then (if lenR x.v.d < x.c + 1 then lenR x.v.d else x.c + 1) else if what = 2 then leftS (atomsR x.v.d) x.c else if what = 3 then rightS (atomsR x.v.d) x.c
    else if what = 4 then 0 else lenR x.v.d) := rfl
  clear hm hmd hc0 hc1
  generalize toS x.v.d x.c what = D at *
  rw [hln] at hb hc1' hD
  clear hln
  generalize atomsR x.v.d = L at *
  obtain ⟨k, hk⟩ : ∃ k : Nat, Hid (x.c = (k : Int)) := ⟨x.c.toNat, by rw [Hid]; omega⟩
  rw [hk.out] at hD hc1' hc0'
  have hXc := Lib.hid (fun W (q : SB w w.heap.size 53 x W) => show W.cell? ⟨w.heap.size, 4, none⟩ = some (.int .i64 (k : Int)) by rw [← hk.out]; exact q.c4)
  go_enter Try.func78, Try.ntmps78
  go_upto_region 1 with fail
  generalize World.alloc w _ = w1 at *
  have q0 := hX0.c0
  have q1 := hX0.c1
  have q2 := hX0.c2
  have q3 := hX0.c3
  go_wp2_with fail
  refine (hat.out _ hX0.ok).mono ?_
  rintro e w2 ⟨A2, n2, c2, rfl, hI2, hB2⟩
  clear q0 q1 q2 q3
  have hX2 := hX0.call hB2
  have q4 := hXc.out w2 hX2
  have hLz := hX2.later
  have hn2 := Lib.hid hI2.len
  rw [hn2.out] at hb hc1' hD
  have hkn : k ≤ n2 := by omega
  have hwl := Lib.hid (wordl_any A2 n2 c2 L k w2 hI2 hkn (by omega) hp)
  have hwr := Lib.hid (wordr_any A2 n2 c2 L k w2 hI2 hkn (by omega))
  clear hX0 hX2 hI2 hat hXc
  have hws : IntKind.i64.wrap ((k : Int) - 1) = (k : Int) - 1 := IntWalk.i64_in _ (by omega)
  have hwa : IntKind.i64.wrap ((k : Int) + 1) = (k : Int) + 1 := IntWalk.i64_in _ (by omega)
  have hcs : what = 0 ∨ what = 1 ∨ what = 2 ∨ what = 3 ∨ what = 4 ∨ what = 5 ∨ what = 6 := by omega
  rcases hcs with rfl | rfl | rfl | rfl | rfl | rfl | rfl
  · have hDv : Hid (D = if (k : Int) - 1 < 0 then 0 else (k : Int) - 1) := by rw [Hid, hD.out]; rfl
    clear hD hwl hwr
    obtain ⟨R, hR⟩ : ∃ R, (if (k : Int) - 1 < 0 then (0 : Int) else (k : Int) - 1) = R := ⟨_, rfl⟩
    rw [hR] at hDv
    go_wp2_with fail
    go_ret
    exact ⟨by rw [hDv.out]; rfl, hLz⟩
  · have hDv : Hid (D = if (n2 : Int) < (k : Int) + 1 then (n2 : Int) else (k : Int) + 1) := by rw [Hid, hD.out]; rfl
    clear hD hwl hwr
    obtain ⟨R, hR⟩ : ∃ R, (if (n2 : Int) < (k : Int) + 1 then (n2 : Int) else (k : Int) + 1) = R := ⟨_, rfl⟩
    rw [hR] at hDv
    go_wp2_with fail
    go_ret
    exact ⟨by rw [hDv.out]; rfl, hLz⟩
  · have hDv : Hid (D = leftS L (k : Int)) := by rw [Hid, hD.out]; rfl
    clear hD hwr
    go_wp2_with fail
    refine hwl.out.mono ?_
    rintro e w3 ⟨rfl, hB3⟩
    go_wp2_with fail
    go_ret
    exact ⟨by rw [hDv.out]; rfl, hLz.call hB3⟩
  · have hDv : Hid (D = rightS L (k : Int)) := by rw [Hid, hD.out]; rfl
    clear hD hwl
    go_wp2_with fail
    refine hwr.out.mono ?_
    rintro e w3 ⟨rfl, hB3⟩
    go_wp2_with fail
    go_ret
    exact ⟨by rw [hDv.out]; rfl, hLz.call hB3⟩
  · have hDv : Hid (D = 0) := by rw [Hid, hD.out]; rfl
    clear hD hwl hwr
    go_wp2_with fail
    go_ret
    exact ⟨by rw [hDv.out]; rfl, hLz⟩
  · have hDv : Hid (D = (n2 : Int)) := by rw [Hid, hD.out]; rfl
    clear hD hwl hwr
    go_wp2_with fail
    go_ret
    exact ⟨by rw [hDv.out]; rfl, hLz⟩
  · have hDv : Hid (D = (n2 : Int)) := by rw [Hid, hD.out]; rfl
    clear hD hwl hwr
    go_wp2_with fail
    go_ret
    exact ⟨by rw [hDv.out]; rfl, hLz⟩

end Go.Proofs.Ytppkifdngjcbeaa
