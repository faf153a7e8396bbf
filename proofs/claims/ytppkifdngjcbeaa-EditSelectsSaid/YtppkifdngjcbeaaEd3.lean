/- The walks of what a state may be, and of what is selected. No condition. -/
import Derived.Test.YtppkifdngjcbeaaEd2
namespace Go.Proofs.Ytppkifdngjcbeaa
open Go.RowKit

set_option maxHeartbeats 1000000 in
theorem ein_any (x : SV) (k : Int) (w : World) (h : x.v.ok w) (hf : x.v.fit) :
    Calls Try.prog 81 #[.agg #[.bool x.v.b, .slice x.v.A x.v.n x.v.c, .bool x.v.p, .slice x.v.E x.v.m x.v.q, .int .i64 x.c, .int .i64 x.a], .int .i64 k] w (RV w (.bool (inS x.v.d k))) := by
  have hlen := Lib.hid (fun W (hW : x.v.ok W) => show Calls Try.prog 27 #[.agg #[.bool x.v.b, .slice x.v.A x.v.n x.v.c, .bool x.v.p, .slice x.v.E x.v.m x.v.q]] W (RV W (.int .i64 (lenR x.v.d))) from len_any x.v.b x.v.p W hW.1 hW.2 (by have := hf.2.2.1; omega) (by have := hf.2.2.2; omega))
  have hX := SB.made w w 61 x (Later.refl w) h _ rfl
  have hD : Hid (inS x.v.d k = (decide (0 ≤ k) && decide (k ≤ lenR x.v.d))) := rfl
  generalize inS x.v.d k = D at *
  generalize lenR x.v.d = q at *
  by_cases h0 : 0 ≤ k
  · go_enter Try.func81, Try.ntmps81
    go_upto_region 1 with fail
    generalize World.alloc w _ = w1 at *
    have q0 := hX.c0
    have q1 := hX.c1
    have q2 := hX.c2
    have q3 := hX.c3
    go_wp2_with fail
    refine (hlen.out _ hX.ok).mono ?_
    rintro e w2 ⟨rfl, hB⟩
    go_wp2_with fail
    go_ret
    exact ⟨ret_bool (by rw [hD.out]; simp [h0]), hX.later.call hB⟩
  · have hb : decide (0 ≤ k) = false := by simpa using h0
    go_enter Try.func81, Try.ntmps81
    go_wp2_with fail
    go_ret
    exact ⟨ret_bool (by rw [hD.out, hb]; rfl), hX.later⟩

set_option maxHeartbeats 1000000 in
theorem emay_any (x : SV) (w : World) (h : x.v.ok w) (hf : x.v.fit) :
    Calls Try.prog 51 #[.agg #[.bool x.v.b, .slice x.v.A x.v.n x.v.c, .bool x.v.p, .slice x.v.E x.v.m x.v.q, .int .i64 x.c, .int .i64 x.a]] w (RV w (.bool (mayS x.s))) := by
  have hmay := Lib.hid (fun W (hW : x.v.ok W) => show Calls Try.prog 24 #[.agg #[.bool x.v.b, .slice x.v.A x.v.n x.v.c, .bool x.v.p, .slice x.v.E x.v.m x.v.q]] W (RV W (.bool (mayDr x.v.d))) from dmay_any x.v.b x.v.p W hW.1 hW.2 hf.1 hf.2.1)
  have h1 := Lib.hid (fun W (hW : x.v.ok W) => ein_any x x.c W hW hf)
  have h2 := Lib.hid (fun W (hW : x.v.ok W) => ein_any x x.a W hW hf)
  have hX := SB.made w w 61 x (Later.refl w) h _ rfl
  have hD : Hid (mayS x.s = (mayDr x.v.d && inS x.v.d x.c && inS x.v.d x.a)) := rfl
  generalize mayS x.s = D at *
  generalize mayDr x.v.d = m at *
  generalize inS x.v.d x.c = p at *
  generalize inS x.v.d x.a = q at *
  cases m
  · go_enter Try.func51, Try.ntmps51
    go_upto_region 1 with fail
    generalize World.alloc w _ = w1 at *
    have qx0 := hX.c0
    have qx1 := hX.c1
    have qx2 := hX.c2
    have qx3 := hX.c3
    have qx4 := hX.c4
    have qx5 := hX.c5
    go_wp2_with fail
    refine (hmay.out _ hX.ok).mono ?_
    rintro e w2 ⟨rfl, hB2⟩
    clear qx0 qx1 qx2 qx3 qx4 qx5
    have hx2 := hX.call hB2
    clear hX
    have qx0 := hx2.c0
    have qx1 := hx2.c1
    have qx2 := hx2.c2
    have qx3 := hx2.c3
    have qx4 := hx2.c4
    have qx5 := hx2.c5
    go_wp2_with fail
    go_ret
    exact ⟨ret_bool (by rw [hD.out]; rfl), hx2.later⟩
  · cases p
    · go_enter Try.func51, Try.ntmps51
      go_upto_region 1 with fail
      generalize World.alloc w _ = w1 at *
      have qx0 := hX.c0
      have qx1 := hX.c1
      have qx2 := hX.c2
      have qx3 := hX.c3
      have qx4 := hX.c4
      have qx5 := hX.c5
      go_wp2_with fail
      refine (hmay.out _ hX.ok).mono ?_
      rintro e w2 ⟨rfl, hB2⟩
      clear qx0 qx1 qx2 qx3 qx4 qx5
      have hx2 := hX.call hB2
      clear hX
      have qx0 := hx2.c0
      have qx1 := hx2.c1
      have qx2 := hx2.c2
      have qx3 := hx2.c3
      have qx4 := hx2.c4
      have qx5 := hx2.c5
      go_wp2_with fail
      refine (h1.out _ hx2.ok).mono ?_
      rintro e w3 ⟨rfl, hB3⟩
      clear qx0 qx1 qx2 qx3 qx4 qx5
      have hx3 := hx2.call hB3
      clear hx2
      have qx0 := hx3.c0
      have qx1 := hx3.c1
      have qx2 := hx3.c2
      have qx3 := hx3.c3
      have qx4 := hx3.c4
      have qx5 := hx3.c5
      go_wp2_with fail
      go_ret
      exact ⟨ret_bool (by rw [hD.out]; rfl), hx3.later⟩
    · go_enter Try.func51, Try.ntmps51
      go_upto_region 1 with fail
      generalize World.alloc w _ = w1 at *
      have qx0 := hX.c0
      have qx1 := hX.c1
      have qx2 := hX.c2
      have qx3 := hX.c3
      have qx4 := hX.c4
      have qx5 := hX.c5
      go_wp2_with fail
      refine (hmay.out _ hX.ok).mono ?_
      rintro e w2 ⟨rfl, hB2⟩
      clear qx0 qx1 qx2 qx3 qx4 qx5
      have hx2 := hX.call hB2
      clear hX
      have qx0 := hx2.c0
      have qx1 := hx2.c1
      have qx2 := hx2.c2
      have qx3 := hx2.c3
      have qx4 := hx2.c4
      have qx5 := hx2.c5
      go_wp2_with fail
      refine (h1.out _ hx2.ok).mono ?_
      rintro e w3 ⟨rfl, hB3⟩
      clear qx0 qx1 qx2 qx3 qx4 qx5
      have hx3 := hx2.call hB3
      clear hx2
      have qx0 := hx3.c0
      have qx1 := hx3.c1
      have qx2 := hx3.c2
      have qx3 := hx3.c3
      have qx4 := hx3.c4
      have qx5 := hx3.c5
      go_wp2_with fail
      refine (h2.out _ hx3.ok).mono ?_
      rintro e w4 ⟨rfl, hB4⟩
      clear qx0 qx1 qx2 qx3 qx4 qx5
      have hx4 := hx3.call hB4
      clear hx3
      have qx0 := hx4.c0
      have qx1 := hx4.c1
      have qx2 := hx4.c2
      have qx3 := hx4.c3
      have qx4 := hx4.c4
      have qx5 := hx4.c5
      go_wp2_with fail
      go_ret
      exact ⟨ret_bool (by rw [hD.out]; rfl), hx4.later⟩

set_option maxHeartbeats 1000000 in
theorem espan_any (x : SV) (w : World) (h : x.v.ok w) (hf : x.v.fit) :
    Calls Try.prog 39 #[.agg #[.bool x.v.b, .slice x.v.A x.v.n x.v.c, .bool x.v.p, .slice x.v.E x.v.m x.v.q, .int .i64 x.c, .int .i64 x.a]] w fun e w' => e = .returned (.tuple #[.int .i64 (if mayS x.s then frontS x.s else 0), .int .i64 (if mayS x.s then backS x.s else 0)]) ∧ Below w.heap.size w w' := by
  have hm := Lib.hid (fun W (hW : x.v.ok W) => emay_any x W hW hf)
  have hX := SB.made w w 61 x (Later.refl w) h _ rfl
  have hfr : Hid (frontS x.s = if x.a < x.c then x.a else x.c) := rfl
  have hbk : Hid (backS x.s = if x.c < x.a then x.a else x.c) := rfl
  generalize mayS x.s = m at *
  generalize frontS x.s = fr at *
  generalize backS x.s = bk at *
  cases m
  · go_enter Try.func39, Try.ntmps39
    go_wp2_with fail
    refine (hm.out _ (h.alloc _)).mono ?_
    rintro e w1 ⟨rfl, hB⟩
    go_wp2_with fail
    go_ret2
    exact ⟨rfl, hX.later.call hB⟩
  · go_enter Try.func39, Try.ntmps39
    go_wp2_with fail
    refine (hm.out _ (h.alloc _)).mono ?_
    rintro e w1 ⟨rfl, hB⟩
    have hX1 := hX.call hB
    have q4 := hX1.c4
    have q5 := hX1.c5
    have hL1 := hX1.later
    go_upto_region 3 with fail
    clear hX1 hX hm hf
    generalize x.c = cc at *
    generalize x.a = aa at *
    rcases Int.lt_trichotomy aa cc with q | q | q
    · have e1 : Hid (fr = aa) := by rw [Hid, hfr.out, if_pos q]
      have e2 : Hid (bk = cc) := by rw [Hid, hbk.out, if_neg (by omega)]
      clear hfr hbk
      go_region
      all_goals first
        | omega
        | (go_wp2_with fail
           go_ret2
           exact ⟨by rw [e1.out, e2.out]; rfl, hL1.drew⟩)
    · subst q
      have e1 : Hid (fr = aa) := by rw [Hid, hfr.out]; simp
      have e2 : Hid (bk = aa) := by rw [Hid, hbk.out]; simp
      clear hfr hbk
      go_region
      all_goals first
        | omega
        | (go_wp2_with fail
           go_ret2
           exact ⟨by rw [e1.out, e2.out]; rfl, hL1.drew⟩)
    · have e1 : Hid (fr = cc) := by rw [Hid, hfr.out, if_neg (by omega)]
      have e2 : Hid (bk = aa) := by rw [Hid, hbk.out, if_pos q]
      clear hfr hbk
      go_region
      all_goals first
        | omega
        | (go_wp2_with fail
           go_ret2
           exact ⟨by rw [e1.out, e2.out]; rfl, hL1.drew⟩)

set_option maxHeartbeats 2000000 in
theorem rsmay_any (x : SV) (w : World) (h : x.v.ok w) (hf : x.v.fit) :
    Calls Try.prog 50 #[.agg #[.bool x.v.b, .slice x.v.A x.v.n x.v.c, .bool x.v.p, .slice x.v.E x.v.m x.v.q, .int .i64 x.c, .int .i64 x.a]] w (RV w (.bool (mayS x.s))) := by
  have hmay := Lib.hid (fun W (hW : x.v.ok W) => show Calls Try.prog 82 #[.agg #[.bool x.v.b, .slice x.v.A x.v.n x.v.c, .bool x.v.p, .slice x.v.E x.v.m x.v.q]] W (RV W (.bool (mayDr x.v.d))) from rdmay_any x.v.b x.v.p W hW.1 hW.2)
  have hat := Lib.hid (fun W (hW : x.v.ok W) => (ratoms_any x.v.b x.v.p W hW.1 hW.2 (by have := hf.2.2.1; omega) (by have := hf.2.2.2; omega)).mono (fun _ _ h => h.rl))
  have hX := SB.made w w 53 x (Later.refl w) h _ rfl
  have hD : Hid (mayS x.s = (mayDr x.v.d && (decide (0 ≤ x.c) && decide (x.c ≤ lenR x.v.d)) && (decide (0 ≤ x.a) && decide (x.a ≤ lenR x.v.d)))) := rfl
  have hl : lenR x.v.d = ((atomsD x.v.l x.v.p x.v.f).length : Int) := rfl
  generalize mayS x.s = D at *
  generalize mayDr x.v.d = m at *
  rw [hl] at hD
  generalize atomsD x.v.l x.v.p x.v.f = at_ at *
  go_enter Try.func50, Try.ntmps50
  go_upto_region 1 with fail
  generalize World.alloc w _ = w1 at *
  have qx0 := hX.c0
  have qx1 := hX.c1
  have qx2 := hX.c2
  have qx3 := hX.c3
  have qx4 := hX.c4
  have qx5 := hX.c5
  go_wp2_with fail
  refine (hmay.out _ hX.ok).mono ?_
  rintro e w2 ⟨rfl, hB2⟩
  clear qx0 qx1 qx2 qx3 qx4 qx5
  have hx2 := hX.call hB2
  clear hX
  have qx0 := hx2.c0
  have qx1 := hx2.c1
  have qx2 := hx2.c2
  have qx3 := hx2.c3
  have qx4 := hx2.c4
  have qx5 := hx2.c5
  go_wp2_with fail
  refine (hat.out _ hx2.ok).mono ?_
  rintro e w3 ⟨A3, n3, c3, rfl, hI3, hB3⟩
  clear qx0 qx1 qx2 qx3 qx4 qx5
  have hx3 := hx2.call hB3
  clear hx2
  have hn3 := hI3.len
  have hLz := hx3.later
  rw [hn3] at hD
  clear hI3 hat hmay hl
  cases m
  · have q4 := hx3.c4
    have q5 := hx3.c5
    go_wp2_with fail
    go_ret
    exact ⟨ret_bool (by rw [hD.out]; rfl), hLz⟩
  · have q4 := hx3.c4
    have q5 := hx3.c5
    by_cases g0 : 0 ≤ x.c
    case neg =>
      have hb : decide (0 ≤ x.c) = false := by simpa using g0
      go_wp2_with fail
      go_ret
      exact ⟨ret_bool (by rw [hD.out]; simp; intros; omega), hLz⟩
    case pos =>
      by_cases g1 : x.c ≤ (n3 : Int)
      case neg =>
        have hb : decide (x.c ≤ (n3 : Int)) = false := by simpa using g1
        go_wp2_with fail
        go_ret
        exact ⟨ret_bool (by rw [hD.out]; simp; intros; omega), hLz⟩
      case pos =>
        by_cases g2 : 0 ≤ x.a
        case neg =>
          have hb : decide (0 ≤ x.a) = false := by simpa using g2
          go_wp2_with fail
          go_ret
          exact ⟨ret_bool (by rw [hD.out]; simp; intros; omega), hLz⟩
        case pos =>
          by_cases g3 : x.a ≤ (n3 : Int)
          case neg =>
            have hb : decide (x.a ≤ (n3 : Int)) = false := by simpa using g3
            go_wp2_with fail
            go_ret
            exact ⟨ret_bool (by rw [hD.out]; simp; intros; omega), hLz⟩
          case pos =>
            go_wp2_with fail
            go_ret
            exact ⟨ret_bool (by rw [hD.out]; simp [g0, g1, g2, g3]), hLz⟩

end Go.Proofs.Ytppkifdngjcbeaa
