/- The walks of decimals: the trim one, on both sides. No condition. -/
import Derived.Test.YtaolimhbeoocjaaBlk
import Derived.Test.YtaolimhbeoocjaaDd
import Derived.Test.YtaolimhbeoocjaaRa
import Derived.Test.YtaolimhbeoocjaaCanon
import Derived.RegionTactic
import Derived.BigRegion
namespace Go.Proofs.Ytaolimhbeoocjaa
open Go.RowKit

/-- What a call hands back that makes a decimal; its digits lie in memory of its own. -/
def RC (w : World) (d : Dc) (e : Ending) (w' : World) : Prop :=
  ∃ A n c, e = .returned (.agg #[.bool d.neg, .slice A n c, .int .i64 d.s]) ∧ IL w' A n c d.l ∧ Below w.heap.size w w' ∧ (0 < n → ∀ a, A = some a → w.heap.size ≤ a.block)
def RCE (w : World) (d : Dc) (code : Int) (e : Ending) (w' : World) : Prop :=
  ∃ A n c, e = .returned (.tuple #[.agg #[.bool d.neg, .slice A n c, .int .i64 d.s], .int .i64 code]) ∧ IL w' A n c d.l ∧ Below w.heap.size w w' ∧ (0 < n → ∀ a, A = some a → w.heap.size ≤ a.block)

theorem none_new (B : Nat) : 0 < 0 → ∀ a : Addr, none = some a → B ≤ a.block := fun h => absurd h (by omega)
theorem stripZ_stop {k : Nat} {l : List Int} (h : k = 0 ∨ l.getLast? ≠ some 0) : stripZ k l = (l, k) := by
  cases k with
  | zero => rfl
  | succ k =>
    rcases h with h | h
    · omega
    · simp only [stripZ]; rw [if_neg h]
theorem stripZ_go {k : Nat} {l : List Int} (h : l.getLast? = some 0) : stripZ (k + 1) l = stripZ k l.dropLast := by
  simp only [stripZ]; rw [if_pos h]
theorem stripZ_ne {s : Nat} {l : List Int} (h : headed l) (hn : l ≠ []) : (stripZ s l).1 ≠ [] := by
  induction s generalizing l with
  | zero => exact hn
  | succ s ih =>
    simp only [stripZ]
    split
    · next hl =>
      rcases snoc_or l with rfl | ⟨r, d, rfl⟩
      · exact absurd rfl hn
      · simp at hl
        subst hl
        simp only [List.dropLast_concat]
        refine ih (headed_snoc h) ?_
        intro hr
        subst hr
        exact h 0 [] rfl rfl
    · exact hn
theorem last_getD {l : List Int} {n : Nat} (h : l.length = n) (hn : 0 < n) : l.getLast? = some (l.getD (n - 1) 0) := by
  subst h
  rw [List.getLast?_eq_getElem?, List.getD]
  rw [List.getElem?_eq_getElem (show l.length - 1 < l.length by omega)]
  rfl
theorem dropLast_take {l : List Int} {n : Nat} (h : l.length = n) : l.dropLast = l.take (n - 1) := by
  subst h; exact List.dropLast_eq_take
theorem trimDc_eq (b : Bool) (l : List Int) (s : Nat) : trimDc ⟨b, l, s⟩ = if trimL l = [] then Dc.zero else ⟨b, (stripZ s (trimL l)).1, (stripZ s (trimL l)).2⟩ := rfl

theorem IL.set3 {W : World} {A : Option Addr} {n c : Nat} {l : List Int} (h : IL W A n c l) {g : Nat} (hp : 0 < n → ∀ a, A = some a → a.block ≠ g) (u0 u1 u2 : Value) :
    IL (((W.setCell ⟨g, 0, none⟩ u0).setCell ⟨g, 1, none⟩ u1).setCell ⟨g, 2, none⟩ u2) A n c l :=
  ((h.set_ (p := ⟨g, 0, none⟩) hp _).set_ (p := ⟨g, 1, none⟩) hp _).set_ (p := ⟨g, 2, none⟩) hp _
theorem below_set3 {w0 W : World} {B : Nat} (h : Below B w0 W) {g : Nat} (hg : B ≤ g) (u0 u1 u2 : Value) :
    Below B w0 (((W.setCell ⟨g, 0, none⟩ u0).setCell ⟨g, 1, none⟩ u1).setCell ⟨g, 2, none⟩ u2) :=
  ((h.setCell (p := ⟨g, 0, none⟩) hg _).setCell (p := ⟨g, 1, none⟩) hg _).setCell (p := ⟨g, 2, none⟩) hg _
theorem Blk.store3 {w0 W : World} {g : Nat} {t : TypeId} {a b c : Value} (h : Blk w0 g t #[a, b, c] W) (u0 u1 u2 : Value) :
    Blk w0 g t #[u0, u1, u2] (((W.setCell ⟨g, 0, none⟩ u0).setCell ⟨g, 1, none⟩ u1).setCell ⟨g, 2, none⟩ u2) := ((h.set_ 0 u0).set_ 1 u1).set_ 2 u2
theorem Blk.cells3 {w0 W : World} {g : Nat} {t : TypeId} {a b c : Value} (h : Blk w0 g t #[a, b, c] W) :
    (W.cell? ⟨g, 0, none⟩ = some a ∧ W.cell? ⟨g, 1, none⟩ = some b ∧ W.cell? ⟨g, 2, none⟩ = some c) ∧ (W.frozen? ⟨g, 0, none⟩ = false ∧ W.frozen? ⟨g, 1, none⟩ = false ∧ W.frozen? ⟨g, 2, none⟩ = false) :=
  ⟨⟨h.cell 0, h.cell 1, h.cell 2⟩, h.free 0, h.free 1, h.free 2⟩
theorem I64.drop_ {a : List Int} (ha : I64 a) (k : Nat) : I64 (a.drop k) := fun x hx => ha x (List.mem_of_mem_drop hx)
theorem I64.take_ {a : List Int} (ha : I64 a) (k : Nat) : I64 (a.take k) := fun x hx => ha x (List.mem_of_mem_take hx)

set_option maxHeartbeats 1000000 in
theorem dtrim_any {A : Option Addr} {n c : Nat} {l : List Int} (b : Bool) (s : Int) (w : World) (h : IL w A n c l) (hl : I64 l) (hn : n ≤ 100000000) (hs0 : 0 ≤ s) (hs : s ≤ 1000000) :
    Calls Try.prog 37 #[.agg #[.bool b, .slice A n c, .int .i64 s]] w (RC w (trimDc ⟨b, l, s⟩)) := by
  obtain ⟨s', rfl⟩ := Int.eq_ofNat_of_zero_le hs0
  have ht := Lib.hid (fun W hW => trim_any A n c l W hW hl hn)
  have hD := trimDc_eq b l s'
  generalize trimDc ⟨b, l, (s' : Int)⟩ = D at *
  have hhd := headed_trim l
  have htl : (trimL l).length ≤ l.length := by rw [trimL_len]; omega
  have hti : I64 (trimL l) := by rw [trimL_drop]; exact hl.drop_ _
  have hln := h.len
  generalize trimL l = t at *
  have HD := Lib.hid hD
  clear hD
  go_enter Try.func37, Try.ntmps37
  go_wp2_with fail
  refine (ht.out _ ((h.alloc _).alloc _)).mono ?_
  rintro e w1 ⟨A1, n1, c1, rfl, hO, hB⟩
  have hX : Blk w w.heap.size 32 #[.bool b, .slice A n c, .int .i64 (s' : Int)] w1 := ((Blk.made w w _ _ (Later.refl w) _ rfl).alloc _).call hB
  have hR : Blk w (w.heap.size + 1) 32 #[.bool false, .slice none 0 0, .int .i64 0] w1 := (Blk.made w _ _ _ ((Later.refl w).alloc _) _ (by simp)).call hB
  have hn1 : n1 ≤ 100000000 := by have := hO.len; omega
  have hc1 := hO.il.cap
  have hle1 := hO.il.le
  have hne1 : 0 < n1 → ∀ a, A1 = some a → w.heap.size + 2 ≤ a.block := fun hz a ha => by
    obtain ⟨a', ha', hb'⟩ := hO.new hz
    subst ha
    obtain rfl := Option.some.inj ha'
    simpa using hb'
  have hI1 := hO.il
  clear hO hB ht
  go_wp2_with fail
  go_loopw [3] (fun v wr => ∃ (k n' : Nat) (l' : List Int), v = .slice A1 n' c1 ∧ n' ≤ n1 ∧ k ≤ s' ∧ IL wr A1 n' c1 l' ∧ Blk w w.heap.size 32 #[.bool b, .slice A n c, .int .i64 (k : Int)] wr ∧ Blk w (w.heap.size + 1) 32 #[.bool false, .slice none 0 0, .int .i64 0] wr ∧ Hid (stripZ s' t = stripZ k l'))
    (fun v _ => match v with | .slice _ n _ => n | _ => 0)
  case atStart => exact ⟨s', n1, t, rfl, Nat.le_refl _, Nat.le_refl _, hI1, hX, hR, rfl⟩
  case round =>
    obtain ⟨k, n', l', rfl, hn', hk, hI, hX, hR, hS⟩ := hrel
    obtain ⟨⟨q0, q1, q2⟩, ⟨f0, f1, f2⟩⟩ := hX.cells3
    obtain ⟨⟨r0, r1, r2⟩, ⟨g0, g1, g2⟩⟩ := hR.cells3
    have HX := Lib.hid hX
    have HR := Lib.hid hR
    have hlen' := Lib.hid hI.len
    clear hX hR
    by_cases hrd : 0 < k ∧ 0 < n' ∧ l'.getD (n' - 1) 0 = 0
    · obtain ⟨hk0, hn0, hl0⟩ := hrd
      obtain ⟨bb, off, rfl, hc⟩ := hI.at_ (k := n' - 1) (by omega)
      rw [hl0] at hc
      have hgo : Hid (stripZ k l' = stripZ (k - 1) (l'.take (n' - 1))) := by
        obtain ⟨k', rfl⟩ : ∃ k', k = k' + 1 := ⟨k - 1, by omega⟩
        rw [Hid, stripZ_go (by rw [last_getD hlen'.out hn0, hl0]), dropLast_take hlen'.out]; rfl
      have hI2 := hI.take (k := n' - 1) (c' := c1) (by omega) (by omega) (Nat.le_refl _) (some ⟨bb, off, none⟩) (fun _ => rfl)
      have hbk : bb ≠ w.heap.size := by have := hne1 (by omega) _ rfl; simp at this; omega
      clear hl0
      have hwr : IntKind.i64.wrap ((k : Int) - 1) = (k : Int) - 1 := IntWalk.i64_in _ (by omega)
      go_wp2
      go_region
      all_goals
        go_wp2
        go_roundw
        case rel =>
          have hX2 := HX.out.drew.set_ 2 (.int .i64 ((k : Int) - 1))
          have hI3 := (hI2.drew).set_ (p := ⟨w.heap.size, 2, none⟩) (fun _ a ha => by obtain rfl := Option.some.inj ha; exact hbk) (.int .i64 ((k : Int) - 1))
          have hR2 := HR.out.drew.far (p := ⟨w.heap.size, 2, none⟩) (by simp) (Nat.le_refl _) (.int .i64 ((k : Int) - 1))
          have ek : ((k : Int) - 1) = ((k - 1 : Nat) : Int) := by omega
          exact ⟨k - 1, n' - 1, _, rfl, by omega, by omega, hI3, by rw [← ek]; exact hX2, hR2, by rw [Hid, hS.out, hgo.out]⟩
        case measure => simp; omega
    · have hst : stripZ s' t = (l', k) := by
        rw [hS.out]
        refine stripZ_stop ?_
        rcases Nat.eq_zero_or_pos k with hk0 | hk0
        · exact .inl hk0
        · right
          rcases Nat.eq_zero_or_pos n' with hn0 | hn0
          · rw [List.eq_nil_of_length_eq_zero (hlen'.out.trans hn0)]; simp
          · rw [last_getD hlen'.out hn0]
            intro hh
            exact hrd ⟨hk0, hn0, Option.some.inj hh⟩
      have hap : ∀ g, g < w.heap.size + 2 → 0 < n' → ∀ a, A1 = some a → a.block ≠ g := fun g hg hz a ha => by have := hne1 (by omega) a ha; omega
      have hnew : 0 < n' → ∀ a, A1 = some a → w.heap.size ≤ a.block := fun hz a ha => by have := hne1 (by omega) a ha; omega
      have hbw := HX.out.later
      rcases Nat.eq_zero_or_pos n' with hn0 | hn0
      · have hl0 : l' = [] := List.eq_nil_of_length_eq_zero (hlen'.out.trans hn0)
        have ht0 : t = [] := by
          rcases Classical.em (t = []) with q | q
          · exact q
          · have := stripZ_ne (s := s') hhd q
            rw [hst] at this
            exact absurd hl0 this
        have HD2 : Hid (D = Dc.zero) := by rw [Hid, HD.out, if_pos ht0]
        subst hn0
        clear hst hl0 ht0 hrd
        rcases Nat.eq_zero_or_pos k with hk0 | hk0
        · subst hk0
          go_wp2
          rw [HD2.out]
          obtain ⟨⟨z0, z1, z2⟩, _⟩ := (HR.out.store3 (.bool false) (.slice none 0 0) (.int .i64 0)).cells3
          exact bodyPost_ret (v := .agg #[.bool false, .slice none 0 0, .int .i64 0]) (by generalize World.setCell (World.setCell (World.setCell _ _ _) _ _) _ _ = W3 at z0 z1 z2 ⊢; simp [results, Try.results37, go_sem, z0, z1, z2]) rfl
            ⟨none, 0, 0, rfl, IL.nil _, below_set3 hbw (Nat.le_succ _) _ _ _, none_new _⟩
        · go_wp2
          rw [HD2.out]
          obtain ⟨⟨z0, z1, z2⟩, _⟩ := (HR.out.store3 (.bool false) (.slice none 0 0) (.int .i64 0)).cells3
          exact bodyPost_ret (v := .agg #[.bool false, .slice none 0 0, .int .i64 0]) (by generalize World.setCell (World.setCell (World.setCell _ _ _) _ _) _ _ = W3 at z0 z1 z2 ⊢; simp [results, Try.results37, go_sem, z0, z1, z2]) rfl
            ⟨none, 0, 0, rfl, IL.nil _, below_set3 hbw (Nat.le_succ _) _ _ _, none_new _⟩
      · have ht0 : t ≠ [] := by
          intro q
          have e : ∀ j, (stripZ j ([] : List Int)).1 = [] := fun j => by cases j <;> rfl
          have h1 := e s'
          rw [← q, hst] at h1
          have h2 := hlen'.out
          have h3 : l' = [] := h1.trans q
          rw [h3] at h2
          simp at h2; omega
        have HD2 : Hid (D = ⟨b, l', (k : Int)⟩) := by rw [Hid, HD.out, if_neg ht0, hst]
        clear hst ht0
        rcases Nat.eq_zero_or_pos k with hk0 | hk0
        · subst hk0
          clear hrd
          go_wp2
          rw [HD2.out]
          obtain ⟨⟨z0, z1, z2⟩, _⟩ := (HR.out.store3 (.bool b) (.slice A1 n' c1) (.int .i64 0)).cells3
          exact bodyPost_ret (v := .agg #[.bool b, .slice A1 n' c1, .int .i64 0]) (by generalize World.setCell (World.setCell (World.setCell _ _ _) _ _) _ _ = W3 at z0 z1 z2 ⊢; simp [results, Try.results37, go_sem, z0, z1, z2]) rfl
            ⟨A1, n', c1, rfl, hI.set3 (hap _ (by omega)) _ _ _, below_set3 hbw (Nat.le_succ _) _ _ _, hnew⟩
        · obtain ⟨bb, off, rfl, hc⟩ := hI.at_ (k := n' - 1) (by omega)
          have hl0 : l'.getD (n' - 1) 0 ≠ 0 := fun q => hrd ⟨hk0, hn0, q⟩
          generalize l'.getD (n' - 1) 0 = y at *
          have hy : (y == 0) = false := by simpa using hl0
          have hy2 : decide (y = 0) = false := by simpa using hl0
          clear hrd hl0
          go_wp2
          rw [HD2.out]
          obtain ⟨⟨z0, z1, z2⟩, _⟩ := (HR.out.store3 (.bool b) (.slice (some ⟨bb, off, none⟩) n' c1) (.int .i64 k)).cells3
          exact bodyPost_ret (v := .agg #[.bool b, .slice (some ⟨bb, off, none⟩) n' c1, .int .i64 k]) (by generalize World.setCell (World.setCell (World.setCell _ _ _) _ _) _ _ = W3 at z0 z1 z2 ⊢; simp [results, Try.results37, go_sem, z0, z1, z2]) rfl
            ⟨_, n', c1, rfl, hI.set3 (hap _ (by omega)) _ _ _, below_set3 hbw (Nat.le_succ _) _ _ _, hnew⟩

set_option maxHeartbeats 1000000 in
theorem rdtrim_any {A : Option Addr} {n c : Nat} {l : List Int} (b : Bool) (s : Int) (w : World) (h : IL w A n c l) (hl : I64 l) (hn : n ≤ 100000000) (hs0 : 0 ≤ s) (hs : s ≤ 1000000) :
    Calls Try.prog 32 #[.agg #[.bool b, .slice A n c, .int .i64 s]] w (RC w (trimDc ⟨b, l, s⟩)) := by
  obtain ⟨s', rfl⟩ := Int.eq_ofNat_of_zero_le hs0
  have ht := Lib.hid (fun W hW => rtrim_any A n c l W hW hn)
  have hD := trimDc_eq b l s'
  generalize trimDc ⟨b, l, (s' : Int)⟩ = D at *
  have hhd := headed_trim l
  have htl : (trimL l).length ≤ l.length := by rw [trimL_len]; omega
  have hti : I64 (trimL l) := by rw [trimL_drop]; exact hl.drop_ _
  have hln := h.len
  generalize trimL l = t at *
  have HD := Lib.hid hD
  clear hD
  go_enter Try.func32, Try.ntmps32
  go_wp2_with fail
  refine (ht.out _ ((h.alloc _).alloc _)).mono ?_
  rintro e w1 ⟨A1, n1, c1, rfl, hO, hB⟩
  have hX : Blk w w.heap.size 24 #[.bool b, .slice A n c, .int .i64 (s' : Int)] w1 := ((Blk.made w w _ _ (Later.refl w) _ rfl).alloc _).call hB
  have hR : Blk w (w.heap.size + 1) 24 #[.bool false, .slice none 0 0, .int .i64 0] w1 := (Blk.made w _ _ _ ((Later.refl w).alloc _) _ (by simp)).call hB
  have hlen1 := hO.len
  have hn1 : n1 ≤ 100000000 := by omega
  have hc1 := hO.il.cap
  have hle1 := hO.il.le
  have hne1 : 0 < n1 → ∀ a, A1 = some a → w.heap.size + 2 ≤ a.block := fun hz a ha => by
    obtain ⟨a', ha', hb'⟩ := hO.new hz
    subst ha
    obtain rfl := Option.some.inj ha'
    simpa using hb'
  have hI1 := hO.il
  obtain ⟨⟨q0, q1, q2⟩, ⟨f0, f1, f2⟩⟩ := hX.cells3
  obtain ⟨⟨r0, r1, r2⟩, ⟨g0, g1, g2⟩⟩ := hR.cells3
  have HX := Lib.hid hX
  have HR := Lib.hid hR
  have hbw := hX.later
  clear hX hR hO hB ht
  rcases Nat.eq_zero_or_pos n1 with hz | hz
  · have HD2 : Hid (D = Dc.zero) := by rw [Hid, HD.out, if_pos (List.eq_nil_of_length_eq_zero (hlen1.trans hz))]
    subst hz
    clear hlen1
    go_wp2
    rw [HD2.out]
    obtain ⟨⟨z0, z1, z2⟩, _⟩ := (HR.out.store3 (.bool false) (.slice none 0 0) (.int .i64 0)).cells3
    exact bodyPost_ret (v := .agg #[.bool false, .slice none 0 0, .int .i64 0]) (by generalize World.setCell (World.setCell (World.setCell _ _ _) _ _) _ _ = W3 at z0 z1 z2 ⊢; simp [results, Try.results32, go_sem, z0, z1, z2]) rfl
      ⟨none, 0, 0, rfl, IL.nil _, below_set3 hbw (Nat.le_succ _) _ _ _, none_new _⟩
  · have htn : t ≠ [] := fun q => by rw [q] at hlen1; simp at hlen1; omega
    have HD2 : Hid (D = ⟨b, (stripZ s' t).1, (stripZ s' t).2⟩) := by rw [Hid, HD.out, if_neg htn]
    have hns := fun k => stripZ_ne (s := k) hhd htn
    clear hlen1 hhd
    go_wp2
    go_loop [3, 4] (fun v x => ∃ (k n' : Nat) (l' : List Int), v = .slice A1 n' c1 ∧ x = .int .i64 k ∧ 0 < n' ∧ n' ≤ n1 ∧ k ≤ s' ∧ IL w1 A1 n' c1 l' ∧ Hid (stripZ s' t = stripZ k l'))
      (fun _ x => (intOf x).toNat)
    case atStart => exact ⟨s', n1, t, rfl, rfl, hz, Nat.le_refl _, Nat.le_refl _, hI1, rfl⟩
    case round =>
      obtain ⟨k, n', l', rfl, rfl, hn0, hn', hk, hI, hS⟩ := hrel
      have hlen' := Lib.hid hI.len
      have hap : ∀ g, g < w.heap.size + 2 → 0 < n' → ∀ a, A1 = some a → a.block ≠ g := fun g hg hz a ha => by have := hne1 (by omega) a ha; omega
      have hnew : 0 < n' → ∀ a, A1 = some a → w.heap.size ≤ a.block := fun hz a ha => by have := hne1 (by omega) a ha; omega
      have hwm : (if (n' : Int) - 1 < 0 then (0 : Int) else (n' : Int) - 1) = (n' : Int) - 1 := if_neg (by omega)
      rcases Nat.eq_zero_or_pos k with hk0 | hk0
      · subst hk0
        have HD3 : Hid (D = ⟨b, l', 0⟩) := by rw [Hid, HD2.out, hS.out]; rfl
        go_wp2
        rw [HD3.out]
        obtain ⟨⟨z0, z1, z2⟩, _⟩ := (HR.out.store3 (.bool b) (.slice A1 n' c1) (.int .i64 0)).cells3
        exact bodyPost_ret (v := .agg #[.bool b, .slice A1 n' c1, .int .i64 0]) (by generalize World.setCell (World.setCell (World.setCell _ _ _) _ _) _ _ = W3 at z0 z1 z2 ⊢; simp [results, Try.results32, go_sem, z0, z1, z2]) rfl
          ⟨A1, n', c1, rfl, hI.set3 (hap _ (by omega)) _ _ _, below_set3 hbw (Nat.le_succ _) _ _ _, hnew⟩
      · obtain ⟨bb, off, rfl, hc⟩ := hI.at_ (k := n' - 1) (by omega)
        by_cases hl0 : l'.getD (n' - 1) 0 = 0
        · have hgo : Hid (stripZ k l' = stripZ (k - 1) (l'.take (n' - 1))) := by
            obtain ⟨k', rfl⟩ : ∃ k', k = k' + 1 := ⟨k - 1, by omega⟩
            rw [Hid, stripZ_go (by rw [last_getD hlen'.out hn0, hl0]), dropLast_take hlen'.out]; rfl
          have hI2 := hI.take (k := n' - 1) (c' := c1) (by omega) (by omega) (Nat.le_refl _) (some ⟨bb, off, none⟩) (fun _ => rfl)
          have hn1' : 0 < n' - 1 := by
            rcases Nat.eq_zero_or_pos (n' - 1) with q | q
            · exfalso
              refine hns s' ?_
              have e : ∀ j, (stripZ j ([] : List Int)).1 = [] := fun j => by cases j <;> rfl
              have h1 : l'.take (n' - 1) = [] := by rw [q]; rfl
              rw [hS.out, hgo.out, h1, e]
            · exact q
          rw [hl0] at hc
          clear hl0 hns
          go_wp2
          go_round
          case rel => exact ⟨k - 1, n' - 1, _, rfl, by first | rfl | (congr 1; omega), hn1', by omega, by omega, hI2, by rw [Hid, hS.out, hgo.out]⟩
          case measure => simp [intOf]; omega
        · have hst : stripZ k l' = (l', k) := stripZ_stop (.inr (by rw [last_getD hlen'.out hn0]; intro hh; exact hl0 (Option.some.inj hh)))
          have HD3 : Hid (D = ⟨b, l', (k : Int)⟩) := by rw [Hid, HD2.out, hS.out, hst]
          generalize l'.getD (n' - 1) 0 = y at *
          have hy : (y == 0) = false := by simpa using hl0
          have hy2 : decide (y = 0) = false := by simpa using hl0
          clear hst hl0 hns
          go_wp2
          rw [HD3.out]
          obtain ⟨⟨z0, z1, z2⟩, _⟩ := (HR.out.store3 (.bool b) (.slice (some ⟨bb, off, none⟩) n' c1) (.int .i64 k)).cells3
          exact bodyPost_ret (v := .agg #[.bool b, .slice (some ⟨bb, off, none⟩) n' c1, .int .i64 k]) (by generalize World.setCell (World.setCell (World.setCell _ _ _) _ _) _ _ = W3 at z0 z1 z2 ⊢; simp [results, Try.results32, go_sem, z0, z1, z2]) rfl
            ⟨_, n', c1, rfl, hI.set3 (hap _ (by omega)) _ _ _, below_set3 hbw (Nat.le_succ _) _ _ _, hnew⟩

end Go.Proofs.Ytaolimhbeoocjaa
