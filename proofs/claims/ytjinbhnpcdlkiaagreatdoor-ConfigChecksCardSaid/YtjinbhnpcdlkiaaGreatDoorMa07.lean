/- The walks of decimals: what may be, whether two are the same, cut and made ones. No condition. -/
import Derived.Test.YtjinbhnpcdlkiaaGreatDoorMa03
import Derived.Lib.AppendZerosOnto
import Derived.Test.YtjinbhnpcdlkiaaGreatDoorMa06
import Derived.Deep.OwnRows
import Derived.Laws.CopyOwn
import Derived.Deep.RegionLaw
import Derived.Deep.RegionWith
import Derived.Deep.DeepCutAuto
namespace Go.Proofs.YtjinbhnpcdlkiaaGreatDoor
open Go.RowKit

theorem zeroCells_toList (k : Nat) : (Builtin.zeroCells #[Value.int .i64 0] k).toList = List.replicate k (Value.int .i64 0) := by
  apply List.ext_getElem
  · simp [Builtin.zeroCells]
  · intro i h1 h2
    have hi : i < k := by simpa using h2
    simp [Builtin.zeroCells, Nat.mod_one]

theorem zeroCells_eq (k : Nat) : Builtin.zeroCells #[Value.int .i64 0] k = (List.replicate k (Value.int .i64 0)).toArray := by
  rw [← zeroCells_toList]

section
variable {w w' : World} {A A2 : Option Addr} {n c n2 c2 B : Nat} {l l2 : List Int}

theorem run_append_zeros_OL (ty : TypeId) (k : Nat) (hB : B ≤ w.heap.size) (h1 : OL w B A n c l) (hn : n + k ≤ 1000000000) :
    ∃ A' c' w', (Builtin.append_ #[26, 3] ty #[.slice A n c, .int .i64 (k : Int)]).run Tryz.prog w = .ok (.slice A' (n + k) c') w' ∧ OL w' B A' (n + k) c' (l ++ List.replicate k 0) ∧ Below B w w' := by
  obtain ⟨i0, hi0, hz0, hz1, hz2⟩ := info_parts int_info
  have hw : IntKind.i64.wrap (k : Int) = k := by rw [IntKind.wrap_i64]; omega
  have h48 : ¬ (281474976710656 < (k : Int) * (i0.bytes : Int)) := by rw [hz2]; omega
  have hneg : ¬ ((k : Int) < 0) := by omega
  rcases Nat.eq_zero_or_pos k with h0 | h0
  · subst h0
    refine ⟨A, c, w, ?_, by simpa using h1, Below.refl _ _⟩
    have hle := h1.il.le
    have hw0 : IntKind.i64.wrap 0 = 0 := by rw [IntKind.wrap_i64]; omega
    rcases A with _ | a <;>
      simp [Builtin.append_, run_underlying Tryz.underlying26, run_underlying Tryz.underlying3, sizeOf, typeInfo, hi0, asInt, asIntOf, hw0, hle, storeCells]
  · have mapE : (l ++ List.replicate k 0).map (Value.int .i64) = l.map (Value.int .i64) ++ List.replicate k (Value.int .i64 0) := by simp
    by_cases hroom : n + k ≤ c ∧ ¬ (c ≤ n ∧ (A = none → c = 0))
    · rcases h1.2 with hb | hown
      · exact absurd ⟨hb.1, hb.2.1⟩ hroom.2
      · rcases hown.2 with ⟨hv, hn0⟩ | ⟨g, cap, cur, hv, hbg, hg, hnc, hcm, hcs, htake⟩
        · injection hv with e1 e2 e3
          omega
        · injection hv with e1 _ e3
          subst e1 e3
          have hfit : n * 1 + (List.replicate k (Value.int .i64 0)).length ≤ cur.size := by simp; omega
          have hst := run_storeCells_at Tryz.prog g (n * 1) 3 (List.replicate k (Value.int .i64 0)) 0 cur w hg (by simpa using hfit) (by
            intro u hu
            have := List.eq_of_mem_replicate hu
            subst this
            rfl)
          simp only [Nat.add_zero] at hst
          have hr : (Builtin.append_ #[26, 3] ty #[.slice (some ⟨g, 0, none⟩) n c, .int .i64 (k : Int)]).run Tryz.prog w =
              .ok (.slice (some ⟨g, 0, none⟩) (n + k) c) (w.setRow g (cur.toList.take (n * 1) ++ List.replicate k (Value.int .i64 0) ++ cur.toList.drop (n * 1 + (List.replicate k (Value.int .i64 0)).length)).toArray) := by
            have hk : k ≠ 0 := by omega
            simp only [Nat.mul_one] at hst ⊢
            simp [Builtin.append_, run_underlying Tryz.underlying26, run_underlying Tryz.underlying3, sizeOf, typeInfo, zeroValue, hi0, hz0, hz1, asInt, asIntOf, hw, hneg, h48, hroom.1, hk, Addr.add_lit, Value.cells, zeroCells_eq]
            simp at hst
            rw [hst]
            rfl
          have hlen : ((l ++ List.replicate k 0).map (Value.int .i64)).length = (n + k) * 1 := by have := h1.il.len; simp [this]
          have ho : (w.setRow g (cur.toList.take (n * 1) ++ List.replicate k (Value.int .i64 0) ++ cur.toList.drop (n * 1 + (List.replicate k (Value.int .i64 0)).length)).toArray).ownsRow B 3 1 (.slice (some ⟨g, 0, none⟩) (n + k) c) (n + k) ((l ++ List.replicate k 0).map (Value.int .i64)) := by
            refine ⟨hlen, .inr ⟨g, c, _, rfl, hbg, setRow_heap w g cur _ 3 _ hg, hroom.1, hcm, ?_, ?_⟩⟩
            · simp only [List.size_toArray, List.length_append, List.length_take, List.length_drop, Array.length_toList]
              omega
            · rw [htake, ← hlen, mapE]
              exact List.take_left
          exact ⟨_, _, _, hr, ⟨VL.of_own ho, .inr ho⟩, ⟨rfl, rfl, rfl, by simp, fun q hq => setRow_other w g q _ (by omega)⟩⟩
    · have hg : c < n + k := by
        rcases h1.2 with hb | hown
        · have := hb.1
          omega
        · rcases hown.2 with ⟨hv, hn0⟩ | ⟨g, cap, cur, hv, _⟩
          · injection hv with e1 e2 e3
            omega
          · injection hv with e1 _ e3
            rcases Nat.lt_or_ge c (n + k) with q | q
            · exact q
            · exfalso
              exact hroom ⟨q, fun hh => by omega⟩
      have hold : (Builtin.firstCells i0.size n (.slice A n c)).run Tryz.prog w.drew = .ok (l.map (Value.int .i64)).toArray w.drew := by
        rw [hz1]
        have hl := h1.il.len
        rcases A with _ | a
        · have hn0 : n = 0 := by
            rcases Nat.eq_zero_or_pos n with q | q
            · exact q
            · obtain ⟨_, _, e, _⟩ := h1.il.at_ q
              cases e
          subst hn0
          have := List.eq_nil_of_length_eq_zero hl
          subst this
          simp [Builtin.firstCells]
        · refine run_firstCells_some (P := Tryz.prog) w.drew 1 n a n c (l.map (Value.int .i64)) (by simp [hl]) ?_
          intro j u hu
          have hj := (List.getElem?_eq_some_iff.1 hu).1
          simp [hl] at hj
          exact VL.news h1.1 a rfl (by omega) j u hu
      have hfit : Builtin.nextslicecap (n + k) c * i0.bytes ≤ 281474976710656 := by
        rw [hz2]
        exact growslice_fits hg (by omega)
      have hr := Lib.run_append_grow_zeros (P := Tryz.prog) w 26 3 ty 3 i0 (.int .i64 0) .i64 .i64 Tryz.underlying26 Tryz.underlying3 hi0 hz0 A n c (l.map (Value.int .i64)) hold k h0 (by omega) hg (by omega) (by rw [hz2]; omega) hfit
      have hge := grownCap_ge w (n + k) c 3
      have hcm : grownCap w (n + k) c 3 ≤ maxLen := grownCap_le_maxLen w (n + k) c 3 (by simp only [maxLen]; omega)
      have hlen : ((l ++ List.replicate k 0).map (Value.int .i64)).length = (n + k) * 1 := by have := h1.il.len; simp [this]
      have ho : (w.drew.alloc (.cells ((l.map (Value.int .i64)).toArray ++ Builtin.zeroCells (Value.int .i64 0).cells k ++ Builtin.zeroCells (Value.int .i64 0).cells (grownCap w (n + k) c 3 - (n + k))) 3)).ownsRow B 3 1
          (.slice (some ⟨w.heap.size, 0, none⟩) (n + k) (grownCap w (n + k) c 3)) (n + k) ((l ++ List.replicate k 0).map (Value.int .i64)) := by
        refine ⟨hlen, .inr ⟨w.heap.size, _, _, rfl, hB, heap_alloc_new w.drew _, hge, hcm, ?_, ?_⟩⟩
        · have hl := h1.il.len
          simp only [Array.size_append, List.size_toArray, size_zeroCells, List.length_map, hl, Value.cells, List.length_cons, List.length_nil]
          omega
        · simp only [Value.cells, zeroCells_eq, List.append_toArray, List.toList_toArray, mapE] at hlen ⊢
          rw [← hlen]
          exact List.take_left
      exact ⟨_, _, _, hr, ⟨VL.of_own ho, .inr ho⟩, ⟨rfl, rfl, rfl, by simp, fun q hq => Below.heap_alloc w.drew _ q (by simp; omega)⟩⟩
end

/-- An append of noughts in the walk. -/
theorem wpList_append_zeros {w : World} {ops : Array Oper} {rest : List Oper} {o : Oper} {a : Act} {Q : Exit → Act → World → Prop} {A : Option Addr} {n c k : Nat} {l : List Int}
    (B : Nat) (hgd : o.guard = none) (s x : Operand)
    (ho : o.op = .call { callee := .builtin .append, args := #[s, x], argTypes := #[26, 3] }) (hs : a.eval s = .slice A n c) (hx : a.eval x = .int .i64 (k : Int))
    (h1 : OL w B A n c l) (hB : B ≤ w.heap.size) (hn : n + k ≤ 1000000000)
    (h : ∀ A' c' w', OL w' B A' (n + k) c' (l ++ List.replicate k 0) → Below B w w' → wpList Tryz.prog ops Q rest (a.put o.dst (.slice A' (n + k) c')) w') : wpList Tryz.prog ops Q (o :: rest) a w := by
  obtain ⟨A', c', w', hr, h3, h4⟩ := run_append_zeros_OL o.type k hB h1 hn
  exact Lib.wpList_append_run w hgd s x _ _ ho _ _ hs hx _ w' hr (h A' c' w' h3 h4)

end Go.Proofs.YtjinbhnpcdlkiaaGreatDoor


namespace Go.Proofs.YtjinbhnpcdlkiaaGreatDoor
open Go.RowKit

/-- As many digits, with noughts ahead. -/
def wideL (l : List Int) (k : Nat) : List Int := List.replicate (k - l.length) 0 ++ l
theorem wideL_len (l : List Int) (k : Nat) : (wideL l k).length = max l.length k := by simp [wideL]; omega
theorem made_zeros (n : Nat) : madeCells #[Value.int .i64 0] n = (List.replicate n (Value.int .i64 0)).toArray := by
  apply Array.ext
  · simp [madeCells]
  · intro i h1 h2
    simp [madeCells, Nat.mod_one]
theorem IL.of_heap {W : World} {g : Nat} {t : TypeId} {n : Nat} {l : List Int} (h : W.heap[g]? = some (.cells (l.map (Value.int .i64)).toArray t (0, 0))) (hn : l.length = n) (hb : n ≤ 9223372036854775807) : IL W (some ⟨g, 0, none⟩) n n l := by
  refine ⟨by simpa using hn, Nat.le_refl _, hb, fun _ => ⟨g, 0, rfl, (Array.getElem?_eq_some_iff.1 h).1, fun j v hj => ?_⟩⟩
  rw [cell_of_row W g (0 + j) _ t (0, 0) h, Nat.zero_add]
  simpa using hj
theorem wide_splice (l : List Int) (W n : Nat) (hn : l.length = n) (hW : n ≤ W) :
    splice (List.replicate W (Value.int .i64 0)) (W - n) (l.map (Value.int .i64)) = (List.replicate (W - n) 0 ++ l).map (Value.int .i64) := by
  subst hn
  unfold splice
  rw [List.drop_of_length_le (by simp; omega)]
  simp [List.take_replicate, Nat.min_eq_left (Nat.sub_le _ _)]

theorem int_one : (Tryz.prog.info? 3).map (·.size) = some 1 := by kernel_rfl
theorem IL.srcs {w : World} {A : Option Addr} {n c : Nat} {l : List Int} (h : IL w A n c l) (hn : 0 < n) : ∃ ad, A = some ad ∧ ∀ j v, (l.map (Value.int .i64))[j]? = some v → w.cell? (ad.add j) = some v := by
  obtain ⟨b, off, e, _, hc⟩ := h.2.2.2 hn
  exact ⟨_, e, fun j v hj => by rw [Addr.add_lit]; exact hc j v hj⟩

set_option maxHeartbeats 1000000 in
theorem wide_any {A : Option Addr} {n c : Nat} {l : List Int} (b : Bool) (s : Int) (k : Nat) (w : World) (h : IL w A n c l) (hn : n ≤ 1000000) (hk : k ≤ 1000000) :
    Calls Tryz.prog 58 #[.agg #[.bool b, .slice A n c, .int .i64 s], .int .i64 (k : Int)] w (RO w (wideL l k)) := by
  have hle := h.le
  have hcap := h.cap
  have hlen := h.len
  have key : ∀ W : Nat, W = max n k → Calls Tryz.prog 58 #[.agg #[.bool b, .slice A n c, .int .i64 s], .int .i64 (k : Int)] w (RO w (List.replicate (W - n) 0 ++ l)) := by
    intro W hW
    have hmk := run_make_row' (P := Tryz.prog) 26 3 (.int .i64 0) 8 Tryz.underlying26 int_info rfl .i64 .i64 W (by omega) (by omega)
    rw [made_zeros] at hmk
    have hWn : n ≤ W := by omega
    have hspl := Lib.hid (wide_splice l W n hlen hWn)
    have hl1 : (l.map (Value.int .i64)).length = n := by simpa using hlen
    have hX : Blk w w.heap.size 36 #[.bool b, .slice A n c, .int .i64 s] ((w.alloc (.cells #[.bool b, .slice A n c, .int .i64 s] 36)).alloc (.cells (List.replicate W (Value.int .i64 0)).toArray 3)) := (Blk.made w w _ _ (Later.refl w) _ rfl).alloc _
    have hG : Blk w (w.heap.size + 1) 3 (List.replicate W (Value.int .i64 0)).toArray ((w.alloc (.cells #[.bool b, .slice A n c, .int .i64 s] 36)).alloc (.cells (List.replicate W (Value.int .i64 0)).toArray 3)) := Blk.made w _ _ _ ((Later.refl w).alloc _) _ (by simp)
    have HL := Lib.hid hlen
    have HL1 := Lib.hid hl1
    clear hlen hl1
    generalize hzs : List.replicate W (Value.int .i64 0) = zs at *
    have hzl : Hid (zs.length = W) := by rw [Hid, ← hzs]; simp
    have hil := (h.alloc (.cells #[.bool b, .slice A n c, .int .i64 s] 36)).alloc (.cells zs.toArray 3)
    clear hzs
    have hmax : (if (n : Int) < (k : Int) then (k : Int) else (n : Int)) = (W : Int) := by split <;> omega
    have hmax2 : (if n < k then (k : Int) else (n : Int)) = (W : Int) := by split <;> omega
    have hWm : W ≤ 1000000 := by omega
    clear hW
    by_cases hn0 : n = 0
    · subst hn0
      have hmax3 : (if 0 < k then (k : Int) else 0) = (W : Int) := by rw [← hmax2]; simp
      clear hmax hmax2
      have hwr : IntKind.i64.wrap (W : Int) = (W : Int) := IntWalk.i64_in _ (by omega)
      have hk0 : (0 : Int) ≤ (W : Int) := by omega
      have htn : ((W : Int)).toNat = W := by omega
      go_enter Tryz.func58, Tryz.ntmps58
      go_wp2_with fail
      go_region_law (refine step_copy_splice rfl (.tmp 19) (.tmp 21) 26 26 rfl 3 Tryz.underlying26 int_one _ _ _ _ _ _ rfl rfl (w.heap.size + 1) (W - 0) zs 3 hG.drew.2.1 (l.map (Value.int .i64)) (by rw [HL1.out]; exact (Nat.min_eq_left (by omega)).symm) (fun hh => absurd hh (by rw [HL1.out]; omega)) (by rw [HL1.out, hzl.out]; omega) (ints_oneCell _ _) (w.heap.size + 1) _ (Below.refl _ _) (Nat.le_refl _) ?_; intro w3 hh hb3)
      all_goals
        clear hwr hk0 htn
        go_wp2_with fail
        go_ret
        have hh2 := hh.out
        rw [hspl.out] at hh2
        have hln : (List.replicate (W - 0) 0 ++ l).length = W := by simp [HL.out]
        exact ⟨_, _, _, rfl, OL.full (IL.of_heap hh2 hln (by omega)) (fun q => by cases q) _ (fun _ => ⟨_, rfl, Nat.le_succ _⟩), Below.trans hG.drew.later (hb3.mono (Nat.le_succ _))⟩
    · obtain ⟨ad, hA, hsrc⟩ := hil.srcs (by omega)
      subst hA
      have HS := Lib.hid hsrc
      clear hsrc
      have hwr : IntKind.i64.wrap ((W : Int) - (n : Int)) = (W : Int) - (n : Int) := IntWalk.i64_in _ (by omega)
      have hk0 : (0 : Int) ≤ (W : Int) - (n : Int) := by omega
      have hk1 : (W : Int) - (n : Int) ≤ (W : Int) := by omega
      have htn : ((W : Int) - (n : Int)).toNat = W - n := by omega
      have hne : (W = W - n) = False := by simp; omega
      go_enter Tryz.func58, Tryz.ntmps58
      go_wp2_with fail
      go_region_law (refine step_copy_splice rfl (.tmp 19) (.tmp 21) 26 26 rfl 3 Tryz.underlying26 int_one _ _ _ _ _ _ rfl rfl (w.heap.size + 1) (W - n) zs 3 hG.drew.2.1 (l.map (Value.int .i64)) (by rw [HL1.out]; exact (Nat.min_eq_left (by omega)).symm) (fun hh => ⟨rfl, ad, rfl, HS.out⟩) (by rw [HL1.out, hzl.out]; omega) (ints_oneCell _ _) (w.heap.size + 1) _ (Below.refl _ _) (Nat.le_refl _) ?_; intro w3 hh hb3)
      all_goals
        clear hwr hk0 hk1 htn hne
        go_wp2_with fail
        go_ret
        have hh2 := hh.out
        rw [hspl.out] at hh2
        have hln : (List.replicate (W - n) 0 ++ l).length = W := by simp [HL.out]; omega
        exact ⟨_, _, _, rfl, OL.full (IL.of_heap hh2 hln (by omega)) (fun q => by cases q) _ (fun _ => ⟨_, rfl, Nat.le_succ _⟩), Below.trans hG.drew.later (hb3.mono (Nat.le_succ _))⟩
  have := key _ rfl
  unfold wideL
  rw [hlen, show k - n = max n k - n from by omega]
  exact this

end Go.Proofs.YtjinbhnpcdlkiaaGreatDoor


namespace Go.Proofs.YtjinbhnpcdlkiaaGreatDoor
open Go.RowKit

/-- Two lists. -/
def RP (w : World) (x y : List Int) (e : Ending) (w' : World) : Prop :=
  ∃ A n c E m q, e = .returned (.tuple #[.slice A n c, .slice E m q]) ∧ IL w' A n c x ∧ IL w' E m q y ∧ Below w.heap.size w w'
/-- The digits ahead of the point, and behind it. -/
def partsS (l : List Int) (s : Nat) : List Int × List Int := (trimL ((wideL l s).take ((wideL l s).length - s)), (wideL l s).drop ((wideL l s).length - s))
theorem I64.zeros (k : Nat) : I64 (List.replicate k 0) := fun x hx => by have := List.eq_of_mem_replicate hx; omega
theorem I64.app {a b : List Int} (ha : I64 a) (hb : I64 b) : I64 (a ++ b) := fun x hx => (List.mem_append.1 hx).elim (ha x) (hb x)
theorem I64.wide {l : List Int} (h : I64 l) (k : Nat) : I64 (wideL l k) := (I64.zeros _).app h
theorem IL.dropw {w : World} {A A' : Option Addr} {n c k n' c' : Nat} {l : List Int} (h : IL w A n c l) (hk : k ≤ n) (hn : n' = n - k) (hc : c' = c - k) (hA : k < n → A' = A.map (·.add k)) : IL w A' n' c' (l.drop k) := by
  subst hn hc; exact h.drop hk A' hA
theorem IL.takew {w : World} {A A' : Option Addr} {n c k c' : Nat} {l : List Int} (h : IL w A n c l) (hk : k ≤ n) (hc : c' = c) (hA : 0 < k → A' = A) : IL w A' k c' (l.take k) := by
  subst hc; exact h.take hk (Nat.le_trans hk h.le) (Nat.le_refl _) A' hA

set_option maxHeartbeats 1000000 in
theorem parts_any {A : Option Addr} {n c : Nat} {l : List Int} (b : Bool) (s : Nat) (w : World) (h : IL w A n c l) (hl : I64 l) (hn : n ≤ 1000000) (hs : s ≤ 1000000) :
    Calls Tryz.prog 65 #[.agg #[.bool b, .slice A n c, .int .i64 (s : Int)]] w (RP w (partsS l s).1 (partsS l s).2) := by
  have hw := Lib.hid (fun W hW => wide_any (A := A) (n := n) (c := c) (l := l) b (s : Int) s W hW hn hs)
  have hlen := h.len
  have hwl := wideL_len l s
  have hwi := hl.wide s
  have HP : Hid (partsS l s = (trimL ((wideL l s).take ((wideL l s).length - s)), (wideL l s).drop ((wideL l s).length - s))) := rfl
  generalize partsS l s = P at *
  generalize wideL l s = y at *
  obtain ⟨a, ha⟩ : ∃ a, y.length = a + s := ⟨y.length - s, by omega⟩
  have hr1 : Hid (P = (trimL (y.take a), y.drop a)) := by rw [Hid, HP.out, ha, Nat.add_sub_cancel]
  have ha1 : a + s ≤ 1000000 := by omega
  have htr := Lib.hid (fun A n c W hW hn => trim_any A n c (y.take a) W hW (hwi.take_ a) hn)
  have HA := Lib.hid ha
  clear HP ha hwl
  go_enter Tryz.func65, Tryz.ntmps65
  go_wp2_with fail
  refine (hw.out _ (h.alloc _)).mono ?_
  rintro e w1 ⟨A1, n1, c1, rfl, hO, hB⟩
  have hX : Blk w w.heap.size 36 #[.bool b, .slice A n c, .int .i64 (s : Int)] w1 := (Blk.made w w _ _ (Later.refl w) _ rfl).call hB
  obtain ⟨⟨q0, q1, q2⟩, ⟨f0, f1, f2⟩⟩ := hX.cells3
  have hn1 : n1 = a + s := by rw [← HA.out]; exact hO.len.symm
  subst hn1
  have hc1 := hO.il.cap
  have hle1 := hO.il.le
  have hI := hO.il
  have HX := Lib.hid hX
  clear hX hO hB hw
  by_cases hca : c1 = a
  all_goals
    go_wp2_with fail
    go_region_with (go_at_call 66; refine (htr.out _ _ _ _ ((hI.drew).takew (by omega) (by omega) (fun _ => rfl)) (by omega)).mono ?_; rintro e w2 ⟨A2, n2, c2, rfl, hO2, hB2⟩)
    all_goals
      go_wp2_with fail
      go_ret2
      rw [hr1.out]
      have hb2 := HX.out.later.drew.call hB2
      exact ⟨_, _, _, _, _, _, rfl, hO2.il, (hI.drew.below hB2).dropw (k := a) (by omega) (by omega) (by omega) (fun hk => by first | rfl | (exfalso; omega)), hb2⟩

end Go.Proofs.YtjinbhnpcdlkiaaGreatDoor


namespace Go.Proofs.YtjinbhnpcdlkiaaGreatDoor
open Go.RowKit

/-! ### Plain: as at school -/
/-- What the rounds have kept: digits, the highest first, and what is over. -/
def School (f : Nat → Int) (i : Nat) (o : List Int) (over : Int) : Prop :=
  mayL o = true ∧ o.length = i ∧ val o + over * 10 ^ i = sumTo f i ∧ -1 ≤ over ∧ over ≤ 1000
theorem School.zero (f : Nat → Int) : School f 0 [] 0 := ⟨rfl, rfl, rfl, by omega, by omega⟩
theorem School.step {f : Nat → Int} {i : Nat} {o : List Int} {over d r : Int} (h : School f i o over) (hd : 0 ≤ d ∧ d ≤ 9) (hr : -1 ≤ r ∧ r ≤ 1000)
    (he : over + f i = 10 * r + d) : School f (i + 1) (d :: o) r := by
  obtain ⟨h1, h2, h3, h4, h5⟩ := h
  refine ⟨?_, by simp [h2], ?_, hr.1, hr.2⟩
  · simp [h1, isDig]; omega
  · rw [val_cons, h2, sumTo, ← h3, Int.pow_succ]
    have e2 : (over + f i) * 10 ^ i = (10 * r + d) * 10 ^ i := by rw [he]
    rw [Int.add_mul, Int.add_mul] at e2
    have e3 : r * (10 ^ i * 10) = 10 * r * 10 ^ i := by rw [Int.mul_comm 10 r, Int.mul_assoc, Int.mul_comm 10]
    rw [e3]
    omega
theorem School.done {f : Nat → Int} {i : Nat} {o : List Int} (h : School f i o 0) : trimL o = ofN (sumTo f i).toNat := by
  obtain ⟨h1, h2, h3, _, _⟩ := h
  rw [trimL_ofN h1]
  congr 1
  omega
theorem School.last {f : Nat → Int} {i : Nat} {o : List Int} {over : Int} (h : School f i o over) (h0 : 0 ≤ over) (h9 : over ≤ 9) : trimL (over :: o) = ofN (sumTo f i).toNat := by
  obtain ⟨h1, h2, h3, _, _⟩ := h
  rw [trimL_ofN (by simp [h1, isDig]; omega), val_cons, h2]
  congr 1
  omega
theorem School.none_lent {f : Nat → Int} {i : Nat} {o : List Int} {lent : Int} (h : School f i o lent) (hs : 0 ≤ sumTo f i) : 0 ≤ lent := by
  obtain ⟨h1, h2, h3, h4, h5⟩ := h
  have hb := val_bd h1
  rw [h2] at hb
  rcases Int.lt_or_le lent 0 with h | h
  · exfalso
    have : lent = -1 := by omega
    subst this
    omega
  · exact h
/-- Behind the rounds of so many times: what is over goes on digit by digit. -/
def Over (s : Int) (o : List Int) (over : Int) : Prop := mayL o = true ∧ val o + over * 10 ^ o.length = s ∧ 0 ≤ over ∧ over ≤ 1000
theorem Over.step {s : Int} {o : List Int} {over d r : Int} (h : Over s o over) (hd : d = over % 10) (hr : r = over / 10) : Over s (d :: o) r := by
  obtain ⟨h1, h2, h3, h4⟩ := h
  refine ⟨?_, ?_, by omega, by omega⟩
  · simp [h1, isDig]; omega
  · rw [val_cons, List.length_cons, Int.pow_succ, ← h2]
    have e : over = 10 * r + d := by omega
    have e2 : over * 10 ^ o.length = (10 * r + d) * 10 ^ o.length := by rw [← e]
    rw [Int.add_mul] at e2
    have e3 : r * (10 ^ o.length * 10) = 10 * r * 10 ^ o.length := by rw [Int.mul_comm 10 r, Int.mul_assoc, Int.mul_comm 10]
    rw [e3]
    omega
theorem Over.done {s : Int} {o : List Int} (h : Over s o 0) : trimL o = ofN s.toNat := by
  obtain ⟨h1, h2, _, _⟩ := h
  rw [trimL_ofN h1]
  congr 1
  omega

/-! ### Shifts -/
def shiftL (l : List Int) (k : Int) : List Int := if k < 0 then l.take (l.length - (-k).toNat) else l ++ List.replicate k.toNat 0

set_option maxHeartbeats 1000000 in
theorem rshift_any (A : Option Addr) (n c : Nat) (l : List Int) (k : Int) (w : World) (h : IL w A n c l) (hn : n ≤ 1000000) (hk : -1000000 ≤ k) (hk2 : k ≤ 1000000) :
    Calls Tryz.prog 36 #[.slice A n c, .int .i64 k] w (RO w (shiftL l k)) := by
  have hcap := h.cap
  have hle := h.le
  have hlen := Lib.hid h.len
  rcases Int.lt_or_le k 0 with hneg | hneg
  · have hr : Hid (shiftL l k = l.take (n - (-k).toNat)) := by unfold Hid shiftL; rw [if_pos hneg, hlen.out]
    rcases Int.lt_or_le ((n : Int) + k) 0 with hs | hs
    · have hz : Hid (l.take (n - (-k).toNat) = []) := by
        have : n - (-k).toNat = 0 := by omega
        rw [Hid, this]; rfl
      go_enter Tryz.func36, Tryz.ntmps36
      go_wp2_with (first
        | (at_builtin; go_must (refine wpList_append_OL w.heap.size rfl _ _ rfl rfl rfl (OL.nil _ _) (IL.empty _ _ _ (by omega)) (Nat.le_refl _) (by omega) ?_); intro A2 c2 w2 hO2 hB2 _))
      all_goals
        go_ret
        exact ⟨_, _, _, rfl, by rw [hr.out, hz.out]; simpa using hO2, hB2⟩
    · have hr2 : Hid (shiftL l k = l.take ((n : Int) + k).toNat) := by rw [Hid, hr.out]; congr 1; omega
      go_enter Tryz.func36, Tryz.ntmps36
      go_wp2_with (first
        | (at_builtin; refine wpList_append_OL w.heap.size rfl _ _ rfl rfl rfl (OL.nil _ _) (h.take (k := ((n : Int) + k).toNat) (by omega) (by omega) (Nat.le_refl _) _ (by intro hkn; first | rfl | exact if_neg (by omega))) (Nat.le_refl _) (by omega) ?_; intro A2 c2 w2 hO2 hB2 _))
      all_goals
        go_ret
        exact ⟨_, _, _, rfl, by rw [hr2.out]; simpa using hO2, hB2⟩
  · obtain ⟨m, rfl⟩ := Int.eq_ofNat_of_zero_le hneg
    have hr : Hid (shiftL l (m : Int) = l ++ List.replicate m 0) := by unfold Hid shiftL; rw [if_neg (by omega)]; rfl
    go_enter Tryz.func36, Tryz.ntmps36
    go_wp2_with (first
        | (at_builtin; refine wpList_append_OL w.heap.size rfl _ _ rfl rfl rfl (OL.nil _ _) h (Nat.le_refl _) (by omega) ?_; intro A2 c2 w2 hO2 hB2 _))
    go_loopw [5, 6] (fun v i wr => ∃ (j : Nat) (A' : Option Addr) (c' : Nat), j ≤ m ∧ i = .int .i64 j ∧ v = .slice A' (n + j) c' ∧ OL wr w.heap.size A' (n + j) c' (l ++ List.replicate j 0) ∧ Below w.heap.size w wr)
      (fun _ i _ => m - (intOf i).toNat)
    case atStart => exact ⟨0, A2, c2, Nat.zero_le _, rfl, by simp, by simpa using hO2, hB2⟩
    case round =>
      obtain ⟨j, A', c', hj, rfl, rfl, hO, hB⟩ := hrel
      have hsz := hB.size
      by_cases hlt : j < m
      · go_wp2_with (first
          | (at_builtin; refine wpList_append_OL w.heap.size rfl _ _ rfl rfl rfl (hO.alloc _) (IL.one _ _ _) (by simp; omega) (by omega) ?_; intro A3 c3 w3 hO3 hB3 _))
        go_roundw
        case rel => exact ⟨j + 1, A3, c3, by omega, by go_num, rfl, by rw [List.replicate_succ', ← List.append_assoc]; exact hO3, (hB.alloc hsz _).trans hB3⟩
        case measure => simp [intOf]; omega
      · have hjm : j = m := by omega
        subst hjm
        go_wp2
        go_ret
        exact ⟨_, _, _, rfl, by rw [hr.out]; exact hO, hB⟩

theorem rcmp_lens {a b : List Int} (h : a.length = b.length) : ∀ k, k < a.length → lexC (a.drop k) (b.drop k) = if a.getD k 0 < b.getD k 0 then -1 else if b.getD k 0 < a.getD k 0 then 1 else lexC (a.drop (k + 1)) (b.drop (k + 1)) := by
  intro k hk
  rw [lexC_drop hk (by omega)]
  unfold cmpI
  split
  · rfl
  · split
    · rfl
    · rfl

set_option maxHeartbeats 1000000 in
theorem rcompare_any (A : Option Addr) (n c : Nat) (l : List Int) (A2 : Option Addr) (n2 c2 : Nat) (l2 : List Int) (w : World) (h : IL w A n c l) (h2 : IL w A2 n2 c2 l2)
    (hn : n ≤ 100000000) (hn2 : n2 ≤ 100000000) :
    Calls Tryz.prog 35 #[.slice A n c, .slice A2 n2 c2] w (RV w (.int .i64 (cmpL l l2))) := by
  have hq : Hid (cmpL l l2 = if (trimL l).length < (trimL l2).length then -1 else if (trimL l2).length < (trimL l).length then 1 else lexC (trimL l) (trimL l2)) := rfl
  have hb1 : (trimL l).length ≤ n := by rw [trimL_len, h.len]; omega
  have hb2 : (trimL l2).length ≤ n2 := by rw [trimL_len, h2.len]; omega
  have ht1 := Lib.hid (rtrim_any A n c l w h hn)
  have ht2 := Lib.hid (fun W hW => rtrim_any A2 n2 c2 l2 W hW hn2)
  generalize trimL l = t1 at *
  generalize trimL l2 = t2 at *
  go_enter Tryz.func35, Tryz.ntmps35
  go_wp2_with fail
  refine ht1.out.mono ?_
  rintro e w1 ⟨A', n', c', rfl, hO, hB⟩
  go_wp2_with fail
  refine (ht2.out _ (h2.below hB)).mono ?_
  rintro e w2 ⟨A2', n2', c2', rfl, hO2, hB2⟩
  have hI := hO.il.below hB2
  have hI2 := hO2.il
  have HL1 := Lib.hid hI.len
  have HL2 := Lib.hid hI2.len
  have hn' : n' ≤ 100000000 := by rw [← HL1.out]; omega
  have hn2' : n2' ≤ 100000000 := by rw [← HL2.out]; omega
  have hBB := below_from hB hB2
  rw [Hid, HL1.out, HL2.out] at hq
  have HQ := Lib.hid hq
  clear hq hb1 hb2 ht1 ht2 hO hO2 hB hB2
  rcases Nat.lt_or_ge n' n2' with h1 | h1
  · go_wp2_with fail
    go_ret
    exact ⟨ret_int (by rw [HQ.out, if_pos h1]), hBB⟩
  · rcases Nat.lt_or_ge n2' n' with h3 | h3
    · go_wp2_with fail
      go_ret
      exact ⟨ret_int (by rw [HQ.out, if_neg (by omega), if_pos h3]), hBB⟩
    · obtain rfl : n' = n2' := by omega
      have hz : Hid (cmpL l l2 = lexC t1 t2) := by rw [Hid, HQ.out, if_neg (by omega), if_neg (by omega)]
      clear HQ h1 h3
      go_wp2_with fail
      go_loopw [7] (fun i wr => ∃ k j : Nat, k ≤ n' ∧ i = .int .i64 k ∧ Hid (lexC t1 t2 = lexC (t1.drop k) (t2.drop k)) ∧ wr = w2.drewN j) (fun i _ => n' - (intOf i).toNat)
      case atStart => exact ⟨0, 0, Nat.zero_le _, rfl, rfl, rfl⟩
      case round =>
        obtain ⟨k, j, hk, rfl, hK, rfl⟩ := hrel
        by_cases hlt : k < n'
        · obtain ⟨b, off, rfl, hc⟩ := hI.at_ hlt
          obtain ⟨b2, off2, rfl, hc2⟩ := hI2.at_ hlt
          have hst := Lib.hid (rcmp_lens (a := t1) (b := t2) (by rw [HL1.out, HL2.out]) k (by rw [HL1.out]; exact hlt))
          generalize t1.getD k 0 = x at *
          generalize t2.getD k 0 = y at *
          have hlt' : (k : Int) < (n' : Int) := by omega
          have hk0 : (0 : Int) ≤ (k : Int) := by omega
          rcases Int.lt_or_le x y with hxy | hxy
          · have hd : decide (x < y) = true := by simpa using hxy
            go_wp2
            go_quiet (fail)
            go_wp2
            go_ret
            exact ⟨ret_int (by rw [hz.out, hK.out, hst.out, if_pos hxy]), hBB.trans ((below_drewN _ _ _).trans (below_drewN _ _ _))⟩
          · have hd : decide (x < y) = false := by simpa using hxy
            rcases Int.lt_or_le y x with hyx | hyx
            · have hd2 : decide (y < x) = true := by simpa using hyx
              go_wp2
              go_quiet (fail)
              go_wp2
              go_quiet (fail)
              go_wp2
              go_ret
              exact ⟨ret_int (by rw [hz.out, hK.out, hst.out, if_neg (by omega), if_pos hyx]), hBB.trans ((below_drewN _ _ _).trans ((below_drewN _ _ _).trans (below_drewN _ _ _)))⟩
            · have hd2 : decide (y < x) = false := by simpa using hyx
              go_wp2
              go_quiet (fail)
              go_wp2
              go_quiet (fail)
              go_wp2
              go_roundw
              case rel => exact ⟨k + 1, _, by omega, by go_num, by rw [Hid, hK.out, hst.out, if_neg (by omega), if_neg (by omega)], by first | rfl | (simp only [World.drewN_drewN]; rfl)⟩
              case measure => simp [intOf]; omega
        · have hkn : k = n' := by omega
          subst hkn
          go_wp2
          go_ret
          exact ⟨ret_int (by rw [hz.out, hK.out, List.drop_of_length_le (by rw [HL1.out]; omega), List.drop_of_length_le (by rw [HL2.out]; omega)]; rfl), hBB.trans (below_drewN _ _ _)⟩

end Go.Proofs.YtjinbhnpcdlkiaaGreatDoor


namespace Go.Proofs.YtjinbhnpcdlkiaaGreatDoor
open Go.RowKit

set_option maxHeartbeats 1000000 in
theorem cmay_any {A : Option Addr} {n c : Nat} {l : List Int} (b : Bool) (s : Int) (w : World) (h : IL w A n c l) (hl : I64 l) (hs : -9223372036854775808 ≤ s ∧ s ≤ 9223372036854775807) :
    Calls Tryz.prog 54 #[.agg #[.bool b, .slice A n c, .int .i64 s]] w (RV w (.bool (mayDc ⟨b, l, s⟩))) := by
  have bx : Below w.heap.size w (w.alloc (.cells #[.bool b, .slice A n c, .int .i64 s] 36)) := (Below.refl _ _).alloc (Nat.le_refl _) _
  have m1 := Lib.hid (fun W hW => may_any A n c l W hW hl)
  have hr : Hid (mayDc ⟨b, l, s⟩ = (mayL l && decide (0 ≤ s) && decide (s ≤ 1000))) := rfl
  generalize mayL l = x at *
  cases x
  · go_enter Tryz.func54, Tryz.ntmps54
    go_wp2_with fail
    refine (m1.out _ (h.alloc _)).mono ?_
    rintro e w1 ⟨rfl, rfl⟩
    go_wp2_with fail
    go_ret
    exact ⟨ret_bool (by rw [hr.out]; rfl), bx⟩
  · by_cases h0 : 0 ≤ s
    · by_cases h1 : s ≤ 1000
      · go_enter Tryz.func54, Tryz.ntmps54
        go_wp2_with fail
        refine (m1.out _ (h.alloc _)).mono ?_
        rintro e w1 ⟨rfl, rfl⟩
        go_wp2_with fail
        go_ret
        exact ⟨ret_bool (by rw [hr.out]; first | rfl | (rw [Bool.eq_iff_iff]; simp; done) | (rw [Bool.eq_iff_iff]; simp; omega) | (simp; omega)), bx⟩
      · go_enter Tryz.func54, Tryz.ntmps54
        go_wp2_with fail
        refine (m1.out _ (h.alloc _)).mono ?_
        rintro e w1 ⟨rfl, rfl⟩
        go_wp2_with fail
        go_ret
        exact ⟨ret_bool (by rw [hr.out]; first | rfl | (rw [Bool.eq_iff_iff]; simp; done) | (rw [Bool.eq_iff_iff]; simp; omega) | (simp; omega)), bx⟩
    · go_enter Tryz.func54, Tryz.ntmps54
      go_wp2_with fail
      refine (m1.out _ (h.alloc _)).mono ?_
      rintro e w1 ⟨rfl, rfl⟩
      go_wp2_with fail
      go_ret
      exact ⟨ret_bool (by rw [hr.out]; first | rfl | (rw [Bool.eq_iff_iff]; simp; done) | (rw [Bool.eq_iff_iff]; simp; omega) | (simp; omega)), bx⟩

set_option maxHeartbeats 1000000 in
theorem rcmay_any {A : Option Addr} {n c : Nat} {l : List Int} (b : Bool) (s : Int) (w : World) (h : IL w A n c l) (hs : -9223372036854775808 ≤ s ∧ s ≤ 9223372036854775807) :
    Calls Tryz.prog 37 #[.agg #[.bool b, .slice A n c, .int .i64 s]] w (RV w (.bool (mayDc ⟨b, l, s⟩))) := by
  have bx : Below w.heap.size w (w.alloc (.cells #[.bool b, .slice A n c, .int .i64 s] 28)) := (Below.refl _ _).alloc (Nat.le_refl _) _
  have m1 := Lib.hid (fun W hW => rmay_any A n c l W hW)
  have hr : Hid (mayDc ⟨b, l, s⟩ = (mayL l && decide (0 ≤ s) && decide (s ≤ 1000))) := rfl
  generalize mayL l = x at *
  cases x
  · go_enter Tryz.func37, Tryz.ntmps37
    go_wp2_with fail
    refine (m1.out _ (h.alloc _)).mono ?_
    rintro e w1 ⟨rfl, rfl⟩
    go_wp2_with fail
    go_ret
    exact ⟨ret_bool (by rw [hr.out]; rfl), bx⟩
  · by_cases h0 : 0 ≤ s
    · by_cases h1 : s ≤ 1000
      · go_enter Tryz.func37, Tryz.ntmps37
        go_wp2_with fail
        refine (m1.out _ (h.alloc _)).mono ?_
        rintro e w1 ⟨rfl, rfl⟩
        go_wp2_with fail
        go_ret
        exact ⟨ret_bool (by rw [hr.out]; first | rfl | (rw [Bool.eq_iff_iff]; simp; done) | (rw [Bool.eq_iff_iff]; simp; omega) | (simp; omega)), bx⟩
      · go_enter Tryz.func37, Tryz.ntmps37
        go_wp2_with fail
        refine (m1.out _ (h.alloc _)).mono ?_
        rintro e w1 ⟨rfl, rfl⟩
        go_wp2_with fail
        go_ret
        exact ⟨ret_bool (by rw [hr.out]; first | rfl | (rw [Bool.eq_iff_iff]; simp; done) | (rw [Bool.eq_iff_iff]; simp; omega) | (simp; omega)), bx⟩
    · go_enter Tryz.func37, Tryz.ntmps37
      go_wp2_with fail
      refine (m1.out _ (h.alloc _)).mono ?_
      rintro e w1 ⟨rfl, rfl⟩
      go_wp2_with fail
      go_ret
      exact ⟨ret_bool (by rw [hr.out]; first | rfl | (rw [Bool.eq_iff_iff]; simp; done) | (rw [Bool.eq_iff_iff]; simp; omega) | (simp; omega)), bx⟩

/-! ### Are two the same, digit by digit? -/
def sameDc (x y : Dc) : Bool := (x.l == y.l) && (x.neg == y.neg) && (x.s == y.s)
theorem sameDc_refl (x : Dc) : sameDc x x = true := by simp [sameDc]
theorem sameDc_iff {x y : Dc} : sameDc x y = true ↔ x = y := by
  obtain ⟨a, b, c⟩ := x
  obtain ⟨d, e, f⟩ := y
  simp [sameDc]
  constructor
  · rintro ⟨⟨h1, h2⟩, h3⟩; exact ⟨h2, h1, h3⟩
  · rintro ⟨h1, h2, h3⟩; exact ⟨⟨h2, h1⟩, h3⟩

set_option maxHeartbeats 2000000 in
theorem csame_any {A : Option Addr} {n c : Nat} {l : List Int} {A2 : Option Addr} {n2 c2 : Nat} {l2 : List Int} (b b2 : Bool) (s s2 : Int) (w : World) (h : IL w A n c l) (h2 : IL w A2 n2 c2 l2) :
    Calls Tryz.prog 29 #[.agg #[.bool b, .slice A n c, .int .i64 s], .agg #[.bool b2, .slice A2 n2 c2, .int .i64 s2]] w (RV w (.bool (sameDc ⟨b, l, s⟩ ⟨b2, l2, s2⟩))) := by
  have e1 := Lib.hid (fun W hW hW2 => same_any A n c l A2 n2 c2 l2 W hW hW2)
  have bx : Below w.heap.size w ((w.alloc (.cells #[.bool b, .slice A n c, .int .i64 s] 28)).alloc (.cells #[.bool b2, .slice A2 n2 c2, .int .i64 s2] 28)) := ((Below.refl _ _).alloc (Nat.le_refl _) _).alloc (by simp) _
  have hr : Hid (sameDc ⟨b, l, s⟩ ⟨b2, l2, s2⟩ = ((l == l2) && (b == b2) && (s == s2))) := rfl
  generalize (l == l2) = x at *
  have hss : (s == s2) = true ∨ (s == s2) = false := by cases (s == s2) <;> simp
  rcases hss with hss | hss
  all_goals
    have HSS := Lib.hid hss
    cases x <;> cases b <;> cases b2
    all_goals
      go_enter Tryz.func29, Tryz.ntmps29
      go_wp2_with fail
      refine (e1.out _ ((h.alloc _).alloc _) ((h2.alloc _).alloc _)).mono ?_
      rintro e w1 ⟨rfl, j1, rfl⟩
      go_wp2_with fail
      go_ret
      exact ⟨ret_bool (by rw [hr.out, HSS.out]; rfl), bx.trans (below_drewN _ _ _)⟩

/-! ### Cut and made ones -/
theorem IL.fewc {w : World} {A : Option Addr} {n c : Nat} {l : List Int} (h : IL w A n c l) (k : Nat) : IL w A (min n k) c (l.take k) := by
  have hl := h.len
  have hle := h.le
  by_cases hk : k ≤ n
  · rw [Nat.min_eq_right hk]
    exact h.take hk (by omega) (Nat.le_refl _) A (fun _ => rfl)
  · rw [Nat.min_eq_left (by omega), List.take_of_length_le (by omega)]
    exact h
end Go.Proofs.YtjinbhnpcdlkiaaGreatDoor

