/- The walk of the document's Text of an error. No condition. -/
import Derived.Test.YtegmdjfohlomnaaDoorFl8
namespace Go.Proofs.YtegmdjfohlomnaaDoor
open Go.RowKit

def sepL (ws : List ByteArray) : List UInt8 := (ws.map fun t => t.data.toList ++ [58, 32]).flatten
theorem join_snoc (x : List UInt8) : ∀ ws : List ByteArray, Lib.join (ws.map (fun t => t.data.toList) ++ [x]) [58, 32] = sepL ws ++ x
  | [] => by simp [Lib.join_one, sepL]
  | t :: r => by
    have ih := join_snoc x r
    cases hr : r.map (fun t => t.data.toList) ++ [x] with
    | nil => simp at hr
    | cons y r2 =>
      rw [hr] at ih
      rw [List.map_cons, List.cons_append, hr, Lib.join_cons]
      rw [Lib.join_cons] at ih
      simp only [Lib.joinTail, List.map_cons, List.flatten_cons, sepL] at ih ⊢
      simp only [List.append_assoc] at ih ⊢
      rw [ih]
theorem textB_is (ws : List ByteArray) (c : Int) : textB ws c = bs (sepL ws) ++ itB c := by
  have h := join_snoc (Lib.itoa c) ws
  unfold textB joinB
  rw [List.map_append]
  show (⟨(Lib.join (ws.map (fun t => t.data.toList) ++ [(Lib.itoa c)]) [58, 32]).toArray⟩ : ByteArray) = _
  rw [h]
  exact (bs_append _ _).symm
theorem sepL_succ {ws : List ByteArray} {k : Nat} (h : k < ws.length) : bs (sepL (ws.take (k + 1))) = bs (sepL (ws.take k)) ++ ws.getD k ⟨#[]⟩ ++ { data := #[58, 32] } := by
  have e : ws.getD k ⟨#[]⟩ = bs (ws.getD k ⟨#[]⟩).data.toList := by simp [bs]
  rw [List.take_succ_eq_append_getElem h]
  have e2 : ws.getD k ⟨#[]⟩ = ws[k] := by simp [List.getD, List.getElem?_eq_getElem h]
  rw [e, e2, show ({ data := #[58, 32] } : ByteArray) = bs [58, 32] from rfl, bs_append, bs_append]
  congr 1
  simp only [sepL, List.map_append, List.flatten_append, List.map_cons, List.map_nil, List.flatten_cons, List.flatten_nil, List.append_nil, List.append_assoc]
theorem sepL_len {ws : List ByteArray} (h : ∀ t ∈ ws, t.size ≤ 12) : (sepL ws).length ≤ 14 * ws.length := by
  induction ws with
  | nil => simp [sepL]
  | cons t r ih =>
    have h1 := h t (List.mem_cons_self ..)
    have h2 := ih fun x hx => h x (List.mem_cons_of_mem _ hx)
    have e : t.size = t.data.toList.length := by rw [Array.length_toList]; rfl
    simp only [sepL, List.map_cons, List.flatten_cons, List.length_append, List.length_cons, List.length_nil] at h2 ⊢
    omega
theorem bs_size (l : List UInt8) : (bs l).size = l.length := by simp [bs, ByteArray.size]
theorem textB_size {ws : List ByteArray} {c : Int} (h : ∀ t ∈ ws, t.size ≤ 12) (hn : ws.length ≤ 10) (h0 : -9223372036854775808 ≤ c) (h1 : c ≤ 9223372036854775807) : (textB ws c).size ≤ 1000 := by
  rw [textB_is, ByteArray.size_append, bs_size]
  have := sepL_len h
  have := itB_size h0 h1
  omega

set_option maxHeartbeats 1000000 in
theorem rtext_any (A : Option Addr) (n c : Nat) (ws : List ByteArray) (v : Int) (w : World) (h : SL w A n c ws) (hw : ∀ t ∈ ws, t.size ≤ 12) (hn : n ≤ 10) (h0 : -9223372036854775808 ≤ v) (h1 : v ≤ 9223372036854775807) :
    Calls Tryd.prog 12 #[.slice A n c, .int .i64 v] w (RV w (.string (textB ws v))) := by
  have hcap := VL.cap h
  have hle := VL.le h
  have hlen := Lib.hid h.len
  have hdec := Lib.hid (fun W => decimal_any v.natAbs v W rfl h0 h1)
  have hitz := itB_size h0 h1
  have hfin := Lib.hid (textB_is ws v)
  have hmem := Lib.hid hw
  generalize textB ws v = tx at *
  generalize itB v = it at *
  go_enter Tryd.func12, Tryd.ntmps12
  go_wp2
  go_loopw [5, 6] (fun s i wr => ∃ (k : Nat) (t : ByteArray), k ≤ n ∧ i = .int .i64 k ∧ s = .string t ∧ Hid (t = bs (sepL (ws.take k))) ∧ t.size ≤ 1000 ∧ wr = w) (fun _ i _ => n - (intOf i).toNat)
  case atStart => exact ⟨0, { data := #[] }, Nat.zero_le _, rfl, rfl, rfl, by simp [ByteArray.size], rfl⟩
  case round =>
    obtain ⟨k, t, hk, rfl, rfl, hT, hts, rfl⟩ := hrel
    by_cases hlt : k < n
    · obtain ⟨b, off, rfl, hc⟩ := SL.at_ h hlt
      have hst := Lib.hid (sepL_succ (ws := ws) (k := k) (by rw [hlen.out]; exact hlt))
      have hps : (ws.getD k ⟨#[]⟩).size ≤ 12 := by
        have hkl : k < ws.length := by rw [hlen.out]; exact hlt
        have e2 : ws.getD k ⟨#[]⟩ = ws[k] := by simp [List.getD, List.getElem?_eq_getElem hkl]
        rw [e2]
        exact hmem.out _ (List.getElem_mem hkl)
      have htk : t.size ≤ 14 * k := by
        rw [hT.out, bs_size]
        have h3 := sepL_len (ws := ws.take k) fun x hx => hmem.out x (List.mem_of_mem_take hx)
        have h4 : (ws.take k).length ≤ k := by simp; omega
        omega
      generalize ws.getD k ⟨#[]⟩ = p at *
      have hlc : (k : Int) < (n : Int) := by omega
      have hk0 : (0 : Int) ≤ (k : Int) := by omega
      have hs1 : (t ++ p).size ≤ 500 := by rw [ByteArray.size_append]; omega
      have hs2 : Hid ((t ++ p ++ { data := #[58, 32] }).size ≤ 1000) := by
        have e : ({ data := #[58, 32] } : ByteArray).size = 2 := rfl
        unfold Hid; rw [ByteArray.size_append, e]; omega
      have hts3 : t.size ≤ 400 := by omega
      clear htk
      go_wp2
      go_roundw
      case rel => exact ⟨k + 1, _, by omega, by go_num, rfl, by rw [Hid, hst.out, hT.out], hs2.out, trivial⟩
      case measure => simp [intOf]; omega
    · have hkn : k = n := by omega
      subst hkn
      have hT2 := hT.out
      rw [List.take_of_length_le (by rw [hlen.out]; omega)] at hT2
      have hfin2 : Hid (tx = t ++ it) := by unfold Hid; rw [hfin.out, hT2]
      clear hT2
      go_wp2_with (go_at_call 31; refine (hdec.out _).mono ?_; rintro e w2 ⟨rfl, hb2⟩)
      go_ret
      exact ⟨by rw [hfin2.out]; rfl, hb2⟩

end Go.Proofs.YtegmdjfohlomnaaDoor
