/- Decimals: sums, multiples, other scales, by what they are worth. No program in sight. No condition. -/
namespace Go.Proofs.YtjinbhnpcdlkiaaGreatDoor

def around (n m : Int) : Int := (if n < 0 then -(n + 1) else n) % m
theorem around_bd (n m : Int) (hm : 0 < m) : 0 ≤ around n m ∧ around n m < m := by
  unfold around
  exact ⟨Int.emod_nonneg _ (by omega), Int.emod_lt_of_pos _ hm⟩

def isDig (x : Int) : Bool := decide (0 ≤ x) && decide (x ≤ 9)
theorem isDig_iff {x : Int} : isDig x = true ↔ 0 ≤ x ∧ x ≤ 9 := by simp [isDig]
def mayL (l : List Int) : Bool := l.all isDig
theorem mayL_iff {l : List Int} : mayL l = true ↔ ∀ x, x ∈ l → 0 ≤ x ∧ x ≤ 9 := by simp [mayL, isDig_iff]
@[simp] theorem mayL_nil : mayL [] = true := rfl
@[simp] theorem mayL_cons (x : Int) (l : List Int) : mayL (x :: l) = (isDig x && mayL l) := rfl
@[simp] theorem mayL_append (a b : List Int) : mayL (a ++ b) = (mayL a && mayL b) := by simp [mayL]
theorem mayL_drop {l : List Int} (h : mayL l = true) (k : Nat) : mayL (l.drop k) = true := mayL_iff.2 fun x hx => mayL_iff.1 h x (List.mem_of_mem_drop hx)
theorem mayL_take {l : List Int} (h : mayL l = true) (k : Nat) : mayL (l.take k) = true := mayL_iff.2 fun x hx => mayL_iff.1 h x (List.mem_of_mem_take hx)
theorem mayL_replicate (k : Nat) : mayL (List.replicate k 0) = true := mayL_iff.2 fun x hx => by
  have := List.eq_of_mem_replicate hx
  omega
theorem mayL_getD {l : List Int} (h : mayL l = true) (k : Nat) : 0 ≤ l.getD k 0 ∧ l.getD k 0 ≤ 9 := by
  by_cases hk : k < l.length
  · have : l.getD k 0 = l[k] := by simp [List.getD, List.getElem?_eq_getElem hk]
    rw [this]
    exact mayL_iff.1 h _ (List.getElem_mem hk)
  · have : l.getD k 0 = 0 := by simp [List.getD, List.getElem?_eq_none (show l.length ≤ k by omega)]
    omega

def goodL (l : List Int) (most : Nat) : List Int := (l.take most).map fun x => around x 10
theorem mayL_good (l : List Int) (most : Nat) : mayL (goodL l most) = true := mayL_iff.2 fun x hx => by
  obtain ⟨y, _, rfl⟩ := List.mem_map.1 hx
  have := around_bd y 10 (by omega)
  omega
theorem goodL_len (l : List Int) (most : Nat) : (goodL l most).length = min most l.length := by simp [goodL]

/-! ### The number of a list of digits -/
def val (l : List Int) : Int := l.foldl (fun a d => 10 * a + d) 0
@[simp] theorem val_nil : val [] = 0 := rfl
theorem val_snoc (l : List Int) (d : Int) : val (l ++ [d]) = 10 * val l + d := by simp [val, List.foldl_append]
theorem foldl_val (l : List Int) : ∀ a : Int, l.foldl (fun a d => 10 * a + d) a = a * 10 ^ l.length + val l := by
  induction l with
  | nil => intro a; simp [val]
  | cons d l ih =>
    intro a
    simp only [List.foldl_cons, List.length_cons, val]
    rw [ih, ih (10 * 0 + d), Int.pow_succ]
    have : (10 * a + d) * 10 ^ l.length = a * (10 ^ l.length * 10) + (10 * 0 + d) * 10 ^ l.length := by
      rw [Int.add_mul]
      have : 10 * a * 10 ^ l.length = a * (10 ^ l.length * 10) := by rw [Int.mul_comm 10 a, Int.mul_assoc, Int.mul_comm 10]
      rw [this]
      simp
    rw [this]
    omega
theorem val_append (a b : List Int) : val (a ++ b) = val a * 10 ^ b.length + val b := by
  simp only [val, List.foldl_append]
  exact foldl_val b _
theorem val_cons (d : Int) (l : List Int) : val (d :: l) = d * 10 ^ l.length + val l := by
  have := val_append [d] l
  simpa [val] using this
theorem ten_pos (k : Nat) : (0 : Int) < 10 ^ k := Int.pow_pos (by omega)
theorem val_bd {l : List Int} (h : mayL l = true) : 0 ≤ val l ∧ val l < 10 ^ l.length := by
  induction l with
  | nil => simp
  | cons d l ih =>
    simp only [mayL_cons, Bool.and_eq_true, isDig_iff] at h
    obtain ⟨⟨h0, h9⟩, hl⟩ := h
    obtain ⟨i0, i1⟩ := ih hl
    have hp := ten_pos l.length
    rw [val_cons, List.length_cons, Int.pow_succ]
    have h1 : 0 ≤ d * 10 ^ l.length := Int.mul_nonneg h0 (by omega)
    have h2 : d * 10 ^ l.length ≤ 9 * 10 ^ l.length := Int.mul_le_mul_of_nonneg_right h9 (by omega)
    omega
theorem val_replicate (k : Nat) : val (List.replicate k 0) = 0 := by
  induction k with
  | zero => rfl
  | succ k ih => rw [List.replicate_succ, val_cons, ih]; simp
theorem val_zeros_append (k : Nat) (l : List Int) : val (List.replicate k 0 ++ l) = val l := by rw [val_append, val_replicate]; simp
theorem val_append_zeros (l : List Int) (k : Nat) : val (l ++ List.replicate k 0) = val l * 10 ^ k := by rw [val_append, val_replicate]; simp

/-! ### Without noughts ahead -/
def trimL (l : List Int) : List Int := l.dropWhile (· == 0)
def zerosL (l : List Int) : Nat := (l.takeWhile (· == 0)).length
theorem zerosL_le (l : List Int) : zerosL l ≤ l.length := by
  unfold zerosL
  exact List.Sublist.length_le (List.takeWhile_sublist _)
theorem trimL_drop (l : List Int) : trimL l = l.drop (zerosL l) := by
  unfold trimL zerosL
  induction l with
  | nil => rfl
  | cons d l ih =>
    simp only [List.dropWhile_cons, List.takeWhile_cons]
    split
    · simpa using ih
    · simp
theorem trimL_len (l : List Int) : (trimL l).length = l.length - zerosL l := by rw [trimL_drop, List.length_drop]
theorem trimL_cons_zero (l : List Int) : trimL (0 :: l) = trimL l := by simp [trimL]
theorem trimL_cons_ne {d : Int} (h : d ≠ 0) (l : List Int) : trimL (d :: l) = d :: l := by simp [trimL, h]
theorem trimL_nil : trimL [] = [] := rfl
theorem trimL_idem (l : List Int) : trimL (trimL l) = trimL l := by
  induction l with
  | nil => rfl
  | cons d l ih =>
    by_cases h : d = 0
    · subst h; rw [trimL_cons_zero]; exact ih
    · rw [trimL_cons_ne h, trimL_cons_ne h]
theorem mayL_trim {l : List Int} (h : mayL l = true) : mayL (trimL l) = true := by rw [trimL_drop]; exact mayL_drop h _
theorem val_trim (l : List Int) : val (trimL l) = val l := by
  induction l with
  | nil => rfl
  | cons d l ih =>
    by_cases h : d = 0
    · subst h; rw [trimL_cons_zero, ih, val_cons]; simp
    · rw [trimL_cons_ne h]
/-- Is the first digit none, or not nought? -/
def headed (l : List Int) : Prop := ∀ d r, l = d :: r → d ≠ 0
theorem headed_trim (l : List Int) : headed (trimL l) := by
  induction l with
  | nil => intro d r h; simp [trimL_nil] at h
  | cons d l ih =>
    by_cases h : d = 0
    · subst h; rw [trimL_cons_zero]; exact ih
    · rw [trimL_cons_ne h]
      intro e r hr
      injection hr with h1 _
      rw [← h1]; exact h
theorem trimL_of_headed {l : List Int} (h : headed l) : trimL l = l := by
  cases l with
  | nil => rfl
  | cons d l => exact trimL_cons_ne (h d l rfl) l

/-! ### The digits of a number -/
def ofNf : Nat → Nat → List Int
  | 0, _ => []
  | f + 1, n => if n = 0 then [] else ofNf f (n / 10) ++ [((n % 10 : Nat) : Int)]
def ofN (n : Nat) : List Int := ofNf n n
theorem ofNf_more : ∀ (f g n : Nat), n ≤ f → n ≤ g → ofNf f n = ofNf g n := by
  intro f
  induction f with
  | zero =>
    intro g n h _
    obtain rfl : n = 0 := by omega
    cases g <;> simp [ofNf]
  | succ f ih =>
    intro g n h1 h2
    by_cases hn : n = 0
    · subst hn; cases g <;> simp [ofNf]
    · cases g with
      | zero => omega
      | succ g =>
        simp only [ofNf, if_neg hn]
        rw [ih g (n / 10) (by omega) (by omega)]
theorem ofN_zero : ofN 0 = [] := rfl
theorem ofN_pos {n : Nat} (h : 0 < n) : ofN n = ofN (n / 10) ++ [((n % 10 : Nat) : Int)] := by
  unfold ofN
  cases n with
  | zero => omega
  | succ m =>
    rw [ofNf, if_neg (by omega)]
    rw [ofNf_more m ((m + 1) / 10) ((m + 1) / 10) (by omega) (Nat.le_refl _)]
theorem val_ofN (n : Nat) : val (ofN n) = n := by
  induction n using Nat.strongRecOn with
  | ind n ih =>
    by_cases h : n = 0
    · subst h; rfl
    · rw [ofN_pos (by omega), val_snoc, ih (n / 10) (by omega)]
      omega
theorem mayL_ofN (n : Nat) : mayL (ofN n) = true := by
  induction n using Nat.strongRecOn with
  | ind n ih =>
    by_cases h : n = 0
    · subst h; rfl
    · rw [ofN_pos (by omega), mayL_append, ih (n / 10) (by omega)]
      simp [isDig]
      omega
theorem ofN_ne {n : Nat} (h : 0 < n) : ofN n ≠ [] := by rw [ofN_pos h]; simp
theorem headed_ofN (n : Nat) : headed (ofN n) := by
  induction n using Nat.strongRecOn with
  | ind n ih =>
    intro d r hd
    by_cases h : n = 0
    · subst h; simp [ofN_zero] at hd
    · rw [ofN_pos (by omega)] at hd
      by_cases h10 : n / 10 = 0
      · rw [h10, ofN_zero] at hd
        simp at hd
        omega
      · have hne := ofN_ne (show 0 < n / 10 by omega)
        cases hq : ofN (n / 10) with
        | nil => exact absurd hq hne
        | cons x xs =>
          rw [hq] at hd
          simp at hd
          exact hd.1 ▸ ih (n / 10) (by omega) x xs hq
theorem snoc_or (l : List Int) : l = [] ∨ ∃ r d, l = r ++ [d] := by
  rcases List.eq_nil_or_concat l with h | ⟨r, d, h⟩
  · exact .inl h
  · exact .inr ⟨r, d, by simpa using h⟩
theorem headed_snoc {r : List Int} {d : Int} (h : headed (r ++ [d])) : headed r := by
  intro e s hs
  subst hs
  exact h e (s ++ [d]) rfl
/-- One number has one list of digits without noughts ahead. -/
theorem ofN_val {l : List Int} (h : mayL l = true) (hh : headed l) : l = ofN (val l).toNat := by
  generalize hn : l.length = n
  induction n generalizing l with
  | zero =>
    have := List.eq_nil_of_length_eq_zero hn
    subst this; rfl
  | succ n ih =>
    rcases snoc_or l with rfl | ⟨r, d, rfl⟩
    · simp at hn
    · simp only [mayL_append, Bool.and_eq_true, mayL_cons, isDig_iff] at h
      have hr := ih h.1 (headed_snoc hh) (by simpa using hn)
      have hb := val_bd h.1
      rw [val_snoc]
      have hpos : 0 < (10 * val r + d).toNat := by
        rcases Nat.eq_zero_or_pos (10 * val r + d).toNat with h0 | h0
        · exfalso
          have hd : d = 0 := by omega
          have hv : (val r).toNat = 0 := by omega
          rw [hv, ofN_zero] at hr
          subst hr
          exact hh d [] rfl hd
        · exact h0
      rw [ofN_pos hpos]
      have e1 : (10 * val r + d).toNat / 10 = (val r).toNat := by omega
      have e2 : (((10 * val r + d).toNat % 10 : Nat) : Int) = d := by omega
      rw [e1, e2, ← hr]
theorem trimL_ofN {l : List Int} (h : mayL l = true) : trimL l = ofN (val l).toNat := by
  have := ofN_val (mayL_trim h) (headed_trim l)
  rw [val_trim] at this
  exact this
theorem trim_ofN (n : Nat) : trimL (ofN n) = ofN n := trimL_of_headed (headed_ofN n)
theorem ofN_len {n k : Nat} (h : n < 10 ^ k) : (ofN n).length ≤ k := by
  induction k generalizing n with
  | zero =>
    obtain rfl : n = 0 := by simp at h; exact h
    simp [ofN_zero]
  | succ k ih =>
    by_cases hn : n = 0
    · subst hn; simp [ofN_zero]
    · rw [ofN_pos (by omega)]
      have := ih (n := n / 10) (by rw [Nat.pow_succ] at h; omega)
      simp; omega
theorem ofN_single {d : Nat} (h : 0 < d) (h9 : d ≤ 9) : ofN d = [(d : Int)] := by
  rw [ofN_pos h]
  have e1 : d / 10 = 0 := by omega
  have e2 : d % 10 = d := by omega
  rw [e1, e2, ofN_zero]; rfl

/-! ### Place by place, from the end on -/
def digL (l : List Int) (i : Nat) : Int := if i < l.length then l.getD (l.length - 1 - i) 0 else 0
theorem digL_may {l : List Int} (h : mayL l = true) (i : Nat) : 0 ≤ digL l i ∧ digL l i ≤ 9 := by
  unfold digL
  split
  · exact mayL_getD h _
  · omega
def sumTo (f : Nat → Int) : Nat → Int
  | 0 => 0
  | n + 1 => sumTo f n + f n * 10 ^ n
theorem sumTo_congr {f g : Nat → Int} {n : Nat} (h : ∀ i, i < n → f i = g i) : sumTo f n = sumTo g n := by
  induction n with
  | zero => rfl
  | succ n ih => rw [sumTo, sumTo, ih (fun i hi => h i (by omega)), h n (by omega)]
theorem sumTo_add (f g : Nat → Int) (n : Nat) : sumTo (fun i => f i + g i) n = sumTo f n + sumTo g n := by
  induction n with
  | zero => rfl
  | succ n ih => simp only [sumTo, ih, Int.add_mul]; omega
theorem sumTo_sub (f g : Nat → Int) (n : Nat) : sumTo (fun i => f i - g i) n = sumTo f n - sumTo g n := by
  induction n with
  | zero => rfl
  | succ n ih => simp only [sumTo, ih, Int.sub_mul]; omega
theorem sumTo_mul (k : Int) (f : Nat → Int) (n : Nat) : sumTo (fun i => k * f i) n = k * sumTo f n := by
  induction n with
  | zero => simp [sumTo]
  | succ n ih => simp only [sumTo, ih, Int.mul_add, Int.mul_assoc]
theorem digL_cons_lt {d : Int} {l : List Int} {i : Nat} (h : i < l.length) : digL (d :: l) i = digL l i := by
  unfold digL
  rw [if_pos (by simp; omega), if_pos h]
  have : (d :: l).length - 1 - i = (l.length - 1 - i) + 1 := by simp; omega
  rw [this]; simp [List.getD]
theorem digL_cons_eq (d : Int) (l : List Int) : digL (d :: l) l.length = d := by
  unfold digL
  rw [if_pos (by simp)]
  simp [List.getD]
theorem sumTo_val_len (l : List Int) : sumTo (digL l) l.length = val l := by
  induction l with
  | nil => rfl
  | cons d l ih =>
    rw [List.length_cons, sumTo, sumTo_congr (fun i hi => digL_cons_lt hi), ih, digL_cons_eq, val_cons]
    omega
theorem sumTo_val {l : List Int} {n : Nat} (h : l.length ≤ n) : sumTo (digL l) n = val l := by
  induction n with
  | zero =>
    have : l.length = 0 := by omega
    rw [← sumTo_val_len l, this]
  | succ n ih =>
    by_cases hn : l.length = n + 1
    · rw [← hn, sumTo_val_len]
    · rw [sumTo, ih (by omega)]
      have : digL l n = 0 := by unfold digL; rw [if_neg (by omega)]
      rw [this]; omega

/-! ### Which is greater -/
def sgn (z : Int) : Int := if z < 0 then -1 else if 0 < z then 1 else 0
def cmpI (a b : Int) : Int := if a < b then -1 else if b < a then 1 else 0
theorem cmpI_sgn (a b : Int) : cmpI a b = sgn (a - b) := by
  unfold cmpI sgn
  split <;> split <;> (try split) <;> (try split) <;> omega
def lexC : List Int → List Int → Int
  | [], [] => 0
  | [], _ :: _ => -1
  | _ :: _, [] => 1
  | a :: as, b :: bs => if a < b then -1 else if b < a then 1 else lexC as bs
def cmpL (a b : List Int) : Int :=
  if (trimL a).length < (trimL b).length then -1 else if (trimL b).length < (trimL a).length then 1 else lexC (trimL a) (trimL b)
theorem lexC_val {a b : List Int} (ha : mayL a = true) (hb : mayL b = true) (h : a.length = b.length) : lexC a b = cmpI (val a) (val b) := by
  induction a generalizing b with
  | nil =>
    have : b = [] := List.eq_nil_of_length_eq_zero (by simpa using h.symm)
    subst this; rfl
  | cons d a ih =>
    cases b with
    | nil => simp at h
    | cons e b =>
      have hlen : a.length = b.length := by simpa using h
      simp only [mayL_cons, Bool.and_eq_true, isDig_iff] at ha hb
      have i := ih ha.2 hb.2 hlen
      rw [val_cons, val_cons, ← hlen]
      have ba := val_bd ha.2
      have bb := val_bd hb.2
      rw [← hlen] at bb
      have hp := ten_pos a.length
      simp only [lexC]
      by_cases h1 : d < e
      · rw [if_pos h1]
        have : (d + 1) * 10 ^ a.length ≤ e * 10 ^ a.length := Int.mul_le_mul_of_nonneg_right (by omega) (by omega)
        rw [Int.add_mul] at this
        unfold cmpI
        rw [if_pos (by omega)]
      · rw [if_neg h1]
        by_cases h2 : e < d
        · rw [if_pos h2]
          have : (e + 1) * 10 ^ a.length ≤ d * 10 ^ a.length := Int.mul_le_mul_of_nonneg_right (by omega) (by omega)
          rw [Int.add_mul] at this
          unfold cmpI
          rw [if_neg (by omega), if_pos (by omega)]
        · rw [if_neg h2, i]
          have : d = e := by omega
          subst this
          rw [cmpI_sgn, cmpI_sgn]
          congr 1
          omega
theorem val_low {l : List Int} (h : mayL l = true) (hh : headed l) (hl : 0 < l.length) : 10 ^ (l.length - 1) ≤ val l := by
  cases l with
  | nil => simp at hl
  | cons d l =>
    simp only [mayL_cons, Bool.and_eq_true, isDig_iff] at h
    have hd : d ≠ 0 := hh d l rfl
    have := val_bd h.2
    rw [val_cons, List.length_cons, Nat.add_sub_cancel]
    have : 1 * 10 ^ l.length ≤ d * 10 ^ l.length := Int.mul_le_mul_of_nonneg_right (by omega) (by have := ten_pos l.length; omega)
    omega
theorem pow_le {a b : Nat} (h : a ≤ b) : (10 : Int) ^ a ≤ 10 ^ b := by
  have : (10 : Nat) ^ a ≤ 10 ^ b := Nat.pow_le_pow_right (by omega) h
  exact_mod_cast this
theorem cmpL_val {a b : List Int} (ha : mayL a = true) (hb : mayL b = true) : cmpL a b = cmpI (val a) (val b) := by
  have ta := val_bd (mayL_trim ha)
  have tb := val_bd (mayL_trim hb)
  rw [val_trim] at ta tb
  unfold cmpL
  by_cases h1 : (trimL a).length < (trimL b).length
  · rw [if_pos h1]
    have := val_low (mayL_trim hb) (headed_trim b) (by omega)
    rw [val_trim] at this
    have := pow_le (show (trimL a).length ≤ (trimL b).length - 1 by omega)
    unfold cmpI
    rw [if_pos (by omega)]
  · rw [if_neg h1]
    by_cases h2 : (trimL b).length < (trimL a).length
    · rw [if_pos h2]
      have := val_low (mayL_trim ha) (headed_trim a) (by omega)
      rw [val_trim] at this
      have := pow_le (show (trimL b).length ≤ (trimL a).length - 1 by omega)
      unfold cmpI
      rw [if_neg (by omega), if_pos (by omega)]
    · rw [if_neg h2, lexC_val (mayL_trim ha) (mayL_trim hb) (by omega), val_trim, val_trim]

end Go.Proofs.YtjinbhnpcdlkiaaGreatDoor


namespace Go.Proofs.YtjinbhnpcdlkiaaGreatDoor

/-- A decimal: its sign, its digits, its scale. -/
structure Dc where
  neg : Bool
  l : List Int
  s : Int
def Dc.zero : Dc := ⟨false, [], 0⟩
/-- The number, the scale apart. -/
def Dc.z (d : Dc) : Int := if d.neg then -val d.l else val d.l
def mayDc (d : Dc) : Bool := mayL d.l && decide (0 ≤ d.s) && decide (d.s ≤ 1000)
theorem mayDc_iff {d : Dc} : mayDc d = true ↔ mayL d.l = true ∧ 0 ≤ d.s ∧ d.s ≤ 1000 := by simp [mayDc, and_assoc]

/-- The digits of a whole number, without noughts ahead. -/
def digs (z : Int) : List Int := ofN z.natAbs
theorem digs_zero : digs 0 = [] := rfl
theorem mayL_digs (z : Int) : mayL (digs z) = true := mayL_ofN _
theorem val_digs (z : Int) : val (digs z) = z.natAbs := val_ofN _
theorem headed_digs (z : Int) : headed (digs z) := headed_ofN _
theorem digs_nil {z : Int} : digs z = [] ↔ z = 0 := by
  constructor
  · intro h
    have := val_digs z
    rw [h] at this
    simp at this; omega
  · intro h; subst h; rfl
theorem digs_ten {z : Int} (h : z ≠ 0) : digs (z * 10) = digs z ++ [0] := by
  unfold digs
  have e : (z * 10).natAbs = z.natAbs * 10 := by omega
  rw [e, ofN_pos (by omega)]
  have e1 : z.natAbs * 10 / 10 = z.natAbs := by omega
  have e2 : z.natAbs * 10 % 10 = 0 := by omega
  rw [e1, e2]; rfl
theorem digs_of {l : List Int} (h : mayL l = true) (b : Bool) : digs (if b then -val l else val l) = trimL l := by
  rw [trimL_ofN h]
  have := val_bd h
  unfold digs
  congr 1
  cases b <;> simp <;> omega

/-- The trim decimal of a number at a scale. -/
def canon : Nat → Int → Dc
  | 0, z => if z = 0 then Dc.zero else ⟨decide (z < 0), digs z, 0⟩
  | s + 1, z => if z % 10 = 0 then canon s (z / 10) else ⟨decide (z < 0), digs z, s + 1⟩
theorem canon_zero (s : Nat) : canon s 0 = Dc.zero := by
  induction s with
  | zero => rfl
  | succ s ih => simp only [canon]; simpa using ih
theorem canon_up (s : Nat) (z : Int) : canon (s + 1) (z * 10) = canon s z := by
  simp only [canon]
  rw [if_pos (by omega)]
  congr 1
  omega
theorem canon_shift (s k : Nat) (z : Int) : canon (s + k) (z * 10 ^ k) = canon s z := by
  induction k with
  | zero => simp
  | succ k ih =>
    have e : z * 10 ^ (k + 1) = (z * 10 ^ k) * 10 := by rw [Int.pow_succ, Int.mul_assoc]
    rw [e, ← Nat.add_assoc, canon_up, ih]
/-- What a trim decimal is. -/
structure Canonic (d : Dc) (s : Nat) (z : Int) : Prop where
  may : mayL d.l = true
  hd : headed d.l
  lo : 0 ≤ d.s
  hi : d.s ≤ s
  eq : d.z * 10 ^ (s - d.s.toNat) = z
  last : 0 < d.s → d.z % 10 ≠ 0
  sgn : d.neg = decide (z < 0)
  emp : d.l = [] → d = Dc.zero
theorem natAbs_val {z : Int} : (if decide (z < 0) then -((z.natAbs : Nat) : Int) else (z.natAbs : Int)) = z := by
  by_cases h : z < 0 <;> simp [h] <;> omega
theorem canonic (s : Nat) (z : Int) : Canonic (canon s z) s z := by
  induction s generalizing z with
  | zero =>
    unfold canon
    by_cases h : z = 0
    · subst h
      rw [if_pos rfl]
      exact ⟨rfl, headed_digs 0, by simp [Dc.zero], by simp [Dc.zero], by simp [Dc.zero, Dc.z], by simp [Dc.zero], by simp [Dc.zero], fun _ => rfl⟩
    · rw [if_neg h]
      refine ⟨mayL_digs z, headed_digs z, by simp, by simp, ?_, by simp, rfl, fun he => absurd (digs_nil.1 he) h⟩
      simp only [Dc.z, val_digs]
      rw [natAbs_val]; simp
  | succ s ih =>
    simp only [canon]
    by_cases h : z % 10 = 0
    · rw [if_pos h]
      have i := ih (z / 10)
      refine ⟨i.may, i.hd, i.lo, by have := i.hi; omega, ?_, i.last, ?_, i.emp⟩
      · have h1 := i.hi
        have h2 := i.lo
        have e : s + 1 - (canon s (z / 10)).s.toNat = (s - (canon s (z / 10)).s.toNat) + 1 := by omega
        rw [e, Int.pow_succ, ← Int.mul_assoc, i.eq]
        omega
      · rw [i.sgn]
        congr 1
        simp only [eq_iff_iff]
        omega
    · rw [if_neg h]
      have hz : z ≠ 0 := by omega
      refine ⟨mayL_digs z, headed_digs z, by simp; omega, by simp, ?_, ?_, rfl, fun he => absurd (digs_nil.1 he) hz⟩
      · simp only [Dc.z, val_digs]
        rw [natAbs_val]
        have : s + 1 - ((s : Int) + 1).toNat = 0 := by omega
        rw [this]; simp
      · intro _
        simp only [Dc.z, val_digs]
        rw [natAbs_val]; exact h
theorem canon_inj {s : Nat} {z z' : Int} (h : canon s z = canon s z') : z = z' := by
  have a := (canonic s z).eq
  have b := (canonic s z').eq
  rw [h] at a
  rw [← a, b]

/-- Noughts behind are struck, as many as the scale lets. -/
def stripZ : Nat → List Int → List Int × Nat
  | 0, l => (l, 0)
  | s + 1, l => if l.getLast? = some 0 then stripZ s l.dropLast else (l, s + 1)
/-- The trim decimal, as it is reckoned. -/
def trimDc (d : Dc) : Dc :=
  if trimL d.l = [] then Dc.zero else ⟨d.neg, (stripZ d.s.toNat (trimL d.l)).1, (stripZ d.s.toNat (trimL d.l)).2⟩
theorem strip_canon (s : Nat) (z : Int) (hz : z ≠ 0) : canon s z = ⟨decide (z < 0), (stripZ s (digs z)).1, (stripZ s (digs z)).2⟩ := by
  induction s generalizing z with
  | zero => simp [canon, stripZ, hz]
  | succ s ih =>
    simp only [canon, stripZ]
    by_cases h : z % 10 = 0
    · have e : z = (z / 10) * 10 := by omega
      have hz' : z / 10 ≠ 0 := by omega
      rw [if_pos h]
      have ed : digs z = digs (z / 10) ++ [0] := by rw [← digs_ten hz']; congr 1
      rw [ed, if_pos (by simp), ih (z / 10) hz']
      simp only [List.dropLast_concat]
      congr 1
      simp only [decide_eq_decide]
      omega
    · rw [if_neg h, if_neg]
      · rfl
      · intro hl
        have hp : 0 < z.natAbs := by omega
        unfold digs at hl
        rw [ofN_pos hp] at hl
        simp at hl
        omega
theorem trimDc_canon {d : Dc} (h : mayL d.l = true) (_h0 : 0 ≤ d.s) : trimDc d = canon d.s.toNat d.z := by
  unfold trimDc
  have hd := digs_of h d.neg
  have e : digs d.z = trimL d.l := hd
  by_cases hn : trimL d.l = []
  · rw [if_pos hn]
    rw [hn, digs_nil] at e
    rw [e, canon_zero]
  · rw [if_neg hn]
    have hz : d.z ≠ 0 := fun hh => hn (by rw [← e, hh]; rfl)
    rw [strip_canon _ _ hz, e]
    congr 1
    have hv := val_bd h
    unfold Dc.z at hz ⊢
    cases hb : d.neg <;> rw [hb] at hz <;> simp at hz ⊢ <;> omega

/-- One number, at a scale K that is no smaller. -/
def Dc.at_ (d : Dc) (K : Nat) : Int := d.z * 10 ^ (K - d.s.toNat)
theorem canon_at (d : Dc) (K : Nat) (h : d.s.toNat ≤ K) : canon K (d.at_ K) = canon d.s.toNat d.z := by
  have := canon_shift d.s.toNat (K - d.s.toNat) d.z
  rw [show d.s.toNat + (K - d.s.toNat) = K from by omega] at this
  exact this
/-- of a trim decimal -/
theorem canon_self (s : Nat) (z : Int) : canon (canon s z).s.toNat (canon s z).z = canon s z := by
  have c := canonic s z
  have h := canon_shift (canon s z).s.toNat (s - (canon s z).s.toNat) (canon s z).z
  rw [c.eq] at h
  have : (canon s z).s.toNat + (s - (canon s z).s.toNat) = s := by have := c.hi; have := c.lo; omega
  rw [this] at h
  exact h.symm
theorem trimDc_idem {d : Dc} (h : mayL d.l = true) (h0 : 0 ≤ d.s) : trimDc (trimDc d) = trimDc d := by
  rw [trimDc_canon h h0]
  have c := canonic d.s.toNat d.z
  rw [trimDc_canon c.may c.lo, canon_self]
theorem at_mul (d : Dc) (K j : Nat) (h : d.s.toNat ≤ K) : d.at_ (K + j) = d.at_ K * 10 ^ j := by
  unfold Dc.at_
  rw [show K + j - d.s.toNat = (K - d.s.toNat) + j from by omega, Int.pow_add, Int.mul_assoc]
theorem canon_le (s : Nat) (z : Int) : (canon s z).s.toNat ≤ s := by have := (canonic s z).hi; have := (canonic s z).lo; omega
theorem canon_at_eq (s K : Nat) (z : Int) (h : s ≤ K) : (canon s z).at_ K = z * 10 ^ (K - s) := by
  have e := (canonic s z).eq
  have hl := canon_le s z
  unfold Dc.at_
  rw [show K - (canon s z).s.toNat = (s - (canon s z).s.toNat) + (K - s) from by omega, Int.pow_add, ← Int.mul_assoc, e]

/-! ### Which is greater -/
theorem cmpI_mul {a b p : Int} (hp : 0 < p) : cmpI (a * p) (b * p) = cmpI a b := by
  unfold cmpI
  by_cases h1 : a < b
  · have := Int.mul_lt_mul_of_pos_right h1 hp
    rw [if_pos this, if_pos h1]
  · by_cases h2 : b < a
    · have := Int.mul_lt_mul_of_pos_right h2 hp
      rw [if_neg (by omega), if_pos this, if_neg h1, if_pos h2]
    · have : a = b := by omega
      subst this
      simp
/-- Which of two decimals is greater. -/
def cmpDc (a b : Dc) : Int := cmpI (a.at_ (max a.s.toNat b.s.toNat)) (b.at_ (max a.s.toNat b.s.toNat))
theorem cmpDc_at (a b : Dc) (K : Nat) (ha : a.s.toNat ≤ K) (hb : b.s.toNat ≤ K) : cmpDc a b = cmpI (a.at_ K) (b.at_ K) := by
  unfold cmpDc
  have e1 := at_mul a (max a.s.toNat b.s.toNat) (K - max a.s.toNat b.s.toNat) (by omega)
  have e2 := at_mul b (max a.s.toNat b.s.toNat) (K - max a.s.toNat b.s.toNat) (by omega)
  rw [show max a.s.toNat b.s.toNat + (K - max a.s.toNat b.s.toNat) = K from by omega] at e1 e2
  rw [e1, e2, cmpI_mul (ten_pos _)]
theorem cmpI_neg (a b : Int) : cmpI b a = -cmpI a b := by unfold cmpI; split <;> split <;> omega
theorem cmpDc_swap (a b : Dc) : cmpDc b a = -cmpDc a b := by
  rw [cmpDc_at b a (max a.s.toNat b.s.toNat) (by omega) (by omega), cmpI_neg]; rfl
theorem trimDc_at {d : Dc} (h : mayL d.l = true) (h0 : 0 ≤ d.s) (K : Nat) (hK : d.s.toNat ≤ K) : (trimDc d).at_ K = d.at_ K ∧ (trimDc d).s.toNat ≤ K := by
  rw [trimDc_canon h h0]
  exact ⟨canon_at_eq _ _ _ hK, by have := canon_le d.s.toNat d.z; omega⟩

end Go.Proofs.YtjinbhnpcdlkiaaGreatDoor


namespace Go.Proofs.YtjinbhnpcdlkiaaGreatDoor

/-- By the signs, and by how the digits compare. -/
def signC (x y : Bool) (c : Int) : Int := if x then (if y then -c else -1) else (if y then 1 else c)
def zerosB (l : List Int) (k : Nat) : List Int := l ++ List.replicate k 0
theorem val_zerosB (l : List Int) (k : Nat) : val (zerosB l k) = val l * 10 ^ k := val_append_zeros l k
theorem mayL_zerosB {l : List Int} (h : mayL l = true) (k : Nat) : mayL (zerosB l k) = true := by
  unfold zerosB; rw [mayL_append, h, mayL_replicate]; rfl
theorem cmpI_neg2 (a b : Int) : cmpI (-a) (-b) = -cmpI a b := by unfold cmpI; split <;> split <;> omega
theorem canonic_neg {d : Dc} {s : Nat} {z : Int} (h : Canonic d s z) (hn : d.neg = true) : d.z < 0 := by
  have h1 := h.sgn
  rw [hn] at h1
  have hz : z < 0 := by simpa using h1.symm
  have he := h.eq
  rcases Int.lt_or_le d.z 0 with q | q
  · exact q
  · have := Int.mul_nonneg q (Int.le_of_lt (ten_pos (s - d.s.toNat)))
    omega
theorem canonic_pos {d : Dc} {s : Nat} {z : Int} (h : Canonic d s z) (hn : d.neg = false) : 0 ≤ d.z := by
  unfold Dc.z
  rw [hn]
  have := val_bd h.may
  simp; omega
theorem at_z (d : Dc) (N : Nat) : d.at_ N = d.z * 10 ^ (N - d.s.toNat) := rfl
/-- Which of two trim decimals is greater, as it is reckoned. -/
theorem signC_cmp {x y : Dc} {s t : Nat} {z u : Int} (hx : Canonic x s z) (hy : Canonic y t u) (N : Nat) (h1 : x.s.toNat ≤ N) (h2 : y.s.toNat ≤ N) :
    signC x.neg y.neg (cmpL (zerosB x.l (N - x.s.toNat)) (zerosB y.l (N - y.s.toNat))) = cmpDc x y := by
  rw [cmpDc_at x y N h1 h2, cmpL_val (mayL_zerosB hx.may _) (mayL_zerosB hy.may _), val_zerosB, val_zerosB, at_z, at_z]
  have px := ten_pos (N - x.s.toNat)
  have py := ten_pos (N - y.s.toNat)
  have ex : x.z = if x.neg then -val x.l else val x.l := rfl
  have ey : y.z = if y.neg then -val y.l else val y.l := rfl
  unfold signC
  cases hxn : x.neg <;> cases hyn : y.neg
  · rw [hxn] at ex
    rw [hyn] at ey
    simp at ex ey
    simp [ex, ey]
  · have hz := canonic_pos hx hxn
    have hu := canonic_neg hy hyn
    have h1 := Int.mul_nonneg hz (Int.le_of_lt px)
    have h2 := Int.mul_neg_of_neg_of_pos hu py
    simp only [Bool.false_eq_true, if_false, if_true]
    unfold cmpI
    rw [if_neg (by omega), if_pos (by omega)]
  · have hz := canonic_neg hx hxn
    have hu := canonic_pos hy hyn
    have h1 := Int.mul_neg_of_neg_of_pos hz px
    have h2 := Int.mul_nonneg hu (Int.le_of_lt py)
    simp only [Bool.false_eq_true, if_false, if_true]
    unfold cmpI
    rw [if_pos (by omega)]
  · rw [hxn] at ex
    rw [hyn] at ey
    simp at ex ey
    rw [ex, ey]
    simp only [if_true]
    rw [Int.neg_mul, Int.neg_mul, cmpI_neg2]
theorem trimDc_canonic {d : Dc} (h : mayL d.l = true) (h0 : 0 ≤ d.s) : Canonic (trimDc d) d.s.toNat d.z := by
  rw [trimDc_canon h h0]; exact canonic _ _
theorem cmpDc_trim {a b : Dc} (ha : mayL a.l = true) (ha0 : 0 ≤ a.s) (hb : mayL b.l = true) (hb0 : 0 ≤ b.s) : cmpDc (trimDc a) (trimDc b) = cmpDc a b := by
  have h1 := trimDc_at ha ha0 (max a.s.toNat b.s.toNat) (by omega)
  have h2 := trimDc_at hb hb0 (max a.s.toNat b.s.toNat) (by omega)
  rw [cmpDc_at _ _ _ h1.2 h2.2, h1.1, h2.1]; rfl
theorem cmpDc_eq_zero {x y : Dc} {s t : Nat} {z u : Int} (hx : x = canon s z) (hy : y = canon t u) : cmpDc x y = 0 ↔ x = y := by
  constructor
  · intro h
    have e1 := canon_at_eq s (max s t) z (by omega)
    have e2 := canon_at_eq t (max s t) u (by omega)
    have l1 := canon_le s z
    have l2 := canon_le t u
    subst hx hy
    rw [cmpDc_at _ _ (max s t) (by omega) (by omega), e1, e2] at h
    have he : z * 10 ^ (max s t - s) = u * 10 ^ (max s t - t) := by
      unfold cmpI at h
      split at h
      · omega
      · split at h
        · omega
        · omega
    have c1 := canon_shift s (max s t - s) z
    have c2 := canon_shift t (max s t - t) u
    rw [show s + (max s t - s) = max s t from by omega] at c1
    rw [show t + (max s t - t) = max s t from by omega] at c2
    rw [← c1, ← c2, he]
  · intro h
    subst h
    unfold cmpDc cmpI
    simp
theorem cmpDc_self (x : Dc) : cmpDc x x = 0 := by unfold cmpDc cmpI; simp
theorem cmpDc_trimL {a b : Dc} (ha : mayL a.l = true) (ha0 : 0 ≤ a.s) : cmpDc (trimDc a) b = cmpDc a b := by
  have h1 := trimDc_at ha ha0 (max a.s.toNat b.s.toNat) (by omega)
  rw [cmpDc_at _ _ _ h1.2 (by omega), h1.1]; rfl

theorem stripZ_len (s : Nat) (l : List Int) : (stripZ s l).1.length ≤ l.length := by
  induction s generalizing l with
  | zero => exact Nat.le_refl _
  | succ s ih =>
    simp only [stripZ]
    split
    · have := ih l.dropLast
      simp at this
      omega
    · exact Nat.le_refl _
theorem trimDc_len (d : Dc) : (trimDc d).l.length ≤ d.l.length := by
  unfold trimDc
  split
  · simp [Dc.zero]
  · have h1 := stripZ_len d.s.toNat (trimL d.l)
    have h2 := trimL_len d.l
    simp only
    omega

end Go.Proofs.YtjinbhnpcdlkiaaGreatDoor


namespace Go.Proofs.YtjinbhnpcdlkiaaGreatDoor

theorem trim_ofNat (b : Bool) {v : Int} (hv : 0 ≤ v) (N : Nat) : trimDc ⟨b, ofN v.toNat, (N : Int)⟩ = canon N (if b then -v else v) := by
  rw [trimDc_canon (mayL_ofN _) (by simp)]
  simp only [Dc.z, val_ofN, Int.toNat_natCast]
  congr 1
  cases b <;> simp <;> omega
theorem at_zerosB (d : Dc) (N : Nat) : d.at_ N = if d.neg then -val (zerosB d.l (N - d.s.toNat)) else val (zerosB d.l (N - d.s.toNat)) := by
  rw [val_zerosB]
  unfold Dc.at_ Dc.z
  cases d.neg
  · simp
  · simp only [if_true]; rw [Int.neg_mul]
/-- Both together. -/
def addDc (a b : Dc) : Dc × Int :=
  if mayDc a && mayDc b then (canon (max a.s.toNat b.s.toNat) (a.at_ (max a.s.toNat b.s.toNat) + b.at_ (max a.s.toNat b.s.toNat)), 0) else (Dc.zero, 1)
def minusDc (d : Dc) : Dc := ⟨!d.neg, d.l, d.s⟩
theorem add_same {a b : Dc} (ha : mayL a.l = true) (hb : mayL b.l = true) (h : a.neg = b.neg) (N : Nat) :
    trimDc ⟨a.neg, ofN (val (zerosB a.l (N - a.s.toNat)) + val (zerosB b.l (N - b.s.toNat))).toNat, (N : Int)⟩ = canon N (a.at_ N + b.at_ N) := by
  have h1 := val_bd (mayL_zerosB ha (N - a.s.toNat))
  have h2 := val_bd (mayL_zerosB hb (N - b.s.toNat))
  rw [trim_ofNat _ (by omega), at_zerosB, at_zerosB, ← h]
  congr 1
  cases a.neg <;> simp <;> omega
theorem add_diff {a b : Dc} (ha : mayL a.l = true) (hb : mayL b.l = true) (h : a.neg ≠ b.neg) (N : Nat) :
    (if val (zerosB a.l (N - a.s.toNat)) < val (zerosB b.l (N - b.s.toNat)) then trimDc ⟨b.neg, ofN (val (zerosB b.l (N - b.s.toNat)) - val (zerosB a.l (N - a.s.toNat))).toNat, (N : Int)⟩
      else trimDc ⟨a.neg, ofN (val (zerosB a.l (N - a.s.toNat)) - val (zerosB b.l (N - b.s.toNat))).toNat, (N : Int)⟩) = canon N (a.at_ N + b.at_ N) := by
  have h1 := val_bd (mayL_zerosB ha (N - a.s.toNat))
  have h2 := val_bd (mayL_zerosB hb (N - b.s.toNat))
  rw [at_zerosB, at_zerosB]
  split
  · rw [trim_ofNat _ (by omega)]
    congr 1
    cases hx : a.neg <;> cases hy : b.neg <;> simp [hx, hy] at h ⊢ <;> omega
  · rw [trim_ofNat _ (by omega)]
    congr 1
    cases hx : a.neg <;> cases hy : b.neg <;> simp [hx, hy] at h ⊢ <;> omega
theorem cmpL_ltz {a b : List Int} (ha : mayL a = true) (hb : mayL b = true) : cmpL a b < 0 ↔ val a < val b := by
  rw [cmpL_val ha hb]
  unfold cmpI
  constructor
  · intro h
    split at h
    · assumption
    · split at h <;> omega
  · intro h
    rw [if_pos h]; omega
/-- So many times. -/
def timesDc (d : Dc) (n : Int) : Dc × Int :=
  if mayDc d then (if n < -1000 ∨ 1000 < n then (Dc.zero, 3) else (canon d.s.toNat (n * d.z), 0)) else (Dc.zero, 1)
theorem times_eq {d : Dc} (h : mayL d.l = true) (n : Int) (s : Nat) (hs : d.s = (s : Int)) :
    trimDc ⟨d.neg != decide (n < 0), ofN ((if n < -n then -n else n) * val d.l).toNat, d.s⟩ = canon s (n * d.z) := by
  have hv := val_bd h
  rw [hs]
  have hp : 0 ≤ (if n < -n then -n else n) * val d.l := Int.mul_nonneg (by split <;> omega) hv.1
  rw [trim_ofNat _ hp]
  congr 1
  unfold Dc.z
  by_cases hn : n < 0
  · rw [if_pos (show n < -n by omega)]
    cases d.neg <;> simp [hn, Int.neg_mul, Int.mul_neg]
  · rw [if_neg (show ¬ n < -n by omega)]
    cases d.neg <;> simp [hn, Int.mul_neg]
/-- The same number of another scale. -/
def alignDc (d : Dc) (s : Int) : Dc × Int :=
  if mayDc d then (if s < (trimDc d).s ∨ 1000 < s then (Dc.zero, 3) else (⟨(trimDc d).neg, trimL (zerosB (trimDc d).l (s - (trimDc d).s).toNat), s⟩, 0)) else (Dc.zero, 1)
/-- A decimal of a scale, its digits without noughts ahead. -/
def scaled (s : Nat) (z : Int) : Dc := ⟨decide (z < 0), digs z, s⟩
theorem align_scaled {d : Dc} {t : Nat} {z : Int} (h : Canonic d t z) (s : Nat) (hs : d.s.toNat ≤ s) :
    (⟨d.neg, trimL (zerosB d.l ((s : Int) - d.s).toNat), (s : Int)⟩ : Dc) = scaled s (d.at_ s) := by
  have h0 := h.lo
  have e1 : ((s : Int) - d.s).toNat = s - d.s.toNat := by omega
  have hz := at_zerosB d s
  have hm := mayL_zerosB h.may (s - d.s.toNat)
  unfold scaled
  rw [e1]
  have hd := digs_of hm d.neg
  rw [← hz] at hd
  rw [hd]
  congr 1
  cases hn : d.neg
  · have h1 := canonic_pos h hn
    have h2 := Int.mul_nonneg h1 (Int.le_of_lt (ten_pos (s - d.s.toNat)))
    unfold Dc.at_
    simp; omega
  · have h1 := canonic_neg h hn
    have h2 := Int.mul_neg_of_neg_of_pos h1 (ten_pos (s - d.s.toNat))
    unfold Dc.at_
    simp; omega

end Go.Proofs.YtjinbhnpcdlkiaaGreatDoor

