/- Plain arithmetic of lists of digits. No program in sight. No condition. -/
namespace Go.Proofs.YtegmdjfohlomnaaDoor

def around (n m : Int) : Int := (if n < 0 then -(n + 1) else n) % m
theorem around_bd (n m : Int) (hm : 0 < m) : 0 ≤ around n m ∧ around n m < m := by
  unfold around
  exact ⟨Int.emod_nonneg _ (by omega), Int.emod_lt_of_pos _ hm⟩

def isDig (x : Int) : Bool := decide (0 ≤ x) && decide (x ≤ 9)
theorem isDig_iff {x : Int} : isDig x = true ↔ 0 ≤ x ∧ x ≤ 9 := by simp [isDig]
def mayL (l : List Int) : Bool := l.all isDig
theorem mayL_iff {l : List Int} : mayL l = true ↔ ∀ x, x ∈ l → 0 ≤ x ∧ x ≤ 9 := by simp [mayL, isDig_iff]
@[simp] theorem mayL_nil : mayL [] = true := rfl
@[simp] theorem mayL_cons (x : Int) (l : List Int) : mayL (x :: l) = (isDig x && mayL l) := rfl
@[simp] theorem mayL_append (a b : List Int) : mayL (a ++ b) = (mayL a && mayL b) := by simp [mayL]
theorem mayL_drop {l : List Int} (h : mayL l = true) (k : Nat) : mayL (l.drop k) = true := mayL_iff.2 fun x hx => mayL_iff.1 h x (List.mem_of_mem_drop hx)
theorem mayL_take {l : List Int} (h : mayL l = true) (k : Nat) : mayL (l.take k) = true := mayL_iff.2 fun x hx => mayL_iff.1 h x (List.mem_of_mem_take hx)
theorem mayL_replicate (k : Nat) : mayL (List.replicate k 0) = true := mayL_iff.2 fun x hx => by
  have := List.eq_of_mem_replicate hx
  omega
theorem mayL_getD {l : List Int} (h : mayL l = true) (k : Nat) : 0 ≤ l.getD k 0 ∧ l.getD k 0 ≤ 9 := by
  by_cases hk : k < l.length
  · have : l.getD k 0 = l[k] := by simp [List.getD, List.getElem?_eq_getElem hk]
    rw [this]
    exact mayL_iff.1 h _ (List.getElem_mem hk)
  · have : l.getD k 0 = 0 := by simp [List.getD, List.getElem?_eq_none (show l.length ≤ k by omega)]
    omega

def goodL (l : List Int) (most : Nat) : List Int := (l.take most).map fun x => around x 10
theorem mayL_good (l : List Int) (most : Nat) : mayL (goodL l most) = true := mayL_iff.2 fun x hx => by
  obtain ⟨y, _, rfl⟩ := List.mem_map.1 hx
  have := around_bd y 10 (by omega)
  omega
theorem goodL_len (l : List Int) (most : Nat) : (goodL l most).length = min most l.length := by simp [goodL]

/-! ### The number of a list of digits -/
def val (l : List Int) : Int := l.foldl (fun a d => 10 * a + d) 0
@[simp] theorem val_nil : val [] = 0 := rfl
theorem val_snoc (l : List Int) (d : Int) : val (l ++ [d]) = 10 * val l + d := by simp [val, List.foldl_append]
theorem foldl_val (l : List Int) : ∀ a : Int, l.foldl (fun a d => 10 * a + d) a = a * 10 ^ l.length + val l := by
  induction l with
  | nil => intro a; simp [val]
  | cons d l ih =>
    intro a
    simp only [List.foldl_cons, List.length_cons, val]
    rw [ih, ih (10 * 0 + d), Int.pow_succ]
    have : (10 * a + d) * 10 ^ l.length = a * (10 ^ l.length * 10) + (10 * 0 + d) * 10 ^ l.length := by
      rw [Int.add_mul]
      have : 10 * a * 10 ^ l.length = a * (10 ^ l.length * 10) := by rw [Int.mul_comm 10 a, Int.mul_assoc, Int.mul_comm 10]
      rw [this]
      simp
    rw [this]
    omega
theorem val_append (a b : List Int) : val (a ++ b) = val a * 10 ^ b.length + val b := by
  simp only [val, List.foldl_append]
  exact foldl_val b _
theorem val_cons (d : Int) (l : List Int) : val (d :: l) = d * 10 ^ l.length + val l := by
  have := val_append [d] l
  simpa [val] using this
theorem ten_pos (k : Nat) : (0 : Int) < 10 ^ k := Int.pow_pos (by omega)
theorem val_bd {l : List Int} (h : mayL l = true) : 0 ≤ val l ∧ val l < 10 ^ l.length := by
  induction l with
  | nil => simp
  | cons d l ih =>
    simp only [mayL_cons, Bool.and_eq_true, isDig_iff] at h
    obtain ⟨⟨h0, h9⟩, hl⟩ := h
    obtain ⟨i0, i1⟩ := ih hl
    have hp := ten_pos l.length
    rw [val_cons, List.length_cons, Int.pow_succ]
    have h1 : 0 ≤ d * 10 ^ l.length := Int.mul_nonneg h0 (by omega)
    have h2 : d * 10 ^ l.length ≤ 9 * 10 ^ l.length := Int.mul_le_mul_of_nonneg_right h9 (by omega)
    omega
theorem val_replicate (k : Nat) : val (List.replicate k 0) = 0 := by
  induction k with
  | zero => rfl
  | succ k ih => rw [List.replicate_succ, val_cons, ih]; simp
theorem val_zeros_append (k : Nat) (l : List Int) : val (List.replicate k 0 ++ l) = val l := by rw [val_append, val_replicate]; simp
theorem val_append_zeros (l : List Int) (k : Nat) : val (l ++ List.replicate k 0) = val l * 10 ^ k := by rw [val_append, val_replicate]; simp

/-! ### Without noughts ahead -/
def trimL (l : List Int) : List Int := l.dropWhile (· == 0)
def zerosL (l : List Int) : Nat := (l.takeWhile (· == 0)).length
theorem zerosL_le (l : List Int) : zerosL l ≤ l.length := by
  unfold zerosL
  exact List.Sublist.length_le (List.takeWhile_sublist _)
theorem trimL_drop (l : List Int) : trimL l = l.drop (zerosL l) := by
  unfold trimL zerosL
  induction l with
  | nil => rfl
  | cons d l ih =>
    simp only [List.dropWhile_cons, List.takeWhile_cons]
    split
    · simpa using ih
    · simp
theorem trimL_len (l : List Int) : (trimL l).length = l.length - zerosL l := by rw [trimL_drop, List.length_drop]
theorem trimL_cons_zero (l : List Int) : trimL (0 :: l) = trimL l := by simp [trimL]
theorem trimL_cons_ne {d : Int} (h : d ≠ 0) (l : List Int) : trimL (d :: l) = d :: l := by simp [trimL, h]
theorem trimL_nil : trimL [] = [] := rfl
theorem trimL_idem (l : List Int) : trimL (trimL l) = trimL l := by
  induction l with
  | nil => rfl
  | cons d l ih =>
    by_cases h : d = 0
    · subst h; rw [trimL_cons_zero]; exact ih
    · rw [trimL_cons_ne h, trimL_cons_ne h]
theorem mayL_trim {l : List Int} (h : mayL l = true) : mayL (trimL l) = true := by rw [trimL_drop]; exact mayL_drop h _
theorem val_trim (l : List Int) : val (trimL l) = val l := by
  induction l with
  | nil => rfl
  | cons d l ih =>
    by_cases h : d = 0
    · subst h; rw [trimL_cons_zero, ih, val_cons]; simp
    · rw [trimL_cons_ne h]
/-- Is the first digit none, or not nought? -/
def headed (l : List Int) : Prop := ∀ d r, l = d :: r → d ≠ 0
theorem headed_trim (l : List Int) : headed (trimL l) := by
  induction l with
  | nil => intro d r h; simp [trimL_nil] at h
  | cons d l ih =>
    by_cases h : d = 0
    · subst h; rw [trimL_cons_zero]; exact ih
    · rw [trimL_cons_ne h]
      intro e r hr
      injection hr with h1 _
      rw [← h1]; exact h
theorem trimL_of_headed {l : List Int} (h : headed l) : trimL l = l := by
  cases l with
  | nil => rfl
  | cons d l => exact trimL_cons_ne (h d l rfl) l

/-! ### The digits of a number -/
def ofNf : Nat → Nat → List Int
  | 0, _ => []
  | f + 1, n => if n = 0 then [] else ofNf f (n / 10) ++ [((n % 10 : Nat) : Int)]
def ofN (n : Nat) : List Int := ofNf n n
theorem ofNf_more : ∀ (f g n : Nat), n ≤ f → n ≤ g → ofNf f n = ofNf g n := by
  intro f
  induction f with
  | zero =>
    intro g n h _
    obtain rfl : n = 0 := by omega
    cases g <;> simp [ofNf]
  | succ f ih =>
    intro g n h1 h2
    by_cases hn : n = 0
    · subst hn; cases g <;> simp [ofNf]
    · cases g with
      | zero => omega
      | succ g =>
        simp only [ofNf, if_neg hn]
        rw [ih g (n / 10) (by omega) (by omega)]
theorem ofN_zero : ofN 0 = [] := rfl
theorem ofN_pos {n : Nat} (h : 0 < n) : ofN n = ofN (n / 10) ++ [((n % 10 : Nat) : Int)] := by
  unfold ofN
  cases n with
  | zero => omega
  | succ m =>
    rw [ofNf, if_neg (by omega)]
    rw [ofNf_more m ((m + 1) / 10) ((m + 1) / 10) (by omega) (Nat.le_refl _)]
theorem val_ofN (n : Nat) : val (ofN n) = n := by
  induction n using Nat.strongRecOn with
  | ind n ih =>
    by_cases h : n = 0
    · subst h; rfl
    · rw [ofN_pos (by omega), val_snoc, ih (n / 10) (by omega)]
      omega
theorem mayL_ofN (n : Nat) : mayL (ofN n) = true := by
  induction n using Nat.strongRecOn with
  | ind n ih =>
    by_cases h : n = 0
    · subst h; rfl
    · rw [ofN_pos (by omega), mayL_append, ih (n / 10) (by omega)]
      simp [isDig]
      omega
theorem ofN_ne {n : Nat} (h : 0 < n) : ofN n ≠ [] := by rw [ofN_pos h]; simp
theorem headed_ofN (n : Nat) : headed (ofN n) := by
  induction n using Nat.strongRecOn with
  | ind n ih =>
    intro d r hd
    by_cases h : n = 0
    · subst h; simp [ofN_zero] at hd
    · rw [ofN_pos (by omega)] at hd
      by_cases h10 : n / 10 = 0
      · rw [h10, ofN_zero] at hd
        simp at hd
        omega
      · have hne := ofN_ne (show 0 < n / 10 by omega)
        cases hq : ofN (n / 10) with
        | nil => exact absurd hq hne
        | cons x xs =>
          rw [hq] at hd
          simp at hd
          exact hd.1 ▸ ih (n / 10) (by omega) x xs hq
theorem snoc_or (l : List Int) : l = [] ∨ ∃ r d, l = r ++ [d] := by
  rcases List.eq_nil_or_concat l with h | ⟨r, d, h⟩
  · exact .inl h
  · exact .inr ⟨r, d, by simpa using h⟩
theorem headed_snoc {r : List Int} {d : Int} (h : headed (r ++ [d])) : headed r := by
  intro e s hs
  subst hs
  exact h e (s ++ [d]) rfl
/-- One number has one list of digits without noughts ahead. -/
theorem ofN_val {l : List Int} (h : mayL l = true) (hh : headed l) : l = ofN (val l).toNat := by
  generalize hn : l.length = n
  induction n generalizing l with
  | zero =>
    have := List.eq_nil_of_length_eq_zero hn
    subst this; rfl
  | succ n ih =>
    rcases snoc_or l with rfl | ⟨r, d, rfl⟩
    · simp at hn
    · simp only [mayL_append, Bool.and_eq_true, mayL_cons, isDig_iff] at h
      have hr := ih h.1 (headed_snoc hh) (by simpa using hn)
      have hb := val_bd h.1
      rw [val_snoc]
      have hpos : 0 < (10 * val r + d).toNat := by
        rcases Nat.eq_zero_or_pos (10 * val r + d).toNat with h0 | h0
        · exfalso
          have hd : d = 0 := by omega
          have hv : (val r).toNat = 0 := by omega
          rw [hv, ofN_zero] at hr
          subst hr
          exact hh d [] rfl hd
        · exact h0
      rw [ofN_pos hpos]
      have e1 : (10 * val r + d).toNat / 10 = (val r).toNat := by omega
      have e2 : (((10 * val r + d).toNat % 10 : Nat) : Int) = d := by omega
      rw [e1, e2, ← hr]
theorem trimL_ofN {l : List Int} (h : mayL l = true) : trimL l = ofN (val l).toNat := by
  have := ofN_val (mayL_trim h) (headed_trim l)
  rw [val_trim] at this
  exact this
theorem trim_ofN (n : Nat) : trimL (ofN n) = ofN n := trimL_of_headed (headed_ofN n)
theorem ofN_len {n k : Nat} (h : n < 10 ^ k) : (ofN n).length ≤ k := by
  induction k generalizing n with
  | zero =>
    obtain rfl : n = 0 := by simp at h; exact h
    simp [ofN_zero]
  | succ k ih =>
    by_cases hn : n = 0
    · subst hn; simp [ofN_zero]
    · rw [ofN_pos (by omega)]
      have := ih (n := n / 10) (by rw [Nat.pow_succ] at h; omega)
      simp; omega
theorem ofN_single {d : Nat} (h : 0 < d) (h9 : d ≤ 9) : ofN d = [(d : Int)] := by
  rw [ofN_pos h]
  have e1 : d / 10 = 0 := by omega
  have e2 : d % 10 = d := by omega
  rw [e1, e2, ofN_zero]; rfl

/-! ### Place by place, from the end on -/
def digL (l : List Int) (i : Nat) : Int := if i < l.length then l.getD (l.length - 1 - i) 0 else 0
theorem digL_may {l : List Int} (h : mayL l = true) (i : Nat) : 0 ≤ digL l i ∧ digL l i ≤ 9 := by
  unfold digL
  split
  · exact mayL_getD h _
  · omega
def sumTo (f : Nat → Int) : Nat → Int
  | 0 => 0
  | n + 1 => sumTo f n + f n * 10 ^ n
theorem sumTo_congr {f g : Nat → Int} {n : Nat} (h : ∀ i, i < n → f i = g i) : sumTo f n = sumTo g n := by
  induction n with
  | zero => rfl
  | succ n ih => rw [sumTo, sumTo, ih (fun i hi => h i (by omega)), h n (by omega)]
theorem sumTo_add (f g : Nat → Int) (n : Nat) : sumTo (fun i => f i + g i) n = sumTo f n + sumTo g n := by
  induction n with
  | zero => rfl
  | succ n ih => simp only [sumTo, ih, Int.add_mul]; omega
theorem sumTo_sub (f g : Nat → Int) (n : Nat) : sumTo (fun i => f i - g i) n = sumTo f n - sumTo g n := by
  induction n with
  | zero => rfl
  | succ n ih => simp only [sumTo, ih, Int.sub_mul]; omega
theorem sumTo_mul (k : Int) (f : Nat → Int) (n : Nat) : sumTo (fun i => k * f i) n = k * sumTo f n := by
  induction n with
  | zero => simp [sumTo]
  | succ n ih => simp only [sumTo, ih, Int.mul_add, Int.mul_assoc]
theorem digL_cons_lt {d : Int} {l : List Int} {i : Nat} (h : i < l.length) : digL (d :: l) i = digL l i := by
  unfold digL
  rw [if_pos (by simp; omega), if_pos h]
  have : (d :: l).length - 1 - i = (l.length - 1 - i) + 1 := by simp; omega
  rw [this]; simp [List.getD]
theorem digL_cons_eq (d : Int) (l : List Int) : digL (d :: l) l.length = d := by
  unfold digL
  rw [if_pos (by simp)]
  simp [List.getD]
theorem sumTo_val_len (l : List Int) : sumTo (digL l) l.length = val l := by
  induction l with
  | nil => rfl
  | cons d l ih =>
    rw [List.length_cons, sumTo, sumTo_congr (fun i hi => digL_cons_lt hi), ih, digL_cons_eq, val_cons]
    omega
theorem sumTo_val {l : List Int} {n : Nat} (h : l.length ≤ n) : sumTo (digL l) n = val l := by
  induction n with
  | zero =>
    have : l.length = 0 := by omega
    rw [← sumTo_val_len l, this]
  | succ n ih =>
    by_cases hn : l.length = n + 1
    · rw [← hn, sumTo_val_len]
    · rw [sumTo, ih (by omega)]
      have : digL l n = 0 := by unfold digL; rw [if_neg (by omega)]
      rw [this]; omega

/-! ### Which is greater -/
def sgn (z : Int) : Int := if z < 0 then -1 else if 0 < z then 1 else 0
def cmpI (a b : Int) : Int := if a < b then -1 else if b < a then 1 else 0
theorem cmpI_sgn (a b : Int) : cmpI a b = sgn (a - b) := by
  unfold cmpI sgn
  split <;> split <;> (try split) <;> (try split) <;> omega
def lexC : List Int → List Int → Int
  | [], [] => 0
  | [], _ :: _ => -1
  | _ :: _, [] => 1
  | a :: as, b :: bs => if a < b then -1 else if b < a then 1 else lexC as bs
def cmpL (a b : List Int) : Int :=
  if (trimL a).length < (trimL b).length then -1 else if (trimL b).length < (trimL a).length then 1 else lexC (trimL a) (trimL b)
theorem lexC_val {a b : List Int} (ha : mayL a = true) (hb : mayL b = true) (h : a.length = b.length) : lexC a b = cmpI (val a) (val b) := by
  induction a generalizing b with
  | nil =>
    have : b = [] := List.eq_nil_of_length_eq_zero (by simpa using h.symm)
    subst this; rfl
  | cons d a ih =>
    cases b with
    | nil => simp at h
    | cons e b =>
      have hlen : a.length = b.length := by simpa using h
      simp only [mayL_cons, Bool.and_eq_true, isDig_iff] at ha hb
      have i := ih ha.2 hb.2 hlen
      rw [val_cons, val_cons, ← hlen]
      have ba := val_bd ha.2
      have bb := val_bd hb.2
      rw [← hlen] at bb
      have hp := ten_pos a.length
      simp only [lexC]
      by_cases h1 : d < e
      · rw [if_pos h1]
        have : (d + 1) * 10 ^ a.length ≤ e * 10 ^ a.length := Int.mul_le_mul_of_nonneg_right (by omega) (by omega)
        rw [Int.add_mul] at this
        unfold cmpI
        rw [if_pos (by omega)]
      · rw [if_neg h1]
        by_cases h2 : e < d
        · rw [if_pos h2]
          have : (e + 1) * 10 ^ a.length ≤ d * 10 ^ a.length := Int.mul_le_mul_of_nonneg_right (by omega) (by omega)
          rw [Int.add_mul] at this
          unfold cmpI
          rw [if_neg (by omega), if_pos (by omega)]
        · rw [if_neg h2, i]
          have : d = e := by omega
          subst this
          rw [cmpI_sgn, cmpI_sgn]
          congr 1
          omega
theorem val_low {l : List Int} (h : mayL l = true) (hh : headed l) (hl : 0 < l.length) : 10 ^ (l.length - 1) ≤ val l := by
  cases l with
  | nil => simp at hl
  | cons d l =>
    simp only [mayL_cons, Bool.and_eq_true, isDig_iff] at h
    have hd : d ≠ 0 := hh d l rfl
    have := val_bd h.2
    rw [val_cons, List.length_cons, Nat.add_sub_cancel]
    have : 1 * 10 ^ l.length ≤ d * 10 ^ l.length := Int.mul_le_mul_of_nonneg_right (by omega) (by have := ten_pos l.length; omega)
    omega
theorem pow_le {a b : Nat} (h : a ≤ b) : (10 : Int) ^ a ≤ 10 ^ b := by
  have : (10 : Nat) ^ a ≤ 10 ^ b := Nat.pow_le_pow_right (by omega) h
  exact_mod_cast this
theorem cmpL_val {a b : List Int} (ha : mayL a = true) (hb : mayL b = true) : cmpL a b = cmpI (val a) (val b) := by
  have ta := val_bd (mayL_trim ha)
  have tb := val_bd (mayL_trim hb)
  rw [val_trim] at ta tb
  unfold cmpL
  by_cases h1 : (trimL a).length < (trimL b).length
  · rw [if_pos h1]
    have := val_low (mayL_trim hb) (headed_trim b) (by omega)
    rw [val_trim] at this
    have := pow_le (show (trimL a).length ≤ (trimL b).length - 1 by omega)
    unfold cmpI
    rw [if_pos (by omega)]
  · rw [if_neg h1]
    by_cases h2 : (trimL b).length < (trimL a).length
    · rw [if_pos h2]
      have := val_low (mayL_trim ha) (headed_trim a) (by omega)
      rw [val_trim] at this
      have := pow_le (show (trimL b).length ≤ (trimL a).length - 1 by omega)
      unfold cmpI
      rw [if_neg (by omega), if_pos (by omega)]
    · rw [if_neg h2, lexC_val (mayL_trim ha) (mayL_trim hb) (by omega), val_trim, val_trim]

end Go.Proofs.YtegmdjfohlomnaaDoor
