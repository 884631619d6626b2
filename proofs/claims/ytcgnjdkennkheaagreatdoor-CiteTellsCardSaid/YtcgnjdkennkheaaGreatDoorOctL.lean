/-
  Plain laws of layer 1: what is put is read again, in order, and no two are alike.
-/
import Derived.Test.YtcgnjdkennkheaaGreatDoorOctP
import GoSem.Claim
set_option linter.unusedVariables false
set_option maxRecDepth 100000
set_option linter.unusedSimpArgs false
namespace Go.Proofs.YtcgnjdkennkheaaGreatDoor
namespace Oct

theorem bitLenAux_spec : ∀ (f n : Nat), n < 2 ^ f → n < 2 ^ Lib.bitLenAux f n ∧ (n ≠ 0 → 2 ^ (Lib.bitLenAux f n - 1) ≤ n) := by
  intro f
  induction f with
  | zero => intro n h; simp at h; subst h; simp [Lib.bitLenAux]
  | succ f ih =>
    intro n h
    by_cases h0 : n = 0
    · subst h0; simp [Lib.bitLenAux]
    · have h1 : n / 2 < 2 ^ f := by rw [Nat.pow_succ] at h; omega
      obtain ⟨a, b⟩ := ih (n / 2) h1
      simp only [Lib.bitLenAux, if_neg h0]
      have e : 1 + Lib.bitLenAux f (n / 2) - 1 = Lib.bitLenAux f (n / 2) := by omega
      rw [e, Nat.add_comm 1, Nat.pow_succ]
      refine ⟨by omega, fun _ => ?_⟩
      by_cases h2 : n / 2 = 0
      · have hz : Lib.bitLenAux f (n / 2) = 0 := by
          rw [h2]
          cases f <;> simp [Lib.bitLenAux]
        rw [hz]; simp; omega
      · have hb := b h2
        obtain ⟨m, hm⟩ : ∃ m, Lib.bitLenAux f (n / 2) = m + 1 := by
          rcases hq : Lib.bitLenAux f (n / 2) with _ | m
          · rw [hq] at a; simp at a; omega
          · exact ⟨m, rfl⟩
        rw [hm] at hb ⊢
        rw [Nat.pow_succ]
        simp at hb
        omega

theorem need_spec (n : Nat) (h : n < 18446744073709551616) : n < 256 ^ need n ∧ (need n ≠ 0 → 256 ^ (need n - 1) ≤ n) := by
  obtain ⟨a, b⟩ := bitLenAux_spec 64 n h
  have e : ∀ k, 256 ^ k = 2 ^ (8 * k) := fun k => by rw [show (256 : Nat) = 2 ^ 8 from rfl, ← Nat.pow_mul]
  have hb : Lib.bitLen n = Lib.bitLenAux 64 n := rfl
  unfold need
  rw [hb, e, e]
  refine ⟨Nat.lt_of_lt_of_le a (Nat.pow_le_pow_right (by omega) (by omega)), fun h0 => ?_⟩
  have hn : n ≠ 0 := by
    rintro rfl
    simp [Lib.bitLenAux] at h0
  exact Nat.le_trans (Nat.pow_le_pow_right (by omega) (by omega)) (b hn)

theorem need_zero (n : Nat) (h : n < 18446744073709551616) : need n = 0 ↔ n = 0 := by
  obtain ⟨a, b⟩ := need_spec n h
  constructor
  · intro e; rw [e] at a; simpa using a
  · rintro rfl; rfl

theorem need_go (n k : Nat) (h : n < 18446744073709551616) (h0 : 0 < n / 256 ^ k) : k < need n := by
  obtain ⟨a, _⟩ := need_spec n h
  have hp : 256 ^ k ≤ n := by
    rcases Nat.lt_or_ge n (256 ^ k) with h1 | h1
    · rw [Nat.div_eq_of_lt h1] at h0; omega
    · exact h1
  rcases Nat.lt_or_ge k (need n) with h1 | h1
  · exact h1
  · have := Nat.pow_le_pow_right (n := 256) (by omega) h1
    omega
theorem need_end (n k : Nat) (h : n < 18446744073709551616) (h0 : ¬ 0 < n / 256 ^ k) (hk : k ≤ need n) : k = need n := by
  obtain ⟨_, b⟩ := need_spec n h
  rcases Nat.lt_or_ge k (need n) with h1 | h1
  · exfalso
    have h2 := b (by omega)
    have h3 : 256 ^ k ≤ 256 ^ (need n - 1) := Nat.pow_le_pow_right (by omega) (by omega)
    exact h0 (Nat.div_pos (by omega) (Nat.pow_pos (by omega)))
  · omega
theorem be_step (n k : Nat) : [UInt8.ofNat (n / 256 ^ k % 256)] ++ be k n = be (k + 1) n := by
  rw [be_cons]
  simp only [List.singleton_append, List.cons.injEq, and_true]
  apply UInt8.toNat_inj.1
  rw [UInt8.toNat_ofNat', UInt8.toNat_ofNat']
  omega
theorem div_step (n k : Nat) : n / 256 ^ k / 256 = n / 256 ^ (k + 1) := by rw [Nat.div_div_eq_div_mul, Nat.pow_succ]

theorem val_append (a b : List UInt8) : val (a ++ b) = val a * 256 ^ b.length + val b := by
  have h : ∀ m (b : List UInt8), b.length = m → val (a ++ b) = val a * 256 ^ m + val b := by
    intro m
    induction m with
    | zero => intro b hb; rw [List.eq_nil_of_length_eq_zero hb]; simp [val]
    | succ m ih =>
      intro b hb
      rcases List.eq_nil_or_concat b with rfl | ⟨r, c, rfl⟩
      · simp at hb
      · rw [List.concat_eq_append] at hb ⊢
        rw [← List.append_assoc, val_snoc, val_snoc, ih r (by simpa using hb), Nat.pow_succ, Nat.add_mul, Nat.mul_assoc, Nat.add_assoc]
  exact h _ b rfl

theorem val_be (k n : Nat) (h : n < 256 ^ k) : val (be k n) = n := by
  induction k generalizing n with
  | zero => simp at h; subst h; rfl
  | succ k ih =>
    rw [be, val_snoc, ih (n / 256) (by rw [Nat.pow_succ] at h; omega), UInt8.toNat_ofNat']
    omega

theorem be_head (n : Nat) (h : n < 18446744073709551616) : need n ≠ 0 → (be (need n) n).head? ≠ some 0 := by
  intro h0 he
  obtain ⟨a, b⟩ := need_spec n h
  obtain ⟨k, hk⟩ : ∃ k, need n = k + 1 := ⟨need n - 1, by omega⟩
  rw [hk] at he a b
  rw [be_cons] at he
  simp only [List.head?_cons, Option.some.injEq] at he
  have hz := congrArg UInt8.toNat he
  rw [UInt8.toNat_ofNat'] at hz
  have hb := b (by omega)
  simp only [Nat.add_sub_cancel] at hb
  have hd : n / 256 ^ k < 256 := by
    rw [Nat.div_lt_iff_lt_mul (Nat.pow_pos (by omega))]
    rw [Nat.pow_succ] at a
    omega
  have hp : 0 < n / 256 ^ k := Nat.div_pos hb (Nat.pow_pos (by omega))
  simp at hz
  omega

/-- A number that was put is read. -/
theorem long_put (n : Nat) (h : n < 18446744073709551616) (r : List UInt8) : Sc.long ⟨put n ++ r, false⟩ = (n, ⟨r, false⟩) := by
  have hk := need_le n
  have hc : (UInt8.ofNat (need n)).toNat = need n := by rw [UInt8.toNat_ofNat']; omega
  have hl := be_length (need n) n
  have h1 : ¬ (8 < need n ∨ (be (need n) n ++ r).length < need n) := by
    rw [List.length_append, hl]; omega
  have h2 : ¬ (0 < need n ∧ (be (need n) n ++ r).head? = some 0) := by
    rintro ⟨h0, he⟩
    apply be_head n h (by omega)
    rcases hbe : be (need n) n with _ | ⟨z, t⟩
    · rw [hbe] at hl; simp at hl; omega
    · rw [hbe] at he; exact he
  unfold Sc.long put
  simp only [Bool.false_eq_true, if_false, List.cons_append, hc, if_neg h1, if_neg h2]
  rw [List.take_left' hl, List.drop_left' hl, val_be _ _ (need_spec n h).1]

/-! ### The order -/
theorem less_cons (a b : UInt8) (x y : List UInt8) : Op.bytesLess (a :: x) (b :: y) = (decide (a < b) || (a == b && Op.bytesLess x y)) := by
  simp only [Op.bytesLess]

theorem be_mod (k n : Nat) : be k (n % 256 ^ k) = be k n := by
  induction k generalizing n with
  | zero => rfl
  | succ k ih =>
    have h1 : n % 256 ^ (k + 1) / 256 = n / 256 % 256 ^ k := by rw [Nat.pow_succ', Nat.mod_mul_right_div_self]
    have h2 : n % 256 ^ (k + 1) % 256 = n % 256 := Nat.mod_mod_of_dvd _ ⟨256 ^ k, by rw [Nat.pow_succ']⟩
    rw [be, be, h1, ih]
    congr 2
    apply UInt8.toNat_inj.1
    rw [UInt8.toNat_ofNat', UInt8.toNat_ofNat']
    exact h2

theorem split_lt (p a1 a0 b1 b0 : Nat) (ha : a0 < p) (hb : b0 < p) : p * a1 + a0 < p * b1 + b0 ↔ a1 < b1 ∨ (a1 = b1 ∧ a0 < b0) := by
  rcases Nat.lt_trichotomy a1 b1 with h | h | h
  · have := Nat.mul_le_mul_left p (show a1 + 1 ≤ b1 from h)
    rw [Nat.mul_add] at this
    constructor
    · intro _; exact .inl h
    · intro _; omega
  · subst h; omega
  · have := Nat.mul_le_mul_left p (show b1 + 1 ≤ a1 from h)
    rw [Nat.mul_add] at this
    constructor <;> intro h' <;> omega

theorem less_be (k a b : Nat) (ha : a < 256 ^ k) (hb : b < 256 ^ k) : Op.bytesLess (be k a) (be k b) = decide (a < b) := by
  induction k generalizing a b with
  | zero => simp at ha hb; subst ha hb; rfl
  | succ k ih =>
    have hp : 0 < 256 ^ k := Nat.pow_pos (by omega)
    have ha' : a / 256 ^ k < 256 := by rw [Nat.div_lt_iff_lt_mul hp]; rw [Nat.pow_succ] at ha; omega
    have hb' : b / 256 ^ k < 256 := by rw [Nat.div_lt_iff_lt_mul hp]; rw [Nat.pow_succ] at hb; omega
    have ha0 := Nat.mod_lt a hp
    have hb0 := Nat.mod_lt b hp
    have hs := split_lt (256 ^ k) (a / 256 ^ k) (a % 256 ^ k) (b / 256 ^ k) (b % 256 ^ k) ha0 hb0
    rw [Nat.div_add_mod, Nat.div_add_mod] at hs
    rw [be_cons, be_cons, less_cons, ← be_mod k a, ← be_mod k b, ih _ _ ha0 hb0]
    have e1 : decide (UInt8.ofNat (a / 256 ^ k) < UInt8.ofNat (b / 256 ^ k)) = decide (a / 256 ^ k < b / 256 ^ k) := by
      rw [decide_eq_decide, UInt8.lt_iff_toNat_lt, UInt8.toNat_ofNat', UInt8.toNat_ofNat', Nat.mod_eq_of_lt ha', Nat.mod_eq_of_lt hb']
    have e2 : (UInt8.ofNat (a / 256 ^ k) == UInt8.ofNat (b / 256 ^ k)) = decide (a / 256 ^ k = b / 256 ^ k) := by
      rw [Bool.eq_iff_iff, beq_iff_eq, decide_eq_true_iff, ← UInt8.toNat_inj, UInt8.toNat_ofNat', UInt8.toNat_ofNat', Nat.mod_eq_of_lt ha', Nat.mod_eq_of_lt hb']
    rw [e1, e2, Bool.eq_iff_iff]
    simp only [Bool.or_eq_true, Bool.and_eq_true, decide_eq_true_iff]
    exact hs.symm

theorem less_put (a b : Nat) (ha : a < 18446744073709551616) (hb : b < 18446744073709551616) : Op.bytesLess (put a) (put b) = decide (a < b) := by
  obtain ⟨a1, a2⟩ := need_spec a ha
  obtain ⟨b1, b2⟩ := need_spec b hb
  have hka := need_le a
  have hkb := need_le b
  have e1 : decide (UInt8.ofNat (need a) < UInt8.ofNat (need b)) = decide (need a < need b) := by
    rw [decide_eq_decide, UInt8.lt_iff_toNat_lt, UInt8.toNat_ofNat', UInt8.toNat_ofNat', Nat.mod_eq_of_lt (by omega), Nat.mod_eq_of_lt (by omega)]
  have e2 : (UInt8.ofNat (need a) == UInt8.ofNat (need b)) = decide (need a = need b) := by
    rw [Bool.eq_iff_iff, beq_iff_eq, decide_eq_true_iff, ← UInt8.toNat_inj, UInt8.toNat_ofNat', UInt8.toNat_ofNat', Nat.mod_eq_of_lt (by omega), Nat.mod_eq_of_lt (by omega)]
  unfold put
  rw [less_cons, e1, e2]
  rcases Nat.lt_trichotomy (need a) (need b) with h | h | h
  · have h2 := b2 (by omega)
    have h3 : 256 ^ need a ≤ 256 ^ (need b - 1) := Nat.pow_le_pow_right (by omega) (by omega)
    have : a < b := by omega
    simp [h, this]
  · have hb1 : b < 256 ^ need a := by rw [h]; exact b1
    rw [← h, less_be _ _ _ a1 hb1]
    simp
  · have h2 := a2 (by omega)
    have h3 : 256 ^ need b ≤ 256 ^ (need a - 1) := Nat.pow_le_pow_right (by omega) (by omega)
    have h4 : ¬ a < b := by omega
    have h5 : ¬ need a < need b := by omega
    have h6 : ¬ need a = need b := by omega
    simp [h4, h5, h6]

theorem flat_length_le (c : Nat) (l : List (List UInt8)) (h : ∀ s ∈ l, s.length ≤ c) : (l.flatMap text).length ≤ l.length * (9 + c) := by
  induction l with
  | nil => simp
  | cons s l ih =>
    have h1 := h s (by simp)
    have h2 := ih (fun t ht => h t (by simp [ht]))
    have h3 := put_length s.length
    have h4 := need_le s.length
    simp only [List.flatMap_cons, List.length_append, List.length_cons, text, Nat.add_mul]
    omega
theorem list_length_le (c : Nat) (l : List (List UInt8)) (h : ∀ s ∈ l, s.length ≤ c) : (list l).length ≤ 9 + l.length * (9 + c) := by
  have h1 := flat_length_le c l h
  have h3 := put_length l.length
  have h4 := need_le l.length
  simp only [list, List.length_append]
  omega


/-! ### What was put is read -/
theorem num_put (n : Nat) (h : n < 18446744073709551616) (r : List UInt8) (most : Int) (hm : (n : Int) ≤ most) : Sc.num ⟨put n ++ r, false⟩ most = ((n : Int), ⟨r, false⟩) := by
  unfold Sc.num
  rw [long_put n h r, if_neg (by simp only; omega)]
theorem text_put (s : List UInt8) (h : s.length < 18446744073709551616) (r : List UInt8) (most : Int) (hm : (s.length : Int) ≤ most) : Sc.text ⟨text s ++ r, false⟩ most = (s, ⟨r, false⟩) := by
  have hn := num_put s.length h (s ++ r) most hm
  rw [← List.append_assoc] at hn
  have ht : Sc.take ⟨s ++ r, false⟩ (s.length : Int) = (s, true, ⟨r, false⟩) := by
    have h1 : ¬ ((s.length : Int) < 0 ∨ (((s ++ r).length : Nat) : Int) < s.length) := by rw [List.length_append]; omega
    simp only [Sc.take, Bool.false_eq_true, if_false, if_neg h1, Int.toNat_natCast, List.take_left', List.drop_left']
  unfold Sc.text
  rw [show text s = put s.length ++ s from rfl, hn]
  simp only [Bool.false_eq_true, if_false, ht]
theorem texts_put (l : List (List UInt8)) (h : ∀ s ∈ l, s.length ≤ 16777216) (r : List UInt8) : Sc.texts l.length ⟨l.flatMap text ++ r, false⟩ = (l, ⟨r, false⟩) := by
  induction l with
  | nil => rfl
  | cons s l ih =>
    have hs := h s (by simp)
    have ht := text_put s (by omega) (l.flatMap text ++ r) 16777216 (by omega)
    rw [List.flatMap_cons, List.append_assoc, List.length_cons, texts_go _ _ (by rw [ht]), ht, ih (fun t ht => h t (by simp [ht]))]
theorem list_put (l : List (List UInt8)) (hl : l.length < 18446744073709551616) (h : ∀ s ∈ l, s.length ≤ 16777216) (r : List UInt8) (most : Int) (hm : (l.length : Int) ≤ most) : Sc.list ⟨list l ++ r, false⟩ most = (l, ⟨r, false⟩) := by
  have hn := num_put l.length hl (l.flatMap text ++ r) most hm
  rw [← List.append_assoc] at hn
  unfold Sc.list
  rw [show list l = put l.length ++ l.flatMap text from rfl, hn]
  simp only [Int.toNat_natCast]
  rw [texts_put l h r]
  rfl

/-! ### More behind: what is read soundly is read so, whatever stands behind -/
theorem take_ext (p t : List UInt8) (n : Int) (h : (Sc.take ⟨p, false⟩ n).2.2.spoil = false) :
    Sc.take ⟨p ++ t, false⟩ n = ((Sc.take ⟨p, false⟩ n).1, true, ⟨(Sc.take ⟨p, false⟩ n).2.2.left ++ t, false⟩) := by
  have h1 : ¬ (n < 0 ∨ (p.length : Int) < n) := by
    intro hc
    simp [Sc.take, if_pos hc, Sc.bad] at h
  have h2 : ¬ (n < 0 ∨ ((p ++ t).length : Int) < n) := by rw [List.length_append]; omega
  simp only [Sc.take, Bool.false_eq_true, if_false, if_neg h1, if_neg h2]
  rw [List.take_append_of_le_length (by omega), List.drop_append_of_le_length (by omega)]
theorem long_ext (p t : List UInt8) (h : (Sc.long ⟨p, false⟩).2.spoil = false) :
    Sc.long ⟨p ++ t, false⟩ = ((Sc.long ⟨p, false⟩).1, ⟨(Sc.long ⟨p, false⟩).2.left ++ t, false⟩) := by
  rcases p with _ | ⟨c, r⟩
  · simp [Sc.long, Sc.bad] at h
  · have h1 : ¬ (8 < c.toNat ∨ r.length < c.toNat) := by
      intro hc
      simp [Sc.long, if_pos hc] at h
    have h2 : ¬ (0 < c.toNat ∧ r.head? = some 0) := by
      intro hc
      simp [Sc.long, if_neg h1, if_pos hc] at h
    have h3 : ¬ (8 < c.toNat ∨ (r ++ t).length < c.toNat) := by rw [List.length_append]; omega
    have h4 : ¬ (0 < c.toNat ∧ (r ++ t).head? = some 0) := by
      rintro ⟨h5, h6⟩
      apply h2
      refine ⟨h5, ?_⟩
      rcases r with _ | ⟨z, r⟩
      · simp at h1; omega
      · exact h6
    simp only [List.cons_append, Sc.long, Bool.false_eq_true, if_false, if_neg h1, if_neg h2, if_neg h3, if_neg h4]
    rw [List.take_append_of_le_length (by omega), List.drop_append_of_le_length (by omega)]
theorem num_ext (p t : List UInt8) (most : Int) (h : (Sc.num ⟨p, false⟩ most).2.spoil = false) :
    Sc.num ⟨p ++ t, false⟩ most = ((Sc.num ⟨p, false⟩ most).1, ⟨(Sc.num ⟨p, false⟩ most).2.left ++ t, false⟩) := by
  have h1 : ¬ (most < 0 ∨ most < ((Sc.long ⟨p, false⟩).1 : Int)) := by
    intro hc
    simp only [Sc.num, if_pos hc, Sc.bad] at h
    cases h
  have h2 : (Sc.long ⟨p, false⟩).2.spoil = false := by simpa only [Sc.num, if_neg h1] using h
  have h3 := long_ext p t h2
  simp only [Sc.num, h3, if_neg h1]
theorem mk_of (x : Sc) (h : x.spoil = false) : x = ⟨x.left, false⟩ := by
  obtain ⟨l, s⟩ := x
  simp only at h
  rw [h]
theorem text_ext (p t : List UInt8) (most : Int) (h : (Sc.text ⟨p, false⟩ most).2.spoil = false) :
    Sc.text ⟨p ++ t, false⟩ most = ((Sc.text ⟨p, false⟩ most).1, ⟨(Sc.text ⟨p, false⟩ most).2.left ++ t, false⟩) := by
  have h1 : (Sc.num ⟨p, false⟩ most).2.spoil = false := by
    cases hs : (Sc.num ⟨p, false⟩ most).2.spoil
    · rfl
    · simp [Sc.text, hs] at h
  have h2 := num_ext p t most h1
  unfold Sc.text at h ⊢
  rw [h2]
  simp only [h1, Bool.false_eq_true, if_false] at h ⊢
  have h3 := mk_of _ h1
  rw [h3] at h ⊢
  rw [take_ext _ t _ h]
theorem texts_ext (m : Nat) (p t : List UInt8) (h : (Sc.texts m ⟨p, false⟩).2.spoil = false) :
    Sc.texts m ⟨p ++ t, false⟩ = ((Sc.texts m ⟨p, false⟩).1, ⟨(Sc.texts m ⟨p, false⟩).2.left ++ t, false⟩) := by
  induction m generalizing p with
  | zero => rfl
  | succ m ih =>
    have h1 : (Sc.text ⟨p, false⟩ 16777216).2.spoil = false := by
      cases hs : (Sc.text ⟨p, false⟩ 16777216).2.spoil
      · rfl
      · rw [texts_stop _ _ hs, hs] at h; cases h
    have h2 := text_ext p t 16777216 h1
    rw [texts_go _ _ h1] at h ⊢
    rw [texts_go _ _ (by rw [h2]), h2]
    have h3 := mk_of _ h1
    simp only at h ⊢
    rw [h3] at h ⊢
    rw [ih _ h]
theorem list_ext (p t : List UInt8) (most : Int) (h : (Sc.list ⟨p, false⟩ most).2.spoil = false) :
    Sc.list ⟨p ++ t, false⟩ most = ((Sc.list ⟨p, false⟩ most).1, ⟨(Sc.list ⟨p, false⟩ most).2.left ++ t, false⟩) := by
  have h0 : ((Sc.num ⟨p, false⟩ most).2.texts (Sc.num ⟨p, false⟩ most).1.toNat).2.spoil = false := by
    cases hs : ((Sc.num ⟨p, false⟩ most).2.texts (Sc.num ⟨p, false⟩ most).1.toNat).2.spoil
    · rfl
    · simp only [Sc.list, hs, if_true] at h; cases h
  have hst : ∀ (m : Nat) (x : Sc), (x.texts m).2.spoil = false → x.spoil = false := by
    intro m
    induction m with
    | zero => intro x hx; exact hx
    | succ m ih =>
      intro x hx
      have h1 : (x.text 16777216).2.spoil = false := by
        cases hs : (x.text 16777216).2.spoil
        · rfl
        · rw [texts_stop _ _ hs, hs] at hx; cases hx
      exact (text_sound _ _ h1).1
  have h1 := hst _ _ h0
  have h2 := num_ext p t most h1
  have h3 := mk_of _ h1
  unfold Sc.list
  rw [h2]
  simp only [h0, Bool.false_eq_true, if_false]
  have h4 := texts_ext (Sc.num ⟨p, false⟩ most).1.toNat (Sc.num ⟨p, false⟩ most).2.left t (by rw [← h3]; exact h0)
  rw [← h3] at h4
  rw [h4]
  rfl

theorem put_one (a b : Nat) (ha : a < 18446744073709551616) (hb : b < 18446744073709551616) (r : List UInt8) (h : put b = put a ++ r) : a = b := by
  have h1 := long_put a ha r
  have h2 := long_put b hb []
  rw [List.append_nil, h, h1] at h2
  injection h2
theorem list_one (l m : List (List UInt8)) (hl : l.length < 18446744073709551616) (hm : m.length < 18446744073709551616) (hl' : ∀ s ∈ l, s.length ≤ 16777216) (hm' : ∀ s ∈ m, s.length ≤ 16777216) (r : List UInt8) (h : list m = list l ++ r) : l = m ∧ r = [] := by
  have h1 := list_put l hl hl' r ((l.length : Int) + m.length) (by omega)
  have h2 := list_put m hm hm' [] ((l.length : Int) + m.length) (by omega)
  rw [List.append_nil, h, h1] at h2
  injection h2 with h3 h4
  injection h4 with h4
  exact ⟨h3, h4⟩
theorem list_cut (m : List (List UInt8)) (hm : m.length < 18446744073709551616) (hm' : ∀ s ∈ m, s.length ≤ 16777216) (most : Int) (hmost : (m.length : Int) ≤ most) (j : Nat) (hj : j < (list m).length) : (Sc.list ⟨(list m).take j, false⟩ most).2.spoil = true ∧ (Sc.list ⟨(list m).take j, false⟩ most).1 = [] := by
  have h1 : (Sc.list ⟨(list m).take j, false⟩ most).2.spoil = true := by
    cases hs : (Sc.list ⟨(list m).take j, false⟩ most).2.spoil
    · exfalso
      have h2 := list_ext _ ((list m).drop j) most hs
      have h3 := list_put m hm hm' [] most hmost
      rw [List.append_nil] at h3
      rw [List.take_append_drop, h3] at h2
      injection h2 with _ h4
      injection h4 with h4
      have := congrArg List.length h4
      simp at this
      omega
    · rfl
  refine ⟨h1, ?_⟩
  have h2 : ((Sc.num ⟨(list m).take j, false⟩ most).2.texts (Sc.num ⟨(list m).take j, false⟩ most).1.toNat).2.spoil = true := by
    unfold Sc.list at h1
    split at h1
    · exact h1
    · exact h1
  simp [Sc.list, h2]

end Oct
end Go.Proofs.YtcgnjdkennkheaaGreatDoor
