/-
  Plain laws of layer 1: what is put is read again, in order, and no two are alike.
-/
import Derived.Test.YtnpmojfjoemelaaOctP
import GoSem.Claim
set_option linter.unusedVariables false
set_option linter.unusedSimpArgs false
namespace Go.Proofs.Ytnpmojfjoemelaa
namespace Oct

theorem bitLenAux_spec : ∀ (f n : Nat), n < 2 ^ f → n < 2 ^ Lib.bitLenAux f n ∧ (n ≠ 0 → 2 ^ (Lib.bitLenAux f n - 1) ≤ n) := by
  intro f
  induction f with
  | zero => intro n h; simp at h; subst h; simp [Lib.bitLenAux]
  | succ f ih =>
    intro n h
    by_cases h0 : n = 0
    · subst h0; simp [Lib.bitLenAux]
    · have h1 : n / 2 < 2 ^ f := by rw [Nat.pow_succ] at h; omega
      obtain ⟨a, b⟩ := ih (n / 2) h1
      simp only [Lib.bitLenAux, if_neg h0]
      have e : 1 + Lib.bitLenAux f (n / 2) - 1 = Lib.bitLenAux f (n / 2) := by omega
      rw [e, Nat.add_comm 1, Nat.pow_succ]
      refine ⟨by omega, fun _ => ?_⟩
      by_cases h2 : n / 2 = 0
      · have hz : Lib.bitLenAux f (n / 2) = 0 := by
          rw [h2]
          cases f <;> simp [Lib.bitLenAux]
        rw [hz]; simp; omega
      · have hb := b h2
        obtain ⟨m, hm⟩ : ∃ m, Lib.bitLenAux f (n / 2) = m + 1 := by
          rcases hq : Lib.bitLenAux f (n / 2) with _ | m
          · rw [hq] at a; simp at a; omega
          · exact ⟨m, rfl⟩
        rw [hm] at hb ⊢
        rw [Nat.pow_succ]
        simp at hb
        omega

theorem need_spec (n : Nat) (h : n < 18446744073709551616) : n < 256 ^ need n ∧ (need n ≠ 0 → 256 ^ (need n - 1) ≤ n) := by
  obtain ⟨a, b⟩ := bitLenAux_spec 64 n h
  have e : ∀ k, 256 ^ k = 2 ^ (8 * k) := fun k => by rw [show (256 : Nat) = 2 ^ 8 from rfl, ← Nat.pow_mul]
  have hb : Lib.bitLen n = Lib.bitLenAux 64 n := rfl
  unfold need
  rw [hb, e, e]
  refine ⟨Nat.lt_of_lt_of_le a (Nat.pow_le_pow_right (by omega) (by omega)), fun h0 => ?_⟩
  have hn : n ≠ 0 := by
    rintro rfl
    simp [Lib.bitLenAux] at h0
  exact Nat.le_trans (Nat.pow_le_pow_right (by omega) (by omega)) (b hn)

theorem need_zero (n : Nat) (h : n < 18446744073709551616) : need n = 0 ↔ n = 0 := by
  obtain ⟨a, b⟩ := need_spec n h
  constructor
  · intro e; rw [e] at a; simpa using a
  · rintro rfl; rfl

theorem val_append (a b : List UInt8) : val (a ++ b) = val a * 256 ^ b.length + val b := by
  have h : ∀ m (b : List UInt8), b.length = m → val (a ++ b) = val a * 256 ^ m + val b := by
    intro m
    induction m with
    | zero => intro b hb; rw [List.eq_nil_of_length_eq_zero hb]; simp [val]
    | succ m ih =>
      intro b hb
      rcases List.eq_nil_or_concat b with rfl | ⟨r, c, rfl⟩
      · simp at hb
      · rw [List.concat_eq_append] at hb ⊢
        rw [← List.append_assoc, val_snoc, val_snoc, ih r (by simpa using hb), Nat.pow_succ, Nat.add_mul, Nat.mul_assoc, Nat.add_assoc]
  exact h _ b rfl

theorem val_be (k n : Nat) (h : n < 256 ^ k) : val (be k n) = n := by
  induction k generalizing n with
  | zero => simp at h; subst h; rfl
  | succ k ih =>
    rw [be, val_snoc, ih (n / 256) (by rw [Nat.pow_succ] at h; omega), UInt8.toNat_ofNat']
    omega

theorem be_head (n : Nat) (h : n < 18446744073709551616) : need n ≠ 0 → (be (need n) n).head? ≠ some 0 := by
  intro h0 he
  obtain ⟨a, b⟩ := need_spec n h
  obtain ⟨k, hk⟩ : ∃ k, need n = k + 1 := ⟨need n - 1, by omega⟩
  rw [hk] at he a b
  rw [be_cons] at he
  simp only [List.head?_cons, Option.some.injEq] at he
  have hz := congrArg UInt8.toNat he
  rw [UInt8.toNat_ofNat'] at hz
  have hb := b (by omega)
  simp only [Nat.add_sub_cancel] at hb
  have hd : n / 256 ^ k < 256 := by
    rw [Nat.div_lt_iff_lt_mul (Nat.pow_pos (by omega))]
    rw [Nat.pow_succ] at a
    omega
  have hp : 0 < n / 256 ^ k := Nat.div_pos hb (Nat.pow_pos (by omega))
  simp at hz
  omega

/-- A number that was put is read. -/
theorem long_put (n : Nat) (h : n < 18446744073709551616) (r : List UInt8) : Sc.long ⟨put n ++ r, false⟩ = (n, ⟨r, false⟩) := by
  have hk := need_le n
  have hc : (UInt8.ofNat (need n)).toNat = need n := by rw [UInt8.toNat_ofNat']; omega
  have hl := be_length (need n) n
  have h1 : ¬ (8 < need n ∨ (be (need n) n ++ r).length < need n) := by
    rw [List.length_append, hl]; omega
  have h2 : ¬ (0 < need n ∧ (be (need n) n ++ r).head? = some 0) := by
    rintro ⟨h0, he⟩
    apply be_head n h (by omega)
    rcases hbe : be (need n) n with _ | ⟨z, t⟩
    · rw [hbe] at hl; simp at hl; omega
    · rw [hbe] at he; exact he
  unfold Sc.long put
  simp only [Bool.false_eq_true, if_false, List.cons_append, hc, if_neg h1, if_neg h2]
  rw [List.take_left' hl, List.drop_left' hl, val_be _ _ (need_spec n h).1]

/-! ### The order -/
theorem less_cons (a b : UInt8) (x y : List UInt8) : Op.bytesLess (a :: x) (b :: y) = (decide (a < b) || (a == b && Op.bytesLess x y)) := by
  simp only [Op.bytesLess]

theorem be_mod (k n : Nat) : be k (n % 256 ^ k) = be k n := by
  induction k generalizing n with
  | zero => rfl
  | succ k ih =>
    have h1 : n % 256 ^ (k + 1) / 256 = n / 256 % 256 ^ k := by rw [Nat.pow_succ', Nat.mod_mul_right_div_self]
    have h2 : n % 256 ^ (k + 1) % 256 = n % 256 := Nat.mod_mod_of_dvd _ ⟨256 ^ k, by rw [Nat.pow_succ']⟩
    rw [be, be, h1, ih]
    congr 2
    apply UInt8.toNat_inj.1
    rw [UInt8.toNat_ofNat', UInt8.toNat_ofNat']
    exact h2

theorem split_lt (p a1 a0 b1 b0 : Nat) (ha : a0 < p) (hb : b0 < p) : p * a1 + a0 < p * b1 + b0 ↔ a1 < b1 ∨ (a1 = b1 ∧ a0 < b0) := by
  rcases Nat.lt_trichotomy a1 b1 with h | h | h
  · have := Nat.mul_le_mul_left p (show a1 + 1 ≤ b1 from h)
    rw [Nat.mul_add] at this
    constructor
    · intro _; exact .inl h
    · intro _; omega
  · subst h; omega
  · have := Nat.mul_le_mul_left p (show b1 + 1 ≤ a1 from h)
    rw [Nat.mul_add] at this
    constructor <;> intro h' <;> omega

theorem less_be (k a b : Nat) (ha : a < 256 ^ k) (hb : b < 256 ^ k) : Op.bytesLess (be k a) (be k b) = decide (a < b) := by
  induction k generalizing a b with
  | zero => simp at ha hb; subst ha hb; rfl
  | succ k ih =>
    have hp : 0 < 256 ^ k := Nat.pow_pos (by omega)
    have ha' : a / 256 ^ k < 256 := by rw [Nat.div_lt_iff_lt_mul hp]; rw [Nat.pow_succ] at ha; omega
    have hb' : b / 256 ^ k < 256 := by rw [Nat.div_lt_iff_lt_mul hp]; rw [Nat.pow_succ] at hb; omega
    have ha0 := Nat.mod_lt a hp
    have hb0 := Nat.mod_lt b hp
    have hs := split_lt (256 ^ k) (a / 256 ^ k) (a % 256 ^ k) (b / 256 ^ k) (b % 256 ^ k) ha0 hb0
    rw [Nat.div_add_mod, Nat.div_add_mod] at hs
    rw [be_cons, be_cons, less_cons, ← be_mod k a, ← be_mod k b, ih _ _ ha0 hb0]
    have e1 : decide (UInt8.ofNat (a / 256 ^ k) < UInt8.ofNat (b / 256 ^ k)) = decide (a / 256 ^ k < b / 256 ^ k) := by
      rw [decide_eq_decide, UInt8.lt_iff_toNat_lt, UInt8.toNat_ofNat', UInt8.toNat_ofNat', Nat.mod_eq_of_lt ha', Nat.mod_eq_of_lt hb']
    have e2 : (UInt8.ofNat (a / 256 ^ k) == UInt8.ofNat (b / 256 ^ k)) = decide (a / 256 ^ k = b / 256 ^ k) := by
      rw [Bool.eq_iff_iff, beq_iff_eq, decide_eq_true_iff, ← UInt8.toNat_inj, UInt8.toNat_ofNat', UInt8.toNat_ofNat', Nat.mod_eq_of_lt ha', Nat.mod_eq_of_lt hb']
    rw [e1, e2, Bool.eq_iff_iff]
    simp only [Bool.or_eq_true, Bool.and_eq_true, decide_eq_true_iff]
    exact hs.symm

theorem less_put (a b : Nat) (ha : a < 18446744073709551616) (hb : b < 18446744073709551616) : Op.bytesLess (put a) (put b) = decide (a < b) := by
  obtain ⟨a1, a2⟩ := need_spec a ha
  obtain ⟨b1, b2⟩ := need_spec b hb
  have hka := need_le a
  have hkb := need_le b
  have e1 : decide (UInt8.ofNat (need a) < UInt8.ofNat (need b)) = decide (need a < need b) := by
    rw [decide_eq_decide, UInt8.lt_iff_toNat_lt, UInt8.toNat_ofNat', UInt8.toNat_ofNat', Nat.mod_eq_of_lt (by omega), Nat.mod_eq_of_lt (by omega)]
  have e2 : (UInt8.ofNat (need a) == UInt8.ofNat (need b)) = decide (need a = need b) := by
    rw [Bool.eq_iff_iff, beq_iff_eq, decide_eq_true_iff, ← UInt8.toNat_inj, UInt8.toNat_ofNat', UInt8.toNat_ofNat', Nat.mod_eq_of_lt (by omega), Nat.mod_eq_of_lt (by omega)]
  unfold put
  rw [less_cons, e1, e2]
  rcases Nat.lt_trichotomy (need a) (need b) with h | h | h
  · have h2 := b2 (by omega)
    have h3 : 256 ^ need a ≤ 256 ^ (need b - 1) := Nat.pow_le_pow_right (by omega) (by omega)
    have : a < b := by omega
    simp [h, this]
  · have hb1 : b < 256 ^ need a := by rw [h]; exact b1
    rw [← h, less_be _ _ _ a1 hb1]
    simp
  · have h2 := a2 (by omega)
    have h3 : 256 ^ need b ≤ 256 ^ (need a - 1) := Nat.pow_le_pow_right (by omega) (by omega)
    have h4 : ¬ a < b := by omega
    have h5 : ¬ need a < need b := by omega
    have h6 : ¬ need a = need b := by omega
    simp [h4, h5, h6]

end Oct
end Go.Proofs.Ytnpmojfjoemelaa
