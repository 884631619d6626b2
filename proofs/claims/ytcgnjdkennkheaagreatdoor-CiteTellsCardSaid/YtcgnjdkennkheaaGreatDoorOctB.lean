/-
  Plain law of layer 1: what is read, and the scanner sound, is what stood there.
-/
import Derived.Test.YtcgnjdkennkheaaGreatDoorOctL
set_option linter.unusedVariables false
set_option maxRecDepth 100000
set_option linter.unusedSimpArgs false
namespace Go.Proofs.YtcgnjdkennkheaaGreatDoor.Oct

theorem be_val : ∀ (m : Nat) (l : List UInt8), l.length = m → be m (val l) = l
  | 0, l, h => by rw [List.eq_nil_of_length_eq_zero h]; rfl
  | m + 1, l, h => by
    rcases List.eq_nil_or_concat l with rfl | ⟨r, c, rfl⟩
    · simp at h
    · rw [List.concat_eq_append] at h ⊢
      have ih := be_val m r (by simpa using h)
      have hc := c.toNat_lt
      rw [val_snoc, be, show (val r * 256 + c.toNat) / 256 = val r from by omega, ih]
      congr 2
      apply UInt8.toNat_inj.1
      rw [UInt8.toNat_ofNat']
      omega
theorem need_val (l : List UInt8) (h8 : l.length ≤ 8) (hh : 0 < l.length → l.head? ≠ some 0) : need (val l) = l.length := by
  have hlt := val_lt l
  have hp := pow_le8 l.length h8
  obtain ⟨a, b⟩ := need_spec (val l) (by omega)
  have hge : 0 < l.length → 256 ^ (l.length - 1) ≤ val l := fun h0 => by
    match l, h0, hh with
    | c :: r, _, hh =>
      have hc : c ≠ 0 := fun e => hh (by simp) (by simp [e])
      have hc' : 0 < c.toNat := Nat.pos_of_ne_zero (fun e => hc (UInt8.toNat_inj.1 (by simpa using e)))
      have h1 := val_append [c] r
      have h2 : val [c] = c.toNat := by simp [val]
      rw [List.singleton_append, h2] at h1
      rw [h1]
      simp only [List.length_cons, Nat.add_sub_cancel]
      exact Nat.le_trans (Nat.le_mul_of_pos_left _ hc') (Nat.le_add_right _ _)
  rcases Nat.lt_trichotomy (need (val l)) l.length with h | h | h
  · have h1 := hge (by omega)
    have h2 := Nat.pow_le_pow_right (n := 256) (by omega) (show need (val l) ≤ l.length - 1 by omega)
    omega
  · exact h
  · have h1 := b (by omega)
    have h2 := Nat.pow_le_pow_right (n := 256) (by omega) (show l.length ≤ need (val l) - 1 by omega)
    omega
theorem long_back (x : Sc) (h : x.long.2.spoil = false) : x.left = put x.long.1 ++ x.long.2.left := by
  unfold Sc.long at h ⊢
  cases hs : x.spoil
  · simp only [hs, Bool.false_eq_true, if_false] at h ⊢
    rcases hl : x.left with _ | ⟨c, r⟩
    · rw [hl] at h; simp [Sc.bad] at h
    · rw [hl] at h
      simp only at h ⊢
      by_cases h1 : 8 < c.toNat ∨ r.length < c.toNat
      · rw [if_pos h1] at h; simp at h
      · rw [if_neg h1] at h ⊢
        by_cases h2 : 0 < c.toNat ∧ r.head? = some 0
        · rw [if_pos h2] at h; simp at h
        · rw [if_neg h2]
          have hlen : (r.take c.toNat).length = c.toNat := by rw [List.length_take]; omega
          have hn := need_val (r.take c.toNat) (by omega) (fun h0 => by
            rw [List.head?_take]
            rw [if_neg (by omega)]
            exact fun e => h2 ⟨by omega, e⟩)
          show c :: r = put (val (r.take c.toNat)) ++ r.drop c.toNat
          unfold put
          rw [hn, hlen, be_val c.toNat _ hlen]
          simp
  · simp [hs] at h
theorem num_back (x : Sc) (most : Int) (h : (x.num most).2.spoil = false) : x.left = put (x.num most).1.toNat ++ (x.num most).2.left ∧ (x.num most).1 < 18446744073709551616 := by
  unfold Sc.num at h ⊢
  by_cases h1 : most < 0 ∨ most < (x.long.1 : Int)
  · rw [if_pos h1] at h; simp [Sc.bad] at h
  · rw [if_neg h1] at h ⊢
    have := long_lt x
    exact ⟨by simpa using long_back x h, by simp only; omega⟩
theorem take_back (x : Sc) (n : Int) (h : (x.take n).2.2.spoil = false) (hn : 0 ≤ n) : x.left = (x.take n).1 ++ (x.take n).2.2.left ∧ (x.take n).1.length = n.toNat := by
  unfold Sc.take at h ⊢
  cases hs : x.spoil
  · simp only [hs, Bool.false_eq_true, if_false] at h ⊢
    by_cases h1 : n < 0 ∨ (x.left.length : Int) < n
    · rw [if_pos h1] at h; simp [Sc.bad] at h
    · rw [if_neg h1]
      simp only [List.take_append_drop, true_and]
      rw [List.length_take]
      omega
  · simp [hs] at h
theorem text_back (x : Sc) (most : Int) (h : (x.text most).2.spoil = false) : x.left = text (x.text most).1 ++ (x.text most).2.left := by
  unfold Sc.text at h ⊢
  cases hs : (x.num most).2.spoil
  · simp only [hs, Bool.false_eq_true, if_false] at h ⊢
    have h1 := (num_back x most hs).1
    obtain ⟨h2, h3⟩ := take_back (x.num most).2 (x.num most).1 h (num_nonneg x most)
    unfold text
    rw [h3, List.append_assoc, ← h2]
    exact h1
  · simp [hs] at h
theorem texts_back : ∀ (n : Nat) (x : Sc), (x.texts n).2.spoil = false → x.left = (x.texts n).1.flatMap text ++ (x.texts n).2.left ∧ (x.texts n).1.length = n
  | 0, x, h => by simp [Sc.texts]
  | n + 1, x, h => by
    cases hs : (x.text 16777216).2.spoil
    · rw [texts_go n x hs] at h ⊢
      obtain ⟨h1, h2⟩ := texts_back n (x.text 16777216).2 h
      refine ⟨?_, by simp [h2]⟩
      simp only [List.flatMap_cons, List.append_assoc]
      rw [← h1]
      exact text_back x 16777216 hs
    · rw [texts_stop n x hs] at h
      rw [hs] at h
      cases h
theorem list_back (x : Sc) (most : Int) (h : (x.list most).2.spoil = false) : x.left = list (x.list most).1 ++ (x.list most).2.left := by
  unfold Sc.list at h ⊢
  cases hs : ((x.num most).2.texts (x.num most).1.toNat).2.spoil
  · simp only [hs, Bool.false_eq_true, if_false] at h ⊢
    obtain ⟨h1, h2⟩ := texts_back _ _ hs
    have h3 : (x.num most).2.spoil = false := by
      rcases hz : (x.num most).1.toNat with _ | k
      · rw [hz] at hs; exact hs
      · rw [hz] at hs
        cases hb : ((x.num most).2.text 16777216).2.spoil
        · exact (text_sound _ _ hb).1
        · rw [texts_stop k _ hb, hb] at hs; cases hs
    have h4 := (num_back x most h3).1
    unfold list
    rw [h2, List.append_assoc, ← h1]
    exact h4
  · simp only [hs, if_true] at h
    cases h
/-- The end: nothing is left, and nothing was spoilt. -/
theorem end_ok (x : Sc) (h : x.endE = 0) : x.spoil = false ∧ x.left = [] := by
  unfold Sc.endE at h
  by_cases h1 : x.spoil = true ∨ x.left ≠ []
  · rw [if_pos h1] at h; cases h
  · cases hs : x.spoil
    · exact ⟨rfl, Classical.not_not.1 fun h2 => h1 (.inr h2)⟩
    · exact absurd (.inl hs) h1
theorem end_nil : (⟨[], false⟩ : Sc).endE = 0 := rfl

end Go.Proofs.YtcgnjdkennkheaaGreatDoor.Oct
