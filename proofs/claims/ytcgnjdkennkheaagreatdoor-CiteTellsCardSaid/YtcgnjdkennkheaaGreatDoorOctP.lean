/-
  Plain functions for layer 1 (octet): numbers, texts and lists as bytes, and the scanner. No program in sight.
-/
import Derived.Lib.BitFns
import Derived.Lib.Strings
set_option linter.unusedVariables false
set_option maxRecDepth 100000
set_option linter.unusedSimpArgs false
namespace Go.Proofs.YtcgnjdkennkheaaGreatDoor
open Go
namespace Oct

/-- how many bytes a number needs -/
def need (n : Nat) : Nat := (Lib.bitLen n + 7) / 8

/-- k bytes of a number, the greatest first -/
def be : Nat → Nat → List UInt8
  | 0, _ => []
  | k + 1, n => be k (n / 256) ++ [UInt8.ofNat n]

theorem be_length (k n : Nat) : (be k n).length = k := by
  induction k generalizing n with
  | zero => rfl
  | succ k ih => simp [be, ih]

theorem be_cons (k n : Nat) : be (k + 1) n = UInt8.ofNat (n / 256 ^ k) :: be k n := by
  induction k generalizing n with
  | zero => simp [be]
  | succ k ih =>
    rw [be, ih (n / 256)]
    simp only [be, List.cons_append, Nat.div_div_eq_div_mul]
    congr 2
    rw [Nat.pow_succ, Nat.mul_comm]

def put (n : Nat) : List UInt8 := UInt8.ofNat (need n) :: be (need n) n
def text (s : List UInt8) : List UInt8 := put s.length ++ s
def list (l : List (List UInt8)) : List UInt8 := put l.length ++ l.flatMap text

theorem bitLen_le (n : Nat) : Lib.bitLen n ≤ 64 := by
  have h : ∀ f x, Lib.bitLenAux f x ≤ f := by
    intro f
    induction f with
    | zero => intro x; simp [Lib.bitLenAux]
    | succ f ih => intro x; simp only [Lib.bitLenAux]; have := ih (x / 2); split <;> omega
  exact h 64 n

theorem need_le (n : Nat) : need n ≤ 8 := by have := bitLen_le n; unfold need; omega

theorem put_length (n : Nat) : (put n).length = 1 + need n := by simp [put, be_length]; omega

/-- the bytes behind i rounds of Put -/
def puts (k n i : Nat) : List UInt8 := UInt8.ofNat k :: (List.replicate (k - i) 0 ++ be i n)
theorem puts_zero (k n : Nat) : puts k n 0 = UInt8.ofNat k :: List.replicate k 0 := by simp [puts, be]
theorem puts_all (k n : Nat) : puts k n k = UInt8.ofNat k :: be k n := by simp [puts]
theorem puts_length (k n i : Nat) (h : i ≤ k) : (puts k n i).length = 1 + k := by simp [puts, be_length]; omega
theorem puts_succ (k n i : Nat) (h : i < k) : (puts k n i).set (k - i) (UInt8.ofNat (n / 256 ^ i)) = puts k n (i + 1) := by
  obtain ⟨m, hm⟩ : ∃ m, k - i = m + 1 := ⟨k - i - 1, by omega⟩
  have hm' : k - (i + 1) = m := by omega
  simp only [puts, hm, hm', List.set_cons_succ]
  congr 1
  rw [List.replicate_succ', List.append_assoc, List.set_append_right _ _ (by simp)]
  simp [be_cons]

/-- big-endian bytes as a number -/
def val (l : List UInt8) : Nat := l.foldl (fun n c => n * 256 + c.toNat) 0

theorem val_snoc (l : List UInt8) (c : UInt8) : val (l ++ [c]) = val l * 256 + c.toNat := by simp [val]

/-- The scanner. -/
structure Sc where
  left : List UInt8
  spoil : Bool

def Sc.bad (x : Sc) : Sc := ⟨x.left, true⟩

/-- take(n): what it gives, and the scanner behind it. -/
def Sc.take (x : Sc) (n : Int) : List UInt8 × Bool × Sc :=
  if x.spoil then ([], false, x)
  else if n < 0 ∨ (x.left.length : Int) < n then ([], false, x.bad)
  else (x.left.take n.toNat, true, ⟨x.left.drop n.toNat, false⟩)

/-- Long -/
def Sc.long (x : Sc) : Nat × Sc :=
  if x.spoil then (0, x) else
  match x.left with
  | [] => (0, x.bad)
  | c :: r =>
    if 8 < c.toNat ∨ r.length < c.toNat then (0, ⟨r, true⟩)
    else if 0 < c.toNat ∧ r.head? = some 0 then (0, ⟨r.drop c.toNat, true⟩)
    else (val (r.take c.toNat), ⟨r.drop c.toNat, false⟩)

theorem val_lt (l : List UInt8) : val l < 256 ^ l.length := by
  have h : ∀ m (l : List UInt8), l.length = m → val l < 256 ^ m := by
    intro m
    induction m with
    | zero => intro l hl; rw [List.eq_nil_of_length_eq_zero hl]; decide
    | succ m ih =>
      intro l hl
      rcases List.eq_nil_or_concat l with rfl | ⟨r, c, rfl⟩
      · simp at hl
      · rw [List.concat_eq_append] at hl ⊢
        have := ih r (by simpa using hl)
        have hc := c.toNat_lt
        rw [val_snoc, Nat.pow_succ]
        omega
  exact h _ l rfl

theorem val_take (l : List UInt8) (k : Nat) (h : k < l.length) : val (l.take (k + 1)) = val (l.take k) * 256 + l[k].toNat := by
  rw [List.take_succ_eq_append_getElem h, val_snoc]

theorem pow_le8 (k : Nat) (h : k ≤ 8) : 256 ^ k ≤ 18446744073709551616 := by
  have := Nat.pow_le_pow_right (n := 256) (by omega) h
  exact this

theorem long_left_le (x : Sc) : x.long.2.left.length ≤ x.left.length := by
  unfold Sc.long
  split
  · exact Nat.le_refl _
  · split
    · simp [Sc.bad]
    · rename_i h
      rw [h]
      split
      · simp
      · split <;> simp <;> omega

theorem long_lt (x : Sc) : x.long.1 < 18446744073709551616 := by
  unfold Sc.long
  split
  · exact Nat.zero_lt_succ _
  · split
    · exact Nat.zero_lt_succ _
    · rename_i c r h
      split
      · exact Nat.zero_lt_succ _
      · split
        · exact Nat.zero_lt_succ _
        · have h1 := val_lt (r.take c.toNat)
          have h2 := pow_le8 (r.take c.toNat).length (by simp; omega)
          simp only
          omega

/-- Num -/
def Sc.num (x : Sc) (most : Int) : Int × Sc :=
  if most < 0 ∨ most < (x.long.1 : Int) then (0, x.long.2.bad) else (x.long.1, x.long.2)

theorem bad_left (x : Sc) : x.bad.left = x.left := rfl
theorem num_left_le (x : Sc) (most : Int) : (x.num most).2.left.length ≤ x.left.length := by
  unfold Sc.num
  have := long_left_le x
  split <;> simpa [Sc.bad] using this
theorem num_nonneg (x : Sc) (most : Int) : 0 ≤ (x.num most).1 := by
  unfold Sc.num
  split <;> simp
theorem num_le (x : Sc) (most : Int) (h : 0 ≤ most) : (x.num most).1 ≤ most := by
  unfold Sc.num
  split
  · exact h
  · rename_i h'; simp only; omega
theorem num_lt (x : Sc) (most : Int) (h : most ≤ 9223372036854775807) : (x.num most).1 ≤ 9223372036854775807 := by
  unfold Sc.num
  split
  · simp
  · rename_i h'; simp only; omega

/-- Text -/
def Sc.text (x : Sc) (most : Int) : List UInt8 × Sc :=
  if (x.num most).2.spoil then ([], (x.num most).2)
  else (((x.num most).2.take (x.num most).1).1, ((x.num most).2.take (x.num most).1).2.2)

theorem take_left_le (x : Sc) (n : Int) : (x.take n).2.2.left.length ≤ x.left.length := by
  unfold Sc.take
  split
  · exact Nat.le_refl _
  · split
    · exact Nat.le_refl _
    · simp
theorem text_left_le (x : Sc) (most : Int) : (x.text most).2.left.length ≤ x.left.length := by
  unfold Sc.text
  have h1 := num_left_le x most
  split
  · exact h1
  · exact Nat.le_trans (take_left_le _ _) h1
theorem take_length_le (x : Sc) (n : Int) : (x.take n).1.length ≤ x.left.length := by
  unfold Sc.take
  split
  · simp
  · split
    · simp
    · simp; omega
theorem text_length_le (x : Sc) (most : Int) : (x.text most).1.length ≤ x.left.length := by
  unfold Sc.text
  have h1 := num_left_le x most
  split
  · simp
  · exact Nat.le_trans (take_length_le _ _) h1

/-- n texts, one behind the other, as far as the scanner is sound -/
def Sc.texts : Nat → Sc → List (List UInt8) × Sc
  | 0, x => ([], x)
  | n + 1, x => if (x.text 16777216).2.spoil then ([], (x.text 16777216).2) else ((x.text 16777216).1 :: ((x.text 16777216).2.texts n).1, ((x.text 16777216).2.texts n).2)

/-- List -/
def Sc.list (x : Sc) (most : Int) : List (List UInt8) × Sc :=
  if ((x.num most).2.texts (x.num most).1.toNat).2.spoil then ([], ((x.num most).2.texts (x.num most).1.toNat).2)
  else (x.num most).2.texts (x.num most).1.toNat

theorem texts_left_le (n : Nat) (x : Sc) : (x.texts n).2.left.length ≤ x.left.length := by
  induction n generalizing x with
  | zero => exact Nat.le_refl _
  | succ n ih =>
    unfold Sc.texts
    have h1 := text_left_le x 16777216
    split
    · exact h1
    · exact Nat.le_trans (ih _) h1
theorem list_left_le (x : Sc) (most : Int) : (x.list most).2.left.length ≤ x.left.length := by
  unfold Sc.list
  have h1 := num_left_le x most
  have h2 := texts_left_le (x.num most).1.toNat (x.num most).2
  split
  · exact Nat.le_trans h2 h1
  · exact Nat.le_trans h2 h1

/-- Left, End -/
def Sc.leftN (x : Sc) : Nat := if x.spoil then 0 else x.left.length
def Sc.endE (x : Sc) : Int := if x.spoil = true ∨ x.left ≠ [] then 10 else 0

theorem take_sound (x : Sc) (n : Int) (h : (x.take n).2.2.spoil = false) : x.spoil = false := by
  unfold Sc.take at h
  cases hs : x.spoil
  · rfl
  · simp [hs] at h
theorem long_sound (x : Sc) (h : x.long.2.spoil = false) : x.spoil = false ∧ x.long.2.left.length + 1 ≤ x.left.length := by
  unfold Sc.long at h ⊢
  cases hs : x.spoil
  · simp only [hs, Bool.false_eq_true, if_false] at h ⊢
    rcases hl : x.left with _ | ⟨c, r⟩
    · rw [hl] at h; simp [Sc.bad] at h
    · rw [hl] at h
      simp only at h ⊢
      by_cases h1 : 8 < c.toNat ∨ r.length < c.toNat
      · rw [if_pos h1] at h; simp at h
      · rw [if_neg h1] at h ⊢
        by_cases h2 : 0 < c.toNat ∧ r.head? = some 0
        · rw [if_pos h2] at h; simp at h
        · rw [if_neg h2]; simp
  · simp [hs] at h
theorem num_sound (x : Sc) (most : Int) (h : (x.num most).2.spoil = false) : x.spoil = false ∧ (x.num most).2.left.length + 1 ≤ x.left.length := by
  unfold Sc.num at h ⊢
  by_cases h1 : most < 0 ∨ most < (x.long.1 : Int)
  · rw [if_pos h1] at h; simp [Sc.bad] at h
  · rw [if_neg h1] at h ⊢
    exact long_sound x h
theorem text_sound (x : Sc) (most : Int) (h : (x.text most).2.spoil = false) : x.spoil = false ∧ (x.text most).2.left.length + 1 ≤ x.left.length := by
  unfold Sc.text at h ⊢
  cases hs : (x.num most).2.spoil
  · simp only [hs, Bool.false_eq_true, if_false] at h ⊢
    have h1 := num_sound x most hs
    have h2 := take_left_le (x.num most).2 (x.num most).1
    exact ⟨h1.1, by omega⟩
  · simp [hs] at h
theorem texts_zero (x : Sc) : x.texts 0 = ([], x) := rfl
theorem texts_stop (m : Nat) (x : Sc) (h : (x.text 16777216).2.spoil = true) : x.texts (m + 1) = ([], (x.text 16777216).2) := by simp [Sc.texts, h]
theorem texts_go (m : Nat) (x : Sc) (h : (x.text 16777216).2.spoil = false) : x.texts (m + 1) = ((x.text 16777216).1 :: ((x.text 16777216).2.texts m).1, ((x.text 16777216).2.texts m).2) := by simp [Sc.texts, h]

/-- what List has written behind k texts -/
def lists (n : Nat) (l : List (List UInt8)) (k : Nat) : List UInt8 := put n ++ (l.take k).flatMap text
theorem lists_zero (n : Nat) (l : List (List UInt8)) : lists n l 0 = put n := by simp [lists]
theorem lists_all (l : List (List UInt8)) (k : Nat) (h : l.length ≤ k) : lists l.length l k = list l := by
  simp [lists, list, List.take_of_length_le h]
theorem lists_succ (n : Nat) (l : List (List UInt8)) (k : Nat) (h : k < l.length) : lists n l (k + 1) = lists n l k ++ text l[k] := by
  simp only [lists, List.take_succ_eq_append_getElem h, List.flatMap_append, List.flatMap_cons, List.flatMap_nil, List.append_nil, List.append_assoc]
theorem lists_le (n : Nat) (l : List (List UInt8)) (k : Nat) : (lists n l k).length ≤ (put n ++ l.flatMap text).length := by
  simp only [lists, List.length_append]
  have : (l.flatMap text).length = ((l.take k).flatMap text).length + ((l.drop k).flatMap text).length := by
    rw [← List.length_append, ← List.flatMap_append, List.take_append_drop]
  omega
theorem text_length_ge (s : List UInt8) : s.length + 1 ≤ (text s).length := by
  simp [text, put_length]; omega
theorem flat_length_ge (l : List (List UInt8)) : l.length ≤ (l.flatMap text).length := by
  induction l with
  | nil => simp
  | cons s l ih => have := text_length_ge s; simp only [List.flatMap_cons, List.length_append, List.length_cons]; omega
theorem list_length_ge (l : List (List UInt8)) : l.length ≤ (list l).length := by
  have := flat_length_ge l
  simp only [list, List.length_append]; omega

end Oct
end Go.Proofs.YtcgnjdkennkheaaGreatDoor
