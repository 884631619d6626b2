/-
  Plain laws: a text's blocks, the state behind them, the hash of a text.
-/
import Derived.Test.YtcgnjdkennkheaaGreatDoorShaL
set_option linter.unusedVariables false
set_option maxRecDepth 100000
set_option linter.unusedSimpArgs false
namespace Go.Proofs.YtcgnjdkennkheaaGreatDoor
open Go.RowKit

/-- Bytes as a number. -/
def valB (l : List UInt8) : Int := l.foldl (fun n c => n * 256 + (c.toNat : Int)) 0
theorem valB_snoc (l : List UInt8) (c : UInt8) : valB (l ++ [c]) = valB l * 256 + (c.toNat : Int) := by simp [valB]
theorem valB_bound_n : ∀ (n : Nat) (l : List UInt8), l.length = n → 0 ≤ valB l ∧ valB l < 256 ^ n := by
  intro n
  induction n with
  | zero => intro l hl; rw [List.eq_nil_of_length_eq_zero hl]; simp [valB]
  | succ n ih =>
    intro l hl
    have hne : l ≠ [] := by rintro rfl; simp at hl
    rw [← List.dropLast_concat_getLast hne, valB_snoc, Int.pow_succ]
    have := (l.getLast hne).toNat_lt
    have := ih l.dropLast (by simp [hl])
    constructor
    · omega
    · omega
theorem valB_bound (l : List UInt8) : 0 ≤ valB l ∧ valB l < 256 ^ l.length := valB_bound_n _ l rfl
/-- The words of which the first i bytes are told. -/
def packs (s : List UInt8) (i : Nat) : List Int := (List.range 16).map fun j => valB (((s.take i).drop (4 * j)).take 4)
theorem packs_length (s : List UInt8) (i : Nat) : (packs s i).length = 16 := by simp [packs]
theorem packs_zero (s : List UInt8) : packs s 0 = zeros 16 := by simp [packs, valB, zeros]; decide
theorem packs_get (s : List UInt8) (i j : Nat) (hj : j < 16) : wat (packs s i) j = valB (((s.take i).drop (4 * j)).take 4) := by
  simp [wat, packs, hj]
theorem packs_succ (s : List UInt8) (i : Nat) (hi : i < 64) (hs : i < s.length) : packs s (i + 1) = (packs s i).set (i / 4) (wat (packs s i) (i / 4) * 256 + (s[i].toNat : Int)) := by
  refine wat_ext (by simp [packs_length]) fun j hj => ?_
  rw [packs_length] at hj
  rw [packs_get _ _ _ hj]
  have ht : s.take (i + 1) = s.take i ++ [s[i]] := by rw [List.take_succ_eq_append_getElem hs]
  have hlt : (s.take i).length = i := by simp; omega
  by_cases hji : j = i / 4
  · subst hji
    have : wat ((packs s i).set (i / 4) (wat (packs s i) (i / 4) * 256 + (s[i].toNat : Int))) (i / 4) = wat (packs s i) (i / 4) * 256 + (s[i].toNat : Int) := by
      unfold wat
      rw [List.getD_eq_getElem?_getD, List.getElem?_set_self (by rw [packs_length]; omega)]
      rfl
    rw [this, packs_get _ _ _ hj, ← valB_snoc]
    congr 1
    rw [ht, List.drop_append_of_le_length (by rw [hlt]; omega), List.take_of_length_le (l := List.drop (4 * (i / 4)) (List.take i s) ++ [s[i]]) (by simp; omega), List.take_of_length_le (l := List.drop (4 * (i / 4)) (List.take i s)) (by simp; omega)]
  · have : wat ((packs s i).set (i / 4) (wat (packs s i) (i / 4) * 256 + (s[i].toNat : Int))) j = wat (packs s i) j := by
      unfold wat
      rw [List.getD_eq_getElem?_getD, List.getElem?_set_ne (by omega), ← List.getD_eq_getElem?_getD]
    rw [this, packs_get _ _ _ hj]
    congr 1
    rw [ht]
    rcases Nat.lt_or_ge j (i / 4) with h | h
    · rw [List.drop_append_of_le_length (by rw [hlt]; omega), List.take_append_of_le_length (by simp; omega)]
    · rw [List.drop_of_length_le (by simp; omega), List.drop_of_length_le (by simp; omega)]
theorem packs_bound (s : List UInt8) (i : Nat) (hi : i < 64) : 0 ≤ wat (packs s i) (i / 4) ∧ wat (packs s i) (i / 4) < 16777216 := by
  rw [packs_get _ _ _ (by omega)]
  have hb := valB_bound (((s.take i).drop (4 * (i / 4))).take 4)
  have hl : (((s.take i).drop (4 * (i / 4))).take 4).length ≤ 3 := by simp; omega
  generalize (((s.take i).drop (4 * (i / 4))).take 4).length = n at hb hl
  have h4 : n = 0 ∨ n = 1 ∨ n = 2 ∨ n = 3 := by omega
  rcases h4 with rfl | rfl | rfl | rfl <;> simp at hb <;> omega
/-- A block's words. -/
def blockOf (s : List UInt8) : List Int := packs s 64
theorem blockOf_length (s : List UInt8) : (blockOf s).length = 16 := packs_length s 64
theorem blockOf_append (s t : List UInt8) (h : 64 ≤ s.length) : blockOf (s ++ t) = blockOf s := by
  unfold blockOf packs
  rw [List.take_append_of_le_length h]

/-- The state behind k blocks. -/
def absorb (st : List Int) (s : List UInt8) : Nat → List Int
  | 0 => st
  | k + 1 => step (absorb st s k) (blockOf (s.drop (64 * k)))
theorem absorb_length (st : List Int) (s : List UInt8) (h : st.length = 8) (k : Nat) : (absorb st s k).length = 8 := by
  induction k with
  | zero => exact h
  | succ k ih => rw [absorb, step_length, ih]
theorem absorb_append (st : List Int) (s t : List UInt8) (k : Nat) (h : 64 * k ≤ s.length) : absorb st (s ++ t) k = absorb st s k := by
  induction k with
  | zero => rfl
  | succ k ih =>
    rw [absorb, absorb, ih (by omega), List.drop_append_of_le_length (by omega), blockOf_append _ _ (by simp; omega)]
theorem absorb_add (st : List Int) (s : List UInt8) (k m : Nat) : absorb st s (k + m) = absorb (absorb st s k) (s.drop (64 * k)) m := by
  induction m with
  | zero => rfl
  | succ m ih =>
    rw [← Nat.add_assoc, absorb, ih, absorb, List.drop_drop, Nat.mul_add]
/-- The state behind all whole blocks, and what is left. -/
def whole (st : List Int) (s : List UInt8) : List Int := absorb st s (s.length / 64)
def left (s : List UInt8) : List UInt8 := s.drop (64 * (s.length / 64))
theorem left_length (s : List UInt8) : (left s).length = s.length % 64 := by simp [left]; omega
theorem whole_length (st : List Int) (s : List UInt8) (h : st.length = 8) : (whole st s).length = 8 := absorb_length st s h _
/-- What is left goes on with what follows. -/
theorem whole_append (st : List Int) (s t : List UInt8) : whole (whole st s) (left s ++ t) = whole st (s ++ t) := by
  unfold whole left
  have h1 : (s ++ t).drop (64 * (s.length / 64)) = s.drop (64 * (s.length / 64)) ++ t := List.drop_append_of_le_length (by omega)
  have h2 : (s ++ t).length / 64 = s.length / 64 + (s.drop (64 * (s.length / 64)) ++ t).length / 64 := by simp only [List.length_append, List.length_drop]; omega
  rw [h2, absorb_add, h1, absorb_append st s t _ (by omega)]
theorem left_append (s t : List UInt8) : left (left s ++ t) = left (s ++ t) := by
  unfold left
  have h1 : s.drop (64 * (s.length / 64)) ++ t = (s ++ t).drop (64 * (s.length / 64)) := (List.drop_append_of_le_length (by omega)).symm
  rw [h1, List.drop_drop]
  congr 1
  simp
  omega

/-- A number's i-th byte of eight. -/
def len8 (n : Int) : List UInt8 := (List.range 8).map fun i => UInt8.ofNat ((n * 8 % 18446744073709551616) / 2 ^ (8 * (7 - i)) % 256).toNat
def padded (s : List UInt8) : List UInt8 := s ++ [128] ++ List.replicate ((119 - s.length % 64) % 64) 0 ++ len8 s.length
theorem padded_length (s : List UInt8) : (padded s).length % 64 = 0 := by simp [padded, len8]; omega
/-- The bytes of a state. -/
def outB (st : List Int) : List UInt8 := (List.range 32).map fun i => UInt8.ofNat ((wat st (i / 4)) / 2 ^ (24 - 8 * (i % 4)) % 256).toNat
theorem outB_length (st : List Int) : (outB st).length = 32 := by simp [outB]
/-- The hash of a text. -/
def shaOf (s : List UInt8) : List UInt8 := outB (whole start (padded s))
theorem shaOf_length (s : List UInt8) : (shaOf s).length = 32 := outB_length _
end Go.Proofs.YtcgnjdkennkheaaGreatDoor
