/-
  Plain laws: a text of at most 55 bytes is one block, one of 64 to 119 bytes is two.
-/
import Derived.Test.YtgofnkpegfkonaaDoorSha9
set_option linter.unusedVariables false
set_option linter.unusedSimpArgs false
namespace Go.Proofs.YtgofnkpegfkonaaDoor
open Go.RowKit

def tailB (n m : Nat) : List UInt8 := 128 :: (List.replicate ((119 - m % 64) % 64) 0 ++ len8 (m : Int))
def lenHi (m : Nat) : UInt8 := UInt8.ofNat (((8 * m : Nat) : Int) / 256 % 256).toNat
def lenLo (m : Nat) : UInt8 := UInt8.ofNat (((8 * m : Nat) : Int) % 256).toNat
theorem tail_one : ∀ n, n < 56 → (((zerosB (64 - n)).set 0 128).set (62 - n) (lenHi n)).set (63 - n) (lenLo n) = tailB n n := by decide +kernel
theorem tail_two : ∀ n, n < 56 → (((zerosB (64 - n)).set 0 128).set (62 - n) (lenHi (64 + n))).set (63 - n) (lenLo (64 + n)) = tailB n (64 + n) := by decide +kernel
theorem padded_tail (s : List UInt8) (n : Nat) : padded s = s ++ tailB n s.length := by simp [padded, tailB]
theorem set_app (s t : List UInt8) (k : Nat) (c : UInt8) : (s ++ t).set (s.length + k) c = s ++ t.set k c := by
  rw [List.set_append_right _ _ (by omega)]
  congr 2
  omega
/-- The array behind the copying: the text, then zeros. -/
def laidB (s : List UInt8) : List UInt8 := s ++ zerosB (64 - s.length % 64)
theorem laid_one (s : List UInt8) (h : s.length ≤ 55) : (((laidB s).set s.length 128).set 62 (lenHi s.length)).set 63 (lenLo s.length) = padded s := by
  have ht := tail_one s.length (by omega)
  have hm : s.length % 64 = s.length := Nat.mod_eq_of_lt (by omega)
  unfold laidB
  rw [hm]
  have e0 := set_app s (zerosB (64 - s.length)) 0 128
  rw [Nat.add_zero] at e0
  have e1 := set_app s ((zerosB (64 - s.length)).set 0 128) (62 - s.length) (lenHi s.length)
  rw [show s.length + (62 - s.length) = 62 by omega] at e1
  have e2 := set_app s (((zerosB (64 - s.length)).set 0 128).set (62 - s.length) (lenHi s.length)) (63 - s.length) (lenLo s.length)
  rw [show s.length + (63 - s.length) = 63 by omega] at e2
  rw [e0, e1, e2, ht, padded_tail s s.length]
theorem laid_two (s : List UInt8) (h : 64 ≤ s.length) (h' : s.length ≤ 119) : (((laidB s).set s.length 128).set 126 (lenHi s.length)).set 127 (lenLo s.length) = padded s := by
  have ht := tail_two (s.length - 64) (by omega)
  have hm : s.length % 64 = s.length - 64 := by omega
  unfold laidB
  rw [hm]
  rw [show 64 + (s.length - 64) = s.length by omega] at ht
  have e0 := set_app s (zerosB (64 - (s.length - 64))) 0 128
  rw [Nat.add_zero] at e0
  have e1 := set_app s ((zerosB (64 - (s.length - 64))).set 0 128) (62 - (s.length - 64)) (lenHi s.length)
  rw [show s.length + (62 - (s.length - 64)) = 126 by omega] at e1
  have e2 := set_app s (((zerosB (64 - (s.length - 64))).set 0 128).set (62 - (s.length - 64)) (lenHi s.length)) (63 - (s.length - 64)) (lenLo s.length)
  rw [show s.length + (63 - (s.length - 64)) = 127 by omega] at e2
  rw [e0, e1, e2, ht, padded_tail s (s.length - 64)]
theorem padded_one (s : List UInt8) (h : s.length ≤ 55) : (padded s).length = 64 := by simp [padded, len8]; omega
theorem padded_two (s : List UInt8) (h : 64 ≤ s.length) (h' : s.length ≤ 119) : (padded s).length = 128 := by simp [padded, len8]; omega
theorem sha_one (s : List UInt8) (h : s.length ≤ 55) : shaOf s = outB (step start (blockOf (padded s))) := by
  unfold shaOf whole
  rw [padded_one s h]
  rfl
theorem sha_two (s : List UInt8) (h : 64 ≤ s.length) (h' : s.length ≤ 119) : shaOf s = outB (absorb start (padded s) 2) := by
  unfold shaOf whole
  rw [padded_two s h h']
theorem laidB_length (s : List UInt8) : (laidB s).length = s.length + (64 - s.length % 64) := by simp [laidB, zerosB]
theorem laidB_get (s : List UInt8) (i : Nat) (h : i < s.length) (h' : i < (laidB s).length) : (laidB s)[i] = s[i] := by simp [laidB, h]
theorem fill_laid (s : List UInt8) : fillB (laidB s) s.length = laidB s := by
  unfold fillB laidB
  simp [zerosB]

end Go.Proofs.YtgofnkpegfkonaaDoor
