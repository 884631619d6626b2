/-
  The walk of scriniumref02.Of.
-/
import Derived.Test.YtcgnjdkennkheaaSha8
import Derived.Test.YtcgnjdkennkheaaSha3
set_option linter.unusedVariables false
set_option maxRecDepth 100000
set_option linter.unusedSimpArgs false
namespace Go.Proofs.Ytcgnjdkennkheaa
open Go.RowKit
attribute [local go_sem] bs_size bs_toList2 bs_append bs_extract_end bs_extract_begin bs_get wrap64_b grow_cell grow_frozen c128

theorem c0B : (ByteArray.mk #[0]) = bs [0] := rfl
attribute [local go_sem] c0B
theorem word_add (x : Int) (c : UInt8) (h0 : 0 ≤ x) (h1 : x < 16777216) : (x * 256 + (c.toNat : Int)) % 4294967296 = x * 256 + (c.toNat : Int) := by
  have hc : c.toNat < 256 := c.toNat_lt
  omega
def padN (n : Nat) : Nat := (119 - n % 64) % 64
def midB (s : List UInt8) (j : Nat) : List UInt8 := s ++ 128 :: List.replicate j 0
theorem midB_succ (s : List UInt8) (j : Nat) : midB s (j + 1) = midB s j ++ [0] := by
  unfold midB
  rw [List.replicate_succ', List.append_assoc]
  rfl
theorem midB_length (s : List UInt8) (j : Nat) : (midB s j).length = s.length + 1 + j := by simp [midB]; omega
theorem padded_mid (s : List UInt8) : padded s = midB s (padN s.length) ++ len8 s.length := by
  unfold padded midB padN
  simp

end Go.Proofs.Ytcgnjdkennkheaa
