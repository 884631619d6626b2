/-
  The walks of scriniumref03.Pad, xor and Of.
-/
import Derived.Test.YtcgnjdkennkheaaMacP
import Derived.Test.YtcgnjdkennkheaaHex
import Derived.Test.YtcgnjdkennkheaaMix5
set_option linter.unusedVariables false
set_option maxRecDepth 100000
set_option linter.unusedSimpArgs false
namespace Go.Proofs.Ytcgnjdkennkheaa
open Go.RowKit
attribute [local go_sem] bs_size bs_toList2 bs_append bs_extract_end bs_extract_begin bs_get wrap64_b grow_cell grow_frozen

theorem cZr : (ByteArray.mk #[0]) = bs [0] := rfl
theorem zerosB_succ (j : Nat) : zerosB j ++ [0] = zerosB (j + 1) := by unfold zerosB; rw [List.replicate_succ']
end Go.Proofs.Ytcgnjdkennkheaa
