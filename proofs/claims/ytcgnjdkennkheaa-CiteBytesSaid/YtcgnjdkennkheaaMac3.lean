/-
  The walks of (*mac.Maker).Right and Name; mac.Of and mac.Right.
-/
import Derived.Test.YtcgnjdkennkheaaMac2
set_option linter.unusedVariables false
set_option maxRecDepth 100000
set_option linter.unusedSimpArgs false
namespace Go.Proofs.Ytcgnjdkennkheaa
open Go.RowKit
attribute [local go_sem] bs_size bs_toList2 bs_append bs_extract_end bs_extract_begin bs_get wrap64_b grow_cell grow_frozen

theorem unlike_bool (a b : List UInt8) (ha : a.length = 32) (hb : b.length = 32) : (((unlikeB a b 32).toNat : Int) == 0) = decide (b = a) := by
  rw [← unlikeB_eq a b ha hb, Bool.eq_iff_iff, beq_iff_eq, decide_eq_true_eq]
  constructor
  · intro h
    apply UInt8.toNat_inj.1
    have : (unlikeB a b 32).toNat = 0 := by omega
    rw [this]; rfl
  · intro h; rw [h]; rfl

end Go.Proofs.Ytcgnjdkennkheaa
