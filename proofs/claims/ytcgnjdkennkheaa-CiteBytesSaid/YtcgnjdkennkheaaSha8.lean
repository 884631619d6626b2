/-
  The walks of (*sha.Hash).Len, Copy and sha.Of.
-/
import Derived.Test.YtcgnjdkennkheaaSha7
set_option linter.unusedVariables false
set_option maxRecDepth 100000
set_option linter.unusedSimpArgs false
namespace Go.Proofs.Ytcgnjdkennkheaa
open Go.RowKit
attribute [local go_sem] bs_size bs_toList2 bs_append bs_extract_end bs_extract_begin bs_get wrap64_b grow_cell grow_frozen

/-- The texts, one behind the other. -/
def joinB (l : List (List UInt8)) : List UInt8 := l.flatten
theorem joinB_take (l : List (List UInt8)) (k : Nat) (h : k < l.length) : joinB (l.take (k + 1)) = joinB (l.take k) ++ l[k] := by
  unfold joinB
  rw [List.take_succ_eq_append_getElem h, List.flatten_append]
  simp
theorem joinB_le (l : List (List UInt8)) (k : Nat) : (joinB (l.take k)).length ≤ (joinB l).length := by
  unfold joinB
  conv => rhs; rw [← List.take_append_drop k l, List.flatten_append, List.length_append]
  omega

end Go.Proofs.Ytcgnjdkennkheaa
