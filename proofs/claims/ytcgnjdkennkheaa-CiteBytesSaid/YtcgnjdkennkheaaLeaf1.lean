/-
  The walks of leaf.Leaf, Preimage, Node, Empty, and of the document's.
-/
import Derived.Test.YtcgnjdkennkheaaLeafP
import Derived.Test.YtcgnjdkennkheaaHex
set_option linter.unusedVariables false
set_option maxRecDepth 100000
set_option linter.unusedSimpArgs false
namespace Go.Proofs.Ytcgnjdkennkheaa
open Go.RowKit
theorem c0T : (ByteArray.mk #[0]) = bs [0] := rfl
theorem c1T : (ByteArray.mk #[1]) = bs [1] := rfl
attribute [local go_sem] bs_size bs_toList2 bs_append bs_extract_end bs_extract_begin bs_get wrap64_b grow_cell grow_frozen

end Go.Proofs.Ytcgnjdkennkheaa
