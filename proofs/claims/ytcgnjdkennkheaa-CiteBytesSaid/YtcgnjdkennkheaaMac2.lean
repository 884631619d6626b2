/-
  The walks of (*mac.Maker).Sum, Right, Name; mac.Of and mac.Right.
-/
import Derived.Test.YtcgnjdkennkheaaMac
import Derived.Test.YtcgnjdkennkheaaUpd
set_option linter.unusedVariables false
set_option maxRecDepth 100000
set_option linter.unusedSimpArgs false
namespace Go.Proofs.Ytcgnjdkennkheaa
open Go.RowKit
attribute [local go_sem] bs_size bs_toList2 bs_append bs_extract_end bs_extract_begin bs_get wrap64_b grow_cell grow_frozen

end Go.Proofs.Ytcgnjdkennkheaa
