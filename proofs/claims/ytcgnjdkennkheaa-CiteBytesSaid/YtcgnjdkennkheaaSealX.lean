/-
  Reading of layer 16: the document's ReadStone.
-/
import Derived.Test.YtcgnjdkennkheaaSealV
set_option linter.unusedVariables false
set_option maxRecDepth 100000
set_option linter.unusedSimpArgs false
namespace Go.Proofs.Ytcgnjdkennkheaa
open Go.RowKit
open Seal (Fz Hd St)
attribute [local go_sem] bs_size bs_toList2 bs_append bs_extract_end bs_extract_begin bs_get wrap64_b


end Go.Proofs.Ytcgnjdkennkheaa
