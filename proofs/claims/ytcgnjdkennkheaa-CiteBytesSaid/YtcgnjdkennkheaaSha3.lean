/-
  The walk of scriniumref02.Step.
-/
import Derived.Test.YtcgnjdkennkheaaShaL
set_option linter.unusedVariables false
set_option maxRecDepth 100000
set_option linter.unusedSimpArgs false
namespace Go.Proofs.Ytcgnjdkennkheaa
open Go.RowKit
attribute [local go_sem] bs_size bs_toList2 bs_append bs_extract_end bs_extract_begin bs_get wrap64_b grow_cell grow_frozen

theorem Blk.cast {w : World} {g : Nat} {t : TypeId} {cs cs' : Array Value} (h : Blk w g t cs) (e : cs = cs') : Blk w g t cs' := e ▸ h
end Go.Proofs.Ytcgnjdkennkheaa
