/-
  The package's table of keys (scrinium/sha.keys), as the row lists it.
-/
import Derived.Test.YtcgnjdkennkheaaOpen
import Derived.OpenShut
import Derived.Deep.DeepHandedRow
import Derived.Lib.LaidTab
set_option linter.unusedVariables false
set_option maxRecDepth 100000
set_option linter.unusedSimpArgs false
namespace Go.Proofs.Ytcgnjdkennkheaa
open Go.ChangeShapes Go.WideShapes Go.ChangeAt Go.RowKit


def keyList : List Int := []
def Keys (W : World) : Prop := True
theorem Keys.ext {W W' : World} (h : Keys W) (hb : Ext W W') : Keys W' := trivial
end Go.Proofs.Ytcgnjdkennkheaa
