/-
  The walk of leaf.above.
-/
import Derived.Test.YtfpipdopgepelaaDoorLeaf2
set_option linter.unusedVariables false
set_option maxRecDepth 100000
set_option linter.unusedSimpArgs false
namespace Go.Proofs.YtfpipdopgepelaaDoor
open Go.RowKit
attribute [local go_sem] bs_size bs_toList2 bs_append bs_extract_end bs_extract_begin bs_get wrap64_b grow_cell grow_frozen

theorem above_take (l : List (List UInt8)) (i : Nat) (h : 2 * i + 1 < l.length) : Tree.above nodeB (l.take (2 * (i + 1))) = Tree.above nodeB (l.take (2 * i)) ++ [nodeB l[2 * i] l[2 * i + 1]] := by
  rw [Tree.above_pairs nodeB [] l i h, List.getElem?_eq_getElem (show 2 * i < l.length by omega), List.getElem?_eq_getElem h]
  rfl
theorem above_take_length (l : List (List UInt8)) (i : Nat) (h : 2 * i ≤ l.length) : (Tree.above nodeB (l.take (2 * i))).length = i := by
  rw [Tree.above_length]
  simp
  omega

end Go.Proofs.YtfpipdopgepelaaDoor
