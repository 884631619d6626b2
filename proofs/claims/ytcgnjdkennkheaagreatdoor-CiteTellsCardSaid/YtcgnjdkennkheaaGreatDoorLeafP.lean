/-
  Plain: the hashes of leaves and nodes, rows and roots of hashes.
-/
import Derived.Test.YtcgnjdkennkheaaGreatDoorSums
import Derived.Test.YtcgnjdkennkheaaGreatDoorTree
set_option linter.unusedVariables false
set_option maxRecDepth 100000
set_option linter.unusedSimpArgs false
namespace Go.Proofs.YtcgnjdkennkheaaGreatDoor
open Go.RowKit

def leafB (d : List UInt8) : List UInt8 := shaOf (0 :: d)
def preB (a b : List UInt8) : List UInt8 := 1 :: (a ++ b)
def nodeB (a b : List UInt8) : List UInt8 := shaOf (preB a b)
def emptyB : List UInt8 := shaOf []
theorem leafB_length (d : List UInt8) : (leafB d).length = 32 := shaOf_length _
theorem nodeB_length (a b : List UInt8) : (nodeB a b).length = 32 := shaOf_length _
theorem emptyB_length : emptyB.length = 32 := shaOf_length _
theorem preB_length (a b : List UInt8) : (preB a b).length = 1 + a.length + b.length := by simp [preB]; omega
theorem above_all : ∀ (l : List (List UInt8)), AllH l → AllH (Tree.above nodeB l)
  | [], h => h
  | [x], h => h
  | x :: y :: r, h => AllH.cons (nodeB_length _ _) (above_all r h.tail.tail)
theorem row_all (l : List (List UInt8)) (h : AllH l) : ∀ k, AllH (Tree.row nodeB l k)
  | 0 => h
  | k + 1 => above_all _ (row_all l h k)
abbrev rootS (l : List (List UInt8)) : List UInt8 := Tree.rootR nodeB emptyB l
theorem rootF_length : ∀ (f : Nat) (l : List (List UInt8)), AllH l → (Tree.rootF nodeB emptyB f l).length = 32
  | 0, _, _ => emptyB_length
  | f + 1, [], _ => emptyB_length
  | f + 1, [x], h => h x (by simp)
  | f + 1, x :: y :: r, h => nodeB_length _ _
theorem rootS_length (l : List (List UInt8)) (h : AllH l) : (rootS l).length = 32 := rootF_length _ l h

end Go.Proofs.YtcgnjdkennkheaaGreatDoor
