/-
  The chapter's examples of leaves, reckoned; at most 20 hashes.
-/
import Derived.Test.YtfpipdopgepelaaDoorBuildS
set_option linter.unusedVariables false
set_option maxRecDepth 100000
set_option linter.unusedSimpArgs false
namespace Go.Proofs.YtfpipdopgepelaaDoor
open Go.RowKit
def hexE : List UInt8 := [101, 51, 98, 48, 99, 52, 52, 50, 57, 56, 102, 99, 49, 99, 49, 52, 57, 97, 102, 98, 102, 52, 99, 56, 57, 57, 54, 102, 98, 57, 50, 52, 50, 55, 97, 101, 52, 49, 101, 52, 54, 52, 57, 98, 57, 51, 52, 99, 97, 52, 57, 53, 57, 57, 49, 98, 55, 56, 53, 50, 98, 56, 53, 53]
def hexL : List UInt8 := [54, 101, 51, 52, 48, 98, 57, 99, 102, 102, 98, 51, 55, 97, 57, 56, 57, 99, 97, 53, 52, 52, 101, 54, 98, 98, 55, 56, 48, 97, 50, 99, 55, 56, 57, 48, 49, 100, 51, 102, 98, 51, 51, 55, 51, 56, 55, 54, 56, 53, 49, 49, 97, 51, 48, 54, 49, 55, 97, 102, 97, 48, 49, 100]
def hexR : List UInt8 := [51, 54, 54, 52, 50, 101, 55, 51, 99, 50, 53, 52, 48, 97, 98, 49, 50, 49, 101, 51, 97, 54, 98, 102, 57, 53, 52, 53, 98, 48, 97, 50, 52, 57, 56, 50, 99, 100, 56, 51, 48, 101, 98, 49, 51, 100, 51, 99, 100, 49, 57, 100, 101, 51, 99, 101, 54, 99, 48, 50, 49, 101, 99, 49]
def abcT : List (List UInt8) := [leafB [97], leafB [98], leafB [99]]
theorem hex_e : hexOf emptyB = hexE := by decide +kernel
theorem hex_l : hexOf (leafB []) = hexL := by decide +kernel
theorem root_abc : rootS abcT = nodeB (nodeB (leafB [97]) (leafB [98])) (leafB [99]) := rfl
theorem hex_r : hexOf (rootS abcT) = hexR := by decide +kernel
theorem cHE : (ByteArray.mk #[101, 51, 98, 48, 99, 52, 52, 50, 57, 56, 102, 99, 49, 99, 49, 52, 57, 97, 102, 98, 102, 52, 99, 56, 57, 57, 54, 102, 98, 57, 50, 52, 50, 55, 97, 101, 52, 49, 101, 52, 54, 52, 57, 98, 57, 51, 52, 99, 97, 52, 57, 53, 57, 57, 49, 98, 55, 56, 53, 50, 98, 56, 53, 53]) = bs hexE := rfl
theorem cHL : (ByteArray.mk #[54, 101, 51, 52, 48, 98, 57, 99, 102, 102, 98, 51, 55, 97, 57, 56, 57, 99, 97, 53, 52, 52, 101, 54, 98, 98, 55, 56, 48, 97, 50, 99, 55, 56, 57, 48, 49, 100, 51, 102, 98, 51, 51, 55, 51, 56, 55, 54, 56, 53, 49, 49, 97, 51, 48, 54, 49, 55, 97, 102, 97, 48, 49, 100]) = bs hexL := rfl
theorem cHR : (ByteArray.mk #[51, 54, 54, 52, 50, 101, 55, 51, 99, 50, 53, 52, 48, 97, 98, 49, 50, 49, 101, 51, 97, 54, 98, 102, 57, 53, 52, 53, 98, 48, 97, 50, 52, 57, 56, 50, 99, 100, 56, 51, 48, 101, 98, 49, 51, 100, 51, 99, 100, 49, 57, 100, 101, 51, 99, 101, 54, 99, 48, 50, 49, 101, 99, 49]) = bs hexR := rfl
theorem abcT_all : AllH abcT := AllH.cons (leafB_length _) (AllH.cons (leafB_length _) (AllH.cons (leafB_length _) AllH.nil))
attribute [local go_sem] bs_size bs_toList2 bs_append bs_extract_end bs_extract_begin bs_get wrap64_b grow_cell grow_frozen cHE cHL cHR

end Go.Proofs.YtfpipdopgepelaaDoor
