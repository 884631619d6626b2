/-
  The walk of (*sha.Hash).Sum of a new one.
-/
import Derived.Test.YtcgnjdkennkheaaSha6
set_option linter.unusedVariables false
set_option maxRecDepth 100000
set_option linter.unusedSimpArgs false
namespace Go.Proofs.Ytcgnjdkennkheaa
open Go.RowKit
attribute [local go_sem] bs_size bs_toList2 bs_append bs_extract_end bs_extract_begin bs_get wrap64_b grow_cell grow_frozen c128
theorem zset {w : World} {g : Nat} {t : TypeId} {n : Nat} (h : ArrB w g t (zerosB n)) (i : Nat) : ArrB (w.setCell ⟨g, i, none⟩ (.int .u8 0)) g t (zerosB n) := by
  have := h.set i 0
  rw [show (zerosB n).set i 0 = zerosB n from by
    apply List.ext_getElem?
    intro j
    by_cases hj : i = j
    · subst hj
      by_cases hi : i < n
      · rw [List.getElem?_set_self (by simpa [zerosB] using hi)]; simp [zerosB, hi]
      · rw [List.getElem?_eq_none (by simp [zerosB]; omega), List.getElem?_eq_none (by simp [zerosB]; omega)]
    · rw [List.getElem?_set_ne hj]] at this
  exact this
theorem zcell {w : World} {g : Nat} {t : TypeId} {n : Nat} (h : ArrB w g t (zerosB n)) (i : Nat) (hi : i < n) : w.cell? ⟨g, i, none⟩ = some (.int .u8 0) := by
  rw [h.cell i (by simpa [zerosB] using hi)]
  unfold zerosB
  rw [List.getElem_replicate]
  rfl
theorem cnil : (ByteArray.mk #[]) = bs [] := rfl
end Go.Proofs.Ytcgnjdkennkheaa
