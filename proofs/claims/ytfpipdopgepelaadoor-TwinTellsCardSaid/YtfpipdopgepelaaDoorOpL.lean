/-
  Arguments opened: slices of hashes.
-/
import Derived.Test.YtfpipdopgepelaaDoorLeaf2
set_option linter.unusedVariables false
set_option maxRecDepth 100000
set_option linter.unusedSimpArgs false
namespace Go.Proofs.YtfpipdopgepelaaDoor
open Go.ChangeShapes Go.WideShapes Go.ChangeAt Go.RowKit
section
variable {H : Type} {enc : TypeId × Value → H} {W : World} {base : Nat} {v : Value}
theorem op_sls (hv : Value.okWide Tryd.prog W .any base 25 v) (h : Tr enc W 25 v.cells.toList) : ∃ l, SlS W W.heap.size v l ∧ AllH l := by
  have hk : Tryd.prog.cellsOf 23 = 32 := by kernel_rfl
  obtain ⟨A, cap, l, rfl, hr, hc, hm, hl⟩ := op_sums hv h
  refine ⟨l, ⟨A, cap, rfl, ?_, hc, hm, hr⟩, hl⟩
  by_cases hl0 : l = []
  · subst hl0
    by_cases hc0 : cap = 0
    · subst hc0
      refine .inl ⟨?_, rfl, rfl⟩
      cases A with
      | none => exact .inl rfl
      | some a => exact .inr ⟨a, rfl⟩
    · obtain ⟨n, x, hn⟩ := h
      rcases Go.Deep.open_slice Tryd.underlying25 hn with ⟨h1, _⟩ | ⟨a, len, cap', m, n', D, Pl, h1, _, hlc, hcm, hmm, _, hall⟩
      · simp only [Value.cells, List.cons.injEq, Value.slice.injEq, and_true] at h1
        exact absurd h1.2.2 hc0
      · simp only [Value.cells, List.cons.injEq, Value.slice.injEq, and_true] at h1
        obtain ⟨rfl, rfl, rfl⟩ := h1
        refine .inr ?_
        have hm0 : m = cap := by simpa using hmm
        obtain ⟨cs', hcs, _⟩ := hall 0 (by omega)
        obtain ⟨_, hl', hat⟩ := World.cells?_some hcs
        have h2 := hat 0 (by rw [hk]; omega)
        rw [Nat.zero_mul, Go.Deep.add_add, Nat.add_zero, List.getElem?_eq_getElem (by rw [hl', hk]; omega)] at h2
        obtain ⟨b, off, spot⟩ := a
        have hspot : spot = none := by simpa [Addr.add] using World.cell?_spot h2
        subst hspot
        exact ⟨b, off, rfl⟩
  · obtain ⟨b, off, rfl, _, _⟩ := hr (by
      intro e
      have := flatS_length l hl
      rw [e] at this
      exact hl0 (List.eq_nil_of_length_eq_zero (by simp at this; omega)))
    exact .inr ⟨b, off, rfl⟩
end

end Go.Proofs.YtfpipdopgepelaaDoor
