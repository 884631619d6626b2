/-
  Arguments opened: pairs of numbers, pairs and threes of hashes, a number with a list of hashes.
-/
import Derived.Test.YtfpipdopgepelaaDoorOpL
set_option linter.unusedVariables false
set_option maxRecDepth 100000
set_option linter.unusedSimpArgs false
namespace Go.Proofs.YtfpipdopgepelaaDoor
open Go.ChangeShapes Go.WideShapes Go.ChangeAt Go.RowKit
section
variable {H : Type} {enc : TypeId × Value → H} {W : World} {base : Nat} {v : Value}
theorem tr_sls {c : Value} (h : Tr enc W 25 [c]) : ∃ l, SlS W W.heap.size c l ∧ AllH l := by
  have hk : Tryd.prog.cellsOf 23 = 32 := by kernel_rfl
  have h' := h
  obtain ⟨A, n, cap, X, hc, hX, hr, hn, hm, hel⟩ := tr_slice Tryd.underlying25 (by rw [hk]; omega) h
  rw [hk] at hX hel
  obtain ⟨l, hl, hq, rfl⟩ := chunks hcells (fun s => s.length = 32) 32 (fun s hs => by rw [hcells_length, hs]) n X hX (fun i hi => by
    obtain ⟨s, hs, hw⟩ := tr_sum (hel i hi)
    exact ⟨s, hw, hs⟩)
  subst hl
  injection hc with hc
  subst hc
  have hq' : AllH l := hq
  refine ⟨l, ⟨A, cap, rfl, ?_, hn, by unfold maxLen at hm; omega, hr⟩, hq'⟩
  by_cases hl0 : l = []
  · subst hl0
    by_cases hc0 : cap = 0
    · subst hc0
      refine .inl ⟨?_, rfl, rfl⟩
      cases A with
      | none => exact .inl rfl
      | some a => exact .inr ⟨a, rfl⟩
    · obtain ⟨n, x, hn⟩ := h'
      rcases Go.Deep.open_slice Tryd.underlying25 hn with ⟨h1, _⟩ | ⟨a, len, cap', m, n', D, Pl, h1, _, hlc, hcm, hmm, _, hall⟩
      · simp only [List.cons.injEq, Value.slice.injEq, and_true] at h1
        exact absurd h1.2.2 hc0
      · simp only [List.cons.injEq, Value.slice.injEq, and_true] at h1
        obtain ⟨rfl, rfl, rfl⟩ := h1
        refine .inr ?_
        have hm0 : m = cap := by simpa using hmm
        obtain ⟨cs', hcs, _⟩ := hall 0 (by omega)
        obtain ⟨_, hl', hat⟩ := World.cells?_some hcs
        have h2 := hat 0 (by rw [hk]; omega)
        rw [Nat.zero_mul, Go.Deep.add_add, Nat.add_zero, List.getElem?_eq_getElem (by rw [hl', hk]; omega)] at h2
        obtain ⟨b, off, spot⟩ := a
        have hspot : spot = none := by simpa [Addr.add] using World.cell?_spot h2
        subst hspot
        exact ⟨b, off, rfl⟩
  · obtain ⟨b, off, rfl, _, _⟩ := hr (by
      intro e
      have := flatS_length l hq'
      rw [show flatS l = l.flatMap hcells from rfl, e] at this
      exact hl0 (List.eq_nil_of_length_eq_zero (by simp at this; omega)))
    exact .inr ⟨b, off, rfl⟩
theorem okWide_rest (h : Value.okWide Tryd.prog W .any base 52 v) : ∃ cs, v = .agg cs := by
  have hu : Tryd.prog.underlying 52 = _ := Tryd.underlying52
  simp only [Value.okWide, hu] at h
  obtain ⟨cs, h1, _⟩ := h
  exact ⟨cs, h1⟩
theorem op_rest (hv : Value.okWide Tryd.prog W .any base 52 v) (h : Tr enc W 52 v.cells.toList) : ∃ (n : Int) (c : Value) (l : List (List UInt8)), v = .agg #[.int .i64 n, c] ∧ (-9223372036854775808 ≤ n ∧ n ≤ 9223372036854775807) ∧ SlS W W.heap.size c l ∧ AllH l := by
  have hk : Tryd.prog.cellsOf 52 = 2 := by kernel_rfl
  have hki : Tryd.prog.cellsOf 3 = 1 := by kernel_rfl
  have hks : Tryd.prog.cellsOf 25 = 1 := by kernel_rfl
  obtain ⟨cs, rfl⟩ := okWide_rest hv
  obtain ⟨cs⟩ := cs
  obtain ⟨hl, hf⟩ := tr_struct Tryd.underlying52 h
  rw [hk] at hl
  match cs, hl with
  | [a, c], _ =>
    have h0 : Tr enc W 3 (([a, c].drop 0).take (Tryd.prog.cellsOf 3)) := hf 0 _ rfl
    have h1 : Tr enc W 25 (([a, c].drop 1).take (Tryd.prog.cellsOf 25)) := hf 1 _ rfl
    rw [hki] at h0
    rw [hks] at h1
    simp only [List.drop_zero, List.drop_succ_cons, List.take_succ_cons, List.take_zero] at h0 h1
    obtain ⟨i0, e0, w0⟩ := tr_int Tryd.underlying3 h0
    injection e0 with e0
    obtain ⟨x0, y0⟩ := bounds_i64 w0
    obtain ⟨l, hS, hA⟩ := tr_sls h1
    exact ⟨i0, c, l, by rw [e0], ⟨x0, y0⟩, hS, hA⟩
end

end Go.Proofs.YtfpipdopgepelaaDoor
