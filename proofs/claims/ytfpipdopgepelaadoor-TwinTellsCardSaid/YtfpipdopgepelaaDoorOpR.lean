/-
  Arguments opened: pairs of lists of hashes; two rows with a flag; a claim.
-/
import Derived.Test.YtfpipdopgepelaaDoorOpP
import Derived.Test.YtfpipdopgepelaaDoorOpQ
set_option linter.unusedVariables false
set_option maxRecDepth 100000
set_option linter.unusedSimpArgs false
namespace Go.Proofs.YtfpipdopgepelaaDoor
open Go.ChangeShapes Go.WideShapes Go.ChangeAt Go.RowKit
section
variable {H : Type} {enc : TypeId × Value → H} {W : World} {base : Nat} {v : Value}
theorem op_sls2 (hv : Value.okWide Tryd.prog W .any base 42 v) (h : Tr enc W 42 v.cells.toList) : ∃ (c1 c2 : Value) (l1 l2 : List (List UInt8)), v = .agg #[c1, c2] ∧ SlS W W.heap.size c1 l1 ∧ AllH l1 ∧ SlS W W.heap.size c2 l2 ∧ AllH l2 := by
  have hk : Tryd.prog.cellsOf 25 = 1 := by kernel_rfl
  have hk2 : Tryd.prog.cellsOf 42 = 2 := by kernel_rfl
  obtain ⟨hl, hel⟩ := tr_array Tryd.underlying42 h
  rw [hk] at hel
  rw [hk2] at hl
  obtain ⟨cs, rfl, hs⟩ := okWide_arr Tryd.underlying42 hv
  obtain ⟨cs⟩ := cs
  match cs, hl with
  | [x, y], _ =>
    obtain ⟨l1, h1, n1⟩ := tr_sls (hel 0 (by omega))
    obtain ⟨l2, h2, n2⟩ := tr_sls (hel 1 (by omega))
    exact ⟨x, y, l1, l2, rfl, h1, n1, h2, n2⟩
theorem okWide_rows (h : Value.okWide Tryd.prog W .any base 55 v) : ∃ cs, v = .agg cs := by
  have hu : Tryd.prog.underlying 55 = _ := Tryd.underlying55
  simp only [Value.okWide, hu] at h
  obtain ⟨cs, h1, _⟩ := h
  exact ⟨cs, h1⟩
theorem op_rows (hv : Value.okWide Tryd.prog W .any base 55 v) (h : Tr enc W 55 v.cells.toList) : ∃ (c1 c2 : Value) (l1 l2 : List (List UInt8)) (one : Bool), v = .agg #[c1, c2, .bool one] ∧ SlS W W.heap.size c1 l1 ∧ AllH l1 ∧ SlS W W.heap.size c2 l2 ∧ AllH l2 := by
  have hk : Tryd.prog.cellsOf 55 = 3 := by kernel_rfl
  have hkb : Tryd.prog.cellsOf 4 = 1 := by kernel_rfl
  have hks : Tryd.prog.cellsOf 25 = 1 := by kernel_rfl
  obtain ⟨cs, rfl⟩ := okWide_rows hv
  obtain ⟨cs⟩ := cs
  obtain ⟨hl, hf⟩ := tr_struct Tryd.underlying55 h
  rw [hk] at hl
  match cs, hl with
  | [a, b, c], _ =>
    have h0 : Tr enc W 25 (([a, b, c].drop 0).take (Tryd.prog.cellsOf 25)) := hf 0 _ rfl
    have h1 : Tr enc W 25 (([a, b, c].drop 1).take (Tryd.prog.cellsOf 25)) := hf 1 _ rfl
    have h2 : Tr enc W 4 (([a, b, c].drop 2).take (Tryd.prog.cellsOf 4)) := hf 2 _ rfl
    rw [hks] at h0 h1
    rw [hkb] at h2
    simp only [List.drop_zero, List.drop_succ_cons, List.take_succ_cons, List.take_zero] at h0 h1 h2
    obtain ⟨l1, s1, n1⟩ := tr_sls h0
    obtain ⟨l2, s2, n2⟩ := tr_sls h1
    obtain ⟨o, e2⟩ := tr_bool Tryd.underlying4 h2
    injection e2 with e2
    exact ⟨a, b, l1, l2, o, by rw [e2], s1, n1, s2, n2⟩
theorem okWide_claim (h : Value.okWide Tryd.prog W .any base 62 v) : ∃ cs, v = .agg cs := by
  have hu : Tryd.prog.underlying 62 = _ := Tryd.underlying62
  simp only [Value.okWide, hu] at h
  obtain ⟨cs, h1, _⟩ := h
  exact ⟨cs, h1⟩
theorem op_claim (hv : Value.okWide Tryd.prog W .any base 62 v) (h : Tr enc W 62 v.cells.toList) : ∃ (a : List UInt8) (c : Value) (l : List (List UInt8)), v = .agg (hcells a ++ [c]).toArray ∧ a.length = 32 ∧ SlS W W.heap.size c l ∧ AllH l := by
  have hk : Tryd.prog.cellsOf 62 = 33 := by kernel_rfl
  have hkb : Tryd.prog.cellsOf 23 = 32 := by kernel_rfl
  have hks : Tryd.prog.cellsOf 25 = 1 := by kernel_rfl
  obtain ⟨cs, rfl⟩ := okWide_claim hv
  obtain ⟨hl, hf⟩ := tr_struct Tryd.underlying62 h
  rw [hk] at hl
  obtain ⟨cs⟩ := cs
  simp only [Value.cells] at hl hf
  have h0 : Tr enc W 23 ((cs.drop 0).take (Tryd.prog.cellsOf 23)) := hf 0 _ rfl
  have h1 : Tr enc W 25 ((cs.drop (0 + Tryd.prog.cellsOf 23)).take (Tryd.prog.cellsOf 25)) := hf 1 _ rfl
  rw [hkb] at h0 h1
  rw [hks] at h1
  rw [List.drop_zero] at h0
  rw [Nat.zero_add] at h1
  have hd : (cs.drop 32).length = 1 := by rw [List.length_drop]; omega
  obtain ⟨c, hc⟩ := List.length_eq_one_iff.1 hd
  rw [hc] at h1
  obtain ⟨a, hw, ha⟩ := tr_sum h0
  obtain ⟨l, hS, hA⟩ := tr_sls h1
  refine ⟨a, c, l, ?_, ?_, hS, hA⟩
  · have := List.take_append_drop 32 cs
    rw [hc] at this
    rw [← this, hw]
  · exact ha
end

end Go.Proofs.YtfpipdopgepelaaDoor
