/-
  Arguments opened: pairs of numbers, pairs and threes of hashes.
-/
import Derived.Test.YtfpipdopgepelaaDoorOpL
set_option linter.unusedVariables false
set_option maxRecDepth 100000
set_option linter.unusedSimpArgs false
namespace Go.Proofs.YtfpipdopgepelaaDoor
open Go.ChangeShapes Go.WideShapes Go.ChangeAt Go.RowKit
section
variable {H : Type} {enc : TypeId × Value → H} {W : World} {base : Nat} {v : Value}
theorem op_i2 (hv : Value.okWide Tryd.prog W .any base 24 v) (h : Tr enc W 24 v.cells.toList) : ∃ a b : Int, v = .agg #[.int .i64 a, .int .i64 b] ∧ (-9223372036854775808 ≤ a ∧ a ≤ 9223372036854775807) ∧ (-9223372036854775808 ≤ b ∧ b ≤ 9223372036854775807) := by
  have hk : Tryd.prog.cellsOf 3 = 1 := by kernel_rfl
  have hk2 : Tryd.prog.cellsOf 24 = 2 := by kernel_rfl
  obtain ⟨hl, hel⟩ := tr_array Tryd.underlying24 h
  rw [hk] at hel
  rw [hk2] at hl
  obtain ⟨cs, rfl, hs⟩ := okWide_arr Tryd.underlying24 hv
  obtain ⟨cs⟩ := cs
  match cs, hl with
  | [x, y], _ =>
    obtain ⟨l1, h1, n1⟩ := tr_int Tryd.underlying3 (hel 0 (by omega))
    obtain ⟨l2, h2, n2⟩ := tr_int Tryd.underlying3 (hel 1 (by omega))
    obtain ⟨x0, y0⟩ := bounds_i64 n1
    obtain ⟨x1, y1⟩ := bounds_i64 n2
    simp [Value.cells] at h1 h2
    subst h1 h2
    exact ⟨l1, l2, rfl, ⟨x0, y0⟩, ⟨x1, y1⟩⟩
theorem agg_of' {cs : Array Value} {l : List Value} (h : (Value.agg cs).cells.toList = l) : Value.agg cs = .agg l.toArray := by
  simp only [Value.cells] at h
  rw [← h]
theorem op_sum2 (hv : Value.okWide Tryd.prog W .any base 41 v) (h : Tr enc W 41 v.cells.toList) : ∃ a b : List UInt8, v = .agg (flatS [a, b]).toArray ∧ a.length = 32 ∧ b.length = 32 := by
  have hk : Tryd.prog.cellsOf 23 = 32 := by kernel_rfl
  have hk2 : Tryd.prog.cellsOf 41 = 64 := by kernel_rfl
  obtain ⟨hl, hel⟩ := tr_array Tryd.underlying41 h
  rw [hk] at hel
  rw [hk2] at hl
  obtain ⟨l, hln, hq, he⟩ := chunks hcells (fun s => s.length = 32) 32 (fun s hs => by rw [hcells_length, hs]) 2 v.cells.toList (by rw [hl]) (fun i hi => by
    obtain ⟨s, hs, hw⟩ := tr_sum (hel i hi)
    exact ⟨s, hw, hs⟩)
  obtain ⟨cs, rfl, _⟩ := okWide_arr Tryd.underlying41 hv
  match l, hln with
  | [a, b], _ => exact ⟨a, b, agg_of' he, hq a (by simp), hq b (by simp)⟩
theorem op_sum3 (hv : Value.okWide Tryd.prog W .any base 33 v) (h : Tr enc W 33 v.cells.toList) : ∃ a b c : List UInt8, v = .agg (flatS [a, b, c]).toArray ∧ a.length = 32 ∧ b.length = 32 ∧ c.length = 32 := by
  have hk : Tryd.prog.cellsOf 23 = 32 := by kernel_rfl
  have hk2 : Tryd.prog.cellsOf 33 = 96 := by kernel_rfl
  obtain ⟨hl, hel⟩ := tr_array Tryd.underlying33 h
  rw [hk] at hel
  rw [hk2] at hl
  obtain ⟨l, hln, hq, he⟩ := chunks hcells (fun s => s.length = 32) 32 (fun s hs => by rw [hcells_length, hs]) 3 v.cells.toList (by rw [hl]) (fun i hi => by
    obtain ⟨s, hs, hw⟩ := tr_sum (hel i hi)
    exact ⟨s, hw, hs⟩)
  obtain ⟨cs, rfl, _⟩ := okWide_arr Tryd.underlying33 hv
  match l, hln with
  | [a, b, c], _ => exact ⟨a, b, c, agg_of' he, hq a (by simp), hq b (by simp), hq c (by simp)⟩
end

end Go.Proofs.YtfpipdopgepelaaDoor
