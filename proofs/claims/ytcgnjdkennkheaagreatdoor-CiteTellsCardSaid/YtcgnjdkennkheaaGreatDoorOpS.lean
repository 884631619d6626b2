/-
  Arguments opened: arrays of words and of bytes.
-/
import Derived.Test.YtcgnjdkennkheaaGreatDoorSha8
set_option linter.unusedVariables false
set_option maxRecDepth 100000
set_option linter.unusedSimpArgs false
namespace Go.Proofs.YtcgnjdkennkheaaGreatDoor
open Go.ChangeShapes Go.WideShapes Go.ChangeAt Go.RowKit

section
variable {H : Type} {enc : TypeId × Value → H} {W : World} {base : Nat} {v : Value}
theorem tr_words {t : TypeId} {n : Nat} {cs : List Value} (ht : Tryz.prog.underlying t = some (.array n 124)) (hc : Tryz.prog.cellsOf t = n) (h : Tr enc W t cs) : ∃ a : List Int, cs = a.map wordV ∧ a.length = n := by
  have hk : Tryz.prog.cellsOf 124 = 1 := by kernel_rfl
  obtain ⟨hl, hel⟩ := tr_array ht h
  rw [hk] at hel
  rw [hc] at hl
  obtain ⟨l, hln, _, he⟩ := chunks (fun x : Int => [wordV x]) (fun _ => True) 1 (fun _ _ => rfl) n cs (by rw [hl, Nat.mul_one]) (fun i hi => by
    obtain ⟨x, hx, _⟩ := tr_int Tryz.underlying124 (hel i hi)
    exact ⟨x, trivial, hx⟩)
  exact ⟨l, by rw [he, List.map_eq_flatMap], hln⟩
theorem tr_bytes {t : TypeId} {n : Nat} {cs : List Value} (ht : Tryz.prog.underlying t = some (.array n 5)) (hc : Tryz.prog.cellsOf t = n) (h : Tr enc W t cs) : ∃ a : List UInt8, cs = a.map byteV ∧ a.length = n := by
  have hk : Tryz.prog.cellsOf 5 = 1 := by kernel_rfl
  obtain ⟨hl, hel⟩ := tr_array ht h
  rw [hk] at hel
  rw [hc] at hl
  obtain ⟨l, hln, _, he⟩ := chunks (fun x : UInt8 => [byteV x]) (fun _ => True) 1 (fun _ _ => rfl) n cs (by rw [hl, Nat.mul_one]) (fun i hi => by
    obtain ⟨x, hx, hw⟩ := tr_int Tryz.underlying5 (hel i hi)
    have hb : 0 ≤ x ∧ x ≤ 255 := by simpa [Lit.wf, IntKind.min, IntKind.max, IntKind.signed, IntKind.bits] using hw
    refine ⟨UInt8.ofNat x.toNat, trivial, ?_⟩
    rw [hx]
    unfold byteV
    rw [UInt8.toNat_ofNat', Nat.mod_eq_of_lt (by omega)]
    congr 2
    omega)
  exact ⟨l, by rw [he, List.map_eq_flatMap], hln⟩
theorem agg_of {cs : Array Value} {l : List Value} (h : (Value.agg cs).cells.toList = l) : Value.agg cs = .agg l.toArray := by
  simp only [Value.cells] at h
  rw [← h]
theorem op_w8 (hv : Value.okWide Tryz.prog W .any base 125 v) (h : Tr enc W 125 v.cells.toList) : ∃ a : List Int, v = .agg (a.map wordV).toArray ∧ a.length = 8 := by
  obtain ⟨cs, rfl, _⟩ := okWide_arr Tryz.underlying125 hv
  obtain ⟨a, ha, hl⟩ := tr_words Tryz.underlying125 (by kernel_rfl) h
  exact ⟨a, agg_of ha, hl⟩
theorem op_w16 (hv : Value.okWide Tryz.prog W .any base 127 v) (h : Tr enc W 127 v.cells.toList) : ∃ a : List Int, v = .agg (a.map wordV).toArray ∧ a.length = 16 := by
  obtain ⟨cs, rfl, _⟩ := okWide_arr Tryz.underlying127 hv
  obtain ⟨a, ha, hl⟩ := tr_words Tryz.underlying127 (by kernel_rfl) h
  exact ⟨a, agg_of ha, hl⟩
theorem op_sum (hv : Value.okWide Tryz.prog W .any base 28 v) (h : Tr enc W 28 v.cells.toList) : ∃ a : List UInt8, v = sumV a ∧ a.length = 32 := by
  obtain ⟨cs, rfl, _⟩ := okWide_arr Tryz.underlying28 hv
  obtain ⟨a, ha, hl⟩ := tr_bytes Tryz.underlying28 (by kernel_rfl) h
  exact ⟨a, agg_of ha, hl⟩
end

end Go.Proofs.YtcgnjdkennkheaaGreatDoor
