/-
  The walks of mac.Pad, begun and New.
-/
import Derived.Test.YtcgnjdkennkheaaMacP
import Derived.Test.YtcgnjdkennkheaaShaC
import Derived.Test.YtcgnjdkennkheaaMix5
import Derived.Test.YtcgnjdkennkheaaHex
import Derived.Lib.ConvBytes
set_option linter.unusedVariables false
set_option maxRecDepth 100000
set_option linter.unusedSimpArgs false
namespace Go.Proofs.Ytcgnjdkennkheaa
open Go.RowKit
attribute [local go_sem] bs_size bs_toList2 bs_append bs_extract_end bs_extract_begin bs_get wrap64_b grow_cell grow_frozen

/-- The bytes l lie at the head of block g, and may be written. -/
def Cs (w : World) (g : Nat) (l : List UInt8) : Prop := g < w.heap.size ∧ ∀ j, (h : j < l.length) → w.cell? ⟨g, j, none⟩ = some (byteV l[j]) ∧ w.frozen? ⟨g, j, none⟩ = false
theorem Cs.rd {w : World} {g : Nat} {l : List UInt8} (h : Cs w g l) : Rd w w.heap.size (some ⟨g, 0, none⟩) (l.map byteV) := fun _ => ⟨g, 0, rfl, h.1, fun j u hu => by
  rw [List.getElem?_map] at hu
  obtain ⟨c, hc, rfl⟩ := Option.map_eq_some_iff.1 hu
  obtain ⟨hlt, rfl⟩ := List.getElem?_eq_some_iff.1 hc
  rw [Nat.zero_add]
  exact (h.2 j hlt).1⟩
theorem Cs.set_ {w : World} {g : Nat} {l : List UInt8} (h : Cs w g l) (i : Nat) (hi : i < l.length) (c : UInt8) : Cs (w.setCell ⟨g, i, none⟩ (byteV c)) g (l.set i c) := by
  refine ⟨by simpa [World.setCell] using h.1, fun j hj => ?_⟩
  rw [List.length_set] at hj
  obtain ⟨h1, h2⟩ := h.2 j hj
  by_cases hji : i = j
  · subst hji
    obtain ⟨h3, _⟩ := h.2 i hi
    refine ⟨?_, by rw [World.frozen?_setCell]; exact h2⟩
    rw [List.getElem_set_self]
    exact World.cell?_setCell_same _ _ _ h3
  · refine ⟨?_, by rw [World.frozen?_setCell]; exact h2⟩
    rw [World.cell?_setCell_other _ _ _ _ (by simp [hji]), List.getElem_set_ne hji]
    exact h1
theorem Cs.ext {w w' : World} {g : Nat} {l : List UInt8} (h : Cs w g l) (e : Ext w w') : Cs w' g l :=
  ⟨Nat.lt_of_lt_of_le h.1 e.size, fun j hj => ⟨(e.cell (p := ⟨g, j, none⟩) h.1).trans (h.2 j hj).1, (e.frozen (p := ⟨g, j, none⟩) h.1).trans (h.2 j hj).2⟩⟩
theorem bytes_conv (w : World) (l : List UInt8) : ∃ cap w', (convert 9 54 (.string (bs l))).run Try.prog w = .ok (.slice (some ⟨w.heap.size, 0, none⟩) l.length cap) w' ∧ Cs w' w.heap.size l ∧ Ext w w' := by
  refine ⟨_, _, by rw [Lib.run_convert_string_bytes w 9 54 5 (bs l) Try.underlying9 Try.underlying54 Try.underlying5, bs_size], ⟨by rw [Lib.bytesWorld_size]; omega, fun j hj => ⟨?_, ?_⟩⟩, ?_⟩
  · rw [Lib.bytesWorld_cell w _ _ j (by rw [bs_size]; exact hj), bs_toList]
    simp [byteV, hj]
  · have hlt : j < (Lib.bytesCells w 5 (bs l)).size := by simp [Lib.bytesCells, bs]; omega
    unfold World.frozen?
    rw [Lib.bytesWorld_at_new]
    simp
    omega
  · exact ⟨rfl, rfl, rfl, by rw [Lib.bytesWorld_size]; omega, fun k hk => Lib.bytesWorld_at_old w _ _ k hk⟩

theorem cZ1 : (ByteArray.mk #[0]) = bs [0] := rfl
end Go.Proofs.Ytcgnjdkennkheaa
