/-
  The walks of leaf.Leaf, Preimage, Node, Empty, and of the document's.
-/
import Derived.Test.YtcgnjdkennkheaaDoorLeafP
import Derived.Test.YtcgnjdkennkheaaDoorHex
set_option linter.unusedVariables false
set_option maxRecDepth 100000
set_option linter.unusedSimpArgs false
namespace Go.Proofs.YtcgnjdkennkheaaDoor
open Go.RowKit
theorem c0T : (ByteArray.mk #[0]) = bs [0] := rfl
theorem c1T : (ByteArray.mk #[1]) = bs [1] := rfl
attribute [local go_sem] bs_size bs_toList2 bs_append bs_extract_end bs_extract_begin bs_get wrap64_b grow_cell grow_frozen

theorem Leaf_calls (d : List UInt8) (hd : d.length ≤ 4611686018427380000) (w : World) (KW : Keys w) : Calls Tryd.prog 60 #[.string (bs d)] w fun e w' => e = .returned (sumV (leafB d)) ∧ Ext w w' := by
  obtain ⟨z, hz⟩ : ∃ z, z = leafB d := ⟨_, rfl⟩
  rw [← hz]
  have hz2 : z = shaOf (joinB [[0], d]) := by rw [hz]; unfold leafB joinB; simp
  have Hz := Lib.hid hz2; clear hz hz2
  go_enter Tryd.func60, Tryd.ntmps60
  go_wp2_with fail
  have hR0 : ArrB (w.alloc (.cells ((zerosB 32).map byteV).toArray 23)) w.heap.size 23 (zerosB 32) := Blk.new _ _ _
  have hE0 := (Ext.refl w).alloc (.cells ((zerosB 32).map byteV).toArray 23)
  have hsz : w.heap.size + 1 = (w.alloc (.cells ((zerosB 32).map byteV).toArray 23)).heap.size := (alloc_size _ _).symm
  rw [hsz]
  change Calls _ _ _ ((w.alloc (.cells ((zerosB 32).map byteV).toArray 23)).alloc (.cells ([[0], d].map strV).toArray 9)) _
  clear hsz
  generalize w.alloc (.cells ((zerosB 32).map byteV).toArray 23) = w0 at *
  have hRd : Rd (w0.alloc (.cells ([[0], d].map strV).toArray 9)) (w0.alloc (.cells ([[0], d].map strV).toArray 9)).heap.size (some ⟨w0.heap.size, 0, none⟩) ([[0], d].map strV) := Blk.rd (Blk.new w0 _ _)
  have hE1 := hE0.alloc (.cells ([[0], d].map strV).toArray 9)
  refine (Of_calls [[0], d] _ 2 _ (KW.ext hE1) hRd (by simp) (by simp [joinB]; omega)).mono ?_; rw [← Hz.out]; rintro e w2 ⟨rfl, e2⟩
  have hml : (z.map byteV).toArray.size = 32 := by rw [Hz.out]; simp [shaOf_length]
  have hR2 := Blk.below (Blk.alloc hR0 (.cells ([[0], d].map strV).toArray 9)) e2 (Blk.alloc hR0 (.cells ([[0], d].map strV).toArray 9)).lt
  have hE2 := hE1.trans e2
  clear Hz
  unfold sumV
  go_wp2_with (refine stop_store 23 (.tmp 2) (.tmp 5) rfl ?_)
  refine ⟨?_⟩
  refine wpList_store_row rfl 23 (.tmp 2) (.tmp 5) rfl w.heap.size _ (by rfl) (by rfl) 23 _ hR2 (size32.trans (by rw [hml])) (by rw [hml]; simp [zerosB]) (by simp [byteV, Value.oneCell']) ?_
  simp only [Act.put, List.setIfInBounds_toArray, List.set_cons_zero, List.set_cons_succ]
  go_wp2_with fail
  exact bodyPost_ret (results_cell_row rfl _ _ w.heap.size 23 _ (0, 0) _ rfl (Blk.row hR2 _) Tryd.underlying23 rfl (size32.trans (by rw [hml]))) rfl ⟨rfl, hE2.row (Nat.le_refl _) _⟩

theorem refLeaf_calls (d : List UInt8) (hd : d.length ≤ 4611686018427380000) (w : World) : Calls Tryd.prog 61 #[.string (bs d)] w fun e w' => e = .returned (sumV (leafB d)) ∧ Ext w w' := by
  obtain ⟨z, hz⟩ : ∃ z, z = leafB d := ⟨_, rfl⟩
  rw [← hz]
  have hz2 : z = shaOf ([0] ++ d) := hz
  have Hz := Lib.hid hz2; clear hz hz2
  go_enter Tryd.func61, Tryd.ntmps61
  go_wp2_with fail
  change Calls _ _ #[.string (bs [0] ++ bs d)] (w.alloc (.cells ((zerosB 32).map byteV).toArray 23)) _
  rw [bs_append]
  have hR0 : ArrB (w.alloc (.cells ((zerosB 32).map byteV).toArray 23)) w.heap.size 23 (zerosB 32) := Blk.new _ _ _
  have hE0 := (Ext.refl w).alloc (.cells ((zerosB 32).map byteV).toArray 23)
  generalize w.alloc (.cells ((zerosB 32).map byteV).toArray 23) = w0 at *
  refine (refOf_calls ([0] ++ d) _ (by simp; omega)).mono ?_; rw [← Hz.out]; rintro e w2 ⟨rfl, e2⟩
  have hml : (z.map byteV).toArray.size = 32 := by rw [Hz.out]; simp [shaOf_length]
  have hR2 := Blk.below hR0 e2 hR0.lt
  have hE2 := hE0.trans e2
  clear Hz
  unfold sumV
  go_wp2_with (refine stop_store 23 (.tmp 2) (.tmp 5) rfl ?_)
  refine ⟨?_⟩
  refine wpList_store_row rfl 23 (.tmp 2) (.tmp 5) rfl w.heap.size _ (by rfl) (by rfl) 23 _ hR2 (size32.trans (by rw [hml])) (by rw [hml]; simp [zerosB]) (by simp [byteV, Value.oneCell']) ?_
  simp only [Act.put, List.setIfInBounds_toArray, List.set_cons_zero, List.set_cons_succ]
  go_wp2_with fail
  exact bodyPost_ret (results_cell_row rfl _ _ w.heap.size 23 _ (0, 0) _ rfl (Blk.row hR2 _) Tryd.underlying23 rfl (size32.trans (by rw [hml]))) rfl ⟨rfl, hE2.row (Nat.le_refl _) _⟩

end Go.Proofs.YtcgnjdkennkheaaDoor
