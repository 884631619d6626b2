/-
  The walks of leaf.Leaf, Preimage, Node, Empty, and of the document's.
-/
import Derived.Test.YtcgnjdkennkheaaGreatDoorLeafP
import Derived.Test.YtcgnjdkennkheaaGreatDoorHex
set_option linter.unusedVariables false
set_option maxRecDepth 100000
set_option linter.unusedSimpArgs false
namespace Go.Proofs.YtcgnjdkennkheaaGreatDoor
open Go.RowKit
theorem c0T : (ByteArray.mk #[0]) = bs [0] := rfl
theorem c1T : (ByteArray.mk #[1]) = bs [1] := rfl
attribute [local go_sem] bs_size bs_toList2 bs_append bs_extract_end bs_extract_begin bs_get wrap64_b grow_cell grow_frozen

theorem Leaf_calls (d : List UInt8) (hd : d.length ≤ 4611686018427380000) (w : World) (KW : Keys w) : Calls Tryz.prog 66 #[.string (bs d)] w fun e w' => e = .returned (sumV (leafB d)) ∧ Ext w w' := by
  obtain ⟨z, hz⟩ : ∃ z, z = leafB d := ⟨_, rfl⟩
  rw [← hz]
  have hz2 : z = shaOf (joinB [[0], d]) := by rw [hz]; unfold leafB joinB; simp
  have Hz := Lib.hid hz2; clear hz hz2
  go_enter Tryz.func66, Tryz.ntmps66
  go_wp2_with fail
  have hR0 : ArrB (w.alloc (.cells ((zerosB 32).map byteV).toArray 28)) w.heap.size 28 (zerosB 32) := Blk.new _ _ _
  have hE0 := (Ext.refl w).alloc (.cells ((zerosB 32).map byteV).toArray 28)
  have hsz : w.heap.size + 1 = (w.alloc (.cells ((zerosB 32).map byteV).toArray 28)).heap.size := (alloc_size _ _).symm
  rw [hsz]
  change Calls _ _ _ ((w.alloc (.cells ((zerosB 32).map byteV).toArray 28)).alloc (.cells ([[0], d].map strV).toArray 9)) _
  clear hsz
  generalize w.alloc (.cells ((zerosB 32).map byteV).toArray 28) = w0 at *
  have hRd : Rd (w0.alloc (.cells ([[0], d].map strV).toArray 9)) (w0.alloc (.cells ([[0], d].map strV).toArray 9)).heap.size (some ⟨w0.heap.size, 0, none⟩) ([[0], d].map strV) := Blk.rd (Blk.new w0 _ _)
  have hE1 := hE0.alloc (.cells ([[0], d].map strV).toArray 9)
  refine (Of_calls [[0], d] _ 2 _ (KW.ext hE1) hRd (by simp) (by simp [joinB]; omega)).mono ?_; rw [← Hz.out]; rintro e w2 ⟨rfl, e2⟩
  have hml : (z.map byteV).toArray.size = 32 := by rw [Hz.out]; simp [shaOf_length]
  have hR2 := Blk.below (Blk.alloc hR0 (.cells ([[0], d].map strV).toArray 9)) e2 (Blk.alloc hR0 (.cells ([[0], d].map strV).toArray 9)).lt
  have hE2 := hE1.trans e2
  clear Hz
  unfold sumV
  go_wp2_with (refine stop_store 28 (.tmp 2) (.tmp 5) rfl ?_)
  refine ⟨?_⟩
  refine wpList_store_row rfl 28 (.tmp 2) (.tmp 5) rfl w.heap.size _ (by rfl) (by rfl) 28 _ hR2 (size32.trans (by rw [hml])) (by rw [hml]; simp [zerosB]) (by simp [byteV, Value.oneCell']) ?_
  simp only [Act.put, List.setIfInBounds_toArray, List.set_cons_zero, List.set_cons_succ]
  go_wp2_with fail
  exact bodyPost_ret (results_cell_row rfl _ _ w.heap.size 28 _ (0, 0) _ rfl (Blk.row hR2 _) Tryz.underlying28 rfl (size32.trans (by rw [hml]))) rfl ⟨rfl, hE2.row (Nat.le_refl _) _⟩

theorem refLeaf_calls (d : List UInt8) (hd : d.length ≤ 4611686018427380000) (w : World) : Calls Tryz.prog 48 #[.string (bs d)] w fun e w' => e = .returned (sumV (leafB d)) ∧ Ext w w' := by
  obtain ⟨z, hz⟩ : ∃ z, z = leafB d := ⟨_, rfl⟩
  rw [← hz]
  have hz2 : z = shaOf ([0] ++ d) := hz
  have Hz := Lib.hid hz2; clear hz hz2
  go_enter Tryz.func48, Tryz.ntmps48
  go_wp2_with fail
  change Calls _ _ #[.string (bs [0] ++ bs d)] (w.alloc (.cells ((zerosB 32).map byteV).toArray 28)) _
  rw [bs_append]
  have hR0 : ArrB (w.alloc (.cells ((zerosB 32).map byteV).toArray 28)) w.heap.size 28 (zerosB 32) := Blk.new _ _ _
  have hE0 := (Ext.refl w).alloc (.cells ((zerosB 32).map byteV).toArray 28)
  generalize w.alloc (.cells ((zerosB 32).map byteV).toArray 28) = w0 at *
  refine (refOf_calls ([0] ++ d) _ (by simp; omega)).mono ?_; rw [← Hz.out]; rintro e w2 ⟨rfl, e2⟩
  have hml : (z.map byteV).toArray.size = 32 := by rw [Hz.out]; simp [shaOf_length]
  have hR2 := Blk.below hR0 e2 hR0.lt
  have hE2 := hE0.trans e2
  clear Hz
  unfold sumV
  go_wp2_with (refine stop_store 28 (.tmp 2) (.tmp 5) rfl ?_)
  refine ⟨?_⟩
  refine wpList_store_row rfl 28 (.tmp 2) (.tmp 5) rfl w.heap.size _ (by rfl) (by rfl) 28 _ hR2 (size32.trans (by rw [hml])) (by rw [hml]; simp [zerosB]) (by simp [byteV, Value.oneCell']) ?_
  simp only [Act.put, List.setIfInBounds_toArray, List.set_cons_zero, List.set_cons_succ]
  go_wp2_with fail
  exact bodyPost_ret (results_cell_row rfl _ _ w.heap.size 28 _ (0, 0) _ rfl (Blk.row hR2 _) Tryz.underlying28 rfl (size32.trans (by rw [hml]))) rfl ⟨rfl, hE2.row (Nat.le_refl _) _⟩

theorem Preimage_calls (a b : List UInt8) (ha : a.length = 32) (hb : b.length = 32) (w : World) : Calls Tryz.prog 116 #[sumV a, sumV b] w fun e w' => e = .returned (.string (bs (preB a b))) ∧ Ext w w' := by
  obtain ⟨z, hz⟩ : ∃ z, z = preB a b := ⟨_, rfl⟩
  rw [← hz]
  have hz2 : z = 1 :: (a ++ b) := hz
  have Hz := Lib.hid hz2; clear hz hz2
  unfold sumV
  go_enter Tryz.func116, Tryz.ntmps116
  go_wp2_with fail
  have hA0 := Blk.alloc (Blk.new w 28 (a.map byteV).toArray) (.cells (b.map byteV).toArray 28)
  have hB0 : Blk ((w.alloc (.cells (a.map byteV).toArray 28)).alloc (.cells (b.map byteV).toArray 28)) (w.heap.size + 1) 28 (b.map byteV).toArray := by
    have := Blk.new (w.alloc (.cells (a.map byteV).toArray 28)) 28 (b.map byteV).toArray
    rwa [alloc_size] at this
  have hE0 := ((Ext.refl w).alloc (.cells (a.map byteV).toArray 28)).alloc (.cells (b.map byteV).toArray 28)
  generalize (w.alloc (.cells (a.map byteV).toArray 28)).alloc (.cells (b.map byteV).toArray 28) = w0 at *
  have ha1 : ¬ (9223372036854775807 < (1 : Nat) + a.length) := by omega
  have hab1 : ¬ (9223372036854775807 < ([1] ++ a).length + b.length) := by simp; omega
  have hab2 : ¬ (9223372036854775807 < a.length + 1 + b.length) := by omega
  have hz1 : bs (([1] ++ a) ++ b) = bs z := by rw [Hz.out]; rfl
  have Ha := Lib.hid ha; have Hb := Lib.hid hb; clear ha hb
  refine region_mix0 (by kernel_rfl) (by kernel_rfl) (fun x => ?_)
  refine mix_row (by rfl) (by rfl) 28 (.tmp 2) rfl w.heap.size (by rfl) _ _ _ hA0 Tryz.underlying28 rfl (size32.trans (by simp [Ha.out])) ?_
  simp only [Act.put, List.setIfInBounds_toArray, List.set_cons_zero, List.set_cons_succ]
  (refine mix_loud (by rfl) (by rfl) (fun K E hK => ?_); go_big_op)
  refine (Bytes_calls a Ha.out _).mono ?_; rintro e w3 ⟨rfl, hd'⟩
  obtain ⟨x', rfl⟩ := more_ext _ hd'
  refine hK _ _ ⟨_, rfl⟩ ?_; clear hK K E
  iterate 1 (first | (refine mix_quiet (by rfl) (by rfl) (fun K hK => ?_); go_big_quiet_op; refine hK _ ?_; clear hK K) | (refine mix_skip (by rfl) ?_; simp only [Act.put, List.setIfInBounds_toArray, List.set_cons_zero, List.set_cons_succ]))
  refine mix_row (by rfl) (by rfl) 28 (.tmp 3) rfl (w.heap.size + 1) (by rfl) _ _ _ hB0 Tryz.underlying28 rfl (size32.trans (by simp [Hb.out])) ?_
  simp only [Act.put, List.setIfInBounds_toArray, List.set_cons_zero, List.set_cons_succ]
  (refine mix_loud (by rfl) (by rfl) (fun K E hK => ?_); go_big_op)
  refine (Bytes_calls b Hb.out _).mono ?_; rintro e w3 ⟨rfl, hd'⟩
  obtain ⟨x', rfl⟩ := more_ext _ hd'
  refine hK _ _ ⟨_, rfl⟩ ?_; clear hK K E
  iterate 2 (first | (refine mix_quiet (by rfl) (by rfl) (fun K hK => ?_); go_big_quiet_op; refine hK _ ?_; clear hK K) | (refine mix_skip (by rfl) ?_; simp only [Act.put, List.setIfInBounds_toArray, List.set_cons_zero, List.set_cons_succ]))
  refine mix_nil ?_
  go_wp2_with fail
  go_ret
  exact ⟨by rw [← hz1]; rfl, hE0.trans (grow_ext _)⟩

theorem refPreimage_calls (a b : List UInt8) (ha : a.length = 32) (hb : b.length = 32) (w : World) : Calls Tryz.prog 57 #[sumV a, sumV b] w fun e w' => e = .returned (.string (bs (preB a b))) ∧ Ext w w' := by
  obtain ⟨z, hz⟩ : ∃ z, z = preB a b := ⟨_, rfl⟩
  rw [← hz]
  have hz2 : z = 1 :: (a ++ b) := hz
  have Hz := Lib.hid hz2; clear hz hz2
  unfold sumV
  go_enter Tryz.func57, Tryz.ntmps57
  go_wp2_with fail
  have hA0 := Blk.alloc (Blk.new w 28 (a.map byteV).toArray) (.cells (b.map byteV).toArray 28)
  have hB0 : Blk ((w.alloc (.cells (a.map byteV).toArray 28)).alloc (.cells (b.map byteV).toArray 28)) (w.heap.size + 1) 28 (b.map byteV).toArray := by
    have := Blk.new (w.alloc (.cells (a.map byteV).toArray 28)) 28 (b.map byteV).toArray
    rwa [alloc_size] at this
  have hE0 := ((Ext.refl w).alloc (.cells (a.map byteV).toArray 28)).alloc (.cells (b.map byteV).toArray 28)
  generalize (w.alloc (.cells (a.map byteV).toArray 28)).alloc (.cells (b.map byteV).toArray 28) = w0 at *
  have ha1 : ¬ (9223372036854775807 < (1 : Nat) + a.length) := by omega
  have hab1 : ¬ (9223372036854775807 < ([1] ++ a).length + b.length) := by simp; omega
  have hab2 : ¬ (9223372036854775807 < a.length + 1 + b.length) := by omega
  have hz1 : bs (([1] ++ a) ++ b) = bs z := by rw [Hz.out]; rfl
  have Ha := Lib.hid ha; have Hb := Lib.hid hb; clear ha hb
  refine region_mix0 (by kernel_rfl) (by kernel_rfl) (fun x => ?_)
  refine mix_row (by rfl) (by rfl) 28 (.tmp 2) rfl w.heap.size (by rfl) _ _ _ hA0 Tryz.underlying28 rfl (size32.trans (by simp [Ha.out])) ?_
  simp only [Act.put, List.setIfInBounds_toArray, List.set_cons_zero, List.set_cons_succ]
  (refine mix_loud (by rfl) (by rfl) (fun K E hK => ?_); go_big_op)
  refine (refBytes_calls a Ha.out _).mono ?_; rintro e w3 ⟨rfl, hd'⟩
  obtain ⟨x', rfl⟩ := more_ext _ hd'
  refine hK _ _ ⟨_, rfl⟩ ?_; clear hK K E
  iterate 1 (first | (refine mix_quiet (by rfl) (by rfl) (fun K hK => ?_); go_big_quiet_op; refine hK _ ?_; clear hK K) | (refine mix_skip (by rfl) ?_; simp only [Act.put, List.setIfInBounds_toArray, List.set_cons_zero, List.set_cons_succ]))
  refine mix_row (by rfl) (by rfl) 28 (.tmp 3) rfl (w.heap.size + 1) (by rfl) _ _ _ hB0 Tryz.underlying28 rfl (size32.trans (by simp [Hb.out])) ?_
  simp only [Act.put, List.setIfInBounds_toArray, List.set_cons_zero, List.set_cons_succ]
  (refine mix_loud (by rfl) (by rfl) (fun K E hK => ?_); go_big_op)
  refine (refBytes_calls b Hb.out _).mono ?_; rintro e w3 ⟨rfl, hd'⟩
  obtain ⟨x', rfl⟩ := more_ext _ hd'
  refine hK _ _ ⟨_, rfl⟩ ?_; clear hK K E
  iterate 2 (first | (refine mix_quiet (by rfl) (by rfl) (fun K hK => ?_); go_big_quiet_op; refine hK _ ?_; clear hK K) | (refine mix_skip (by rfl) ?_; simp only [Act.put, List.setIfInBounds_toArray, List.set_cons_zero, List.set_cons_succ]))
  refine mix_nil ?_
  go_wp2_with fail
  go_ret
  exact ⟨by rw [← hz1]; rfl, hE0.trans (grow_ext _)⟩

set_option maxHeartbeats 400000 in
theorem Node_calls (a b : List UInt8) (ha : a.length = 32) (hb : b.length = 32) (w : World) (KW : Keys w) : Calls Tryz.prog 102 #[sumV a, sumV b] w fun e w' => e = .returned (sumV (nodeB a b)) ∧ Ext w w' := by
  obtain ⟨z, hz⟩ : ∃ z, z = nodeB a b := ⟨_, rfl⟩
  rw [← hz]
  have hz2 : z = shaOf (preB a b) := hz
  have Hz := Lib.hid hz2; clear hz hz2
  have haz : (a.map byteV).toArray.size = 32 := by simp [ha]
  have hbz : (b.map byteV).toArray.size = 32 := by simp [hb]
  unfold sumV
  go_enter Tryz.func102, Tryz.ntmps102
  go_wp2_with (refine stop_load 28 (.tmp 2) rfl ?_)
  refine ⟨?_⟩
  change wpList _ _ _ _ _ (((w.alloc (.cells (a.map byteV).toArray 28)).alloc (.cells (b.map byteV).toArray 28)).alloc (.cells ((zerosB 32).map byteV).toArray 28))
  have hA0 := Blk.alloc (Blk.new w 28 (a.map byteV).toArray) (.cells (b.map byteV).toArray 28)
  have hB0 : Blk ((w.alloc (.cells (a.map byteV).toArray 28)).alloc (.cells (b.map byteV).toArray 28)) (w.heap.size + 1) 28 (b.map byteV).toArray := by
    have := Blk.new (w.alloc (.cells (a.map byteV).toArray 28)) 28 (b.map byteV).toArray
    rwa [alloc_size] at this
  have hE0 := ((Ext.refl w).alloc (.cells (a.map byteV).toArray 28)).alloc (.cells (b.map byteV).toArray 28)
  have hA1 := Blk.alloc hA0 (.cells ((zerosB 32).map byteV).toArray 28)
  have hB1 := Blk.alloc hB0 (.cells ((zerosB 32).map byteV).toArray 28)
  have hR0 : Blk (((w.alloc (.cells (a.map byteV).toArray 28)).alloc (.cells (b.map byteV).toArray 28)).alloc (.cells ((zerosB 32).map byteV).toArray 28)) (w.heap.size + 2) 28 ((zerosB 32).map byteV).toArray := by
    have := Blk.new ((w.alloc (.cells (a.map byteV).toArray 28)).alloc (.cells (b.map byteV).toArray 28)) 28 ((zerosB 32).map byteV).toArray
    rwa [alloc_size, alloc_size] at this
  have hE0' := hE0.alloc (.cells ((zerosB 32).map byteV).toArray 28)
  clear hA0 hB0 hE0
  generalize ((w.alloc (.cells (a.map byteV).toArray 28)).alloc (.cells (b.map byteV).toArray 28)).alloc (.cells ((zerosB 32).map byteV).toArray 28) = w0 at *
  refine wpList_load_row rfl 28 (.tmp 2) rfl w.heap.size (by rfl) 28 _ (0, 0) _ hA1 Tryz.underlying28 rfl (size32.trans (by rw [haz])) ?_
  refine wpList_load_row rfl 28 (.tmp 3) rfl (w.heap.size + 1) (by rfl) 28 _ (0, 0) _ hB1 Tryz.underlying28 rfl (size32.trans (by rw [hbz])) ?_
  simp only [Act.put, List.setIfInBounds_toArray, List.set_cons_zero, List.set_cons_succ]
  go_wp2_with fail
  change Calls _ _ #[sumV a, sumV b] _ _
  refine (Preimage_calls a b ha hb _).mono ?_; rintro e w1 ⟨rfl, e1⟩
  have hR1 := Blk.below hR0 e1 hR0.lt
  have hE1 := hE0'.trans e1
  clear hA1 hB1 hR0 hE0' e1
  go_wp2_with fail
  have hRd : Rd (w1.alloc (.cells #[.string (bs (preB a b))] 9)) (w1.alloc (.cells #[.string (bs (preB a b))] 9)).heap.size (some ⟨w1.heap.size, 0, none⟩) ([preB a b].map strV) := Blk.rd (Blk.new w1 _ _)
  have hj : joinB [preB a b] = preB a b := by simp [joinB]
  refine (Of_calls [preB a b] _ 1 _ (KW.ext (hE1.alloc _)) hRd (by simp) (by rw [hj, preB_length]; omega)).mono ?_; rw [hj, ← Hz.out]; rintro e w2 ⟨rfl, e2⟩
  have hR2 := Blk.below (Blk.alloc hR1 (.cells #[.string (bs (preB a b))] 9)) e2 (Blk.alloc hR1 (.cells #[.string (bs (preB a b))] 9)).lt
  have hE2 := (hE1.alloc (.cells #[.string (bs (preB a b))] 9)).trans e2
  have hml : (z.map byteV).toArray.size = 32 := by rw [Hz.out]; simp [shaOf_length]
  clear Hz
  unfold sumV
  go_wp2_with (refine stop_store 28 (.tmp 4) (.tmp 9) rfl ?_)
  refine ⟨?_⟩
  refine wpList_store_row rfl 28 (.tmp 4) (.tmp 9) rfl (w.heap.size + 2) _ (by rfl) (by rfl) 28 _ hR2 (size32.trans (by rw [hml])) (by rw [hml]; simp [zerosB]) (by simp [byteV, Value.oneCell']) ?_
  simp only [Act.put, List.setIfInBounds_toArray, List.set_cons_zero, List.set_cons_succ]
  go_wp2_with fail
  exact bodyPost_ret (results_cell_row rfl _ _ (w.heap.size + 2) 28 _ (0, 0) _ rfl (Blk.row hR2 _) Tryz.underlying28 rfl (size32.trans (by rw [hml]))) rfl ⟨rfl, hE2.row (by omega) _⟩

set_option maxHeartbeats 400000 in
theorem refNode_calls (a b : List UInt8) (ha : a.length = 32) (hb : b.length = 32) (w : World) : Calls Tryz.prog 60 #[sumV a, sumV b] w fun e w' => e = .returned (sumV (nodeB a b)) ∧ Ext w w' := by
  obtain ⟨z, hz⟩ : ∃ z, z = nodeB a b := ⟨_, rfl⟩
  rw [← hz]
  have hz2 : z = shaOf (preB a b) := hz
  have Hz := Lib.hid hz2; clear hz hz2
  have haz : (a.map byteV).toArray.size = 32 := by simp [ha]
  have hbz : (b.map byteV).toArray.size = 32 := by simp [hb]
  unfold sumV
  go_enter Tryz.func60, Tryz.ntmps60
  go_wp2_with (refine stop_load 28 (.tmp 2) rfl ?_)
  refine ⟨?_⟩
  change wpList _ _ _ _ _ (((w.alloc (.cells (a.map byteV).toArray 28)).alloc (.cells (b.map byteV).toArray 28)).alloc (.cells ((zerosB 32).map byteV).toArray 28))
  have hA0 := Blk.alloc (Blk.new w 28 (a.map byteV).toArray) (.cells (b.map byteV).toArray 28)
  have hB0 : Blk ((w.alloc (.cells (a.map byteV).toArray 28)).alloc (.cells (b.map byteV).toArray 28)) (w.heap.size + 1) 28 (b.map byteV).toArray := by
    have := Blk.new (w.alloc (.cells (a.map byteV).toArray 28)) 28 (b.map byteV).toArray
    rwa [alloc_size] at this
  have hE0 := ((Ext.refl w).alloc (.cells (a.map byteV).toArray 28)).alloc (.cells (b.map byteV).toArray 28)
  have hA1 := Blk.alloc hA0 (.cells ((zerosB 32).map byteV).toArray 28)
  have hB1 := Blk.alloc hB0 (.cells ((zerosB 32).map byteV).toArray 28)
  have hR0 : Blk (((w.alloc (.cells (a.map byteV).toArray 28)).alloc (.cells (b.map byteV).toArray 28)).alloc (.cells ((zerosB 32).map byteV).toArray 28)) (w.heap.size + 2) 28 ((zerosB 32).map byteV).toArray := by
    have := Blk.new ((w.alloc (.cells (a.map byteV).toArray 28)).alloc (.cells (b.map byteV).toArray 28)) 28 ((zerosB 32).map byteV).toArray
    rwa [alloc_size, alloc_size] at this
  have hE0' := hE0.alloc (.cells ((zerosB 32).map byteV).toArray 28)
  clear hA0 hB0 hE0
  generalize ((w.alloc (.cells (a.map byteV).toArray 28)).alloc (.cells (b.map byteV).toArray 28)).alloc (.cells ((zerosB 32).map byteV).toArray 28) = w0 at *
  refine wpList_load_row rfl 28 (.tmp 2) rfl w.heap.size (by rfl) 28 _ (0, 0) _ hA1 Tryz.underlying28 rfl (size32.trans (by rw [haz])) ?_
  refine wpList_load_row rfl 28 (.tmp 3) rfl (w.heap.size + 1) (by rfl) 28 _ (0, 0) _ hB1 Tryz.underlying28 rfl (size32.trans (by rw [hbz])) ?_
  simp only [Act.put, List.setIfInBounds_toArray, List.set_cons_zero, List.set_cons_succ]
  go_wp2_with fail
  change Calls _ _ #[sumV a, sumV b] _ _
  refine (refPreimage_calls a b ha hb _).mono ?_; rintro e w1 ⟨rfl, e1⟩
  have hR1 := Blk.below hR0 e1 hR0.lt
  have hE1 := hE0'.trans e1
  clear hA1 hB1 hR0 hE0' e1
  go_wp2_with fail
  refine (refOf_calls (preB a b) _ (by rw [preB_length]; omega)).mono ?_; rw [← Hz.out]; rintro e w2 ⟨rfl, e2⟩
  have hR2 := Blk.below hR1 e2 hR1.lt
  have hE2 := hE1.trans e2
  have hml : (z.map byteV).toArray.size = 32 := by rw [Hz.out]; simp [shaOf_length]
  clear Hz
  unfold sumV
  go_wp2_with (refine stop_store 28 (.tmp 4) (.tmp 8) rfl ?_)
  refine ⟨?_⟩
  refine wpList_store_row rfl 28 (.tmp 4) (.tmp 8) rfl (w.heap.size + 2) _ (by rfl) (by rfl) 28 _ hR2 (size32.trans (by rw [hml])) (by rw [hml]; simp [zerosB]) (by simp [byteV, Value.oneCell']) ?_
  simp only [Act.put, List.setIfInBounds_toArray, List.set_cons_zero, List.set_cons_succ]
  go_wp2_with fail
  exact bodyPost_ret (results_cell_row rfl _ _ (w.heap.size + 2) 28 _ (0, 0) _ rfl (Blk.row hR2 _) Tryz.underlying28 rfl (size32.trans (by rw [hml]))) rfl ⟨rfl, hE2.row (by omega) _⟩

end Go.Proofs.YtcgnjdkennkheaaGreatDoor
