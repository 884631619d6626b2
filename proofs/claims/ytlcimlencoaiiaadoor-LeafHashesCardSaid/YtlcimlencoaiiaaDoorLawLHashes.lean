/-
  scriniumlaw09.LeafHashes: hashes of leaves and nodes are as the document says. No condition.
-/
import Derived.Test.YtlcimlencoaiiaaDoorLeafA
import Derived.Test.YtlcimlencoaiiaaDoorOpL
import Derived.Test.YtlcimlencoaiiaaDoorEqA
import Derived.Test.YtlcimlencoaiiaaDoorLaw
import Derived.Deep.DeepCutAuto
set_option linter.unusedVariables false
set_option maxRecDepth 100000
set_option linter.unusedSimpArgs false
namespace Go.Proofs.YtlcimlencoaiiaaDoor.leafHashes
open Go.ChangeShapes Go.WideShapes Go.ChangeAt Go.RowKit
attribute [local go_sem] bs_size bs_toList2 bs_append bs_extract_end bs_extract_begin bs_get wrap64_b grow_cell grow_frozen


set_option maxHeartbeats 2000000 in
theorem walk (s a b : List UInt8) (hs0 : s.length ≤ 9223372036854775807) (ha : a.length = 32) (hb : b.length = 32) (w : World) (KW : Keys w) :
    Calls Tryd.prog 3 #[.string (bs s), sumV a, sumV b] w fun e w' => e = .returned (.bool true) ∧ Ext w w' := by
  unfold sumV
  go_enter Tryd.func3, Tryd.ntmps3
  go_wp2_with fail
  have hA0 := Blk.alloc (Blk.new w 23 (a.map byteV).toArray) (.cells (b.map byteV).toArray 23)
  have hB0 : Blk ((w.alloc (.cells (a.map byteV).toArray 23)).alloc (.cells (b.map byteV).toArray 23)) (w.heap.size + 1) 23 (b.map byteV).toArray := by
    have := Blk.new (w.alloc (.cells (a.map byteV).toArray 23)) 23 (b.map byteV).toArray
    rwa [alloc_size] at this
  have hE0 := ((Ext.refl w).alloc (.cells (a.map byteV).toArray 23)).alloc (.cells (b.map byteV).toArray 23)
  generalize (w.alloc (.cells (a.map byteV).toArray 23)).alloc (.cells (b.map byteV).toArray 23) = w1 at *
  refine (awake09_calls _ (KW.ext hE0)).mono ?_; rintro e w2 ⟨rfl, e2⟩
  have hA := Blk.below hA0 e2 hA0.lt
  have hB := Blk.below hB0 e2 hB0.lt
  have hE2 := hE0.trans e2
  clear hA0 hB0 hE0 e2
  have hgw := guard_sum
  have heq2 := fun w : World => eq_sum (nodeB a b) (nodeB a b) (nodeB_length _ _) (nodeB_length _ _) w
  by_cases hlt : 300 < s.length
  · have hI : (300 : Int) < (s.length : Int) := by omega
    obtain ⟨d, hd⟩ : ∃ d, d = s.take 300 := ⟨_, rfl⟩
    have hdl : d.length ≤ 300 := by rw [hd]; simp; omega
    have hds : bs (s.take 300) = bs d := by rw [hd]
    have heq1 := fun w : World => eq_sum (leafB d) (leafB d) (leafB_length _) (leafB_length _) w
    clear hd
    go_wp2_with fail
    have hKs : ∀ x : More w2, Keys (grow w2 x) := fun x => KW.ext (hE2.trans (grow_ext x))
    refine region_plan 27 (Plan.run [0, 1, 2, 4, 3, 5, 6, 7, 8, 9, 10, 12, 13, 11, 14, 15, 16, 17, 18, 19, 21, 22, 20, 23, 24, 25, 26] .nil) (by kernel_rfl) (by kernel_rfl) (fun y0 => ?_); simp only [Plan.run, List.drop_succ_cons, List.drop_zero, List.drop_nil]
    iterate 4 (first | (refine plan_quiet (by simp only [List.getElem?_toArray, List.getElem?_cons_zero, List.getElem?_cons_succ]; rfl) (by rfl) (by rfl) (fun K hK => ?_); go_big_quiet_op; refine hK _ ?_; clear hK K) | (refine plan_skip (by simp only [List.getElem?_toArray, List.getElem?_cons_zero, List.getElem?_cons_succ]; rfl) (by rfl) ?_; simp only [Act.put, List.setIfInBounds_toArray, List.set_cons_zero, List.set_cons_succ]))
    refine plan_one ?_
    (refine plan_loud (by simp only [List.getElem?_toArray, List.getElem?_cons_zero, List.getElem?_cons_succ]; rfl) (by rfl) (by rfl) (fun K E hK => ?_); go_big_op)
    refine (Leaf_calls d (by omega) (grow w2 y0) (hKs _)).mono ?_; unfold sumV; rintro e w3 ⟨rfl, hd⟩
    obtain ⟨y1, rfl⟩ := more_ext y0 hd; clear hd
    refine hK _ _ ⟨_, rfl⟩ ?_; clear hK K E
    refine plan_one ?_
    (refine plan_loud (by simp only [List.getElem?_toArray, List.getElem?_cons_zero, List.getElem?_cons_succ]; rfl) (by rfl) (by rfl) (fun K E hK => ?_); go_big_op)
    refine (refLeaf_calls d (by omega) (grow w2 y1)).mono ?_; unfold sumV; rintro e w3 ⟨rfl, hd⟩
    obtain ⟨y2, rfl⟩ := more_ext y1 hd; clear hd
    refine hK _ _ ⟨_, rfl⟩ ?_; clear hK K E
    iterate 3 (first | (refine plan_quiet (by simp only [List.getElem?_toArray, List.getElem?_cons_zero, List.getElem?_cons_succ]; rfl) (by rfl) (by rfl) (fun K hK => ?_); go_big_quiet_op; refine hK _ ?_; clear hK K) | (refine plan_skip (by simp only [List.getElem?_toArray, List.getElem?_cons_zero, List.getElem?_cons_succ]; rfl) (by rfl) ?_; simp only [Act.put, List.setIfInBounds_toArray, List.set_cons_zero, List.set_cons_succ]))
    refine plan_row (by simp only [List.getElem?_toArray, List.getElem?_cons_zero, List.getElem?_cons_succ]; rfl) (by rfl) (by rfl) 23 (.tmp 4) rfl w.heap.size (by rfl) _ _ _ hA Tryd.underlying23 rfl (size32.trans (by simp [ha])) ?_
    simp only [Act.put, List.setIfInBounds_toArray, List.set_cons_zero, List.set_cons_succ]
    refine plan_row (by simp only [List.getElem?_toArray, List.getElem?_cons_zero, List.getElem?_cons_succ]; rfl) (by rfl) (by rfl) 23 (.tmp 5) rfl (w.heap.size + 1) (by rfl) _ _ _ hB Tryd.underlying23 rfl (size32.trans (by simp [hb])) ?_
    simp only [Act.put, List.setIfInBounds_toArray, List.set_cons_zero, List.set_cons_succ]
    refine plan_row (by simp only [List.getElem?_toArray, List.getElem?_cons_zero, List.getElem?_cons_succ]; rfl) (by rfl) (by rfl) 23 (.tmp 4) rfl w.heap.size (by rfl) _ _ _ hA Tryd.underlying23 rfl (size32.trans (by simp [ha])) ?_
    simp only [Act.put, List.setIfInBounds_toArray, List.set_cons_zero, List.set_cons_succ]
    refine plan_row (by simp only [List.getElem?_toArray, List.getElem?_cons_zero, List.getElem?_cons_succ]; rfl) (by rfl) (by rfl) 23 (.tmp 5) rfl (w.heap.size + 1) (by rfl) _ _ _ hB Tryd.underlying23 rfl (size32.trans (by simp [hb])) ?_
    simp only [Act.put, List.setIfInBounds_toArray, List.set_cons_zero, List.set_cons_succ]
    refine plan_one ?_
    (refine plan_loud (by simp only [List.getElem?_toArray, List.getElem?_cons_zero, List.getElem?_cons_succ]; rfl) (by rfl) (by rfl) (fun K E hK => ?_); go_big_op)
    change Calls _ _ #[sumV a, sumV b] _ _
    refine (Node_calls a b ha hb (grow w2 y2) (hKs _)).mono ?_; unfold sumV; rintro e w3 ⟨rfl, hd⟩
    obtain ⟨y3, rfl⟩ := more_ext y2 hd; clear hd
    refine hK _ _ ⟨_, rfl⟩ ?_; clear hK K E
    refine plan_one ?_
    (refine plan_loud (by simp only [List.getElem?_toArray, List.getElem?_cons_zero, List.getElem?_cons_succ]; rfl) (by rfl) (by rfl) (fun K E hK => ?_); go_big_op)
    change Calls _ _ #[sumV a, sumV b] _ _
    refine (refNode_calls a b ha hb (grow w2 y3)).mono ?_; unfold sumV; rintro e w3 ⟨rfl, hd⟩
    obtain ⟨y4, rfl⟩ := more_ext y3 hd; clear hd
    refine hK _ _ ⟨_, rfl⟩ ?_; clear hK K E
    iterate 3 (first | (refine plan_quiet (by simp only [List.getElem?_toArray, List.getElem?_cons_zero, List.getElem?_cons_succ]; rfl) (by rfl) (by rfl) (fun K hK => ?_); go_big_quiet_op; refine hK _ ?_; clear hK K) | (refine plan_skip (by simp only [List.getElem?_toArray, List.getElem?_cons_zero, List.getElem?_cons_succ]; rfl) (by rfl) ?_; simp only [Act.put, List.setIfInBounds_toArray, List.set_cons_zero, List.set_cons_succ]))
    refine plan_row (by simp only [List.getElem?_toArray, List.getElem?_cons_zero, List.getElem?_cons_succ]; rfl) (by rfl) (by rfl) 23 (.tmp 4) rfl w.heap.size (by rfl) _ _ _ hA Tryd.underlying23 rfl (size32.trans (by simp [ha])) ?_
    simp only [Act.put, List.setIfInBounds_toArray, List.set_cons_zero, List.set_cons_succ]
    refine plan_row (by simp only [List.getElem?_toArray, List.getElem?_cons_zero, List.getElem?_cons_succ]; rfl) (by rfl) (by rfl) 23 (.tmp 5) rfl (w.heap.size + 1) (by rfl) _ _ _ hB Tryd.underlying23 rfl (size32.trans (by simp [hb])) ?_
    simp only [Act.put, List.setIfInBounds_toArray, List.set_cons_zero, List.set_cons_succ]
    refine plan_row (by simp only [List.getElem?_toArray, List.getElem?_cons_zero, List.getElem?_cons_succ]; rfl) (by rfl) (by rfl) 23 (.tmp 4) rfl w.heap.size (by rfl) _ _ _ hA Tryd.underlying23 rfl (size32.trans (by simp [ha])) ?_
    simp only [Act.put, List.setIfInBounds_toArray, List.set_cons_zero, List.set_cons_succ]
    refine plan_row (by simp only [List.getElem?_toArray, List.getElem?_cons_zero, List.getElem?_cons_succ]; rfl) (by rfl) (by rfl) 23 (.tmp 5) rfl (w.heap.size + 1) (by rfl) _ _ _ hB Tryd.underlying23 rfl (size32.trans (by simp [hb])) ?_
    simp only [Act.put, List.setIfInBounds_toArray, List.set_cons_zero, List.set_cons_succ]
    refine plan_one ?_
    (refine plan_loud (by simp only [List.getElem?_toArray, List.getElem?_cons_zero, List.getElem?_cons_succ]; rfl) (by rfl) (by rfl) (fun K E hK => ?_); go_big_op)
    change Calls _ _ #[sumV a, sumV b] _ _
    refine (Preimage_calls a b ha hb (grow w2 y4)).mono ?_; rintro e w3 ⟨rfl, hd⟩
    obtain ⟨y5, rfl⟩ := more_ext y4 hd; clear hd
    refine hK _ _ ⟨_, rfl⟩ ?_; clear hK K E
    refine plan_one ?_
    (refine plan_loud (by simp only [List.getElem?_toArray, List.getElem?_cons_zero, List.getElem?_cons_succ]; rfl) (by rfl) (by rfl) (fun K E hK => ?_); go_big_op)
    change Calls _ _ #[sumV a, sumV b] _ _
    refine (refPreimage_calls a b ha hb (grow w2 y5)).mono ?_; rintro e w3 ⟨rfl, hd⟩
    obtain ⟨y6, rfl⟩ := more_ext y5 hd; clear hd
    refine hK _ _ ⟨_, rfl⟩ ?_; clear hK K E
    iterate 3 (first | (refine plan_quiet (by simp only [List.getElem?_toArray, List.getElem?_cons_zero, List.getElem?_cons_succ]; rfl) (by rfl) (by rfl) (fun K hK => ?_); go_big_quiet_op; refine hK _ ?_; clear hK K) | (refine plan_skip (by simp only [List.getElem?_toArray, List.getElem?_cons_zero, List.getElem?_cons_succ]; rfl) (by rfl) ?_; simp only [Act.put, List.setIfInBounds_toArray, List.set_cons_zero, List.set_cons_succ]))
    refine plan_nil ?_
    go_wp2_with fail
    go_ret
    exact ⟨rfl, hE2.trans (grow_ext _)⟩

  · have hI : ¬ (300 : Int) < (s.length : Int) := by omega
    obtain ⟨d, hd⟩ : ∃ d, d = s := ⟨_, rfl⟩
    subst hd
    have hdl : d.length ≤ 300 := by omega
    have heq1 := fun w : World => eq_sum (leafB d) (leafB d) (leafB_length _) (leafB_length _) w
    go_wp2_with fail
    have hKs : ∀ x : More w2, Keys (grow w2 x) := fun x => KW.ext (hE2.trans (grow_ext x))
    refine region_plan 27 (Plan.run [0, 1, 2, 4, 3, 5, 6, 7, 8, 9, 10, 12, 13, 11, 14, 15, 16, 17, 18, 19, 21, 22, 20, 23, 24, 25, 26] .nil) (by kernel_rfl) (by kernel_rfl) (fun y0 => ?_); simp only [Plan.run, List.drop_succ_cons, List.drop_zero, List.drop_nil]
    iterate 4 (first | (refine plan_quiet (by simp only [List.getElem?_toArray, List.getElem?_cons_zero, List.getElem?_cons_succ]; rfl) (by rfl) (by rfl) (fun K hK => ?_); go_big_quiet_op; refine hK _ ?_; clear hK K) | (refine plan_skip (by simp only [List.getElem?_toArray, List.getElem?_cons_zero, List.getElem?_cons_succ]; rfl) (by rfl) ?_; simp only [Act.put, List.setIfInBounds_toArray, List.set_cons_zero, List.set_cons_succ]))
    refine plan_one ?_
    (refine plan_loud (by simp only [List.getElem?_toArray, List.getElem?_cons_zero, List.getElem?_cons_succ]; rfl) (by rfl) (by rfl) (fun K E hK => ?_); go_big_op)
    refine (Leaf_calls d (by omega) (grow w2 y0) (hKs _)).mono ?_; unfold sumV; rintro e w3 ⟨rfl, hd⟩
    obtain ⟨y1, rfl⟩ := more_ext y0 hd; clear hd
    refine hK _ _ ⟨_, rfl⟩ ?_; clear hK K E
    refine plan_one ?_
    (refine plan_loud (by simp only [List.getElem?_toArray, List.getElem?_cons_zero, List.getElem?_cons_succ]; rfl) (by rfl) (by rfl) (fun K E hK => ?_); go_big_op)
    refine (refLeaf_calls d (by omega) (grow w2 y1)).mono ?_; unfold sumV; rintro e w3 ⟨rfl, hd⟩
    obtain ⟨y2, rfl⟩ := more_ext y1 hd; clear hd
    refine hK _ _ ⟨_, rfl⟩ ?_; clear hK K E
    iterate 3 (first | (refine plan_quiet (by simp only [List.getElem?_toArray, List.getElem?_cons_zero, List.getElem?_cons_succ]; rfl) (by rfl) (by rfl) (fun K hK => ?_); go_big_quiet_op; refine hK _ ?_; clear hK K) | (refine plan_skip (by simp only [List.getElem?_toArray, List.getElem?_cons_zero, List.getElem?_cons_succ]; rfl) (by rfl) ?_; simp only [Act.put, List.setIfInBounds_toArray, List.set_cons_zero, List.set_cons_succ]))
    refine plan_row (by simp only [List.getElem?_toArray, List.getElem?_cons_zero, List.getElem?_cons_succ]; rfl) (by rfl) (by rfl) 23 (.tmp 4) rfl w.heap.size (by rfl) _ _ _ hA Tryd.underlying23 rfl (size32.trans (by simp [ha])) ?_
    simp only [Act.put, List.setIfInBounds_toArray, List.set_cons_zero, List.set_cons_succ]
    refine plan_row (by simp only [List.getElem?_toArray, List.getElem?_cons_zero, List.getElem?_cons_succ]; rfl) (by rfl) (by rfl) 23 (.tmp 5) rfl (w.heap.size + 1) (by rfl) _ _ _ hB Tryd.underlying23 rfl (size32.trans (by simp [hb])) ?_
    simp only [Act.put, List.setIfInBounds_toArray, List.set_cons_zero, List.set_cons_succ]
    refine plan_row (by simp only [List.getElem?_toArray, List.getElem?_cons_zero, List.getElem?_cons_succ]; rfl) (by rfl) (by rfl) 23 (.tmp 4) rfl w.heap.size (by rfl) _ _ _ hA Tryd.underlying23 rfl (size32.trans (by simp [ha])) ?_
    simp only [Act.put, List.setIfInBounds_toArray, List.set_cons_zero, List.set_cons_succ]
    refine plan_row (by simp only [List.getElem?_toArray, List.getElem?_cons_zero, List.getElem?_cons_succ]; rfl) (by rfl) (by rfl) 23 (.tmp 5) rfl (w.heap.size + 1) (by rfl) _ _ _ hB Tryd.underlying23 rfl (size32.trans (by simp [hb])) ?_
    simp only [Act.put, List.setIfInBounds_toArray, List.set_cons_zero, List.set_cons_succ]
    refine plan_one ?_
    (refine plan_loud (by simp only [List.getElem?_toArray, List.getElem?_cons_zero, List.getElem?_cons_succ]; rfl) (by rfl) (by rfl) (fun K E hK => ?_); go_big_op)
    change Calls _ _ #[sumV a, sumV b] _ _
    refine (Node_calls a b ha hb (grow w2 y2) (hKs _)).mono ?_; unfold sumV; rintro e w3 ⟨rfl, hd⟩
    obtain ⟨y3, rfl⟩ := more_ext y2 hd; clear hd
    refine hK _ _ ⟨_, rfl⟩ ?_; clear hK K E
    refine plan_one ?_
    (refine plan_loud (by simp only [List.getElem?_toArray, List.getElem?_cons_zero, List.getElem?_cons_succ]; rfl) (by rfl) (by rfl) (fun K E hK => ?_); go_big_op)
    change Calls _ _ #[sumV a, sumV b] _ _
    refine (refNode_calls a b ha hb (grow w2 y3)).mono ?_; unfold sumV; rintro e w3 ⟨rfl, hd⟩
    obtain ⟨y4, rfl⟩ := more_ext y3 hd; clear hd
    refine hK _ _ ⟨_, rfl⟩ ?_; clear hK K E
    iterate 3 (first | (refine plan_quiet (by simp only [List.getElem?_toArray, List.getElem?_cons_zero, List.getElem?_cons_succ]; rfl) (by rfl) (by rfl) (fun K hK => ?_); go_big_quiet_op; refine hK _ ?_; clear hK K) | (refine plan_skip (by simp only [List.getElem?_toArray, List.getElem?_cons_zero, List.getElem?_cons_succ]; rfl) (by rfl) ?_; simp only [Act.put, List.setIfInBounds_toArray, List.set_cons_zero, List.set_cons_succ]))
    refine plan_row (by simp only [List.getElem?_toArray, List.getElem?_cons_zero, List.getElem?_cons_succ]; rfl) (by rfl) (by rfl) 23 (.tmp 4) rfl w.heap.size (by rfl) _ _ _ hA Tryd.underlying23 rfl (size32.trans (by simp [ha])) ?_
    simp only [Act.put, List.setIfInBounds_toArray, List.set_cons_zero, List.set_cons_succ]
    refine plan_row (by simp only [List.getElem?_toArray, List.getElem?_cons_zero, List.getElem?_cons_succ]; rfl) (by rfl) (by rfl) 23 (.tmp 5) rfl (w.heap.size + 1) (by rfl) _ _ _ hB Tryd.underlying23 rfl (size32.trans (by simp [hb])) ?_
    simp only [Act.put, List.setIfInBounds_toArray, List.set_cons_zero, List.set_cons_succ]
    refine plan_row (by simp only [List.getElem?_toArray, List.getElem?_cons_zero, List.getElem?_cons_succ]; rfl) (by rfl) (by rfl) 23 (.tmp 4) rfl w.heap.size (by rfl) _ _ _ hA Tryd.underlying23 rfl (size32.trans (by simp [ha])) ?_
    simp only [Act.put, List.setIfInBounds_toArray, List.set_cons_zero, List.set_cons_succ]
    refine plan_row (by simp only [List.getElem?_toArray, List.getElem?_cons_zero, List.getElem?_cons_succ]; rfl) (by rfl) (by rfl) 23 (.tmp 5) rfl (w.heap.size + 1) (by rfl) _ _ _ hB Tryd.underlying23 rfl (size32.trans (by simp [hb])) ?_
    simp only [Act.put, List.setIfInBounds_toArray, List.set_cons_zero, List.set_cons_succ]
    refine plan_one ?_
    (refine plan_loud (by simp only [List.getElem?_toArray, List.getElem?_cons_zero, List.getElem?_cons_succ]; rfl) (by rfl) (by rfl) (fun K E hK => ?_); go_big_op)
    change Calls _ _ #[sumV a, sumV b] _ _
    refine (Preimage_calls a b ha hb (grow w2 y4)).mono ?_; rintro e w3 ⟨rfl, hd⟩
    obtain ⟨y5, rfl⟩ := more_ext y4 hd; clear hd
    refine hK _ _ ⟨_, rfl⟩ ?_; clear hK K E
    refine plan_one ?_
    (refine plan_loud (by simp only [List.getElem?_toArray, List.getElem?_cons_zero, List.getElem?_cons_succ]; rfl) (by rfl) (by rfl) (fun K E hK => ?_); go_big_op)
    change Calls _ _ #[sumV a, sumV b] _ _
    refine (refPreimage_calls a b ha hb (grow w2 y5)).mono ?_; rintro e w3 ⟨rfl, hd⟩
    obtain ⟨y6, rfl⟩ := more_ext y5 hd; clear hd
    refine hK _ _ ⟨_, rfl⟩ ?_; clear hK K E
    iterate 3 (first | (refine plan_quiet (by simp only [List.getElem?_toArray, List.getElem?_cons_zero, List.getElem?_cons_succ]; rfl) (by rfl) (by rfl) (fun K hK => ?_); go_big_quiet_op; refine hK _ ?_; clear hK K) | (refine plan_skip (by simp only [List.getElem?_toArray, List.getElem?_cons_zero, List.getElem?_cons_succ]; rfl) (by rfl) ?_; simp only [Act.put, List.setIfInBounds_toArray, List.set_cons_zero, List.set_cons_succ]))
    refine plan_nil ?_
    go_wp2_with fail
    go_ret
    exact ⟨rfl, hE2.trans (grow_ext _)⟩

set_option maxRecDepth 100000 in
theorem contract (H : Type) (enc : TypeId × Value → H) (W : World) (base : Nat) (args : Array Value) (ds gs : List (DataW H)) (before : List MemPlace)
    (hval0 : ∀ (j : Nat) t v, Tryd.f3.params[j]? = some t → args[j]? = some v → Value.okWide Tryd.prog W .any base t v)
    (hW : DataW.Whole enc Tryd.prog Tryd.f3.params.toList Rows.leafHashesSpec.vars false W args.toList ds gs before) (hL : laidMetH Tryd.prog Rows.leafHashesRow.laid W) :
    Calls Tryd.prog 3 args W fun e W' => ∃ v, e = .returned v ∧ Rows.leafHashesSpec.post enc Tryd.prog Tryd.f3 false true false false W args v W' := by
  have K : Keys W := keys_of hL
  have hval : ∀ (j : Nat) t v, Tryd.f3.params[j]? = some t → args[j]? = some v → Value.okWide Tryd.prog W .any base t v := hval0
  have hW' := hW
  obtain ⟨p, q, hA0, hV, rfl, hfz, hnd⟩ := hW
  have hA : DataW.TrodAll enc Tryd.prog W 0 (fun _ => true) true Tryd.f3.params.toList args.toList ds p := hA0
  rw [Tryd.params3] at hA hval
  obtain ⟨v0, vs0, d0, ds0, p0, q0, hargs, rfl, rfl, hx0, r0⟩ := trodAll_cons hA
  obtain ⟨v1, vs1, d1, ds1, p1, q1, rfl, rfl, rfl, hx1, r1⟩ := trodAll_cons r0
  obtain ⟨v2, vs2, d2, ds2, p2, q2, rfl, rfl, rfl, hx2, r2⟩ := trodAll_cons r1
  obtain ⟨rfl, rfl, rfl⟩ := trodAll_nil r2
  obtain rfl : args = #[v0, v1, v2] := by cases args; simp_all
  obtain ⟨rfl, rfl⟩ := trodVars_none hV
  obtain ⟨s, rfl, hs⟩ := op_str (hval 0 9 v0 rfl rfl) (tr_of hx0)
  obtain ⟨a, rfl, ha⟩ := op_sum (hval 1 23 v1 rfl rfl) (tr_of hx1)
  obtain ⟨b, rfl, hb⟩ := op_sum (hval 2 23 v2 rfl rfl) (tr_of hx2)
  refine (walk s a b hs ha hb W K).mono fun e W' ⟨he, hg⟩ => ?_
  subst he
  exact ⟨_, rfl, law_post hW' rfl rfl (by kernel_rfl) rfl rfl rfl hg⟩

theorem laid_met (os : Os) : laidMet Tryd.prog Rows.leafHashesRow.laid ((keysWorld os).forCall (fun _ _ => 0) ⟨#[], #[.string .empty, .agg #[.int .u8 0, .int .u8 0, .int .u8 0, .int .u8 0, .int .u8 0, .int .u8 0, .int .u8 0, .int .u8 0, .int .u8 0, .int .u8 0, .int .u8 0, .int .u8 0, .int .u8 0, .int .u8 0, .int .u8 0, .int .u8 0, .int .u8 0, .int .u8 0, .int .u8 0, .int .u8 0, .int .u8 0, .int .u8 0, .int .u8 0, .int .u8 0, .int .u8 0, .int .u8 0, .int .u8 0, .int .u8 0, .int .u8 0, .int .u8 0, .int .u8 0, .int .u8 0], .agg #[.int .u8 0, .int .u8 0, .int .u8 0, .int .u8 0, .int .u8 0, .int .u8 0, .int .u8 0, .int .u8 0, .int .u8 0, .int .u8 0, .int .u8 0, .int .u8 0, .int .u8 0, .int .u8 0, .int .u8 0, .int .u8 0, .int .u8 0, .int .u8 0, .int .u8 0, .int .u8 0, .int .u8 0, .int .u8 0, .int .u8 0, .int .u8 0, .int .u8 0, .int .u8 0, .int .u8 0, .int .u8 0, .int .u8 0, .int .u8 0, .int .u8 0, .int .u8 0]], []⟩).memory :=
  laidMet_of_run' 8 (by kernel_rfl) (by kernel_rfl)
theorem reads (os : Os) {H : Type} (enc : TypeId × Value → H) : ∃ x, DataW.whole enc Tryd.prog ((keysWorld os).forCall (fun _ _ => 0) ⟨#[], #[.string .empty, .agg #[.int .u8 0, .int .u8 0, .int .u8 0, .int .u8 0, .int .u8 0, .int .u8 0, .int .u8 0, .int .u8 0, .int .u8 0, .int .u8 0, .int .u8 0, .int .u8 0, .int .u8 0, .int .u8 0, .int .u8 0, .int .u8 0, .int .u8 0, .int .u8 0, .int .u8 0, .int .u8 0, .int .u8 0, .int .u8 0, .int .u8 0, .int .u8 0, .int .u8 0, .int .u8 0, .int .u8 0, .int .u8 0, .int .u8 0, .int .u8 0, .int .u8 0, .int .u8 0], .agg #[.int .u8 0, .int .u8 0, .int .u8 0, .int .u8 0, .int .u8 0, .int .u8 0, .int .u8 0, .int .u8 0, .int .u8 0, .int .u8 0, .int .u8 0, .int .u8 0, .int .u8 0, .int .u8 0, .int .u8 0, .int .u8 0, .int .u8 0, .int .u8 0, .int .u8 0, .int .u8 0, .int .u8 0, .int .u8 0, .int .u8 0, .int .u8 0, .int .u8 0, .int .u8 0, .int .u8 0, .int .u8 0, .int .u8 0, .int .u8 0, .int .u8 0, .int .u8 0]], []⟩).memory Tryd.f3.params.toList Rows.leafHashesSpec.vars false (#[.string .empty, .agg #[.int .u8 0, .int .u8 0, .int .u8 0, .int .u8 0, .int .u8 0, .int .u8 0, .int .u8 0, .int .u8 0, .int .u8 0, .int .u8 0, .int .u8 0, .int .u8 0, .int .u8 0, .int .u8 0, .int .u8 0, .int .u8 0, .int .u8 0, .int .u8 0, .int .u8 0, .int .u8 0, .int .u8 0, .int .u8 0, .int .u8 0, .int .u8 0, .int .u8 0, .int .u8 0, .int .u8 0, .int .u8 0, .int .u8 0, .int .u8 0, .int .u8 0, .int .u8 0], .agg #[.int .u8 0, .int .u8 0, .int .u8 0, .int .u8 0, .int .u8 0, .int .u8 0, .int .u8 0, .int .u8 0, .int .u8 0, .int .u8 0, .int .u8 0, .int .u8 0, .int .u8 0, .int .u8 0, .int .u8 0, .int .u8 0, .int .u8 0, .int .u8 0, .int .u8 0, .int .u8 0, .int .u8 0, .int .u8 0, .int .u8 0, .int .u8 0, .int .u8 0, .int .u8 0, .int .u8 0, .int .u8 0, .int .u8 0, .int .u8 0, .int .u8 0, .int .u8 0]] : Array Value).toList 8 = some x :=
  Option.isSome_iff_exists.1 (by kernel_rfl)
set_option maxRecDepth 100000 in
theorem lifted (os : Os) (started : os.Started) (H : Type) (enc : TypeId × Value → H) (F : Stop.Interp) :
    ReturnsInHanded {} Tryd.checked os 3 .any ((OpenSpec.ofChange Rows.leafHashesSpec).preRow enc Tryd.prog Tryd.f3 Rows.leafHashesRow.domain false Rows.leafHashesRow.laid) (((OpenSpec.ofChange Rows.leafHashesSpec).at F).post enc Tryd.prog Tryd.f3 false true false false) := by
  obtain ⟨x, hx⟩ := reads os enc
  refine returnsInHanded_of_row (C := Tryd.checked) (s := OpenSpec.ofChange Rows.leafHashesSpec) own_ started (by kernel_rfl) Tryd.func3
    (witness_row_at (enc := enc) (C := Tryd.checked) false (keysWorld os) #[.string .empty, .agg #[.int .u8 0, .int .u8 0, .int .u8 0, .int .u8 0, .int .u8 0, .int .u8 0, .int .u8 0, .int .u8 0, .int .u8 0, .int .u8 0, .int .u8 0, .int .u8 0, .int .u8 0, .int .u8 0, .int .u8 0, .int .u8 0, .int .u8 0, .int .u8 0, .int .u8 0, .int .u8 0, .int .u8 0, .int .u8 0, .int .u8 0, .int .u8 0, .int .u8 0, .int .u8 0, .int .u8 0, .int .u8 0, .int .u8 0, .int .u8 0, .int .u8 0, .int .u8 0], .agg #[.int .u8 0, .int .u8 0, .int .u8 0, .int .u8 0, .int .u8 0, .int .u8 0, .int .u8 0, .int .u8 0, .int .u8 0, .int .u8 0, .int .u8 0, .int .u8 0, .int .u8 0, .int .u8 0, .int .u8 0, .int .u8 0, .int .u8 0, .int .u8 0, .int .u8 0, .int .u8 0, .int .u8 0, .int .u8 0, .int .u8 0, .int .u8 0, .int .u8 0, .int .u8 0, .int .u8 0, .int .u8 0, .int .u8 0, .int .u8 0, .int .u8 0, .int .u8 0]] rfl (by kernel_rfl) (by kernel_rfl) (by kernel_rfl)
      (OpenSpec.preRow_of_cond 8 hx rfl (fun k hk => by cases hk) (by kernel_rfl) (laid_met os))) ?_
  intro W base args ds gs before hval hW _ _ _ hL _ _
  exact contract H enc W base args ds gs before hval hW hL

theorem said : Rows.LeafHashesSaid :=
  OpenClaim.holds_of_cond 3 Tryd.f3 rfl rfl rfl rfl rfl rfl rfl ⟨rfl, rfl, rfl, rfl, rfl⟩ rfl rfl rfl rfl rfl (by kernel_rfl) Tryd.func3 (by kernel_rfl)
    (of_decide_eq_true (by kernel_rfl)) (by unfold Func.isWrapper; first | (rw [if_pos (by decide +kernel)]; kernel_rfl) | (rw [if_neg (by decide +kernel)]; exact ⟨rfl, rfl⟩))
    (fun os started H enc _ F => by rw [OpenClaim.pre_eq_preRow]; exact lifted os started H enc F)
theorem plain (f : FuncId) (fn : Func) (hf : Tryd.pinned.checked.prog.funcNamed "scrinium/scriniumlaw09.LeafHashes" = some f) (hfn : Tryd.pinned.checked.prog.funcs[f]? = some fn) :
    false = Tryd.pinned.checked.prog.looks [] ∧ ∀ (j : Nat) t, fn.params[j]? = some t → Tryd.pinned.checked.prog.wantsStandIn t = false := by
  obtain rfl : f = 3 := Option.some.inj ((show Tryd.prog.funcNamed "scrinium/scriniumlaw09.LeafHashes" = some 3 by kernel_rfl).symm.trans hf) |>.symm
  obtain rfl : fn = Tryd.f3 := (Option.some.inj (Tryd.func3.symm.trans hfn)).symm
  refine ⟨by kernel_rfl, fun j t ht => ?_⟩
  rw [Tryd.params3] at ht
  have hm : t ∈ ([9, 23, 23] : List TypeId) := by simpa using Array.mem_of_getElem? ht
  have hall : (([9, 23, 23] : List TypeId).all fun u => !Tryd.prog.wantsStandIn u) = true := by kernel_rfl
  exact (show Tryd.prog.wantsStandIn t = false by simpa using List.all_eq_true.1 hall t hm)
theorem proved : Rows.LeafHashesCardSaid :=
  Claim7.holds_tied_plain_at .later [] _ _ _ _ said (fun _ h => by cases h) (by kernel_rfl) (fun _ h => by cases h) leafHashes_row_tie rfl ⟨rfl, rfl⟩ (by kernel_rfl) rfl plain (by kernel_rfl)

end Go.Proofs.YtlcimlencoaiiaaDoor.leafHashes
