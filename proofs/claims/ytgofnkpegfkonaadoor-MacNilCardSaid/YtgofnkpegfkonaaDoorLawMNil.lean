/-
  scriniumlaw03.MacNil: of no maker nothing is right; a zero one has the empty key. No condition.
-/
import Derived.Test.YtgofnkpegfkonaaDoorMacA
import Derived.Test.YtgofnkpegfkonaaDoorFew2
import Derived.Deep.DeepCutAuto
set_option linter.unusedVariables false
set_option linter.unusedSimpArgs false
namespace Go.Proofs.YtgofnkpegfkonaaDoor.macNil
open Go.ChangeShapes Go.WideShapes Go.ChangeAt Go.RowKit
attribute [local go_sem] bs_size bs_toList2 bs_append bs_extract_end bs_extract_begin bs_get wrap64_b grow_cell grow_frozen

set_option maxRecDepth 100000 in
theorem MName_nil (w : World) : Calls Tryd.prog 43 #[.pointer none] w fun e w' => e = .returned (sumV (zerosB 32)) ∧ Ext w w' := by
  go_enter Tryd.func43, Tryd.ntmps43
  go_wp2_with fail
  have hR0 : ArrB (w.alloc (.cells ((zerosB 32).map byteV).toArray 33)) w.heap.size 33 (zerosB 32) := Blk.new _ _ _
  have hE0 := (Ext.refl w).alloc (.cells ((zerosB 32).map byteV).toArray 33)
  have hR1 := Blk.alloc hR0 (.cells #[.string ⟨#[110, 97, 109, 101]⟩] 9)
  have hE1 := hE0.alloc (.cells #[.string ⟨#[110, 97, 109, 101]⟩] 9)
  refine (MSum_nil _ _ _ _).mono ?_; rintro e w2 ⟨rfl, e2⟩
  have hR2 := Blk.below hR1 e2 hR1.lt
  have hE2 := hE1.trans e2
  have hml : ((zerosB 32).map byteV).toArray.size = 32 := rfl
  unfold sumV
  go_wp2_with (refine stop_store 33 (.tmp 2) (.tmp 5) rfl ?_)
  refine ⟨?_⟩
  refine wpList_store_row rfl 33 (.tmp 2) (.tmp 5) rfl w.heap.size ((zerosB 32).map byteV).toArray (by rfl) (by rfl) 33 _ hR2 (size32.trans (by rw [hml])) (by rfl) (by simp [byteV, Value.oneCell']) ?_
  simp only [Act.put, List.setIfInBounds_toArray, List.set_cons_zero, List.set_cons_succ]
  go_wp2_with fail
  exact bodyPost_ret (results_cell_row rfl _ _ w.heap.size 33 _ (0, 0) _ rfl (Blk.row hR2 _) Tryd.underlying33 rfl (size32.trans (by rw [hml]))) rfl ⟨rfl, hE2.row (Nat.le_refl _) _⟩


set_option maxRecDepth 100000 in
set_option maxHeartbeats 4000000 in
theorem walk (s : List UInt8) (hs0 : s.length ≤ 9223372036854775807) (w : World) (KW : Keys w) :
    Calls Tryd.prog 14 #[.string (bs s)] w fun e w' => e = .returned (.bool true) ∧ Ext w w' := by
  go_enter Tryd.func14, Tryd.ntmps14
  go_wp2_with fail
  change Calls _ _ _ (w.alloc (.cells #[.pointer none, .pointer none] 65)) _
  have hZ0 : MakerNew (w.alloc (.cells #[.pointer none, .pointer none] 65)) w.heap.size := Blk.new _ _ _
  have hE0 := (Ext.refl w).alloc (.cells #[.pointer none, .pointer none] 65)
  generalize w.alloc (.cells #[.pointer none, .pointer none] 65) = w0 at *
  obtain ⟨gz, hgz⟩ : ∃ gz, gz = w.heap.size := ⟨_, rfl⟩
  rw [← hgz] at hZ0 ⊢
  have Hgz := Lib.hid hgz; clear hgz
  refine (short03_calls s 100 _ hs0 (by omega)).mono ?_; rintro e w2 ⟨rfl, rfl⟩
  have hs : (s.take 100).length ≤ 100 := by simp; omega
  generalize s.take 100 = s at *
  clear hs0
  go_wp2_with fail
  change Code.wp _ _ _ _ (w0.alloc (.cells ((zerosB 32).map byteV).toArray 33))
  have hN : Blk (w0.alloc (.cells ((zerosB 32).map byteV).toArray 33)) w0.heap.size 33 ((zerosB 32).map byteV).toArray := Blk.new _ _ _
  have hZ : MakerNew (w0.alloc (.cells ((zerosB 32).map byteV).toArray 33)) gz := Blk.alloc hZ0 _
  have hE := hE0.alloc (.cells ((zerosB 32).map byteV).toArray 33)
  clear hZ0 hE0
  generalize w0.alloc (.cells ((zerosB 32).map byteV).toArray 33) = w4 at *
  generalize w0.heap.size = gn at *
  have hKs : ∀ x : More w4, Keys (grow w4 x) := fun x => KW.ext (hE.trans (grow_ext x))
  have hZs : ∀ x : More w4, MakerNew (grow w4 x) gz := fun x => hZ.ext (grow_ext x)
  have hml := macOf_length [] s
  obtain ⟨mac, hmac⟩ : ∃ mac, mac = macOf [] s := ⟨_, rfl⟩
  rw [← hmac] at hml
  have Hmac := Lib.hid hmac; clear hmac
  have hj : joinB [s] = s := by simp [joinB]
  have hgw := guard_sum
  have heq1 := fun w : World => eq_sum mac mac hml hml w
  have heq2 := fun w : World => eq_sum (zerosB 32) (zerosB 32) rfl rfl w
  refine region_plan 43 (Plan.run [0, 1, 2, 3, 6, 4, 5, 7, 8, 9, 10, 11, 12, 13, 14, 15, 16, 17, 18, 20, 19, 21, 22, 23, 24, 25, 28] (.two 26 29 (Plan.run [] (.two 27 29 (Plan.run [29, 30, 31, 32, 33, 34, 35, 38] (.two 36 39 (Plan.run [] (.two 37 39 (Plan.run [39, 40, 41, 42] .nil) (Plan.run [37, 40, 41, 42] .nil))) (Plan.run [36, 37, 40, 41, 42] .nil))) (Plan.run [27, 30, 31, 32, 33, 34, 35, 38] (.two 36 39 (Plan.run [] (.two 37 39 (Plan.run [39, 40, 41, 42] .nil) (Plan.run [37, 40, 41, 42] .nil))) (Plan.run [36, 37, 40, 41, 42] .nil))))) (Plan.run [26, 27, 30, 31, 32, 33, 34, 35, 38] (.two 36 39 (Plan.run [] (.two 37 39 (Plan.run [39, 40, 41, 42] .nil) (Plan.run [37, 40, 41, 42] .nil))) (Plan.run [36, 37, 40, 41, 42] .nil))))) (by kernel_rfl) (by kernel_rfl) (fun y0 => ?_); simp only [Plan.run, List.drop_succ_cons, List.drop_zero, List.drop_nil]
  refine plan_one ?_
  (refine plan_loud (by simp only [List.getElem?_toArray, List.getElem?_cons_zero, List.getElem?_cons_succ]; rfl) (by rfl) (by rfl) (fun K E hK => ?_); go_big_op)
  refine (awake03_calls (grow w4 y0) (hKs _)).mono ?_; rintro e w3 ⟨rfl, hd⟩
  obtain ⟨y1, rfl⟩ := more_ext y0 hd; clear hd
  refine hK _ _ ⟨_, rfl⟩ ?_; clear hK K E
  iterate 3 (first | (refine plan_quiet (by simp only [List.getElem?_toArray, List.getElem?_cons_zero, List.getElem?_cons_succ]; rfl) (by rfl) (by rfl) (fun K hK => ?_); go_big_quiet_op; refine hK _ ?_; clear hK K) | (refine plan_skip (by simp only [List.getElem?_toArray, List.getElem?_cons_zero, List.getElem?_cons_succ]; rfl) (by rfl) ?_; simp only [Act.put, List.setIfInBounds_toArray, List.set_cons_zero, List.set_cons_succ]))
  refine plan_row (by simp only [List.getElem?_toArray, List.getElem?_cons_zero, List.getElem?_cons_succ]; rfl) (by rfl) (by rfl) 33 (.tmp 5) rfl gn (by rfl) _ _ _ hN Tryd.underlying33 rfl (size32.trans (by simp [zerosB])) ?_
  simp only [Act.put, List.setIfInBounds_toArray, List.set_cons_zero, List.set_cons_succ]
  refine plan_one ?_
  (refine plan_loud (by simp only [List.getElem?_toArray, List.getElem?_cons_zero, List.getElem?_cons_succ]; rfl) (by rfl) (by rfl) (fun K E hK => ?_); go_big_op)
  obtain ⟨y2, hy2⟩ := more_of ((grow_ext y1).alloc (.cells #[.string (bs s)] 9))
  have h4 : Rd ((grow w4 y1).alloc (.cells #[.string (bs s)] 9)) ((grow w4 y1).alloc (.cells #[.string (bs s)] 9)).heap.size (some ⟨(grow w4 y1).heap.size, 0, none⟩) ([s].map strV) := Blk.rd (Blk.new _ _ _)
  rw [hy2] at h4 ⊢
  clear hy2; generalize (grow w4 y1).heap.size = g4 at *
  refine hK _ _ ⟨_, rfl⟩ ?_; clear hK K E
  refine plan_one ?_
  (refine plan_loud (by simp only [List.getElem?_toArray, List.getElem?_cons_zero, List.getElem?_cons_succ]; rfl) (by rfl) (by rfl) (fun K E hK => ?_); go_big_op)
  refine (MSum_nil _ _ _ (grow w4 y2)).mono ?_; unfold sumV; rintro e w3 ⟨rfl, hd⟩
  obtain ⟨y3, rfl⟩ := more_ext y2 hd; clear hd
  refine hK _ _ ⟨_, rfl⟩ ?_; clear hK K E
  clear h4
  iterate 4 (first | (refine plan_quiet (by simp only [List.getElem?_toArray, List.getElem?_cons_zero, List.getElem?_cons_succ]; rfl) (by rfl) (by rfl) (fun K hK => ?_); go_big_quiet_op; refine hK _ ?_; clear hK K) | (refine plan_skip (by simp only [List.getElem?_toArray, List.getElem?_cons_zero, List.getElem?_cons_succ]; rfl) (by rfl) ?_; simp only [Act.put, List.setIfInBounds_toArray, List.set_cons_zero, List.set_cons_succ]))
  refine plan_row (by simp only [List.getElem?_toArray, List.getElem?_cons_zero, List.getElem?_cons_succ]; rfl) (by rfl) (by rfl) 33 (.tmp 5) rfl gn (by rfl) _ _ _ hN Tryd.underlying33 rfl (size32.trans (by simp [zerosB])) ?_
  simp only [Act.put, List.setIfInBounds_toArray, List.set_cons_zero, List.set_cons_succ]
  iterate 1 (first | (refine plan_quiet (by simp only [List.getElem?_toArray, List.getElem?_cons_zero, List.getElem?_cons_succ]; rfl) (by rfl) (by rfl) (fun K hK => ?_); go_big_quiet_op; refine hK _ ?_; clear hK K) | (refine plan_skip (by simp only [List.getElem?_toArray, List.getElem?_cons_zero, List.getElem?_cons_succ]; rfl) (by rfl) ?_; simp only [Act.put, List.setIfInBounds_toArray, List.set_cons_zero, List.set_cons_succ]))
  refine plan_one ?_
  (refine plan_loud (by simp only [List.getElem?_toArray, List.getElem?_cons_zero, List.getElem?_cons_succ]; rfl) (by rfl) (by rfl) (fun K E hK => ?_); go_big_op)
  obtain ⟨y4, hy4⟩ := more_of ((grow_ext y3).alloc (.cells #[.string (bs s)] 9))
  have h13 : Rd ((grow w4 y3).alloc (.cells #[.string (bs s)] 9)) ((grow w4 y3).alloc (.cells #[.string (bs s)] 9)).heap.size (some ⟨(grow w4 y3).heap.size, 0, none⟩) ([s].map strV) := Blk.rd (Blk.new _ _ _)
  rw [hy4] at h13 ⊢
  clear hy4; generalize (grow w4 y3).heap.size = g13 at *
  refine hK _ _ ⟨_, rfl⟩ ?_; clear hK K E
  refine plan_one ?_
  (refine plan_loud (by simp only [List.getElem?_toArray, List.getElem?_cons_zero, List.getElem?_cons_succ]; rfl) (by rfl) (by rfl) (fun K E hK => ?_); go_big_op)
  change Calls _ _ #[_, sumV (zerosB 32), _] _ _
  refine (MRight_nil (zerosB 32) rfl _ _ _ (grow w4 y4)).mono ?_; rintro e w3 ⟨rfl, hd⟩
  obtain ⟨y5, rfl⟩ := more_ext y4 hd; clear hd
  refine hK _ _ ⟨_, rfl⟩ ?_; clear hK K E
  clear h13
  iterate 4 (first | (refine plan_quiet (by simp only [List.getElem?_toArray, List.getElem?_cons_zero, List.getElem?_cons_succ]; rfl) (by rfl) (by rfl) (fun K hK => ?_); go_big_quiet_op; refine hK _ ?_; clear hK K) | (refine plan_skip (by simp only [List.getElem?_toArray, List.getElem?_cons_zero, List.getElem?_cons_succ]; rfl) (by rfl) ?_; simp only [Act.put, List.setIfInBounds_toArray, List.set_cons_zero, List.set_cons_succ]))
  refine plan_row (by simp only [List.getElem?_toArray, List.getElem?_cons_zero, List.getElem?_cons_succ]; rfl) (by rfl) (by rfl) 33 (.tmp 5) rfl gn (by rfl) _ _ _ hN Tryd.underlying33 rfl (size32.trans (by simp [zerosB])) ?_
  simp only [Act.put, List.setIfInBounds_toArray, List.set_cons_zero, List.set_cons_succ]
  refine plan_one ?_
  (refine plan_loud (by simp only [List.getElem?_toArray, List.getElem?_cons_zero, List.getElem?_cons_succ]; rfl) (by rfl) (by rfl) (fun K E hK => ?_); go_big_op)
  refine (MName_nil (grow w4 y5)).mono ?_; unfold sumV; rintro e w3 ⟨rfl, hd⟩
  obtain ⟨y6, rfl⟩ := more_ext y5 hd; clear hd
  refine hK _ _ ⟨_, rfl⟩ ?_; clear hK K E
  iterate 6 (first | (refine plan_quiet (by simp only [List.getElem?_toArray, List.getElem?_cons_zero, List.getElem?_cons_succ]; rfl) (by rfl) (by rfl) (fun K hK => ?_); go_big_quiet_op; refine hK _ ?_; clear hK K) | (refine plan_skip (by simp only [List.getElem?_toArray, List.getElem?_cons_zero, List.getElem?_cons_succ]; rfl) (by rfl) ?_; simp only [Act.put, List.setIfInBounds_toArray, List.set_cons_zero, List.set_cons_succ]))
  refine plan_two ?_ ?_
  · (refine plan_loud (by simp only [List.getElem?_toArray, List.getElem?_cons_zero, List.getElem?_cons_succ]; rfl) (by rfl) (by rfl) (fun K E hK => ?_); go_big_op)
    obtain ⟨y7, hy7⟩ := more_of ((grow_ext y6).alloc (.cells #[.string (bs s)] 9))
    have h26 : Rd ((grow w4 y6).alloc (.cells #[.string (bs s)] 9)) ((grow w4 y6).alloc (.cells #[.string (bs s)] 9)).heap.size (some ⟨(grow w4 y6).heap.size, 0, none⟩) ([s].map strV) := Blk.rd (Blk.new _ _ _)
    rw [hy7] at h26 ⊢
    clear hy7; generalize (grow w4 y6).heap.size = g26 at *
    refine hK _ _ ⟨_, rfl⟩ ?_; clear hK K E
    refine plan_two ?_ ?_
    · (refine plan_loud (by simp only [List.getElem?_toArray, List.getElem?_cons_zero, List.getElem?_cons_succ]; rfl) (by rfl) (by rfl) (fun K E hK => ?_); go_big_op)
      refine (MSum_new [s] _ 1 gz (grow w4 y7) (hKs _) (hZs _) h26 (by simp) (by rw [hj]; omega)).mono ?_; rw [hj, ← Hmac.out]; unfold sumV; rintro e w3 ⟨rfl, hd⟩
      obtain ⟨y8, rfl⟩ := more_ext y7 hd; clear hd
      refine hK _ _ ⟨_, rfl⟩ ?_; clear hK K E
      clear h26
      refine plan_one ?_
      (refine plan_loud (by simp only [List.getElem?_toArray, List.getElem?_cons_zero, List.getElem?_cons_succ]; rfl) (by rfl) (by rfl) (fun K E hK => ?_); go_big_op)
      obtain ⟨y9, hy9⟩ := more_of ((grow_ext y8).alloc (.cells #[.string (bs s)] 9))
      have h29 : Rd ((grow w4 y8).alloc (.cells #[.string (bs s)] 9)) ((grow w4 y8).alloc (.cells #[.string (bs s)] 9)).heap.size (some ⟨(grow w4 y8).heap.size, 0, none⟩) ([s].map strV) := Blk.rd (Blk.new _ _ _)
      rw [hy9] at h29 ⊢
      clear hy9; generalize (grow w4 y8).heap.size = g29 at *
      refine hK _ _ ⟨_, rfl⟩ ?_; clear hK K E
      refine plan_one ?_
      (refine plan_loud (by simp only [List.getElem?_toArray, List.getElem?_cons_zero, List.getElem?_cons_succ]; rfl) (by rfl) (by rfl) (fun K E hK => ?_); go_big_op)
      change Calls _ _ #[.string (bs []), _] _ _
      refine (MOf_calls [] (by simp) [s] _ 1 (grow w4 y9) (hKs _) h29 (by simp) (by rw [hj]; omega)).mono ?_; rw [hj, ← Hmac.out]; unfold sumV; rintro e w3 ⟨rfl, hd⟩
      obtain ⟨y10, rfl⟩ := more_ext y9 hd; clear hd
      refine hK _ _ ⟨_, rfl⟩ ?_; clear hK K E
      clear h29
      iterate 6 (first | (refine plan_quiet (by simp only [List.getElem?_toArray, List.getElem?_cons_zero, List.getElem?_cons_succ]; rfl) (by rfl) (by rfl) (fun K hK => ?_); go_big_quiet_op; refine hK _ ?_; clear hK K) | (refine plan_skip (by simp only [List.getElem?_toArray, List.getElem?_cons_zero, List.getElem?_cons_succ]; rfl) (by rfl) ?_; simp only [Act.put, List.setIfInBounds_toArray, List.set_cons_zero, List.set_cons_succ]))
      refine plan_two ?_ ?_
      · (refine plan_loud (by simp only [List.getElem?_toArray, List.getElem?_cons_zero, List.getElem?_cons_succ]; rfl) (by rfl) (by rfl) (fun K E hK => ?_); go_big_op)
        obtain ⟨y11, hy11⟩ := more_of ((grow_ext y10).alloc (.cells #[.string (bs s)] 9))
        have h36 : Rd ((grow w4 y10).alloc (.cells #[.string (bs s)] 9)) ((grow w4 y10).alloc (.cells #[.string (bs s)] 9)).heap.size (some ⟨(grow w4 y10).heap.size, 0, none⟩) ([s].map strV) := Blk.rd (Blk.new _ _ _)
        rw [hy11] at h36 ⊢
        clear hy11; generalize (grow w4 y10).heap.size = g36 at *
        refine hK _ _ ⟨_, rfl⟩ ?_; clear hK K E
        refine plan_two ?_ ?_
        · (refine plan_loud (by simp only [List.getElem?_toArray, List.getElem?_cons_zero, List.getElem?_cons_succ]; rfl) (by rfl) (by rfl) (fun K E hK => ?_); go_big_op)
          change Calls _ _ #[.string (bs []), _] _ _
          refine (MOf_calls [] (by simp) [s] _ 1 (grow w4 y11) (hKs _) h36 (by simp) (by rw [hj]; omega)).mono ?_; rw [hj, ← Hmac.out]; rintro e w3 ⟨rfl, hd⟩
          obtain ⟨y12, rfl⟩ := more_ext y11 hd; clear hd
          refine hK _ _ ⟨_, rfl⟩ ?_; clear hK K E
          clear h36
          refine plan_one ?_
          (refine plan_loud (by simp only [List.getElem?_toArray, List.getElem?_cons_zero, List.getElem?_cons_succ]; rfl) (by rfl) (by rfl) (fun K E hK => ?_); go_big_op)
          obtain ⟨y13, hy13⟩ := more_of ((grow_ext y12).alloc (.cells #[.string (bs s)] 9))
          have h39 : Rd ((grow w4 y12).alloc (.cells #[.string (bs s)] 9)) ((grow w4 y12).alloc (.cells #[.string (bs s)] 9)).heap.size (some ⟨(grow w4 y12).heap.size, 0, none⟩) ([s].map strV) := Blk.rd (Blk.new _ _ _)
          rw [hy13] at h39 ⊢
          clear hy13; generalize (grow w4 y12).heap.size = g39 at *
          refine hK _ _ ⟨_, rfl⟩ ?_; clear hK K E
          refine plan_one ?_
          (refine plan_loud (by simp only [List.getElem?_toArray, List.getElem?_cons_zero, List.getElem?_cons_succ]; rfl) (by rfl) (by rfl) (fun K E hK => ?_); go_big_op)
          refine (MRight_new mac hml [s] _ 1 gz (grow w4 y13) (hKs _) (hZs _) h39 (by simp) (by rw [hj]; omega)).mono ?_; rw [hj, ← Hmac.out, show decide (mac = mac) = true from by simp]; rintro e w3 ⟨rfl, hd⟩
          obtain ⟨y14, rfl⟩ := more_ext y13 hd; clear hd
          refine hK _ _ ⟨_, rfl⟩ ?_; clear hK K E
          clear h39
          iterate 2 (first | (refine plan_quiet (by simp only [List.getElem?_toArray, List.getElem?_cons_zero, List.getElem?_cons_succ]; rfl) (by rfl) (by rfl) (fun K hK => ?_); go_big_quiet_op; refine hK _ ?_; clear hK K) | (refine plan_skip (by simp only [List.getElem?_toArray, List.getElem?_cons_zero, List.getElem?_cons_succ]; rfl) (by rfl) ?_; simp only [Act.put, List.setIfInBounds_toArray, List.set_cons_zero, List.set_cons_succ]))
          refine plan_nil ?_
          go_wp2_with fail
          go_ret
          exact ⟨rfl, hE.trans (grow_ext _)⟩
        · (refine plan_loud (by simp only [List.getElem?_toArray, List.getElem?_cons_zero, List.getElem?_cons_succ]; rfl) (by rfl) (by rfl) (fun K E hK => ?_); go_big_op)
          obtain ⟨y15, hy15⟩ := more_of ((grow_ext y11).alloc (.cells #[.string (bs s)] 9))
          have h39 : Rd ((grow w4 y11).alloc (.cells #[.string (bs s)] 9)) ((grow w4 y11).alloc (.cells #[.string (bs s)] 9)).heap.size (some ⟨(grow w4 y11).heap.size, 0, none⟩) ([s].map strV) := Blk.rd (Blk.new _ _ _)
          replace h36 := (h36.below ((Ext.refl _).alloc (.cells #[.string (bs s)] 9)) (Nat.le_refl _)).more ((Ext.refl _).alloc (.cells #[.string (bs s)] 9)).size
          rw [hy15] at h39 h36 ⊢
          clear hy15; generalize (grow w4 y11).heap.size = g39 at *
          refine hK _ _ ⟨_, rfl⟩ ?_; clear hK K E
          refine plan_one ?_
          (refine plan_loud (by simp only [List.getElem?_toArray, List.getElem?_cons_zero, List.getElem?_cons_succ]; rfl) (by rfl) (by rfl) (fun K E hK => ?_); go_big_op)
          change Calls _ _ #[.string (bs []), _] _ _
          refine (MOf_calls [] (by simp) [s] _ 1 (grow w4 y15) (hKs _) h36 (by simp) (by rw [hj]; omega)).mono ?_; rw [hj, ← Hmac.out]; rintro e w3 ⟨rfl, hd⟩
          replace h39 := (h39.below hd (Nat.le_refl _)).more hd.size
          obtain ⟨y16, rfl⟩ := more_ext y15 hd; clear hd
          refine hK _ _ ⟨_, rfl⟩ ?_; clear hK K E
          clear h36
          refine plan_one ?_
          (refine plan_loud (by simp only [List.getElem?_toArray, List.getElem?_cons_zero, List.getElem?_cons_succ]; rfl) (by rfl) (by rfl) (fun K E hK => ?_); go_big_op)
          refine (MRight_new mac hml [s] _ 1 gz (grow w4 y16) (hKs _) (hZs _) h39 (by simp) (by rw [hj]; omega)).mono ?_; rw [hj, ← Hmac.out, show decide (mac = mac) = true from by simp]; rintro e w3 ⟨rfl, hd⟩
          obtain ⟨y17, rfl⟩ := more_ext y16 hd; clear hd
          refine hK _ _ ⟨_, rfl⟩ ?_; clear hK K E
          clear h39
          iterate 2 (first | (refine plan_quiet (by simp only [List.getElem?_toArray, List.getElem?_cons_zero, List.getElem?_cons_succ]; rfl) (by rfl) (by rfl) (fun K hK => ?_); go_big_quiet_op; refine hK _ ?_; clear hK K) | (refine plan_skip (by simp only [List.getElem?_toArray, List.getElem?_cons_zero, List.getElem?_cons_succ]; rfl) (by rfl) ?_; simp only [Act.put, List.setIfInBounds_toArray, List.set_cons_zero, List.set_cons_succ]))
          refine plan_nil ?_
          go_wp2_with fail
          go_ret
          exact ⟨rfl, hE.trans (grow_ext _)⟩
      · (refine plan_loud (by simp only [List.getElem?_toArray, List.getElem?_cons_zero, List.getElem?_cons_succ]; rfl) (by rfl) (by rfl) (fun K E hK => ?_); go_big_op)
        obtain ⟨y18, hy18⟩ := more_of ((grow_ext y10).alloc (.cells #[.string (bs s)] 9))
        have h39 : Rd ((grow w4 y10).alloc (.cells #[.string (bs s)] 9)) ((grow w4 y10).alloc (.cells #[.string (bs s)] 9)).heap.size (some ⟨(grow w4 y10).heap.size, 0, none⟩) ([s].map strV) := Blk.rd (Blk.new _ _ _)
        rw [hy18] at h39 ⊢
        clear hy18; generalize (grow w4 y10).heap.size = g39 at *
        refine hK _ _ ⟨_, rfl⟩ ?_; clear hK K E
        refine plan_one ?_
        (refine plan_loud (by simp only [List.getElem?_toArray, List.getElem?_cons_zero, List.getElem?_cons_succ]; rfl) (by rfl) (by rfl) (fun K E hK => ?_); go_big_op)
        obtain ⟨y19, hy19⟩ := more_of ((grow_ext y18).alloc (.cells #[.string (bs s)] 9))
        have h36 : Rd ((grow w4 y18).alloc (.cells #[.string (bs s)] 9)) ((grow w4 y18).alloc (.cells #[.string (bs s)] 9)).heap.size (some ⟨(grow w4 y18).heap.size, 0, none⟩) ([s].map strV) := Blk.rd (Blk.new _ _ _)
        replace h39 := (h39.below ((Ext.refl _).alloc (.cells #[.string (bs s)] 9)) (Nat.le_refl _)).more ((Ext.refl _).alloc (.cells #[.string (bs s)] 9)).size
        rw [hy19] at h36 h39 ⊢
        clear hy19; generalize (grow w4 y18).heap.size = g36 at *
        refine hK _ _ ⟨_, rfl⟩ ?_; clear hK K E
        refine plan_one ?_
        (refine plan_loud (by simp only [List.getElem?_toArray, List.getElem?_cons_zero, List.getElem?_cons_succ]; rfl) (by rfl) (by rfl) (fun K E hK => ?_); go_big_op)
        change Calls _ _ #[.string (bs []), _] _ _
        refine (MOf_calls [] (by simp) [s] _ 1 (grow w4 y19) (hKs _) h36 (by simp) (by rw [hj]; omega)).mono ?_; rw [hj, ← Hmac.out]; rintro e w3 ⟨rfl, hd⟩
        replace h39 := (h39.below hd (Nat.le_refl _)).more hd.size
        obtain ⟨y20, rfl⟩ := more_ext y19 hd; clear hd
        refine hK _ _ ⟨_, rfl⟩ ?_; clear hK K E
        clear h36
        refine plan_one ?_
        (refine plan_loud (by simp only [List.getElem?_toArray, List.getElem?_cons_zero, List.getElem?_cons_succ]; rfl) (by rfl) (by rfl) (fun K E hK => ?_); go_big_op)
        refine (MRight_new mac hml [s] _ 1 gz (grow w4 y20) (hKs _) (hZs _) h39 (by simp) (by rw [hj]; omega)).mono ?_; rw [hj, ← Hmac.out, show decide (mac = mac) = true from by simp]; rintro e w3 ⟨rfl, hd⟩
        obtain ⟨y21, rfl⟩ := more_ext y20 hd; clear hd
        refine hK _ _ ⟨_, rfl⟩ ?_; clear hK K E
        clear h39
        iterate 2 (first | (refine plan_quiet (by simp only [List.getElem?_toArray, List.getElem?_cons_zero, List.getElem?_cons_succ]; rfl) (by rfl) (by rfl) (fun K hK => ?_); go_big_quiet_op; refine hK _ ?_; clear hK K) | (refine plan_skip (by simp only [List.getElem?_toArray, List.getElem?_cons_zero, List.getElem?_cons_succ]; rfl) (by rfl) ?_; simp only [Act.put, List.setIfInBounds_toArray, List.set_cons_zero, List.set_cons_succ]))
        refine plan_nil ?_
        go_wp2_with fail
        go_ret
        exact ⟨rfl, hE.trans (grow_ext _)⟩
    · (refine plan_loud (by simp only [List.getElem?_toArray, List.getElem?_cons_zero, List.getElem?_cons_succ]; rfl) (by rfl) (by rfl) (fun K E hK => ?_); go_big_op)
      obtain ⟨y22, hy22⟩ := more_of ((grow_ext y7).alloc (.cells #[.string (bs s)] 9))
      have h29 : Rd ((grow w4 y7).alloc (.cells #[.string (bs s)] 9)) ((grow w4 y7).alloc (.cells #[.string (bs s)] 9)).heap.size (some ⟨(grow w4 y7).heap.size, 0, none⟩) ([s].map strV) := Blk.rd (Blk.new _ _ _)
      replace h26 := (h26.below ((Ext.refl _).alloc (.cells #[.string (bs s)] 9)) (Nat.le_refl _)).more ((Ext.refl _).alloc (.cells #[.string (bs s)] 9)).size
      rw [hy22] at h29 h26 ⊢
      clear hy22; generalize (grow w4 y7).heap.size = g29 at *
      refine hK _ _ ⟨_, rfl⟩ ?_; clear hK K E
      refine plan_one ?_
      (refine plan_loud (by simp only [List.getElem?_toArray, List.getElem?_cons_zero, List.getElem?_cons_succ]; rfl) (by rfl) (by rfl) (fun K E hK => ?_); go_big_op)
      refine (MSum_new [s] _ 1 gz (grow w4 y22) (hKs _) (hZs _) h26 (by simp) (by rw [hj]; omega)).mono ?_; rw [hj, ← Hmac.out]; unfold sumV; rintro e w3 ⟨rfl, hd⟩
      replace h29 := (h29.below hd (Nat.le_refl _)).more hd.size
      obtain ⟨y23, rfl⟩ := more_ext y22 hd; clear hd
      refine hK _ _ ⟨_, rfl⟩ ?_; clear hK K E
      clear h26
      refine plan_one ?_
      (refine plan_loud (by simp only [List.getElem?_toArray, List.getElem?_cons_zero, List.getElem?_cons_succ]; rfl) (by rfl) (by rfl) (fun K E hK => ?_); go_big_op)
      change Calls _ _ #[.string (bs []), _] _ _
      refine (MOf_calls [] (by simp) [s] _ 1 (grow w4 y23) (hKs _) h29 (by simp) (by rw [hj]; omega)).mono ?_; rw [hj, ← Hmac.out]; unfold sumV; rintro e w3 ⟨rfl, hd⟩
      obtain ⟨y24, rfl⟩ := more_ext y23 hd; clear hd
      refine hK _ _ ⟨_, rfl⟩ ?_; clear hK K E
      clear h29
      iterate 6 (first | (refine plan_quiet (by simp only [List.getElem?_toArray, List.getElem?_cons_zero, List.getElem?_cons_succ]; rfl) (by rfl) (by rfl) (fun K hK => ?_); go_big_quiet_op; refine hK _ ?_; clear hK K) | (refine plan_skip (by simp only [List.getElem?_toArray, List.getElem?_cons_zero, List.getElem?_cons_succ]; rfl) (by rfl) ?_; simp only [Act.put, List.setIfInBounds_toArray, List.set_cons_zero, List.set_cons_succ]))
      refine plan_two ?_ ?_
      · (refine plan_loud (by simp only [List.getElem?_toArray, List.getElem?_cons_zero, List.getElem?_cons_succ]; rfl) (by rfl) (by rfl) (fun K E hK => ?_); go_big_op)
        obtain ⟨y25, hy25⟩ := more_of ((grow_ext y24).alloc (.cells #[.string (bs s)] 9))
        have h36 : Rd ((grow w4 y24).alloc (.cells #[.string (bs s)] 9)) ((grow w4 y24).alloc (.cells #[.string (bs s)] 9)).heap.size (some ⟨(grow w4 y24).heap.size, 0, none⟩) ([s].map strV) := Blk.rd (Blk.new _ _ _)
        rw [hy25] at h36 ⊢
        clear hy25; generalize (grow w4 y24).heap.size = g36 at *
        refine hK _ _ ⟨_, rfl⟩ ?_; clear hK K E
        refine plan_two ?_ ?_
        · (refine plan_loud (by simp only [List.getElem?_toArray, List.getElem?_cons_zero, List.getElem?_cons_succ]; rfl) (by rfl) (by rfl) (fun K E hK => ?_); go_big_op)
          change Calls _ _ #[.string (bs []), _] _ _
          refine (MOf_calls [] (by simp) [s] _ 1 (grow w4 y25) (hKs _) h36 (by simp) (by rw [hj]; omega)).mono ?_; rw [hj, ← Hmac.out]; rintro e w3 ⟨rfl, hd⟩
          obtain ⟨y26, rfl⟩ := more_ext y25 hd; clear hd
          refine hK _ _ ⟨_, rfl⟩ ?_; clear hK K E
          clear h36
          refine plan_one ?_
          (refine plan_loud (by simp only [List.getElem?_toArray, List.getElem?_cons_zero, List.getElem?_cons_succ]; rfl) (by rfl) (by rfl) (fun K E hK => ?_); go_big_op)
          obtain ⟨y27, hy27⟩ := more_of ((grow_ext y26).alloc (.cells #[.string (bs s)] 9))
          have h39 : Rd ((grow w4 y26).alloc (.cells #[.string (bs s)] 9)) ((grow w4 y26).alloc (.cells #[.string (bs s)] 9)).heap.size (some ⟨(grow w4 y26).heap.size, 0, none⟩) ([s].map strV) := Blk.rd (Blk.new _ _ _)
          rw [hy27] at h39 ⊢
          clear hy27; generalize (grow w4 y26).heap.size = g39 at *
          refine hK _ _ ⟨_, rfl⟩ ?_; clear hK K E
          refine plan_one ?_
          (refine plan_loud (by simp only [List.getElem?_toArray, List.getElem?_cons_zero, List.getElem?_cons_succ]; rfl) (by rfl) (by rfl) (fun K E hK => ?_); go_big_op)
          refine (MRight_new mac hml [s] _ 1 gz (grow w4 y27) (hKs _) (hZs _) h39 (by simp) (by rw [hj]; omega)).mono ?_; rw [hj, ← Hmac.out, show decide (mac = mac) = true from by simp]; rintro e w3 ⟨rfl, hd⟩
          obtain ⟨y28, rfl⟩ := more_ext y27 hd; clear hd
          refine hK _ _ ⟨_, rfl⟩ ?_; clear hK K E
          clear h39
          iterate 2 (first | (refine plan_quiet (by simp only [List.getElem?_toArray, List.getElem?_cons_zero, List.getElem?_cons_succ]; rfl) (by rfl) (by rfl) (fun K hK => ?_); go_big_quiet_op; refine hK _ ?_; clear hK K) | (refine plan_skip (by simp only [List.getElem?_toArray, List.getElem?_cons_zero, List.getElem?_cons_succ]; rfl) (by rfl) ?_; simp only [Act.put, List.setIfInBounds_toArray, List.set_cons_zero, List.set_cons_succ]))
          refine plan_nil ?_
          go_wp2_with fail
          go_ret
          exact ⟨rfl, hE.trans (grow_ext _)⟩
        · (refine plan_loud (by simp only [List.getElem?_toArray, List.getElem?_cons_zero, List.getElem?_cons_succ]; rfl) (by rfl) (by rfl) (fun K E hK => ?_); go_big_op)
          obtain ⟨y29, hy29⟩ := more_of ((grow_ext y25).alloc (.cells #[.string (bs s)] 9))
          have h39 : Rd ((grow w4 y25).alloc (.cells #[.string (bs s)] 9)) ((grow w4 y25).alloc (.cells #[.string (bs s)] 9)).heap.size (some ⟨(grow w4 y25).heap.size, 0, none⟩) ([s].map strV) := Blk.rd (Blk.new _ _ _)
          replace h36 := (h36.below ((Ext.refl _).alloc (.cells #[.string (bs s)] 9)) (Nat.le_refl _)).more ((Ext.refl _).alloc (.cells #[.string (bs s)] 9)).size
          rw [hy29] at h39 h36 ⊢
          clear hy29; generalize (grow w4 y25).heap.size = g39 at *
          refine hK _ _ ⟨_, rfl⟩ ?_; clear hK K E
          refine plan_one ?_
          (refine plan_loud (by simp only [List.getElem?_toArray, List.getElem?_cons_zero, List.getElem?_cons_succ]; rfl) (by rfl) (by rfl) (fun K E hK => ?_); go_big_op)
          change Calls _ _ #[.string (bs []), _] _ _
          refine (MOf_calls [] (by simp) [s] _ 1 (grow w4 y29) (hKs _) h36 (by simp) (by rw [hj]; omega)).mono ?_; rw [hj, ← Hmac.out]; rintro e w3 ⟨rfl, hd⟩
          replace h39 := (h39.below hd (Nat.le_refl _)).more hd.size
          obtain ⟨y30, rfl⟩ := more_ext y29 hd; clear hd
          refine hK _ _ ⟨_, rfl⟩ ?_; clear hK K E
          clear h36
          refine plan_one ?_
          (refine plan_loud (by simp only [List.getElem?_toArray, List.getElem?_cons_zero, List.getElem?_cons_succ]; rfl) (by rfl) (by rfl) (fun K E hK => ?_); go_big_op)
          refine (MRight_new mac hml [s] _ 1 gz (grow w4 y30) (hKs _) (hZs _) h39 (by simp) (by rw [hj]; omega)).mono ?_; rw [hj, ← Hmac.out, show decide (mac = mac) = true from by simp]; rintro e w3 ⟨rfl, hd⟩
          obtain ⟨y31, rfl⟩ := more_ext y30 hd; clear hd
          refine hK _ _ ⟨_, rfl⟩ ?_; clear hK K E
          clear h39
          iterate 2 (first | (refine plan_quiet (by simp only [List.getElem?_toArray, List.getElem?_cons_zero, List.getElem?_cons_succ]; rfl) (by rfl) (by rfl) (fun K hK => ?_); go_big_quiet_op; refine hK _ ?_; clear hK K) | (refine plan_skip (by simp only [List.getElem?_toArray, List.getElem?_cons_zero, List.getElem?_cons_succ]; rfl) (by rfl) ?_; simp only [Act.put, List.setIfInBounds_toArray, List.set_cons_zero, List.set_cons_succ]))
          refine plan_nil ?_
          go_wp2_with fail
          go_ret
          exact ⟨rfl, hE.trans (grow_ext _)⟩
      · (refine plan_loud (by simp only [List.getElem?_toArray, List.getElem?_cons_zero, List.getElem?_cons_succ]; rfl) (by rfl) (by rfl) (fun K E hK => ?_); go_big_op)
        obtain ⟨y32, hy32⟩ := more_of ((grow_ext y24).alloc (.cells #[.string (bs s)] 9))
        have h39 : Rd ((grow w4 y24).alloc (.cells #[.string (bs s)] 9)) ((grow w4 y24).alloc (.cells #[.string (bs s)] 9)).heap.size (some ⟨(grow w4 y24).heap.size, 0, none⟩) ([s].map strV) := Blk.rd (Blk.new _ _ _)
        rw [hy32] at h39 ⊢
        clear hy32; generalize (grow w4 y24).heap.size = g39 at *
        refine hK _ _ ⟨_, rfl⟩ ?_; clear hK K E
        refine plan_one ?_
        (refine plan_loud (by simp only [List.getElem?_toArray, List.getElem?_cons_zero, List.getElem?_cons_succ]; rfl) (by rfl) (by rfl) (fun K E hK => ?_); go_big_op)
        obtain ⟨y33, hy33⟩ := more_of ((grow_ext y32).alloc (.cells #[.string (bs s)] 9))
        have h36 : Rd ((grow w4 y32).alloc (.cells #[.string (bs s)] 9)) ((grow w4 y32).alloc (.cells #[.string (bs s)] 9)).heap.size (some ⟨(grow w4 y32).heap.size, 0, none⟩) ([s].map strV) := Blk.rd (Blk.new _ _ _)
        replace h39 := (h39.below ((Ext.refl _).alloc (.cells #[.string (bs s)] 9)) (Nat.le_refl _)).more ((Ext.refl _).alloc (.cells #[.string (bs s)] 9)).size
        rw [hy33] at h36 h39 ⊢
        clear hy33; generalize (grow w4 y32).heap.size = g36 at *
        refine hK _ _ ⟨_, rfl⟩ ?_; clear hK K E
        refine plan_one ?_
        (refine plan_loud (by simp only [List.getElem?_toArray, List.getElem?_cons_zero, List.getElem?_cons_succ]; rfl) (by rfl) (by rfl) (fun K E hK => ?_); go_big_op)
        change Calls _ _ #[.string (bs []), _] _ _
        refine (MOf_calls [] (by simp) [s] _ 1 (grow w4 y33) (hKs _) h36 (by simp) (by rw [hj]; omega)).mono ?_; rw [hj, ← Hmac.out]; rintro e w3 ⟨rfl, hd⟩
        replace h39 := (h39.below hd (Nat.le_refl _)).more hd.size
        obtain ⟨y34, rfl⟩ := more_ext y33 hd; clear hd
        refine hK _ _ ⟨_, rfl⟩ ?_; clear hK K E
        clear h36
        refine plan_one ?_
        (refine plan_loud (by simp only [List.getElem?_toArray, List.getElem?_cons_zero, List.getElem?_cons_succ]; rfl) (by rfl) (by rfl) (fun K E hK => ?_); go_big_op)
        refine (MRight_new mac hml [s] _ 1 gz (grow w4 y34) (hKs _) (hZs _) h39 (by simp) (by rw [hj]; omega)).mono ?_; rw [hj, ← Hmac.out, show decide (mac = mac) = true from by simp]; rintro e w3 ⟨rfl, hd⟩
        obtain ⟨y35, rfl⟩ := more_ext y34 hd; clear hd
        refine hK _ _ ⟨_, rfl⟩ ?_; clear hK K E
        clear h39
        iterate 2 (first | (refine plan_quiet (by simp only [List.getElem?_toArray, List.getElem?_cons_zero, List.getElem?_cons_succ]; rfl) (by rfl) (by rfl) (fun K hK => ?_); go_big_quiet_op; refine hK _ ?_; clear hK K) | (refine plan_skip (by simp only [List.getElem?_toArray, List.getElem?_cons_zero, List.getElem?_cons_succ]; rfl) (by rfl) ?_; simp only [Act.put, List.setIfInBounds_toArray, List.set_cons_zero, List.set_cons_succ]))
        refine plan_nil ?_
        go_wp2_with fail
        go_ret
        exact ⟨rfl, hE.trans (grow_ext _)⟩
  · (refine plan_loud (by simp only [List.getElem?_toArray, List.getElem?_cons_zero, List.getElem?_cons_succ]; rfl) (by rfl) (by rfl) (fun K E hK => ?_); go_big_op)
    obtain ⟨y36, hy36⟩ := more_of ((grow_ext y6).alloc (.cells #[.string (bs s)] 9))
    have h29 : Rd ((grow w4 y6).alloc (.cells #[.string (bs s)] 9)) ((grow w4 y6).alloc (.cells #[.string (bs s)] 9)).heap.size (some ⟨(grow w4 y6).heap.size, 0, none⟩) ([s].map strV) := Blk.rd (Blk.new _ _ _)
    rw [hy36] at h29 ⊢
    clear hy36; generalize (grow w4 y6).heap.size = g29 at *
    refine hK _ _ ⟨_, rfl⟩ ?_; clear hK K E
    refine plan_one ?_
    (refine plan_loud (by simp only [List.getElem?_toArray, List.getElem?_cons_zero, List.getElem?_cons_succ]; rfl) (by rfl) (by rfl) (fun K E hK => ?_); go_big_op)
    obtain ⟨y37, hy37⟩ := more_of ((grow_ext y36).alloc (.cells #[.string (bs s)] 9))
    have h26 : Rd ((grow w4 y36).alloc (.cells #[.string (bs s)] 9)) ((grow w4 y36).alloc (.cells #[.string (bs s)] 9)).heap.size (some ⟨(grow w4 y36).heap.size, 0, none⟩) ([s].map strV) := Blk.rd (Blk.new _ _ _)
    replace h29 := (h29.below ((Ext.refl _).alloc (.cells #[.string (bs s)] 9)) (Nat.le_refl _)).more ((Ext.refl _).alloc (.cells #[.string (bs s)] 9)).size
    rw [hy37] at h26 h29 ⊢
    clear hy37; generalize (grow w4 y36).heap.size = g26 at *
    refine hK _ _ ⟨_, rfl⟩ ?_; clear hK K E
    refine plan_one ?_
    (refine plan_loud (by simp only [List.getElem?_toArray, List.getElem?_cons_zero, List.getElem?_cons_succ]; rfl) (by rfl) (by rfl) (fun K E hK => ?_); go_big_op)
    refine (MSum_new [s] _ 1 gz (grow w4 y37) (hKs _) (hZs _) h26 (by simp) (by rw [hj]; omega)).mono ?_; rw [hj, ← Hmac.out]; unfold sumV; rintro e w3 ⟨rfl, hd⟩
    replace h29 := (h29.below hd (Nat.le_refl _)).more hd.size
    obtain ⟨y38, rfl⟩ := more_ext y37 hd; clear hd
    refine hK _ _ ⟨_, rfl⟩ ?_; clear hK K E
    clear h26
    refine plan_one ?_
    (refine plan_loud (by simp only [List.getElem?_toArray, List.getElem?_cons_zero, List.getElem?_cons_succ]; rfl) (by rfl) (by rfl) (fun K E hK => ?_); go_big_op)
    change Calls _ _ #[.string (bs []), _] _ _
    refine (MOf_calls [] (by simp) [s] _ 1 (grow w4 y38) (hKs _) h29 (by simp) (by rw [hj]; omega)).mono ?_; rw [hj, ← Hmac.out]; unfold sumV; rintro e w3 ⟨rfl, hd⟩
    obtain ⟨y39, rfl⟩ := more_ext y38 hd; clear hd
    refine hK _ _ ⟨_, rfl⟩ ?_; clear hK K E
    clear h29
    iterate 6 (first | (refine plan_quiet (by simp only [List.getElem?_toArray, List.getElem?_cons_zero, List.getElem?_cons_succ]; rfl) (by rfl) (by rfl) (fun K hK => ?_); go_big_quiet_op; refine hK _ ?_; clear hK K) | (refine plan_skip (by simp only [List.getElem?_toArray, List.getElem?_cons_zero, List.getElem?_cons_succ]; rfl) (by rfl) ?_; simp only [Act.put, List.setIfInBounds_toArray, List.set_cons_zero, List.set_cons_succ]))
    refine plan_two ?_ ?_
    · (refine plan_loud (by simp only [List.getElem?_toArray, List.getElem?_cons_zero, List.getElem?_cons_succ]; rfl) (by rfl) (by rfl) (fun K E hK => ?_); go_big_op)
      obtain ⟨y40, hy40⟩ := more_of ((grow_ext y39).alloc (.cells #[.string (bs s)] 9))
      have h36 : Rd ((grow w4 y39).alloc (.cells #[.string (bs s)] 9)) ((grow w4 y39).alloc (.cells #[.string (bs s)] 9)).heap.size (some ⟨(grow w4 y39).heap.size, 0, none⟩) ([s].map strV) := Blk.rd (Blk.new _ _ _)
      rw [hy40] at h36 ⊢
      clear hy40; generalize (grow w4 y39).heap.size = g36 at *
      refine hK _ _ ⟨_, rfl⟩ ?_; clear hK K E
      refine plan_two ?_ ?_
      · (refine plan_loud (by simp only [List.getElem?_toArray, List.getElem?_cons_zero, List.getElem?_cons_succ]; rfl) (by rfl) (by rfl) (fun K E hK => ?_); go_big_op)
        change Calls _ _ #[.string (bs []), _] _ _
        refine (MOf_calls [] (by simp) [s] _ 1 (grow w4 y40) (hKs _) h36 (by simp) (by rw [hj]; omega)).mono ?_; rw [hj, ← Hmac.out]; rintro e w3 ⟨rfl, hd⟩
        obtain ⟨y41, rfl⟩ := more_ext y40 hd; clear hd
        refine hK _ _ ⟨_, rfl⟩ ?_; clear hK K E
        clear h36
        refine plan_one ?_
        (refine plan_loud (by simp only [List.getElem?_toArray, List.getElem?_cons_zero, List.getElem?_cons_succ]; rfl) (by rfl) (by rfl) (fun K E hK => ?_); go_big_op)
        obtain ⟨y42, hy42⟩ := more_of ((grow_ext y41).alloc (.cells #[.string (bs s)] 9))
        have h39 : Rd ((grow w4 y41).alloc (.cells #[.string (bs s)] 9)) ((grow w4 y41).alloc (.cells #[.string (bs s)] 9)).heap.size (some ⟨(grow w4 y41).heap.size, 0, none⟩) ([s].map strV) := Blk.rd (Blk.new _ _ _)
        rw [hy42] at h39 ⊢
        clear hy42; generalize (grow w4 y41).heap.size = g39 at *
        refine hK _ _ ⟨_, rfl⟩ ?_; clear hK K E
        refine plan_one ?_
        (refine plan_loud (by simp only [List.getElem?_toArray, List.getElem?_cons_zero, List.getElem?_cons_succ]; rfl) (by rfl) (by rfl) (fun K E hK => ?_); go_big_op)
        refine (MRight_new mac hml [s] _ 1 gz (grow w4 y42) (hKs _) (hZs _) h39 (by simp) (by rw [hj]; omega)).mono ?_; rw [hj, ← Hmac.out, show decide (mac = mac) = true from by simp]; rintro e w3 ⟨rfl, hd⟩
        obtain ⟨y43, rfl⟩ := more_ext y42 hd; clear hd
        refine hK _ _ ⟨_, rfl⟩ ?_; clear hK K E
        clear h39
        iterate 2 (first | (refine plan_quiet (by simp only [List.getElem?_toArray, List.getElem?_cons_zero, List.getElem?_cons_succ]; rfl) (by rfl) (by rfl) (fun K hK => ?_); go_big_quiet_op; refine hK _ ?_; clear hK K) | (refine plan_skip (by simp only [List.getElem?_toArray, List.getElem?_cons_zero, List.getElem?_cons_succ]; rfl) (by rfl) ?_; simp only [Act.put, List.setIfInBounds_toArray, List.set_cons_zero, List.set_cons_succ]))
        refine plan_nil ?_
        go_wp2_with fail
        go_ret
        exact ⟨rfl, hE.trans (grow_ext _)⟩
      · (refine plan_loud (by simp only [List.getElem?_toArray, List.getElem?_cons_zero, List.getElem?_cons_succ]; rfl) (by rfl) (by rfl) (fun K E hK => ?_); go_big_op)
        obtain ⟨y44, hy44⟩ := more_of ((grow_ext y40).alloc (.cells #[.string (bs s)] 9))
        have h39 : Rd ((grow w4 y40).alloc (.cells #[.string (bs s)] 9)) ((grow w4 y40).alloc (.cells #[.string (bs s)] 9)).heap.size (some ⟨(grow w4 y40).heap.size, 0, none⟩) ([s].map strV) := Blk.rd (Blk.new _ _ _)
        replace h36 := (h36.below ((Ext.refl _).alloc (.cells #[.string (bs s)] 9)) (Nat.le_refl _)).more ((Ext.refl _).alloc (.cells #[.string (bs s)] 9)).size
        rw [hy44] at h39 h36 ⊢
        clear hy44; generalize (grow w4 y40).heap.size = g39 at *
        refine hK _ _ ⟨_, rfl⟩ ?_; clear hK K E
        refine plan_one ?_
        (refine plan_loud (by simp only [List.getElem?_toArray, List.getElem?_cons_zero, List.getElem?_cons_succ]; rfl) (by rfl) (by rfl) (fun K E hK => ?_); go_big_op)
        change Calls _ _ #[.string (bs []), _] _ _
        refine (MOf_calls [] (by simp) [s] _ 1 (grow w4 y44) (hKs _) h36 (by simp) (by rw [hj]; omega)).mono ?_; rw [hj, ← Hmac.out]; rintro e w3 ⟨rfl, hd⟩
        replace h39 := (h39.below hd (Nat.le_refl _)).more hd.size
        obtain ⟨y45, rfl⟩ := more_ext y44 hd; clear hd
        refine hK _ _ ⟨_, rfl⟩ ?_; clear hK K E
        clear h36
        refine plan_one ?_
        (refine plan_loud (by simp only [List.getElem?_toArray, List.getElem?_cons_zero, List.getElem?_cons_succ]; rfl) (by rfl) (by rfl) (fun K E hK => ?_); go_big_op)
        refine (MRight_new mac hml [s] _ 1 gz (grow w4 y45) (hKs _) (hZs _) h39 (by simp) (by rw [hj]; omega)).mono ?_; rw [hj, ← Hmac.out, show decide (mac = mac) = true from by simp]; rintro e w3 ⟨rfl, hd⟩
        obtain ⟨y46, rfl⟩ := more_ext y45 hd; clear hd
        refine hK _ _ ⟨_, rfl⟩ ?_; clear hK K E
        clear h39
        iterate 2 (first | (refine plan_quiet (by simp only [List.getElem?_toArray, List.getElem?_cons_zero, List.getElem?_cons_succ]; rfl) (by rfl) (by rfl) (fun K hK => ?_); go_big_quiet_op; refine hK _ ?_; clear hK K) | (refine plan_skip (by simp only [List.getElem?_toArray, List.getElem?_cons_zero, List.getElem?_cons_succ]; rfl) (by rfl) ?_; simp only [Act.put, List.setIfInBounds_toArray, List.set_cons_zero, List.set_cons_succ]))
        refine plan_nil ?_
        go_wp2_with fail
        go_ret
        exact ⟨rfl, hE.trans (grow_ext _)⟩
    · (refine plan_loud (by simp only [List.getElem?_toArray, List.getElem?_cons_zero, List.getElem?_cons_succ]; rfl) (by rfl) (by rfl) (fun K E hK => ?_); go_big_op)
      obtain ⟨y47, hy47⟩ := more_of ((grow_ext y39).alloc (.cells #[.string (bs s)] 9))
      have h39 : Rd ((grow w4 y39).alloc (.cells #[.string (bs s)] 9)) ((grow w4 y39).alloc (.cells #[.string (bs s)] 9)).heap.size (some ⟨(grow w4 y39).heap.size, 0, none⟩) ([s].map strV) := Blk.rd (Blk.new _ _ _)
      rw [hy47] at h39 ⊢
      clear hy47; generalize (grow w4 y39).heap.size = g39 at *
      refine hK _ _ ⟨_, rfl⟩ ?_; clear hK K E
      refine plan_one ?_
      (refine plan_loud (by simp only [List.getElem?_toArray, List.getElem?_cons_zero, List.getElem?_cons_succ]; rfl) (by rfl) (by rfl) (fun K E hK => ?_); go_big_op)
      obtain ⟨y48, hy48⟩ := more_of ((grow_ext y47).alloc (.cells #[.string (bs s)] 9))
      have h36 : Rd ((grow w4 y47).alloc (.cells #[.string (bs s)] 9)) ((grow w4 y47).alloc (.cells #[.string (bs s)] 9)).heap.size (some ⟨(grow w4 y47).heap.size, 0, none⟩) ([s].map strV) := Blk.rd (Blk.new _ _ _)
      replace h39 := (h39.below ((Ext.refl _).alloc (.cells #[.string (bs s)] 9)) (Nat.le_refl _)).more ((Ext.refl _).alloc (.cells #[.string (bs s)] 9)).size
      rw [hy48] at h36 h39 ⊢
      clear hy48; generalize (grow w4 y47).heap.size = g36 at *
      refine hK _ _ ⟨_, rfl⟩ ?_; clear hK K E
      refine plan_one ?_
      (refine plan_loud (by simp only [List.getElem?_toArray, List.getElem?_cons_zero, List.getElem?_cons_succ]; rfl) (by rfl) (by rfl) (fun K E hK => ?_); go_big_op)
      change Calls _ _ #[.string (bs []), _] _ _
      refine (MOf_calls [] (by simp) [s] _ 1 (grow w4 y48) (hKs _) h36 (by simp) (by rw [hj]; omega)).mono ?_; rw [hj, ← Hmac.out]; rintro e w3 ⟨rfl, hd⟩
      replace h39 := (h39.below hd (Nat.le_refl _)).more hd.size
      obtain ⟨y49, rfl⟩ := more_ext y48 hd; clear hd
      refine hK _ _ ⟨_, rfl⟩ ?_; clear hK K E
      clear h36
      refine plan_one ?_
      (refine plan_loud (by simp only [List.getElem?_toArray, List.getElem?_cons_zero, List.getElem?_cons_succ]; rfl) (by rfl) (by rfl) (fun K E hK => ?_); go_big_op)
      refine (MRight_new mac hml [s] _ 1 gz (grow w4 y49) (hKs _) (hZs _) h39 (by simp) (by rw [hj]; omega)).mono ?_; rw [hj, ← Hmac.out, show decide (mac = mac) = true from by simp]; rintro e w3 ⟨rfl, hd⟩
      obtain ⟨y50, rfl⟩ := more_ext y49 hd; clear hd
      refine hK _ _ ⟨_, rfl⟩ ?_; clear hK K E
      clear h39
      iterate 2 (first | (refine plan_quiet (by simp only [List.getElem?_toArray, List.getElem?_cons_zero, List.getElem?_cons_succ]; rfl) (by rfl) (by rfl) (fun K hK => ?_); go_big_quiet_op; refine hK _ ?_; clear hK K) | (refine plan_skip (by simp only [List.getElem?_toArray, List.getElem?_cons_zero, List.getElem?_cons_succ]; rfl) (by rfl) ?_; simp only [Act.put, List.setIfInBounds_toArray, List.set_cons_zero, List.set_cons_succ]))
      refine plan_nil ?_
      go_wp2_with fail
      go_ret
      exact ⟨rfl, hE.trans (grow_ext _)⟩

set_option maxRecDepth 100000 in
theorem contract (H : Type) (enc : TypeId × Value → H) (W : World) (base : Nat) (args : Array Value) (ds gs : List (DataW H)) (before : List MemPlace)
    (hval0 : ∀ (j : Nat) t v, Tryd.f14.params[j]? = some t → args[j]? = some v → Value.okWide Tryd.prog W .any base t v)
    (hW : DataW.Whole enc Tryd.prog Tryd.f14.params.toList Rows.macNilSpec.vars false W args.toList ds gs before) (hL : laidMetH Tryd.prog Rows.macNilRow.laid W) :
    Calls Tryd.prog 14 args W fun e W' => ∃ v, e = .returned v ∧ Rows.macNilSpec.post enc Tryd.prog Tryd.f14 false true false false W args v W' := by
  have K : Keys W := keys_of hL
  have hval : ∀ (j : Nat) t v, Tryd.f14.params[j]? = some t → args[j]? = some v → Value.okWide Tryd.prog W .any base t v := hval0
  have hW' := hW
  obtain ⟨p, q, hA0, hV, rfl, hfz, hnd⟩ := hW
  have hA : DataW.TrodAll enc Tryd.prog W 0 (fun _ => true) true Tryd.f14.params.toList args.toList ds p := hA0
  rw [Tryd.params14] at hA hval
  obtain ⟨v0, vs0, d0, ds0, p0, q0, hargs, rfl, rfl, hx0, r0⟩ := trodAll_cons hA
  obtain ⟨rfl, rfl, rfl⟩ := trodAll_nil r0
  obtain rfl : args = #[v0] := by cases args; simp_all
  obtain ⟨rfl, rfl⟩ := trodVars_none hV
  obtain ⟨s, rfl, hs⟩ := op_str (hval 0 9 v0 rfl rfl) (tr_of hx0)
  refine (walk s hs W K).mono fun e W' ⟨he, hg⟩ => ?_
  subst he
  exact ⟨_, rfl, law_post hW' rfl rfl (by kernel_rfl) rfl rfl rfl hg⟩

theorem laid_met (os : Os) : laidMet Tryd.prog Rows.macNilRow.laid ((keysWorld os).forCall (fun _ _ => 0) ⟨#[], #[.string .empty], []⟩).memory :=
  laidMet_of_run' 8 (by kernel_rfl) (by kernel_rfl)
theorem reads (os : Os) {H : Type} (enc : TypeId × Value → H) : ∃ x, DataW.whole enc Tryd.prog ((keysWorld os).forCall (fun _ _ => 0) ⟨#[], #[.string .empty], []⟩).memory Tryd.f14.params.toList Rows.macNilSpec.vars false (#[.string .empty] : Array Value).toList 8 = some x :=
  Option.isSome_iff_exists.1 (by kernel_rfl)
set_option maxRecDepth 100000 in
theorem lifted (os : Os) (started : os.Started) (H : Type) (enc : TypeId × Value → H) (F : Stop.Interp) :
    ReturnsInHanded {} Tryd.checked os 14 .any ((OpenSpec.ofChange Rows.macNilSpec).preRow enc Tryd.prog Tryd.f14 Rows.macNilRow.domain false Rows.macNilRow.laid) (((OpenSpec.ofChange Rows.macNilSpec).at F).post enc Tryd.prog Tryd.f14 false true false false) := by
  obtain ⟨x, hx⟩ := reads os enc
  refine returnsInHanded_of_row (C := Tryd.checked) (s := OpenSpec.ofChange Rows.macNilSpec) own_ started (by kernel_rfl) Tryd.func14
    (witness_row_at (enc := enc) (C := Tryd.checked) false (keysWorld os) #[.string .empty] rfl (by kernel_rfl) (by kernel_rfl) (by kernel_rfl)
      (OpenSpec.preRow_of_cond 8 hx rfl (fun k hk => by cases hk) (by kernel_rfl) (laid_met os))) ?_
  intro W base args ds gs before hval hW _ _ _ hL _ _
  exact contract H enc W base args ds gs before hval hW hL

theorem said : Rows.MacNilSaid :=
  OpenClaim.holds_of_cond 14 Tryd.f14 rfl rfl rfl rfl rfl rfl rfl ⟨rfl, rfl, rfl, rfl, rfl⟩ rfl rfl rfl rfl rfl (by kernel_rfl) Tryd.func14 (by kernel_rfl)
    (of_decide_eq_true (by kernel_rfl)) (by unfold Func.isWrapper; first | (rw [if_pos (by decide +kernel)]; kernel_rfl) | (rw [if_neg (by decide +kernel)]; exact ⟨rfl, rfl⟩))
    (fun os started H enc _ F => by rw [OpenClaim.pre_eq_preRow]; exact lifted os started H enc F)
theorem plain (f : FuncId) (fn : Func) (hf : Tryd.pinned.checked.prog.funcNamed "scrinium/scriniumlaw03.MacNil" = some f) (hfn : Tryd.pinned.checked.prog.funcs[f]? = some fn) :
    false = Tryd.pinned.checked.prog.looks [] ∧ ∀ (j : Nat) t, fn.params[j]? = some t → Tryd.pinned.checked.prog.wantsStandIn t = false := by
  obtain rfl : f = 14 := Option.some.inj ((show Tryd.prog.funcNamed "scrinium/scriniumlaw03.MacNil" = some 14 by kernel_rfl).symm.trans hf) |>.symm
  obtain rfl : fn = Tryd.f14 := (Option.some.inj (Tryd.func14.symm.trans hfn)).symm
  refine ⟨by kernel_rfl, fun j t ht => ?_⟩
  rw [Tryd.params14] at ht
  have hm : t ∈ ([9] : List TypeId) := by simpa using Array.mem_of_getElem? ht
  have hall : (([9] : List TypeId).all fun u => !Tryd.prog.wantsStandIn u) = true := by kernel_rfl
  exact (show Tryd.prog.wantsStandIn t = false by simpa using List.all_eq_true.1 hall t hm)
theorem proved : Rows.MacNilCardSaid :=
  Claim7.holds_tied_plain_at .later [] _ _ _ _ said (fun _ h => by cases h) (by kernel_rfl) (fun _ h => by cases h) macNil_row_tie rfl ⟨rfl, rfl⟩ (by kernel_rfl) rfl plain (by kernel_rfl)

end Go.Proofs.YtgofnkpegfkonaaDoor.macNil
