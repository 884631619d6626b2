/-
  The walks of the document's FreezeBytes, FreezeLeaf, headSays, stoneSays, HeadBytes, StoneBytes, HeadRight, StoneRight, Head, Stone.
-/
import Derived.Test.YtcgnjdkennkheaaDoorSeal4
import Derived.Test.YtcgnjdkennkheaaDoorMacR
import Derived.Test.YtcgnjdkennkheaaDoorL01
set_option linter.unusedVariables false
set_option maxRecDepth 100000
set_option linter.unusedSimpArgs false
namespace Go.Proofs.YtcgnjdkennkheaaDoor
open Go.RowKit
open Seal (Fz Hd St)
attribute [local go_sem] bs_size bs_toList2 bs_append bs_extract_end bs_extract_begin bs_get wrap64_b grow_cell grow_frozen

theorem refSSum_calls (s : List UInt8) (hs : s.length = 32) (w : World) : Calls Tryd.prog 59 #[sumV s] w fun e w' => e = .returned (.string (bs (Oct.text s))) ∧ Ext w w' := by
  unfold sumV
  go_enter Tryd.func59, Tryd.ntmps59
  have hB0 : ArrB (w.alloc (.cells (s.map byteV).toArray 23)) w.heap.size 23 s := Blk.new _ _ _
  have hE0 := (Ext.refl w).alloc (.cells (s.map byteV).toArray 23)
  go_wp2_with (refine stop_load 23 (.tmp 1) rfl ?_)
  refine ⟨?_⟩
  change wpList _ _ _ _ _ (w.alloc (.cells (s.map byteV).toArray 23))
  generalize w.alloc (.cells (s.map byteV).toArray 23) = w0 at *
  go_wp2_with (refine stop_load 23 (.tmp 1) rfl ?_)
  refine ⟨?_⟩
  refine wpList_load_row rfl 23 (.tmp 1) rfl w.heap.size (by rfl) 23 _ (0, 0) _ hB0 Tryd.underlying23 rfl (size32.trans (by simp [hs])) ?_
  simp only [Act.put, List.setIfInBounds_toArray, List.set_cons_zero, List.set_cons_succ]
  go_wp2_with fail
  change Calls _ _ #[sumV s] _ _
  refine (refBytes_calls s hs _).mono ?_; rintro e w1 ⟨rfl, e1⟩
  go_wp2_with fail
  refine (refText_calls s _ (by omega)).mono ?_; rintro e w2 ⟨rfl, e2⟩
  go_wp2_with fail
  go_ret
  exact ⟨rfl, (hE0.trans e1).trans e2⟩
theorem refPut_to (n : Int) (w : World) : Calls Tryd.prog 58 #[.int .u64 (Seal.u64 n : Int)] w fun e w' => e = .returned (.string (bs (Oct.put (Seal.u64 n)))) ∧ Ext w w' := by
  have hu := Seal.u64_lt n
  refine (refPut_calls (Seal.u64 n) w (by omega) (by omega)).mono ?_
  rw [Int.toNat_natCast]
  rintro e w' ⟨rfl, h⟩
  exact ⟨rfl, h⟩

set_option maxHeartbeats 1000000 in
theorem refFreezeBytes_calls (f : Fz) (hf : f.root.length = 32) (w : World) : Calls Tryd.prog 28 #[f.v] w fun e w' => e = .returned (.tuple #[.string (bs f.outB), .int .i64 f.outE]) ∧ Ext w w' := by
  have hB0 : FzAt (w.alloc (.cells f.cells.toArray 27)) w.heap.size f := by
    have := Blk.new w 27 f.cells.toArray
    exact this
  have hE0 : Ext w (w.alloc (.cells f.cells.toArray 27)) := (Ext.refl w).alloc _
  have c0 := hB0.c0
  have c1 := hB0.c1
  by_cases hm : f.may
  · skip
    obtain ⟨ho, he⟩ := Seal.Fz.out_ok f hm
    rw [ho, he]
    obtain ⟨m1, m2, m3, m4⟩ := hm
    have hw1 := u64_wrapS f.win
    have hw2 := u64_wrapS f.cnt
    have l1 := Seal.put_le (Seal.u64 f.win)
    have l2 := Seal.put_le (Seal.u64 f.cnt)
    have l3 := Seal.text_le f.root
    have hj : Seal.Fz.bytes f = (([70] ++ Oct.put (Seal.u64 f.win)) ++ Oct.put (Seal.u64 f.cnt)) ++ Oct.text f.root := by unfold Seal.Fz.bytes; simp
    rw [hj]
    clear ho he hj
    unfold Seal.Fz.v
    go_enter Tryd.func28, Tryd.ntmps28
    go_wp2_with fail
    have hlt : w.heap.size < (w.alloc (.cells f.cells.toArray 27)).heap.size := Blk.lt hB0
    change (Code.region _ _ _).wp _ _ _ (w.alloc (.cells f.cells.toArray 27))
    generalize (w.alloc (.cells f.cells.toArray 27)) = w0 at *
    have hroot := hB0.root
    have a1 : ¬ (9223372036854775807 < (1 : Nat) + (Oct.put (Seal.u64 f.win)).length) := by omega
    have a2 : ¬ (9223372036854775807 < ([70] ++ Oct.put (Seal.u64 f.win)).length + (Oct.put (Seal.u64 f.cnt)).length) := by simp; omega
    have a3 : ¬ (9223372036854775807 < (Oct.put (Seal.u64 f.win)).length + 1 + (Oct.put (Seal.u64 f.cnt)).length) := by omega
    have a4 : ¬ (9223372036854775807 < (([70] ++ Oct.put (Seal.u64 f.win)) ++ Oct.put (Seal.u64 f.cnt)).length + (Oct.text f.root).length) := by simp; omega
    have a5 : ¬ (9223372036854775807 < (Oct.put (Seal.u64 f.win)).length + 1 + (Oct.put (Seal.u64 f.cnt)).length + (Oct.text f.root).length) := by omega
    have a6 : ¬ (9223372036854775807 < (Oct.put (Seal.u64 f.win)).length + ((Oct.put (Seal.u64 f.cnt)).length + 1) + (Oct.text f.root).length) := by omega
    have a7 : ¬ (9223372036854775807 < (Oct.put (Seal.u64 f.win)).length + (Oct.put (Seal.u64 f.cnt)).length + 1 + (Oct.text f.root).length) := by omega
    refine region_mix0 (by kernel_rfl) (by kernel_rfl) (fun x => ?_)
    repeat (first | (refine mix_quiet (by rfl) (by rfl) (fun K hK => ?_); go_big_quiet_op; refine hK _ ?_; clear hK K) | (refine mix_skip (by rfl) ?_; simp only [Act.put, List.setIfInBounds_toArray, List.set_cons_zero, List.set_cons_succ]))
    (refine mix_loud (by rfl) (by rfl) (fun K E hK => ?_); go_big_op)
    refine (refPut_to f.win _).mono ?_; rintro e w3 ⟨rfl, hd⟩
    obtain ⟨x1, rfl⟩ := more_ext x hd
    refine hK _ _ ⟨_, rfl⟩ ?_; clear hK K E hd
    repeat (first | (refine mix_quiet (by rfl) (by rfl) (fun K hK => ?_); go_big_quiet_op; refine hK _ ?_; clear hK K) | (refine mix_skip (by rfl) ?_; simp only [Act.put, List.setIfInBounds_toArray, List.set_cons_zero, List.set_cons_succ]))
    (refine mix_loud (by rfl) (by rfl) (fun K E hK => ?_); go_big_op)
    refine (refPut_to f.cnt _).mono ?_; rintro e w3 ⟨rfl, hd⟩
    obtain ⟨x2, rfl⟩ := more_ext x1 hd
    refine hK _ _ ⟨_, rfl⟩ ?_; clear hK K E hd
    iterate 2 (first | (refine mix_quiet (by rfl) (by rfl) (fun K hK => ?_); go_big_quiet_op; refine hK _ ?_; clear hK K) | (refine mix_skip (by rfl) ?_; simp only [Act.put, List.setIfInBounds_toArray, List.set_cons_zero, List.set_cons_succ]))
    refine mix_mid (by rfl) (by rfl) 23 (.tmp 32) rfl w.heap.size 2 (by rfl) (hcells f.root) _ hroot hlt Tryd.underlying23 rfl (size32l _ hf) ?_
    simp only [Act.put, List.setIfInBounds_toArray, List.set_cons_zero, List.set_cons_succ]
    (refine mix_loud (by rfl) (by rfl) (fun K E hK => ?_); go_big_op)
    refine (refSSum_calls f.root hf _).mono ?_; rintro e w3 ⟨rfl, hd⟩
    obtain ⟨x3, rfl⟩ := more_ext x2 hd
    refine hK _ _ ⟨_, rfl⟩ ?_; clear hK K E hd
    repeat (first | (refine mix_quiet (by rfl) (by rfl) (fun K hK => ?_); go_big_quiet_op; refine hK _ ?_; clear hK K) | (refine mix_skip (by rfl) ?_; simp only [Act.put, List.setIfInBounds_toArray, List.set_cons_zero, List.set_cons_succ]))
    refine mix_nil ?_
    go_wp2_with fail
    go_ret2
    exact ⟨rfl, hE0.trans (grow_ext _)⟩
  · obtain ⟨ho, he⟩ := Seal.Fz.out_no f hm
    rw [ho, he]
    unfold Seal.Fz.may at hm
    clear ho he
    rcases (show f.win < 0 ∨ (0 ≤ f.win ∧ 1125899906842624 < f.win) ∨ (0 ≤ f.win ∧ f.win ≤ 1125899906842624 ∧ f.cnt < 1) ∨ (0 ≤ f.win ∧ f.win ≤ 1125899906842624 ∧ 1 ≤ f.cnt ∧ 4000 < f.cnt) by omega) with h1 | ⟨h1, h2⟩ | ⟨h1, h2, h3⟩ | ⟨h1, h2, h3, h4⟩
    all_goals
      clear hm
      unfold Seal.Fz.v
      go_enter Tryd.func28, Tryd.ntmps28
      go_wp2_with fail
      go_ret2
      exact ⟨rfl, hE0⟩

theorem refFreezeLeaf_calls (f : Fz) (hf : f.root.length = 32) (w : World) : Calls Tryd.prog 32 #[f.v] w fun e w' => e = .returned (sumV (leafB f.outB)) ∧ Ext w w' := by
  have hB0 : FzAt ((w.alloc (.cells f.cells.toArray 27)).alloc (.cells ((zerosB 32).map byteV).toArray 23)) w.heap.size f := by
    have := Blk.new w 27 f.cells.toArray
    exact Blk.alloc (this) _
  have hB1 : ArrB ((w.alloc (.cells f.cells.toArray 27)).alloc (.cells ((zerosB 32).map byteV).toArray 23)) (w.heap.size + 1) 23 (zerosB 32) := by
    have := Blk.new (w.alloc (.cells f.cells.toArray 27)) 23 ((zerosB 32).map byteV).toArray
    rw [alloc_size] at this
    exact this
  have hE0 : Ext w ((w.alloc (.cells f.cells.toArray 27)).alloc (.cells ((zerosB 32).map byteV).toArray 23)) := ((Ext.refl w).alloc _).alloc _
  have hol : f.outB.length ≤ 70 := by
    unfold Seal.Fz.outB
    split
    · exact Seal.Fz.bytes_length f hf
    · simp
  obtain ⟨d, hd⟩ : ∃ d, d = f.outB := ⟨_, rfl⟩
  rw [← hd] at hol ⊢
  have Hd := Lib.hid hd; clear hd
  obtain ⟨z, hz⟩ : ∃ z, z = leafB d := ⟨_, rfl⟩
  rw [← hz]
  have Hz := Lib.hid hz; clear hz
  unfold Seal.Fz.v
  go_enter Tryd.func32, Tryd.ntmps32
  go_wp2_with (refine stop_load 27 (.tmp 1) rfl ?_)
  refine ⟨?_⟩
  change wpList _ _ _ _ _ ((w.alloc (.cells f.cells.toArray 27)).alloc (.cells ((zerosB 32).map byteV).toArray 23))
  generalize ((w.alloc (.cells f.cells.toArray 27)).alloc (.cells ((zerosB 32).map byteV).toArray 23)) = w0 at *
  refine wpList_load_row rfl 27 (.tmp 1) rfl w.heap.size (by rfl) 27 _ (0, 0) _ hB0 Tryd.underlying27 rfl (Seal.size_fz f hf) ?_
  simp only [Act.put, List.setIfInBounds_toArray, List.set_cons_zero, List.set_cons_succ]
  go_wp2_with fail
  change Calls _ _ #[f.v] _ _
  refine (refFreezeBytes_calls f hf _).mono ?_; rw [← Hd.out]; rintro e w1 ⟨rfl, e1⟩
  generalize f.outE = q at *
  have hE1 := hE0.trans e1
  have hR1 := Blk.below hB1 e1 hB1.lt
  go_wp2_with fail
  refine (refLeaf_calls d (by omega) _).mono ?_; rw [← Hz.out]; rintro e w2 ⟨rfl, e2⟩
  have hR2 := Blk.below hR1 e2 (Blk.lt hR1)
  have hE2 := hE1.trans e2
  have hml : (z.map byteV).toArray.size = 32 := by rw [Hz.out]; simp [leafB_length]
  clear Hz
  unfold sumV
  go_wp2_with (refine stop_store 23 (.tmp 2) (.tmp 11) rfl ?_)
  refine ⟨?_⟩
  refine wpList_store_row rfl 23 (.tmp 2) (.tmp 11) rfl (w.heap.size + 1) _ (by rfl) (by rfl) 23 _ hR2 (size32.trans (by rw [hml])) (by rw [hml]; simp [zerosB]) (by simp [byteV, Value.oneCell']) ?_
  simp only [Act.put, List.setIfInBounds_toArray, List.set_cons_zero, List.set_cons_succ]
  go_wp2_with fail
  (try simp only [Exit.inBlock, Exit.then])
  exact bodyPost_ret (results_cell_row rfl _ _ (w.heap.size + 1) 23 _ (0, 0) _ rfl (Blk.row hR2 _) Tryd.underlying23 rfl (size32.trans (by rw [hml]))) rfl ⟨rfl, hE2.row (by omega) _⟩

set_option maxHeartbeats 1000000 in
theorem refHeadSays_calls (f : Hd) (hf : f.root.length = 32) (hg : f.mac.length = 32) (w : World) : Calls Tryd.prog 36 #[f.v] w fun e w' => e = .returned (.tuple #[.string (bs f.saysB), .bool (decide f.may)]) ∧ Ext w w' := by
  have hB0 : HdAt (w.alloc (.cells f.cells.toArray 25)) w.heap.size f := by
    have := Blk.new w 25 f.cells.toArray
    exact this
  have hE0 : Ext w (w.alloc (.cells f.cells.toArray 25)) := (Ext.refl w).alloc _
  have c0 := hB0.c0
  have c1 := hB0.c33 hf
  by_cases hm : f.may
  · skip
    obtain ⟨ho, -, -⟩ := Seal.Hd.out_ok f hm
    rw [ho, decide_eq_true hm]
    obtain ⟨m1, m2, m3, m4⟩ := hm
    have hw1 := u64_wrapS f.size
    have hw2 := u64_wrapS f.clock
    have l1 := Seal.put_le (Seal.u64 f.size)
    have l2 := Seal.put_le (Seal.u64 f.clock)
    have l3 := Seal.text_le f.root
    have hj : Seal.Hd.says f = (([72] ++ Oct.put (Seal.u64 f.size)) ++ Oct.text f.root) ++ Oct.put (Seal.u64 f.clock) := by unfold Seal.Hd.says; simp
    rw [hj]
    clear ho hj
    unfold Seal.Hd.v
    go_enter Tryd.func36, Tryd.ntmps36
    go_wp2_with fail
    have hlt : w.heap.size < (w.alloc (.cells f.cells.toArray 25)).heap.size := Blk.lt hB0
    change (Code.region _ _ _).wp _ _ _ (w.alloc (.cells f.cells.toArray 25))
    generalize (w.alloc (.cells f.cells.toArray 25)) = w0 at *
    have hroot := hB0.root
    have a1 : ¬ (9223372036854775807 < (1 : Nat) + (Oct.put (Seal.u64 f.size)).length) := by omega
    have a2 : ¬ (9223372036854775807 < ([72] ++ Oct.put (Seal.u64 f.size)).length + (Oct.text f.root).length) := by simp; omega
    have a3 : ¬ (9223372036854775807 < (Oct.put (Seal.u64 f.size)).length + 1 + (Oct.text f.root).length) := by omega
    have a4 : ¬ (9223372036854775807 < (([72] ++ Oct.put (Seal.u64 f.size)) ++ Oct.text f.root).length + (Oct.put (Seal.u64 f.clock)).length) := by simp; omega
    have a5 : ¬ (9223372036854775807 < (Oct.put (Seal.u64 f.size)).length + 1 + (Oct.text f.root).length + (Oct.put (Seal.u64 f.clock)).length) := by omega
    have a6 : ¬ (9223372036854775807 < (Oct.put (Seal.u64 f.size)).length + ((Oct.text f.root).length + 1) + (Oct.put (Seal.u64 f.clock)).length) := by omega
    have a7 : ¬ (9223372036854775807 < (Oct.put (Seal.u64 f.size)).length + (Oct.text f.root).length + 1 + (Oct.put (Seal.u64 f.clock)).length) := by omega
    refine region_mix0 (by kernel_rfl) (by kernel_rfl) (fun x => ?_)
    repeat (first | (refine mix_quiet (by rfl) (by rfl) (fun K hK => ?_); go_big_quiet_op; refine hK _ ?_; clear hK K) | (refine mix_skip (by rfl) ?_; simp only [Act.put, List.setIfInBounds_toArray, List.set_cons_zero, List.set_cons_succ]))
    (refine mix_loud (by rfl) (by rfl) (fun K E hK => ?_); go_big_op)
    refine (refPut_to f.size _).mono ?_; rintro e w3 ⟨rfl, hd⟩
    obtain ⟨x1, rfl⟩ := more_ext x hd
    refine hK _ _ ⟨_, rfl⟩ ?_; clear hK K E hd
    iterate 2 (first | (refine mix_quiet (by rfl) (by rfl) (fun K hK => ?_); go_big_quiet_op; refine hK _ ?_; clear hK K) | (refine mix_skip (by rfl) ?_; simp only [Act.put, List.setIfInBounds_toArray, List.set_cons_zero, List.set_cons_succ]))
    refine mix_mid (by rfl) (by rfl) 23 (.tmp 27) rfl w.heap.size 1 (by rfl) (hcells f.root) _ hroot hlt Tryd.underlying23 rfl (size32l _ hf) ?_
    simp only [Act.put, List.setIfInBounds_toArray, List.set_cons_zero, List.set_cons_succ]
    (refine mix_loud (by rfl) (by rfl) (fun K E hK => ?_); go_big_op)
    refine (refSSum_calls f.root hf _).mono ?_; rintro e w3 ⟨rfl, hd⟩
    obtain ⟨x2, rfl⟩ := more_ext x1 hd
    refine hK _ _ ⟨_, rfl⟩ ?_; clear hK K E hd
    repeat (first | (refine mix_quiet (by rfl) (by rfl) (fun K hK => ?_); go_big_quiet_op; refine hK _ ?_; clear hK K) | (refine mix_skip (by rfl) ?_; simp only [Act.put, List.setIfInBounds_toArray, List.set_cons_zero, List.set_cons_succ]))
    (refine mix_loud (by rfl) (by rfl) (fun K E hK => ?_); go_big_op)
    refine (refPut_to f.clock _).mono ?_; rintro e w3 ⟨rfl, hd⟩
    obtain ⟨x3, rfl⟩ := more_ext x2 hd
    refine hK _ _ ⟨_, rfl⟩ ?_; clear hK K E hd
    repeat (first | (refine mix_quiet (by rfl) (by rfl) (fun K hK => ?_); go_big_quiet_op; refine hK _ ?_; clear hK K) | (refine mix_skip (by rfl) ?_; simp only [Act.put, List.setIfInBounds_toArray, List.set_cons_zero, List.set_cons_succ]))
    refine mix_nil ?_
    go_wp2_with fail
    go_ret2
    exact ⟨rfl, hE0.trans (grow_ext _)⟩
  · obtain ⟨ho, -, -⟩ := Seal.Hd.out_no f hm
    rw [ho, decide_eq_false hm]
    unfold Seal.Hd.may at hm
    clear ho
    rcases (show f.size < 0 ∨ (0 ≤ f.size ∧ 1099511627776 < f.size) ∨ (0 ≤ f.size ∧ f.size ≤ 1099511627776 ∧ f.clock < 0) ∨ (0 ≤ f.size ∧ f.size ≤ 1099511627776 ∧ 0 ≤ f.clock ∧ 1125899906842624 < f.clock) by omega) with h1 | ⟨h1, h2⟩ | ⟨h1, h2, h3⟩ | ⟨h1, h2, h3, h4⟩
    all_goals
      clear hm
      unfold Seal.Hd.v
      go_enter Tryd.func36, Tryd.ntmps36
      go_wp2_with fail
      go_ret2
      exact ⟨rfl, hE0⟩

theorem refText_to (s : List UInt8) (w : World) (hs : s.length ≤ 140737488355328) : Calls Tryd.prog 68 #[.string (bs s)] w fun e w' => e = .returned (.string (bs (Oct.text s))) ∧ Ext w w' := refText_calls s w hs
set_option maxHeartbeats 1000000 in
theorem refStoneSays_calls (f : St) (hf : f.fz.root.length = 32) (hg : f.mac.length = 32) (w : World) : Calls Tryd.prog 38 #[f.v] w fun e w' => e = .returned (.tuple #[.string (bs f.saysB), .bool (decide f.may)]) ∧ Ext w w' := by
  have hB0 : StAt (w.alloc (.cells f.cells.toArray 29)) w.heap.size f := by
    have := Blk.new w 29 f.cells.toArray
    exact this
  have hE0 : Ext w (w.alloc (.cells f.cells.toArray 29)) := (Ext.refl w).alloc _
  by_cases hm : f.may
  · skip
    obtain ⟨ho, -, -⟩ := Seal.St.out_ok f hm
    rw [ho, decide_eq_true hm]
    obtain ⟨hoB, hoE⟩ := Seal.Fz.out_ok f.fz hm.1
    obtain ⟨-, m1, m2⟩ := hm
    have hw1 := u64_wrapS f.at_
    have l0 := Seal.Fz.bytes_length f.fz hf
    have l1 := Seal.put_le (Seal.u64 f.at_)
    have l2 := Seal.text_le f.fz.bytes
    have hj : Seal.St.says f = ([84] ++ Oct.text f.fz.bytes) ++ Oct.put (Seal.u64 f.at_) := by unfold Seal.St.says; simp
    rw [hj]
    clear ho hj
    unfold Seal.St.v
    go_enter Tryd.func38, Tryd.ntmps38
    go_wp2_with (refine stop_load 27 (.tmp 7) rfl ?_)
    refine ⟨?_⟩
    change wpList _ _ _ _ _ (w.alloc (.cells f.cells.toArray 29))
    generalize (w.alloc (.cells f.cells.toArray 29)) = w0 at *
    have hfzr := hB0.fz
    refine wpList_load_mid rfl 27 (.tmp 7) rfl w.heap.size 0 (by rfl) (f.fz.cells) _ hfzr Tryd.underlying27 rfl ((Seal.size_fz f.fz hf).trans (by rw [List.size_toArray])) ?_
    simp only [Act.put, List.setIfInBounds_toArray, List.set_cons_zero, List.set_cons_succ]
    go_wp2_with fail
    change Calls _ _ #[f.fz.v] _ _
    refine (refFreezeBytes_calls f.fz hf _).mono ?_; rw [hoB, hoE]; rintro e w1 ⟨rfl, e1⟩
    have hB1 := hB0.ext e1
    have hE1 := hE0.trans e1
    have c34 := hB1.c34 hf
    have hlt := Blk.lt hB1
    go_wp2_with fail
    have a1 : ¬ (9223372036854775807 < (1 : Nat) + (Oct.text f.fz.bytes).length) := by omega
    have a2 : ¬ (9223372036854775807 < ([84] ++ Oct.text f.fz.bytes).length + (Oct.put (Seal.u64 f.at_)).length) := by simp; omega
    have a3 : ¬ (9223372036854775807 < (Oct.text f.fz.bytes).length + 1 + (Oct.put (Seal.u64 f.at_)).length) := by omega
    refine region_mix0 (by kernel_rfl) (by kernel_rfl) (fun x => ?_)
    repeat (first | (refine mix_quiet (by rfl) (by rfl) (fun K hK => ?_); go_big_quiet_op; refine hK _ ?_; clear hK K) | (refine mix_skip (by rfl) ?_; simp only [Act.put, List.setIfInBounds_toArray, List.set_cons_zero, List.set_cons_succ]))
    (refine mix_loud (by rfl) (by rfl) (fun K E hK => ?_); go_big_op)
    refine (refText_to f.fz.bytes _ (by omega)).mono ?_; rintro e w3 ⟨rfl, hd⟩
    obtain ⟨x1, rfl⟩ := more_ext x hd
    refine hK _ _ ⟨_, rfl⟩ ?_; clear hK K E hd
    repeat (first | (refine mix_quiet (by rfl) (by rfl) (fun K hK => ?_); go_big_quiet_op; refine hK _ ?_; clear hK K) | (refine mix_skip (by rfl) ?_; simp only [Act.put, List.setIfInBounds_toArray, List.set_cons_zero, List.set_cons_succ]))
    (refine mix_loud (by rfl) (by rfl) (fun K E hK => ?_); go_big_op)
    refine (refPut_to f.at_ _).mono ?_; rintro e w3 ⟨rfl, hd⟩
    obtain ⟨x2, rfl⟩ := more_ext x1 hd
    refine hK _ _ ⟨_, rfl⟩ ?_; clear hK K E hd
    repeat (first | (refine mix_quiet (by rfl) (by rfl) (fun K hK => ?_); go_big_quiet_op; refine hK _ ?_; clear hK K) | (refine mix_skip (by rfl) ?_; simp only [Act.put, List.setIfInBounds_toArray, List.set_cons_zero, List.set_cons_succ]))
    refine mix_nil ?_
    go_wp2_with fail
    go_ret2
    exact ⟨rfl, hE1.trans (grow_ext _)⟩
  · obtain ⟨ho, -, -⟩ := Seal.St.out_no f hm
    rw [ho, decide_eq_false hm]
    unfold Seal.St.may at hm
    by_cases h1 : f.fz.may
    · obtain ⟨hoB, hoE⟩ := Seal.Fz.out_ok f.fz h1
      rcases (show f.at_ < 0 ∨ (0 ≤ f.at_ ∧ 1125899906842624 < f.at_) by
        by_cases h2 : f.at_ < 0
        · exact .inl h2
        · exact .inr ⟨by omega, by
            by_cases h3 : f.at_ ≤ 1125899906842624
            · exact absurd ⟨h1, by omega, h3⟩ hm
            · omega⟩) with h2 | ⟨h2, h3⟩
      all_goals
        clear h1 hm ho
        unfold Seal.St.v
        go_enter Tryd.func38, Tryd.ntmps38
        go_wp2_with (refine stop_load 27 (.tmp 7) rfl ?_)
        refine ⟨?_⟩
        change wpList _ _ _ _ _ (w.alloc (.cells f.cells.toArray 29))
        generalize (w.alloc (.cells f.cells.toArray 29)) = w0 at *
        have hfzr := hB0.fz
        refine wpList_load_mid rfl 27 (.tmp 7) rfl w.heap.size 0 (by rfl) (f.fz.cells) _ hfzr Tryd.underlying27 rfl ((Seal.size_fz f.fz hf).trans (by rw [List.size_toArray])) ?_
        simp only [Act.put, List.setIfInBounds_toArray, List.set_cons_zero, List.set_cons_succ]
        go_wp2_with fail
        change Calls _ _ #[f.fz.v] _ _
        refine (refFreezeBytes_calls f.fz hf _).mono ?_; rw [hoB, hoE]; rintro e w1 ⟨rfl, e1⟩
        have hB1 := hB0.ext e1
        have hE1 := hE0.trans e1
        have c34 := hB1.c34 hf
        have hlt := Blk.lt hB1
        go_wp2_with fail
        go_ret2
        exact ⟨rfl, hE1⟩
    · obtain ⟨hoB, hoE⟩ := Seal.Fz.out_no f.fz h1
      clear h1 hm ho
      unfold Seal.St.v
      go_enter Tryd.func38, Tryd.ntmps38
      go_wp2_with (refine stop_load 27 (.tmp 7) rfl ?_)
      refine ⟨?_⟩
      change wpList _ _ _ _ _ (w.alloc (.cells f.cells.toArray 29))
      generalize (w.alloc (.cells f.cells.toArray 29)) = w0 at *
      have hfzr := hB0.fz
      refine wpList_load_mid rfl 27 (.tmp 7) rfl w.heap.size 0 (by rfl) (f.fz.cells) _ hfzr Tryd.underlying27 rfl ((Seal.size_fz f.fz hf).trans (by rw [List.size_toArray])) ?_
      simp only [Act.put, List.setIfInBounds_toArray, List.set_cons_zero, List.set_cons_succ]
      go_wp2_with fail
      change Calls _ _ #[f.fz.v] _ _
      refine (refFreezeBytes_calls f.fz hf _).mono ?_; rw [hoB, hoE]; rintro e w1 ⟨rfl, e1⟩
      have hB1 := hB0.ext e1
      have hE1 := hE0.trans e1
      have c34 := hB1.c34 hf
      have hlt := Blk.lt hB1
      go_wp2_with fail
      go_ret2
      exact ⟨rfl, hE1⟩

set_option maxHeartbeats 1000000 in
theorem refHeadBytes_calls (f : Hd) (hf : f.root.length = 32) (hg : f.mac.length = 32) (w : World) : Calls Tryd.prog 29 #[f.v] w fun e w' => e = .returned (.tuple #[.string (bs f.outB), .int .i64 f.outE]) ∧ Ext w w' := by
  have hB0 : HdAt (w.alloc (.cells f.cells.toArray 25)) w.heap.size f := by
    have := Blk.new w 25 f.cells.toArray
    exact this
  have hE0 : Ext w (w.alloc (.cells f.cells.toArray 25)) := (Ext.refl w).alloc _
  by_cases hm : f.may
  · obtain ⟨hs, ho, he⟩ := Seal.Hd.out_ok f hm
    have hb : decide f.may = true := decide_eq_true hm
    have hj : f.says ++ Oct.text f.mac = f.bytes := rfl
    have hjl : ¬ (9223372036854775807 < f.says.length + (Oct.text f.mac).length) := by
      have a := Seal.text_le f.mac
      have b := Seal.Hd.says_length f hf
      omega
    rw [ho, he, ← hj]
    clear hj hm
    unfold Seal.Hd.v
    go_enter Tryd.func29, Tryd.ntmps29
    go_wp2_with (refine stop_load 25 (.tmp 1) rfl ?_)
    refine ⟨?_⟩
    change wpList _ _ _ _ _ (w.alloc (.cells f.cells.toArray 25))
    generalize (w.alloc (.cells f.cells.toArray 25)) = w0 at *
    refine wpList_load_row rfl 25 (.tmp 1) rfl w.heap.size (by rfl) 25 _ (0, 0) _ hB0 Tryd.underlying25 rfl (Seal.size_hd f hf hg) ?_
    simp only [Act.put, List.setIfInBounds_toArray, List.set_cons_zero, List.set_cons_succ]
    go_wp2_with fail
    change Calls _ _ #[f.v] _ _
    refine (refHeadSays_calls f hf hg _).mono ?_; rw [hs, hb]; rintro e w1 ⟨rfl, e1⟩
    have hB1 := HdAt.ext hB0 e1
    have hE1 := hE0.trans e1
    clear hB0 hE0 e1 hs ho he
    have hmac := HdAt.mac hB1 hf
    have hlt := Blk.lt hB1
    go_wp2_with (refine stop_load 23 (.tmp 14) rfl ?_)
    refine ⟨?_⟩
    refine wpList_load_mid rfl 23 (.tmp 14) rfl w.heap.size 34 (by rfl) (hcells f.mac) _ hmac Tryd.underlying23 rfl (size32l _ hg) ?_
    simp only [Act.put, List.setIfInBounds_toArray, List.set_cons_zero, List.set_cons_succ]
    go_wp2_with fail
    change Calls _ _ #[sumV f.mac] _ _
    refine (refSSum_calls f.mac hg _).mono ?_; rintro e w2 ⟨rfl, e2⟩
    have hE2 := hE1.trans e2
    go_wp2_with fail
    go_ret2
    exact ⟨rfl, hE2⟩
  · obtain ⟨hs, ho, he⟩ := Seal.Hd.out_no f hm
    have hb : decide f.may = false := decide_eq_false hm
    rw [ho, he]
    clear hm
    unfold Seal.Hd.v
    go_enter Tryd.func29, Tryd.ntmps29
    go_wp2_with (refine stop_load 25 (.tmp 1) rfl ?_)
    refine ⟨?_⟩
    change wpList _ _ _ _ _ (w.alloc (.cells f.cells.toArray 25))
    generalize (w.alloc (.cells f.cells.toArray 25)) = w0 at *
    refine wpList_load_row rfl 25 (.tmp 1) rfl w.heap.size (by rfl) 25 _ (0, 0) _ hB0 Tryd.underlying25 rfl (Seal.size_hd f hf hg) ?_
    simp only [Act.put, List.setIfInBounds_toArray, List.set_cons_zero, List.set_cons_succ]
    go_wp2_with fail
    change Calls _ _ #[f.v] _ _
    refine (refHeadSays_calls f hf hg _).mono ?_; rw [hs, hb]; rintro e w1 ⟨rfl, e1⟩
    have hB1 := HdAt.ext hB0 e1
    have hE1 := hE0.trans e1
    clear hB0 hE0 e1 hs ho he
    go_wp2_with fail
    go_ret2
    exact ⟨rfl, hE1⟩

set_option maxHeartbeats 1000000 in
theorem refHeadRight_calls (key : List UInt8) (hk : key.length ≤ 4611686018427387904) (f : Hd) (hf : f.root.length = 32) (hg : f.mac.length = 32) (w : World) : Calls Tryd.prog 16 #[.string (bs key), f.v] w fun e w' => e = .returned (.bool (f.rightB key)) ∧ Ext w w' := by
  have hB0 : HdAt (w.alloc (.cells f.cells.toArray 25)) w.heap.size f := by
    have := Blk.new w 25 f.cells.toArray
    exact this
  have hE0 : Ext w (w.alloc (.cells f.cells.toArray 25)) := (Ext.refl w).alloc _
  obtain ⟨r, hr⟩ : ∃ r, r = f.rightB key := ⟨_, rfl⟩
  rw [← hr]
  by_cases hm : f.may
  · obtain ⟨hs, ho, he⟩ := Seal.Hd.out_ok f hm
    have hb : decide f.may = true := decide_eq_true hm
    obtain ⟨z, hz⟩ : ∃ z, z = macOf key f.says := ⟨_, rfl⟩
    have hz32 : z.length = 32 := by rw [hz]; exact macOf_length _ _
    have hr2 : decide (f.mac = z) = r := by
      rw [hr, hz]
      unfold Seal.Hd.rightB
      rw [Bool.eq_iff_iff, decide_eq_true_eq, decide_eq_true_eq]
      exact ⟨fun h => ⟨hm, h⟩, fun h => h.2⟩
    have heq := fun w : World => eq_sum f.mac z hg hz32 w
    rw [hr2] at heq
    have hgw := guard_sum
    have hsl := Seal.Hd.says_length f hf
    have Hz := Lib.hid hz; clear hr hr2 hm hz
    unfold Seal.Hd.v
    go_enter Tryd.func16, Tryd.ntmps16
    go_wp2_with (refine stop_load 25 (.tmp 3) rfl ?_)
    refine ⟨?_⟩
    change wpList _ _ _ _ _ (w.alloc (.cells f.cells.toArray 25))
    generalize (w.alloc (.cells f.cells.toArray 25)) = w0 at *
    refine wpList_load_row rfl 25 (.tmp 3) rfl w.heap.size (by rfl) 25 _ (0, 0) _ hB0 Tryd.underlying25 rfl (Seal.size_hd f hf hg) ?_
    simp only [Act.put, List.setIfInBounds_toArray, List.set_cons_zero, List.set_cons_succ]
    go_wp2_with fail
    change Calls _ _ #[f.v] _ _
    refine (refHeadSays_calls f hf hg _).mono ?_; rw [hs, hb]; rintro e w1 ⟨rfl, e1⟩
    have hB1 := HdAt.ext hB0 e1
    have hE1 := hE0.trans e1
    clear hB0 hE0 e1 hs ho he
    have hmac := HdAt.mac hB1 hf
    have hlt := Blk.lt hB1
    go_wp2_with fail
    refine region_mix0 (by kernel_rfl) (by kernel_rfl) (fun x => ?_)
    iterate 3 (first | (refine mix_quiet (by rfl) (by rfl) (fun K hK => ?_); go_big_quiet_op; refine hK _ ?_; clear hK K) | (refine mix_skip (by rfl) ?_; simp only [Act.put, List.setIfInBounds_toArray, List.set_cons_zero, List.set_cons_succ]))
    refine mix_mid (by rfl) (by rfl) 23 (.tmp 14) rfl w.heap.size 34 (by rfl) (hcells f.mac) _ hmac hlt Tryd.underlying23 rfl (size32l _ hg) ?_
    simp only [Act.put, List.setIfInBounds_toArray, List.set_cons_zero, List.set_cons_succ]
    unfold hcells
    repeat (first | (refine mix_quiet (by rfl) (by rfl) (fun K hK => ?_); go_big_quiet_op; refine hK _ ?_; clear hK K) | (refine mix_skip (by rfl) ?_; simp only [Act.put, List.setIfInBounds_toArray, List.set_cons_zero, List.set_cons_succ]))
    (refine mix_loud (by rfl) (by rfl) (fun K E hK => ?_); go_big_op)
    refine (refMac_calls key f.says hk (by omega) _).mono ?_; rw [← Hz.out]; rintro e w3 ⟨rfl, hd⟩
    obtain ⟨x1, rfl⟩ := more_ext x hd
    refine hK _ _ ⟨_, rfl⟩ ?_; clear hK K E hd
    unfold sumV
    repeat (first | (refine mix_quiet (by rfl) (by rfl) (fun K hK => ?_); go_big_quiet_op; refine hK _ ?_; clear hK K) | (refine mix_skip (by rfl) ?_; simp only [Act.put, List.setIfInBounds_toArray, List.set_cons_zero, List.set_cons_succ]))
    refine mix_nil ?_
    go_wp2_with fail
    go_ret
    exact ⟨rfl, hE1.trans (grow_ext _)⟩
  · obtain ⟨hs, ho, he⟩ := Seal.Hd.out_no f hm
    have hb : decide f.may = false := decide_eq_false hm
    have hr2 : r = false := by
      rw [hr]
      unfold Seal.Hd.rightB
      rw [decide_eq_false_iff_not]
      exact fun h => hm h.1
    subst hr2
    clear hm hr
    unfold Seal.Hd.v
    go_enter Tryd.func16, Tryd.ntmps16
    go_wp2_with (refine stop_load 25 (.tmp 3) rfl ?_)
    refine ⟨?_⟩
    change wpList _ _ _ _ _ (w.alloc (.cells f.cells.toArray 25))
    generalize (w.alloc (.cells f.cells.toArray 25)) = w0 at *
    refine wpList_load_row rfl 25 (.tmp 3) rfl w.heap.size (by rfl) 25 _ (0, 0) _ hB0 Tryd.underlying25 rfl (Seal.size_hd f hf hg) ?_
    simp only [Act.put, List.setIfInBounds_toArray, List.set_cons_zero, List.set_cons_succ]
    go_wp2_with fail
    change Calls _ _ #[f.v] _ _
    refine (refHeadSays_calls f hf hg _).mono ?_; rw [hs, hb]; rintro e w1 ⟨rfl, e1⟩
    have hB1 := HdAt.ext hB0 e1
    have hE1 := hE0.trans e1
    clear hB0 hE0 e1 hs ho he
    go_wp2_with fail
    refine region_mix0 (by kernel_rfl) (by kernel_rfl) (fun x => ?_)
    repeat (first | (refine mix_quiet (by rfl) (by rfl) (fun K hK => ?_); go_big_quiet_op; refine hK _ ?_; clear hK K) | (refine mix_skip (by rfl) ?_; simp only [Act.put, List.setIfInBounds_toArray, List.set_cons_zero, List.set_cons_succ]))
    refine mix_nil ?_
    go_wp2_with fail
    go_ret
    exact ⟨rfl, hE1.trans (grow_ext _)⟩

set_option maxHeartbeats 1000000 in
theorem refStoneBytes_calls (f : St) (hf : f.fz.root.length = 32) (hg : f.mac.length = 32) (w : World) : Calls Tryd.prog 30 #[f.v] w fun e w' => e = .returned (.tuple #[.string (bs f.outB), .int .i64 f.outE]) ∧ Ext w w' := by
  have hB0 : StAt (w.alloc (.cells f.cells.toArray 29)) w.heap.size f := by
    have := Blk.new w 29 f.cells.toArray
    exact this
  have hE0 : Ext w (w.alloc (.cells f.cells.toArray 29)) := (Ext.refl w).alloc _
  by_cases hm : f.may
  · obtain ⟨hs, ho, he⟩ := Seal.St.out_ok f hm
    have hb : decide f.may = true := decide_eq_true hm
    have hj : f.says ++ Oct.text f.mac = f.bytes := rfl
    have hjl : ¬ (9223372036854775807 < f.says.length + (Oct.text f.mac).length) := by
      have a := Seal.text_le f.mac
      have b := Seal.St.says_length f hf
      omega
    rw [ho, he, ← hj]
    clear hj hm
    unfold Seal.St.v
    go_enter Tryd.func30, Tryd.ntmps30
    go_wp2_with (refine stop_load 29 (.tmp 1) rfl ?_)
    refine ⟨?_⟩
    change wpList _ _ _ _ _ (w.alloc (.cells f.cells.toArray 29))
    generalize (w.alloc (.cells f.cells.toArray 29)) = w0 at *
    refine wpList_load_row rfl 29 (.tmp 1) rfl w.heap.size (by rfl) 29 _ (0, 0) _ hB0 Tryd.underlying29 rfl (Seal.size_st f hf hg) ?_
    simp only [Act.put, List.setIfInBounds_toArray, List.set_cons_zero, List.set_cons_succ]
    go_wp2_with fail
    change Calls _ _ #[f.v] _ _
    refine (refStoneSays_calls f hf hg _).mono ?_; rw [hs, hb]; rintro e w1 ⟨rfl, e1⟩
    have hB1 := StAt.ext hB0 e1
    have hE1 := hE0.trans e1
    clear hB0 hE0 e1 hs ho he
    have hmac := StAt.mac hB1 hf
    have hlt := Blk.lt hB1
    go_wp2_with (refine stop_load 23 (.tmp 14) rfl ?_)
    refine ⟨?_⟩
    refine wpList_load_mid rfl 23 (.tmp 14) rfl w.heap.size 35 (by rfl) (hcells f.mac) _ hmac Tryd.underlying23 rfl (size32l _ hg) ?_
    simp only [Act.put, List.setIfInBounds_toArray, List.set_cons_zero, List.set_cons_succ]
    go_wp2_with fail
    change Calls _ _ #[sumV f.mac] _ _
    refine (refSSum_calls f.mac hg _).mono ?_; rintro e w2 ⟨rfl, e2⟩
    have hE2 := hE1.trans e2
    go_wp2_with fail
    go_ret2
    exact ⟨rfl, hE2⟩
  · obtain ⟨hs, ho, he⟩ := Seal.St.out_no f hm
    have hb : decide f.may = false := decide_eq_false hm
    rw [ho, he]
    clear hm
    unfold Seal.St.v
    go_enter Tryd.func30, Tryd.ntmps30
    go_wp2_with (refine stop_load 29 (.tmp 1) rfl ?_)
    refine ⟨?_⟩
    change wpList _ _ _ _ _ (w.alloc (.cells f.cells.toArray 29))
    generalize (w.alloc (.cells f.cells.toArray 29)) = w0 at *
    refine wpList_load_row rfl 29 (.tmp 1) rfl w.heap.size (by rfl) 29 _ (0, 0) _ hB0 Tryd.underlying29 rfl (Seal.size_st f hf hg) ?_
    simp only [Act.put, List.setIfInBounds_toArray, List.set_cons_zero, List.set_cons_succ]
    go_wp2_with fail
    change Calls _ _ #[f.v] _ _
    refine (refStoneSays_calls f hf hg _).mono ?_; rw [hs, hb]; rintro e w1 ⟨rfl, e1⟩
    have hB1 := StAt.ext hB0 e1
    have hE1 := hE0.trans e1
    clear hB0 hE0 e1 hs ho he
    go_wp2_with fail
    go_ret2
    exact ⟨rfl, hE1⟩

set_option maxHeartbeats 1000000 in
theorem refStoneRight_calls (key : List UInt8) (hk : key.length ≤ 4611686018427387904) (f : St) (hf : f.fz.root.length = 32) (hg : f.mac.length = 32) (w : World) : Calls Tryd.prog 18 #[.string (bs key), f.v] w fun e w' => e = .returned (.bool (f.rightB key)) ∧ Ext w w' := by
  have hB0 : StAt (w.alloc (.cells f.cells.toArray 29)) w.heap.size f := by
    have := Blk.new w 29 f.cells.toArray
    exact this
  have hE0 : Ext w (w.alloc (.cells f.cells.toArray 29)) := (Ext.refl w).alloc _
  obtain ⟨r, hr⟩ : ∃ r, r = f.rightB key := ⟨_, rfl⟩
  rw [← hr]
  by_cases hm : f.may
  · obtain ⟨hs, ho, he⟩ := Seal.St.out_ok f hm
    have hb : decide f.may = true := decide_eq_true hm
    obtain ⟨z, hz⟩ : ∃ z, z = macOf key f.says := ⟨_, rfl⟩
    have hz32 : z.length = 32 := by rw [hz]; exact macOf_length _ _
    have hr2 : decide (f.mac = z) = r := by
      rw [hr, hz]
      unfold Seal.St.rightB
      rw [Bool.eq_iff_iff, decide_eq_true_eq, decide_eq_true_eq]
      exact ⟨fun h => ⟨hm, h⟩, fun h => h.2⟩
    have heq := fun w : World => eq_sum f.mac z hg hz32 w
    rw [hr2] at heq
    have hgw := guard_sum
    have hsl := Seal.St.says_length f hf
    have Hz := Lib.hid hz; clear hr hr2 hm hz
    unfold Seal.St.v
    go_enter Tryd.func18, Tryd.ntmps18
    go_wp2_with (refine stop_load 29 (.tmp 3) rfl ?_)
    refine ⟨?_⟩
    change wpList _ _ _ _ _ (w.alloc (.cells f.cells.toArray 29))
    generalize (w.alloc (.cells f.cells.toArray 29)) = w0 at *
    refine wpList_load_row rfl 29 (.tmp 3) rfl w.heap.size (by rfl) 29 _ (0, 0) _ hB0 Tryd.underlying29 rfl (Seal.size_st f hf hg) ?_
    simp only [Act.put, List.setIfInBounds_toArray, List.set_cons_zero, List.set_cons_succ]
    go_wp2_with fail
    change Calls _ _ #[f.v] _ _
    refine (refStoneSays_calls f hf hg _).mono ?_; rw [hs, hb]; rintro e w1 ⟨rfl, e1⟩
    have hB1 := StAt.ext hB0 e1
    have hE1 := hE0.trans e1
    clear hB0 hE0 e1 hs ho he
    have hmac := StAt.mac hB1 hf
    have hlt := Blk.lt hB1
    go_wp2_with fail
    refine region_mix0 (by kernel_rfl) (by kernel_rfl) (fun x => ?_)
    iterate 3 (first | (refine mix_quiet (by rfl) (by rfl) (fun K hK => ?_); go_big_quiet_op; refine hK _ ?_; clear hK K) | (refine mix_skip (by rfl) ?_; simp only [Act.put, List.setIfInBounds_toArray, List.set_cons_zero, List.set_cons_succ]))
    refine mix_mid (by rfl) (by rfl) 23 (.tmp 14) rfl w.heap.size 35 (by rfl) (hcells f.mac) _ hmac hlt Tryd.underlying23 rfl (size32l _ hg) ?_
    simp only [Act.put, List.setIfInBounds_toArray, List.set_cons_zero, List.set_cons_succ]
    unfold hcells
    repeat (first | (refine mix_quiet (by rfl) (by rfl) (fun K hK => ?_); go_big_quiet_op; refine hK _ ?_; clear hK K) | (refine mix_skip (by rfl) ?_; simp only [Act.put, List.setIfInBounds_toArray, List.set_cons_zero, List.set_cons_succ]))
    (refine mix_loud (by rfl) (by rfl) (fun K E hK => ?_); go_big_op)
    refine (refMac_calls key f.says hk (by omega) _).mono ?_; rw [← Hz.out]; rintro e w3 ⟨rfl, hd⟩
    obtain ⟨x1, rfl⟩ := more_ext x hd
    refine hK _ _ ⟨_, rfl⟩ ?_; clear hK K E hd
    unfold sumV
    repeat (first | (refine mix_quiet (by rfl) (by rfl) (fun K hK => ?_); go_big_quiet_op; refine hK _ ?_; clear hK K) | (refine mix_skip (by rfl) ?_; simp only [Act.put, List.setIfInBounds_toArray, List.set_cons_zero, List.set_cons_succ]))
    refine mix_nil ?_
    go_wp2_with fail
    go_ret
    exact ⟨rfl, hE1.trans (grow_ext _)⟩
  · obtain ⟨hs, ho, he⟩ := Seal.St.out_no f hm
    have hb : decide f.may = false := decide_eq_false hm
    have hr2 : r = false := by
      rw [hr]
      unfold Seal.St.rightB
      rw [decide_eq_false_iff_not]
      exact fun h => hm h.1
    subst hr2
    clear hm hr
    unfold Seal.St.v
    go_enter Tryd.func18, Tryd.ntmps18
    go_wp2_with (refine stop_load 29 (.tmp 3) rfl ?_)
    refine ⟨?_⟩
    change wpList _ _ _ _ _ (w.alloc (.cells f.cells.toArray 29))
    generalize (w.alloc (.cells f.cells.toArray 29)) = w0 at *
    refine wpList_load_row rfl 29 (.tmp 3) rfl w.heap.size (by rfl) 29 _ (0, 0) _ hB0 Tryd.underlying29 rfl (Seal.size_st f hf hg) ?_
    simp only [Act.put, List.setIfInBounds_toArray, List.set_cons_zero, List.set_cons_succ]
    go_wp2_with fail
    change Calls _ _ #[f.v] _ _
    refine (refStoneSays_calls f hf hg _).mono ?_; rw [hs, hb]; rintro e w1 ⟨rfl, e1⟩
    have hB1 := StAt.ext hB0 e1
    have hE1 := hE0.trans e1
    clear hB0 hE0 e1 hs ho he
    go_wp2_with fail
    refine region_mix0 (by kernel_rfl) (by kernel_rfl) (fun x => ?_)
    repeat (first | (refine mix_quiet (by rfl) (by rfl) (fun K hK => ?_); go_big_quiet_op; refine hK _ ?_; clear hK K) | (refine mix_skip (by rfl) ?_; simp only [Act.put, List.setIfInBounds_toArray, List.set_cons_zero, List.set_cons_succ]))
    refine mix_nil ?_
    go_wp2_with fail
    go_ret
    exact ⟨rfl, hE1.trans (grow_ext _)⟩

set_option maxHeartbeats 2000000 in
theorem refHead_calls (key : List UInt8) (hk : key.length ≤ 4611686018427387904) (size clock : Int) (r : List UInt8) (hr : r.length = 32) (w : World) : Calls Tryd.prog 13 #[.string (bs key), .int .i64 size, sumV r, .int .i64 clock] w fun e w' => e = .returned (Seal.Hd.sign key size r clock).v ∧ Ext w w' := by
  have hB0 : ArrB ((w.alloc (.cells (r.map byteV).toArray 23)).alloc (.cells (⟨0, List.replicate 32 0, 0, List.replicate 32 0⟩ : Hd).cells.toArray 25)) w.heap.size 23 r := by
    have := Blk.new w 23 (r.map byteV).toArray
    exact Blk.alloc (this) _
  have hB1 : HdAt ((w.alloc (.cells (r.map byteV).toArray 23)).alloc (.cells (⟨0, List.replicate 32 0, 0, List.replicate 32 0⟩ : Hd).cells.toArray 25)) (w.heap.size + 1) (⟨0, List.replicate 32 0, 0, List.replicate 32 0⟩ : Hd) := by
    have := Blk.new (w.alloc (.cells (r.map byteV).toArray 23)) 25 (⟨0, List.replicate 32 0, 0, List.replicate 32 0⟩ : Hd).cells.toArray
    rw [alloc_size] at this
    exact this
  have hE0 : Ext w ((w.alloc (.cells (r.map byteV).toArray 23)).alloc (.cells (⟨0, List.replicate 32 0, 0, List.replicate 32 0⟩ : Hd).cells.toArray 25)) := ((Ext.refl w).alloc _).alloc _
  obtain ⟨h, hh⟩ : ∃ h : Hd, h = (⟨size, r, clock, List.replicate 32 0⟩ : Hd) := ⟨_, rfl⟩
  have h1 : h.root.length = 32 := by rw [hh]; exact hr
  have h2 : h.mac.length = 32 := by rw [hh]; simp
  have hbu := built_hd3 size r hr clock
  rw [← hh] at hbu
  have hcc : h.cells = ([Value.int .i64 size] ++ (hcells r ++ [Value.int .i64 clock])) ++ (hcells (List.replicate 32 0) ++ []) := by rw [hh]; simp [Seal.Hd.cells]
  have hsl := Seal.Hd.saysB_length h h1
  have hoc := Seal.Hd.outE_cases h
  have Hcc := Lib.hid hcc; clear hcc
  by_cases hm : h.may
  · obtain ⟨hsb, -, hoe⟩ := Seal.Hd.out_ok h hm
    obtain ⟨z, hz⟩ : ∃ z, z = macOf key h.saysB := ⟨_, rfl⟩
    have hz32 : z.length = 32 := by rw [hz]; exact macOf_length _ _
    have hs : Seal.Hd.sign key size r clock = (⟨size, r, clock, z⟩ : Hd) := by
      rw [hz]
      unfold Seal.Hd.sign Seal.signB
      rw [← hh, if_pos hoe]
    have hcz : (⟨size, r, clock, z⟩ : Hd).cells = ([Value.int .i64 size] ++ (hcells r ++ [Value.int .i64 clock])) ++ (hcells z ++ []) := by simp [Seal.Hd.cells]
    have h1' := hr; have h2' := hz32
    have hsz := Seal.size_hd (⟨size, r, clock, z⟩ : Hd) h1' h2'
    have hcl := Seal.Hd.cells_length (⟨size, r, clock, z⟩ : Hd) h1' h2'
    have hone := all_oneCell_toArray (Seal.Hd.one (⟨size, r, clock, z⟩ : Hd))
    rw [hs]
    have hbt : decide h.may = true := decide_eq_true hm
    have Hz := Lib.hid hz; have Hcz := Lib.hid hcz; have Hcl := Lib.hid hcl
    clear hh hz hs hcz hcl hsb hoe hm
    unfold sumV Seal.Hd.v
    go_enter Tryd.func13, Tryd.ntmps13
    go_wp2_with (refine stop_load 23 (.tmp 6) rfl ?_)
    refine ⟨?_⟩
    change wpList _ _ _ _ _ ((w.alloc (.cells (r.map byteV).toArray 23)).alloc (.cells (⟨0, List.replicate 32 0, 0, List.replicate 32 0⟩ : Hd).cells.toArray 25))
    generalize ((w.alloc (.cells (r.map byteV).toArray 23)).alloc (.cells (⟨0, List.replicate 32 0, 0, List.replicate 32 0⟩ : Hd).cells.toArray 25)) = w0 at *
    refine wpList_load_row rfl 23 (.tmp 6) rfl w.heap.size (by rfl) 23 _ (0, 0) _ hB0 Tryd.underlying23 rfl (size32.trans (by simp [hr])) ?_
    simp only [Act.put, List.setIfInBounds_toArray, List.set_cons_zero, List.set_cons_succ]
    go_wp2_with (refine stop_at 15 rfl ?_)
    refine ⟨?_⟩
    refine wpList_build_to rfl 25 _ rfl _ (by rw [Array.toList_map]; rfl) _ hbu ?_
    simp only [Act.put, List.setIfInBounds_toArray, List.set_cons_zero, List.set_cons_succ]
    go_wp2_with (refine stop_store 25 (.tmp 9) (.tmp 15) rfl ?_)
    refine ⟨?_⟩
    have hN0 := Blk.new w0 25 (⟨0, List.replicate 32 0, 0, List.replicate 32 0⟩ : Hd).cells.toArray
    have hR0 := HdAt.ext hB1 ((Ext.refl w0).alloc (.cells (⟨0, List.replicate 32 0, 0, List.replicate 32 0⟩ : Hd).cells.toArray 25))
    have hE1 := hE0.alloc (.cells (⟨0, List.replicate 32 0, 0, List.replicate 32 0⟩ : Hd).cells.toArray 25)
    have hgl : w.heap.size + 1 < w0.heap.size := Blk.lt hB1
    change wpList _ _ _ _ _ (w0.alloc (.cells (⟨0, List.replicate 32 0, 0, List.replicate 32 0⟩ : Hd).cells.toArray 25))
    generalize w0.alloc (.cells (⟨0, List.replicate 32 0, 0, List.replicate 32 0⟩ : Hd).cells.toArray 25) = w1 at *
    generalize w0.heap.size = gh at *
    refine wpList_store_row rfl 25 (.tmp 9) (.tmp 15) rfl gh _ (by rfl) (by rfl) 25 _ hN0 (Seal.size_hd h h1 h2) (by simp only [List.size_toArray]; rw [Seal.Hd.cells_length h h1 h2]; rfl) (all_oneCell_toArray h.one) ?_
    simp only [Act.put, List.setIfInBounds_toArray, List.set_cons_zero, List.set_cons_succ]
    have hN : HdAt (w1.setRow gh h.cells.toArray) gh h := Blk.row hN0 _
    have hR1 : HdAt (w1.setRow gh h.cells.toArray) (w.heap.size + 1) (⟨0, List.replicate 32 0, 0, List.replicate 32 0⟩ : Hd) := Blk.rowFar hR0 (by omega) _
    have hE2 : Ext w (w1.setRow gh h.cells.toArray) := hE1.row (by omega) _
    clear hN0 hR0 hE1 hB0 hB1 hE0
    generalize w1.setRow gh h.cells.toArray = w2 at *
    clear w0 w1
    go_wp2_with (refine stop_load 25 (.tmp 9) rfl ?_)
    refine ⟨?_⟩
    refine wpList_load_row rfl 25 (.tmp 9) rfl gh (by rfl) 25 _ (0, 0) _ hN Tryd.underlying25 rfl (Seal.size_hd h h1 h2) ?_
    simp only [Act.put, List.setIfInBounds_toArray, List.set_cons_zero, List.set_cons_succ]
    go_wp2_with fail
    change Calls _ _ #[h.v] _ _
    refine (refHeadSays_calls h h1 h2 _).mono ?_; rw [hbt]; rintro e w3 ⟨rfl, e3⟩
    replace hN := hN.ext e3
    replace hR1 := hR1.ext e3
    replace hE2 := hE2.trans e3
    clear e3
    go_wp2_with fail
    refine (refMac_calls key h.saysB hk (by omega) _).mono ?_; rw [← Hz.out]; rintro e w4 ⟨rfl, e4⟩
    replace hN := hN.ext e4
    replace hR1 := hR1.ext e4
    replace hE2 := hE2.trans e4
    clear e4
    have hth : w4.there gh 34 (z.map byteV).toArray.size := Blk.there hN 34 _ (by rw [Seal.Hd.cells_length h h1 h2]; simp [hz32])
    unfold sumV
    go_wp2_with (refine stop_store 23 (.tmp 25) (.tmp 24) rfl ?_)
    refine ⟨?_⟩
    refine wpList_store_mid rfl 23 (.tmp 25) (.tmp 24) rfl gh 34 _ (by rfl) (by rfl) hth (size32.trans (by simp [hz32])) (by simp [byteV, Value.oneCell']) ?_
    simp only [Act.put, List.setIfInBounds_toArray, List.set_cons_zero, List.set_cons_succ]
    have hM : HdAt (w4.setCells gh 34 (z.map byteV).toArray.toList) gh (⟨size, r, clock, z⟩ : Hd) := by
      have := hN
      unfold HdAt at this
      rw [Hcc.out] at this
      unfold HdAt
      rw [Hcz.out]
      exact Blk.mid this _ 34 (by simp [hcells_length, hr]) (by simp [hcells_length, hz32])
    have hR2 : HdAt (w4.setCells gh 34 (z.map byteV).toArray.toList) (w.heap.size + 1) (⟨0, List.replicate 32 0, 0, List.replicate 32 0⟩ : Hd) := Blk.farCells (by omega) _ _ _ hR1
    have hE4 : Ext w (w4.setCells gh 34 (z.map byteV).toArray.toList) := ext_setCells (by omega) _ _ _ hE2
    clear hN hR1 hE2 hth
    generalize w4.setCells gh 34 (z.map byteV).toArray.toList = w5 at *
    have hcl := Hcl.out
    go_wp2_with (refine stop_load 25 (.tmp 9) rfl ?_)
    refine ⟨?_⟩
    refine wpList_load_row rfl 25 (.tmp 9) rfl gh (by rfl) 25 _ (0, 0) _ hM Tryd.underlying25 rfl (hsz) ?_
    simp only [Act.put, List.setIfInBounds_toArray, List.set_cons_zero, List.set_cons_succ]
    go_wp2_with (refine stop_store 25 (.tmp 8) (.tmp 26) rfl ?_)
    refine ⟨?_⟩
    refine wpList_store_row rfl 25 (.tmp 8) (.tmp 26) rfl (w.heap.size + 1) _ (by rfl) (by rfl) 25 _ hR2 hsz (by simp only [List.size_toArray]; rw [hcl]; rfl) hone ?_
    simp only [Act.put, List.setIfInBounds_toArray, List.set_cons_zero, List.set_cons_succ]
    go_wp2_with fail
    (try simp only [Exit.inBlock, Exit.then])
    exact bodyPost_ret (results_cell_row rfl _ _ (w.heap.size + 1) 25 _ (0, 0) _ rfl (Blk.row hR2 _) Tryd.underlying25 rfl hsz) rfl ⟨rfl, hE4.row (by omega) _⟩
  · obtain ⟨hsb, -, hoe⟩ := Seal.Hd.out_no h hm
    have hs : Seal.Hd.sign key size r clock = h := by
      unfold Seal.Hd.sign Seal.signB
      rw [← hh, if_neg (by rw [hoe]; decide), hh]
    have h1' := h1; have h2' := h2
    have hsz := Seal.size_hd h h1' h2'
    have hcl := Seal.Hd.cells_length h h1' h2'
    have hone := all_oneCell_toArray (Seal.Hd.one h)
    rw [hs]
    have hbt : decide h.may = false := decide_eq_false hm
    have Hcl := Lib.hid hcl
    clear hh hs hcl hsb hoe hm
    unfold sumV Seal.Hd.v
    go_enter Tryd.func13, Tryd.ntmps13
    go_wp2_with (refine stop_load 23 (.tmp 6) rfl ?_)
    refine ⟨?_⟩
    change wpList _ _ _ _ _ ((w.alloc (.cells (r.map byteV).toArray 23)).alloc (.cells (⟨0, List.replicate 32 0, 0, List.replicate 32 0⟩ : Hd).cells.toArray 25))
    generalize ((w.alloc (.cells (r.map byteV).toArray 23)).alloc (.cells (⟨0, List.replicate 32 0, 0, List.replicate 32 0⟩ : Hd).cells.toArray 25)) = w0 at *
    refine wpList_load_row rfl 23 (.tmp 6) rfl w.heap.size (by rfl) 23 _ (0, 0) _ hB0 Tryd.underlying23 rfl (size32.trans (by simp [hr])) ?_
    simp only [Act.put, List.setIfInBounds_toArray, List.set_cons_zero, List.set_cons_succ]
    go_wp2_with (refine stop_at 15 rfl ?_)
    refine ⟨?_⟩
    refine wpList_build_to rfl 25 _ rfl _ (by rw [Array.toList_map]; rfl) _ hbu ?_
    simp only [Act.put, List.setIfInBounds_toArray, List.set_cons_zero, List.set_cons_succ]
    go_wp2_with (refine stop_store 25 (.tmp 9) (.tmp 15) rfl ?_)
    refine ⟨?_⟩
    have hN0 := Blk.new w0 25 (⟨0, List.replicate 32 0, 0, List.replicate 32 0⟩ : Hd).cells.toArray
    have hR0 := HdAt.ext hB1 ((Ext.refl w0).alloc (.cells (⟨0, List.replicate 32 0, 0, List.replicate 32 0⟩ : Hd).cells.toArray 25))
    have hE1 := hE0.alloc (.cells (⟨0, List.replicate 32 0, 0, List.replicate 32 0⟩ : Hd).cells.toArray 25)
    have hgl : w.heap.size + 1 < w0.heap.size := Blk.lt hB1
    change wpList _ _ _ _ _ (w0.alloc (.cells (⟨0, List.replicate 32 0, 0, List.replicate 32 0⟩ : Hd).cells.toArray 25))
    generalize w0.alloc (.cells (⟨0, List.replicate 32 0, 0, List.replicate 32 0⟩ : Hd).cells.toArray 25) = w1 at *
    generalize w0.heap.size = gh at *
    refine wpList_store_row rfl 25 (.tmp 9) (.tmp 15) rfl gh _ (by rfl) (by rfl) 25 _ hN0 (Seal.size_hd h h1 h2) (by simp only [List.size_toArray]; rw [Seal.Hd.cells_length h h1 h2]; rfl) (all_oneCell_toArray h.one) ?_
    simp only [Act.put, List.setIfInBounds_toArray, List.set_cons_zero, List.set_cons_succ]
    have hN : HdAt (w1.setRow gh h.cells.toArray) gh h := Blk.row hN0 _
    have hR1 : HdAt (w1.setRow gh h.cells.toArray) (w.heap.size + 1) (⟨0, List.replicate 32 0, 0, List.replicate 32 0⟩ : Hd) := Blk.rowFar hR0 (by omega) _
    have hE2 : Ext w (w1.setRow gh h.cells.toArray) := hE1.row (by omega) _
    clear hN0 hR0 hE1 hB0 hB1 hE0
    generalize w1.setRow gh h.cells.toArray = w2 at *
    clear w0 w1
    go_wp2_with (refine stop_load 25 (.tmp 9) rfl ?_)
    refine ⟨?_⟩
    refine wpList_load_row rfl 25 (.tmp 9) rfl gh (by rfl) 25 _ (0, 0) _ hN Tryd.underlying25 rfl (Seal.size_hd h h1 h2) ?_
    simp only [Act.put, List.setIfInBounds_toArray, List.set_cons_zero, List.set_cons_succ]
    go_wp2_with fail
    change Calls _ _ #[h.v] _ _
    refine (refHeadSays_calls h h1 h2 _).mono ?_; rw [hbt]; rintro e w3 ⟨rfl, e3⟩
    replace hN := hN.ext e3
    replace hR1 := hR1.ext e3
    replace hE2 := hE2.trans e3
    clear e3
    have hcl := Hcl.out
    go_wp2_with (refine stop_load 25 (.tmp 9) rfl ?_)
    refine ⟨?_⟩
    refine wpList_load_row rfl 25 (.tmp 9) rfl gh (by rfl) 25 _ (0, 0) _ hN Tryd.underlying25 rfl (hsz) ?_
    simp only [Act.put, List.setIfInBounds_toArray, List.set_cons_zero, List.set_cons_succ]
    go_wp2_with (refine stop_store 25 (.tmp 8) (.tmp 26) rfl ?_)
    refine ⟨?_⟩
    refine wpList_store_row rfl 25 (.tmp 8) (.tmp 26) rfl (w.heap.size + 1) _ (by rfl) (by rfl) 25 _ hR1 hsz (by simp only [List.size_toArray]; rw [hcl]; rfl) hone ?_
    simp only [Act.put, List.setIfInBounds_toArray, List.set_cons_zero, List.set_cons_succ]
    go_wp2_with fail
    (try simp only [Exit.inBlock, Exit.then])
    exact bodyPost_ret (results_cell_row rfl _ _ (w.heap.size + 1) 25 _ (0, 0) _ rfl (Blk.row hR1 _) Tryd.underlying25 rfl hsz) rfl ⟨rfl, hE2.row (by omega) _⟩

set_option maxHeartbeats 2000000 in
theorem refStone_calls (key : List UInt8) (hk : key.length ≤ 4611686018427387904) (f : Fz) (hr : f.root.length = 32) (t : Int) (w : World) : Calls Tryd.prog 14 #[.string (bs key), f.v, .int .i64 t] w fun e w' => e = .returned (Seal.St.sign key f t).v ∧ Ext w w' := by
  have hB0 : FzAt ((w.alloc (.cells f.cells.toArray 27)).alloc (.cells (⟨⟨0, 0, List.replicate 32 0⟩, 0, List.replicate 32 0⟩ : St).cells.toArray 29)) w.heap.size f := by
    have := Blk.new w 27 f.cells.toArray
    exact Blk.alloc (this) _
  have hB1 : StAt ((w.alloc (.cells f.cells.toArray 27)).alloc (.cells (⟨⟨0, 0, List.replicate 32 0⟩, 0, List.replicate 32 0⟩ : St).cells.toArray 29)) (w.heap.size + 1) (⟨⟨0, 0, List.replicate 32 0⟩, 0, List.replicate 32 0⟩ : St) := by
    have := Blk.new (w.alloc (.cells f.cells.toArray 27)) 29 (⟨⟨0, 0, List.replicate 32 0⟩, 0, List.replicate 32 0⟩ : St).cells.toArray
    rw [alloc_size] at this
    exact this
  have hE0 : Ext w ((w.alloc (.cells f.cells.toArray 27)).alloc (.cells (⟨⟨0, 0, List.replicate 32 0⟩, 0, List.replicate 32 0⟩ : St).cells.toArray 29)) := ((Ext.refl w).alloc _).alloc _
  obtain ⟨h, hh⟩ : ∃ h : St, h = (⟨f, t, List.replicate 32 0⟩ : St) := ⟨_, rfl⟩
  have h1 : h.fz.root.length = 32 := by rw [hh]; exact hr
  have h2 : h.mac.length = 32 := by rw [hh]; simp
  have hbu := built_st2 f hr t
  rw [← hh] at hbu
  have hcc : h.cells = (f.cells ++ [Value.int .i64 t]) ++ (hcells (List.replicate 32 0) ++ []) := by rw [hh]; simp [Seal.St.cells]
  have hsl := Seal.St.saysB_length h h1
  have hoc := Seal.St.outE_cases h
  have Hcc := Lib.hid hcc; clear hcc
  by_cases hm : h.may
  · obtain ⟨hsb, -, hoe⟩ := Seal.St.out_ok h hm
    obtain ⟨z, hz⟩ : ∃ z, z = macOf key h.saysB := ⟨_, rfl⟩
    have hz32 : z.length = 32 := by rw [hz]; exact macOf_length _ _
    have hs : Seal.St.sign key f t = (⟨f, t, z⟩ : St) := by
      rw [hz]
      unfold Seal.St.sign Seal.signB
      rw [← hh, if_pos hoe]
    have hcz : (⟨f, t, z⟩ : St).cells = (f.cells ++ [Value.int .i64 t]) ++ (hcells z ++ []) := by simp [Seal.St.cells]
    have h1' := hr; have h2' := hz32
    have hsz := Seal.size_st (⟨f, t, z⟩ : St) h1' h2'
    have hcl := Seal.St.cells_length (⟨f, t, z⟩ : St) h1' h2'
    have hone := all_oneCell_toArray (Seal.St.one (⟨f, t, z⟩ : St))
    rw [hs]
    have hbt : decide h.may = true := decide_eq_true hm
    have Hz := Lib.hid hz; have Hcz := Lib.hid hcz; have Hcl := Lib.hid hcl
    clear hh hz hs hcz hcl hsb hoe hm
    unfold Seal.Fz.v Seal.St.v
    go_enter Tryd.func14, Tryd.ntmps14
    go_wp2_with (refine stop_load 27 (.tmp 4) rfl ?_)
    refine ⟨?_⟩
    change wpList _ _ _ _ _ ((w.alloc (.cells f.cells.toArray 27)).alloc (.cells (⟨⟨0, 0, List.replicate 32 0⟩, 0, List.replicate 32 0⟩ : St).cells.toArray 29))
    generalize ((w.alloc (.cells f.cells.toArray 27)).alloc (.cells (⟨⟨0, 0, List.replicate 32 0⟩, 0, List.replicate 32 0⟩ : St).cells.toArray 29)) = w0 at *
    refine wpList_load_row rfl 27 (.tmp 4) rfl w.heap.size (by rfl) 27 _ (0, 0) _ hB0 Tryd.underlying27 rfl (Seal.size_fz f hr) ?_
    simp only [Act.put, List.setIfInBounds_toArray, List.set_cons_zero, List.set_cons_succ]
    go_wp2_with (refine stop_at 12 rfl ?_)
    refine ⟨?_⟩
    refine wpList_build_to rfl 29 _ rfl _ (by rw [Array.toList_map]; rfl) _ hbu ?_
    simp only [Act.put, List.setIfInBounds_toArray, List.set_cons_zero, List.set_cons_succ]
    go_wp2_with (refine stop_store 29 (.tmp 7) (.tmp 12) rfl ?_)
    refine ⟨?_⟩
    have hN0 := Blk.new w0 29 (⟨⟨0, 0, List.replicate 32 0⟩, 0, List.replicate 32 0⟩ : St).cells.toArray
    have hR0 := StAt.ext hB1 ((Ext.refl w0).alloc (.cells (⟨⟨0, 0, List.replicate 32 0⟩, 0, List.replicate 32 0⟩ : St).cells.toArray 29))
    have hE1 := hE0.alloc (.cells (⟨⟨0, 0, List.replicate 32 0⟩, 0, List.replicate 32 0⟩ : St).cells.toArray 29)
    have hgl : w.heap.size + 1 < w0.heap.size := Blk.lt hB1
    change wpList _ _ _ _ _ (w0.alloc (.cells (⟨⟨0, 0, List.replicate 32 0⟩, 0, List.replicate 32 0⟩ : St).cells.toArray 29))
    generalize w0.alloc (.cells (⟨⟨0, 0, List.replicate 32 0⟩, 0, List.replicate 32 0⟩ : St).cells.toArray 29) = w1 at *
    generalize w0.heap.size = gh at *
    refine wpList_store_row rfl 29 (.tmp 7) (.tmp 12) rfl gh _ (by rfl) (by rfl) 29 _ hN0 (Seal.size_st h h1 h2) (by simp only [List.size_toArray]; rw [Seal.St.cells_length h h1 h2]; rfl) (all_oneCell_toArray h.one) ?_
    simp only [Act.put, List.setIfInBounds_toArray, List.set_cons_zero, List.set_cons_succ]
    have hN : StAt (w1.setRow gh h.cells.toArray) gh h := Blk.row hN0 _
    have hR1 : StAt (w1.setRow gh h.cells.toArray) (w.heap.size + 1) (⟨⟨0, 0, List.replicate 32 0⟩, 0, List.replicate 32 0⟩ : St) := Blk.rowFar hR0 (by omega) _
    have hE2 : Ext w (w1.setRow gh h.cells.toArray) := hE1.row (by omega) _
    clear hN0 hR0 hE1 hB0 hB1 hE0
    generalize w1.setRow gh h.cells.toArray = w2 at *
    clear w0 w1
    go_wp2_with (refine stop_load 29 (.tmp 7) rfl ?_)
    refine ⟨?_⟩
    refine wpList_load_row rfl 29 (.tmp 7) rfl gh (by rfl) 29 _ (0, 0) _ hN Tryd.underlying29 rfl (Seal.size_st h h1 h2) ?_
    simp only [Act.put, List.setIfInBounds_toArray, List.set_cons_zero, List.set_cons_succ]
    go_wp2_with fail
    change Calls _ _ #[h.v] _ _
    refine (refStoneSays_calls h h1 h2 _).mono ?_; rw [hbt]; rintro e w3 ⟨rfl, e3⟩
    replace hN := hN.ext e3
    replace hR1 := hR1.ext e3
    replace hE2 := hE2.trans e3
    clear e3
    go_wp2_with fail
    refine (refMac_calls key h.saysB hk (by omega) _).mono ?_; rw [← Hz.out]; rintro e w4 ⟨rfl, e4⟩
    replace hN := hN.ext e4
    replace hR1 := hR1.ext e4
    replace hE2 := hE2.trans e4
    clear e4
    have hth : w4.there gh 35 (z.map byteV).toArray.size := Blk.there hN 35 _ (by rw [Seal.St.cells_length h h1 h2]; simp [hz32])
    unfold sumV
    go_wp2_with (refine stop_store 23 (.tmp 22) (.tmp 21) rfl ?_)
    refine ⟨?_⟩
    refine wpList_store_mid rfl 23 (.tmp 22) (.tmp 21) rfl gh 35 _ (by rfl) (by rfl) hth (size32.trans (by simp [hz32])) (by simp [byteV, Value.oneCell']) ?_
    simp only [Act.put, List.setIfInBounds_toArray, List.set_cons_zero, List.set_cons_succ]
    have hM : StAt (w4.setCells gh 35 (z.map byteV).toArray.toList) gh (⟨f, t, z⟩ : St) := by
      have := hN
      unfold StAt at this
      rw [Hcc.out] at this
      unfold StAt
      rw [Hcz.out]
      exact Blk.mid this _ 35 (by simp [Seal.Fz.cells_length _ hr]) (by simp [hcells_length, hz32])
    have hR2 : StAt (w4.setCells gh 35 (z.map byteV).toArray.toList) (w.heap.size + 1) (⟨⟨0, 0, List.replicate 32 0⟩, 0, List.replicate 32 0⟩ : St) := Blk.farCells (by omega) _ _ _ hR1
    have hE4 : Ext w (w4.setCells gh 35 (z.map byteV).toArray.toList) := ext_setCells (by omega) _ _ _ hE2
    clear hN hR1 hE2 hth
    generalize w4.setCells gh 35 (z.map byteV).toArray.toList = w5 at *
    have hcl := Hcl.out
    go_wp2_with (refine stop_load 29 (.tmp 7) rfl ?_)
    refine ⟨?_⟩
    refine wpList_load_row rfl 29 (.tmp 7) rfl gh (by rfl) 29 _ (0, 0) _ hM Tryd.underlying29 rfl (hsz) ?_
    simp only [Act.put, List.setIfInBounds_toArray, List.set_cons_zero, List.set_cons_succ]
    go_wp2_with (refine stop_store 29 (.tmp 6) (.tmp 23) rfl ?_)
    refine ⟨?_⟩
    refine wpList_store_row rfl 29 (.tmp 6) (.tmp 23) rfl (w.heap.size + 1) _ (by rfl) (by rfl) 29 _ hR2 hsz (by simp only [List.size_toArray]; rw [hcl]; rfl) hone ?_
    simp only [Act.put, List.setIfInBounds_toArray, List.set_cons_zero, List.set_cons_succ]
    go_wp2_with fail
    (try simp only [Exit.inBlock, Exit.then])
    exact bodyPost_ret (results_cell_row rfl _ _ (w.heap.size + 1) 29 _ (0, 0) _ rfl (Blk.row hR2 _) Tryd.underlying29 rfl hsz) rfl ⟨rfl, hE4.row (by omega) _⟩
  · obtain ⟨hsb, -, hoe⟩ := Seal.St.out_no h hm
    have hs : Seal.St.sign key f t = h := by
      unfold Seal.St.sign Seal.signB
      rw [← hh, if_neg (by rw [hoe]; decide), hh]
    have h1' := h1; have h2' := h2
    have hsz := Seal.size_st h h1' h2'
    have hcl := Seal.St.cells_length h h1' h2'
    have hone := all_oneCell_toArray (Seal.St.one h)
    rw [hs]
    have hbt : decide h.may = false := decide_eq_false hm
    have Hcl := Lib.hid hcl
    clear hh hs hcl hsb hoe hm
    unfold Seal.Fz.v Seal.St.v
    go_enter Tryd.func14, Tryd.ntmps14
    go_wp2_with (refine stop_load 27 (.tmp 4) rfl ?_)
    refine ⟨?_⟩
    change wpList _ _ _ _ _ ((w.alloc (.cells f.cells.toArray 27)).alloc (.cells (⟨⟨0, 0, List.replicate 32 0⟩, 0, List.replicate 32 0⟩ : St).cells.toArray 29))
    generalize ((w.alloc (.cells f.cells.toArray 27)).alloc (.cells (⟨⟨0, 0, List.replicate 32 0⟩, 0, List.replicate 32 0⟩ : St).cells.toArray 29)) = w0 at *
    refine wpList_load_row rfl 27 (.tmp 4) rfl w.heap.size (by rfl) 27 _ (0, 0) _ hB0 Tryd.underlying27 rfl (Seal.size_fz f hr) ?_
    simp only [Act.put, List.setIfInBounds_toArray, List.set_cons_zero, List.set_cons_succ]
    go_wp2_with (refine stop_at 12 rfl ?_)
    refine ⟨?_⟩
    refine wpList_build_to rfl 29 _ rfl _ (by rw [Array.toList_map]; rfl) _ hbu ?_
    simp only [Act.put, List.setIfInBounds_toArray, List.set_cons_zero, List.set_cons_succ]
    go_wp2_with (refine stop_store 29 (.tmp 7) (.tmp 12) rfl ?_)
    refine ⟨?_⟩
    have hN0 := Blk.new w0 29 (⟨⟨0, 0, List.replicate 32 0⟩, 0, List.replicate 32 0⟩ : St).cells.toArray
    have hR0 := StAt.ext hB1 ((Ext.refl w0).alloc (.cells (⟨⟨0, 0, List.replicate 32 0⟩, 0, List.replicate 32 0⟩ : St).cells.toArray 29))
    have hE1 := hE0.alloc (.cells (⟨⟨0, 0, List.replicate 32 0⟩, 0, List.replicate 32 0⟩ : St).cells.toArray 29)
    have hgl : w.heap.size + 1 < w0.heap.size := Blk.lt hB1
    change wpList _ _ _ _ _ (w0.alloc (.cells (⟨⟨0, 0, List.replicate 32 0⟩, 0, List.replicate 32 0⟩ : St).cells.toArray 29))
    generalize w0.alloc (.cells (⟨⟨0, 0, List.replicate 32 0⟩, 0, List.replicate 32 0⟩ : St).cells.toArray 29) = w1 at *
    generalize w0.heap.size = gh at *
    refine wpList_store_row rfl 29 (.tmp 7) (.tmp 12) rfl gh _ (by rfl) (by rfl) 29 _ hN0 (Seal.size_st h h1 h2) (by simp only [List.size_toArray]; rw [Seal.St.cells_length h h1 h2]; rfl) (all_oneCell_toArray h.one) ?_
    simp only [Act.put, List.setIfInBounds_toArray, List.set_cons_zero, List.set_cons_succ]
    have hN : StAt (w1.setRow gh h.cells.toArray) gh h := Blk.row hN0 _
    have hR1 : StAt (w1.setRow gh h.cells.toArray) (w.heap.size + 1) (⟨⟨0, 0, List.replicate 32 0⟩, 0, List.replicate 32 0⟩ : St) := Blk.rowFar hR0 (by omega) _
    have hE2 : Ext w (w1.setRow gh h.cells.toArray) := hE1.row (by omega) _
    clear hN0 hR0 hE1 hB0 hB1 hE0
    generalize w1.setRow gh h.cells.toArray = w2 at *
    clear w0 w1
    go_wp2_with (refine stop_load 29 (.tmp 7) rfl ?_)
    refine ⟨?_⟩
    refine wpList_load_row rfl 29 (.tmp 7) rfl gh (by rfl) 29 _ (0, 0) _ hN Tryd.underlying29 rfl (Seal.size_st h h1 h2) ?_
    simp only [Act.put, List.setIfInBounds_toArray, List.set_cons_zero, List.set_cons_succ]
    go_wp2_with fail
    change Calls _ _ #[h.v] _ _
    refine (refStoneSays_calls h h1 h2 _).mono ?_; rw [hbt]; rintro e w3 ⟨rfl, e3⟩
    replace hN := hN.ext e3
    replace hR1 := hR1.ext e3
    replace hE2 := hE2.trans e3
    clear e3
    have hcl := Hcl.out
    go_wp2_with (refine stop_load 29 (.tmp 7) rfl ?_)
    refine ⟨?_⟩
    refine wpList_load_row rfl 29 (.tmp 7) rfl gh (by rfl) 29 _ (0, 0) _ hN Tryd.underlying29 rfl (hsz) ?_
    simp only [Act.put, List.setIfInBounds_toArray, List.set_cons_zero, List.set_cons_succ]
    go_wp2_with (refine stop_store 29 (.tmp 6) (.tmp 23) rfl ?_)
    refine ⟨?_⟩
    refine wpList_store_row rfl 29 (.tmp 6) (.tmp 23) rfl (w.heap.size + 1) _ (by rfl) (by rfl) 29 _ hR1 hsz (by simp only [List.size_toArray]; rw [hcl]; rfl) hone ?_
    simp only [Act.put, List.setIfInBounds_toArray, List.set_cons_zero, List.set_cons_succ]
    go_wp2_with fail
    (try simp only [Exit.inBlock, Exit.then])
    exact bodyPost_ret (results_cell_row rfl _ _ (w.heap.size + 1) 29 _ (0, 0) _ rfl (Blk.row hR1 _) Tryd.underlying29 rfl hsz) rfl ⟨rfl, hE2.row (by omega) _⟩

end Go.Proofs.YtcgnjdkennkheaaDoor
