/-
  The walk of scriniumref02.Step.
-/
import Derived.Test.YtcgnjdkennkheaaGreatDoorShaL
set_option linter.unusedVariables false
set_option maxRecDepth 100000
set_option linter.unusedSimpArgs false
namespace Go.Proofs.YtcgnjdkennkheaaGreatDoor
open Go.RowKit
attribute [local go_sem] bs_size bs_toList2 bs_append bs_extract_end bs_extract_begin bs_get wrap64_b grow_cell grow_frozen

theorem rr17 (x : Int) (w : World) : Calls Tryz.prog 108 #[.int .i64 17, .int .u32 x] w fun e w' => e = .returned (.int .u32 (rotr 17 x)) ∧ w = w' := refRotr_calls x 17 w (by omega) (by omega)
theorem rr19 (x : Int) (w : World) : Calls Tryz.prog 108 #[.int .i64 19, .int .u32 x] w fun e w' => e = .returned (.int .u32 (rotr 19 x)) ∧ w = w' := refRotr_calls x 19 w (by omega) (by omega)
theorem rr7 (x : Int) (w : World) : Calls Tryz.prog 108 #[.int .i64 7, .int .u32 x] w fun e w' => e = .returned (.int .u32 (rotr 7 x)) ∧ w = w' := refRotr_calls x 7 w (by omega) (by omega)
theorem rr18 (x : Int) (w : World) : Calls Tryz.prog 108 #[.int .i64 18, .int .u32 x] w fun e w' => e = .returned (.int .u32 (rotr 18 x)) ∧ w = w' := refRotr_calls x 18 w (by omega) (by omega)
theorem rr6 (x : Int) (w : World) : Calls Tryz.prog 108 #[.int .i64 6, .int .u32 x] w fun e w' => e = .returned (.int .u32 (rotr 6 x)) ∧ w = w' := refRotr_calls x 6 w (by omega) (by omega)
theorem rr11 (x : Int) (w : World) : Calls Tryz.prog 108 #[.int .i64 11, .int .u32 x] w fun e w' => e = .returned (.int .u32 (rotr 11 x)) ∧ w = w' := refRotr_calls x 11 w (by omega) (by omega)
theorem rr25 (x : Int) (w : World) : Calls Tryz.prog 108 #[.int .i64 25, .int .u32 x] w fun e w' => e = .returned (.int .u32 (rotr 25 x)) ∧ w = w' := refRotr_calls x 25 w (by omega) (by omega)
theorem rr2 (x : Int) (w : World) : Calls Tryz.prog 108 #[.int .i64 2, .int .u32 x] w fun e w' => e = .returned (.int .u32 (rotr 2 x)) ∧ w = w' := refRotr_calls x 2 w (by omega) (by omega)
theorem rr13 (x : Int) (w : World) : Calls Tryz.prog 108 #[.int .i64 13, .int .u32 x] w fun e w' => e = .returned (.int .u32 (rotr 13 x)) ∧ w = w' := refRotr_calls x 13 w (by omega) (by omega)
theorem rr22 (x : Int) (w : World) : Calls Tryz.prog 108 #[.int .i64 22, .int .u32 x] w fun e w' => e = .returned (.int .u32 (rotr 22 x)) ∧ w = w' := refRotr_calls x 22 w (by omega) (by omega)

theorem Blk.cast {w : World} {g : Nat} {t : TypeId} {cs cs' : Array Value} (h : Blk w g t cs) (e : cs = cs') : Blk w g t cs' := e ▸ h
set_option maxRecDepth 100000 in
set_option maxHeartbeats 4000000 in
theorem refKeys_calls (w : World) : Calls Tryz.prog 107 #[] w fun e w' => e = .returned (.agg (keyList.map wordV).toArray) ∧ Ext w w' := by
  go_enter Tryz.func107, Tryz.ntmps107
  go_wp2_with (refine stop_store 146 (.tmp 0) (.tmp 1) rfl ?_)
  refine ⟨?_⟩
  change wpList _ _ _ _ _ (w.alloc (.cells ((zeros 64).map wordV).toArray 146))
  refine wpList_store_row rfl 146 (.tmp 0) (.tmp 1) rfl w.heap.size (keyList.map wordV).toArray (by rfl) (by rfl) 146 _ (heap_alloc_new _ _) size64 (by simp [zeros, keyList]) (by simp [wordV, Value.oneCell']) ?_
  simp only [Act.put, List.setIfInBounds_toArray, List.set_cons_zero, List.set_cons_succ]
  go_wp2_with fail
  exact bodyPost_ret (results_cell_row rfl _ _ w.heap.size 146 _ (0, 0) _ rfl (Blk.row (Blk.new w _ _) _) Tryz.underlying146 rfl size64) rfl ⟨rfl, ((Ext.refl w).alloc _).row (Nat.le_refl _) _⟩

theorem refStart_calls (w : World) : Calls Tryz.prog 91 #[] w fun e w' => e = .returned (.agg (start.map wordV).toArray) ∧ Ext w w' := by
  go_enter Tryz.func91, Tryz.ntmps91
  go_wp2
  (try simp only [Exit.inBlock, Exit.then]); refine bodyPost_ret (results_cell_row rfl _ _ w.heap.size 125 _ (0, 0) _ rfl (heap_alloc_new w _) Tryz.underlying125 rfl (by kernel_rfl)) rfl ?_
  exact ⟨rfl, (Ext.refl w).alloc _⟩

set_option maxRecDepth 100000 in
set_option maxHeartbeats 2000000 in
theorem refStep_calls (s b : List Int) (hs : s.length = 8) (hb : b.length = 16) (w : World) :
    Calls Tryz.prog 92 #[.agg (s.map wordV).toArray, .agg (b.map wordV).toArray] w fun e w' => e = .returned (.agg ((step s b).map wordV).toArray) ∧ Ext w w' := by
  go_enter Tryz.func92, Tryz.ntmps92
  go_wp2_with fail
  change Calls _ _ _ (((w.alloc (.cells (s.map wordV).toArray 125)).alloc (.cells (b.map wordV).toArray 127)).alloc (.cells ((zeros 8).map wordV).toArray 125)) _
  have hB : Arr (((w.alloc (.cells (s.map wordV).toArray 125)).alloc (.cells (b.map wordV).toArray 127)).alloc (.cells ((zeros 8).map wordV).toArray 125)) (w.heap.size + 1) 127 b := by
    have := Blk.new (w.alloc (.cells (s.map wordV).toArray 125)) 127 (b.map wordV).toArray
    rw [alloc_size] at this
    exact Blk.alloc this _
  have hS : Arr (((w.alloc (.cells (s.map wordV).toArray 125)).alloc (.cells (b.map wordV).toArray 127)).alloc (.cells ((zeros 8).map wordV).toArray 125)) w.heap.size 125 s := Blk.alloc (Blk.alloc (Blk.new w _ _) _) _
  have hR : Arr (((w.alloc (.cells (s.map wordV).toArray 125)).alloc (.cells (b.map wordV).toArray 127)).alloc (.cells ((zeros 8).map wordV).toArray 125)) (w.heap.size + 2) 125 (zeros 8) := by
    have := Blk.new ((w.alloc (.cells (s.map wordV).toArray 125)).alloc (.cells (b.map wordV).toArray 127)) 125 ((zeros 8).map wordV).toArray
    rw [alloc_size, alloc_size] at this
    exact this
  have hE0 := (((Ext.refl w).alloc (.cells (s.map wordV).toArray 125)).alloc (.cells (b.map wordV).toArray 127)).alloc (.cells ((zeros 8).map wordV).toArray 125)
  generalize (((w.alloc (.cells (s.map wordV).toArray 125)).alloc (.cells (b.map wordV).toArray 127)).alloc (.cells ((zeros 8).map wordV).toArray 125)) = w0 at *
  (with_reducible refine (refKeys_calls _).mono ?_); rintro e w1 ⟨rfl, hE1⟩
  have hS1 : Arr w1 w.heap.size 125 s := Blk.below hS hE1 hS.lt
  have hB1 : Arr w1 (w.heap.size + 1) 127 b := Blk.below hB hE1 hB.lt
  have hR1 : Arr w1 (w.heap.size + 2) 125 (zeros 8) := Blk.below hR hE1 hR.lt
  have hE2 : Ext w w1 := hE0.trans hE1
  have hlt1 : w.heap.size + 2 < w1.heap.size := hR1.lt
  clear hB hS hR hE0 hE1
  go_wp2_with (refine stop_store 146 (.tmp 5) (.tmp 19) rfl ?_)
  refine ⟨?_⟩
  change wpList _ _ _ _ _ (w1.alloc (.cells ((zeros 64).map wordV).toArray 146))
  refine wpList_store_row rfl 146 (.tmp 5) (.tmp 19) rfl w1.heap.size (keyList.map wordV).toArray (by rfl) (by rfl) 146 _ (heap_alloc_new _ _) size64 (by simp [zeros, keyList]) (by simp [wordV, Value.oneCell']) ?_
  simp only [Act.put, List.setIfInBounds_toArray, List.set_cons_zero, List.set_cons_succ]
  have hW : Arr ((w1.alloc (.cells ((zeros 64).map wordV).toArray 146)).setRow w1.heap.size (keyList.map wordV).toArray) w1.heap.size 146 keyList := Blk.row (Blk.new w1 _ _) _
  have hS2 : Arr ((w1.alloc (.cells ((zeros 64).map wordV).toArray 146)).setRow w1.heap.size (keyList.map wordV).toArray) w.heap.size 125 s := Blk.rowFar (Blk.alloc hS1 _) (by omega) _
  have hB2 : Arr ((w1.alloc (.cells ((zeros 64).map wordV).toArray 146)).setRow w1.heap.size (keyList.map wordV).toArray) (w.heap.size + 1) 127 b := Blk.rowFar (Blk.alloc hB1 _) (by omega) _
  have hR2 : Arr ((w1.alloc (.cells ((zeros 64).map wordV).toArray 146)).setRow w1.heap.size (keyList.map wordV).toArray) (w.heap.size + 2) 125 (zeros 8) := Blk.rowFar (Blk.alloc hR1 _) (by omega) _
  have hE3 : Ext w ((w1.alloc (.cells ((zeros 64).map wordV).toArray 146)).setRow w1.heap.size (keyList.map wordV).toArray) := (hE2.alloc _).row (by omega) _
  generalize (w1.alloc (.cells ((zeros 64).map wordV).toArray 146)).setRow w1.heap.size (keyList.map wordV).toArray = w3 at *
  generalize hg5 : w1.heap.size = g5 at *
  clear hS1 hR1 hB1 hE2 hg5
  go_wp2_with fail
  change Code.wp _ _ _ _ (w3.alloc (.cells ((zeros 64).map wordV).toArray 146))
  have hl5 : g5 < w3.heap.size := hW.lt
  have hV4 : Arr (w3.alloc (.cells ((zeros 64).map wordV).toArray 146)) w3.heap.size 146 (refW b 0) := Blk.new _ _ _
  have hW4 : Arr (w3.alloc (.cells ((zeros 64).map wordV).toArray 146)) g5 146 keyList := Blk.alloc hW _
  have hS4 : Arr (w3.alloc (.cells ((zeros 64).map wordV).toArray 146)) w.heap.size 125 s := Blk.alloc hS2 _
  have hB4 : Arr (w3.alloc (.cells ((zeros 64).map wordV).toArray 146)) (w.heap.size + 1) 127 b := Blk.alloc hB2 _
  have hR4 : Arr (w3.alloc (.cells ((zeros 64).map wordV).toArray 146)) (w.heap.size + 2) 125 (zeros 8) := Blk.alloc hR2 _
  have hE4 : Ext w (w3.alloc (.cells ((zeros 64).map wordV).toArray 146)) := hE3.alloc _
  generalize (w3.alloc (.cells ((zeros 64).map wordV).toArray 146)) = w4 at *
  generalize hg6 : w3.heap.size = g6 at *
  clear hW hS2 hB2 hR2 hE3 hg6 w3 w1 w0
  go_loopw [7] (fun t wr => ∃ k : Nat, k ≤ 64 ∧ t = .int .i64 (k : Int) ∧ Arr wr g6 146 (refW b k) ∧ Arr wr g5 146 keyList ∧ Arr wr w.heap.size 125 s ∧ Arr wr (w.heap.size + 1) 127 b ∧ Arr wr (w.heap.size + 2) 125 (zeros 8) ∧ Ext w wr) (fun t _ => 64 - (intOf t).toNat)
  case atStart => exact ⟨0, Nat.zero_le _, rfl, hV4, hW4, hS4, hB4, hR4, hE4⟩
  case round =>
    clear hV4 hW4 hS4 hB4 hR4 hE4
    obtain ⟨k, hk, rfl, hV, hW, hS, hB, hR, hE⟩ := hrel
    have hlV := refW_length b k
    by_cases hlt : k < 64
    · have hvl : g6 < wr.heap.size := hV.lt
      have hfr := Blk.frozen hV k
      have hkt : (k : Int) < 64 := by omega
      have hck := hV.cell k (by omega)
      by_cases h16 : k < 16
      · have hb16 : (k : Int) < 16 := by omega
        have hcb := hB.cell k (by omega)
        have hn : refW b (k + 1) = (refW b k).set k (wat b k) := by simp [refW, h16]
        have Hn := Lib.hid hn; clear hn
        go_wp2_with fail
        go_roundw
        case rel => exact ⟨k + 1, by omega, by go_num, by rw [Hn.out]; exact Arr.set hV k _, Blk.far hW (by simp; omega) _, Blk.far hS (by simp; omega) _, Blk.far hB (by simp; omega) _, Blk.far hR (by simp; omega) _, hE.setCell (by simp; omega) _⟩
        case measure => simp [intOf]; omega
      · have hb16 : ¬ (k : Int) < 16 := by omega
        have hk16 : 16 ≤ (k : Int) := by omega
        have hn : refW b (k + 1) = (refW b k).set k (nextR (refW b k) k) := by simp [refW, h16]
        have Hn := Lib.hid hn; clear hn
        have c2 := hV.cell (k - 2) (by omega)
        have c7 := hV.cell (k - 7) (by omega)
        have c15 := hV.cell (k - 15) (by omega)
        have c16 := hV.cell (k - 16) (by omega)
        go_wp2_with fail
        go_at_call 108
        (with_reducible refine (rr17 _ _).mono ?_); rintro e w5 ⟨rfl, rfl⟩
        go_wp2_with fail
        (with_reducible refine (rr19 _ _).mono ?_); rintro e w5 ⟨rfl, rfl⟩
        go_wp2_with fail
        (with_reducible refine (rr7 _ _).mono ?_); rintro e w5 ⟨rfl, rfl⟩
        go_wp2_with fail
        (with_reducible refine (rr18 _ _).mono ?_); rintro e w5 ⟨rfl, rfl⟩
        go_wp2_with fail
        refine region_mix 15 (by kernel_rfl) (by kernel_rfl) (fun x => ?_); simp only [List.take_succ_cons, List.take_zero, List.drop_succ_cons, List.drop_zero]
        repeat (first | (refine mix_quiet (by rfl) (by rfl) (fun K hK => ?_); go_big_quiet_op; refine hK _ ?_; clear hK K) | (refine mix_skip (by rfl) ?_; simp only [Act.put, List.setIfInBounds_toArray, List.set_cons_zero, List.set_cons_succ]))
        refine mix_nil ?_
        go_wp2_with fail
        go_roundw
        case rel => exact ⟨k + 1, by omega, by go_num, by rw [Hn.out]; exact Arr.set (Blk.grow x hV) k _, Blk.far (Blk.grow x hW) (by simp; omega) _, Blk.far (Blk.grow x hS) (by simp; omega) _, Blk.far (Blk.grow x hB) (by simp; omega) _, Blk.far (Blk.grow x hR) (by simp; omega) _, (hE.trans (grow_ext x)).setCell (by simp; omega) _⟩
        case measure => simp [intOf]; omega
    · obtain rfl : k = 64 := by omega
      rw [refW_sched b hb] at hV
      clear hlV hB
      have hlS := schedK_length b hb 48
      have hv5 : g5 < wr.heap.size := hW.lt
      have hv6 : g6 < wr.heap.size := hV.lt
      go_wp2_with (refine stop_load 125 (.tmp 2) rfl ?_)
      refine ⟨?_⟩
      refine wpList_load_row rfl 125 (.tmp 2) rfl w.heap.size (by rfl) 125 _ (0, 0) _ hS Tryz.underlying125 rfl (size8.trans (by simp [hs])) ?_
      simp only [Act.put, List.setIfInBounds_toArray, List.set_cons_zero, List.set_cons_succ]
      go_wp2_with (refine stop_store 125 (.tmp 12) (.tmp 70) rfl ?_)
      refine ⟨?_⟩
      change wpList _ _ _ _ _ (wr.alloc (.cells ((zeros 8).map wordV).toArray 125))
      refine wpList_store_row rfl 125 (.tmp 12) (.tmp 70) rfl wr.heap.size _ (by rfl) (by rfl) 125 _ (heap_alloc_new _ _) (size8.trans (by simp [hs])) (by simp [zeros, hs]) (by simp [wordV, Value.oneCell']) ?_
      simp only [Act.put, List.setIfInBounds_toArray, List.set_cons_zero, List.set_cons_succ]
      have hT1 : Arr ((wr.alloc (.cells ((zeros 8).map wordV).toArray 125)).setRow wr.heap.size (s.map wordV).toArray) wr.heap.size 125 (rounds (schedK b 48) s 0) := Blk.row (Blk.new wr _ _) _
      have hW1 : Arr ((wr.alloc (.cells ((zeros 8).map wordV).toArray 125)).setRow wr.heap.size (s.map wordV).toArray) g5 146 keyList := Blk.rowFar (Blk.alloc hW _) (by omega) _
      have hV1 : Arr ((wr.alloc (.cells ((zeros 8).map wordV).toArray 125)).setRow wr.heap.size (s.map wordV).toArray) g6 146 (schedK b 48) := Blk.rowFar (Blk.alloc hV _) (by omega) _
      have hS1 : Arr ((wr.alloc (.cells ((zeros 8).map wordV).toArray 125)).setRow wr.heap.size (s.map wordV).toArray) w.heap.size 125 s := Blk.rowFar (Blk.alloc hS _) (by omega) _
      have hR1 : Arr ((wr.alloc (.cells ((zeros 8).map wordV).toArray 125)).setRow wr.heap.size (s.map wordV).toArray) (w.heap.size + 2) 125 (zeros 8) := Blk.rowFar (Blk.alloc hR _) (by omega) _
      have hE1 : Ext w ((wr.alloc (.cells ((zeros 8).map wordV).toArray 125)).setRow wr.heap.size (s.map wordV).toArray) := (hE.alloc _).row (by omega) _
      generalize (wr.alloc (.cells ((zeros 8).map wordV).toArray 125)).setRow wr.heap.size (s.map wordV).toArray = w7 at *
      have hgv : w.heap.size + 2 < wr.heap.size := hR.lt
      generalize hg7 : wr.heap.size = g7 at *
      clear hV hW hS hR hE hg7
      go_wp2_with fail
      clear wr
      go_loopw [13] (fun t wr => ∃ k : Nat, k ≤ 64 ∧ t = .int .i64 (k : Int) ∧ Arr wr g7 125 (rounds (schedK b 48) s k) ∧ Arr wr g6 146 (schedK b 48) ∧ Arr wr g5 146 keyList ∧ Arr wr w.heap.size 125 s ∧ Arr wr (w.heap.size + 2) 125 (zeros 8) ∧ Ext w wr) (fun t _ => 64 - (intOf t).toNat)
      case atStart => exact ⟨0, Nat.zero_le _, rfl, hT1, hV1, hW1, hS1, hR1, hE1⟩
      case round =>
        clear hT1 hV1 hW1 hS1 hR1 hE1
        obtain ⟨k, hk, rfl, hT, hV, hW, hS, hR, hE⟩ := hrel
        have hlr := rounds_length (schedK b 48) s hs k
        by_cases hlt : k < 64
        · have hkt : (k : Int) < 64 := by omega
          have hl7 : g7 < wr.heap.size := hT.lt
          have hl6 : g6 < wr.heap.size := hV.lt
          have hl5 : g5 < wr.heap.size := hW.lt
          have cw := hV.cell k (by omega)
          have ck := hW.cell k hlt
          have hn : rounds (schedK b 48) s (k + 1) = rnd (schedK b 48) (rounds (schedK b 48) s k) k := rfl
          have Hn := Lib.hid hn; clear hn
          generalize rounds (schedK b 48) s k = v at *
          have c0 := hT.cell 0 (by omega)
          have c1 := hT.cell 1 (by omega)
          have c2 := hT.cell 2 (by omega)
          have c3 := hT.cell 3 (by omega)
          have c4 := hT.cell 4 (by omega)
          have c5 := hT.cell 5 (by omega)
          have c6 := hT.cell 6 (by omega)
          have c7 := hT.cell 7 (by omega)
          go_wp2_with fail
          refine region_mix0 (by kernel_rfl) (by kernel_rfl) (fun x => ?_)
          repeat (first | (refine mix_quiet (by rfl) (by rfl) (fun K hK => ?_); go_big_quiet_op; refine hK _ ?_; clear hK K) | (refine mix_skip (by rfl) ?_; simp only [Act.put, List.setIfInBounds_toArray, List.set_cons_zero, List.set_cons_succ]))
          (refine mix_loud (by rfl) (by rfl) (fun K E hK => ?_); go_big_op)
          (with_reducible refine (rr6 _ _).mono ?_); rintro e w3 ⟨rfl, hd⟩
          obtain ⟨x1, rfl⟩ := more_same x hd; clear hd
          refine hK _ _ ⟨_, rfl⟩ ?_; clear hK K E
          repeat (first | (refine mix_quiet (by rfl) (by rfl) (fun K hK => ?_); go_big_quiet_op; refine hK _ ?_; clear hK K) | (refine mix_skip (by rfl) ?_; simp only [Act.put, List.setIfInBounds_toArray, List.set_cons_zero, List.set_cons_succ]))
          (refine mix_loud (by rfl) (by rfl) (fun K E hK => ?_); go_big_op)
          (with_reducible refine (rr11 _ _).mono ?_); rintro e w3 ⟨rfl, hd⟩
          obtain ⟨x2, rfl⟩ := more_same x1 hd; clear hd
          refine hK _ _ ⟨_, rfl⟩ ?_; clear hK K E
          repeat (first | (refine mix_quiet (by rfl) (by rfl) (fun K hK => ?_); go_big_quiet_op; refine hK _ ?_; clear hK K) | (refine mix_skip (by rfl) ?_; simp only [Act.put, List.setIfInBounds_toArray, List.set_cons_zero, List.set_cons_succ]))
          (refine mix_loud (by rfl) (by rfl) (fun K E hK => ?_); go_big_op)
          (with_reducible refine (rr25 _ _).mono ?_); rintro e w3 ⟨rfl, hd⟩
          obtain ⟨x3, rfl⟩ := more_same x2 hd; clear hd
          refine hK _ _ ⟨_, rfl⟩ ?_; clear hK K E
          repeat (first | (refine mix_quiet (by rfl) (by rfl) (fun K hK => ?_); go_big_quiet_op; refine hK _ ?_; clear hK K) | (refine mix_skip (by rfl) ?_; simp only [Act.put, List.setIfInBounds_toArray, List.set_cons_zero, List.set_cons_succ]))
          refine mix_nil ?_
          repeat go_step
          have d0 := (grow_cell x3 _ 0 hl7).trans c0
          have d1 := (grow_cell x3 _ 1 hl7).trans c1
          have d2 := (grow_cell x3 _ 2 hl7).trans c2
          have d3 := (grow_cell x3 _ 3 hl7).trans c3
          have d4 := (grow_cell x3 _ 4 hl7).trans c4
          have d5 := (grow_cell x3 _ 5 hl7).trans c5
          have d6 := (grow_cell x3 _ 6 hl7).trans c6
          have hT2 : Arr (grow wr x3) g7 125 v := Blk.grow x3 hT
          have hV2 : Arr (grow wr x3) g6 146 (schedK b 48) := Blk.grow x3 hV
          have hW2 : Arr (grow wr x3) g5 146 keyList := Blk.grow x3 hW
          have hS2 : Arr (grow wr x3) w.heap.size 125 s := Blk.grow x3 hS
          have hR2 : Arr (grow wr x3) (w.heap.size + 2) 125 (zeros 8) := Blk.grow x3 hR
          have hE2 : Ext w (grow wr x3) := hE.trans (grow_ext x3)
          have hl7' : g7 < (grow wr x3).heap.size := hT2.lt
          clear c0 c1 c2 c3 c4 c5 c6 c7 cw ck hT hV hW hS hR hE hl5 hl6 hl7
          generalize grow wr x3 = w8 at *
          clear x x1 x2 x3
          refine region_mix0 (by kernel_rfl) (by kernel_rfl) (fun x => ?_)
          repeat (first | (refine mix_quiet (by rfl) (by rfl) (fun K hK => ?_); go_big_quiet_op; refine hK _ ?_; clear hK K) | (refine mix_skip (by rfl) ?_; simp only [Act.put, List.setIfInBounds_toArray, List.set_cons_zero, List.set_cons_succ]))
          (refine mix_loud (by rfl) (by rfl) (fun K E hK => ?_); go_big_op)
          (with_reducible refine (rr2 _ _).mono ?_); rintro e w3 ⟨rfl, hd⟩
          obtain ⟨x1, rfl⟩ := more_same x hd; clear hd
          refine hK _ _ ⟨_, rfl⟩ ?_; clear hK K E
          repeat (first | (refine mix_quiet (by rfl) (by rfl) (fun K hK => ?_); go_big_quiet_op; refine hK _ ?_; clear hK K) | (refine mix_skip (by rfl) ?_; simp only [Act.put, List.setIfInBounds_toArray, List.set_cons_zero, List.set_cons_succ]))
          (refine mix_loud (by rfl) (by rfl) (fun K E hK => ?_); go_big_op)
          (with_reducible refine (rr13 _ _).mono ?_); rintro e w3 ⟨rfl, hd⟩
          obtain ⟨x2, rfl⟩ := more_same x1 hd; clear hd
          refine hK _ _ ⟨_, rfl⟩ ?_; clear hK K E
          repeat (first | (refine mix_quiet (by rfl) (by rfl) (fun K hK => ?_); go_big_quiet_op; refine hK _ ?_; clear hK K) | (refine mix_skip (by rfl) ?_; simp only [Act.put, List.setIfInBounds_toArray, List.set_cons_zero, List.set_cons_succ]))
          (refine mix_loud (by rfl) (by rfl) (fun K E hK => ?_); go_big_op)
          (with_reducible refine (rr22 _ _).mono ?_); rintro e w3 ⟨rfl, hd⟩
          obtain ⟨x3, rfl⟩ := more_same x2 hd; clear hd
          refine hK _ _ ⟨_, rfl⟩ ?_; clear hK K E
          repeat (first | (refine mix_quiet (by rfl) (by rfl) (fun K hK => ?_); go_big_quiet_op; refine hK _ ?_; clear hK K) | (refine mix_skip (by rfl) ?_; simp only [Act.put, List.setIfInBounds_toArray, List.set_cons_zero, List.set_cons_succ]))
          refine mix_nil ?_
          have hT3 : Arr (grow w8 x3) g7 125 v := Blk.grow x3 hT2
          iterate 63 go_step
          refine wpList_store_row rfl 125 (.tmp 12) (.tmp 152) rfl g7 _ (by rfl) (by rfl) 125 _ hT3 (by exact size8) (by simp [hlr]) (by simp [Value.oneCell']) ?_
          simp only [Act.put, List.setIfInBounds_toArray, List.set_cons_zero, List.set_cons_succ]
          repeat go_step
          go_roundw
          case rel => exact ⟨k + 1, by omega, by go_num, by rw [Hn.out]; exact Blk.cast (Blk.row hT3 _) (by simp [rnd, rndOne, rndTwo, turn, xorW, andW, wordV, IntKind.signed]), Blk.rowFar (Blk.grow x3 hV2) (by omega) _, Blk.rowFar (Blk.grow x3 hW2) (by omega) _, Blk.rowFar (Blk.grow x3 hS2) (by omega) _, Blk.rowFar (Blk.grow x3 hR2) (by omega) _, (hE2.trans (grow_ext x3)).row (by omega) _⟩
          case measure => simp [intOf]; omega
        · obtain rfl : k = 64 := by omega
          clear hV hW hlr
          have hv : ∃ v, v = rounds (schedK b 48) s 64 := ⟨_, rfl⟩
          obtain ⟨v, hv⟩ := hv
          have hvl := rounds_length (schedK b 48) s hs 64
          rw [← hv] at hT hvl
          have Hv := Lib.hid hv; clear hv
          have hA0 : Arr wr g7 125 (addK v s 0) := hT
          clear hT
          go_wp2_with fail
          obtain ⟨wo, rfl⟩ : ∃ wo : World, wo = wr := ⟨_, rfl⟩
          go_loopw [18] (fun t wr => ∃ k : Nat, k ≤ 8 ∧ t = .int .i64 (k : Int) ∧ Arr wr g7 125 (addK v s k) ∧ Arr wr w.heap.size 125 s ∧ Arr wr (w.heap.size + 2) 125 (zeros 8) ∧ Ext w wr) (fun t _ => 8 - (intOf t).toNat)
          case atStart => exact ⟨0, Nat.zero_le _, rfl, hA0, hS, hR, hE⟩
          case round =>
            clear hS hR hE hA0
            obtain ⟨k, hk, rfl, hT, hS, hR, hE⟩ := hrel
            have hl := addK_length v s k
            by_cases hlt : k < 8
            · have hcell := hT.cell k (by omega)
              have hcs := hS.cell k (by omega)
              have hfr := Blk.frozen hT k
              have hkt : (k : Int) < 8 := by omega
              have hl7 : g7 < wr.heap.size := hT.lt
              have hl2 : w.heap.size < wr.heap.size := hS.lt
              go_wp2_with fail
              refine region_mix 9 (by kernel_rfl) (by kernel_rfl) (fun x => ?_); simp only [List.take_succ_cons, List.take_zero, List.drop_succ_cons, List.drop_zero]
              repeat (first | (refine mix_quiet (by rfl) (by rfl) (fun K hK => ?_); go_big_quiet_op; refine hK _ ?_; clear hK K) | (refine mix_skip (by rfl) ?_; simp only [Act.put, List.setIfInBounds_toArray, List.set_cons_zero, List.set_cons_succ]))
              refine mix_nil ?_
              go_wp2_with fail
              go_roundw
              case rel => exact ⟨k + 1, by omega, by go_num, Arr.set (Blk.grow x hT) k _, Blk.far (Blk.grow x hS) (by simp; omega) _, Blk.far (Blk.grow x hR) (by simp; omega) _, (hE.trans (grow_ext x)).setCell (by simp; omega) _⟩
              case measure => simp [intOf]; omega
            · obtain rfl : k = 8 := by omega
              go_wp2_with (refine stop_load 125 (.tmp 12) rfl ?_)
              refine ⟨?_⟩
              refine wpList_load_row rfl 125 (.tmp 12) rfl g7 (by rfl) 125 _ (0, 0) _ hT Tryz.underlying125 rfl (size8.trans (by simp [hl, hvl])) ?_
              refine wpList_store_row rfl 125 (.tmp 4) (.tmp 166) rfl (w.heap.size + 2) _ (by rfl) (by rfl) 125 _ hR (size8.trans (by simp [hl, hvl])) (by simp [hl, hvl, zeros]) (by simp [wordV, Value.oneCell']) ?_
              simp only [Act.put, List.setIfInBounds_toArray, List.set_cons_zero, List.set_cons_succ]
              go_wp2_with fail
              refine bodyPost_ret (results_cell_row rfl _ _ (w.heap.size + 2) 125 _ (0, 0) _ rfl (Blk.row hR _) Tryz.underlying125 rfl (size8.trans (by simp [hl, hvl]))) rfl ⟨?_, hE.row (by omega) _⟩
              rw [step_ref s b hs, ← Hv.out]

end Go.Proofs.YtcgnjdkennkheaaGreatDoor
