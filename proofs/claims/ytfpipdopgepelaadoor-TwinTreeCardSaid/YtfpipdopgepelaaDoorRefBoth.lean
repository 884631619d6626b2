/-
  The walk of the document's both (recursion on n). NOT BUILT YET: holds sorry.
-/
import Derived.Test.YtfpipdopgepelaaDoorProofM
set_option linter.unusedVariables false
set_option maxRecDepth 100000
set_option linter.unusedSimpArgs false
namespace Go.Proofs.YtfpipdopgepelaaDoor
open Go.ChangeShapes Go.WideShapes Go.ChangeAt Go.RowKit
attribute [local go_sem] bs_size bs_toList2 bs_append bs_extract_end bs_extract_begin bs_get wrap64_b grow_cell grow_frozen

def rbW0 (a : List UInt8) (w : World) : World := ((w.alloc (.cells (a.map byteV).toArray 23)).alloc (.cells ((zerosB 32).map byteV).toArray 23)).alloc (.cells ((zerosB 32).map byteV).toArray 23)
theorem rbW0_facts (a : List UInt8) (w : World) : ArrB (rbW0 a w) w.heap.size 23 a ∧ ArrB (rbW0 a w) (w.heap.size + 1) 23 (zerosB 32) ∧ ArrB (rbW0 a w) (w.heap.size + 1 + 1) 23 (zerosB 32) ∧ Ext w (rbW0 a w) ∧ (rbW0 a w).heap.size = w.heap.size + 3 := by
  have h1 := Blk.new w 23 (a.map byteV).toArray
  have h3 := Blk.new (w.alloc (.cells (a.map byteV).toArray 23)) 23 ((zerosB 32).map byteV).toArray
  have h4 := Blk.new ((w.alloc (.cells (a.map byteV).toArray 23)).alloc (.cells ((zerosB 32).map byteV).toArray 23)) 23 ((zerosB 32).map byteV).toArray
  simp only [alloc_size] at h3 h4
  exact ⟨(h1.alloc _).alloc _, h3.alloc _, h4, (((Ext.refl w).alloc _).alloc _).alloc _, by unfold rbW0; simp only [alloc_size]⟩

set_option maxHeartbeats 2000000 in
theorem refboth_all (a : List UInt8) (ha : a.length = 32) (v : Value) (n : Nat) (w : World) :
    Calls Tryd.prog 54 #[sumV a, .int .i64 (n : Int), .int .i64 (n : Int), .bool true, v] w fun e w' => e = .returned (.tuple #[sumV a, sumV a, .int .i64 0]) ∧ Ext w w' := by
  have hfold := fold_sum a ha
  have hzz : (zerosB 32).length = 32 := rfl
  unfold sumV
  go_enter Tryd.func54, Tryd.ntmps54
  obtain ⟨hX, hY, hZ, hE, hz⟩ := rbW0_facts a w
  go_wp2_with fail
  change Code.wp _ _ _ _ (rbW0 a w)
  generalize rbW0 a w = w1 at *
  refine region_keep0 (fun k => k ≠ w.heap.size + 1 ∧ k ≠ w.heap.size + 1 + 1) (by kernel_rfl) (by kernel_rfl) ?_
  refine held_row (by rfl) (by rfl) 23 (.tmp 5) rfl w.heap.size (by rfl) 23 _ _ hX ⟨by omega, by omega⟩ Tryd.underlying23 rfl (size32.trans (by simp [ha])) ?_
  simp only [Act.put, List.setIfInBounds_toArray, List.set_cons_zero, List.set_cons_succ]
  refine held_row (by rfl) (by rfl) 23 (.tmp 5) rfl w.heap.size (by rfl) 23 _ _ hX ⟨by omega, by omega⟩ Tryd.underlying23 rfl (size32.trans (by simp [ha])) ?_
  simp only [Act.put, List.setIfInBounds_toArray, List.set_cons_zero, List.set_cons_succ]
  have jk : Keep (fun k => k ≠ w.heap.size + 1 ∧ k ≠ w.heap.size + 1 + 1) w1 (w1.drew.setRow (w.heap.size + 1) ((a).map byteV).toArray) := (Keep.refl _ _).drew.trans (Keep.of_upd ((Upd.refl _ _).row _) (fun h => h.1 rfl))
  refine mix_store_row (by rfl) (by rfl) 23 (.tmp 10) (.tmp 25) rfl (w.heap.size + 1) ((a).map byteV).toArray (by rfl) (by rfl) 23 _ (Blk.drew hY) (size32.trans (by simp [ha])) (by simp [ha, zerosB]) (by simp [byteV, Value.oneCell']) (held_of jk) ?_
  simp only [Act.put, List.setIfInBounds_toArray, List.set_cons_zero, List.set_cons_succ]
  have oY : ArrB (w1.drew.setRow (w.heap.size + 1) ((a).map byteV).toArray) (w.heap.size + 1) 23 (a) := Blk.row (Blk.drew hY) _
  have oZ : ArrB (w1.drew.setRow (w.heap.size + 1) ((a).map byteV).toArray) (w.heap.size + 1 + 1) 23 (zerosB 32) := Blk.rowFar (Blk.drew hZ) (by omega) _
  generalize w1.drew.setRow (w.heap.size + 1) ((a).map byteV).toArray = w6 at *
  have kk : Keep (fun k => k ≠ w.heap.size + 1 ∧ k ≠ w.heap.size + 1 + 1) w1 (w6.setRow (w.heap.size + 1 + 1) ((a).map byteV).toArray) := jk.trans (Keep.of_upd ((Upd.refl _ _).row _) (fun h => h.2 rfl))
  refine mix_store_row (by rfl) (by rfl) 23 (.tmp 11) (.tmp 26) rfl (w.heap.size + 1 + 1) ((a).map byteV).toArray (by rfl) (by rfl) 23 _ oZ (size32.trans (by simp [ha])) (by simp [ha, zerosB]) (by simp [byteV, Value.oneCell']) (held_of kk) ?_
  simp only [Act.put, List.setIfInBounds_toArray, List.set_cons_zero, List.set_cons_succ]
  have rY : ArrB (w6.setRow (w.heap.size + 1 + 1) ((a).map byteV).toArray) (w.heap.size + 1) 23 (a) := Blk.rowFar oY (by omega) _
  have rZ : ArrB (w6.setRow (w.heap.size + 1 + 1) ((a).map byteV).toArray) (w.heap.size + 1 + 1) 23 (a) := Blk.row oZ _
  generalize w6.setRow (w.heap.size + 1 + 1) ((a).map byteV).toArray = w7 at *
  iterate 1 (first | (refine mix_quiet (by rfl) (by rfl) (fun K hK => ?_); go_big_quiet_op; refine hK _ ?_; clear hK K) | (refine mix_skip (by rfl) ?_; simp only [Act.put, List.setIfInBounds_toArray, List.set_cons_zero, List.set_cons_succ]))
  refine mix_nil ?_
  have hk7 : Keep (fun k => k < w.heap.size) w w7 := (Keep.of_ext hE).trans (kk.mono (fun k _ h => ⟨by omega, by omega⟩))
  go_wp2_with fail
  (try simp only [Exit.inBlock, Exit.then]); refine bodyPost_ret (res_two_t rfl _ _ (w.heap.size + 1) (w.heap.size + 1 + 1) 23 23 _ _ _ rfl rfl rY rZ Tryd.underlying23 rfl (size32.trans (by simp [ha])) (size32.trans (by simp [ha]))) rfl ?_
  exact ⟨rfl, hk7.ext⟩

set_option maxHeartbeats 2000000 in
theorem refboth_head (a : List UInt8) (ha : a.length = 32) (A : Option Addr) (cap : Nat) (l : List (List UInt8)) (hl : AllH l) (hlen : 0 < l.length) (hll : l.length ≤ 1000000) (n : Nat) (w : World) (hrd : Rd w w.heap.size A (flatS l)) :
    Calls Tryd.prog 54 #[sumV a, .int .i64 (n : Int), .int .i64 (n : Int), .bool false, .slice A l.length cap] w fun e w' => e = .returned (.tuple #[sumV (l.headD a), sumV (l.headD a), .int .i64 1]) ∧ Ext w w' := by
  obtain ⟨b, off, rfl, hbl, hm0⟩ := rds_mid hrd hl (k := 0) hlen
  simp only [Nat.zero_mul, Nat.add_zero] at hm0
  have hz32 := headD_length l hl a ha
  have hh : l[0]'hlen = l.headD a := by cases l with
    | nil => simp at hlen
    | cons x l => rfl
  rw [hh] at hm0
  clear hh
  generalize l.headD a = z at *
  have hlI : (0 : Int) < (l.length : Int) := by omega
  have hfold := fold_sum a ha
  have hzz : (zerosB 32).length = 32 := rfl
  unfold sumV
  go_enter Tryd.func54, Tryd.ntmps54
  obtain ⟨hX, hY, hZ, hE, hz⟩ := rbW0_facts a w
  have hm : (rbW0 a w).rangeAt b off (hcells z) := fun i u hu => ((ext_cells hE).1 b _ hbl).trans (hm0 i u hu)
  clear hm0
  go_wp2_with fail
  change Code.wp _ _ _ _ (rbW0 a w)
  generalize rbW0 a w = w1 at *
  refine region_keep0 (fun k => k ≠ w.heap.size + 1 ∧ k ≠ w.heap.size + 1 + 1) (by kernel_rfl) (by kernel_rfl) ?_
  iterate 2 (first | (refine mix_quiet (by rfl) (by rfl) (fun K hK => ?_); go_big_quiet_op; refine hK _ ?_; clear hK K) | (refine mix_skip (by rfl) ?_; simp only [Act.put, List.setIfInBounds_toArray, List.set_cons_zero, List.set_cons_succ]))
  refine held_mid (by rfl) (by rfl) 23 (.tmp 28) rfl b off (by rfl) (hcells z) _ hm (by omega) ⟨by omega, by omega⟩ Tryd.underlying23 rfl (size32l _ hz32) ?_
  simp only [Act.put, List.setIfInBounds_toArray, List.set_cons_zero, List.set_cons_succ]
  iterate 2 (first | (refine mix_quiet (by rfl) (by rfl) (fun K hK => ?_); go_big_quiet_op; refine hK _ ?_; clear hK K) | (refine mix_skip (by rfl) ?_; simp only [Act.put, List.setIfInBounds_toArray, List.set_cons_zero, List.set_cons_succ]))
  refine held_mid (by rfl) (by rfl) 23 (.tmp 31) rfl b off (by rfl) (hcells z) _ hm (by omega) ⟨by omega, by omega⟩ Tryd.underlying23 rfl (size32l _ hz32) ?_
  simp only [Act.put, List.setIfInBounds_toArray, List.set_cons_zero, List.set_cons_succ]
  unfold hcells
  have jk : Keep (fun k => k ≠ w.heap.size + 1 ∧ k ≠ w.heap.size + 1 + 1) w1 (w1.drew.setRow (w.heap.size + 1) ((z).map byteV).toArray) := (Keep.refl _ _).drew.trans (Keep.of_upd ((Upd.refl _ _).row _) (fun h => h.1 rfl))
  refine mix_store_row (by rfl) (by rfl) 23 (.tmp 10) (.tmp 29) rfl (w.heap.size + 1) ((z).map byteV).toArray (by rfl) (by rfl) 23 _ (Blk.drew hY) (size32.trans (by simp [hz32])) (by simp [hz32, zerosB]) (by simp [byteV, Value.oneCell']) (held_of jk) ?_
  simp only [Act.put, List.setIfInBounds_toArray, List.set_cons_zero, List.set_cons_succ]
  have oY : ArrB (w1.drew.setRow (w.heap.size + 1) ((z).map byteV).toArray) (w.heap.size + 1) 23 (z) := Blk.row (Blk.drew hY) _
  have oZ : ArrB (w1.drew.setRow (w.heap.size + 1) ((z).map byteV).toArray) (w.heap.size + 1 + 1) 23 (zerosB 32) := Blk.rowFar (Blk.drew hZ) (by omega) _
  generalize w1.drew.setRow (w.heap.size + 1) ((z).map byteV).toArray = w6 at *
  have kk : Keep (fun k => k ≠ w.heap.size + 1 ∧ k ≠ w.heap.size + 1 + 1) w1 (w6.setRow (w.heap.size + 1 + 1) ((z).map byteV).toArray) := jk.trans (Keep.of_upd ((Upd.refl _ _).row _) (fun h => h.2 rfl))
  refine mix_store_row (by rfl) (by rfl) 23 (.tmp 11) (.tmp 32) rfl (w.heap.size + 1 + 1) ((z).map byteV).toArray (by rfl) (by rfl) 23 _ oZ (size32.trans (by simp [hz32])) (by simp [hz32, zerosB]) (by simp [byteV, Value.oneCell']) (held_of kk) ?_
  simp only [Act.put, List.setIfInBounds_toArray, List.set_cons_zero, List.set_cons_succ]
  have rY : ArrB (w6.setRow (w.heap.size + 1 + 1) ((z).map byteV).toArray) (w.heap.size + 1) 23 (z) := Blk.rowFar oY (by omega) _
  have rZ : ArrB (w6.setRow (w.heap.size + 1 + 1) ((z).map byteV).toArray) (w.heap.size + 1 + 1) 23 (z) := Blk.row oZ _
  generalize w6.setRow (w.heap.size + 1 + 1) ((z).map byteV).toArray = w7 at *
  iterate 1 (first | (refine mix_quiet (by rfl) (by rfl) (fun K hK => ?_); go_big_quiet_op; refine hK _ ?_; clear hK K) | (refine mix_skip (by rfl) ?_; simp only [Act.put, List.setIfInBounds_toArray, List.set_cons_zero, List.set_cons_succ]))
  refine mix_nil ?_
  have hk7 : Keep (fun k => k < w.heap.size) w w7 := (Keep.of_ext hE).trans (kk.mono (fun k _ h => ⟨by omega, by omega⟩))
  go_wp2_with fail
  (try simp only [Exit.inBlock, Exit.then]); refine bodyPost_ret (res_two_t rfl _ _ (w.heap.size + 1) (w.heap.size + 1 + 1) 23 23 _ _ _ rfl rfl rY rZ Tryd.underlying23 rfl (size32.trans (by simp [hz32])) (size32.trans (by simp [hz32]))) rfl ?_
  exact ⟨rfl, hk7.ext⟩

set_option maxHeartbeats 4000000 in
theorem refboth_first (a : List UInt8) (ha : a.length = 32) (A : Option Addr) (cap : Nat) (l : List (List UInt8)) (hl : AllH l) (hll : l.length ≤ 1000000) (m n : Nat) (whole : Bool) (h1 : 1 ≤ m) (h2 : m ≤ Tree.split n) (hmn : m < n) (h3 : n ≤ 1099511627776) (N : Nat) (hN : N < l.length) (x y : List UInt8) (hx : x.length = 32) (hy : y.length = 32) (w : World) (hrd : Rd w w.heap.size A (flatS l))
    (ih : ∀ w : World, Rd w w.heap.size A (flatS l) → Calls Tryd.prog 54 #[sumV a, .int .i64 (m : Int), .int .i64 (Tree.split n : Int), .bool whole, .slice A l.length cap] w fun e w' => e = .returned (.tuple #[sumV x, sumV y, .int .i64 (N : Int)]) ∧ Ext w w') :
    Calls Tryd.prog 54 #[sumV a, .int .i64 (m : Int), .int .i64 (n : Int), .bool whole, .slice A l.length cap] w fun e w' => e = .returned (.tuple #[sumV x, sumV (nodeB y l[N]), .int .i64 ((N : Int) + 1)]) ∧ Ext w w' := by
  obtain ⟨b, off, rfl, hbl, hm0⟩ := rds_mid hrd hl (k := N) hN
  have hq32 : l[N].length = 32 := hl _ (List.getElem_mem hN)
  generalize l[N] = q at *
  have hfold := fold_sum a ha
  have hzz : (zerosB 32).length = 32 := rfl
  have hne : ((m : Int) == (n : Int)) = false := by rw [beq_eq_false_iff_ne]; omega
  have HSp := Lib.hid (splitI_nat n (by omega))
  have dk : decide ((m : Int) ≤ (Tree.split n : Int)) = true := decide_eq_true (by omega)
  have hsl := Tree.split_lt n (by omega)
  have hsp := Tree.split_pos n (by omega)
  have hNI : (N : Int) < (l.length : Int) := by omega
  have hnl := nodeB_length
  unfold sumV
  go_enter Tryd.func54, Tryd.ntmps54
  obtain ⟨hX, hY, hZ, hE, hz⟩ := rbW0_facts a w
  go_wp2_with fail
  change Calls _ _ _ (rbW0 a w) _
  generalize rbW0 a w = w1 at *
  refine (refSplit_calls (n : Int) (by omega) (by omega) _).mono ?_; rw [HSp.out]; rintro e w2 ⟨rfl, rfl⟩
  generalize Tree.split n = k at *
  go_wp2_with (refine stop_load 23 (.tmp 5) rfl ?_)
  refine ⟨?_⟩
  refine wpList_load_row rfl 23 (.tmp 5) rfl w.heap.size (by rfl) 23 _ (0, 0) _ hX Tryd.underlying23 rfl (size32.trans (by simp [ha])) ?_
  simp only [Act.put, List.setIfInBounds_toArray, List.set_cons_zero, List.set_cons_succ]
  go_wp2_with fail
  change Calls _ _ #[sumV a, _, _, _, _] _ _
  refine (ih _ ((hrd.below hE (Nat.le_refl _)).more hE.size)).mono ?_; rintro e w2 ⟨rfl, e2⟩
  have hY2 := Blk.below hY e2 (Blk.lt hY)
  have hZ2 := Blk.below hZ e2 (Blk.lt hZ)
  have hE2 := hE.trans e2
  have hs2 := e2.size
  clear hX hY hZ hE e2 ih
  unfold sumV
  go_wp2_with (refine stop_store 23 (.tmp 14) (.tmp 45) rfl ?_)
  refine ⟨?_⟩
  change wpList _ _ _ _ _ (twoW w2)
  obtain ⟨p1, p2, p3⟩ := twoW_facts w2
  have hgx : w.heap.size + 3 ≤ w2.heap.size := by omega
  have hY3 := Blk.below hY2 p3 (Blk.lt hY2)
  have hZ3 := Blk.below hZ2 p3 (Blk.lt hZ2)
  have hE3 := hE2.trans p3
  generalize w2.heap.size = gx at *
  clear hY2 hZ2 hE2 p3
  generalize twoW w2 = w3 at *
  go_wp2_with (refine stop_store 23 (.tmp 14) (.tmp 45) rfl ?_)
  refine ⟨?_⟩
  refine wpList_store_row rfl 23 (.tmp 14) (.tmp 45) rfl gx ((x).map byteV).toArray (by rfl) (by rfl) 23 _ p1 (size32.trans (by simp [hx])) (by simp [hx, hzz]) (by simp [byteV, Value.oneCell']) ?_
  simp only [Act.put, List.setIfInBounds_toArray, List.set_cons_zero, List.set_cons_succ]
  have hX : ArrB (w3.setRow gx ((x).map byteV).toArray) gx 23 (x) := Blk.row p1 _
  have hXu : Upd gx w3 (w3.setRow gx ((x).map byteV).toArray) := (Upd.refl _ _).row _
  generalize w3.setRow gx ((x).map byteV).toArray = w4 at *
  have hY4 := Blk.kept (S := fun k => k ≠ gx) hY3 (.of_upd hXu (fun h => h rfl)) (by omega)
  have hZ4 := Blk.kept (S := fun k => k ≠ gx) hZ3 (.of_upd hXu (fun h => h rfl)) (by omega)
  have q2 := Blk.kept (S := fun k => k ≠ gx) p2 (.of_upd hXu (fun h => h rfl)) (by omega)
  have hE4 := hE3.upd hXu (by omega)
  clear hY3 hZ3 hE3 hXu p1 p2
  go_wp2_with (refine stop_store 23 (.tmp 15) (.tmp 46) rfl ?_)
  refine ⟨?_⟩
  refine wpList_store_row rfl 23 (.tmp 15) (.tmp 46) rfl (gx + 1) ((y).map byteV).toArray (by rfl) (by rfl) 23 _ q2 (size32.trans (by simp [hy])) (by simp [hy, hzz]) (by simp [byteV, Value.oneCell']) ?_
  simp only [Act.put, List.setIfInBounds_toArray, List.set_cons_zero, List.set_cons_succ]
  have hV : ArrB (w4.setRow (gx + 1) ((y).map byteV).toArray) (gx + 1) 23 (y) := Blk.row q2 _
  have hVu : Upd (gx + 1) w4 (w4.setRow (gx + 1) ((y).map byteV).toArray) := (Upd.refl _ _).row _
  generalize w4.setRow (gx + 1) ((y).map byteV).toArray = w5 at *
  have hY5 := Blk.kept (S := fun k => k ≠ gx + 1) hY4 (.of_upd hVu (fun h => h rfl)) (by omega)
  have hZ5 := Blk.kept (S := fun k => k ≠ gx + 1) hZ4 (.of_upd hVu (fun h => h rfl)) (by omega)
  have hx5 := Blk.kept (S := fun k => k ≠ gx + 1) hX (.of_upd hVu (fun h => h rfl)) (by omega)
  have hE5 := hE4.upd hVu (by omega)
  clear hY4 hZ4 hE4 hVu q2 hX
  have hm : w5.rangeAt b (off + N * 32) (hcells q) := fun i u hu => ((ext_cells hE5).1 b _ hbl).trans (hm0 i u hu)
  have hs5 := hE5.size
  clear hm0
  obtain ⟨wb, hwb⟩ : ∃ wb, wb = w5 := ⟨_, rfl⟩
  subst hwb
  go_wp2_with fail
  refine region_keep0 (fun k => k ≠ w.heap.size + 1 ∧ k ≠ w.heap.size + 1 + 1) (by kernel_rfl) (by kernel_rfl) ?_
  have K0 : Keep (fun k => k ≠ w.heap.size + 1 ∧ k ≠ w.heap.size + 1 + 1) wb wb.drew := (Keep.refl _ wb).drew
  have iY := Blk.drew hY5
  have iZ := Blk.drew hZ5
  refine held_row (by rfl) (by rfl) 23 (.tmp 14) rfl (gx) (by rfl) 23 _ _ hx5 ⟨by omega, by omega⟩ Tryd.underlying23 rfl (size32.trans (by simp [hx])) ?_
  simp only [Act.put, List.setIfInBounds_toArray, List.set_cons_zero, List.set_cons_succ]
  refine held_row (by rfl) (by rfl) 23 (.tmp 15) rfl (gx + 1) (by rfl) 23 _ _ hV ⟨by omega, by omega⟩ Tryd.underlying23 rfl (size32.trans (by simp [hy])) ?_
  simp only [Act.put, List.setIfInBounds_toArray, List.set_cons_zero, List.set_cons_succ]
  iterate 3 (first | (refine mix_quiet (by rfl) (by rfl) (fun K hK => ?_); go_big_quiet_op; refine hK _ ?_; clear hK K) | (refine mix_skip (by rfl) ?_; simp only [Act.put, List.setIfInBounds_toArray, List.set_cons_zero, List.set_cons_succ]))
  refine held_mid (by rfl) (by rfl) 23 (.tmp 52) rfl b (off + N * 32) (by rfl) (hcells q) _ hm (by omega) ⟨by omega, by omega⟩ Tryd.underlying23 rfl (size32l _ hq32) ?_
  simp only [Act.put, List.setIfInBounds_toArray, List.set_cons_zero, List.set_cons_succ]
  unfold hcells
  (refine mix_loud (by rfl) (by rfl) (fun K E hK => ?_); go_big_op)
  change Calls _ _ #[sumV y, sumV q] _ _
  refine (refNode_calls y q hy hq32 _).mono ?_; rintro e w6 ⟨rfl, e6⟩
  have K6 := K0.trans (Keep.of_ext (S := (fun k => k ≠ w.heap.size + 1 ∧ k ≠ w.heap.size + 1 + 1)) e6)
  have jY := Blk.below iY e6 (Blk.lt iY)
  have jZ := Blk.below iZ e6 (Blk.lt iZ)
  clear iY iZ K0 e6
  refine hK _ _ (held_of K6) ?_; clear hK K E
  unfold sumV
  iterate 2 (first | (refine mix_quiet (by rfl) (by rfl) (fun K hK => ?_); go_big_quiet_op; refine hK _ ?_; clear hK K) | (refine mix_skip (by rfl) ?_; simp only [Act.put, List.setIfInBounds_toArray, List.set_cons_zero, List.set_cons_succ]))
  have jk : Keep (fun k => k ≠ w.heap.size + 1 ∧ k ≠ w.heap.size + 1 + 1) wb (w6.setRow (w.heap.size + 1) ((x).map byteV).toArray) := K6.trans (Keep.of_upd ((Upd.refl _ _).row _) (fun h => h.1 rfl))
  refine mix_store_row (by rfl) (by rfl) 23 (.tmp 10) (.tmp 48) rfl (w.heap.size + 1) ((x).map byteV).toArray (by rfl) (by rfl) 23 _ jY (size32.trans (by simp [hx])) (by simp [hx, zerosB]) (by simp [byteV, Value.oneCell']) (held_of jk) ?_
  simp only [Act.put, List.setIfInBounds_toArray, List.set_cons_zero, List.set_cons_succ]
  have oY : ArrB (w6.setRow (w.heap.size + 1) ((x).map byteV).toArray) (w.heap.size + 1) 23 (x) := Blk.row jY _
  have oZ : ArrB (w6.setRow (w.heap.size + 1) ((x).map byteV).toArray) (w.heap.size + 1 + 1) 23 (zerosB 32) := Blk.rowFar jZ (by omega) _
  generalize w6.setRow (w.heap.size + 1) ((x).map byteV).toArray = wj at *
  have kk : Keep (fun k => k ≠ w.heap.size + 1 ∧ k ≠ w.heap.size + 1 + 1) wb (wj.setRow (w.heap.size + 1 + 1) ((nodeB y q).map byteV).toArray) := jk.trans (Keep.of_upd ((Upd.refl _ _).row _) (fun h => h.2 rfl))
  refine mix_store_row (by rfl) (by rfl) 23 (.tmp 11) (.tmp 54) rfl (w.heap.size + 1 + 1) ((nodeB y q).map byteV).toArray (by rfl) (by rfl) 23 _ oZ (size32.trans (by simp [hnl])) (by simp [hnl, zerosB]) (by simp [byteV, Value.oneCell']) (held_of kk) ?_
  simp only [Act.put, List.setIfInBounds_toArray, List.set_cons_zero, List.set_cons_succ]
  have rY : ArrB (wj.setRow (w.heap.size + 1 + 1) ((nodeB y q).map byteV).toArray) (w.heap.size + 1) 23 (x) := Blk.rowFar oY (by omega) _
  have rZ : ArrB (wj.setRow (w.heap.size + 1 + 1) ((nodeB y q).map byteV).toArray) (w.heap.size + 1 + 1) 23 (nodeB y q) := Blk.row oZ _
  generalize wj.setRow (w.heap.size + 1 + 1) ((nodeB y q).map byteV).toArray = wk at *
  iterate 1 (first | (refine mix_quiet (by rfl) (by rfl) (fun K hK => ?_); go_big_quiet_op; refine hK _ ?_; clear hK K) | (refine mix_skip (by rfl) ?_; simp only [Act.put, List.setIfInBounds_toArray, List.set_cons_zero, List.set_cons_succ]))
  refine mix_nil ?_
  have hk7 : Keep (fun k => k < w.heap.size) w wk := (Keep.of_ext hE5).trans (kk.mono (fun k _ h => ⟨by omega, by omega⟩))
  go_wp2_with fail
  (try simp only [Exit.inBlock, Exit.then]); refine bodyPost_ret (res_two_t rfl _ _ (w.heap.size + 1) (w.heap.size + 1 + 1) 23 23 _ _ _ rfl rfl rY rZ Tryd.underlying23 rfl (size32.trans (by simp [hx])) (size32.trans (by simp [hnl]))) rfl ?_
  exact ⟨rfl, hk7.ext⟩

set_option maxHeartbeats 4000000 in
theorem refboth_others (a : List UInt8) (ha : a.length = 32) (A : Option Addr) (cap : Nat) (l : List (List UInt8)) (hl : AllH l) (hll : l.length ≤ 1000000) (m n : Nat) (whole : Bool) (h1 : 1 ≤ m) (h2 : Tree.split n < m) (hmn : m < n) (h3 : n ≤ 1099511627776) (N : Nat) (hN : N < l.length) (x y : List UInt8) (hx : x.length = 32) (hy : y.length = 32) (w : World) (hrd : Rd w w.heap.size A (flatS l))
    (ih : ∀ w : World, Rd w w.heap.size A (flatS l) → Calls Tryd.prog 54 #[sumV a, .int .i64 ((m : Int) - (Tree.split n : Int)), .int .i64 ((n : Int) - (Tree.split n : Int)), .bool false, .slice A l.length cap] w fun e w' => e = .returned (.tuple #[sumV x, sumV y, .int .i64 (N : Int)]) ∧ Ext w w') :
    Calls Tryd.prog 54 #[sumV a, .int .i64 (m : Int), .int .i64 (n : Int), .bool whole, .slice A l.length cap] w fun e w' => e = .returned (.tuple #[sumV (nodeB l[N] x), sumV (nodeB l[N] y), .int .i64 ((N : Int) + 1)]) ∧ Ext w w' := by
  obtain ⟨b, off, rfl, hbl, hm0⟩ := rds_mid hrd hl (k := N) hN
  have hq32 : l[N].length = 32 := hl _ (List.getElem_mem hN)
  generalize l[N] = q at *
  have hfold := fold_sum a ha
  have hzz : (zerosB 32).length = 32 := rfl
  have hne : ((m : Int) == (n : Int)) = false := by rw [beq_eq_false_iff_ne]; omega
  have HSp := Lib.hid (splitI_nat n (by omega))
  have dk : decide ((m : Int) ≤ (Tree.split n : Int)) = false := decide_eq_false (by omega)
  have hsl := Tree.split_lt n (by omega)
  have hsp := Tree.split_pos n (by omega)
  have hNI : (N : Int) < (l.length : Int) := by omega
  have hnl := nodeB_length
  unfold sumV
  go_enter Tryd.func54, Tryd.ntmps54
  obtain ⟨hX, hY, hZ, hE, hz⟩ := rbW0_facts a w
  go_wp2_with fail
  change Calls _ _ _ (rbW0 a w) _
  generalize rbW0 a w = w1 at *
  refine (refSplit_calls (n : Int) (by omega) (by omega) _).mono ?_; rw [HSp.out]; rintro e w2 ⟨rfl, rfl⟩
  generalize Tree.split n = k at *
  go_wp2_with (refine stop_load 23 (.tmp 5) rfl ?_)
  refine ⟨?_⟩
  refine wpList_load_row rfl 23 (.tmp 5) rfl w.heap.size (by rfl) 23 _ (0, 0) _ hX Tryd.underlying23 rfl (size32.trans (by simp [ha])) ?_
  simp only [Act.put, List.setIfInBounds_toArray, List.set_cons_zero, List.set_cons_succ]
  go_wp2_with fail
  change Calls _ _ #[sumV a, _, _, _, _] _ _
  refine (ih _ ((hrd.below hE (Nat.le_refl _)).more hE.size)).mono ?_; rintro e w2 ⟨rfl, e2⟩
  have hY2 := Blk.below hY e2 (Blk.lt hY)
  have hZ2 := Blk.below hZ e2 (Blk.lt hZ)
  have hE2 := hE.trans e2
  have hs2 := e2.size
  clear hX hY hZ hE e2 ih
  unfold sumV
  go_wp2_with (refine stop_store 23 (.tmp 17) (.tmp 67) rfl ?_)
  refine ⟨?_⟩
  change wpList _ _ _ _ _ (twoW w2)
  obtain ⟨p1, p2, p3⟩ := twoW_facts w2
  have hgx : w.heap.size + 3 ≤ w2.heap.size := by omega
  have hY3 := Blk.below hY2 p3 (Blk.lt hY2)
  have hZ3 := Blk.below hZ2 p3 (Blk.lt hZ2)
  have hE3 := hE2.trans p3
  generalize w2.heap.size = gx at *
  clear hY2 hZ2 hE2 p3
  generalize twoW w2 = w3 at *
  go_wp2_with (refine stop_store 23 (.tmp 17) (.tmp 67) rfl ?_)
  refine ⟨?_⟩
  refine wpList_store_row rfl 23 (.tmp 17) (.tmp 67) rfl gx ((x).map byteV).toArray (by rfl) (by rfl) 23 _ p1 (size32.trans (by simp [hx])) (by simp [hx, hzz]) (by simp [byteV, Value.oneCell']) ?_
  simp only [Act.put, List.setIfInBounds_toArray, List.set_cons_zero, List.set_cons_succ]
  have hX : ArrB (w3.setRow gx ((x).map byteV).toArray) gx 23 (x) := Blk.row p1 _
  have hXu : Upd gx w3 (w3.setRow gx ((x).map byteV).toArray) := (Upd.refl _ _).row _
  generalize w3.setRow gx ((x).map byteV).toArray = w4 at *
  have hY4 := Blk.kept (S := fun k => k ≠ gx) hY3 (.of_upd hXu (fun h => h rfl)) (by omega)
  have hZ4 := Blk.kept (S := fun k => k ≠ gx) hZ3 (.of_upd hXu (fun h => h rfl)) (by omega)
  have q2 := Blk.kept (S := fun k => k ≠ gx) p2 (.of_upd hXu (fun h => h rfl)) (by omega)
  have hE4 := hE3.upd hXu (by omega)
  clear hY3 hZ3 hE3 hXu p1 p2
  go_wp2_with (refine stop_store 23 (.tmp 18) (.tmp 68) rfl ?_)
  refine ⟨?_⟩
  refine wpList_store_row rfl 23 (.tmp 18) (.tmp 68) rfl (gx + 1) ((y).map byteV).toArray (by rfl) (by rfl) 23 _ q2 (size32.trans (by simp [hy])) (by simp [hy, hzz]) (by simp [byteV, Value.oneCell']) ?_
  simp only [Act.put, List.setIfInBounds_toArray, List.set_cons_zero, List.set_cons_succ]
  have hV : ArrB (w4.setRow (gx + 1) ((y).map byteV).toArray) (gx + 1) 23 (y) := Blk.row q2 _
  have hVu : Upd (gx + 1) w4 (w4.setRow (gx + 1) ((y).map byteV).toArray) := (Upd.refl _ _).row _
  generalize w4.setRow (gx + 1) ((y).map byteV).toArray = w5 at *
  have hY5 := Blk.kept (S := fun k => k ≠ gx + 1) hY4 (.of_upd hVu (fun h => h rfl)) (by omega)
  have hZ5 := Blk.kept (S := fun k => k ≠ gx + 1) hZ4 (.of_upd hVu (fun h => h rfl)) (by omega)
  have hx5 := Blk.kept (S := fun k => k ≠ gx + 1) hX (.of_upd hVu (fun h => h rfl)) (by omega)
  have hE5 := hE4.upd hVu (by omega)
  clear hY4 hZ4 hE4 hVu q2 hX
  have hm : w5.rangeAt b (off + N * 32) (hcells q) := fun i u hu => ((ext_cells hE5).1 b _ hbl).trans (hm0 i u hu)
  clear hm0
  go_wp2_with (refine stop_load 23 (.tmp 72) rfl ?_)
  refine ⟨?_⟩
  refine wpList_load_mid rfl 23 (.tmp 72) rfl b (off + N * 32) (by rfl) (hcells q) _ hm Tryd.underlying23 rfl (size32l _ hq32) ?_
  simp only [Act.put, List.setIfInBounds_toArray, List.set_cons_zero, List.set_cons_succ]
  unfold hcells
  have hs5 := hE5.size
  go_wp2_with (refine stop_store 23 (.tmp 20) (.tmp 73) rfl ?_)
  refine ⟨?_⟩
  change wpList _ _ _ _ _ (w5.alloc (.cells ((zerosB 32).map byteV).toArray 23))
  have hQ0 : ArrB (w5.alloc (.cells ((zerosB 32).map byteV).toArray 23)) w5.heap.size 23 (zerosB 32) := Blk.new _ _ _
  refine wpList_store_row rfl 23 (.tmp 20) (.tmp 73) rfl w5.heap.size ((q).map byteV).toArray (by rfl) (by rfl) 23 _ hQ0 (size32.trans (by simp [hq32])) (by simp [hq32, zerosB]) (by simp [byteV, Value.oneCell']) ?_
  simp only [Act.put, List.setIfInBounds_toArray, List.set_cons_zero, List.set_cons_succ]
  have hQ : ArrB ((w5.alloc (.cells ((zerosB 32).map byteV).toArray 23)).setRow w5.heap.size ((q).map byteV).toArray) w5.heap.size 23 (q) := Blk.row hQ0 _
  have eQ : Ext w5 ((w5.alloc (.cells ((zerosB 32).map byteV).toArray 23)).setRow w5.heap.size ((q).map byteV).toArray) := ((Ext.refl w5).alloc _).row (Nat.le_refl _) _
  clear hQ0
  generalize (w5.alloc (.cells ((zerosB 32).map byteV).toArray 23)).setRow w5.heap.size ((q).map byteV).toArray = w6 at *
  have hx6 := Blk.below hx5 eQ (Blk.lt hx5)
  have hV6 := Blk.below hV eQ (Blk.lt hV)
  have hY6 := Blk.below hY5 eQ (Blk.lt hY5)
  have hZ6 := Blk.below hZ5 eQ (Blk.lt hZ5)
  have hl5 := Blk.lt hx5
  have hl6 := Blk.lt hV
  have hE5 := hE5.trans eQ
  generalize w5.heap.size = gq at *
  clear eQ hx5 hV hY5 hZ5 hm
  obtain ⟨wb, hwb⟩ : ∃ wb, wb = w6 := ⟨_, rfl⟩
  subst hwb
  go_wp2_with fail
  refine region_keep0 (fun k => k ≠ w.heap.size + 1 ∧ k ≠ w.heap.size + 1 + 1) (by kernel_rfl) (by kernel_rfl) ?_
  have K0 : Keep (fun k => k ≠ w.heap.size + 1 ∧ k ≠ w.heap.size + 1 + 1) wb wb.drew := (Keep.refl _ wb).drew
  have iY := Blk.drew hY6
  have iZ := Blk.drew hZ6
  refine held_row (by rfl) (by rfl) 23 (.tmp 20) rfl (gq) (by rfl) 23 _ _ hQ ⟨by omega, by omega⟩ Tryd.underlying23 rfl (size32.trans (by simp [hq32])) ?_
  simp only [Act.put, List.setIfInBounds_toArray, List.set_cons_zero, List.set_cons_succ]
  refine held_row (by rfl) (by rfl) 23 (.tmp 17) rfl (gx) (by rfl) 23 _ _ hx6 ⟨by omega, by omega⟩ Tryd.underlying23 rfl (size32.trans (by simp [hx])) ?_
  simp only [Act.put, List.setIfInBounds_toArray, List.set_cons_zero, List.set_cons_succ]
  (refine mix_loud (by rfl) (by rfl) (fun K E hK => ?_); go_big_op)
  change Calls _ _ #[sumV q, sumV x] _ _
  refine (refNode_calls q x hq32 hx _).mono ?_; rintro e w7 ⟨rfl, e6⟩
  have K6 := K0.trans (Keep.of_ext (S := (fun k => k ≠ w.heap.size + 1 ∧ k ≠ w.heap.size + 1 + 1)) e6)
  have jY := Blk.below iY e6 (Blk.lt iY)
  have jZ := Blk.below iZ e6 (Blk.lt iZ)
  clear iY iZ K0 e6
  refine hK _ _ (held_of K6) ?_; clear hK K E
  unfold sumV
  refine held_row (by rfl) (by rfl) 23 (.tmp 20) rfl (gq) (by rfl) 23 _ _ hQ ⟨by omega, by omega⟩ Tryd.underlying23 rfl (size32.trans (by simp [hq32])) ?_
  simp only [Act.put, List.setIfInBounds_toArray, List.set_cons_zero, List.set_cons_succ]
  refine held_row (by rfl) (by rfl) 23 (.tmp 18) rfl (gx + 1) (by rfl) 23 _ _ hV6 ⟨by omega, by omega⟩ Tryd.underlying23 rfl (size32.trans (by simp [hy])) ?_
  simp only [Act.put, List.setIfInBounds_toArray, List.set_cons_zero, List.set_cons_succ]
  (refine mix_loud (by rfl) (by rfl) (fun K E hK => ?_); go_big_op)
  change Calls _ _ #[sumV q, sumV y] _ _
  refine (refNode_calls q y hq32 hy _).mono ?_; rintro e w8 ⟨rfl, e6⟩
  have K8 := K6.trans (Keep.of_ext (S := (fun k => k ≠ w.heap.size + 1 ∧ k ≠ w.heap.size + 1 + 1)) e6)
  have kY := Blk.below jY e6 (Blk.lt jY)
  have kZ := Blk.below jZ e6 (Blk.lt jZ)
  clear jY jZ K6 e6
  refine hK _ _ (held_of K8) ?_; clear hK K E
  unfold sumV
  iterate 2 (first | (refine mix_quiet (by rfl) (by rfl) (fun K hK => ?_); go_big_quiet_op; refine hK _ ?_; clear hK K) | (refine mix_skip (by rfl) ?_; simp only [Act.put, List.setIfInBounds_toArray, List.set_cons_zero, List.set_cons_succ]))
  have jk : Keep (fun k => k ≠ w.heap.size + 1 ∧ k ≠ w.heap.size + 1 + 1) wb (w8.setRow (w.heap.size + 1) ((nodeB q x).map byteV).toArray) := K8.trans (Keep.of_upd ((Upd.refl _ _).row _) (fun h => h.1 rfl))
  refine mix_store_row (by rfl) (by rfl) 23 (.tmp 10) (.tmp 76) rfl (w.heap.size + 1) ((nodeB q x).map byteV).toArray (by rfl) (by rfl) 23 _ kY (size32.trans (by simp [hnl])) (by simp [hnl, zerosB]) (by simp [byteV, Value.oneCell']) (held_of jk) ?_
  simp only [Act.put, List.setIfInBounds_toArray, List.set_cons_zero, List.set_cons_succ]
  have oY : ArrB (w8.setRow (w.heap.size + 1) ((nodeB q x).map byteV).toArray) (w.heap.size + 1) 23 (nodeB q x) := Blk.row kY _
  have oZ : ArrB (w8.setRow (w.heap.size + 1) ((nodeB q x).map byteV).toArray) (w.heap.size + 1 + 1) 23 (zerosB 32) := Blk.rowFar kZ (by omega) _
  generalize w8.setRow (w.heap.size + 1) ((nodeB q x).map byteV).toArray = wj at *
  have kk : Keep (fun k => k ≠ w.heap.size + 1 ∧ k ≠ w.heap.size + 1 + 1) wb (wj.setRow (w.heap.size + 1 + 1) ((nodeB q y).map byteV).toArray) := jk.trans (Keep.of_upd ((Upd.refl _ _).row _) (fun h => h.2 rfl))
  refine mix_store_row (by rfl) (by rfl) 23 (.tmp 11) (.tmp 79) rfl (w.heap.size + 1 + 1) ((nodeB q y).map byteV).toArray (by rfl) (by rfl) 23 _ oZ (size32.trans (by simp [hnl])) (by simp [hnl, zerosB]) (by simp [byteV, Value.oneCell']) (held_of kk) ?_
  simp only [Act.put, List.setIfInBounds_toArray, List.set_cons_zero, List.set_cons_succ]
  have rY : ArrB (wj.setRow (w.heap.size + 1 + 1) ((nodeB q y).map byteV).toArray) (w.heap.size + 1) 23 (nodeB q x) := Blk.rowFar oY (by omega) _
  have rZ : ArrB (wj.setRow (w.heap.size + 1 + 1) ((nodeB q y).map byteV).toArray) (w.heap.size + 1 + 1) 23 (nodeB q y) := Blk.row oZ _
  generalize wj.setRow (w.heap.size + 1 + 1) ((nodeB q y).map byteV).toArray = wk at *
  iterate 1 (first | (refine mix_quiet (by rfl) (by rfl) (fun K hK => ?_); go_big_quiet_op; refine hK _ ?_; clear hK K) | (refine mix_skip (by rfl) ?_; simp only [Act.put, List.setIfInBounds_toArray, List.set_cons_zero, List.set_cons_succ]))
  refine mix_nil ?_
  have hk7 : Keep (fun k => k < w.heap.size) w wk := (Keep.of_ext hE5).trans (kk.mono (fun k _ h => ⟨by omega, by omega⟩))
  go_wp2_with fail
  (try simp only [Exit.inBlock, Exit.then]); refine bodyPost_ret (res_two_t rfl _ _ (w.heap.size + 1) (w.heap.size + 1 + 1) 23 23 _ _ _ rfl rfl rY rZ Tryd.underlying23 rfl (size32.trans (by simp [hnl])) (size32.trans (by simp [hnl]))) rfl ?_
  exact ⟨rfl, hk7.ext⟩

theorem both_len (a : List UInt8) (ha : a.length = 32) (m n : Nat) (whole : Bool) (l : List (List UInt8)) (hl : AllH l) : (Way.both nodeB a m n whole l).1.length = 32 ∧ (Way.both nodeB a m n whole l).2.length = 32 := by
  unfold Way.both
  split
  · exact bothW_length _ _ _ _ ha ha
  · exact bothW_length _ _ _ _ (headD_length l hl a ha) (headD_length l hl a ha)

theorem refboth_calls (a : List UInt8) (ha : a.length = 32) (A : Option Addr) (cap : Nat) (l : List (List UInt8)) (hl : AllH l) (hll : l.length ≤ 1000000) :
    ∀ (n m : Nat) (whole : Bool), 1 ≤ m → m ≤ n → n ≤ 1099511627776 → Way.needL m n whole ≤ l.length → ∀ w : World, Rd w w.heap.size A (flatS l) →
    Calls Tryd.prog 54 #[sumV a, .int .i64 (m : Int), .int .i64 (n : Int), .bool whole, .slice A l.length cap] w fun e w' =>
      e = .returned (.tuple #[sumV (Way.both nodeB a m n whole (l.take (Way.needL m n whole))).1, sumV (Way.both nodeB a m n whole (l.take (Way.needL m n whole))).2, .int .i64 (Way.needL m n whole : Int)]) ∧ Ext w w'
  | n, m, whole, h1, h2, h3, hneed, w, hrd => by
    by_cases hmn : m = n
    · subst hmn
      rw [Way.needL_done] at hneed ⊢
      rw [Way.both_done]
      cases whole
      · simp only [Bool.false_eq_true, if_false] at hneed ⊢
        have := refboth_head a ha A cap l hl (by omega) hll m w hrd
        rw [show (l.take 1).headD a = l.headD a from by cases l <;> rfl]
        exact this
      · exact refboth_all a ha _ m w
    · by_cases hk : m ≤ Tree.split n
      · have hn := Way.needL_first (by omega : m < n) h1 hk whole
        have hsl := Tree.split_lt n (by omega)
        rw [hn] at hneed
        have ih := refboth_calls a ha A cap l hl hll (Tree.split n) m whole h1 hk (by omega) (by omega)
        have hlen : (l.take (Way.needL m (Tree.split n) whole)).length = Way.needL m (Tree.split n) whole := by rw [List.length_take]; omega
        rw [hn, List.take_succ_eq_append_getElem (by omega), Way.both_first nodeB (by omega) h1 hk _ _ _ _ hlen]
        obtain ⟨e1, e2⟩ := both_len a ha m (Tree.split n) whole _ (hl.take (Way.needL m (Tree.split n) whole))
        exact refboth_first a ha A cap l hl hll m n whole h1 hk (by omega) h3 _ (by omega) _ _ e1 e2 w hrd ih
      · have hn := Way.needL_others (by omega : m < n) h1 hk whole
        have hsl := Tree.split_lt n (by omega)
        have hsp := Tree.split_pos n (by omega)
        rw [hn] at hneed
        have ih := refboth_calls a ha A cap l hl hll (n - Tree.split n) (m - Tree.split n) false (by omega) (by omega) (by omega) (by omega)
        have hlen : (l.take (Way.needL (m - Tree.split n) (n - Tree.split n) false)).length = Way.needL (m - Tree.split n) (n - Tree.split n) false := by rw [List.length_take]; omega
        rw [hn, List.take_succ_eq_append_getElem (by omega), Way.both_others nodeB (by omega) h1 hk _ _ _ _ hlen]
        obtain ⟨e1, e2⟩ := both_len a ha (m - Tree.split n) (n - Tree.split n) false _ (hl.take (Way.needL (m - Tree.split n) (n - Tree.split n) false))
        rw [show ((m - Tree.split n : Nat) : Int) = (m : Int) - (Tree.split n : Int) by omega, show ((n - Tree.split n : Nat) : Int) = (n : Int) - (Tree.split n : Int) by omega] at ih
        exact refboth_others a ha A cap l hl hll m n whole h1 (by omega) (by omega) h3 _ (by omega) _ _ e1 e2 w hrd ih
  termination_by n => n

end Go.Proofs.YtfpipdopgepelaaDoor
