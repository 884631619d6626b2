/-
  The walk of the document's both (recursion on the number of leaves).
  The walks of the document's Both and Goes.
  Contracts over slice values: Fold, Both, both sides; two arrays laid at once.
  Twins: the walks of twin.Are, first with its closure, side.
  Twins: the walks of twin's side, first and Data.
  Twins: the walks of twin.way, Way, and of the document's way, Way.
  Twins: the walks of twin.Way, Leaves, Data.
  Twins: the walks of twin.Data, few and awake of law 13.
  Twins, plainly: two ways that meet have twins.
  Twins: the walks of the document's way and Way.
  Twins: the walk of slices.Reverse of bools.
  Twins: the walks of twin.sides and Trees.
-/
import Derived.Test.YtfpipdopgepelaaDoorProofM
set_option linter.unusedVariables false
set_option maxRecDepth 100000
set_option linter.unusedSimpArgs false
set_option linter.unusedSectionVars false
namespace Go.Proofs.YtfpipdopgepelaaDoor
open Go.ChangeShapes Go.WideShapes Go.ChangeAt Go.RowKit
attribute [local go_sem] bs_size bs_toList2 bs_append bs_extract_end bs_extract_begin bs_get wrap64_b grow_cell grow_frozen

def rbW0 (a : List UInt8) (w : World) : World := ((w.alloc (.cells (a.map byteV).toArray 23)).alloc (.cells ((zerosB 32).map byteV).toArray 23)).alloc (.cells ((zerosB 32).map byteV).toArray 23)
theorem rbW0_facts (a : List UInt8) (w : World) : ArrB (rbW0 a w) w.heap.size 23 a ∧ ArrB (rbW0 a w) (w.heap.size + 1) 23 (zerosB 32) ∧ ArrB (rbW0 a w) (w.heap.size + 1 + 1) 23 (zerosB 32) ∧ Ext w (rbW0 a w) ∧ (rbW0 a w).heap.size = w.heap.size + 3 := by
  have h1 := Blk.new w 23 (a.map byteV).toArray
  have h3 := Blk.new (w.alloc (.cells (a.map byteV).toArray 23)) 23 ((zerosB 32).map byteV).toArray
  have h4 := Blk.new ((w.alloc (.cells (a.map byteV).toArray 23)).alloc (.cells ((zerosB 32).map byteV).toArray 23)) 23 ((zerosB 32).map byteV).toArray
  simp only [alloc_size] at h3 h4
  exact ⟨(h1.alloc _).alloc _, h3.alloc _, h4, (((Ext.refl w).alloc _).alloc _).alloc _, by unfold rbW0; simp only [alloc_size]⟩

set_option maxHeartbeats 2000000 in
theorem refboth_all (a : List UInt8) (ha : a.length = 32) (v : Value) (n : Nat) (w : World) :
    Calls Tryd.prog 54 #[sumV a, .int .i64 (n : Int), .int .i64 (n : Int), .bool true, v] w fun e w' => e = .returned (.tuple #[sumV a, sumV a, .int .i64 0]) ∧ Ext w w' := by
  have hfold := fold_sum a ha
  have hzz : (zerosB 32).length = 32 := rfl
  unfold sumV
  go_enter Tryd.func54, Tryd.ntmps54
  obtain ⟨hX, hY, hZ, hE, hz⟩ := rbW0_facts a w
  go_wp2_with fail
  change Code.wp _ _ _ _ (rbW0 a w)
  generalize rbW0 a w = w1 at *
  refine region_keep0 (fun k => k ≠ w.heap.size + 1 ∧ k ≠ w.heap.size + 1 + 1) (by kernel_rfl) (by kernel_rfl) ?_
  refine held_row (by rfl) (by rfl) 23 (.tmp 5) rfl w.heap.size (by rfl) 23 _ _ hX ⟨by omega, by omega⟩ Tryd.underlying23 rfl (size32.trans (by simp [ha])) ?_
  simp only [Act.put, List.setIfInBounds_toArray, List.set_cons_zero, List.set_cons_succ]
  refine held_row (by rfl) (by rfl) 23 (.tmp 5) rfl w.heap.size (by rfl) 23 _ _ hX ⟨by omega, by omega⟩ Tryd.underlying23 rfl (size32.trans (by simp [ha])) ?_
  simp only [Act.put, List.setIfInBounds_toArray, List.set_cons_zero, List.set_cons_succ]
  have jk : Keep (fun k => k ≠ w.heap.size + 1 ∧ k ≠ w.heap.size + 1 + 1) w1 (w1.drew.setRow (w.heap.size + 1) ((a).map byteV).toArray) := (Keep.refl _ _).drew.trans (Keep.of_upd ((Upd.refl _ _).row _) (fun h => h.1 rfl))
  refine mix_store_row (by rfl) (by rfl) 23 (.tmp 10) (.tmp 25) rfl (w.heap.size + 1) ((a).map byteV).toArray (by rfl) (by rfl) 23 _ (Blk.drew hY) (size32.trans (by simp [ha])) (by simp [ha, zerosB]) (by simp [byteV, Value.oneCell']) (held_of jk) ?_
  simp only [Act.put, List.setIfInBounds_toArray, List.set_cons_zero, List.set_cons_succ]
  have oY : ArrB (w1.drew.setRow (w.heap.size + 1) ((a).map byteV).toArray) (w.heap.size + 1) 23 (a) := Blk.row (Blk.drew hY) _
  have oZ : ArrB (w1.drew.setRow (w.heap.size + 1) ((a).map byteV).toArray) (w.heap.size + 1 + 1) 23 (zerosB 32) := Blk.rowFar (Blk.drew hZ) (by omega) _
  generalize w1.drew.setRow (w.heap.size + 1) ((a).map byteV).toArray = w6 at *
  have kk : Keep (fun k => k ≠ w.heap.size + 1 ∧ k ≠ w.heap.size + 1 + 1) w1 (w6.setRow (w.heap.size + 1 + 1) ((a).map byteV).toArray) := jk.trans (Keep.of_upd ((Upd.refl _ _).row _) (fun h => h.2 rfl))
  refine mix_store_row (by rfl) (by rfl) 23 (.tmp 11) (.tmp 26) rfl (w.heap.size + 1 + 1) ((a).map byteV).toArray (by rfl) (by rfl) 23 _ oZ (size32.trans (by simp [ha])) (by simp [ha, zerosB]) (by simp [byteV, Value.oneCell']) (held_of kk) ?_
  simp only [Act.put, List.setIfInBounds_toArray, List.set_cons_zero, List.set_cons_succ]
  have rY : ArrB (w6.setRow (w.heap.size + 1 + 1) ((a).map byteV).toArray) (w.heap.size + 1) 23 (a) := Blk.rowFar oY (by omega) _
  have rZ : ArrB (w6.setRow (w.heap.size + 1 + 1) ((a).map byteV).toArray) (w.heap.size + 1 + 1) 23 (a) := Blk.row oZ _
  generalize w6.setRow (w.heap.size + 1 + 1) ((a).map byteV).toArray = w7 at *
  iterate 1 (first | (refine mix_quiet (by rfl) (by rfl) (fun K hK => ?_); go_big_quiet_op; refine hK _ ?_; clear hK K) | (refine mix_skip (by rfl) ?_; simp only [Act.put, List.setIfInBounds_toArray, List.set_cons_zero, List.set_cons_succ]))
  refine mix_nil ?_
  have hk7 : Keep (fun k => k < w.heap.size) w w7 := (Keep.of_ext hE).trans (kk.mono (fun k _ h => ⟨by omega, by omega⟩))
  go_wp2_with fail
  (try simp only [Exit.inBlock, Exit.then]); refine bodyPost_ret (res_two_t rfl _ _ (w.heap.size + 1) (w.heap.size + 1 + 1) 23 23 _ _ _ rfl rfl rY rZ Tryd.underlying23 rfl (size32.trans (by simp [ha])) (size32.trans (by simp [ha]))) rfl ?_
  exact ⟨rfl, hk7.ext⟩

set_option maxHeartbeats 2000000 in
theorem refboth_head (a : List UInt8) (ha : a.length = 32) (A : Option Addr) (cap : Nat) (l : List (List UInt8)) (hl : AllH l) (hlen : 0 < l.length) (hll : l.length ≤ 1000000) (n : Nat) (w : World) (hrd : Rd w w.heap.size A (flatS l)) :
    Calls Tryd.prog 54 #[sumV a, .int .i64 (n : Int), .int .i64 (n : Int), .bool false, .slice A l.length cap] w fun e w' => e = .returned (.tuple #[sumV (l.headD a), sumV (l.headD a), .int .i64 1]) ∧ Ext w w' := by
  obtain ⟨b, off, rfl, hbl, hm0⟩ := rds_mid hrd hl (k := 0) hlen
  simp only [Nat.zero_mul, Nat.add_zero] at hm0
  have hz32 := headD_length l hl a ha
  have hh : l[0]'hlen = l.headD a := by cases l with
    | nil => simp at hlen
    | cons x l => rfl
  rw [hh] at hm0
  clear hh
  generalize l.headD a = z at *
  have hlI : (0 : Int) < (l.length : Int) := by omega
  have hfold := fold_sum a ha
  have hzz : (zerosB 32).length = 32 := rfl
  unfold sumV
  go_enter Tryd.func54, Tryd.ntmps54
  obtain ⟨hX, hY, hZ, hE, hz⟩ := rbW0_facts a w
  have hm : (rbW0 a w).rangeAt b off (hcells z) := fun i u hu => ((ext_cells hE).1 b _ hbl).trans (hm0 i u hu)
  clear hm0
  go_wp2_with fail
  change Code.wp _ _ _ _ (rbW0 a w)
  generalize rbW0 a w = w1 at *
  refine region_keep0 (fun k => k ≠ w.heap.size + 1 ∧ k ≠ w.heap.size + 1 + 1) (by kernel_rfl) (by kernel_rfl) ?_
  iterate 2 (first | (refine mix_quiet (by rfl) (by rfl) (fun K hK => ?_); go_big_quiet_op; refine hK _ ?_; clear hK K) | (refine mix_skip (by rfl) ?_; simp only [Act.put, List.setIfInBounds_toArray, List.set_cons_zero, List.set_cons_succ]))
  refine held_mid (by rfl) (by rfl) 23 (.tmp 28) rfl b off (by rfl) (hcells z) _ hm (by omega) ⟨by omega, by omega⟩ Tryd.underlying23 rfl (size32l _ hz32) ?_
  simp only [Act.put, List.setIfInBounds_toArray, List.set_cons_zero, List.set_cons_succ]
  iterate 2 (first | (refine mix_quiet (by rfl) (by rfl) (fun K hK => ?_); go_big_quiet_op; refine hK _ ?_; clear hK K) | (refine mix_skip (by rfl) ?_; simp only [Act.put, List.setIfInBounds_toArray, List.set_cons_zero, List.set_cons_succ]))
  refine held_mid (by rfl) (by rfl) 23 (.tmp 31) rfl b off (by rfl) (hcells z) _ hm (by omega) ⟨by omega, by omega⟩ Tryd.underlying23 rfl (size32l _ hz32) ?_
  simp only [Act.put, List.setIfInBounds_toArray, List.set_cons_zero, List.set_cons_succ]
  unfold hcells
  have jk : Keep (fun k => k ≠ w.heap.size + 1 ∧ k ≠ w.heap.size + 1 + 1) w1 (w1.drew.setRow (w.heap.size + 1) ((z).map byteV).toArray) := (Keep.refl _ _).drew.trans (Keep.of_upd ((Upd.refl _ _).row _) (fun h => h.1 rfl))
  refine mix_store_row (by rfl) (by rfl) 23 (.tmp 10) (.tmp 29) rfl (w.heap.size + 1) ((z).map byteV).toArray (by rfl) (by rfl) 23 _ (Blk.drew hY) (size32.trans (by simp [hz32])) (by simp [hz32, zerosB]) (by simp [byteV, Value.oneCell']) (held_of jk) ?_
  simp only [Act.put, List.setIfInBounds_toArray, List.set_cons_zero, List.set_cons_succ]
  have oY : ArrB (w1.drew.setRow (w.heap.size + 1) ((z).map byteV).toArray) (w.heap.size + 1) 23 (z) := Blk.row (Blk.drew hY) _
  have oZ : ArrB (w1.drew.setRow (w.heap.size + 1) ((z).map byteV).toArray) (w.heap.size + 1 + 1) 23 (zerosB 32) := Blk.rowFar (Blk.drew hZ) (by omega) _
  generalize w1.drew.setRow (w.heap.size + 1) ((z).map byteV).toArray = w6 at *
  have kk : Keep (fun k => k ≠ w.heap.size + 1 ∧ k ≠ w.heap.size + 1 + 1) w1 (w6.setRow (w.heap.size + 1 + 1) ((z).map byteV).toArray) := jk.trans (Keep.of_upd ((Upd.refl _ _).row _) (fun h => h.2 rfl))
  refine mix_store_row (by rfl) (by rfl) 23 (.tmp 11) (.tmp 32) rfl (w.heap.size + 1 + 1) ((z).map byteV).toArray (by rfl) (by rfl) 23 _ oZ (size32.trans (by simp [hz32])) (by simp [hz32, zerosB]) (by simp [byteV, Value.oneCell']) (held_of kk) ?_
  simp only [Act.put, List.setIfInBounds_toArray, List.set_cons_zero, List.set_cons_succ]
  have rY : ArrB (w6.setRow (w.heap.size + 1 + 1) ((z).map byteV).toArray) (w.heap.size + 1) 23 (z) := Blk.rowFar oY (by omega) _
  have rZ : ArrB (w6.setRow (w.heap.size + 1 + 1) ((z).map byteV).toArray) (w.heap.size + 1 + 1) 23 (z) := Blk.row oZ _
  generalize w6.setRow (w.heap.size + 1 + 1) ((z).map byteV).toArray = w7 at *
  iterate 1 (first | (refine mix_quiet (by rfl) (by rfl) (fun K hK => ?_); go_big_quiet_op; refine hK _ ?_; clear hK K) | (refine mix_skip (by rfl) ?_; simp only [Act.put, List.setIfInBounds_toArray, List.set_cons_zero, List.set_cons_succ]))
  refine mix_nil ?_
  have hk7 : Keep (fun k => k < w.heap.size) w w7 := (Keep.of_ext hE).trans (kk.mono (fun k _ h => ⟨by omega, by omega⟩))
  go_wp2_with fail
  (try simp only [Exit.inBlock, Exit.then]); refine bodyPost_ret (res_two_t rfl _ _ (w.heap.size + 1) (w.heap.size + 1 + 1) 23 23 _ _ _ rfl rfl rY rZ Tryd.underlying23 rfl (size32.trans (by simp [hz32])) (size32.trans (by simp [hz32]))) rfl ?_
  exact ⟨rfl, hk7.ext⟩

set_option maxHeartbeats 4000000 in
theorem refboth_first (a : List UInt8) (ha : a.length = 32) (A : Option Addr) (cap : Nat) (l : List (List UInt8)) (hl : AllH l) (hll : l.length ≤ 1000000) (m n : Nat) (whole : Bool) (h1 : 1 ≤ m) (h2 : m ≤ Tree.split n) (hmn : m < n) (h3 : n ≤ 1099511627776) (N : Nat) (hN : N < l.length) (x y : List UInt8) (hx : x.length = 32) (hy : y.length = 32) (w : World) (hrd : Rd w w.heap.size A (flatS l))
    (ih : ∀ w : World, Rd w w.heap.size A (flatS l) → Calls Tryd.prog 54 #[sumV a, .int .i64 (m : Int), .int .i64 (Tree.split n : Int), .bool whole, .slice A l.length cap] w fun e w' => e = .returned (.tuple #[sumV x, sumV y, .int .i64 (N : Int)]) ∧ Ext w w') :
    Calls Tryd.prog 54 #[sumV a, .int .i64 (m : Int), .int .i64 (n : Int), .bool whole, .slice A l.length cap] w fun e w' => e = .returned (.tuple #[sumV x, sumV (nodeB y l[N]), .int .i64 ((N : Int) + 1)]) ∧ Ext w w' := by
  obtain ⟨b, off, rfl, hbl, hm0⟩ := rds_mid hrd hl (k := N) hN
  have hq32 : l[N].length = 32 := hl _ (List.getElem_mem hN)
  generalize l[N] = q at *
  have hfold := fold_sum a ha
  have hzz : (zerosB 32).length = 32 := rfl
  have hne : ((m : Int) == (n : Int)) = false := by rw [beq_eq_false_iff_ne]; omega
  have HSp := Lib.hid (splitI_nat n (by omega))
  have dk : decide ((m : Int) ≤ (Tree.split n : Int)) = true := decide_eq_true (by omega)
  have hsl := Tree.split_lt n (by omega)
  have hsp := Tree.split_pos n (by omega)
  have hNI : (N : Int) < (l.length : Int) := by omega
  have hnl := nodeB_length
  unfold sumV
  go_enter Tryd.func54, Tryd.ntmps54
  obtain ⟨hX, hY, hZ, hE, hz⟩ := rbW0_facts a w
  go_wp2_with fail
  change Calls _ _ _ (rbW0 a w) _
  generalize rbW0 a w = w1 at *
  refine (refSplit_calls (n : Int) (by omega) (by omega) _).mono ?_; rw [HSp.out]; rintro e w2 ⟨rfl, rfl⟩
  generalize Tree.split n = k at *
  go_wp2_with (refine stop_load 23 (.tmp 5) rfl ?_)
  refine ⟨?_⟩
  refine wpList_load_row rfl 23 (.tmp 5) rfl w.heap.size (by rfl) 23 _ (0, 0) _ hX Tryd.underlying23 rfl (size32.trans (by simp [ha])) ?_
  simp only [Act.put, List.setIfInBounds_toArray, List.set_cons_zero, List.set_cons_succ]
  go_wp2_with fail
  change Calls _ _ #[sumV a, _, _, _, _] _ _
  refine (ih _ ((hrd.below hE (Nat.le_refl _)).more hE.size)).mono ?_; rintro e w2 ⟨rfl, e2⟩
  have hY2 := Blk.below hY e2 (Blk.lt hY)
  have hZ2 := Blk.below hZ e2 (Blk.lt hZ)
  have hE2 := hE.trans e2
  have hs2 := e2.size
  clear hX hY hZ hE e2 ih
  unfold sumV
  go_wp2_with (refine stop_store 23 (.tmp 14) (.tmp 45) rfl ?_)
  refine ⟨?_⟩
  change wpList _ _ _ _ _ (twoW w2)
  obtain ⟨p1, p2, p3⟩ := twoW_facts w2
  have hgx : w.heap.size + 3 ≤ w2.heap.size := by omega
  have hY3 := Blk.below hY2 p3 (Blk.lt hY2)
  have hZ3 := Blk.below hZ2 p3 (Blk.lt hZ2)
  have hE3 := hE2.trans p3
  generalize w2.heap.size = gx at *
  clear hY2 hZ2 hE2 p3
  generalize twoW w2 = w3 at *
  go_wp2_with (refine stop_store 23 (.tmp 14) (.tmp 45) rfl ?_)
  refine ⟨?_⟩
  refine wpList_store_row rfl 23 (.tmp 14) (.tmp 45) rfl gx ((x).map byteV).toArray (by rfl) (by rfl) 23 _ p1 (size32.trans (by simp [hx])) (by simp [hx, hzz]) (by simp [byteV, Value.oneCell']) ?_
  simp only [Act.put, List.setIfInBounds_toArray, List.set_cons_zero, List.set_cons_succ]
  have hX : ArrB (w3.setRow gx ((x).map byteV).toArray) gx 23 (x) := Blk.row p1 _
  have hXu : Upd gx w3 (w3.setRow gx ((x).map byteV).toArray) := (Upd.refl _ _).row _
  generalize w3.setRow gx ((x).map byteV).toArray = w4 at *
  have hY4 := Blk.kept (S := fun k => k ≠ gx) hY3 (.of_upd hXu (fun h => h rfl)) (by omega)
  have hZ4 := Blk.kept (S := fun k => k ≠ gx) hZ3 (.of_upd hXu (fun h => h rfl)) (by omega)
  have q2 := Blk.kept (S := fun k => k ≠ gx) p2 (.of_upd hXu (fun h => h rfl)) (by omega)
  have hE4 := hE3.upd hXu (by omega)
  clear hY3 hZ3 hE3 hXu p1 p2
  go_wp2_with (refine stop_store 23 (.tmp 15) (.tmp 46) rfl ?_)
  refine ⟨?_⟩
  refine wpList_store_row rfl 23 (.tmp 15) (.tmp 46) rfl (gx + 1) ((y).map byteV).toArray (by rfl) (by rfl) 23 _ q2 (size32.trans (by simp [hy])) (by simp [hy, hzz]) (by simp [byteV, Value.oneCell']) ?_
  simp only [Act.put, List.setIfInBounds_toArray, List.set_cons_zero, List.set_cons_succ]
  have hV : ArrB (w4.setRow (gx + 1) ((y).map byteV).toArray) (gx + 1) 23 (y) := Blk.row q2 _
  have hVu : Upd (gx + 1) w4 (w4.setRow (gx + 1) ((y).map byteV).toArray) := (Upd.refl _ _).row _
  generalize w4.setRow (gx + 1) ((y).map byteV).toArray = w5 at *
  have hY5 := Blk.kept (S := fun k => k ≠ gx + 1) hY4 (.of_upd hVu (fun h => h rfl)) (by omega)
  have hZ5 := Blk.kept (S := fun k => k ≠ gx + 1) hZ4 (.of_upd hVu (fun h => h rfl)) (by omega)
  have hx5 := Blk.kept (S := fun k => k ≠ gx + 1) hX (.of_upd hVu (fun h => h rfl)) (by omega)
  have hE5 := hE4.upd hVu (by omega)
  clear hY4 hZ4 hE4 hVu q2 hX
  have hm : w5.rangeAt b (off + N * 32) (hcells q) := fun i u hu => ((ext_cells hE5).1 b _ hbl).trans (hm0 i u hu)
  have hs5 := hE5.size
  clear hm0
  obtain ⟨wb, hwb⟩ : ∃ wb, wb = w5 := ⟨_, rfl⟩
  subst hwb
  go_wp2_with fail
  refine region_keep0 (fun k => k ≠ w.heap.size + 1 ∧ k ≠ w.heap.size + 1 + 1) (by kernel_rfl) (by kernel_rfl) ?_
  have K0 : Keep (fun k => k ≠ w.heap.size + 1 ∧ k ≠ w.heap.size + 1 + 1) wb wb.drew := (Keep.refl _ wb).drew
  have iY := Blk.drew hY5
  have iZ := Blk.drew hZ5
  refine held_row (by rfl) (by rfl) 23 (.tmp 14) rfl (gx) (by rfl) 23 _ _ hx5 ⟨by omega, by omega⟩ Tryd.underlying23 rfl (size32.trans (by simp [hx])) ?_
  simp only [Act.put, List.setIfInBounds_toArray, List.set_cons_zero, List.set_cons_succ]
  refine held_row (by rfl) (by rfl) 23 (.tmp 15) rfl (gx + 1) (by rfl) 23 _ _ hV ⟨by omega, by omega⟩ Tryd.underlying23 rfl (size32.trans (by simp [hy])) ?_
  simp only [Act.put, List.setIfInBounds_toArray, List.set_cons_zero, List.set_cons_succ]
  iterate 3 (first | (refine mix_quiet (by rfl) (by rfl) (fun K hK => ?_); go_big_quiet_op; refine hK _ ?_; clear hK K) | (refine mix_skip (by rfl) ?_; simp only [Act.put, List.setIfInBounds_toArray, List.set_cons_zero, List.set_cons_succ]))
  refine held_mid (by rfl) (by rfl) 23 (.tmp 52) rfl b (off + N * 32) (by rfl) (hcells q) _ hm (by omega) ⟨by omega, by omega⟩ Tryd.underlying23 rfl (size32l _ hq32) ?_
  simp only [Act.put, List.setIfInBounds_toArray, List.set_cons_zero, List.set_cons_succ]
  unfold hcells
  (refine mix_loud (by rfl) (by rfl) (fun K E hK => ?_); go_big_op)
  change Calls _ _ #[sumV y, sumV q] _ _
  refine (refNode_calls y q hy hq32 _).mono ?_; rintro e w6 ⟨rfl, e6⟩
  have K6 := K0.trans (Keep.of_ext (S := (fun k => k ≠ w.heap.size + 1 ∧ k ≠ w.heap.size + 1 + 1)) e6)
  have jY := Blk.below iY e6 (Blk.lt iY)
  have jZ := Blk.below iZ e6 (Blk.lt iZ)
  clear iY iZ K0 e6
  refine hK _ _ (held_of K6) ?_; clear hK K E
  unfold sumV
  iterate 2 (first | (refine mix_quiet (by rfl) (by rfl) (fun K hK => ?_); go_big_quiet_op; refine hK _ ?_; clear hK K) | (refine mix_skip (by rfl) ?_; simp only [Act.put, List.setIfInBounds_toArray, List.set_cons_zero, List.set_cons_succ]))
  have jk : Keep (fun k => k ≠ w.heap.size + 1 ∧ k ≠ w.heap.size + 1 + 1) wb (w6.setRow (w.heap.size + 1) ((x).map byteV).toArray) := K6.trans (Keep.of_upd ((Upd.refl _ _).row _) (fun h => h.1 rfl))
  refine mix_store_row (by rfl) (by rfl) 23 (.tmp 10) (.tmp 48) rfl (w.heap.size + 1) ((x).map byteV).toArray (by rfl) (by rfl) 23 _ jY (size32.trans (by simp [hx])) (by simp [hx, zerosB]) (by simp [byteV, Value.oneCell']) (held_of jk) ?_
  simp only [Act.put, List.setIfInBounds_toArray, List.set_cons_zero, List.set_cons_succ]
  have oY : ArrB (w6.setRow (w.heap.size + 1) ((x).map byteV).toArray) (w.heap.size + 1) 23 (x) := Blk.row jY _
  have oZ : ArrB (w6.setRow (w.heap.size + 1) ((x).map byteV).toArray) (w.heap.size + 1 + 1) 23 (zerosB 32) := Blk.rowFar jZ (by omega) _
  generalize w6.setRow (w.heap.size + 1) ((x).map byteV).toArray = wj at *
  have kk : Keep (fun k => k ≠ w.heap.size + 1 ∧ k ≠ w.heap.size + 1 + 1) wb (wj.setRow (w.heap.size + 1 + 1) ((nodeB y q).map byteV).toArray) := jk.trans (Keep.of_upd ((Upd.refl _ _).row _) (fun h => h.2 rfl))
  refine mix_store_row (by rfl) (by rfl) 23 (.tmp 11) (.tmp 54) rfl (w.heap.size + 1 + 1) ((nodeB y q).map byteV).toArray (by rfl) (by rfl) 23 _ oZ (size32.trans (by simp [hnl])) (by simp [hnl, zerosB]) (by simp [byteV, Value.oneCell']) (held_of kk) ?_
  simp only [Act.put, List.setIfInBounds_toArray, List.set_cons_zero, List.set_cons_succ]
  have rY : ArrB (wj.setRow (w.heap.size + 1 + 1) ((nodeB y q).map byteV).toArray) (w.heap.size + 1) 23 (x) := Blk.rowFar oY (by omega) _
  have rZ : ArrB (wj.setRow (w.heap.size + 1 + 1) ((nodeB y q).map byteV).toArray) (w.heap.size + 1 + 1) 23 (nodeB y q) := Blk.row oZ _
  generalize wj.setRow (w.heap.size + 1 + 1) ((nodeB y q).map byteV).toArray = wk at *
  iterate 1 (first | (refine mix_quiet (by rfl) (by rfl) (fun K hK => ?_); go_big_quiet_op; refine hK _ ?_; clear hK K) | (refine mix_skip (by rfl) ?_; simp only [Act.put, List.setIfInBounds_toArray, List.set_cons_zero, List.set_cons_succ]))
  refine mix_nil ?_
  have hk7 : Keep (fun k => k < w.heap.size) w wk := (Keep.of_ext hE5).trans (kk.mono (fun k _ h => ⟨by omega, by omega⟩))
  go_wp2_with fail
  (try simp only [Exit.inBlock, Exit.then]); refine bodyPost_ret (res_two_t rfl _ _ (w.heap.size + 1) (w.heap.size + 1 + 1) 23 23 _ _ _ rfl rfl rY rZ Tryd.underlying23 rfl (size32.trans (by simp [hx])) (size32.trans (by simp [hnl]))) rfl ?_
  exact ⟨rfl, hk7.ext⟩

set_option maxHeartbeats 4000000 in
theorem refboth_others (a : List UInt8) (ha : a.length = 32) (A : Option Addr) (cap : Nat) (l : List (List UInt8)) (hl : AllH l) (hll : l.length ≤ 1000000) (m n : Nat) (whole : Bool) (h1 : 1 ≤ m) (h2 : Tree.split n < m) (hmn : m < n) (h3 : n ≤ 1099511627776) (N : Nat) (hN : N < l.length) (x y : List UInt8) (hx : x.length = 32) (hy : y.length = 32) (w : World) (hrd : Rd w w.heap.size A (flatS l))
    (ih : ∀ w : World, Rd w w.heap.size A (flatS l) → Calls Tryd.prog 54 #[sumV a, .int .i64 ((m : Int) - (Tree.split n : Int)), .int .i64 ((n : Int) - (Tree.split n : Int)), .bool false, .slice A l.length cap] w fun e w' => e = .returned (.tuple #[sumV x, sumV y, .int .i64 (N : Int)]) ∧ Ext w w') :
    Calls Tryd.prog 54 #[sumV a, .int .i64 (m : Int), .int .i64 (n : Int), .bool whole, .slice A l.length cap] w fun e w' => e = .returned (.tuple #[sumV (nodeB l[N] x), sumV (nodeB l[N] y), .int .i64 ((N : Int) + 1)]) ∧ Ext w w' := by
  obtain ⟨b, off, rfl, hbl, hm0⟩ := rds_mid hrd hl (k := N) hN
  have hq32 : l[N].length = 32 := hl _ (List.getElem_mem hN)
  generalize l[N] = q at *
  have hfold := fold_sum a ha
  have hzz : (zerosB 32).length = 32 := rfl
  have hne : ((m : Int) == (n : Int)) = false := by rw [beq_eq_false_iff_ne]; omega
  have HSp := Lib.hid (splitI_nat n (by omega))
  have dk : decide ((m : Int) ≤ (Tree.split n : Int)) = false := decide_eq_false (by omega)
  have hsl := Tree.split_lt n (by omega)
  have hsp := Tree.split_pos n (by omega)
  have hNI : (N : Int) < (l.length : Int) := by omega
  have hnl := nodeB_length
  unfold sumV
  go_enter Tryd.func54, Tryd.ntmps54
  obtain ⟨hX, hY, hZ, hE, hz⟩ := rbW0_facts a w
  go_wp2_with fail
  change Calls _ _ _ (rbW0 a w) _
  generalize rbW0 a w = w1 at *
  refine (refSplit_calls (n : Int) (by omega) (by omega) _).mono ?_; rw [HSp.out]; rintro e w2 ⟨rfl, rfl⟩
  generalize Tree.split n = k at *
  go_wp2_with (refine stop_load 23 (.tmp 5) rfl ?_)
  refine ⟨?_⟩
  refine wpList_load_row rfl 23 (.tmp 5) rfl w.heap.size (by rfl) 23 _ (0, 0) _ hX Tryd.underlying23 rfl (size32.trans (by simp [ha])) ?_
  simp only [Act.put, List.setIfInBounds_toArray, List.set_cons_zero, List.set_cons_succ]
  go_wp2_with fail
  change Calls _ _ #[sumV a, _, _, _, _] _ _
  refine (ih _ ((hrd.below hE (Nat.le_refl _)).more hE.size)).mono ?_; rintro e w2 ⟨rfl, e2⟩
  have hY2 := Blk.below hY e2 (Blk.lt hY)
  have hZ2 := Blk.below hZ e2 (Blk.lt hZ)
  have hE2 := hE.trans e2
  have hs2 := e2.size
  clear hX hY hZ hE e2 ih
  unfold sumV
  go_wp2_with (refine stop_store 23 (.tmp 17) (.tmp 67) rfl ?_)
  refine ⟨?_⟩
  change wpList _ _ _ _ _ (twoW w2)
  obtain ⟨p1, p2, p3⟩ := twoW_facts w2
  have hgx : w.heap.size + 3 ≤ w2.heap.size := by omega
  have hY3 := Blk.below hY2 p3 (Blk.lt hY2)
  have hZ3 := Blk.below hZ2 p3 (Blk.lt hZ2)
  have hE3 := hE2.trans p3
  generalize w2.heap.size = gx at *
  clear hY2 hZ2 hE2 p3
  generalize twoW w2 = w3 at *
  go_wp2_with (refine stop_store 23 (.tmp 17) (.tmp 67) rfl ?_)
  refine ⟨?_⟩
  refine wpList_store_row rfl 23 (.tmp 17) (.tmp 67) rfl gx ((x).map byteV).toArray (by rfl) (by rfl) 23 _ p1 (size32.trans (by simp [hx])) (by simp [hx, hzz]) (by simp [byteV, Value.oneCell']) ?_
  simp only [Act.put, List.setIfInBounds_toArray, List.set_cons_zero, List.set_cons_succ]
  have hX : ArrB (w3.setRow gx ((x).map byteV).toArray) gx 23 (x) := Blk.row p1 _
  have hXu : Upd gx w3 (w3.setRow gx ((x).map byteV).toArray) := (Upd.refl _ _).row _
  generalize w3.setRow gx ((x).map byteV).toArray = w4 at *
  have hY4 := Blk.kept (S := fun k => k ≠ gx) hY3 (.of_upd hXu (fun h => h rfl)) (by omega)
  have hZ4 := Blk.kept (S := fun k => k ≠ gx) hZ3 (.of_upd hXu (fun h => h rfl)) (by omega)
  have q2 := Blk.kept (S := fun k => k ≠ gx) p2 (.of_upd hXu (fun h => h rfl)) (by omega)
  have hE4 := hE3.upd hXu (by omega)
  clear hY3 hZ3 hE3 hXu p1 p2
  go_wp2_with (refine stop_store 23 (.tmp 18) (.tmp 68) rfl ?_)
  refine ⟨?_⟩
  refine wpList_store_row rfl 23 (.tmp 18) (.tmp 68) rfl (gx + 1) ((y).map byteV).toArray (by rfl) (by rfl) 23 _ q2 (size32.trans (by simp [hy])) (by simp [hy, hzz]) (by simp [byteV, Value.oneCell']) ?_
  simp only [Act.put, List.setIfInBounds_toArray, List.set_cons_zero, List.set_cons_succ]
  have hV : ArrB (w4.setRow (gx + 1) ((y).map byteV).toArray) (gx + 1) 23 (y) := Blk.row q2 _
  have hVu : Upd (gx + 1) w4 (w4.setRow (gx + 1) ((y).map byteV).toArray) := (Upd.refl _ _).row _
  generalize w4.setRow (gx + 1) ((y).map byteV).toArray = w5 at *
  have hY5 := Blk.kept (S := fun k => k ≠ gx + 1) hY4 (.of_upd hVu (fun h => h rfl)) (by omega)
  have hZ5 := Blk.kept (S := fun k => k ≠ gx + 1) hZ4 (.of_upd hVu (fun h => h rfl)) (by omega)
  have hx5 := Blk.kept (S := fun k => k ≠ gx + 1) hX (.of_upd hVu (fun h => h rfl)) (by omega)
  have hE5 := hE4.upd hVu (by omega)
  clear hY4 hZ4 hE4 hVu q2 hX
  have hm : w5.rangeAt b (off + N * 32) (hcells q) := fun i u hu => ((ext_cells hE5).1 b _ hbl).trans (hm0 i u hu)
  clear hm0
  go_wp2_with (refine stop_load 23 (.tmp 72) rfl ?_)
  refine ⟨?_⟩
  refine wpList_load_mid rfl 23 (.tmp 72) rfl b (off + N * 32) (by rfl) (hcells q) _ hm Tryd.underlying23 rfl (size32l _ hq32) ?_
  simp only [Act.put, List.setIfInBounds_toArray, List.set_cons_zero, List.set_cons_succ]
  unfold hcells
  have hs5 := hE5.size
  go_wp2_with (refine stop_store 23 (.tmp 20) (.tmp 73) rfl ?_)
  refine ⟨?_⟩
  change wpList _ _ _ _ _ (w5.alloc (.cells ((zerosB 32).map byteV).toArray 23))
  have hQ0 : ArrB (w5.alloc (.cells ((zerosB 32).map byteV).toArray 23)) w5.heap.size 23 (zerosB 32) := Blk.new _ _ _
  refine wpList_store_row rfl 23 (.tmp 20) (.tmp 73) rfl w5.heap.size ((q).map byteV).toArray (by rfl) (by rfl) 23 _ hQ0 (size32.trans (by simp [hq32])) (by simp [hq32, zerosB]) (by simp [byteV, Value.oneCell']) ?_
  simp only [Act.put, List.setIfInBounds_toArray, List.set_cons_zero, List.set_cons_succ]
  have hQ : ArrB ((w5.alloc (.cells ((zerosB 32).map byteV).toArray 23)).setRow w5.heap.size ((q).map byteV).toArray) w5.heap.size 23 (q) := Blk.row hQ0 _
  have eQ : Ext w5 ((w5.alloc (.cells ((zerosB 32).map byteV).toArray 23)).setRow w5.heap.size ((q).map byteV).toArray) := ((Ext.refl w5).alloc _).row (Nat.le_refl _) _
  clear hQ0
  generalize (w5.alloc (.cells ((zerosB 32).map byteV).toArray 23)).setRow w5.heap.size ((q).map byteV).toArray = w6 at *
  have hx6 := Blk.below hx5 eQ (Blk.lt hx5)
  have hV6 := Blk.below hV eQ (Blk.lt hV)
  have hY6 := Blk.below hY5 eQ (Blk.lt hY5)
  have hZ6 := Blk.below hZ5 eQ (Blk.lt hZ5)
  have hl5 := Blk.lt hx5
  have hl6 := Blk.lt hV
  have hE5 := hE5.trans eQ
  generalize w5.heap.size = gq at *
  clear eQ hx5 hV hY5 hZ5 hm
  obtain ⟨wb, hwb⟩ : ∃ wb, wb = w6 := ⟨_, rfl⟩
  subst hwb
  go_wp2_with fail
  refine region_keep0 (fun k => k ≠ w.heap.size + 1 ∧ k ≠ w.heap.size + 1 + 1) (by kernel_rfl) (by kernel_rfl) ?_
  have K0 : Keep (fun k => k ≠ w.heap.size + 1 ∧ k ≠ w.heap.size + 1 + 1) wb wb.drew := (Keep.refl _ wb).drew
  have iY := Blk.drew hY6
  have iZ := Blk.drew hZ6
  refine held_row (by rfl) (by rfl) 23 (.tmp 20) rfl (gq) (by rfl) 23 _ _ hQ ⟨by omega, by omega⟩ Tryd.underlying23 rfl (size32.trans (by simp [hq32])) ?_
  simp only [Act.put, List.setIfInBounds_toArray, List.set_cons_zero, List.set_cons_succ]
  refine held_row (by rfl) (by rfl) 23 (.tmp 17) rfl (gx) (by rfl) 23 _ _ hx6 ⟨by omega, by omega⟩ Tryd.underlying23 rfl (size32.trans (by simp [hx])) ?_
  simp only [Act.put, List.setIfInBounds_toArray, List.set_cons_zero, List.set_cons_succ]
  (refine mix_loud (by rfl) (by rfl) (fun K E hK => ?_); go_big_op)
  change Calls _ _ #[sumV q, sumV x] _ _
  refine (refNode_calls q x hq32 hx _).mono ?_; rintro e w7 ⟨rfl, e6⟩
  have K6 := K0.trans (Keep.of_ext (S := (fun k => k ≠ w.heap.size + 1 ∧ k ≠ w.heap.size + 1 + 1)) e6)
  have jY := Blk.below iY e6 (Blk.lt iY)
  have jZ := Blk.below iZ e6 (Blk.lt iZ)
  clear iY iZ K0 e6
  refine hK _ _ (held_of K6) ?_; clear hK K E
  unfold sumV
  refine held_row (by rfl) (by rfl) 23 (.tmp 20) rfl (gq) (by rfl) 23 _ _ hQ ⟨by omega, by omega⟩ Tryd.underlying23 rfl (size32.trans (by simp [hq32])) ?_
  simp only [Act.put, List.setIfInBounds_toArray, List.set_cons_zero, List.set_cons_succ]
  refine held_row (by rfl) (by rfl) 23 (.tmp 18) rfl (gx + 1) (by rfl) 23 _ _ hV6 ⟨by omega, by omega⟩ Tryd.underlying23 rfl (size32.trans (by simp [hy])) ?_
  simp only [Act.put, List.setIfInBounds_toArray, List.set_cons_zero, List.set_cons_succ]
  (refine mix_loud (by rfl) (by rfl) (fun K E hK => ?_); go_big_op)
  change Calls _ _ #[sumV q, sumV y] _ _
  refine (refNode_calls q y hq32 hy _).mono ?_; rintro e w8 ⟨rfl, e6⟩
  have K8 := K6.trans (Keep.of_ext (S := (fun k => k ≠ w.heap.size + 1 ∧ k ≠ w.heap.size + 1 + 1)) e6)
  have kY := Blk.below jY e6 (Blk.lt jY)
  have kZ := Blk.below jZ e6 (Blk.lt jZ)
  clear jY jZ K6 e6
  refine hK _ _ (held_of K8) ?_; clear hK K E
  unfold sumV
  iterate 2 (first | (refine mix_quiet (by rfl) (by rfl) (fun K hK => ?_); go_big_quiet_op; refine hK _ ?_; clear hK K) | (refine mix_skip (by rfl) ?_; simp only [Act.put, List.setIfInBounds_toArray, List.set_cons_zero, List.set_cons_succ]))
  have jk : Keep (fun k => k ≠ w.heap.size + 1 ∧ k ≠ w.heap.size + 1 + 1) wb (w8.setRow (w.heap.size + 1) ((nodeB q x).map byteV).toArray) := K8.trans (Keep.of_upd ((Upd.refl _ _).row _) (fun h => h.1 rfl))
  refine mix_store_row (by rfl) (by rfl) 23 (.tmp 10) (.tmp 76) rfl (w.heap.size + 1) ((nodeB q x).map byteV).toArray (by rfl) (by rfl) 23 _ kY (size32.trans (by simp [hnl])) (by simp [hnl, zerosB]) (by simp [byteV, Value.oneCell']) (held_of jk) ?_
  simp only [Act.put, List.setIfInBounds_toArray, List.set_cons_zero, List.set_cons_succ]
  have oY : ArrB (w8.setRow (w.heap.size + 1) ((nodeB q x).map byteV).toArray) (w.heap.size + 1) 23 (nodeB q x) := Blk.row kY _
  have oZ : ArrB (w8.setRow (w.heap.size + 1) ((nodeB q x).map byteV).toArray) (w.heap.size + 1 + 1) 23 (zerosB 32) := Blk.rowFar kZ (by omega) _
  generalize w8.setRow (w.heap.size + 1) ((nodeB q x).map byteV).toArray = wj at *
  have kk : Keep (fun k => k ≠ w.heap.size + 1 ∧ k ≠ w.heap.size + 1 + 1) wb (wj.setRow (w.heap.size + 1 + 1) ((nodeB q y).map byteV).toArray) := jk.trans (Keep.of_upd ((Upd.refl _ _).row _) (fun h => h.2 rfl))
  refine mix_store_row (by rfl) (by rfl) 23 (.tmp 11) (.tmp 79) rfl (w.heap.size + 1 + 1) ((nodeB q y).map byteV).toArray (by rfl) (by rfl) 23 _ oZ (size32.trans (by simp [hnl])) (by simp [hnl, zerosB]) (by simp [byteV, Value.oneCell']) (held_of kk) ?_
  simp only [Act.put, List.setIfInBounds_toArray, List.set_cons_zero, List.set_cons_succ]
  have rY : ArrB (wj.setRow (w.heap.size + 1 + 1) ((nodeB q y).map byteV).toArray) (w.heap.size + 1) 23 (nodeB q x) := Blk.rowFar oY (by omega) _
  have rZ : ArrB (wj.setRow (w.heap.size + 1 + 1) ((nodeB q y).map byteV).toArray) (w.heap.size + 1 + 1) 23 (nodeB q y) := Blk.row oZ _
  generalize wj.setRow (w.heap.size + 1 + 1) ((nodeB q y).map byteV).toArray = wk at *
  iterate 1 (first | (refine mix_quiet (by rfl) (by rfl) (fun K hK => ?_); go_big_quiet_op; refine hK _ ?_; clear hK K) | (refine mix_skip (by rfl) ?_; simp only [Act.put, List.setIfInBounds_toArray, List.set_cons_zero, List.set_cons_succ]))
  refine mix_nil ?_
  have hk7 : Keep (fun k => k < w.heap.size) w wk := (Keep.of_ext hE5).trans (kk.mono (fun k _ h => ⟨by omega, by omega⟩))
  go_wp2_with fail
  (try simp only [Exit.inBlock, Exit.then]); refine bodyPost_ret (res_two_t rfl _ _ (w.heap.size + 1) (w.heap.size + 1 + 1) 23 23 _ _ _ rfl rfl rY rZ Tryd.underlying23 rfl (size32.trans (by simp [hnl])) (size32.trans (by simp [hnl]))) rfl ?_
  exact ⟨rfl, hk7.ext⟩

theorem both_len (a : List UInt8) (ha : a.length = 32) (m n : Nat) (whole : Bool) (l : List (List UInt8)) (hl : AllH l) : (Way.both nodeB a m n whole l).1.length = 32 ∧ (Way.both nodeB a m n whole l).2.length = 32 := by
  unfold Way.both
  split
  · exact bothW_length _ _ _ _ ha ha
  · exact bothW_length _ _ _ _ (headD_length l hl a ha) (headD_length l hl a ha)

theorem refboth_calls (a : List UInt8) (ha : a.length = 32) (A : Option Addr) (cap : Nat) (l : List (List UInt8)) (hl : AllH l) (hll : l.length ≤ 1000000) :
    ∀ (n m : Nat) (whole : Bool), 1 ≤ m → m ≤ n → n ≤ 1099511627776 → Way.needL m n whole ≤ l.length → ∀ w : World, Rd w w.heap.size A (flatS l) →
    Calls Tryd.prog 54 #[sumV a, .int .i64 (m : Int), .int .i64 (n : Int), .bool whole, .slice A l.length cap] w fun e w' =>
      e = .returned (.tuple #[sumV (Way.both nodeB a m n whole (l.take (Way.needL m n whole))).1, sumV (Way.both nodeB a m n whole (l.take (Way.needL m n whole))).2, .int .i64 (Way.needL m n whole : Int)]) ∧ Ext w w'
  | n, m, whole, h1, h2, h3, hneed, w, hrd => by
    by_cases hmn : m = n
    · subst hmn
      rw [Way.needL_done] at hneed ⊢
      rw [Way.both_done]
      cases whole
      · simp only [Bool.false_eq_true, if_false] at hneed ⊢
        have := refboth_head a ha A cap l hl (by omega) hll m w hrd
        rw [show (l.take 1).headD a = l.headD a from by cases l <;> rfl]
        exact this
      · exact refboth_all a ha _ m w
    · by_cases hk : m ≤ Tree.split n
      · have hn := Way.needL_first (by omega : m < n) h1 hk whole
        have hsl := Tree.split_lt n (by omega)
        rw [hn] at hneed
        have ih := refboth_calls a ha A cap l hl hll (Tree.split n) m whole h1 hk (by omega) (by omega)
        have hlen : (l.take (Way.needL m (Tree.split n) whole)).length = Way.needL m (Tree.split n) whole := by rw [List.length_take]; omega
        rw [hn, List.take_succ_eq_append_getElem (by omega), Way.both_first nodeB (by omega) h1 hk _ _ _ _ hlen]
        obtain ⟨e1, e2⟩ := both_len a ha m (Tree.split n) whole _ (hl.take (Way.needL m (Tree.split n) whole))
        exact refboth_first a ha A cap l hl hll m n whole h1 hk (by omega) h3 _ (by omega) _ _ e1 e2 w hrd ih
      · have hn := Way.needL_others (by omega : m < n) h1 hk whole
        have hsl := Tree.split_lt n (by omega)
        have hsp := Tree.split_pos n (by omega)
        rw [hn] at hneed
        have ih := refboth_calls a ha A cap l hl hll (n - Tree.split n) (m - Tree.split n) false (by omega) (by omega) (by omega) (by omega)
        have hlen : (l.take (Way.needL (m - Tree.split n) (n - Tree.split n) false)).length = Way.needL (m - Tree.split n) (n - Tree.split n) false := by rw [List.length_take]; omega
        rw [hn, List.take_succ_eq_append_getElem (by omega), Way.both_others nodeB (by omega) h1 hk _ _ _ _ hlen]
        obtain ⟨e1, e2⟩ := both_len a ha (m - Tree.split n) (n - Tree.split n) false _ (hl.take (Way.needL (m - Tree.split n) (n - Tree.split n) false))
        rw [show ((m - Tree.split n : Nat) : Int) = (m : Int) - (Tree.split n : Int) by omega, show ((n - Tree.split n : Nat) : Int) = (n : Int) - (Tree.split n : Int) by omega] at ih
        exact refboth_others a ha A cap l hl hll m n whole h1 (by omega) (by omega) h3 _ (by omega) _ _ e1 e2 w hrd ih
  termination_by n => n

end Go.Proofs.YtfpipdopgepelaaDoor

namespace Go.Proofs.YtfpipdopgepelaaDoor
open Go.ChangeShapes Go.WideShapes Go.ChangeAt Go.RowKit
attribute [local go_sem] bs_size bs_toList2 bs_append bs_extract_end bs_extract_begin bs_get wrap64_b grow_cell grow_frozen

set_option maxHeartbeats 2000000 in
theorem refBoth_none (a : List UInt8) (ha : a.length = 32) (m n : Int) (A : Option Addr) (cap : Nat) (l : List (List UInt8)) (hll : l.length ≤ 1000000) (w : World)
    (hlg : Way.linksI m n ≠ (l.length : Int)) : Calls Tryd.prog 21 #[sumV a, .int .i64 m, .int .i64 n, .slice A l.length cap] w fun e w' => e = .returned (.tuple #[sumV (zerosB 32), sumV (zerosB 32), .bool false]) ∧ Ext w w' := by
  have hfold := fold_sum a ha
  have hzz : (zerosB 32).length = 32 := rfl
  unfold sumV
  go_enter Tryd.func21, Tryd.ntmps21
  obtain ⟨hX, hY, hZ, hE, hz⟩ := rbW0_facts a w
  go_wp2_with fail
  change Calls _ _ _ (rbW0 a w) _
  generalize rbW0 a w = w1 at *
  refine (refLinksLong_calls m n _).mono ?_; rintro e w2 ⟨rfl, rfl⟩
  have dl : (Way.linksI m n != (l.length : Int)) = true := by simpa using hlg
  generalize Way.linksI m n = L at *
  go_wp2_with (refine stop_store 23 (.tmp 8) (.tmp 20) rfl ?_)
  refine ⟨?_⟩
  refine wpList_store_row rfl 23 (.tmp 8) (.tmp 20) rfl (w.heap.size + 1) ((zerosB 32).map byteV).toArray (by rfl) (by rfl) 23 _ hY (size32.trans (by simp [hzz])) (by simp [hzz, hzz]) (by simp [byteV, Value.oneCell']) ?_
  simp only [Act.put, List.setIfInBounds_toArray, List.set_cons_zero, List.set_cons_succ]
  have hY3 : ArrB (w1.setRow (w.heap.size + 1) ((zerosB 32).map byteV).toArray) (w.heap.size + 1) 23 (zerosB 32) := Blk.row hY _
  have hY3u : Upd (w.heap.size + 1) w1 (w1.setRow (w.heap.size + 1) ((zerosB 32).map byteV).toArray) := (Upd.refl _ _).row _
  generalize w1.setRow (w.heap.size + 1) ((zerosB 32).map byteV).toArray = w3 at *
  have hZ3 := Blk.kept (S := fun k => k ≠ w.heap.size + 1) hZ (.of_upd hY3u (fun h => h rfl)) (by omega)
  have hE3 := hE.upd hY3u (by omega)
  clear hY3u hY hZ hE
  go_wp2_with (refine stop_store 23 (.tmp 9) (.tmp 21) rfl ?_)
  refine ⟨?_⟩
  refine wpList_store_row rfl 23 (.tmp 9) (.tmp 21) rfl (w.heap.size + 1 + 1) ((zerosB 32).map byteV).toArray (by rfl) (by rfl) 23 _ hZ3 (size32.trans (by simp [hzz])) (by simp [hzz, hzz]) (by simp [byteV, Value.oneCell']) ?_
  simp only [Act.put, List.setIfInBounds_toArray, List.set_cons_zero, List.set_cons_succ]
  have hZ4 : ArrB (w3.setRow (w.heap.size + 1 + 1) ((zerosB 32).map byteV).toArray) (w.heap.size + 1 + 1) 23 (zerosB 32) := Blk.row hZ3 _
  have hZ4u : Upd (w.heap.size + 1 + 1) w3 (w3.setRow (w.heap.size + 1 + 1) ((zerosB 32).map byteV).toArray) := (Upd.refl _ _).row _
  generalize w3.setRow (w.heap.size + 1 + 1) ((zerosB 32).map byteV).toArray = w4 at *
  have hY4 := Blk.kept (S := fun k => k ≠ w.heap.size + 1 + 1) hY3 (.of_upd hZ4u (fun h => h rfl)) (by omega)
  have hE4 := hE3.upd hZ4u (by omega)
  go_wp2_with fail
  (try simp only [Exit.inBlock, Exit.then]); refine bodyPost_ret (res_two_t rfl _ _ (w.heap.size + 1) (w.heap.size + 1 + 1) 23 23 _ _ _ rfl rfl hY4 hZ4 Tryd.underlying23 rfl (size32.trans (by simp [hzz])) (size32.trans (by simp [hzz]))) rfl ?_
  exact ⟨rfl, hE4⟩

set_option maxHeartbeats 2000000 in
theorem refBoth_some (a : List UInt8) (ha : a.length = 32) (m n : Nat) (h1 : 1 ≤ m) (h2 : m ≤ n) (h3 : n ≤ 1099511627776) (A : Option Addr) (cap : Nat) (l : List (List UInt8)) (hl : AllH l) (hll : l.length ≤ 1000000) (w : World) (hrd : Rd w w.heap.size A (flatS l))
    (hlg : Way.linksI (m : Int) (n : Int) = (l.length : Int)) : Calls Tryd.prog 21 #[sumV a, .int .i64 (m : Int), .int .i64 (n : Int), .slice A l.length cap] w fun e w' => e = .returned (.tuple #[sumV (Way.both nodeB a m n true l).1, sumV (Way.both nodeB a m n true l).2, .bool true]) ∧ Ext w w' := by
  have hneed : Way.needL m n true = l.length := by
    unfold Way.linksI at hlg
    rw [if_neg (by omega)] at hlg
    simp only [Int.toNat_natCast] at hlg
    unfold Way.needL
    simp only [Bool.true_and]
    split at hlg <;> split <;> first | omega | contradiction
  have hb := refboth_calls a ha A cap l hl hll n m true h1 h2 h3 (by omega)
  rw [hneed, List.take_length] at hb
  obtain ⟨hx, hy⟩ := both_len a ha m n true l hl
  generalize Way.both nodeB a m n true l = p at *
  obtain ⟨x, y⟩ := p
  dsimp only at hx hy hb ⊢
  have hfold := fold_sum a ha
  have hzz : (zerosB 32).length = 32 := rfl
  unfold sumV
  go_enter Tryd.func21, Tryd.ntmps21
  obtain ⟨hX, hY, hZ, hE, hz⟩ := rbW0_facts a w
  go_wp2_with fail
  change Calls _ _ _ (rbW0 a w) _
  generalize rbW0 a w = w1 at *
  refine (refLinksLong_calls (m : Int) (n : Int) _).mono ?_; rw [hlg]; rintro e w2 ⟨rfl, rfl⟩
  go_wp2_with (refine stop_load 23 (.tmp 4) rfl ?_)
  refine ⟨?_⟩
  refine wpList_load_row rfl 23 (.tmp 4) rfl w.heap.size (by rfl) 23 _ (0, 0) _ hX Tryd.underlying23 rfl (size32.trans (by simp [ha])) ?_
  simp only [Act.put, List.setIfInBounds_toArray, List.set_cons_zero, List.set_cons_succ]
  go_wp2_with fail
  change Calls _ _ #[sumV a, _, _, _, _] _ _
  refine (hb _ ((hrd.below hE (Nat.le_refl _)).more hE.size)).mono ?_; rintro e w2 ⟨rfl, e2⟩
  have hY2 := Blk.below hY e2 (Blk.lt hY)
  have hZ2 := Blk.below hZ e2 (Blk.lt hZ)
  have hE2 := hE.trans e2
  have hs2 := e2.size
  clear hX hY hZ hE e2 hb
  unfold sumV
  go_wp2_with (refine stop_store 23 (.tmp 11) (.tmp 28) rfl ?_)
  refine ⟨?_⟩
  change wpList _ _ _ _ _ (twoW w2)
  obtain ⟨p1, p2, p3⟩ := twoW_facts w2
  have hgx : w.heap.size + 3 ≤ w2.heap.size := by omega
  have hY3 := Blk.below hY2 p3 (Blk.lt hY2)
  have hZ3 := Blk.below hZ2 p3 (Blk.lt hZ2)
  have hE3 := hE2.trans p3
  generalize w2.heap.size = gx at *
  clear hY2 hZ2 hE2 p3
  generalize twoW w2 = w3 at *
  go_wp2_with (refine stop_store 23 (.tmp 11) (.tmp 28) rfl ?_)
  refine ⟨?_⟩
  refine wpList_store_row rfl 23 (.tmp 11) (.tmp 28) rfl gx ((x).map byteV).toArray (by rfl) (by rfl) 23 _ p1 (size32.trans (by simp [hx])) (by simp [hx, hzz]) (by simp [byteV, Value.oneCell']) ?_
  simp only [Act.put, List.setIfInBounds_toArray, List.set_cons_zero, List.set_cons_succ]
  have hX : ArrB (w3.setRow gx ((x).map byteV).toArray) gx 23 (x) := Blk.row p1 _
  have hXu : Upd gx w3 (w3.setRow gx ((x).map byteV).toArray) := (Upd.refl _ _).row _
  generalize w3.setRow gx ((x).map byteV).toArray = w4 at *
  have hY4 := Blk.kept (S := fun k => k ≠ gx) hY3 (.of_upd hXu (fun h => h rfl)) (by omega)
  have hZ4 := Blk.kept (S := fun k => k ≠ gx) hZ3 (.of_upd hXu (fun h => h rfl)) (by omega)
  have q2 := Blk.kept (S := fun k => k ≠ gx) p2 (.of_upd hXu (fun h => h rfl)) (by omega)
  have hE4 := hE3.upd hXu (by omega)
  clear hY3 hZ3 hE3 hXu p1 p2
  go_wp2_with (refine stop_store 23 (.tmp 12) (.tmp 29) rfl ?_)
  refine ⟨?_⟩
  refine wpList_store_row rfl 23 (.tmp 12) (.tmp 29) rfl (gx + 1) ((y).map byteV).toArray (by rfl) (by rfl) 23 _ q2 (size32.trans (by simp [hy])) (by simp [hy, hzz]) (by simp [byteV, Value.oneCell']) ?_
  simp only [Act.put, List.setIfInBounds_toArray, List.set_cons_zero, List.set_cons_succ]
  have hV : ArrB (w4.setRow (gx + 1) ((y).map byteV).toArray) (gx + 1) 23 (y) := Blk.row q2 _
  have hVu : Upd (gx + 1) w4 (w4.setRow (gx + 1) ((y).map byteV).toArray) := (Upd.refl _ _).row _
  generalize w4.setRow (gx + 1) ((y).map byteV).toArray = w5 at *
  have hY5 := Blk.kept (S := fun k => k ≠ gx + 1) hY4 (.of_upd hVu (fun h => h rfl)) (by omega)
  have hZ5 := Blk.kept (S := fun k => k ≠ gx + 1) hZ4 (.of_upd hVu (fun h => h rfl)) (by omega)
  have hx5 := Blk.kept (S := fun k => k ≠ gx + 1) hX (.of_upd hVu (fun h => h rfl)) (by omega)
  have hE5 := hE4.upd hVu (by omega)
  clear hY4 hZ4 hE4 hVu q2 hX
  obtain ⟨wb, hwb⟩ : ∃ wb, wb = w5 := ⟨_, rfl⟩
  subst hwb
  go_wp2_with fail
  refine region_keep0 (fun k => k ≠ w.heap.size + 1 ∧ k ≠ w.heap.size + 1 + 1) (by kernel_rfl) (by kernel_rfl) ?_
  have K0 : Keep (fun k => k ≠ w.heap.size + 1 ∧ k ≠ w.heap.size + 1 + 1) wb wb.drew := (Keep.refl _ wb).drew
  have iY := Blk.drew hY5
  have iZ := Blk.drew hZ5
  refine held_row (by rfl) (by rfl) 23 (.tmp 11) rfl (gx) (by rfl) 23 _ _ hx5 ⟨by omega, by omega⟩ Tryd.underlying23 rfl (size32.trans (by simp [hx])) ?_
  simp only [Act.put, List.setIfInBounds_toArray, List.set_cons_zero, List.set_cons_succ]
  refine held_row (by rfl) (by rfl) 23 (.tmp 12) rfl (gx + 1) (by rfl) 23 _ _ hV ⟨by omega, by omega⟩ Tryd.underlying23 rfl (size32.trans (by simp [hy])) ?_
  simp only [Act.put, List.setIfInBounds_toArray, List.set_cons_zero, List.set_cons_succ]
  have jk : Keep (fun k => k ≠ w.heap.size + 1 ∧ k ≠ w.heap.size + 1 + 1) wb (wb.drew.setRow (w.heap.size + 1) ((x).map byteV).toArray) := K0.trans (Keep.of_upd ((Upd.refl _ _).row _) (fun h => h.1 rfl))
  refine mix_store_row (by rfl) (by rfl) 23 (.tmp 8) (.tmp 31) rfl (w.heap.size + 1) ((x).map byteV).toArray (by rfl) (by rfl) 23 _ iY (size32.trans (by simp [hx])) (by simp [hx, zerosB]) (by simp [byteV, Value.oneCell']) (held_of jk) ?_
  simp only [Act.put, List.setIfInBounds_toArray, List.set_cons_zero, List.set_cons_succ]
  have oY : ArrB (wb.drew.setRow (w.heap.size + 1) ((x).map byteV).toArray) (w.heap.size + 1) 23 (x) := Blk.row iY _
  have oZ : ArrB (wb.drew.setRow (w.heap.size + 1) ((x).map byteV).toArray) (w.heap.size + 1 + 1) 23 (zerosB 32) := Blk.rowFar iZ (by omega) _
  generalize wb.drew.setRow (w.heap.size + 1) ((x).map byteV).toArray = wj at *
  have kk : Keep (fun k => k ≠ w.heap.size + 1 ∧ k ≠ w.heap.size + 1 + 1) wb (wj.setRow (w.heap.size + 1 + 1) ((y).map byteV).toArray) := jk.trans (Keep.of_upd ((Upd.refl _ _).row _) (fun h => h.2 rfl))
  refine mix_store_row (by rfl) (by rfl) 23 (.tmp 9) (.tmp 32) rfl (w.heap.size + 1 + 1) ((y).map byteV).toArray (by rfl) (by rfl) 23 _ oZ (size32.trans (by simp [hy])) (by simp [hy, zerosB]) (by simp [byteV, Value.oneCell']) (held_of kk) ?_
  simp only [Act.put, List.setIfInBounds_toArray, List.set_cons_zero, List.set_cons_succ]
  have rY : ArrB (wj.setRow (w.heap.size + 1 + 1) ((y).map byteV).toArray) (w.heap.size + 1) 23 (x) := Blk.rowFar oY (by omega) _
  have rZ : ArrB (wj.setRow (w.heap.size + 1 + 1) ((y).map byteV).toArray) (w.heap.size + 1 + 1) 23 (y) := Blk.row oZ _
  generalize wj.setRow (w.heap.size + 1 + 1) ((y).map byteV).toArray = wk at *
  iterate 1 (first | (refine mix_quiet (by rfl) (by rfl) (fun K hK => ?_); go_big_quiet_op; refine hK _ ?_; clear hK K) | (refine mix_skip (by rfl) ?_; simp only [Act.put, List.setIfInBounds_toArray, List.set_cons_zero, List.set_cons_succ]))
  refine mix_nil ?_
  have hk7 : Keep (fun k => k < w.heap.size) w wk := (Keep.of_ext hE5).trans (kk.mono (fun k _ h => ⟨by omega, by omega⟩))
  go_wp2_with fail
  (try simp only [Exit.inBlock, Exit.then]); refine bodyPost_ret (res_two_t rfl _ _ (w.heap.size + 1) (w.heap.size + 1 + 1) 23 23 _ _ _ rfl rfl rY rZ Tryd.underlying23 rfl (size32.trans (by simp [hx])) (size32.trans (by simp [hy]))) rfl ?_
  exact ⟨rfl, hk7.ext⟩

theorem refBoth_calls (a : List UInt8) (ha : a.length = 32) (m n : Int) (A : Option Addr) (cap : Nat) (l : List (List UInt8)) (hl : AllH l) (hll : l.length ≤ 1000000) (w : World) (hrd : Rd w w.heap.size A (flatS l)) :
    Calls Tryd.prog 21 #[sumV a, .int .i64 m, .int .i64 n, .slice A l.length cap] w fun e w' => e = .returned (.tuple #[sumV (bothP a m n l).1.1, sumV (bothP a m n l).1.2, .bool (bothP a m n l).2]) ∧ Ext w w' := by
  by_cases hlg : Way.linksI m n = (l.length : Int)
  · rw [show bothP a m n l = _ from if_pos hlg]
    have hin : ¬ (m < 1 ∨ n < m ∨ 1099511627776 < n) := fun hc => by
      have : Way.linksI m n = -1 := if_pos hc
      omega
    obtain ⟨mN, rfl⟩ : ∃ k : Nat, m = (k : Int) := ⟨m.toNat, by omega⟩
    obtain ⟨nN, rfl⟩ : ∃ k : Nat, n = (k : Int) := ⟨n.toNat, by omega⟩
    simp only [Int.toNat_natCast]
    exact refBoth_some a ha mN nN (by omega) (by omega) (by omega) A cap l hl hll w hrd hlg
  · rw [show bothP a m n l = _ from if_neg hlg]
    exact refBoth_none a ha m n A cap l hll w hlg

set_option maxHeartbeats 1000000 in
theorem refGoes_calls (a b : List UInt8) (ha : a.length = 32) (hb : b.length = 32) (m n : Int) (A : Option Addr) (cap : Nat) (l : List (List UInt8)) (hl : AllH l) (hll : l.length ≤ 1000000) (w : World) (hrd : Rd w w.heap.size A (flatS l)) :
    Calls Tryd.prog 24 #[sumV a, .int .i64 m, sumV b, .int .i64 n, .slice A l.length cap] w fun e w' => e = .returned (.bool (goesB a m b n l)) ∧ Ext w w' := by
  unfold goesB
  have hpl := bothP_length a ha m n l hl
  obtain ⟨p, hp⟩ : ∃ p, p = bothP a m n l := ⟨_, rfl⟩
  rw [← hp] at hpl ⊢
  have Hp := Lib.hid hp
  clear hp
  obtain ⟨⟨x, y⟩, ok⟩ := p
  obtain ⟨hx, hy⟩ := hpl
  dsimp only at hx hy
  have hfolda := fold_sum a ha
  have hfoldb := fold_sum b hb
  have hgw := guard_sum
  have heq1 := fun w : World => eq_sum x a hx ha w
  have heq2 := fun w : World => eq_sum y b hy hb w
  have hzz : (zerosB 32).length = 32 := rfl
  unfold sumV
  go_enter Tryd.func24, Tryd.ntmps24
  have hX0 : ArrB ((w.alloc (.cells (a.map byteV).toArray 23)).alloc (.cells (b.map byteV).toArray 23)) w.heap.size 23 a := Blk.alloc (Blk.new _ _ _) _
  have hL0 : ArrB ((w.alloc (.cells (a.map byteV).toArray 23)).alloc (.cells (b.map byteV).toArray 23)) (w.heap.size + 1) 23 b := by
    have := Blk.new (w.alloc (.cells (a.map byteV).toArray 23)) 23 (b.map byteV).toArray
    rw [alloc_size] at this
    exact this
  have hE0 : Ext w ((w.alloc (.cells (a.map byteV).toArray 23)).alloc (.cells (b.map byteV).toArray 23)) := ((Ext.refl w).alloc _).alloc _
  go_wp2_with (refine stop_load 23 (.tmp 5) rfl ?_)
  refine ⟨?_⟩
  refine wpList_load_row rfl 23 (.tmp 5) rfl w.heap.size (by rfl) 23 _ (0, 0) _ hX0 Tryd.underlying23 rfl (size32.trans (by simp [ha])) ?_
  simp only [Act.put, List.setIfInBounds_toArray, List.set_cons_zero, List.set_cons_succ]
  generalize (w.alloc (.cells (a.map byteV).toArray 23)).alloc (.cells (b.map byteV).toArray 23) = w1 at *
  go_wp2_with fail
  change Calls _ _ #[sumV a, _, _, _] _ _
  refine (refBoth_calls a ha m n A cap l hl hll _ ((hrd.below hE0 (Nat.le_refl _)).more hE0.size)).mono ?_; rw [← Hp.out]; rintro e w2 ⟨rfl, e2⟩
  have hX2 := Blk.below hX0 e2 (Blk.lt hX0)
  have hL2 := Blk.below hL0 e2 (Blk.lt hL0)
  have hE2 := hE0.trans e2
  have hxl := Blk.lt hX2
  have hll2 := Blk.lt hL2
  clear hX0 hL0 hE0 e2
  unfold sumV
  go_wp2_with (refine stop_store 23 (.tmp 11) (.tmp 20) rfl ?_)
  refine ⟨?_⟩
  change wpList _ _ _ _ _ (twoW w2)
  obtain ⟨p1, p2, p3⟩ := twoW_facts w2
  have hX3 := Blk.below hX2 p3 hxl
  have hL3 := Blk.below hL2 p3 hll2
  have hE3 := hE2.trans p3
  have hsz := hE2.size
  have hwp := Blk.lt p1
  generalize w2.heap.size = gx at *
  clear hX2 hL2 hE2 p3
  generalize twoW w2 = w3 at *
  go_wp2_with (refine stop_store 23 (.tmp 11) (.tmp 20) rfl ?_)
  refine ⟨?_⟩
  refine wpList_store_row rfl 23 (.tmp 11) (.tmp 20) rfl gx ((x).map byteV).toArray (by rfl) (by rfl) 23 _ p1 (size32.trans (by simp [hx])) (by simp [hx, hzz]) (by simp [byteV, Value.oneCell']) ?_
  simp only [Act.put, List.setIfInBounds_toArray, List.set_cons_zero, List.set_cons_succ]
  have hX : ArrB (w3.setRow gx ((x).map byteV).toArray) gx 23 (x) := Blk.row p1 _
  have hXu : Upd gx w3 (w3.setRow gx ((x).map byteV).toArray) := (Upd.refl _ _).row _
  generalize w3.setRow gx ((x).map byteV).toArray = w4 at *
  have hX4 := Blk.kept (S := fun k => k ≠ gx) hX3 (.of_upd hXu (fun h => h rfl)) (by omega)
  have hL4 := Blk.kept (S := fun k => k ≠ gx) hL3 (.of_upd hXu (fun h => h rfl)) (by omega)
  have q2 := Blk.kept (S := fun k => k ≠ gx) p2 (.of_upd hXu (fun h => h rfl)) (by omega)
  have hE4 := hE3.upd hXu (by omega)
  clear hX3 hL3 hE3 hXu p1 p2
  go_wp2_with (refine stop_store 23 (.tmp 12) (.tmp 21) rfl ?_)
  refine ⟨?_⟩
  refine wpList_store_row rfl 23 (.tmp 12) (.tmp 21) rfl (gx + 1) ((y).map byteV).toArray (by rfl) (by rfl) 23 _ q2 (size32.trans (by simp [hy])) (by simp [hy, hzz]) (by simp [byteV, Value.oneCell']) ?_
  simp only [Act.put, List.setIfInBounds_toArray, List.set_cons_zero, List.set_cons_succ]
  have hY : ArrB (w4.setRow (gx + 1) ((y).map byteV).toArray) (gx + 1) 23 (y) := Blk.row q2 _
  have hYu : Upd (gx + 1) w4 (w4.setRow (gx + 1) ((y).map byteV).toArray) := (Upd.refl _ _).row _
  generalize w4.setRow (gx + 1) ((y).map byteV).toArray = w5 at *
  have hX5 := Blk.kept (S := fun k => k ≠ gx + 1) hX4 (.of_upd hYu (fun h => h rfl)) (by omega)
  have hL5 := Blk.kept (S := fun k => k ≠ gx + 1) hL4 (.of_upd hYu (fun h => h rfl)) (by omega)
  have hx5 := Blk.kept (S := fun k => k ≠ gx + 1) hX (.of_upd hYu (fun h => h rfl)) (by omega)
  have hE5 := hE4.upd hYu (by omega)
  clear hX4 hL4 hE4 hYu q2 hX
  cases ok
  · go_wp2_with fail
    go_ret
    exact ⟨rfl, hE5⟩
  · skip
    go_wp2_with (refine stop_load 23 (.tmp 11) rfl ?_)
    refine ⟨?_⟩
    refine list_want (by rfl) (fun K hK => ?_)
    refine wp_load_row 23 (.tmp 11) rfl gx (by rfl) 23 _ (0, 0) _ hx5 Tryd.underlying23 rfl (size32.trans (by simp [hx])) ?_
    refine hK _ _ ?_; clear hK K
    simp only [Act.put, List.setIfInBounds_toArray, List.set_cons_zero, List.set_cons_succ]
    go_wp2_with (refine stop_load 23 (.tmp 5) rfl ?_)
    refine ⟨?_⟩
    refine list_want (by rfl) (fun K hK => ?_)
    refine wp_load_row 23 (.tmp 5) rfl w.heap.size (by rfl) 23 _ (0, 0) _ hX5 Tryd.underlying23 rfl (size32.trans (by simp [ha])) ?_
    refine hK _ _ ?_; clear hK K
    simp only [Act.put, List.setIfInBounds_toArray, List.set_cons_zero, List.set_cons_succ]
    by_cases he : x = a
    · have d1 : decide (x = a) = true := decide_eq_true he
      rw [d1] at heq1
      have D1 := Lib.hid d1
      clear he d1
      go_wp2_with (refine stop_load 23 (.tmp 12) rfl ?_)
      refine ⟨?_⟩
      refine list_want (by rfl) (fun K hK => ?_)
      refine wp_load_row 23 (.tmp 12) rfl (gx + 1) (by rfl) 23 _ (0, 0) _ hY Tryd.underlying23 rfl (size32.trans (by simp [hy])) ?_
      refine hK _ _ ?_; clear hK K
      simp only [Act.put, List.setIfInBounds_toArray, List.set_cons_zero, List.set_cons_succ]
      go_wp2_with (refine stop_load 23 (.tmp 7) rfl ?_)
      refine ⟨?_⟩
      refine list_want (by rfl) (fun K hK => ?_)
      refine wp_load_row 23 (.tmp 7) rfl (w.heap.size + 1) (by rfl) 23 _ (0, 0) _ hL5 Tryd.underlying23 rfl (size32.trans (by simp [hb])) ?_
      refine hK _ _ ?_; clear hK K
      simp only [Act.put, List.setIfInBounds_toArray, List.set_cons_zero, List.set_cons_succ]
      go_wp2_with fail
      go_ret
      exact ⟨by simp [D1.out], hE5⟩
    · have d1 : decide (x = a) = false := decide_eq_false he
      rw [d1] at heq1
      have D1 := Lib.hid d1
      clear he d1
      go_wp2_with fail
      go_ret
      exact ⟨by simp [D1.out], hE5⟩

end Go.Proofs.YtfpipdopgepelaaDoor

namespace Go.Proofs.YtfpipdopgepelaaDoor
open Go.ChangeShapes Go.WideShapes Go.ChangeAt Go.RowKit

theorem two_rows (W : World) (x y : List UInt8) : ArrB (((twoW W).setRow W.heap.size (x.map byteV).toArray).setRow (W.heap.size + 1) (y.map byteV).toArray) W.heap.size 23 x ∧
    ArrB ((twoW W).setRow W.heap.size (x.map byteV).toArray) (W.heap.size + 1) 23 (zerosB 32) ∧
    ArrB (((twoW W).setRow W.heap.size (x.map byteV).toArray).setRow (W.heap.size + 1) (y.map byteV).toArray) (W.heap.size + 1) 23 y ∧
    Ext W (((twoW W).setRow W.heap.size (x.map byteV).toArray).setRow (W.heap.size + 1) (y.map byteV).toArray) := by
  obtain ⟨p1, p2, p3⟩ := twoW_facts W
  have q1 : ArrB ((twoW W).setRow W.heap.size (x.map byteV).toArray) W.heap.size 23 x := Blk.row p1 _
  have q2 : ArrB ((twoW W).setRow W.heap.size (x.map byteV).toArray) (W.heap.size + 1) 23 (zerosB 32) := Blk.rowFar p2 (by omega) _
  exact ⟨Blk.rowFar q1 (by omega) _, q2, Blk.row q2 _, (p3.row (Nat.le_refl _) _).row (by omega) _⟩

theorem Fold_sls (r : List UInt8) (hr : r.length = 32) (m n : Int) (hn63 : n ≤ 9223372036854775807) (v : Value) (l : List (List UInt8)) (hl : AllH l) (hll : l.length ≤ 1000000) (w : World) (KW : Keys w) (h : SlS w w.heap.size v l) :
    Calls Tryd.prog 18 #[sumV r, .int .i64 m, .int .i64 n, v] w fun e w' => e = .returned (.tuple #[sumV (foldP r m n l).1, .bool (foldP r m n l).2]) ∧ Ext w w' := by
  obtain ⟨A, cap, rfl, hA0, hc, hc63, hr'⟩ := h
  exact Fold_calls r hr m n hn63 A cap l hl hll w KW hr'
theorem refFold_sls (r : List UInt8) (hr : r.length = 32) (m n : Int) (v : Value) (l : List (List UInt8)) (hl : AllH l) (hll : l.length ≤ 1000000) (w : World) (h : SlS w w.heap.size v l) :
    Calls Tryd.prog 19 #[sumV r, .int .i64 m, .int .i64 n, v] w fun e w' => e = .returned (.tuple #[sumV (foldP r m n l).1, .bool (foldP r m n l).2]) ∧ Ext w w' := by
  obtain ⟨A, cap, rfl, hA0, hc, hc63, hr'⟩ := h
  exact refFold_calls r hr m n A cap l hl hll w hr'
theorem Both_sls (a : List UInt8) (ha : a.length = 32) (m n : Int) (hn63 : n ≤ 9223372036854775807) (v : Value) (l : List (List UInt8)) (hl : AllH l) (hll : l.length ≤ 1000000) (w : World) (KW : Keys w) (h : SlS w w.heap.size v l) :
    Calls Tryd.prog 20 #[sumV a, .int .i64 m, .int .i64 n, v] w fun e w' => e = .returned (.tuple #[sumV (bothP a m n l).1.1, sumV (bothP a m n l).1.2, .bool (bothP a m n l).2]) ∧ Ext w w' := by
  obtain ⟨A, cap, rfl, hA0, hc, hc63, hr'⟩ := h
  exact Both_calls a ha m n hn63 A cap l hl hll hc (by unfold maxLen; omega) w KW hr'
theorem refBoth_sls (a : List UInt8) (ha : a.length = 32) (m n : Int) (v : Value) (l : List (List UInt8)) (hl : AllH l) (hll : l.length ≤ 1000000) (w : World) (h : SlS w w.heap.size v l) :
    Calls Tryd.prog 21 #[sumV a, .int .i64 m, .int .i64 n, v] w fun e w' => e = .returned (.tuple #[sumV (bothP a m n l).1.1, sumV (bothP a m n l).1.2, .bool (bothP a m n l).2]) ∧ Ext w w' := by
  obtain ⟨A, cap, rfl, hA0, hc, hc63, hr'⟩ := h
  exact refBoth_calls a ha m n A cap l hl hll w hr'
theorem refGoes_sls (a b : List UInt8) (ha : a.length = 32) (hb : b.length = 32) (m n : Int) (v : Value) (l : List (List UInt8)) (hl : AllH l) (hll : l.length ≤ 1000000) (w : World) (h : SlS w w.heap.size v l) :
    Calls Tryd.prog 24 #[sumV a, .int .i64 m, sumV b, .int .i64 n, v] w fun e w' => e = .returned (.bool (goesB a m b n l)) ∧ Ext w w' := by
  obtain ⟨A, cap, rfl, hA0, hc, hc63, hr'⟩ := h
  exact refGoes_calls a b ha hb m n A cap l hl hll w hr'

end Go.Proofs.YtfpipdopgepelaaDoor

namespace Go.Proofs.YtfpipdopgepelaaDoor
open Go.ChangeShapes Go.WideShapes Go.ChangeAt Go.RowKit
attribute [local go_sem] bs_size bs_toList2 bs_append bs_extract_end bs_extract_begin bs_get wrap64_b grow_cell grow_frozen

/-- Are two texts twins? -/
def areB (a b : List UInt8) : Bool := !(a == b) && decide (shaOf a = shaOf b)
theorem areB_same (a : List UInt8) : areB a a = false := by simp [areB]
theorem areB_is (a b : List UInt8) : areB a b = Way.twinB shaOf (a, b) := by
  unfold areB Way.twinB
  by_cases h : a = b
  · subst h; simp
  · have : (a == b) = false := by rw [beq_eq_false_iff_ne]; exact h
    rw [this]
    simp [h]
abbrev twV (a b : List UInt8) : Value := .agg #[.string (bs a), .string (bs b)]
theorem guard_twins : Tryd.prog.eqGuardType Tryd.prog.depth 57 = false := by kernel_rfl
theorem held_twins : Tryd.prog.stoodInHeld 57 = false := by kernel_rfl
theorem joinB_one (a : List UInt8) : joinB [a] = a := by simp [joinB]

section
variable {P : Program} {ops : Array Oper} {S : World → Prop} {T : Act → World → Prop} {o : Oper} {r : Plan} {a : Act} {w : World} {i : Nat}
theorem mop_skip (ho : ops[i]? = some o) (hw : Region.wanted o (yielded ops a.tmps) = false) (h : wpPlan P ops S loudOp T r (a.put o.dst undef) w) : mOp P ops S loudOp i (wpPlan P ops S loudOp T r) a w := plan_skip ho hw h
end

set_option maxHeartbeats 2000000 in
theorem Are_calls (a b : List UInt8) (ha : a.length ≤ 4611686018427380000) (hb : b.length ≤ 4611686018427380000) (w : World) (KW : Keys w) :
    Calls Tryd.prog 41 #[twV a b] w fun e w' => e = .returned (.bool (areB a b)) ∧ Ext w w' := by
  have hgw := guard_sum
  obtain ⟨r, hr⟩ : ∃ r, r = areB a b := ⟨_, rfl⟩
  rw [← hr]
  have HR := Lib.hid hr
  clear hr
  go_enter Tryd.func41, Tryd.ntmps41
  go_wp2_with fail
  have hT0 := Blk.new w 57 #[.string (bs a), .string (bs b)]
  have hE0 := (Ext.refl w).alloc (.cells #[.string (bs a), .string (bs b)] 57)
  generalize w.alloc (.cells #[.string (bs a), .string (bs b)] 57) = w0 at *
  have c0 : w0.cell? ⟨w.heap.size, 0, none⟩ = some (.string (bs a)) := Blk.cell hT0 0
  have c1 : w0.cell? ⟨w.heap.size, 1, none⟩ = some (.string (bs b)) := Blk.cell hT0 1
  have hgl := hT0.lt
  by_cases hab : a = b
  · subst hab
    have hr := HR.out
    rw [areB_same] at hr
    subst hr
    have hbb : (a == a) = true := by simp
    refine region_plan 17 (Plan.run [0, 1, 2, 3, 4, 5, 6, 7, 10, 11] (.two 8 12 (Plan.run [] (.two 9 12 (Plan.run [12, 13, 14, 15, 16] .nil) (Plan.run [9, 13, 14, 15, 16] .nil))) (Plan.run [8, 9, 13, 14, 15, 16] .nil))) (by kernel_rfl) (by kernel_rfl) (fun y0 => ?_); simp only [Plan.run, List.drop_succ_cons, List.drop_zero, List.drop_nil]
    iterate 10 (first | (refine plan_quiet (by simp only [List.getElem?_toArray, List.getElem?_cons_zero, List.getElem?_cons_succ]; rfl) (by rfl) (by rfl) (fun K hK => ?_); go_big_quiet_op; refine hK _ ?_; clear hK K) | (refine plan_skip (by simp only [List.getElem?_toArray, List.getElem?_cons_zero, List.getElem?_cons_succ]; rfl) (by rfl) ?_; simp only [Act.put, List.setIfInBounds_toArray, List.set_cons_zero, List.set_cons_succ]))
    refine plan_two ?_ ?_
    · (refine mop_skip (by simp only [List.getElem?_toArray, List.getElem?_cons_zero, List.getElem?_cons_succ]; rfl) (by rfl) ?_; simp only [Act.put, List.setIfInBounds_toArray, List.set_cons_zero, List.set_cons_succ])
      refine plan_two ?_ ?_
      · (refine mop_skip (by simp only [List.getElem?_toArray, List.getElem?_cons_zero, List.getElem?_cons_succ]; rfl) (by rfl) ?_; simp only [Act.put, List.setIfInBounds_toArray, List.set_cons_zero, List.set_cons_succ])
        refine plan_one ?_
        (refine mop_skip (by simp only [List.getElem?_toArray, List.getElem?_cons_zero, List.getElem?_cons_succ]; rfl) (by rfl) ?_; simp only [Act.put, List.setIfInBounds_toArray, List.set_cons_zero, List.set_cons_succ])
        refine plan_one ?_
        (refine mop_skip (by simp only [List.getElem?_toArray, List.getElem?_cons_zero, List.getElem?_cons_succ]; rfl) (by rfl) ?_; simp only [Act.put, List.setIfInBounds_toArray, List.set_cons_zero, List.set_cons_succ])
        iterate 3 (first | (refine plan_quiet (by simp only [List.getElem?_toArray, List.getElem?_cons_zero, List.getElem?_cons_succ]; rfl) (by rfl) (by rfl) (fun K hK => ?_); go_big_quiet_op; refine hK _ ?_; clear hK K) | (refine plan_skip (by simp only [List.getElem?_toArray, List.getElem?_cons_zero, List.getElem?_cons_succ]; rfl) (by rfl) ?_; simp only [Act.put, List.setIfInBounds_toArray, List.set_cons_zero, List.set_cons_succ]))
        refine plan_nil ?_
        go_wp2_with fail
        go_ret
        exact ⟨rfl, hE0.trans (grow_ext _)⟩
      · (refine mop_skip (by simp only [List.getElem?_toArray, List.getElem?_cons_zero, List.getElem?_cons_succ]; rfl) (by rfl) ?_; simp only [Act.put, List.setIfInBounds_toArray, List.set_cons_zero, List.set_cons_succ])
        refine plan_one ?_
        (refine mop_skip (by simp only [List.getElem?_toArray, List.getElem?_cons_zero, List.getElem?_cons_succ]; rfl) (by rfl) ?_; simp only [Act.put, List.setIfInBounds_toArray, List.set_cons_zero, List.set_cons_succ])
        refine plan_one ?_
        (refine mop_skip (by simp only [List.getElem?_toArray, List.getElem?_cons_zero, List.getElem?_cons_succ]; rfl) (by rfl) ?_; simp only [Act.put, List.setIfInBounds_toArray, List.set_cons_zero, List.set_cons_succ])
        iterate 3 (first | (refine plan_quiet (by simp only [List.getElem?_toArray, List.getElem?_cons_zero, List.getElem?_cons_succ]; rfl) (by rfl) (by rfl) (fun K hK => ?_); go_big_quiet_op; refine hK _ ?_; clear hK K) | (refine plan_skip (by simp only [List.getElem?_toArray, List.getElem?_cons_zero, List.getElem?_cons_succ]; rfl) (by rfl) ?_; simp only [Act.put, List.setIfInBounds_toArray, List.set_cons_zero, List.set_cons_succ]))
        refine plan_nil ?_
        go_wp2_with fail
        go_ret
        exact ⟨rfl, hE0.trans (grow_ext _)⟩
    · (refine mop_skip (by simp only [List.getElem?_toArray, List.getElem?_cons_zero, List.getElem?_cons_succ]; rfl) (by rfl) ?_; simp only [Act.put, List.setIfInBounds_toArray, List.set_cons_zero, List.set_cons_succ])
      refine plan_one ?_
      (refine mop_skip (by simp only [List.getElem?_toArray, List.getElem?_cons_zero, List.getElem?_cons_succ]; rfl) (by rfl) ?_; simp only [Act.put, List.setIfInBounds_toArray, List.set_cons_zero, List.set_cons_succ])
      refine plan_one ?_
      (refine mop_skip (by simp only [List.getElem?_toArray, List.getElem?_cons_zero, List.getElem?_cons_succ]; rfl) (by rfl) ?_; simp only [Act.put, List.setIfInBounds_toArray, List.set_cons_zero, List.set_cons_succ])
      refine plan_one ?_
      (refine mop_skip (by simp only [List.getElem?_toArray, List.getElem?_cons_zero, List.getElem?_cons_succ]; rfl) (by rfl) ?_; simp only [Act.put, List.setIfInBounds_toArray, List.set_cons_zero, List.set_cons_succ])
      iterate 3 (first | (refine plan_quiet (by simp only [List.getElem?_toArray, List.getElem?_cons_zero, List.getElem?_cons_succ]; rfl) (by rfl) (by rfl) (fun K hK => ?_); go_big_quiet_op; refine hK _ ?_; clear hK K) | (refine plan_skip (by simp only [List.getElem?_toArray, List.getElem?_cons_zero, List.getElem?_cons_succ]; rfl) (by rfl) ?_; simp only [Act.put, List.setIfInBounds_toArray, List.set_cons_zero, List.set_cons_succ]))
      refine plan_nil ?_
      go_wp2_with fail
      go_ret
      exact ⟨rfl, hE0.trans (grow_ext _)⟩
  · have hbb : (a == b) = false := by rw [beq_eq_false_iff_ne]; exact hab
    obtain ⟨d, hd0⟩ : ∃ d, d = decide (shaOf a = shaOf b) := ⟨_, rfl⟩
    have har : r = d := by rw [HR.out]; unfold areB; rw [hbb, ← hd0]; rfl
    subst har
    have heq := fun w : World => eq_sum (shaOf a) (shaOf b) (shaOf_length a) (shaOf_length b) w
    rw [← hd0] at heq
    have hj1 := joinB_one a
    have hj2 := joinB_one b
    have hKs : ∀ x : More w0, Keys (grow w0 x) := fun x => KW.ext (hE0.trans (grow_ext x))
    clear hd0 hab
    refine region_plan 17 (Plan.run [0, 1, 2, 3, 4, 5, 6, 7, 10, 11] (.two 8 12 (Plan.run [] (.two 9 12 (Plan.run [12, 13, 14, 15, 16] .nil) (Plan.run [9, 13, 14, 15, 16] .nil))) (Plan.run [8, 9, 13, 14, 15, 16] .nil))) (by kernel_rfl) (by kernel_rfl) (fun y0 => ?_); simp only [Plan.run, List.drop_succ_cons, List.drop_zero, List.drop_nil]
    iterate 10 (first | (refine plan_quiet (by simp only [List.getElem?_toArray, List.getElem?_cons_zero, List.getElem?_cons_succ]; rfl) (by rfl) (by rfl) (fun K hK => ?_); go_big_quiet_op; refine hK _ ?_; clear hK K) | (refine plan_skip (by simp only [List.getElem?_toArray, List.getElem?_cons_zero, List.getElem?_cons_succ]; rfl) (by rfl) ?_; simp only [Act.put, List.setIfInBounds_toArray, List.set_cons_zero, List.set_cons_succ]))
    refine plan_two ?_ ?_
    · (refine plan_loud (by simp only [List.getElem?_toArray, List.getElem?_cons_zero, List.getElem?_cons_succ]; rfl) (by rfl) (by rfl) (fun K E hK => ?_); go_big_op)
      obtain ⟨y1, hy1⟩ := more_of ((grow_ext y0).alloc (.cells #[.string (bs a)] 9))
      have h8 : Rd ((grow w0 y0).alloc (.cells #[.string (bs a)] 9)) ((grow w0 y0).alloc (.cells #[.string (bs a)] 9)).heap.size (some ⟨(grow w0 y0).heap.size, 0, none⟩) ([a].map strV) := Blk.rd (Blk.new _ _ _)
      rw [hy1] at h8 ⊢
      clear hy1; generalize (grow w0 y0).heap.size = g8 at *
      refine hK _ _ ⟨_, rfl⟩ ?_; clear hK K E
      refine plan_two ?_ ?_
      · (refine plan_loud (by simp only [List.getElem?_toArray, List.getElem?_cons_zero, List.getElem?_cons_succ]; rfl) (by rfl) (by rfl) (fun K E hK => ?_); go_big_op)
        refine (Of_calls [a] _ 1 (grow w0 y1) (hKs _) h8 (by simp) (by rw [hj1]; omega)).mono ?_; rw [hj1]; unfold sumV; rintro e w3 ⟨rfl, hd⟩
        obtain ⟨y2, rfl⟩ := more_ext y1 hd; clear hd
        refine hK _ _ ⟨_, rfl⟩ ?_; clear hK K E
        clear h8
        refine plan_one ?_
        (refine plan_loud (by simp only [List.getElem?_toArray, List.getElem?_cons_zero, List.getElem?_cons_succ]; rfl) (by rfl) (by rfl) (fun K E hK => ?_); go_big_op)
        obtain ⟨y3, hy3⟩ := more_of ((grow_ext y2).alloc (.cells #[.string (bs b)] 9))
        have h12 : Rd ((grow w0 y2).alloc (.cells #[.string (bs b)] 9)) ((grow w0 y2).alloc (.cells #[.string (bs b)] 9)).heap.size (some ⟨(grow w0 y2).heap.size, 0, none⟩) ([b].map strV) := Blk.rd (Blk.new _ _ _)
        rw [hy3] at h12 ⊢
        clear hy3; generalize (grow w0 y2).heap.size = g12 at *
        refine hK _ _ ⟨_, rfl⟩ ?_; clear hK K E
        refine plan_one ?_
        (refine plan_loud (by simp only [List.getElem?_toArray, List.getElem?_cons_zero, List.getElem?_cons_succ]; rfl) (by rfl) (by rfl) (fun K E hK => ?_); go_big_op)
        refine (Of_calls [b] _ 1 (grow w0 y3) (hKs _) h12 (by simp) (by rw [hj2]; omega)).mono ?_; rw [hj2]; unfold sumV; rintro e w3 ⟨rfl, hd⟩
        obtain ⟨y4, rfl⟩ := more_ext y3 hd; clear hd
        refine hK _ _ ⟨_, rfl⟩ ?_; clear hK K E
        clear h12
        iterate 3 (first | (refine plan_quiet (by simp only [List.getElem?_toArray, List.getElem?_cons_zero, List.getElem?_cons_succ]; rfl) (by rfl) (by rfl) (fun K hK => ?_); go_big_quiet_op; refine hK _ ?_; clear hK K) | (refine plan_skip (by simp only [List.getElem?_toArray, List.getElem?_cons_zero, List.getElem?_cons_succ]; rfl) (by rfl) ?_; simp only [Act.put, List.setIfInBounds_toArray, List.set_cons_zero, List.set_cons_succ]))
        refine plan_nil ?_
        go_wp2_with fail
        go_ret
        exact ⟨rfl, hE0.trans (grow_ext _)⟩
      · (refine plan_loud (by simp only [List.getElem?_toArray, List.getElem?_cons_zero, List.getElem?_cons_succ]; rfl) (by rfl) (by rfl) (fun K E hK => ?_); go_big_op)
        obtain ⟨y5, hy5⟩ := more_of ((grow_ext y1).alloc (.cells #[.string (bs b)] 9))
        have h12 : Rd ((grow w0 y1).alloc (.cells #[.string (bs b)] 9)) ((grow w0 y1).alloc (.cells #[.string (bs b)] 9)).heap.size (some ⟨(grow w0 y1).heap.size, 0, none⟩) ([b].map strV) := Blk.rd (Blk.new _ _ _)
        replace h8 := (h8.below ((Ext.refl _).alloc (.cells #[.string (bs b)] 9)) (Nat.le_refl _)).more ((Ext.refl _).alloc (.cells #[.string (bs b)] 9)).size
        rw [hy5] at h12 h8 ⊢
        clear hy5; generalize (grow w0 y1).heap.size = g12 at *
        refine hK _ _ ⟨_, rfl⟩ ?_; clear hK K E
        refine plan_one ?_
        (refine plan_loud (by simp only [List.getElem?_toArray, List.getElem?_cons_zero, List.getElem?_cons_succ]; rfl) (by rfl) (by rfl) (fun K E hK => ?_); go_big_op)
        refine (Of_calls [a] _ 1 (grow w0 y5) (hKs _) h8 (by simp) (by rw [hj1]; omega)).mono ?_; rw [hj1]; unfold sumV; rintro e w3 ⟨rfl, hd⟩
        replace h12 := (h12.below hd (Nat.le_refl _)).more hd.size
        obtain ⟨y6, rfl⟩ := more_ext y5 hd; clear hd
        refine hK _ _ ⟨_, rfl⟩ ?_; clear hK K E
        clear h8
        refine plan_one ?_
        (refine plan_loud (by simp only [List.getElem?_toArray, List.getElem?_cons_zero, List.getElem?_cons_succ]; rfl) (by rfl) (by rfl) (fun K E hK => ?_); go_big_op)
        refine (Of_calls [b] _ 1 (grow w0 y6) (hKs _) h12 (by simp) (by rw [hj2]; omega)).mono ?_; rw [hj2]; unfold sumV; rintro e w3 ⟨rfl, hd⟩
        obtain ⟨y7, rfl⟩ := more_ext y6 hd; clear hd
        refine hK _ _ ⟨_, rfl⟩ ?_; clear hK K E
        clear h12
        iterate 3 (first | (refine plan_quiet (by simp only [List.getElem?_toArray, List.getElem?_cons_zero, List.getElem?_cons_succ]; rfl) (by rfl) (by rfl) (fun K hK => ?_); go_big_quiet_op; refine hK _ ?_; clear hK K) | (refine plan_skip (by simp only [List.getElem?_toArray, List.getElem?_cons_zero, List.getElem?_cons_succ]; rfl) (by rfl) ?_; simp only [Act.put, List.setIfInBounds_toArray, List.set_cons_zero, List.set_cons_succ]))
        refine plan_nil ?_
        go_wp2_with fail
        go_ret
        exact ⟨rfl, hE0.trans (grow_ext _)⟩
    · (refine plan_loud (by simp only [List.getElem?_toArray, List.getElem?_cons_zero, List.getElem?_cons_succ]; rfl) (by rfl) (by rfl) (fun K E hK => ?_); go_big_op)
      obtain ⟨y8, hy8⟩ := more_of ((grow_ext y0).alloc (.cells #[.string (bs b)] 9))
      have h12 : Rd ((grow w0 y0).alloc (.cells #[.string (bs b)] 9)) ((grow w0 y0).alloc (.cells #[.string (bs b)] 9)).heap.size (some ⟨(grow w0 y0).heap.size, 0, none⟩) ([b].map strV) := Blk.rd (Blk.new _ _ _)
      rw [hy8] at h12 ⊢
      clear hy8; generalize (grow w0 y0).heap.size = g12 at *
      refine hK _ _ ⟨_, rfl⟩ ?_; clear hK K E
      refine plan_one ?_
      (refine plan_loud (by simp only [List.getElem?_toArray, List.getElem?_cons_zero, List.getElem?_cons_succ]; rfl) (by rfl) (by rfl) (fun K E hK => ?_); go_big_op)
      obtain ⟨y9, hy9⟩ := more_of ((grow_ext y8).alloc (.cells #[.string (bs a)] 9))
      have h8 : Rd ((grow w0 y8).alloc (.cells #[.string (bs a)] 9)) ((grow w0 y8).alloc (.cells #[.string (bs a)] 9)).heap.size (some ⟨(grow w0 y8).heap.size, 0, none⟩) ([a].map strV) := Blk.rd (Blk.new _ _ _)
      replace h12 := (h12.below ((Ext.refl _).alloc (.cells #[.string (bs a)] 9)) (Nat.le_refl _)).more ((Ext.refl _).alloc (.cells #[.string (bs a)] 9)).size
      rw [hy9] at h8 h12 ⊢
      clear hy9; generalize (grow w0 y8).heap.size = g8 at *
      refine hK _ _ ⟨_, rfl⟩ ?_; clear hK K E
      refine plan_one ?_
      (refine plan_loud (by simp only [List.getElem?_toArray, List.getElem?_cons_zero, List.getElem?_cons_succ]; rfl) (by rfl) (by rfl) (fun K E hK => ?_); go_big_op)
      refine (Of_calls [a] _ 1 (grow w0 y9) (hKs _) h8 (by simp) (by rw [hj1]; omega)).mono ?_; rw [hj1]; unfold sumV; rintro e w3 ⟨rfl, hd⟩
      replace h12 := (h12.below hd (Nat.le_refl _)).more hd.size
      obtain ⟨y10, rfl⟩ := more_ext y9 hd; clear hd
      refine hK _ _ ⟨_, rfl⟩ ?_; clear hK K E
      clear h8
      refine plan_one ?_
      (refine plan_loud (by simp only [List.getElem?_toArray, List.getElem?_cons_zero, List.getElem?_cons_succ]; rfl) (by rfl) (by rfl) (fun K E hK => ?_); go_big_op)
      refine (Of_calls [b] _ 1 (grow w0 y10) (hKs _) h12 (by simp) (by rw [hj2]; omega)).mono ?_; rw [hj2]; unfold sumV; rintro e w3 ⟨rfl, hd⟩
      obtain ⟨y11, rfl⟩ := more_ext y10 hd; clear hd
      refine hK _ _ ⟨_, rfl⟩ ?_; clear hK K E
      clear h12
      iterate 3 (first | (refine plan_quiet (by simp only [List.getElem?_toArray, List.getElem?_cons_zero, List.getElem?_cons_succ]; rfl) (by rfl) (by rfl) (fun K hK => ?_); go_big_quiet_op; refine hK _ ?_; clear hK K) | (refine plan_skip (by simp only [List.getElem?_toArray, List.getElem?_cons_zero, List.getElem?_cons_succ]; rfl) (by rfl) ?_; simp only [Act.put, List.setIfInBounds_toArray, List.set_cons_zero, List.set_cons_succ]))
      refine plan_nil ?_
      go_wp2_with fail
      go_ret
      exact ⟨rfl, hE0.trans (grow_ext _)⟩

/-- The first twins, or none yet. -/
def turnT (s t : List UInt8) (f : List UInt8 × List UInt8) : List UInt8 × List UInt8 := if areB s t then (s, t) else f

set_option maxHeartbeats 2000000 in
theorem firstTurn_calls (s t : List UInt8) (hs : s.length ≤ 4611686018427380000) (ht : t.length ≤ 4611686018427380000) (g : Nat) (w : World) (KW : Keys w) (hF : Blk w g 57 #[.string (bs []), .string (bs [])]) :
    Calls Tryd.prog 78 #[.string (bs s), .string (bs t), .pointer (some ⟨g, 0, none⟩)] w fun e w' => e = .returned (.bool (!areB s t)) ∧ (if areB s t then Blk w' g 57 #[.string (bs s), .string (bs t)] else Blk w' g 57 #[.string (bs []), .string (bs [])]) ∧ Upd g w w' := by
  have hgw := guard_twins
  have hhw := held_twins
  have hgl := hF.lt
  have hW := Blk.alloc hF (.cells #[.string (bs s), .string (bs t)] 57)
  have hN := Blk.new w 57 #[.string (bs s), .string (bs t)]
  have hE := (Ext.refl w).alloc (.cells #[.string (bs s), .string (bs t)] 57)
  obtain ⟨g0, hg0⟩ : ∃ g0, g0 = w.heap.size := ⟨_, rfl⟩
  rw [← hg0] at hN
  have hgg : g ≠ g0 := by omega
  by_cases har : areB s t = true
  · have hne : s ≠ t := fun h => by rw [h, areB_same] at har; cases har
    have HA := Lib.hid har
    rw [har]
    clear har
    simp only [if_true]
    go_enter Tryd.func78, Tryd.ntmps78
    go_wp2_with fail
    rw [← hg0] at *
    generalize w.alloc (.cells #[.string (bs s), .string (bs t)] 57) = w1 at *
    refine (Are_calls s t hs ht _ (KW.ext hE)).mono ?_; rw [HA.out]; rintro e w2 ⟨rfl, e2⟩
    have hN2 := Blk.below hN e2 (Blk.lt hN)
    have hW2 := Blk.below hW e2 (Blk.lt hW)
    have c0 : w2.cell? ⟨g0, 0, none⟩ = some (.string (bs s)) := Blk.cell hN2 0
    have c1 : w2.cell? ⟨g0, 1, none⟩ = some (.string (bs t)) := Blk.cell hN2 1
    have d0 : w2.cell? ⟨g, 0, none⟩ = some (.string (bs [])) := Blk.cell hW2 0
    have d1 : w2.cell? ⟨g, 1, none⟩ = some (.string (bs [])) := Blk.cell hW2 1
    have f0 := hW2.frozen 0
    have f1 := hW2.frozen 1
    have hg2 := hW2.lt
    have hU : Upd g w w2 := (Upd.of_ext hE).ext e2
    clear hN hW hN2 hE e2
    go_wp2_with fail
    all_goals (try subst_vars)
    all_goals first
      | exact absurd rfl hne
      | (go_ret
         exact ⟨rfl, (Blk.set_ (Blk.set_ hW2 0 _) 1 _), (hU.setCell (.inl rfl) _).setCell (.inl rfl) _⟩)
  · have har := (Bool.not_eq_true _).mp har
    have HA := Lib.hid har
    rw [har]
    clear har
    simp only [Bool.false_eq_true, if_false]
    go_enter Tryd.func78, Tryd.ntmps78
    go_wp2_with fail
    rw [← hg0] at *
    generalize w.alloc (.cells #[.string (bs s), .string (bs t)] 57) = w1 at *
    refine (Are_calls s t hs ht _ (KW.ext hE)).mono ?_; rw [HA.out]; rintro e w2 ⟨rfl, e2⟩
    have hN2 := Blk.below hN e2 (Blk.lt hN)
    have hW2 := Blk.below hW e2 (Blk.lt hW)
    have c0 : w2.cell? ⟨g0, 0, none⟩ = some (.string (bs s)) := Blk.cell hN2 0
    have c1 : w2.cell? ⟨g0, 1, none⟩ = some (.string (bs t)) := Blk.cell hN2 1
    have d0 : w2.cell? ⟨g, 0, none⟩ = some (.string (bs [])) := Blk.cell hW2 0
    have d1 : w2.cell? ⟨g, 1, none⟩ = some (.string (bs [])) := Blk.cell hW2 1
    have f0 := hW2.frozen 0
    have f1 := hW2.frozen 1
    have hg2 := hW2.lt
    have hU : Upd g w w2 := (Upd.of_ext hE).ext e2
    clear hN hW hN2 hE e2
    go_wp2_with fail
    all_goals (try subst_vars)
    all_goals first
      | (go_ret
         exact ⟨rfl, hW2, hU⟩)

end Go.Proofs.YtfpipdopgepelaaDoor

namespace Go.Proofs.YtfpipdopgepelaaDoor
open Go.ChangeShapes Go.WideShapes Go.ChangeAt Go.RowKit
attribute [local go_sem] bs_size bs_toList2 bs_append bs_extract_end bs_extract_begin bs_get wrap64_b grow_cell grow_frozen

/-- The first twins at one place. -/
def firstO (a b : List (List UInt8)) : Option (List UInt8 × List UInt8) := Way.first shaOf a b
def twC (o : Option (List UInt8 × List UInt8)) : Array Value := #[.string (bs (o.getD ([], [])).1), .string (bs (o.getD ([], [])).2)]
theorem first_step (a b : List (List UInt8)) (k : Nat) (h1 : k < a.length) (h2 : k < b.length) : firstO (a.drop k) (b.drop k) = if areB a[k] b[k] then some (a[k], b[k]) else firstO (a.drop (k + 1)) (b.drop (k + 1)) := by
  unfold firstO Way.first
  rw [List.drop_eq_getElem_cons h1, List.drop_eq_getElem_cons h2, List.zip_cons_cons, List.find?_cons, areB_is]
  split <;> rename_i h <;> rw [h] <;> rfl
theorem first_end (a b : List (List UInt8)) (k : Nat) (h : a.length ≤ k ∨ b.length ≤ k) : firstO (a.drop k) (b.drop k) = none := by
  unfold firstO Way.first
  rcases h with h | h
  · rw [List.drop_of_length_le h]; rfl
  · rw [List.drop_of_length_le h, List.zip_nil_right]; rfl
theorem first_are {a b : List (List UInt8)} {p : List UInt8 × List UInt8} (h : firstO a b = some p) : areB p.1 p.2 = true := by
  obtain ⟨h1, h2⟩ := Way.first_some shaOf h
  unfold areB
  have : (p.1 == p.2) = false := by rw [beq_eq_false_iff_ne]; exact h1
  rw [this, h2]
  simp
theorem first_mem {a b : List (List UInt8)} {p : List UInt8 × List UInt8} (h : firstO a b = some p) : p.1 ∈ a ∧ p.2 ∈ b := by
  have := List.mem_of_find?_eq_some h
  exact List.of_mem_zip (a := p.1) (b := p.2) this
set_option maxHeartbeats 4000000 in
theorem side_calls (a b : List (List UInt8)) (ha : ∀ s ∈ a, s.length ≤ 4611686018427380000) (hb : ∀ s ∈ b, s.length ≤ 4611686018427380000) (hal : a.length ≤ 1000000) (hbl : b.length ≤ 1000000) (A1 A2 : Option Addr) (c1 c2 : Nat) (g B : Nat) (h0 : 0 ≠ g) (hBg : B ≤ g) (w : World) (KW : Keys w) (hra : Rd w B A1 (a.map strV)) (hrb : Rd w B A2 (b.map strV))
    (hF : Blk w g 57 #[.string (bs []), .string (bs [])]) :
    Calls Tryd.prog 77 #[.slice A1 a.length c1, .slice A2 b.length c2, .func (Fn.func 78) #[] #[.pointer (some ⟨g, 0, none⟩)]] w fun e w' => e = .returned (.tuple #[]) ∧ Blk w' g 57 (twC (firstO a b)) ∧ Upd g w w' := by
  obtain ⟨R, hR⟩ : ∃ R, R = firstO a b := ⟨_, rfl⟩
  rw [← hR]
  have HR := Lib.hid hR
  clear hR
  have hgl := hF.lt
  go_enter Tryd.func77, Tryd.ntmps77
  go_step3
  go_wp2_with fail
  go_step3
  go_wp2_with fail
  go_loopw [6, 7, 10] (fun _ _ s10 wr => ∃ k : Nat, k ≤ a.length ∧ s10 = .int .i64 (k : Int) ∧ R = firstO (a.drop k) (b.drop k) ∧ Blk wr g 57 #[.string (bs []), .string (bs [])] ∧ Upd g w wr) (fun _ _ s10 _ => a.length - (intOf s10).toNat)
  case atStart => exact ⟨0, Nat.zero_le _, rfl, HR.out, hF, Upd.refl _ _⟩
  case round =>
    obtain ⟨wo, rfl⟩ : ∃ wo : World, wo = wr := ⟨_, rfl⟩
    obtain ⟨k, hk, rfl, hRk, hF, hU⟩ := hrel
    have hKp : Keep (fun j => j ≠ g) w wo := Keep.of_upd hU (fun h => h rfl)
    have Ko : Keys wo := KW.keep hKp h0
    have hgo := hF.lt
    by_cases hlt : k < a.length
    · have hlI : (k : Int) < (a.length : Int) := by omega
      obtain ⟨b1, o1, rfl, hb1, hm1⟩ := hra (map_ne strV hlt)
      have hbl1 : b1 < w.heap.size := by omega
      have q1 : wo.cell? ⟨b1, o1 + k, none⟩ = some (strV a[k]) := (World.cell?_of_block (hKp.block b1 hbl1 (by omega))).trans (hm1 k (strV a[k]) (by simp [hlt]))
      have hbo1 : b1 < wo.heap.size := Nat.lt_of_lt_of_le hbl1 hKp.size
      have hs := ha a[k] (List.getElem_mem hlt)
      by_cases hlb : k < b.length
      · have hbI : (k : Int) < (b.length : Int) := by omega
        have d2 : decide ((b.length : Int) ≤ (k : Int)) = false := decide_eq_false (by omega)
        obtain ⟨b2, o2, rfl, hb2, hm2⟩ := hrb (map_ne strV hlb)
        have hbl2 : b2 < w.heap.size := by omega
        have q2 : wo.cell? ⟨b2, o2 + k, none⟩ = some (strV b[k]) := (World.cell?_of_block (hKp.block b2 hbl2 (by omega))).trans (hm2 k (strV b[k]) (by simp [hlb]))
        have hbo2 : b2 < wo.heap.size := Nat.lt_of_lt_of_le hbl2 hKp.size
        have ht := hb b[k] (List.getElem_mem hlb)
        have Hst := Lib.hid (hRk.trans (first_step a b k hlt hlb))
        clear hRk hm1 hm2
        generalize a[k] = s at *
        generalize b[k] = t at *
        obtain ⟨r, hr⟩ : ∃ r, r = areB s t := ⟨_, rfl⟩
        have Hr := Lib.hid hr
        clear hr
        go_wp2_with fail
        refine (firstTurn_calls s t hs ht g wo Ko hF).mono ?_; rw [← Hr.out]; rintro e w5 ⟨rfl, hN, hU5⟩
        have hU2 := hU.trans hU5
        clear hF hKp hU hU5
        cases r
        · have Hs2 := Lib.hid (show R = _ from Hst.out.trans (if_neg (by rw [← Hr.out]; simp)))
          simp only [Bool.false_eq_true, if_false] at hN
          go_wp2_with fail
          go_roundw
          case rel =>
            first
              | exact ⟨k + 1, by omega, by go_num, Hs2.out, hN, hU2⟩
              | (repeat apply Exists.intro
                 refine ⟨?_, rfl⟩
                 exact ⟨k + 1, by omega, by go_num, Hs2.out, hN, hU2⟩)
          case measure => simp [intOf]; omega
        · have Hs2 := Lib.hid (show R = _ from Hst.out.trans (if_pos Hr.out.symm))
          simp only [if_true] at hN
          go_wp2_with fail
          try rw [Exit.noGoto_normal]
          go_end0
          exact ⟨rfl, by rw [Hs2.out]; exact hN, hU2⟩
      · have d2 : decide ((b.length : Int) ≤ (k : Int)) = true := decide_eq_true (by omega)
        have hRn := hRk.trans (first_end a b k (.inr (by omega)))
        have HRn := Lib.hid hRn
        clear hRk hRn
        generalize a[k] = s at *
        go_wp2_with fail
        try rw [Exit.noGoto_normal]
        go_end0
        exact ⟨rfl, by rw [HRn.out]; exact hF, hU⟩
    · have hRn := hRk.trans (first_end a b k (.inl (by omega)))
      have HRn := Lib.hid hRn
      have hlI : ¬ (k : Int) < (a.length : Int) := by omega
      clear hRk hRn
      go_wp2_with fail
      try rw [Exit.noGoto_normal]
      go_end0
      exact ⟨rfl, by rw [HRn.out]; exact hF, hU⟩

theorem size_twins : (Tryd.prog.info? 57).map (·.size) = some 2 := by kernel_rfl
theorem first_flag (a b : List (List UInt8)) : areB ((firstO a b).getD ([], [])).1 ((firstO a b).getD ([], [])).2 = (firstO a b).isSome := by
  cases h : firstO a b with
  | none => exact areB_same []
  | some p => exact first_are h

set_option maxHeartbeats 2000000 in
theorem first_calls (a b : List (List UInt8)) (ha : ∀ s ∈ a, s.length ≤ 4611686018427380000) (hb : ∀ s ∈ b, s.length ≤ 4611686018427380000) (hal : a.length ≤ 1000000) (hbl : b.length ≤ 1000000) (A1 A2 : Option Addr) (c1 c2 : Nat) (w : World) (KW : Keys w) (hra : Rd w w.heap.size A1 (a.map strV)) (hrb : Rd w w.heap.size A2 (b.map strV)) :
    Calls Tryd.prog 61 #[.slice A1 a.length c1, .slice A2 b.length c2] w fun e w' => e = .returned (.tuple #[.agg (twC (firstO a b)), .bool (firstO a b).isSome]) ∧ Ext w w' := by
  have hfl := first_flag a b
  have hlen : ((firstO a b).getD ([], [])).1.length ≤ 4611686018427380000 ∧ ((firstO a b).getD ([], [])).2.length ≤ 4611686018427380000 := by
    cases h : firstO a b with
    | none => exact ⟨by simp, by simp⟩
    | some p => exact ⟨ha _ (first_mem h).1, hb _ (first_mem h).2⟩
  unfold twC
  have HFx := Lib.hid (side_calls a b ha hb hal hbl A1 A2 c1 c2)
  unfold twC at HFx
  obtain ⟨p, hp⟩ : ∃ p, p = (firstO a b).getD ([], []) := ⟨_, rfl⟩
  rw [← hp] at hfl hlen HFx ⊢
  generalize (firstO a b).isSome = fl at *
  clear hp
  obtain ⟨s, t⟩ := p
  obtain ⟨hs, ht⟩ := hlen
  dsimp only at hs ht hfl HFx ⊢
  have HFl := Lib.hid hfl
  clear hfl
  go_enter Tryd.func61, Tryd.ntmps61
  go_wp2_with fail
  have hR0 : Blk ((w.alloc (.cells #[.string (bs []), .string (bs [])] 57)).alloc (.cells #[.string (bs []), .string (bs [])] 57)) w.heap.size 57 #[.string (bs []), .string (bs [])] := Blk.alloc (Blk.new _ _ _) _
  have hF0 : Blk ((w.alloc (.cells #[.string (bs []), .string (bs [])] 57)).alloc (.cells #[.string (bs []), .string (bs [])] 57)) (w.heap.size + 1) 57 #[.string (bs []), .string (bs [])] := by
    have := Blk.new (w.alloc (.cells #[.string (bs []), .string (bs [])] 57)) 57 #[.string (bs []), .string (bs [])]
    rw [alloc_size] at this
    exact this
  have hE0 : Ext w ((w.alloc (.cells #[.string (bs []), .string (bs [])] 57)).alloc (.cells #[.string (bs []), .string (bs [])] 57)) := ((Ext.refl w).alloc _).alloc _
  change Calls _ _ _ ((w.alloc (.cells #[.string (bs []), .string (bs [])] 57)).alloc (.cells #[.string (bs []), .string (bs [])] 57)) _
  generalize (w.alloc (.cells #[.string (bs []), .string (bs [])] 57)).alloc (.cells #[.string (bs []), .string (bs [])] 57) = w0 at *
  refine (HFx.out (w.heap.size + 1) w.heap.size (by omega) (by omega) w0 (KW.ext hE0) (hra.below hE0 (Nat.le_refl _)) (hrb.below hE0 (Nat.le_refl _)) hF0).mono ?_; rintro e w1 ⟨rfl, hF1, hU1⟩
  have hR1 := Blk.kept (S := fun k => k ≠ w.heap.size + 1) hR0 (.of_upd hU1 (fun h => h rfl)) (by omega)
  have hE1 : Ext w w1 := hE0.upd hU1 (by omega)
  clear hR0 hF0 hE0 hU1 hra hrb HFx
  have c0 : w1.cell? ⟨w.heap.size + 1, 0, none⟩ = some (.string (bs s)) := Blk.cell hF1 0
  have c1 : w1.cell? ⟨w.heap.size + 1, 1, none⟩ = some (.string (bs t)) := Blk.cell hF1 1
  have hgl := hF1.lt
  have hrl := hR1.lt
  have hKs : ∀ x : More w1, Keys (grow w1 x) := fun x => KW.ext (hE1.trans (grow_ext x))
  go_wp2_with fail
  refine region_mix 3 (by kernel_rfl) (by kernel_rfl) (fun x => ?_); simp only [List.take_succ_cons, List.take_zero, List.drop_succ_cons, List.drop_zero]
  repeat (first | (refine mix_quiet (by rfl) (by rfl) (fun K hK => ?_); go_big_quiet_op; refine hK _ ?_; clear hK K) | (refine mix_skip (by rfl) ?_; simp only [Act.put, List.setIfInBounds_toArray, List.set_cons_zero, List.set_cons_succ]))
  (refine mix_loud (by rfl) (by rfl) (fun K E hK => ?_); go_big_op)
  refine (Are_calls s t hs ht _ (hKs _)).mono ?_; rw [HFl.out]; rintro e w3 ⟨rfl, hd⟩
  obtain ⟨x', rfl⟩ := more_ext _ hd; clear hd
  refine hK _ _ ⟨_, rfl⟩ ?_; clear hK K E
  refine mix_nil ?_
  have hR2 := Blk.below hR1 (grow_ext x') (Blk.lt hR1)
  have hE2 := hE1.trans (grow_ext x')
  clear hR1 hE1 hF1 c0 c1 hKs
  generalize grow w1 x' = w2 at *
  have f0 := hR2.frozen 0
  have f1 := hR2.frozen 1
  have d0 : w2.cell? ⟨w.heap.size, 0, none⟩ = some (.string (bs [])) := Blk.cell hR2 0
  have d1 : w2.cell? ⟨w.heap.size, 1, none⟩ = some (.string (bs [])) := Blk.cell hR2 1
  have hR3 : Blk ((w2.setCell ⟨w.heap.size, 0, none⟩ (.string (bs s))).setCell ⟨w.heap.size, 1, none⟩ (.string (bs t))) w.heap.size 57 #[.string (bs s), .string (bs t)] := Blk.set_ (Blk.set_ hR2 0 _) 1 _
  have hE3 : Ext w ((w2.setCell ⟨w.heap.size, 0, none⟩ (.string (bs s))).setCell ⟨w.heap.size, 1, none⟩ (.string (bs t))) := (hE2.setCell (Nat.le_refl _) _).setCell (Nat.le_refl _) _
  go_wp2_with fail
  generalize (w2.setCell ⟨w.heap.size, 0, none⟩ (.string (bs s))).setCell ⟨w.heap.size, 1, none⟩ (.string (bs t)) = w3 at *
  (try simp only [Exit.inBlock, Exit.then]); refine bodyPost_ret (res_cell_t rfl _ _ w.heap.size 57 _ _ rfl hR3 Tryd.underlying57 rfl size_twins) rfl ?_
  exact ⟨rfl, hE3⟩

end Go.Proofs.YtfpipdopgepelaaDoor

namespace Go.Proofs.YtfpipdopgepelaaDoor
open Go.ChangeShapes Go.WideShapes Go.ChangeAt Go.RowKit
attribute [local go_sem] bs_size bs_toList2 bs_append bs_extract_end bs_extract_begin bs_get wrap64_b grow_cell grow_frozen

theorem info_str : (Tryd.prog.info? 9).map (fun i => (i.zero, i.size, i.bytes)) = some (some (.string (bs [])), 1, 16) := by kernel_rfl
/-- A row of texts of the call's own. -/
abbrev OwnT (w : World) (base : Nat) (v : Value) (l : List (List UInt8)) : Prop := w.ownsRow base 9 1 v l.length (l.map strV)
/-- append(l, s) -/
theorem append_strK {ops : Array Oper} {rest : List Oper} {o : Oper} {a : Act} {w : World} {Q : Exit → Act → World → Prop} (hgd : o.guard = none) (s x : Operand) (ho : o.op = .call { callee := .builtin .append, args := #[s, x], argTypes := #[65, 65] })
    (v : Value) (l : List (List UInt8)) (b : List UInt8) (hs : a.eval s = v) (hx : a.eval x = .slice (some ⟨w.heap.size, 0, none⟩) 1 1) (hn : l.length ≤ 1099511627776) (base : Nat) (hb : base ≤ w.heap.size) (n : Nat) (hln : l.length = n)
    (h : w.ownsRow base 9 1 v n (l.map strV))
    (hK : ∀ A c w', w'.ownsRow base 9 1 (.slice A (n + 1) c) (n + 1) ((l ++ [b]).map strV) → Keep (fun k => some k ≠ v.ownBlock) w w' → wpList Tryd.prog ops Q rest (a.put o.dst (.slice A (n + 1) c)) w') :
    wpList Tryd.prog ops Q (o :: rest) a (w.alloc (.cells #[.string (bs b)] 9)) := by
  obtain ⟨i0, hi, hz0, hz1, hz2⟩ := info_parts info_str
  refine wpList_append_own _ hgd s x 65 ho base 9 i0 (.string (bs [])) 1 16 Tryd.underlying65 hi hz0 hz1 hz2 rfl (by decide) v n (l.map strV) hs (h.alloc _) ⟨w.heap.size, 0, none⟩ 1 1 [.string (bs b)] hx rfl (fun j u hj => ?_) (fun u hu => ?_) (by unfold maxLen; omega) (by omega) (by simp; omega) fun v' w' h1 h2 _ => ?_
  · match j, hj with
    | 0, hj => simp at hj; subst hj; simp [Addr.add]
  · simp at hu; subst hu; rfl
  · obtain ⟨A, c, rfl⟩ := own_slice h1
    refine hK A c w' ?_ (((Keep.refl _ _).alloc _).trans (.of_grown h2 (fun g e hs => hs e.symm)))
    rw [List.map_append]
    exact h1
theorem ownT_rd {w : World} {base : Nat} {v : Value} {l : List (List UInt8)} (h : OwnT w base v l) : ∃ A c, v = .slice A l.length c ∧ Rd w w.heap.size A (l.map strV) := by
  obtain ⟨A, c, h1, h2, _⟩ := own_rd h
  exact ⟨A, c, h1, h2⟩

/-- The texts on a way. -/
abbrev wayS (x : List UInt8) (T : List Bool) (l : List (List UInt8)) : List (List UInt8) := Way.way preB shaOf x T l
theorem way_snoc : ∀ (ts : List Bool) (hs : List (List UInt8)) (x : List UInt8) (t : Bool) (h : List UInt8), ts.length = hs.length → wayS x (ts ++ [t]) (hs ++ [h]) = wayS x ts hs ++ [if t then preB h (Way.foldW nodeB x ts hs) else preB (Way.foldW nodeB x ts hs) h]
  | [], [], x, t, h, _ => rfl
  | [], _ :: _, x, t, h, hl => by simp at hl
  | _ :: _, [], x, t, h, hl => by simp at hl
  | s :: ts, g :: hs, x, t, h, hl => by
    have ih := way_snoc ts hs (if s then nodeB g x else nodeB x g) t h (by simpa using hl)
    have e : shaOf (if s then preB g x else preB x g) = if s then nodeB g x else nodeB x g := by split <;> rfl
    show (if s then preB g x else preB x g) :: wayS (shaOf (if s then preB g x else preB x g)) (ts ++ [t]) (hs ++ [h]) = ((if s then preB g x else preB x g) :: wayS (shaOf (if s then preB g x else preB x g)) ts hs) ++ [_]
    rw [e, ih, Way.foldW_cons]
    rfl
theorem way_take (x : List UInt8) (T : List Bool) (l : List (List UInt8)) (k : Nat) (h1 : k < T.length) (h2 : k < l.length) : wayS x (T.take (k + 1)) (l.take (k + 1)) = wayS x (T.take k) (l.take k) ++ [if T[k] then preB l[k] (Way.foldW nodeB x (T.take k) (l.take k)) else preB (Way.foldW nodeB x (T.take k) (l.take k)) l[k]] := by
  rw [List.take_succ_eq_append_getElem h1, List.take_succ_eq_append_getElem h2, way_snoc _ _ _ _ _ (by rw [List.length_take, List.length_take]; omega)]
theorem way_len (x : List UInt8) (T : List Bool) (l : List (List UInt8)) (h : T.length = l.length) : (wayS x T l).length = l.length := Way.way_length preB shaOf T l x h
theorem turn_sha (h x : List UInt8) (b : Bool) : turnB h x b = shaOf (if b then preB h x else preB x h) := by unfold turnB; split <;> rfl
theorem ownT_far {w : World} {base n g : Nat} {v : Value} {xs : List Value} (h : w.ownsRow base 9 1 v n xs) {w' : World} (hk : Keep (fun k => k ≠ g) w w') (hg : g < base) : w'.ownsRow base 9 1 v n xs :=
  owns_keep h hk (fun k hk' => by have := (h.lt k hk').1; omega)
theorem wayS_bound : ∀ (T : List Bool) (l : List (List UInt8)) (x : List UInt8), x.length = 32 → AllH l → ∀ s ∈ wayS x T l, s.length = 65
  | [], l, x, hx, hl, s, hs => by simp [wayS, Way.way] at hs
  | t :: ts, [], x, hx, hl, s, hs => by simp [wayS, Way.way] at hs
  | t :: ts, h :: hs', x, hx, hl, s, hs => by
    have hh : h.length = 32 := hl _ (by simp)
    rcases List.mem_cons.1 hs with rfl | hs
    · split <;> rw [preB_length] <;> omega
    · exact wayS_bound ts hs' _ (shaOf_length _) hl.tail s hs

set_option maxHeartbeats 4000000 in
theorem way_calls (x : List UInt8) (hx : x.length = 32) (A : Option Addr) (cap : Nat) (l : List (List UInt8)) (hl : AllH l) (hll : l.length ≤ 1000000) (T : List Bool) (BT : Option Addr) (cT : Nat) (hT : T.length = l.length) (w : World) (KW : Keys w) (hrd : Rd w w.heap.size A (flatS l)) (hrT : Rd w w.heap.size BT (T.map Value.bool)) :
    Calls Tryd.prog 62 #[sumV x, .slice A l.length cap, .slice BT T.length cT] w fun e w' => ∃ v, e = .returned v ∧ OwnT w' w.heap.size v (wayS x T l) ∧ Ext w w' := by
  have hwl := way_len x T l hT
  have hfull : wayS x (T.take l.length) (l.take l.length) = wayS x T l := by rw [← hT, List.take_length, hT, List.take_length]
  obtain ⟨Y, hY⟩ : ∃ Y, Y = wayS x T l := ⟨_, rfl⟩
  rw [← hY] at hwl hfull ⊢
  have HY := Lib.hid hfull
  have Hwl := Lib.hid hwl
  have HTl := Lib.hid hT
  clear hY hwl hfull hT
  have hfold := fold_sum x hx
  unfold sumV
  go_enter Tryd.func62, Tryd.ntmps62
  have hX0 : ArrB (w.alloc (.cells (x.map byteV).toArray 23)) w.heap.size 23 x := Blk.new _ _ _
  have hE0 : Ext w (w.alloc (.cells (x.map byteV).toArray 23)) := (Ext.refl w).alloc _
  have hz0 : (w.alloc (.cells (x.map byteV).toArray 23)).heap.size = w.heap.size + 1 := alloc_size _ _
  have hp0 : Keep (fun k => k < w.heap.size) w (w.alloc (.cells (x.map byteV).toArray 23)) := Keep.of_ext hE0
  go_wp2_with fail
  change Code.wp _ _ _ _ (w.alloc (.cells (x.map byteV).toArray 23))
  generalize (w.alloc (.cells (x.map byteV).toArray 23)) = w1 at *
  have hO0 : w1.ownsRow (w.heap.size + 1) 9 1 (.slice none 0 0) 0 (([] : List (List UInt8)).map strV) := World.ownsRow_nil _ _ _ _
  have h0l := KW.lt0
  go_loopw [7, 8, 9, 10, 11, 14] (fun s7 _ _ _ _ s14 wr => ∃ (k : Nat) (v : Value), k ≤ l.length ∧ s14 = .int .i64 (k : Int) ∧ s7 = v ∧ ArrB wr w.heap.size 23 (Way.foldW nodeB x (T.take k) (l.take k)) ∧ wr.ownsRow (w.heap.size + 1) 9 1 v k ((wayS x (T.take k) (l.take k)).map strV) ∧ w.heap.size + 1 ≤ wr.heap.size ∧ Keep (fun k => k < w.heap.size) w wr) (fun _ _ _ _ _ s14 _ => l.length - (intOf s14).toNat)
  case atStart => exact ⟨0, _, Nat.zero_le _, rfl, rfl, by rw [List.take_zero, Way.foldW_nil]; exact hX0, by rw [List.take_zero]; exact hO0, by omega, hp0⟩
  case round =>
    obtain ⟨wo, rfl⟩ : ∃ wo : World, wo = wr := ⟨_, rfl⟩
    obtain ⟨k, v, hk, rfl, rfl, hX, hO, hzz, hKp⟩ := hrel
    clear hX0 hE0 hz0 hp0 hO0
    have Ko : Keys wo := KW.keep hKp h0l
    by_cases hlt : k < l.length
    · have hlI : (k : Int) < (l.length : Int) := by omega
      have hkT : k < T.length := by rw [HTl.out]; exact hlt
      have hTI : (k : Int) < (T.length : Int) := by omega
      obtain ⟨b3, o3, rfl, hb3, hcT⟩ := hrT (map_ne Value.bool hkT)
      have cT0 : w.cell? ⟨b3, o3 + k, none⟩ = some (.bool T[k]) := hcT k (.bool T[k]) (by simp [hkT])
      obtain ⟨b, off, rfl, hbl, hm0⟩ := rds_mid hrd hl hlt
      have hq : l[k].length = 32 := hl _ (List.getElem_mem hlt)
      have hfl := foldW_length (T.take k) (l.take k) x hx
      have hwt := way_take x T l k hkT hlt
      have hft := foldW_take x T l k hkT hlt
      rw [turn_sha] at hft
      have hpl : (wayS x (T.take k) (l.take k)).length = k := by rw [way_len _ _ _ (by rw [List.length_take, List.length_take]; omega), List.length_take]; omega
      generalize l[k] = q at *
      generalize T[k] = tk at *
      generalize Way.foldW nodeB x (T.take k) (l.take k) = z at *
      generalize wayS x (T.take k) (l.take k) = out at *
      have Hwt := Lib.hid hwt
      have Hft := Lib.hid hft
      have Hpl := Lib.hid hpl
      clear hwt hft hcT hpl
      cases tk
      · skip
        have cT1 : wo.cell? ⟨b3, o3 + k, none⟩ = some (.bool false) := (World.cell?_of_block (hKp.block b3 (by omega) hb3)).trans cT0
        have hm : wo.rangeAt b (off + k * 32) (hcells q) := fun i u hu => (World.cell?_of_block (hKp.block b (by omega) hbl)).trans (hm0 i u hu)
        have hbo : b < wo.heap.size := by have := hKp.size; omega
        have hb3o : b3 < wo.heap.size := by have := hKp.size; omega
        go_wp2_with (refine stop_load 23 (.tmp 17) rfl ?_)
        refine ⟨?_⟩
        refine wpList_load_mid rfl 23 (.tmp 17) rfl b (off + k * 32) (by rfl) (hcells q) _ hm Tryd.underlying23 rfl (size32l _ hq) ?_
        simp only [Act.put, List.setIfInBounds_toArray, List.set_cons_zero, List.set_cons_succ]
        unfold hcells
        try unfold sumV
        go_wp2_with (refine stop_store 23 (.tmp 9) (.tmp 18) rfl ?_)
        refine ⟨?_⟩
        change wpList _ _ _ _ _ (wo.alloc (.cells ((zerosB 32).map byteV).toArray 23))
        have hQ0 : ArrB (wo.alloc (.cells ((zerosB 32).map byteV).toArray 23)) wo.heap.size 23 (zerosB 32) := Blk.new _ _ _
        refine wpList_store_row rfl 23 (.tmp 9) (.tmp 18) rfl wo.heap.size ((q).map byteV).toArray (by rfl) (by rfl) 23 _ hQ0 (size32.trans (by simp [hq])) (by simp [hq, zerosB]) (by simp [byteV, Value.oneCell']) ?_
        simp only [Act.put, List.setIfInBounds_toArray, List.set_cons_zero, List.set_cons_succ]
        have hQ : ArrB ((wo.alloc (.cells ((zerosB 32).map byteV).toArray 23)).setRow wo.heap.size ((q).map byteV).toArray) wo.heap.size 23 (q) := Blk.row hQ0 _
        have e2 : Ext wo ((wo.alloc (.cells ((zerosB 32).map byteV).toArray 23)).setRow wo.heap.size ((q).map byteV).toArray) := ((Ext.refl wo).alloc _).row (Nat.le_refl _) _
        clear hQ0
        generalize (wo.alloc (.cells ((zerosB 32).map byteV).toArray 23)).setRow wo.heap.size ((q).map byteV).toArray = v1 at *
        have g3l := Blk.lt hQ
        obtain ⟨g3, g3e⟩ : ∃ g3, g3 = wo.heap.size := ⟨_, rfl⟩
        rw [← g3e] at hQ g3l
        try rw [← g3e]
        have g3b : wo.heap.size ≤ g3 := by omega
        replace hX := Blk.below hX e2 (Blk.lt hX)
        replace hO := owns_ext hO e2
        replace hKp := hKp.trans (Keep.of_ext e2)
        replace Ko := Ko.ext e2
        replace hzz := Nat.le_trans hzz e2.size
        replace cT1 : v1.cell? ⟨b3, o3 + k, none⟩ = some (.bool false) := (World.cell?_of_block (hKp.block b3 (by omega) hb3)).trans cT0
        replace hm : v1.rangeAt b (off + k * 32) (hcells q) := fun i u hu => (World.cell?_of_block (hKp.block b (by omega) hbl)).trans (hm0 i u hu)
        replace hbo : b < v1.heap.size := by have := hKp.size; omega
        replace hb3o : b3 < v1.heap.size := by have := hKp.size; omega
        clear e2
        clear g3e
        go_wp2_with (refine stop_load 23 (.tmp 3) rfl ?_)
        refine ⟨?_⟩
        refine wpList_load_row rfl 23 (.tmp 3) rfl w.heap.size (by rfl) 23 _ (0, 0) _ hX Tryd.underlying23 rfl (size32.trans (by simp [hfl])) ?_
        simp only [Act.put, List.setIfInBounds_toArray, List.set_cons_zero, List.set_cons_succ]
        go_wp2_with (refine stop_load 23 (.tmp 9) rfl ?_)
        refine ⟨?_⟩
        refine wpList_load_row rfl 23 (.tmp 9) rfl g3 (by rfl) 23 _ (0, 0) _ hQ Tryd.underlying23 rfl (size32.trans (by simp [hq])) ?_
        simp only [Act.put, List.setIfInBounds_toArray, List.set_cons_zero, List.set_cons_succ]
        go_wp2_with fail
        change Calls _ _ #[sumV z, sumV q] _ _
        refine (Preimage_calls z q hfl hq _).mono ?_; rintro e v5 ⟨rfl, e4⟩
        replace hX := Blk.below hX e4 (Blk.lt hX)
        replace hO := owns_ext hO e4
        replace hKp := hKp.trans (Keep.of_ext e4)
        replace Ko := Ko.ext e4
        replace hzz := Nat.le_trans hzz e4.size
        replace hQ := Blk.below hQ e4 (Blk.lt hQ)
        replace cT1 : v5.cell? ⟨b3, o3 + k, none⟩ = some (.bool false) := (World.cell?_of_block (hKp.block b3 (by omega) hb3)).trans cT0
        replace hm : v5.rangeAt b (off + k * 32) (hcells q) := fun i u hu => (World.cell?_of_block (hKp.block b (by omega) hbl)).trans (hm0 i u hu)
        replace hbo : b < v5.heap.size := by have := hKp.size; omega
        replace hb3o : b3 < v5.heap.size := by have := hKp.size; omega
        clear e4
        have hsl : (preB z q).length = 65 := by rw [preB_length]; omega
        have hw2 : wayS x (T.take (k + 1)) (l.take (k + 1)) = out ++ [preB z q] := Hwt.out
        have hf2 : Way.foldW nodeB x (T.take (k + 1)) (l.take (k + 1)) = shaOf (preB z q) := Hft.out
        have Hw2 := Lib.hid hw2
        have Hf2 := Lib.hid hf2
        clear Hwt Hft hw2 hf2
        generalize preB z q = s at *
        go_wp2_with (refine stop_dst 33 rfl ?_)
        refine ⟨?_⟩
        change wpList _ _ _ _ _ (v5.alloc (.cells #[.string (bs s)] 9))
        refine append_strK rfl (.tmp 30) (.tmp 32) rfl _ out s rfl rfl (by rw [Hpl.out]; omega) (w.heap.size + 1) hzz k Hpl.out hO fun A5 c5 w5 hO5 hk5 => ?_
        simp only [Act.put, List.setIfInBounds_toArray, List.set_cons_zero, List.set_cons_succ]
        replace hKp := hKp.trans (hk5.mono (fun k' _ h' => fun he => by have := (hO.lt k' he.symm).1; omega))
        replace hX := Blk.kept hX hk5 (fun he => by have := (hO.lt _ he.symm).1; omega)
        replace hzz := Nat.le_trans hzz hk5.size
        replace Ko : Keys w5 := Ko.keep hk5 (fun he => by have := (hO.lt _ he.symm).1; omega)
        clear hk5 hO hQ cT1 hm hbo hb3o cT0 hm0
        rw [← Hw2.out] at hO5
        go_wp2_with fail
        have hj := joinB_one s
        change Calls _ _ _ (w5.alloc (.cells ([s].map strV).toArray 9)) _
        have hR5 : Rd (w5.alloc (.cells ([s].map strV).toArray 9)) (w5.alloc (.cells ([s].map strV).toArray 9)).heap.size (some ⟨w5.heap.size, 0, none⟩) ([s].map strV) := Blk.rd (Blk.new w5 _ _)
        have e5 : Ext w5 (w5.alloc (.cells ([s].map strV).toArray 9)) := (Ext.refl w5).alloc _
        refine (Of_calls [s] _ 1 _ (Ko.ext e5) hR5 (by simp) (by rw [hj]; omega)).mono ?_; rw [hj]; rintro e w6 ⟨rfl, e6⟩
        replace e6 := e5.trans e6
        clear hR5 e5
        replace hX := Blk.below hX e6 (Blk.lt hX)
        replace hO5 := owns_ext hO5 e6
        replace hKp := hKp.trans (Keep.of_ext e6)
        replace hzz := Nat.le_trans hzz e6.size
        clear e6
        have hs32 := shaOf_length s
        unfold sumV
        go_wp2_with (refine stop_store 23 (.tmp 3) (.tmp 36) rfl ?_)
        refine ⟨?_⟩
        refine wpList_store_row rfl 23 (.tmp 3) (.tmp 36) rfl w.heap.size ((shaOf s).map byteV).toArray (by rfl) (by rfl) 23 _ hX (size32.trans (by simp [hs32])) (by simp [hs32, hfl]) (by simp [byteV, Value.oneCell']) ?_
        simp only [Act.put, List.setIfInBounds_toArray, List.set_cons_zero, List.set_cons_succ]
        have hX7 : ArrB (w6.setRow w.heap.size ((shaOf s).map byteV).toArray) w.heap.size 23 (shaOf s) := Blk.row hX _
        have hX7u : Upd w.heap.size w6 (w6.setRow w.heap.size ((shaOf s).map byteV).toArray) := (Upd.refl _ _).row _
        generalize w6.setRow w.heap.size ((shaOf s).map byteV).toArray = w7 at *
        have hO7 := ownT_far (g := w.heap.size) hO5 (Keep.of_upd hX7u (fun h => h rfl)) (by omega)
        have hKp7 := hKp.trans (Keep.of_upd hX7u (fun h => absurd h (by omega)))
        have hz7 : w.heap.size + 1 ≤ w7.heap.size := Nat.le_trans hzz hX7u.size
        rw [← Hf2.out] at hX7
        clear hX hO5 hKp hX7u
        go_wp2_with fail
        go_roundw
        case rel =>
          first
            | exact ⟨k + 1, _, by omega, by go_num, rfl, hX7, hO7, hz7, hKp7⟩
            | (repeat apply Exists.intro
               refine ⟨?_, rfl⟩
               exact ⟨k + 1, _, by omega, by go_num, rfl, hX7, hO7, hz7, hKp7⟩)
        case measure => simp [intOf]; omega
      · skip
        have cT1 : wo.cell? ⟨b3, o3 + k, none⟩ = some (.bool true) := (World.cell?_of_block (hKp.block b3 (by omega) hb3)).trans cT0
        have hm : wo.rangeAt b (off + k * 32) (hcells q) := fun i u hu => (World.cell?_of_block (hKp.block b (by omega) hbl)).trans (hm0 i u hu)
        have hbo : b < wo.heap.size := by have := hKp.size; omega
        have hb3o : b3 < wo.heap.size := by have := hKp.size; omega
        go_wp2_with (refine stop_load 23 (.tmp 17) rfl ?_)
        refine ⟨?_⟩
        refine wpList_load_mid rfl 23 (.tmp 17) rfl b (off + k * 32) (by rfl) (hcells q) _ hm Tryd.underlying23 rfl (size32l _ hq) ?_
        simp only [Act.put, List.setIfInBounds_toArray, List.set_cons_zero, List.set_cons_succ]
        unfold hcells
        try unfold sumV
        go_wp2_with (refine stop_store 23 (.tmp 9) (.tmp 18) rfl ?_)
        refine ⟨?_⟩
        change wpList _ _ _ _ _ (wo.alloc (.cells ((zerosB 32).map byteV).toArray 23))
        have hQ0 : ArrB (wo.alloc (.cells ((zerosB 32).map byteV).toArray 23)) wo.heap.size 23 (zerosB 32) := Blk.new _ _ _
        refine wpList_store_row rfl 23 (.tmp 9) (.tmp 18) rfl wo.heap.size ((q).map byteV).toArray (by rfl) (by rfl) 23 _ hQ0 (size32.trans (by simp [hq])) (by simp [hq, zerosB]) (by simp [byteV, Value.oneCell']) ?_
        simp only [Act.put, List.setIfInBounds_toArray, List.set_cons_zero, List.set_cons_succ]
        have hQ : ArrB ((wo.alloc (.cells ((zerosB 32).map byteV).toArray 23)).setRow wo.heap.size ((q).map byteV).toArray) wo.heap.size 23 (q) := Blk.row hQ0 _
        have e2 : Ext wo ((wo.alloc (.cells ((zerosB 32).map byteV).toArray 23)).setRow wo.heap.size ((q).map byteV).toArray) := ((Ext.refl wo).alloc _).row (Nat.le_refl _) _
        clear hQ0
        generalize (wo.alloc (.cells ((zerosB 32).map byteV).toArray 23)).setRow wo.heap.size ((q).map byteV).toArray = v1 at *
        have g3l := Blk.lt hQ
        obtain ⟨g3, g3e⟩ : ∃ g3, g3 = wo.heap.size := ⟨_, rfl⟩
        rw [← g3e] at hQ g3l
        try rw [← g3e]
        have g3b : wo.heap.size ≤ g3 := by omega
        replace hX := Blk.below hX e2 (Blk.lt hX)
        replace hO := owns_ext hO e2
        replace hKp := hKp.trans (Keep.of_ext e2)
        replace Ko := Ko.ext e2
        replace hzz := Nat.le_trans hzz e2.size
        replace cT1 : v1.cell? ⟨b3, o3 + k, none⟩ = some (.bool true) := (World.cell?_of_block (hKp.block b3 (by omega) hb3)).trans cT0
        replace hm : v1.rangeAt b (off + k * 32) (hcells q) := fun i u hu => (World.cell?_of_block (hKp.block b (by omega) hbl)).trans (hm0 i u hu)
        replace hbo : b < v1.heap.size := by have := hKp.size; omega
        replace hb3o : b3 < v1.heap.size := by have := hKp.size; omega
        clear e2
        clear g3e
        go_wp2_with (refine stop_load 23 (.tmp 3) rfl ?_)
        refine ⟨?_⟩
        refine wpList_load_row rfl 23 (.tmp 3) rfl w.heap.size (by rfl) 23 _ (0, 0) _ hX Tryd.underlying23 rfl (size32.trans (by simp [hfl])) ?_
        simp only [Act.put, List.setIfInBounds_toArray, List.set_cons_zero, List.set_cons_succ]
        go_wp2_with (refine stop_load 23 (.tmp 9) rfl ?_)
        refine ⟨?_⟩
        refine wpList_load_row rfl 23 (.tmp 9) rfl g3 (by rfl) 23 _ (0, 0) _ hQ Tryd.underlying23 rfl (size32.trans (by simp [hq])) ?_
        simp only [Act.put, List.setIfInBounds_toArray, List.set_cons_zero, List.set_cons_succ]
        go_wp2_with fail
        change Calls _ _ #[sumV z, sumV q] _ _
        refine (Preimage_calls z q hfl hq _).mono ?_; rintro e v5 ⟨rfl, e4⟩
        replace hX := Blk.below hX e4 (Blk.lt hX)
        replace hO := owns_ext hO e4
        replace hKp := hKp.trans (Keep.of_ext e4)
        replace Ko := Ko.ext e4
        replace hzz := Nat.le_trans hzz e4.size
        replace hQ := Blk.below hQ e4 (Blk.lt hQ)
        replace cT1 : v5.cell? ⟨b3, o3 + k, none⟩ = some (.bool true) := (World.cell?_of_block (hKp.block b3 (by omega) hb3)).trans cT0
        replace hm : v5.rangeAt b (off + k * 32) (hcells q) := fun i u hu => (World.cell?_of_block (hKp.block b (by omega) hbl)).trans (hm0 i u hu)
        replace hbo : b < v5.heap.size := by have := hKp.size; omega
        replace hb3o : b3 < v5.heap.size := by have := hKp.size; omega
        clear e4
        go_wp2_with (refine stop_load 23 (.tmp 9) rfl ?_)
        refine ⟨?_⟩
        refine wpList_load_row rfl 23 (.tmp 9) rfl g3 (by rfl) 23 _ (0, 0) _ hQ Tryd.underlying23 rfl (size32.trans (by simp [hq])) ?_
        simp only [Act.put, List.setIfInBounds_toArray, List.set_cons_zero, List.set_cons_succ]
        go_wp2_with (refine stop_load 23 (.tmp 3) rfl ?_)
        refine ⟨?_⟩
        refine wpList_load_row rfl 23 (.tmp 3) rfl w.heap.size (by rfl) 23 _ (0, 0) _ hX Tryd.underlying23 rfl (size32.trans (by simp [hfl])) ?_
        simp only [Act.put, List.setIfInBounds_toArray, List.set_cons_zero, List.set_cons_succ]
        go_wp2_with fail
        change Calls _ _ #[sumV q, sumV z] _ _
        refine (Preimage_calls q z hq hfl _).mono ?_; rintro e v7 ⟨rfl, e6⟩
        replace hX := Blk.below hX e6 (Blk.lt hX)
        replace hO := owns_ext hO e6
        replace hKp := hKp.trans (Keep.of_ext e6)
        replace Ko := Ko.ext e6
        replace hzz := Nat.le_trans hzz e6.size
        replace hQ := Blk.below hQ e6 (Blk.lt hQ)
        replace cT1 : v7.cell? ⟨b3, o3 + k, none⟩ = some (.bool true) := (World.cell?_of_block (hKp.block b3 (by omega) hb3)).trans cT0
        replace hm : v7.rangeAt b (off + k * 32) (hcells q) := fun i u hu => (World.cell?_of_block (hKp.block b (by omega) hbl)).trans (hm0 i u hu)
        replace hbo : b < v7.heap.size := by have := hKp.size; omega
        replace hb3o : b3 < v7.heap.size := by have := hKp.size; omega
        clear e6
        have hsl : (preB q z).length = 65 := by rw [preB_length]; omega
        have hw2 : wayS x (T.take (k + 1)) (l.take (k + 1)) = out ++ [preB q z] := Hwt.out
        have hf2 : Way.foldW nodeB x (T.take (k + 1)) (l.take (k + 1)) = shaOf (preB q z) := Hft.out
        have Hw2 := Lib.hid hw2
        have Hf2 := Lib.hid hf2
        clear Hwt Hft hw2 hf2
        generalize preB q z = s at *
        go_wp2_with (refine stop_dst 33 rfl ?_)
        refine ⟨?_⟩
        change wpList _ _ _ _ _ (v7.alloc (.cells #[.string (bs s)] 9))
        refine append_strK rfl (.tmp 30) (.tmp 32) rfl _ out s rfl rfl (by rw [Hpl.out]; omega) (w.heap.size + 1) hzz k Hpl.out hO fun A5 c5 w5 hO5 hk5 => ?_
        simp only [Act.put, List.setIfInBounds_toArray, List.set_cons_zero, List.set_cons_succ]
        replace hKp := hKp.trans (hk5.mono (fun k' _ h' => fun he => by have := (hO.lt k' he.symm).1; omega))
        replace hX := Blk.kept hX hk5 (fun he => by have := (hO.lt _ he.symm).1; omega)
        replace hzz := Nat.le_trans hzz hk5.size
        replace Ko : Keys w5 := Ko.keep hk5 (fun he => by have := (hO.lt _ he.symm).1; omega)
        clear hk5 hO hQ cT1 hm hbo hb3o cT0 hm0
        rw [← Hw2.out] at hO5
        go_wp2_with fail
        have hj := joinB_one s
        change Calls _ _ _ (w5.alloc (.cells ([s].map strV).toArray 9)) _
        have hR5 : Rd (w5.alloc (.cells ([s].map strV).toArray 9)) (w5.alloc (.cells ([s].map strV).toArray 9)).heap.size (some ⟨w5.heap.size, 0, none⟩) ([s].map strV) := Blk.rd (Blk.new w5 _ _)
        have e5 : Ext w5 (w5.alloc (.cells ([s].map strV).toArray 9)) := (Ext.refl w5).alloc _
        refine (Of_calls [s] _ 1 _ (Ko.ext e5) hR5 (by simp) (by rw [hj]; omega)).mono ?_; rw [hj]; rintro e w6 ⟨rfl, e6⟩
        replace e6 := e5.trans e6
        clear hR5 e5
        replace hX := Blk.below hX e6 (Blk.lt hX)
        replace hO5 := owns_ext hO5 e6
        replace hKp := hKp.trans (Keep.of_ext e6)
        replace hzz := Nat.le_trans hzz e6.size
        clear e6
        have hs32 := shaOf_length s
        unfold sumV
        go_wp2_with (refine stop_store 23 (.tmp 3) (.tmp 36) rfl ?_)
        refine ⟨?_⟩
        refine wpList_store_row rfl 23 (.tmp 3) (.tmp 36) rfl w.heap.size ((shaOf s).map byteV).toArray (by rfl) (by rfl) 23 _ hX (size32.trans (by simp [hs32])) (by simp [hs32, hfl]) (by simp [byteV, Value.oneCell']) ?_
        simp only [Act.put, List.setIfInBounds_toArray, List.set_cons_zero, List.set_cons_succ]
        have hX7 : ArrB (w6.setRow w.heap.size ((shaOf s).map byteV).toArray) w.heap.size 23 (shaOf s) := Blk.row hX _
        have hX7u : Upd w.heap.size w6 (w6.setRow w.heap.size ((shaOf s).map byteV).toArray) := (Upd.refl _ _).row _
        generalize w6.setRow w.heap.size ((shaOf s).map byteV).toArray = w7 at *
        have hO7 := ownT_far (g := w.heap.size) hO5 (Keep.of_upd hX7u (fun h => h rfl)) (by omega)
        have hKp7 := hKp.trans (Keep.of_upd hX7u (fun h => absurd h (by omega)))
        have hz7 : w.heap.size + 1 ≤ w7.heap.size := Nat.le_trans hzz hX7u.size
        rw [← Hf2.out] at hX7
        clear hX hO5 hKp hX7u
        go_wp2_with fail
        go_roundw
        case rel =>
          first
            | exact ⟨k + 1, _, by omega, by go_num, rfl, hX7, hO7, hz7, hKp7⟩
            | (repeat apply Exists.intro
               refine ⟨?_, rfl⟩
               exact ⟨k + 1, _, by omega, by go_num, rfl, hX7, hO7, hz7, hKp7⟩)
        case measure => simp [intOf]; omega
    · obtain rfl : k = l.length := by omega
      rw [HY.out] at hO
      have hw := Hwl.out
      rw [← hw] at hO
      have HO := Lib.hid hO
      clear hO hw
      go_wp2_with fail
      go_ret
      exact ⟨_, rfl, owns_base HO.out (by omega), hKp.ext⟩

end Go.Proofs.YtfpipdopgepelaaDoor

namespace Go.Proofs.YtfpipdopgepelaaDoor
open Go.ChangeShapes Go.WideShapes Go.ChangeAt Go.RowKit
attribute [local go_sem] bs_size bs_toList2 bs_append bs_extract_end bs_extract_begin bs_get wrap64_b grow_cell grow_frozen

/-- What twin.Way tells. -/
def wayP (m n : Int) (x : List UInt8) (l : List (List UInt8)) : List (List UInt8) := if Way.longI m n = (l.length : Int) then wayS x (Way.turnsI m n) l else []

set_option maxHeartbeats 2000000 in
theorem Way_calls (m n : Int) (hn63 : n ≤ 9223372036854775807) (x : List UInt8) (hx : x.length = 32) (c : Value) (l : List (List UInt8)) (hl : AllH l) (hll : l.length ≤ 1000000) (w : World) (KW : Keys w) (h : SlS w w.heap.size c l) :
    Calls Tryd.prog 37 #[.int .i64 m, .int .i64 n, sumV x, c] w fun e w' => ∃ v, e = .returned v ∧ OwnT w' w.heap.size v (wayP m n x l) ∧ Ext w w' := by
  obtain ⟨A, cap, rfl, hA0, hc, hc63, hr⟩ := h
  obtain ⟨Y, hY⟩ : ∃ Y, Y = wayP m n x l := ⟨_, rfl⟩
  rw [← hY]
  have hfold := fold_sum x hx
  unfold sumV
  go_enter Tryd.func37, Tryd.ntmps37
  have hX0 : ArrB (w.alloc (.cells (x.map byteV).toArray 23)) w.heap.size 23 x := Blk.new _ _ _
  have hE0 : Ext w (w.alloc (.cells (x.map byteV).toArray 23)) := (Ext.refl w).alloc _
  go_wp2_with fail
  generalize w.alloc (.cells (x.map byteV).toArray 23) = w1 at *
  refine (Long_calls m n hn63 _).mono ?_; rintro e w2 ⟨rfl, e2⟩
  have hX2 := Blk.below hX0 e2 (Blk.lt hX0)
  have hE2 := hE0.trans e2
  clear hX0 hE0 e2
  by_cases hlg : Way.longI m n = (l.length : Int)
  · have hY2 : Y = wayS x (Way.turnsI m n) l := hY.trans (if_pos hlg)
    have hTl : (Way.turnsI m n).length = l.length := by have := Way.turnsI_length m n (by omega); omega
    have HY := Lib.hid hY2
    rw [hlg]
    clear hY hY2
    have HTl := Lib.hid hTl
    have HLg := Lib.hid hlg
    clear hlg hTl
    go_wp2_with fail
    have hKs : ∀ z : More w2, Keys (grow w2 z) := fun z => KW.ext (hE2.trans (grow_ext z))
    have hrs : ∀ z : More w2, Rd (grow w2 z) (grow w2 z).heap.size A (flatS l) := fun z => (hr.below (hE2.trans (grow_ext z)) (Nat.le_refl _)).more (hE2.trans (grow_ext z)).size
    refine region_mix0 (by kernel_rfl) (by kernel_rfl) (fun y0 => ?_)
    refine mix_row (by rfl) (by rfl) 23 (.tmp 6) rfl w.heap.size (by rfl) 23 _ _ hX2 Tryd.underlying23 rfl (size32.trans (by simp [hx])) ?_
    simp only [Act.put, List.setIfInBounds_toArray, List.set_cons_zero, List.set_cons_succ]
    iterate 3 (first | (refine mix_quiet (by rfl) (by rfl) (fun K hK => ?_); go_big_quiet_op; refine hK _ ?_; clear hK K) | (refine mix_skip (by rfl) ?_; simp only [Act.put, List.setIfInBounds_toArray, List.set_cons_zero, List.set_cons_succ]))
    (refine mix_loud (by rfl) (by rfl) (fun K E hK => ?_); go_big_op)
    refine (Turns_calls m n hn63 _).mono ?_; rintro e w5 ⟨v, rfl, hO, hd⟩
    obtain ⟨B, cB, hv, hrB, -⟩ := own_rd hO
    subst hv
    obtain ⟨x', rfl⟩ := more_ext _ hd; clear hd hO
    refine hK _ _ ⟨_, rfl⟩ ?_; clear hK K E
    (refine mix_loud (by rfl) (by rfl) (fun K E hK => ?_); go_big_op)
    change Calls _ _ #[sumV x, _, _] _ _
    refine (way_calls x hx A cap l hl hll (Way.turnsI m n) B cB HTl.out _ (hKs _) (hrs _) hrB).mono ?_; rw [← HY.out]; rintro e w6 ⟨v6, rfl, hO, hd⟩
    have hO6 := owns_base hO (B' := w.heap.size) (hE2.trans (grow_ext _)).size
    obtain ⟨x2, rfl⟩ := more_ext _ hd; clear hd hO hrB
    refine hK _ _ ⟨_, rfl⟩ ?_; clear hK K E
    repeat (first | (refine mix_quiet (by rfl) (by rfl) (fun K hK => ?_); go_big_quiet_op; refine hK _ ?_; clear hK K) | (refine mix_skip (by rfl) ?_; simp only [Act.put, List.setIfInBounds_toArray, List.set_cons_zero, List.set_cons_succ]))
    refine mix_nil ?_
    have hE6 := hE2.trans (grow_ext x2)
    clear hKs hrs
    go_wp2_with fail
    go_ret
    exact ⟨_, rfl, hO6, hE6⟩
  · have hY2 : Y = [] := hY.trans (if_neg hlg)
    subst hY2
    have dl : (Way.longI m n != (l.length : Int)) = true := by simpa using hlg
    clear hY
    generalize Way.longI m n = L at *
    go_wp2_with fail
    go_ret
    exact ⟨_, rfl, World.ownsRow_nil _ _ _ _, hE2⟩

/-- What twin.Leaves tells. -/
def leavesP (m n : Int) (x y : List UInt8) (a b : List (List UInt8)) : Option (List UInt8 × List UInt8) :=
  if ((foldP x m n a).2 && (foldP y m n b).2) && decide ((foldP x m n a).1 = (foldP y m n b).1) then firstO (wayS x (Way.turnsI m n) a) (wayS y (Way.turnsI m n) b) else none
theorem twC_none : twC none = #[.string (bs []), .string (bs [])] := rfl

set_option maxHeartbeats 4000000 in
theorem Leaves_calls (m n : Int) (hn63 : n ≤ 9223372036854775807) (x y : List UInt8) (hx : x.length = 32) (hy : y.length = 32) (va vb : Value) (a b : List (List UInt8)) (ha : AllH a) (hb : AllH b) (hal : a.length ≤ 1000000) (hbl : b.length ≤ 1000000) (w : World) (KW : Keys w) (hSa : SlS w w.heap.size va a) (hSb : SlS w w.heap.size vb b) :
    Calls Tryd.prog 35 #[.int .i64 m, .int .i64 n, sumV x, sumV y, va, vb] w fun e w' => e = .returned (.tuple #[.agg (twC (leavesP m n x y a b)), .bool (leavesP m n x y a b).isSome]) ∧ Ext w w' := by
  obtain ⟨R, hR⟩ : ∃ R, R = leavesP m n x y a b := ⟨_, rfl⟩
  rw [← hR]
  have hpx := foldP_length x hx m n a
  have hpy := foldP_length y hy m n b
  have hok : (foldP x m n a).2 = true → Way.longI m n = (a.length : Int) := fun h => by
    unfold foldP at h
    split at h
    · assumption
    · cases h
  have hok2 : (foldP y m n b).2 = true → Way.longI m n = (b.length : Int) := fun h => by
    unfold foldP at h
    split at h
    · assumption
    · cases h
  unfold leavesP at hR
  obtain ⟨P, hP⟩ : ∃ P, P = foldP x m n a := ⟨_, rfl⟩
  obtain ⟨Q, hQ⟩ : ∃ Q, Q = foldP y m n b := ⟨_, rfl⟩
  rw [← hP] at hR hpx hok
  rw [← hQ] at hR hpy hok2
  obtain ⟨p, i⟩ := P
  obtain ⟨q, j⟩ := Q
  have hpl : p.length = 32 := hpx
  have hql : q.length = 32 := hpy
  dsimp only at hR hok hok2
  clear hpx hpy
  have HP := Lib.hid hP
  have HQ := Lib.hid hQ
  have HR := Lib.hid hR
  have HO1 := Lib.hid hok
  have HO2 := Lib.hid hok2
  clear hP hQ hR hok hok2
  have hgw := guard_sum
  have hfx := fold_sum x hx
  have hfy := fold_sum y hy
  have heq := fun w : World => eq_sum p q hpl hql w
  obtain ⟨d, hd0⟩ : ∃ d, d = decide (p = q) := ⟨_, rfl⟩
  rw [← hd0] at heq
  have HD := Lib.hid hd0
  clear hd0
  unfold sumV
  go_enter Tryd.func35, Tryd.ntmps35
  have hX : ArrB (((w.alloc (.cells (x.map byteV).toArray 23)).alloc (.cells (y.map byteV).toArray 23)).alloc (.cells #[.string (bs []), .string (bs [])] 57)) w.heap.size 23 x := Blk.alloc (Blk.alloc (Blk.new _ _ _) _) _
  have hY : ArrB (((w.alloc (.cells (x.map byteV).toArray 23)).alloc (.cells (y.map byteV).toArray 23)).alloc (.cells #[.string (bs []), .string (bs [])] 57)) (w.heap.size + 1) 23 y := by
    have := Blk.new (w.alloc (.cells (x.map byteV).toArray 23)) 23 (y.map byteV).toArray
    rw [alloc_size] at this
    exact Blk.alloc this _
  have hZ : Blk (((w.alloc (.cells (x.map byteV).toArray 23)).alloc (.cells (y.map byteV).toArray 23)).alloc (.cells #[.string (bs []), .string (bs [])] 57)) (w.heap.size + 1 + 1) 57 #[.string (bs []), .string (bs [])] := by
    have := Blk.new ((w.alloc (.cells (x.map byteV).toArray 23)).alloc (.cells (y.map byteV).toArray 23)) 57 #[.string (bs []), .string (bs [])]
    simp only [alloc_size] at this
    exact this
  have hE : Ext w (((w.alloc (.cells (x.map byteV).toArray 23)).alloc (.cells (y.map byteV).toArray 23)).alloc (.cells #[.string (bs []), .string (bs [])] 57)) := (((Ext.refl w).alloc _).alloc _).alloc _
  have hSa1 := hSa.ext hE
  have hSb1 := hSb.ext hE
  obtain ⟨Aa, ca, hva, hAa⟩ := id hSa
  obtain ⟨Ab, cb, hvb, hAb⟩ := id hSb
  subst hva
  subst hvb
  clear hAa hAb hSa hSb
  go_wp2_with (refine stop_load 23 (.tmp 8) rfl ?_)
  refine ⟨?_⟩
  change wpList _ _ _ _ _ (((w.alloc (.cells (x.map byteV).toArray 23)).alloc (.cells (y.map byteV).toArray 23)).alloc (.cells #[.string (bs []), .string (bs [])] 57))
  generalize ((w.alloc (.cells (x.map byteV).toArray 23)).alloc (.cells (y.map byteV).toArray 23)).alloc (.cells #[.string (bs []), .string (bs [])] 57) = w1 at *
  refine wpList_load_row rfl 23 (.tmp 8) rfl w.heap.size (by rfl) 23 _ (0, 0) _ hX Tryd.underlying23 rfl (size32.trans (by simp [hx])) ?_
  simp only [Act.put, List.setIfInBounds_toArray, List.set_cons_zero, List.set_cons_succ]
  go_wp2_with fail
  change Calls _ _ #[sumV x, _, _, _] _ _
  refine (Fold_sls x hx m n hn63 _ a ha hal _ (KW.ext hE) hSa1).mono ?_; rw [← HP.out]; rintro e v2 ⟨rfl, e1⟩
  replace hX := Blk.below hX e1 (Blk.lt hX)
  replace hY := Blk.below hY e1 (Blk.lt hY)
  replace hZ := Blk.below hZ e1 (Blk.lt hZ)
  replace hSa1 := hSa1.ext e1
  replace hSb1 := hSb1.ext e1
  replace hE := hE.trans e1
  clear e1
  try unfold sumV
  go_wp2_with (refine stop_store 23 (.tmp 14) (.tmp 25) rfl ?_)
  refine ⟨?_⟩
  change wpList _ _ _ _ _ (v2.alloc (.cells ((zerosB 32).map byteV).toArray 23))
  have hA0 : ArrB (v2.alloc (.cells ((zerosB 32).map byteV).toArray 23)) v2.heap.size 23 (zerosB 32) := Blk.new _ _ _
  refine wpList_store_row rfl 23 (.tmp 14) (.tmp 25) rfl v2.heap.size ((p).map byteV).toArray (by rfl) (by rfl) 23 _ hA0 (size32.trans (by simp [hpl])) (by simp [hpl, zerosB]) (by simp [byteV, Value.oneCell']) ?_
  simp only [Act.put, List.setIfInBounds_toArray, List.set_cons_zero, List.set_cons_succ]
  have hA : ArrB ((v2.alloc (.cells ((zerosB 32).map byteV).toArray 23)).setRow v2.heap.size ((p).map byteV).toArray) v2.heap.size 23 (p) := Blk.row hA0 _
  have e4 : Ext v2 ((v2.alloc (.cells ((zerosB 32).map byteV).toArray 23)).setRow v2.heap.size ((p).map byteV).toArray) := ((Ext.refl v2).alloc _).row (Nat.le_refl _) _
  clear hA0
  generalize (v2.alloc (.cells ((zerosB 32).map byteV).toArray 23)).setRow v2.heap.size ((p).map byteV).toArray = v3 at *
  have g5l := Blk.lt hA
  obtain ⟨g5, g5e⟩ : ∃ g5, g5 = v2.heap.size := ⟨_, rfl⟩
  rw [← g5e] at hA g5l
  try rw [← g5e]
  have g5b : v2.heap.size ≤ g5 := by omega
  replace hX := Blk.below hX e4 (Blk.lt hX)
  replace hY := Blk.below hY e4 (Blk.lt hY)
  replace hZ := Blk.below hZ e4 (Blk.lt hZ)
  replace hSa1 := hSa1.ext e4
  replace hSb1 := hSb1.ext e4
  replace hE := hE.trans e4
  clear e4
  clear g5e
  go_wp2_with (refine stop_load 23 (.tmp 9) rfl ?_)
  refine ⟨?_⟩
  refine wpList_load_row rfl 23 (.tmp 9) rfl (w.heap.size + 1) (by rfl) 23 _ (0, 0) _ hY Tryd.underlying23 rfl (size32.trans (by simp [hy])) ?_
  simp only [Act.put, List.setIfInBounds_toArray, List.set_cons_zero, List.set_cons_succ]
  go_wp2_with fail
  change Calls _ _ #[sumV y, _, _, _] _ _
  refine (Fold_sls y hy m n hn63 _ b hb hbl _ (KW.ext hE) hSb1).mono ?_; rw [← HQ.out]; rintro e v7 ⟨rfl, e6⟩
  replace hX := Blk.below hX e6 (Blk.lt hX)
  replace hY := Blk.below hY e6 (Blk.lt hY)
  replace hZ := Blk.below hZ e6 (Blk.lt hZ)
  replace hSa1 := hSa1.ext e6
  replace hSb1 := hSb1.ext e6
  replace hA := Blk.below hA e6 (Blk.lt hA)
  replace hE := hE.trans e6
  clear e6
  try unfold sumV
  go_wp2_with (refine stop_store 23 (.tmp 16) (.tmp 33) rfl ?_)
  refine ⟨?_⟩
  change wpList _ _ _ _ _ (v7.alloc (.cells ((zerosB 32).map byteV).toArray 23))
  have hB0 : ArrB (v7.alloc (.cells ((zerosB 32).map byteV).toArray 23)) v7.heap.size 23 (zerosB 32) := Blk.new _ _ _
  refine wpList_store_row rfl 23 (.tmp 16) (.tmp 33) rfl v7.heap.size ((q).map byteV).toArray (by rfl) (by rfl) 23 _ hB0 (size32.trans (by simp [hql])) (by simp [hql, zerosB]) (by simp [byteV, Value.oneCell']) ?_
  simp only [Act.put, List.setIfInBounds_toArray, List.set_cons_zero, List.set_cons_succ]
  have hB : ArrB ((v7.alloc (.cells ((zerosB 32).map byteV).toArray 23)).setRow v7.heap.size ((q).map byteV).toArray) v7.heap.size 23 (q) := Blk.row hB0 _
  have e9 : Ext v7 ((v7.alloc (.cells ((zerosB 32).map byteV).toArray 23)).setRow v7.heap.size ((q).map byteV).toArray) := ((Ext.refl v7).alloc _).row (Nat.le_refl _) _
  clear hB0
  generalize (v7.alloc (.cells ((zerosB 32).map byteV).toArray 23)).setRow v7.heap.size ((q).map byteV).toArray = v8 at *
  have g10l := Blk.lt hB
  obtain ⟨g10, g10e⟩ : ∃ g10, g10 = v7.heap.size := ⟨_, rfl⟩
  rw [← g10e] at hB g10l
  try rw [← g10e]
  have g10b : v7.heap.size ≤ g10 := by omega
  replace hX := Blk.below hX e9 (Blk.lt hX)
  replace hY := Blk.below hY e9 (Blk.lt hY)
  replace hZ := Blk.below hZ e9 (Blk.lt hZ)
  replace hSa1 := hSa1.ext e9
  replace hSb1 := hSb1.ext e9
  replace hA := Blk.below hA e9 (Blk.lt hA)
  replace hE := hE.trans e9
  clear e9
  clear g10e
  have z0 : v8.cell? ⟨w.heap.size + 1 + 1, 0, none⟩ = some (.string (bs [])) := Blk.cell hZ 0
  have z1 : v8.cell? ⟨w.heap.size + 1 + 1, 1, none⟩ = some (.string (bs [])) := Blk.cell hZ 1
  have f0 := Blk.frozen hZ 0
  have f1 := Blk.frozen hZ 1
  have hzl := Blk.lt hZ
  cases i
  · obtain rfl : R = none := HR.out
    go_wp2_with fail
    have hR5 := Blk.set_ (Blk.set_ hZ 0 (.string ⟨#[]⟩)) 1 (.string ⟨#[]⟩)
    refine bodyPost_ret (res_cell_t rfl _ _ (w.heap.size + 1 + 1) 57 _ _ rfl hR5 Tryd.underlying57 rfl size_twins) rfl ?_
    exact ⟨rfl, (hE.setCell (by simp; omega) _).setCell (by simp; omega) _⟩
  cases j
  · obtain rfl : R = none := HR.out
    go_wp2_with fail
    have hR5 := Blk.set_ (Blk.set_ hZ 0 (.string ⟨#[]⟩)) 1 (.string ⟨#[]⟩)
    refine bodyPost_ret (res_cell_t rfl _ _ (w.heap.size + 1 + 1) 57 _ _ rfl hR5 Tryd.underlying57 rfl size_twins) rfl ?_
    exact ⟨rfl, (hE.setCell (by simp; omega) _).setCell (by simp; omega) _⟩
  cases d
  · have hpq : ¬ p = q := of_decide_eq_false HD.out.symm
    obtain rfl : R = none := HR.out.trans (if_neg (by simp [hpq]))
    clear hpq
    go_wp2_with (refine stop_load 23 (.tmp 14) rfl ?_)
    refine ⟨?_⟩
    refine list_want (by rfl) (fun K hK => ?_)
    refine wp_load_row 23 (.tmp 14) rfl g5 (by rfl) 23 _ (0, 0) _ hA Tryd.underlying23 rfl (size32.trans (by simp [hpl])) ?_
    refine hK _ _ ?_; clear hK K
    simp only [Act.put, List.setIfInBounds_toArray, List.set_cons_zero, List.set_cons_succ]
    go_wp2_with (refine stop_load 23 (.tmp 16) rfl ?_)
    refine ⟨?_⟩
    refine list_want (by rfl) (fun K hK => ?_)
    refine wp_load_row 23 (.tmp 16) rfl g10 (by rfl) 23 _ (0, 0) _ hB Tryd.underlying23 rfl (size32.trans (by simp [hql])) ?_
    refine hK _ _ ?_; clear hK K
    simp only [Act.put, List.setIfInBounds_toArray, List.set_cons_zero, List.set_cons_succ]
    go_wp2_with fail
    have hR5 := Blk.set_ (Blk.set_ hZ 0 (.string ⟨#[]⟩)) 1 (.string ⟨#[]⟩)
    refine bodyPost_ret (res_cell_t rfl _ _ (w.heap.size + 1 + 1) 57 _ _ rfl hR5 Tryd.underlying57 rfl size_twins) rfl ?_
    exact ⟨rfl, (hE.setCell (by simp; omega) _).setCell (by simp; omega) _⟩
  have hpq : p = q := of_decide_eq_true HD.out.symm
  have hR : R = firstO (wayS x (Way.turnsI m n) a) (wayS y (Way.turnsI m n) b) := HR.out.trans (if_pos (by simp [hpq]))
  have hl1 := HO1.out rfl
  have hl2 := HO2.out rfl
  have hTa : (Way.turnsI m n).length = a.length := by have := Way.turnsI_length m n (by omega); omega
  have hTb : (Way.turnsI m n).length = b.length := by omega
  have hRl := first_flag (wayS x (Way.turnsI m n) a) (wayS y (Way.turnsI m n) b)
  rw [← hR] at hRl
  have HRR := Lib.hid hR
  have HTa := Lib.hid hTa
  have HTb := Lib.hid hTb
  clear hpq hR hl1 hl2 hTa hTb hRl
  go_wp2_with (refine stop_load 23 (.tmp 14) rfl ?_)
  refine ⟨?_⟩
  refine list_want (by rfl) (fun K hK => ?_)
  refine wp_load_row 23 (.tmp 14) rfl g5 (by rfl) 23 _ (0, 0) _ hA Tryd.underlying23 rfl (size32.trans (by simp [hpl])) ?_
  refine hK _ _ ?_; clear hK K
  simp only [Act.put, List.setIfInBounds_toArray, List.set_cons_zero, List.set_cons_succ]
  go_wp2_with (refine stop_load 23 (.tmp 16) rfl ?_)
  refine ⟨?_⟩
  refine list_want (by rfl) (fun K hK => ?_)
  refine wp_load_row 23 (.tmp 16) rfl g10 (by rfl) 23 _ (0, 0) _ hB Tryd.underlying23 rfl (size32.trans (by simp [hql])) ?_
  refine hK _ _ ?_; clear hK K
  simp only [Act.put, List.setIfInBounds_toArray, List.set_cons_zero, List.set_cons_succ]
  go_wp2_with fail
  refine (Turns_calls m n hn63 v8).mono ?_; rintro e wt ⟨vt, rfl, hO, et⟩
  obtain ⟨BT, cT, hvt, hrT, -⟩ := own_rd hO
  subst hvt
  clear hO
  replace hX := Blk.below hX et (Blk.lt hX)
  replace hY := Blk.below hY et (Blk.lt hY)
  replace hZ := Blk.below hZ et (Blk.lt hZ)
  replace hSa1 := hSa1.ext et
  replace hSb1 := hSb1.ext et
  replace hA := Blk.below hA et (Blk.lt hA)
  replace hB := Blk.below hB et (Blk.lt hB)
  replace hE := hE.trans et
  replace z0 : wt.cell? ⟨w.heap.size + 1 + 1, 0, none⟩ = some (.string (bs [])) := Blk.cell hZ 0
  replace z1 : wt.cell? ⟨w.heap.size + 1 + 1, 1, none⟩ = some (.string (bs [])) := Blk.cell hZ 1
  replace f0 := Blk.frozen hZ 0
  replace f1 := Blk.frozen hZ 1
  replace hzl := Blk.lt hZ
  clear et
  clear z0 z1 f0 f1 hzl
  obtain ⟨Aa', ca', hva, -, -, -, hra⟩ := id hSa1
  obtain ⟨Ab', cb', hvb, -, -, -, hrb⟩ := id hSb1
  injection hva with v1 v2 v3
  injection hvb with v4 v5 v6
  subst v1 v3 v4 v6
  clear v2 v5
  have hKs : ∀ z : More wt, Keys (grow wt z) := fun z => KW.ext (hE.trans (grow_ext z))
  have hras : ∀ z : More wt, Rd (grow wt z) (grow wt z).heap.size Aa (flatS a) := fun z => (hra.below (grow_ext z) (Nat.le_refl _)).more (grow_ext z).size
  have hrbs : ∀ z : More wt, Rd (grow wt z) (grow wt z).heap.size Ab (flatS b) := fun z => (hrb.below (grow_ext z) (Nat.le_refl _)).more (grow_ext z).size
  have hrTs : ∀ z : More wt, Rd (grow wt z) (grow wt z).heap.size BT ((Way.turnsI m n).map Value.bool) := fun z => (hrT.below (grow_ext z) (Nat.le_refl _)).more (grow_ext z).size
  clear hra hrb hrT
  obtain ⟨T, hT⟩ : ∃ T, T = Way.turnsI m n := ⟨_, rfl⟩
  rw [← hT] at hrTs HRR HTa HTb ⊢
  have HT := Lib.hid hT
  clear hT
  go_wp2_with fail
  refine region_mix 11 (by kernel_rfl) (by kernel_rfl) (fun y0 => ?_); simp only [List.take_succ_cons, List.take_zero, List.drop_succ_cons, List.drop_zero]
  refine mix_row (by rfl) (by rfl) 23 (.tmp 8) rfl w.heap.size (by rfl) 23 _ _ hX Tryd.underlying23 rfl (size32.trans (by simp [hx])) ?_
  simp only [Act.put, List.setIfInBounds_toArray, List.set_cons_zero, List.set_cons_succ]
  iterate 2 (first | (refine mix_quiet (by rfl) (by rfl) (fun K hK => ?_); go_big_quiet_op; refine hK _ ?_; clear hK K) | (refine mix_skip (by rfl) ?_; simp only [Act.put, List.setIfInBounds_toArray, List.set_cons_zero, List.set_cons_succ]))
  (refine mix_loud (by rfl) (by rfl) (fun K E hK => ?_); go_big_op)
  change Calls _ _ #[sumV x, _, _] _ _
  refine (way_calls x hx Aa ca a ha hal T BT cT HTa.out _ (hKs _) (hras _) (hrTs _)).mono ?_; rintro e w5 ⟨v5, rfl, hO1, hd⟩
  obtain ⟨x1, rfl⟩ := more_ext _ hd; clear hd
  refine hK _ _ ⟨_, rfl⟩ ?_; clear hK K E
  refine mix_row (by rfl) (by rfl) 23 (.tmp 9) rfl (w.heap.size + 1) (by rfl) 23 _ _ hY Tryd.underlying23 rfl (size32.trans (by simp [hy])) ?_
  simp only [Act.put, List.setIfInBounds_toArray, List.set_cons_zero, List.set_cons_succ]
  iterate 2 (first | (refine mix_quiet (by rfl) (by rfl) (fun K hK => ?_); go_big_quiet_op; refine hK _ ?_; clear hK K) | (refine mix_skip (by rfl) ?_; simp only [Act.put, List.setIfInBounds_toArray, List.set_cons_zero, List.set_cons_succ]))
  (refine mix_loud (by rfl) (by rfl) (fun K E hK => ?_); go_big_op)
  change Calls _ _ #[sumV y, _, _] _ _
  refine (way_calls y hy Ab cb b hb hbl T BT cT HTb.out _ (hKs _) (hrbs _) (hrTs _)).mono ?_; rintro e w6 ⟨v6, rfl, hO2, hd⟩
  replace hO1 := owns_ext hO1 hd
  obtain ⟨x2, rfl⟩ := more_ext _ hd; clear hd
  refine hK _ _ ⟨_, rfl⟩ ?_; clear hK K E
  obtain ⟨A5, c5, rfl, hr5⟩ := ownT_rd hO1
  obtain ⟨A6, c6, rfl, hr6⟩ := ownT_rd hO2
  clear hO1 hO2
  have hb5 : ∀ s ∈ wayS x T a, s.length ≤ 4611686018427380000 := fun s hs => by rw [wayS_bound T a x hx ha s hs]; omega
  have hb6 : ∀ s ∈ wayS y T b, s.length ≤ 4611686018427380000 := fun s hs => by rw [wayS_bound T b y hy hb s hs]; omega
  have hl5 : (wayS x T a).length ≤ 1000000 := by rw [way_len x T a HTa.out]; exact hal
  have hl6 : (wayS y T b).length ≤ 1000000 := by rw [way_len y T b HTb.out]; exact hbl
  (refine mix_loud (by rfl) (by rfl) (fun K E hK => ?_); go_big_op)
  refine (first_calls _ _ hb5 hb6 hl5 hl6 A5 A6 c5 c6 _ (hKs _) hr5 hr6).mono ?_; rw [← HRR.out]; rintro e w7 ⟨rfl, hd⟩
  obtain ⟨x3, rfl⟩ := more_ext _ hd; clear hd hr5 hr6 hb5 hb6 hl5 hl6
  refine hK _ _ ⟨_, rfl⟩ ?_; clear hK K E
  repeat (first | (refine mix_quiet (by rfl) (by rfl) (fun K hK => ?_); go_big_quiet_op; refine hK _ ?_; clear hK K) | (refine mix_skip (by rfl) ?_; simp only [Act.put, List.setIfInBounds_toArray, List.set_cons_zero, List.set_cons_succ]))
  refine mix_nil ?_
  have e9 := grow_ext x3
  clear hKs hras hrbs hrTs
  generalize grow wt x3 = w9 at *
  replace hZ := Blk.below hZ e9 (Blk.lt hZ)
  replace hE := hE.trans e9
  clear e9
  have f0 := Blk.frozen hZ 0
  have f1 := Blk.frozen hZ 1
  have z0 : w9.cell? ⟨w.heap.size + 1 + 1, 0, none⟩ = some (.string (bs [])) := Blk.cell hZ 0
  have z1 : w9.cell? ⟨w.heap.size + 1 + 1, 1, none⟩ = some (.string (bs [])) := Blk.cell hZ 1
  have hzl := Blk.lt hZ
  unfold twC
  obtain ⟨s, hs⟩ : ∃ s, s = (R.getD ([], [])).1 := ⟨_, rfl⟩
  obtain ⟨t, ht⟩ : ∃ t, t = (R.getD ([], [])).2 := ⟨_, rfl⟩
  rw [← hs, ← ht]
  have HS := Lib.hid hs
  have HTT := Lib.hid ht
  clear hs ht
  have hR5 := Blk.set_ (Blk.set_ hZ 0 (.string (bs s))) 1 (.string (bs t))
  go_wp2_with fail
  refine bodyPost_ret (res_cell_t rfl _ _ (w.heap.size + 1 + 1) 57 _ _ rfl hR5 Tryd.underlying57 rfl size_twins) rfl ?_
  exact ⟨by rw [HS.out, HTT.out]; rfl, (hE.setCell (by simp; omega) _).setCell (by simp; omega) _⟩

end Go.Proofs.YtfpipdopgepelaaDoor

namespace Go.Proofs.YtfpipdopgepelaaDoor
open Go.ChangeShapes Go.WideShapes Go.ChangeAt Go.RowKit
attribute [local go_sem] bs_size bs_toList2 bs_append bs_extract_end bs_extract_begin bs_get wrap64_b grow_cell grow_frozen

theorem few13_calls (v : Value) (l : List (List UInt8)) (hl : AllH l) (w : World) (h : SlS w w.heap.size v l) :
    Calls Tryd.prog 36 #[v] w fun e w' => ∃ v', e = .returned v' ∧ SlS w w.heap.size v' (l.take 50) ∧ w = w' := by
  have h0 := h
  obtain ⟨A, cap, rfl, hA0, hc, hc63, hr⟩ := h
  by_cases hlt : 50 < l.length
  · have hI : (50 : Int) < (l.length : Int) := by omega
    rcases hA0 with ⟨_, hl1, _⟩ | ⟨b, off, rfl⟩
    · rw [hl1] at hlt; simp at hlt
    have hcI : (50 : Int) ≤ (cap : Int) := by omega
    have hcn : 50 ≤ cap := by omega
    go_enter Tryd.func36, Tryd.ntmps36
    go_wp2_with fail
    go_ret
    exact ⟨_, rfl, sls_take hl hc hc63 hr 50 (by omega), rfl⟩
  · have hI : ¬ (50 : Int) < (l.length : Int) := by omega
    go_enter Tryd.func36, Tryd.ntmps36
    go_wp2_with fail
    go_ret
    exact ⟨_, rfl, by rw [List.take_of_length_le (by omega)]; exact h0, rfl⟩

/-- What twin.Data tells. -/
def dataP (s t : List UInt8) : Option (List UInt8 × List UInt8) := if areB (0 :: s) (0 :: t) then some (0 :: s, 0 :: t) else none

set_option maxHeartbeats 2000000 in
theorem Data_calls (s t : List UInt8) (hs : s.length ≤ 1000000) (ht : t.length ≤ 1000000) (w : World) (KW : Keys w) :
    Calls Tryd.prog 39 #[.string (bs s), .string (bs t)] w fun e w' => e = .returned (.tuple #[.agg (twC (dataP s t)), .bool (dataP s t).isSome]) ∧ Ext w w' := by
  have hs1 : ¬ (9223372036854775807 < 1 + s.length) := by omega
  have ht1 : ¬ (9223372036854775807 < 1 + t.length) := by omega
  obtain ⟨r, hr⟩ : ∃ r, r = areB (0 :: s) (0 :: t) := ⟨_, rfl⟩
  unfold dataP
  rw [← hr]
  have HR := Lib.hid hr
  clear hr
  have ha1 : (0 :: s).length ≤ 4611686018427380000 := by simp; omega
  have ha2 : (0 :: t).length ≤ 4611686018427380000 := by simp; omega
  have hc0 : (ByteArray.mk #[0]) = bs [0] := rfl
  cases r
  all_goals
    first | rw [if_pos rfl] | rw [if_neg (by simp)]
    unfold twC
    go_enter Tryd.func39, Tryd.ntmps39
    have hR0 : Blk ((w.alloc (.cells #[.string (bs []), .string (bs [])] 57)).alloc (.cells #[.string (bs (0 :: s)), .string (bs (0 :: t))] 57)) w.heap.size 57 #[.string (bs []), .string (bs [])] := Blk.alloc (Blk.new _ _ _) _
    have hF0 : Blk ((w.alloc (.cells #[.string (bs []), .string (bs [])] 57)).alloc (.cells #[.string (bs (0 :: s)), .string (bs (0 :: t))] 57)) (w.heap.size + 1) 57 #[.string (bs (0 :: s)), .string (bs (0 :: t))] := by
      have := Blk.new (w.alloc (.cells #[.string (bs []), .string (bs [])] 57)) 57 #[.string (bs (0 :: s)), .string (bs (0 :: t))]
      rw [alloc_size] at this
      exact this
    have hE0 : Ext w ((w.alloc (.cells #[.string (bs []), .string (bs [])] 57)).alloc (.cells #[.string (bs (0 :: s)), .string (bs (0 :: t))] 57)) := ((Ext.refl w).alloc _).alloc _
    go_wp2_with fail
    change Calls _ _ #[twV (0 :: s) (0 :: t)] ((w.alloc (.cells #[.string (bs []), .string (bs [])] 57)).alloc (.cells #[.string (bs (0 :: s)), .string (bs (0 :: t))] 57)) _
    generalize (w.alloc (.cells #[.string (bs []), .string (bs [])] 57)).alloc (.cells #[.string (bs (0 :: s)), .string (bs (0 :: t))] 57) = w1 at *
    refine (Are_calls (0 :: s) (0 :: t) ha1 ha2 _ (KW.ext hE0)).mono ?_; rw [← HR.out]; rintro e w2 ⟨rfl, e2⟩
    have hR2 := Blk.below hR0 e2 (Blk.lt hR0)
    have hF2 := Blk.below hF0 e2 (Blk.lt hF0)
    have hE2 := hE0.trans e2
    clear hR0 hF0 hE0 e2
    have c0 : w2.cell? ⟨w.heap.size + 1, 0, none⟩ = some (.string (bs (0 :: s))) := Blk.cell hF2 0
    have c1 : w2.cell? ⟨w.heap.size + 1, 1, none⟩ = some (.string (bs (0 :: t))) := Blk.cell hF2 1
    have z0 : w2.cell? ⟨w.heap.size, 0, none⟩ = some (.string (bs [])) := Blk.cell hR2 0
    have z1 : w2.cell? ⟨w.heap.size, 1, none⟩ = some (.string (bs [])) := Blk.cell hR2 1
    have f0 := Blk.frozen hR2 0
    have f1 := Blk.frozen hR2 1
    have hgl := Blk.lt hF2
    have hrl := Blk.lt hR2
    have hR5 := fun u v => Blk.set_ (Blk.set_ hR2 0 (.string u)) 1 (.string v)
    go_wp2_with fail
    (try simp only [Exit.inBlock, Exit.then]); refine bodyPost_ret (res_cell_t rfl _ _ w.heap.size 57 _ _ rfl (hR5 _ _) Tryd.underlying57 rfl size_twins) rfl ?_
    exact ⟨rfl, (hE2.setCell (Nat.le_refl _) _).setCell (Nat.le_refl _) _⟩

theorem l02 : Way.longI 0 2 = 1 := by decide +kernel
theorem t02 : Way.turnsI 0 2 = [false] := by decide +kernel
theorem l12 : Way.longI 1 2 = 1 := by decide +kernel
theorem t12 : Way.turnsI 1 2 = [true] := by decide +kernel
theorem t01 : Way.turnsI 0 1 = [] := by decide +kernel
theorem l01 : Way.longI 0 1 = 0 := by decide +kernel
theorem aw13a (x y : List UInt8) : wayP 0 2 x [y] = [preB x y] := by
  unfold wayP
  rw [l02, if_pos (by rfl), t02]
  rfl
theorem aw13b (x y : List UInt8) : wayP 1 2 x [y] = [preB y x] := by
  unfold wayP
  rw [l12, if_pos (by rfl), t12]
  rfl
theorem aw13c (x : List UInt8) : leavesP 0 1 x x [] [] = none := by
  have h : foldP x 0 1 [] = (x, true) := by
    have h1 : foldP x 0 1 [] = _ := if_pos l01
    rw [h1, t01, Way.foldW_nil]
  unfold leavesP
  rw [h, t01]
  simp [firstO, Way.first, Way.way]
theorem aw13d : areB [97] [98] = false := by decide +kernel

set_option maxHeartbeats 4000000 in
theorem awake13_calls (w : World) (KW : Keys w) : Calls Tryd.prog 34 #[] w fun e w' => e = .returned (.bool true) ∧ Ext w w' := by
  go_enter Tryd.func34, Tryd.ntmps34
  go_wp2_with fail
  change Calls _ _ #[.string (bs [97])] _ _
  refine (refLeaf_calls [97] (by decide) _).mono ?_; rintro e w1 ⟨rfl, hE⟩
  have ha := leafB_length [97]
  generalize leafB [97] = pa at *
  try unfold sumV
  go_wp2_with (refine stop_store 23 (.tmp 1) (.tmp 7) rfl ?_)
  refine ⟨?_⟩
  change wpList _ _ _ _ _ (w1.alloc (.cells ((zerosB 32).map byteV).toArray 23))
  have hA0 : ArrB (w1.alloc (.cells ((zerosB 32).map byteV).toArray 23)) w1.heap.size 23 (zerosB 32) := Blk.new _ _ _
  refine wpList_store_row rfl 23 (.tmp 1) (.tmp 7) rfl w1.heap.size ((pa).map byteV).toArray (by rfl) (by rfl) 23 _ hA0 (size32.trans (by simp [ha])) (by simp [ha, zerosB]) (by simp [byteV, Value.oneCell']) ?_
  simp only [Act.put, List.setIfInBounds_toArray, List.set_cons_zero, List.set_cons_succ]
  have hA : ArrB ((w1.alloc (.cells ((zerosB 32).map byteV).toArray 23)).setRow w1.heap.size ((pa).map byteV).toArray) w1.heap.size 23 (pa) := Blk.row hA0 _
  have e2 : Ext w1 ((w1.alloc (.cells ((zerosB 32).map byteV).toArray 23)).setRow w1.heap.size ((pa).map byteV).toArray) := ((Ext.refl w1).alloc _).row (Nat.le_refl _) _
  clear hA0
  generalize (w1.alloc (.cells ((zerosB 32).map byteV).toArray 23)).setRow w1.heap.size ((pa).map byteV).toArray = v1 at *
  have g3l := Blk.lt hA
  obtain ⟨g3, g3e⟩ : ∃ g3, g3 = w1.heap.size := ⟨_, rfl⟩
  rw [← g3e] at hA g3l
  try rw [← g3e]
  have g3b : w1.heap.size ≤ g3 := by omega
  replace hE := hE.trans e2
  clear e2
  clear g3e
  go_wp2_with fail
  change Calls _ _ #[.string (bs [98])] _ _
  refine (refLeaf_calls [98] (by decide) _).mono ?_; rintro e v5 ⟨rfl, e4⟩
  replace hA := Blk.below hA e4 (Blk.lt hA)
  replace hE := hE.trans e4
  clear e4
  have hb := leafB_length [98]
  generalize leafB [98] = pb at *
  try unfold sumV
  go_wp2_with (refine stop_store 23 (.tmp 2) (.tmp 8) rfl ?_)
  refine ⟨?_⟩
  change wpList _ _ _ _ _ (v5.alloc (.cells ((zerosB 32).map byteV).toArray 23))
  have hB0 : ArrB (v5.alloc (.cells ((zerosB 32).map byteV).toArray 23)) v5.heap.size 23 (zerosB 32) := Blk.new _ _ _
  refine wpList_store_row rfl 23 (.tmp 2) (.tmp 8) rfl v5.heap.size ((pb).map byteV).toArray (by rfl) (by rfl) 23 _ hB0 (size32.trans (by simp [hb])) (by simp [hb, zerosB]) (by simp [byteV, Value.oneCell']) ?_
  simp only [Act.put, List.setIfInBounds_toArray, List.set_cons_zero, List.set_cons_succ]
  have hB : ArrB ((v5.alloc (.cells ((zerosB 32).map byteV).toArray 23)).setRow v5.heap.size ((pb).map byteV).toArray) v5.heap.size 23 (pb) := Blk.row hB0 _
  have e7 : Ext v5 ((v5.alloc (.cells ((zerosB 32).map byteV).toArray 23)).setRow v5.heap.size ((pb).map byteV).toArray) := ((Ext.refl v5).alloc _).row (Nat.le_refl _) _
  clear hB0
  generalize (v5.alloc (.cells ((zerosB 32).map byteV).toArray 23)).setRow v5.heap.size ((pb).map byteV).toArray = v6 at *
  have g8l := Blk.lt hB
  obtain ⟨g8, g8e⟩ : ∃ g8, g8 = v5.heap.size := ⟨_, rfl⟩
  rw [← g8e] at hB g8l
  try rw [← g8e]
  have g8b : v5.heap.size ≤ g8 := by omega
  replace hA := Blk.below hA e7 (Blk.lt hA)
  replace hE := hE.trans e7
  clear e7
  clear g8e
  go_wp2_with (refine stop_load 23 (.tmp 1) rfl ?_)
  refine ⟨?_⟩
  refine wpList_load_row rfl 23 (.tmp 1) rfl g3 (by rfl) 23 _ (0, 0) _ hA Tryd.underlying23 rfl (size32.trans (by simp [ha])) ?_
  simp only [Act.put, List.setIfInBounds_toArray, List.set_cons_zero, List.set_cons_succ]
  go_wp2_with (refine stop_load 23 (.tmp 1) rfl ?_)
  refine ⟨?_⟩
  refine wpList_load_row rfl 23 (.tmp 1) rfl g3 (by rfl) 23 _ (0, 0) _ hA Tryd.underlying23 rfl (size32.trans (by simp [ha])) ?_
  simp only [Act.put, List.setIfInBounds_toArray, List.set_cons_zero, List.set_cons_succ]
  go_wp2_with fail
  refine (Leaves_calls 0 1 (by omega) pa pa ha ha _ _ [] [] AllH.nil AllH.nil (by simp) (by simp) v6 (KW.ext hE) (sls_nil _ _) (sls_nil _ _)).mono ?_; rw [aw13c, twC_none]; rintro e w6 ⟨rfl, e6⟩
  replace hA := Blk.below hA e6 (Blk.lt hA)
  replace hB := Blk.below hB e6 (Blk.lt hB)
  replace hE := hE.trans e6
  clear e6
  have e7 : Ext w6 (w6.alloc (.cells #[.string (bs []), .string (bs [])] 57)) := (Ext.refl w6).alloc _
  go_wp2_with (refine stop_load 23 (.tmp 1) rfl ?_)
  refine ⟨?_⟩
  change wpList _ _ _ _ _ (w6.alloc (.cells #[.string (bs []), .string (bs [])] 57))
  generalize hw7 : w6.alloc (.cells #[.string (bs []), .string (bs [])] 57) = w7 at *
  clear hw7
  replace hA := Blk.below hA e7 (Blk.lt hA)
  replace hB := Blk.below hB e7 (Blk.lt hB)
  replace hE := hE.trans e7
  clear e7
  refine wpList_load_row rfl 23 (.tmp 1) rfl g3 (by rfl) 23 _ (0, 0) _ hA Tryd.underlying23 rfl (size32.trans (by simp [ha])) ?_
  simp only [Act.put, List.setIfInBounds_toArray, List.set_cons_zero, List.set_cons_succ]
  go_wp2_with (refine stop_load 23 (.tmp 2) rfl ?_)
  refine ⟨?_⟩
  refine wpList_load_row rfl 23 (.tmp 2) rfl g8 (by rfl) 23 _ (0, 0) _ hB Tryd.underlying23 rfl (size32.trans (by simp [hb])) ?_
  simp only [Act.put, List.setIfInBounds_toArray, List.set_cons_zero, List.set_cons_succ]
  go_wp2_with (refine stop_dst 17 rfl ?_)
  refine ⟨?_⟩
  refine wpList_buildSums rfl 1 _ rfl [pb] (AllH.cons hb AllH.nil) rfl (by decide) (by decide) (by rfl) ?_
  simp only [Act.put, List.setIfInBounds_toArray, List.set_cons_zero, List.set_cons_succ]
  have e9 : Ext w7 (w7.alloc (.cells (flatS [pb]).toArray 23)) := (Ext.refl w7).alloc _
  have hL := sls_new w7 [pb] 1 rfl (by decide)
  generalize (w7.alloc (.cells (flatS [pb]).toArray 23)) = v10 at *
  replace hA := Blk.below hA e9 (Blk.lt hA)
  replace hB := Blk.below hB e9 (Blk.lt hB)
  replace hE := hE.trans e9
  clear e9
  go_wp2_with fail
  change Calls _ _ #[_, _, sumV pa, _] _ _
  refine (Way_calls 0 2 (by omega) pa ha _ [pb] (AllH.cons hb AllH.nil) (by simp) v10 (KW.ext hE) hL).mono ?_; rw [aw13a]; rintro e v12 ⟨va, rfl, vaO, e11⟩
  clear hL
  replace hA := Blk.below hA e11 (Blk.lt hA)
  replace hB := Blk.below hB e11 (Blk.lt hB)
  replace hE := hE.trans e11
  clear e11
  obtain ⟨vaA, vac, rfl, var⟩ := ownT_rd vaO
  clear vaO
  obtain ⟨vab, vao, rfl, val, vam⟩ := var (by simp)
  have vaq : v12.cell? ⟨vab, vao, none⟩ = some (.string (bs (preB pa pb))) := vam 0 _ rfl
  clear var vam
  go_wp2_with (refine stop_load 23 (.tmp 1) rfl ?_)
  refine ⟨?_⟩
  refine wpList_load_row rfl 23 (.tmp 1) rfl g3 (by rfl) 23 _ (0, 0) _ hA Tryd.underlying23 rfl (size32.trans (by simp [ha])) ?_
  simp only [Act.put, List.setIfInBounds_toArray, List.set_cons_zero, List.set_cons_succ]
  go_wp2_with (refine stop_load 23 (.tmp 2) rfl ?_)
  refine ⟨?_⟩
  refine wpList_load_row rfl 23 (.tmp 2) rfl g8 (by rfl) 23 _ (0, 0) _ hB Tryd.underlying23 rfl (size32.trans (by simp [hb])) ?_
  simp only [Act.put, List.setIfInBounds_toArray, List.set_cons_zero, List.set_cons_succ]
  go_wp2_with (refine stop_dst 21 rfl ?_)
  refine ⟨?_⟩
  refine wpList_buildSums rfl 1 _ rfl [pb] (AllH.cons hb AllH.nil) rfl (by decide) (by decide) (by rfl) ?_
  simp only [Act.put, List.setIfInBounds_toArray, List.set_cons_zero, List.set_cons_succ]
  have e13 : Ext v12 (v12.alloc (.cells (flatS [pb]).toArray 23)) := (Ext.refl v12).alloc _
  have hL := sls_new v12 [pb] 1 rfl (by decide)
  generalize (v12.alloc (.cells (flatS [pb]).toArray 23)) = v14 at *
  replace hA := Blk.below hA e13 (Blk.lt hA)
  replace hB := Blk.below hB e13 (Blk.lt hB)
  replace vaq := ((ext_cells e13).1 vab _ val).trans vaq
  replace val := Nat.lt_of_lt_of_le val e13.size
  replace hE := hE.trans e13
  clear e13
  go_wp2_with fail
  change Calls _ _ #[_, _, sumV pa, _] _ _
  refine (Way_calls 1 2 (by omega) pa ha _ [pb] (AllH.cons hb AllH.nil) (by simp) v14 (KW.ext hE) hL).mono ?_; rw [aw13b]; rintro e v16 ⟨vb, rfl, vbO, e15⟩
  clear hL
  replace hA := Blk.below hA e15 (Blk.lt hA)
  replace hB := Blk.below hB e15 (Blk.lt hB)
  replace vaq := ((ext_cells e15).1 vab _ val).trans vaq
  replace val := Nat.lt_of_lt_of_le val e15.size
  replace hE := hE.trans e15
  clear e15
  obtain ⟨vbA, vbc, rfl, vbr⟩ := ownT_rd vbO
  clear vbO
  obtain ⟨vbb, vbo, rfl, vbl, vbm⟩ := vbr (by simp)
  have vbq : v16.cell? ⟨vbb, vbo, none⟩ = some (.string (bs (preB pb pa))) := vbm 0 _ rfl
  clear vbr vbm
  have hKs : ∀ z : More v16, Keys (grow v16 z) := fun z => KW.ext (hE.trans (grow_ext z))
  have p1 : ([preB pa pb].length : Int) = 1 := rfl
  have p2 : ([preB pb pa].length : Int) = 1 := rfl
  have hs1 := areB_same [97]
  have HS1 := Lib.hid hs1
  clear hs1
  go_wp2_with fail
  refine region_mix0 (by kernel_rfl) (by kernel_rfl) (fun y0 => ?_)
  iterate 12 (first | (refine mix_quiet (by rfl) (by rfl) (fun K hK => ?_); go_big_quiet_op; refine hK _ ?_; clear hK K) | (refine mix_skip (by rfl) ?_; simp only [Act.put, List.setIfInBounds_toArray, List.set_cons_zero, List.set_cons_succ]))
  refine mix_row (by rfl) (by rfl) 23 (.tmp 1) rfl g3 (by rfl) 23 _ _ hA Tryd.underlying23 rfl (size32.trans (by simp [ha])) ?_
  simp only [Act.put, List.setIfInBounds_toArray, List.set_cons_zero, List.set_cons_succ]
  refine mix_row (by rfl) (by rfl) 23 (.tmp 2) rfl g8 (by rfl) 23 _ _ hB Tryd.underlying23 rfl (size32.trans (by simp [hb])) ?_
  simp only [Act.put, List.setIfInBounds_toArray, List.set_cons_zero, List.set_cons_succ]
  (refine mix_loud (by rfl) (by rfl) (fun K E hK => ?_); go_big_op)
  change Calls _ _ #[sumV pa, sumV pb] _ _
  refine (refPreimage_calls pa pb ha hb _).mono ?_; rintro e w5 ⟨rfl, hd⟩
  obtain ⟨x', rfl⟩ := more_ext _ hd; clear hd
  refine hK _ _ ⟨_, rfl⟩ ?_; clear hK K E
  iterate 6 (first | (refine mix_quiet (by rfl) (by rfl) (fun K hK => ?_); go_big_quiet_op; refine hK _ ?_; clear hK K) | (refine mix_skip (by rfl) ?_; simp only [Act.put, List.setIfInBounds_toArray, List.set_cons_zero, List.set_cons_succ]))
  refine mix_row (by rfl) (by rfl) 23 (.tmp 2) rfl g8 (by rfl) 23 _ _ hB Tryd.underlying23 rfl (size32.trans (by simp [hb])) ?_
  simp only [Act.put, List.setIfInBounds_toArray, List.set_cons_zero, List.set_cons_succ]
  refine mix_row (by rfl) (by rfl) 23 (.tmp 1) rfl g3 (by rfl) 23 _ _ hA Tryd.underlying23 rfl (size32.trans (by simp [ha])) ?_
  simp only [Act.put, List.setIfInBounds_toArray, List.set_cons_zero, List.set_cons_succ]
  (refine mix_loud (by rfl) (by rfl) (fun K E hK => ?_); go_big_op)
  change Calls _ _ #[sumV pb, sumV pa] _ _
  refine (refPreimage_calls pb pa hb ha _).mono ?_; rintro e w5 ⟨rfl, hd⟩
  obtain ⟨x', rfl⟩ := more_ext _ hd; clear hd
  refine hK _ _ ⟨_, rfl⟩ ?_; clear hK K E
  iterate 8 (first | (refine mix_quiet (by rfl) (by rfl) (fun K hK => ?_); go_big_quiet_op; refine hK _ ?_; clear hK K) | (refine mix_skip (by rfl) ?_; simp only [Act.put, List.setIfInBounds_toArray, List.set_cons_zero, List.set_cons_succ]))
  (refine mix_loud (by rfl) (by rfl) (fun K E hK => ?_); go_big_op)
  change Calls _ _ #[twV [97] [97]] _ _
  refine (Are_calls [97] [97] (by decide) (by decide) _ (hKs _)).mono ?_; rw [HS1.out]; rintro e w5 ⟨rfl, hd⟩
  obtain ⟨x', rfl⟩ := more_ext _ hd; clear hd
  refine hK _ _ ⟨_, rfl⟩ ?_; clear hK K E
  iterate 4 (first | (refine mix_quiet (by rfl) (by rfl) (fun K hK => ?_); go_big_quiet_op; refine hK _ ?_; clear hK K) | (refine mix_skip (by rfl) ?_; simp only [Act.put, List.setIfInBounds_toArray, List.set_cons_zero, List.set_cons_succ]))
  (refine mix_loud (by rfl) (by rfl) (fun K E hK => ?_); go_big_op)
  change Calls _ _ #[twV [97] [98]] _ _
  refine (Are_calls [97] [98] (by decide) (by decide) _ (hKs _)).mono ?_; rw [aw13d]; rintro e w5 ⟨rfl, hd⟩
  obtain ⟨x', rfl⟩ := more_ext _ hd; clear hd
  refine hK _ _ ⟨_, rfl⟩ ?_; clear hK K E
  repeat (first | (refine mix_quiet (by rfl) (by rfl) (fun K hK => ?_); go_big_quiet_op; refine hK _ ?_; clear hK K) | (refine mix_skip (by rfl) ?_; simp only [Act.put, List.setIfInBounds_toArray, List.set_cons_zero, List.set_cons_succ]))
  refine mix_nil ?_
  have hE9 := hE.trans (grow_ext x')
  go_wp2_with fail
  go_ret
  exact ⟨rfl, hE9⟩

end Go.Proofs.YtfpipdopgepelaaDoor

namespace Go.Proofs.YtfpipdopgepelaaDoor
open Go.ChangeShapes Go.WideShapes Go.ChangeAt Go.RowKit
attribute [local go_sem] bs_size bs_toList2 bs_append bs_extract_end bs_extract_begin bs_get wrap64_b grow_cell grow_frozen

theorem blk_mid {w : World} {g : Nat} {t : TypeId} {l : List (List UInt8)} (h : Blk w g t (flatS l).toArray) (hl : AllH l) (k : Nat) (hk : k < l.length) : w.rangeAt g (k * 32) (hcells l[k]) := fun j v hv => by
  rw [Blk.cell h]
  have := flatS_get l hl k hk j v hv
  simpa using this
theorem pre_inj {a b c d : List UInt8} (ha : a.length = 32) (hc : c.length = 32) (h : preB a b = preB c d) : a = c ∧ b = d := by
  unfold preB at h
  injection h with _ h
  exact List.append_inj h (by omega)
theorem twC_some (a b : List UInt8) : twC (some (a, b)) = #[.string (bs a), .string (bs b)] := rfl
theorem first_same (l : List (List UInt8)) : firstO l l = none := by
  unfold firstO Way.first
  rw [List.find?_eq_none]
  rintro ⟨a, b⟩ h
  have : a = b := by
    rw [List.zip_eq_zipWith] at h
    simp only [List.zipWith_self, List.mem_map] at h
    obtain ⟨c, _, h⟩ := h
    injection h with h1 h2
    exact h1.symm.trans h2
  subst this
  simp [Way.twinB]
/-- Two unlike ways that come to one hash have twins. -/
theorem meet32 : ∀ (ts : List Bool) (hs gs : List (List UInt8)) (x y : List UInt8), x.length = 32 → y.length = 32 → AllH hs → AllH gs → ts.length = hs.length → ts.length = gs.length →
    Way.foldW nodeB x ts hs = Way.foldW nodeB y ts gs → (x ≠ y ∨ hs ≠ gs) → (firstO (wayS x ts hs) (wayS y ts gs)).isSome = true
  | [], [], [], x, y, _, _, _, _, _, _, hf, hne => by
    rcases hne with h | h
    · exact absurd hf h
    · exact absurd rfl h
  | [], _ :: _, _, x, y, _, _, _, _, h1, _, _, _ => by simp at h1
  | [], [], _ :: _, x, y, _, _, _, _, _, h2, _, _ => by simp at h2
  | _ :: _, [], _, x, y, _, _, _, _, h1, _, _, _ => by simp at h1
  | _ :: _, _ :: _, [], x, y, _, _, _, _, _, h2, _, _ => by simp at h2
  | t :: ts, h :: hs, g :: gs, x, y, hx, hy, hh, hg, h1, h2, hf, hne => by
    have h32 : h.length = 32 := hh _ (by simp)
    have g32 : g.length = 32 := hg _ (by simp)
    rw [Way.foldW_cons, Way.foldW_cons] at hf
    have e1 : ∀ a b : List UInt8, (if t then nodeB b a else nodeB a b) = shaOf (if t then preB b a else preB a b) := fun a b => by cases t <;> rfl
    rw [e1, e1] at hf
    have w1 : wayS x (t :: ts) (h :: hs) = (if t then preB h x else preB x h) :: wayS (shaOf (if t then preB h x else preB x h)) ts hs := rfl
    have w2 : wayS y (t :: ts) (g :: gs) = (if t then preB g y else preB y g) :: wayS (shaOf (if t then preB g y else preB y g)) ts gs := rfl
    rw [w1, w2]
    generalize hs0 : (if t then preB h x else preB x h) = s at *
    generalize hu0 : (if t then preB g y else preB y g) = u at *
    have hstep : firstO (s :: wayS (shaOf s) ts hs) (u :: wayS (shaOf u) ts gs) = if areB s u then some (s, u) else firstO (wayS (shaOf s) ts hs) (wayS (shaOf u) ts gs) :=
      first_step (s :: wayS (shaOf s) ts hs) (u :: wayS (shaOf u) ts gs) 0 (by simp) (by simp)
    rw [hstep]
    by_cases hsu : s = u
    · have hxy : x = y ∧ h = g := by
        rw [← hs0, ← hu0] at hsu
        split at hsu
        · exact (pre_inj h32 g32 hsu).symm
        · exact pre_inj hx hy hsu
      obtain ⟨rfl, rfl⟩ := hxy
      have hne2 : hs ≠ gs := by
        rcases hne with h' | h'
        · exact absurd rfl h'
        · exact fun e => h' (by rw [e])
      subst hsu
      rw [areB_same]
      exact meet32 ts hs gs _ _ (shaOf_length _) (shaOf_length _) hh.tail hg.tail (by simpa using h1) (by simpa using h2) hf (.inr hne2)
    · by_cases hc : shaOf s = shaOf u
      · have : areB s u = true := by
          unfold areB
          have : (s == u) = false := by rw [beq_eq_false_iff_ne]; exact hsu
          rw [this, hc]
          simp
        rw [this]
        rfl
      · have : areB s u = false := by unfold areB; simp [hc]
        rw [this]
        exact meet32 ts hs gs _ _ (shaOf_length _) (shaOf_length _) hh.tail hg.tail (by simpa using h1) (by simpa using h2) hf (.inl hc)
theorem first_facts {a b : List (List UInt8)} (h : (firstO a b).isSome = true) (n : Nat) (ha : ∀ s ∈ a, s.length = n) (hb : ∀ s ∈ b, s.length = n) : ∃ p q, firstO a b = some (p, q) ∧ p ≠ q ∧ shaOf p = shaOf q ∧ p.length = n ∧ q.length = n := by
  cases hf : firstO a b with
  | none => rw [hf] at h; cases h
  | some pq =>
    obtain ⟨p, q⟩ := pq
    obtain ⟨h1, h2⟩ := Way.first_some shaOf hf
    exact ⟨p, q, rfl, h1, h2, ha _ (first_mem hf).1, hb _ (first_mem hf).2⟩

set_option maxHeartbeats 2000000 in
theorem refFold_none' (r : List UInt8) (hr : r.length = 32) (m n : Int) (A : Option Addr) (cap : Nat) (l : List (List UInt8)) (hl : AllH l) (hll : l.length ≤ 9223372036854775807) (w : World) (hrd : Rd w w.heap.size A (flatS l))
    (hlg : Way.longI m n ≠ (l.length : Int)) : Calls Tryd.prog 19 #[sumV r, .int .i64 m, .int .i64 n, .slice A l.length cap] w fun e w' => e = .returned (.tuple #[sumV (zerosB 32), .bool false]) ∧ Ext w w' := by
  have hfold := fold_sum r hr
  unfold sumV
  go_enter Tryd.func19, Tryd.ntmps19
  go_wp2_with fail
  have hX0 : ArrB ((w.alloc (.cells (r.map byteV).toArray 23)).alloc (.cells ((zerosB 32).map byteV).toArray 23)) w.heap.size 23 r := Blk.alloc (Blk.new _ _ _) _
  have hZ0 : ArrB ((w.alloc (.cells (r.map byteV).toArray 23)).alloc (.cells ((zerosB 32).map byteV).toArray 23)) (w.heap.size + 1) 23 (zerosB 32) := by
    have := Blk.new (w.alloc (.cells (r.map byteV).toArray 23)) 23 ((zerosB 32).map byteV).toArray
    rw [alloc_size] at this
    exact this
  have hE0 : Ext w ((w.alloc (.cells (r.map byteV).toArray 23)).alloc (.cells ((zerosB 32).map byteV).toArray 23)) := ((Ext.refl w).alloc _).alloc _
  change Calls _ _ _ ((w.alloc (.cells (r.map byteV).toArray 23)).alloc (.cells ((zerosB 32).map byteV).toArray 23)) _
  generalize (w.alloc (.cells (r.map byteV).toArray 23)).alloc (.cells ((zerosB 32).map byteV).toArray 23) = w1 at *
  refine (refLong_calls m n _).mono ?_; rintro e w2 ⟨rfl, e2⟩
  have hX2 := Blk.below hX0 e2 (Blk.lt hX0)
  have hZ2 := Blk.below hZ0 e2 (Blk.lt hZ0)
  have hE2 := hE0.trans e2
  have hxl := Blk.lt hX0
  have hzl := Blk.lt hZ0
  have hs1 := hE0.size
  have hs2 := e2.size
  clear hX0 hZ0 hE0 e2
  have dl : (Way.longI m n != (l.length : Int)) = true := by simpa using hlg
  generalize Way.longI m n = L at *
  have hzz : (zerosB 32).length = 32 := rfl
  go_wp2_with (refine stop_store 23 (.tmp 8) (.tmp 18) rfl ?_)
  refine ⟨?_⟩
  refine wpList_store_row rfl 23 (.tmp 8) (.tmp 18) rfl (w.heap.size + 1) ((zerosB 32).map byteV).toArray (by rfl) (by rfl) 23 _ hZ2 (size32.trans (by simp [hzz])) (by simp [hzz, hzz]) (by simp [byteV, Value.oneCell']) ?_
  simp only [Act.put, List.setIfInBounds_toArray, List.set_cons_zero, List.set_cons_succ]
  have hR6 : ArrB (w2.setRow (w.heap.size + 1) ((zerosB 32).map byteV).toArray) (w.heap.size + 1) 23 (zerosB 32) := Blk.row hZ2 _
  have hR6u : Upd (w.heap.size + 1) w2 (w2.setRow (w.heap.size + 1) ((zerosB 32).map byteV).toArray) := (Upd.refl _ _).row _
  generalize w2.setRow (w.heap.size + 1) ((zerosB 32).map byteV).toArray = w6 at *
  go_wp2_with fail
  (try simp only [Exit.inBlock, Exit.then]); refine bodyPost_ret (res_cell_t rfl _ _ (w.heap.size + 1) 23 _ _ rfl hR6 Tryd.underlying23 rfl (size32.trans (by simp [hzz]))) rfl ?_
  have hk6 : Keep (fun k => k < w.heap.size) w w6 := (Keep.of_ext hE2).trans (Keep.of_upd hR6u (fun h => absurd h (by omega)))
  exact ⟨rfl, hk6.ext⟩

theorem long_le (m n : Int) (h : n ≤ 1000000) : Way.longI m n ≤ 1000000 := by
  unfold Way.longI
  split
  · omega
  · have := Way.down_length false n.toNat m.toNat
    omega
theorem fold_len (r : List UInt8) (m n : Int) (l : List (List UInt8)) (hn : n ≤ 1000000) (h : (foldP r m n l).2 = true) : l.length ≤ 1000000 := by
  have := long_le m n hn
  unfold foldP at h
  split at h
  · omega
  · cases h
theorem refFold_any (r : List UInt8) (hr : r.length = 32) (m n : Int) (hn : n ≤ 1000000) (v : Value) (l : List (List UInt8)) (hl : AllH l) (w : World) (h : SlS w w.heap.size v l) :
    Calls Tryd.prog 19 #[sumV r, .int .i64 m, .int .i64 n, v] w fun e w' => e = .returned (.tuple #[sumV (foldP r m n l).1, .bool (foldP r m n l).2]) ∧ Ext w w' := by
  obtain ⟨A, cap, rfl, hA0, hc, hc63, hr'⟩ := h
  by_cases hlg : Way.longI m n = (l.length : Int)
  · have := long_le m n hn
    exact refFold_calls r hr m n A cap l hl (by omega) w hr'
  · rw [show foldP r m n l = _ from if_neg hlg]
    exact refFold_none' r hr m n A cap l hl (by omega) w hr' hlg

end Go.Proofs.YtfpipdopgepelaaDoor

namespace Go.Proofs.YtfpipdopgepelaaDoor
open Go.ChangeShapes Go.WideShapes Go.ChangeAt Go.RowKit
attribute [local go_sem] bs_size bs_toList2 bs_append bs_extract_end bs_extract_begin bs_get wrap64_b grow_cell grow_frozen

set_option maxHeartbeats 4000000 in
theorem refway_calls (m n : Int) (z0 : List UInt8) (hz0 : z0.length = 32) (A : Option Addr) (cap : Nat) (l : List (List UInt8)) (hl : AllH l) (hll : l.length ≤ 1000000) (hlg : Way.longI m n = (l.length : Int)) (w : World) (hrd : Rd w w.heap.size A (flatS l)) :
    Calls Tryd.prog 63 #[.int .i64 m, .int .i64 n, sumV z0, .slice A l.length cap] w fun e w' => ∃ v, e = .returned v ∧ OwnT w' w.heap.size v (wayS z0 (Way.turnsI m n) l) ∧ Ext w w' := by
  have hT0 : (Way.turnsI m n).length = l.length := by have := Way.turnsI_length m n (by omega); omega
  obtain ⟨T, hT⟩ : ∃ T, T = Way.turnsI m n := ⟨_, rfl⟩
  rw [← hT] at hT0 ⊢
  have HT := Lib.hid hT
  have hwl := way_len z0 T l hT0
  have hfull : wayS z0 (T.take l.length) (l.take l.length) = wayS z0 T l := by rw [← hT0, List.take_length, hT0, List.take_length]
  obtain ⟨Y, hY⟩ : ∃ Y, Y = wayS z0 T l := ⟨_, rfl⟩
  rw [← hY] at hwl hfull ⊢
  have HY := Lib.hid hfull
  have Hwl := Lib.hid hwl
  have HTl := Lib.hid hT0
  clear hY hwl hfull hT0 hT hlg
  have hfold := fold_sum z0 hz0
  unfold sumV
  go_enter Tryd.func63, Tryd.ntmps63
  have hX0 : ArrB (w.alloc (.cells (z0.map byteV).toArray 23)) w.heap.size 23 z0 := Blk.new _ _ _
  have hE0 : Ext w (w.alloc (.cells (z0.map byteV).toArray 23)) := (Ext.refl w).alloc _
  have hs0 : (w.alloc (.cells (z0.map byteV).toArray 23)).heap.size = w.heap.size + 1 := alloc_size _ _
  go_wp2_with fail
  change Calls _ _ _ (w.alloc (.cells (z0.map byteV).toArray 23)) _
  generalize (w.alloc (.cells (z0.map byteV).toArray 23)) = w1 at *
  refine (refTurns_calls m n _).mono ?_; rw [← HT.out]; rintro e w3 ⟨v, rfl, hO, e3⟩
  obtain ⟨B, c, rfl, hrT, -, -, hBb⟩ := own_rd hO
  have hX3 := Blk.below hX0 e3 (Blk.lt hX0)
  have hE3 : Keep (fun k => k < w.heap.size) w w3 := Keep.of_ext (hE0.trans e3)
  have hs3 := e3.size
  clear hX0 hE0 e3 hO
  go_wp2_with fail
  go_loopw [10, 11] (fun so si wr => ∃ (k : Nat) (v : Value), k ≤ l.length ∧ si = .int .i64 (k : Int) ∧ so = v ∧ ArrB wr w.heap.size 23 (Way.foldW nodeB z0 (T.take k) (l.take k)) ∧ wr.ownsRow w3.heap.size 9 1 v k ((wayS z0 (T.take k) (l.take k)).map strV) ∧ w3.heap.size ≤ wr.heap.size ∧ Keep (fun k => k < w3.heap.size ∧ k ≠ w.heap.size) w3 wr) (fun _ si _ => l.length - (intOf si).toNat)
  case atStart => exact ⟨0, _, Nat.zero_le _, rfl, rfl, by rw [List.take_zero, Way.foldW_nil]; exact hX3, by rw [List.take_zero]; exact World.ownsRow_nil _ _ _ _, Nat.le_refl _, Keep.refl _ _⟩
  case round =>
    obtain ⟨wo, rfl⟩ : ∃ wo : World, wo = wr := ⟨_, rfl⟩
    obtain ⟨k, v, hk, rfl, rfl, hX, hO, hzz, hKp⟩ := hrel
    by_cases hlt : k < l.length
    · have hlI : (k : Int) < (l.length : Int) := by omega
      have hkT : k < T.length := by rw [HTl.out]; exact hlt
      have hTI : (k : Int) < (T.length : Int) := by omega
      obtain ⟨b3, o3, rfl, hb3, hcT⟩ := hrT (map_ne Value.bool hkT)
      have hbb3 := hBb b3 o3 rfl
      have cT0 : w3.cell? ⟨b3, o3 + k, none⟩ = some (.bool T[k]) := hcT k (.bool T[k]) (by simp [hkT])
      obtain ⟨b, off, rfl, hbl, hm0⟩ := rds_mid hrd hl hlt
      have hb3w : b < w3.heap.size := Nat.lt_of_lt_of_le hbl hE3.size
      have hm3 : w3.rangeAt b (off + k * 32) (hcells l[k]) := fun i u hu => (World.cell?_of_block (hE3.block b hbl hbl)).trans (hm0 i u hu)
      have hq : l[k].length = 32 := hl _ (List.getElem_mem hlt)
      have hfl := foldW_length (T.take k) (l.take k) z0 hz0
      have hwt := way_take z0 T l k hkT hlt
      have hft := foldW_take z0 T l k hkT hlt
      rw [turn_sha] at hft
      have hpl : (wayS z0 (T.take k) (l.take k)).length = k := by rw [way_len _ _ _ (by rw [List.length_take, List.length_take]; omega), List.length_take]; omega
      generalize l[k] = q at *
      generalize T[k] = tk at *
      generalize Way.foldW nodeB z0 (T.take k) (l.take k) = z at *
      generalize wayS z0 (T.take k) (l.take k) = out at *
      have Hwt := Lib.hid hwt
      have Hft := Lib.hid hft
      have Hpl := Lib.hid hpl
      clear hwt hft hcT hpl hm0
      have cT1 : wo.cell? ⟨b3, o3 + k, none⟩ = some (.bool tk) := (World.cell?_of_block (hKp.block b3 (by omega) ⟨by omega, by omega⟩)).trans cT0
      have hm : wo.rangeAt b (off + k * 32) (hcells q) := fun i u hu => (World.cell?_of_block (hKp.block b (by omega) ⟨by omega, by omega⟩)).trans (hm3 i u hu)
      have hbo : b < wo.heap.size := by have := hKp.size; omega
      have hb3o : b3 < wo.heap.size := by have := hKp.size; omega
      cases tk
      · skip
        go_wp2_with fail
        refine region_mix0 (by kernel_rfl) (by kernel_rfl) (fun y0 => ?_)
        refine mix_row (by rfl) (by rfl) 23 (.tmp 6) rfl w.heap.size (by rfl) 23 _ _ hX Tryd.underlying23 rfl (size32.trans (by simp [hfl])) ?_
        simp only [Act.put, List.setIfInBounds_toArray, List.set_cons_zero, List.set_cons_succ]
        iterate 3 (first | (refine mix_quiet (by rfl) (by rfl) (fun K hK => ?_); go_big_quiet_op; refine hK _ ?_; clear hK K) | (refine mix_skip (by rfl) ?_; simp only [Act.put, List.setIfInBounds_toArray, List.set_cons_zero, List.set_cons_succ]))
        refine mix_mid (by rfl) (by rfl) 23 (.tmp 25) rfl b (off + k * 32) (by rfl) _ _ hm hbo Tryd.underlying23 rfl (size32l _ hq) ?_
        simp only [Act.put, List.setIfInBounds_toArray, List.set_cons_zero, List.set_cons_succ]
        unfold hcells
        (refine mix_loud (by rfl) (by rfl) (fun K E hK => ?_); go_big_op)
        change Calls _ _ #[sumV z, sumV q] _ _
        refine (refPreimage_calls z q hfl hq _).mono ?_; rintro e w5 ⟨rfl, hd⟩
        obtain ⟨x', rfl⟩ := more_ext _ hd; clear hd
        refine hK _ _ ⟨_, rfl⟩ ?_; clear hK K E
        repeat (first | (refine mix_quiet (by rfl) (by rfl) (fun K hK => ?_); go_big_quiet_op; refine hK _ ?_; clear hK K) | (refine mix_skip (by rfl) ?_; simp only [Act.put, List.setIfInBounds_toArray, List.set_cons_zero, List.set_cons_succ]))
        refine mix_nil ?_
        have e2 := grow_ext x'
        generalize grow wo x' = v1 at *
        replace hX := Blk.below hX e2 (Blk.lt hX)
        replace hO := owns_ext hO e2
        replace hKp := hKp.trans (Keep.of_ext e2)
        replace hzz := Nat.le_trans hzz e2.size
        replace cT1 : v1.cell? ⟨b3, o3 + k, none⟩ = some (.bool false) := (World.cell?_of_block (hKp.block b3 (by omega) ⟨by omega, by omega⟩)).trans cT0
        replace hm : v1.rangeAt b (off + k * 32) (hcells q) := fun i u hu => (World.cell?_of_block (hKp.block b (by omega) ⟨by omega, by omega⟩)).trans (hm3 i u hu)
        replace hbo : b < v1.heap.size := by have := hKp.size; omega
        replace hb3o : b3 < v1.heap.size := by have := hKp.size; omega
        clear e2
        have hsl : (preB z q).length = 65 := by rw [preB_length]; omega
        have hw2 : wayS z0 (T.take (k + 1)) (l.take (k + 1)) = out ++ [preB z q] := Hwt.out
        have hf2 : Way.foldW nodeB z0 (T.take (k + 1)) (l.take (k + 1)) = shaOf (preB z q) := Hft.out
        have Hw2 := Lib.hid hw2
        have Hf2 := Lib.hid hf2
        clear Hwt Hft hw2 hf2
        generalize preB z q = s at *
        go_wp2_with (refine stop_dst 41 rfl ?_)
        refine ⟨?_⟩
        change wpList _ _ _ _ _ (v1.alloc (.cells #[.string (bs s)] 9))
        refine append_strK rfl (.tmp 38) (.tmp 40) rfl _ out s rfl rfl (by rw [Hpl.out]; omega) w3.heap.size hzz k Hpl.out hO fun A5 c5 w5 hO5 hk5 => ?_
        simp only [Act.put, List.setIfInBounds_toArray, List.set_cons_zero, List.set_cons_succ]
        replace hKp := hKp.trans (hk5.mono (fun k' _ h' => fun he => by have := (hO.lt k' he.symm).1; omega))
        replace hX := Blk.kept hX hk5 (fun he => by have := (hO.lt _ he.symm).1; omega)
        replace hzz := Nat.le_trans hzz hk5.size
        clear hk5 hO cT1 hm hbo hb3o cT0 hm3
        rw [← Hw2.out] at hO5
        go_wp2_with fail
        refine (refOf_calls s _ (by omega)).mono ?_; rintro e w6 ⟨rfl, e6⟩
        replace hX := Blk.below hX e6 (Blk.lt hX)
        replace hO5 := owns_ext hO5 e6
        replace hKp := hKp.trans (Keep.of_ext e6)
        replace hzz := Nat.le_trans hzz e6.size
        clear e6
        have hs32 := shaOf_length s
        unfold sumV
        go_wp2_with (refine stop_store 23 (.tmp 6) (.tmp 43) rfl ?_)
        refine ⟨?_⟩
        refine wpList_store_row rfl 23 (.tmp 6) (.tmp 43) rfl w.heap.size ((shaOf s).map byteV).toArray (by rfl) (by rfl) 23 _ hX (size32.trans (by simp [hs32])) (by simp [hs32, hfl]) (by simp [byteV, Value.oneCell']) ?_
        simp only [Act.put, List.setIfInBounds_toArray, List.set_cons_zero, List.set_cons_succ]
        have hX7 : ArrB (w6.setRow w.heap.size ((shaOf s).map byteV).toArray) w.heap.size 23 (shaOf s) := Blk.row hX _
        have hX7u : Upd w.heap.size w6 (w6.setRow w.heap.size ((shaOf s).map byteV).toArray) := (Upd.refl _ _).row _
        generalize w6.setRow w.heap.size ((shaOf s).map byteV).toArray = w7 at *
        have hO7 := ownT_far (g := w.heap.size) hO5 (Keep.of_upd hX7u (fun h => h rfl)) (by omega)
        have hKp7 := hKp.trans (Keep.of_upd hX7u (fun h => h.2 rfl))
        have hz7 : w3.heap.size ≤ w7.heap.size := Nat.le_trans hzz hX7u.size
        rw [← Hf2.out] at hX7
        clear hX hO5 hKp hX7u
        go_wp2_with fail
        go_roundw
        case rel =>
          first
            | exact ⟨k + 1, _, by omega, by go_num, rfl, hX7, hO7, hz7, hKp7⟩
            | (repeat apply Exists.intro
               refine ⟨?_, rfl⟩
               exact ⟨k + 1, _, by omega, by go_num, rfl, hX7, hO7, hz7, hKp7⟩)
        case measure => simp [intOf]; omega
      · skip
        go_wp2_with fail
        refine region_mix0 (by kernel_rfl) (by kernel_rfl) (fun y0 => ?_)
        refine mix_row (by rfl) (by rfl) 23 (.tmp 6) rfl w.heap.size (by rfl) 23 _ _ hX Tryd.underlying23 rfl (size32.trans (by simp [hfl])) ?_
        simp only [Act.put, List.setIfInBounds_toArray, List.set_cons_zero, List.set_cons_succ]
        iterate 3 (first | (refine mix_quiet (by rfl) (by rfl) (fun K hK => ?_); go_big_quiet_op; refine hK _ ?_; clear hK K) | (refine mix_skip (by rfl) ?_; simp only [Act.put, List.setIfInBounds_toArray, List.set_cons_zero, List.set_cons_succ]))
        refine mix_mid (by rfl) (by rfl) 23 (.tmp 25) rfl b (off + k * 32) (by rfl) _ _ hm hbo Tryd.underlying23 rfl (size32l _ hq) ?_
        simp only [Act.put, List.setIfInBounds_toArray, List.set_cons_zero, List.set_cons_succ]
        unfold hcells
        (refine mix_loud (by rfl) (by rfl) (fun K E hK => ?_); go_big_op)
        change Calls _ _ #[sumV z, sumV q] _ _
        refine (refPreimage_calls z q hfl hq _).mono ?_; rintro e w5 ⟨rfl, hd⟩
        obtain ⟨x', rfl⟩ := more_ext _ hd; clear hd
        refine hK _ _ ⟨_, rfl⟩ ?_; clear hK K E
        repeat (first | (refine mix_quiet (by rfl) (by rfl) (fun K hK => ?_); go_big_quiet_op; refine hK _ ?_; clear hK K) | (refine mix_skip (by rfl) ?_; simp only [Act.put, List.setIfInBounds_toArray, List.set_cons_zero, List.set_cons_succ]))
        refine mix_nil ?_
        have e2 := grow_ext x'
        generalize grow wo x' = v1 at *
        replace hX := Blk.below hX e2 (Blk.lt hX)
        replace hO := owns_ext hO e2
        replace hKp := hKp.trans (Keep.of_ext e2)
        replace hzz := Nat.le_trans hzz e2.size
        replace cT1 : v1.cell? ⟨b3, o3 + k, none⟩ = some (.bool true) := (World.cell?_of_block (hKp.block b3 (by omega) ⟨by omega, by omega⟩)).trans cT0
        replace hm : v1.rangeAt b (off + k * 32) (hcells q) := fun i u hu => (World.cell?_of_block (hKp.block b (by omega) ⟨by omega, by omega⟩)).trans (hm3 i u hu)
        replace hbo : b < v1.heap.size := by have := hKp.size; omega
        replace hb3o : b3 < v1.heap.size := by have := hKp.size; omega
        clear e2
        go_wp2_with fail
        refine region_mix0 (by kernel_rfl) (by kernel_rfl) (fun y0 => ?_)
        iterate 3 (first | (refine mix_quiet (by rfl) (by rfl) (fun K hK => ?_); go_big_quiet_op; refine hK _ ?_; clear hK K) | (refine mix_skip (by rfl) ?_; simp only [Act.put, List.setIfInBounds_toArray, List.set_cons_zero, List.set_cons_succ]))
        refine mix_mid (by rfl) (by rfl) 23 (.tmp 34) rfl b (off + k * 32) (by rfl) _ _ hm hbo Tryd.underlying23 rfl (size32l _ hq) ?_
        simp only [Act.put, List.setIfInBounds_toArray, List.set_cons_zero, List.set_cons_succ]
        refine mix_row (by rfl) (by rfl) 23 (.tmp 6) rfl w.heap.size (by rfl) 23 _ _ hX Tryd.underlying23 rfl (size32.trans (by simp [hfl])) ?_
        simp only [Act.put, List.setIfInBounds_toArray, List.set_cons_zero, List.set_cons_succ]
        unfold hcells
        (refine mix_loud (by rfl) (by rfl) (fun K E hK => ?_); go_big_op)
        change Calls _ _ #[sumV q, sumV z] _ _
        refine (refPreimage_calls q z hq hfl _).mono ?_; rintro e w5 ⟨rfl, hd⟩
        obtain ⟨x', rfl⟩ := more_ext _ hd; clear hd
        refine hK _ _ ⟨_, rfl⟩ ?_; clear hK K E
        repeat (first | (refine mix_quiet (by rfl) (by rfl) (fun K hK => ?_); go_big_quiet_op; refine hK _ ?_; clear hK K) | (refine mix_skip (by rfl) ?_; simp only [Act.put, List.setIfInBounds_toArray, List.set_cons_zero, List.set_cons_succ]))
        refine mix_nil ?_
        have e4 := grow_ext x'
        generalize grow v1 x' = v3 at *
        replace hX := Blk.below hX e4 (Blk.lt hX)
        replace hO := owns_ext hO e4
        replace hKp := hKp.trans (Keep.of_ext e4)
        replace hzz := Nat.le_trans hzz e4.size
        replace cT1 : v3.cell? ⟨b3, o3 + k, none⟩ = some (.bool true) := (World.cell?_of_block (hKp.block b3 (by omega) ⟨by omega, by omega⟩)).trans cT0
        replace hm : v3.rangeAt b (off + k * 32) (hcells q) := fun i u hu => (World.cell?_of_block (hKp.block b (by omega) ⟨by omega, by omega⟩)).trans (hm3 i u hu)
        replace hbo : b < v3.heap.size := by have := hKp.size; omega
        replace hb3o : b3 < v3.heap.size := by have := hKp.size; omega
        clear e4
        have hsl : (preB q z).length = 65 := by rw [preB_length]; omega
        have hw2 : wayS z0 (T.take (k + 1)) (l.take (k + 1)) = out ++ [preB q z] := Hwt.out
        have hf2 : Way.foldW nodeB z0 (T.take (k + 1)) (l.take (k + 1)) = shaOf (preB q z) := Hft.out
        have Hw2 := Lib.hid hw2
        have Hf2 := Lib.hid hf2
        clear Hwt Hft hw2 hf2
        generalize preB q z = s at *
        go_wp2_with (refine stop_dst 41 rfl ?_)
        refine ⟨?_⟩
        change wpList _ _ _ _ _ (v3.alloc (.cells #[.string (bs s)] 9))
        refine append_strK rfl (.tmp 38) (.tmp 40) rfl _ out s rfl rfl (by rw [Hpl.out]; omega) w3.heap.size hzz k Hpl.out hO fun A5 c5 w5 hO5 hk5 => ?_
        simp only [Act.put, List.setIfInBounds_toArray, List.set_cons_zero, List.set_cons_succ]
        replace hKp := hKp.trans (hk5.mono (fun k' _ h' => fun he => by have := (hO.lt k' he.symm).1; omega))
        replace hX := Blk.kept hX hk5 (fun he => by have := (hO.lt _ he.symm).1; omega)
        replace hzz := Nat.le_trans hzz hk5.size
        clear hk5 hO cT1 hm hbo hb3o cT0 hm3
        rw [← Hw2.out] at hO5
        go_wp2_with fail
        refine (refOf_calls s _ (by omega)).mono ?_; rintro e w6 ⟨rfl, e6⟩
        replace hX := Blk.below hX e6 (Blk.lt hX)
        replace hO5 := owns_ext hO5 e6
        replace hKp := hKp.trans (Keep.of_ext e6)
        replace hzz := Nat.le_trans hzz e6.size
        clear e6
        have hs32 := shaOf_length s
        unfold sumV
        go_wp2_with (refine stop_store 23 (.tmp 6) (.tmp 43) rfl ?_)
        refine ⟨?_⟩
        refine wpList_store_row rfl 23 (.tmp 6) (.tmp 43) rfl w.heap.size ((shaOf s).map byteV).toArray (by rfl) (by rfl) 23 _ hX (size32.trans (by simp [hs32])) (by simp [hs32, hfl]) (by simp [byteV, Value.oneCell']) ?_
        simp only [Act.put, List.setIfInBounds_toArray, List.set_cons_zero, List.set_cons_succ]
        have hX7 : ArrB (w6.setRow w.heap.size ((shaOf s).map byteV).toArray) w.heap.size 23 (shaOf s) := Blk.row hX _
        have hX7u : Upd w.heap.size w6 (w6.setRow w.heap.size ((shaOf s).map byteV).toArray) := (Upd.refl _ _).row _
        generalize w6.setRow w.heap.size ((shaOf s).map byteV).toArray = w7 at *
        have hO7 := ownT_far (g := w.heap.size) hO5 (Keep.of_upd hX7u (fun h => h rfl)) (by omega)
        have hKp7 := hKp.trans (Keep.of_upd hX7u (fun h => h.2 rfl))
        have hz7 : w3.heap.size ≤ w7.heap.size := Nat.le_trans hzz hX7u.size
        rw [← Hf2.out] at hX7
        clear hX hO5 hKp hX7u
        go_wp2_with fail
        go_roundw
        case rel =>
          first
            | exact ⟨k + 1, _, by omega, by go_num, rfl, hX7, hO7, hz7, hKp7⟩
            | (repeat apply Exists.intro
               refine ⟨?_, rfl⟩
               exact ⟨k + 1, _, by omega, by go_num, rfl, hX7, hO7, hz7, hKp7⟩)
        case measure => simp [intOf]; omega
    · obtain rfl : k = l.length := by omega
      rw [HY.out] at hO
      have hw := Hwl.out
      rw [← hw] at hO
      have HO := Lib.hid hO
      clear hO hw
      go_wp2_with fail
      go_ret
      exact ⟨_, rfl, owns_base HO.out (by have := hE3.size; omega), (hE3.trans (hKp.mono (fun k _ h => ⟨by have := hE3.size; omega, by omega⟩))).ext⟩
theorem refWay_calls (m n : Int) (z0 : List UInt8) (hz0 : z0.length = 32) (c : Value) (l : List (List UInt8)) (hl : AllH l) (hll : l.length ≤ 1000000) (w : World) (h : SlS w w.heap.size c l) :
    Calls Tryd.prog 38 #[.int .i64 m, .int .i64 n, sumV z0, c] w fun e w' => ∃ v, e = .returned v ∧ OwnT w' w.heap.size v (wayP m n z0 l) ∧ Ext w w' := by
  obtain ⟨A, cap, rfl, hA0, hc, hc63, hr⟩ := h
  have hfold := fold_sum z0 hz0
  by_cases hlg : Way.longI m n = (l.length : Int)
  · have hy : wayP m n z0 l = _ := if_pos hlg
    rw [hy]
    have HLg := Lib.hid hlg
    have HW := Lib.hid (refway_calls m n z0 hz0 A cap l hl hll hlg)
    generalize wayS z0 (Way.turnsI m n) l = Y at *
    clear hy
    unfold sumV
    go_enter Tryd.func38, Tryd.ntmps38
    have hX0 : ArrB (w.alloc (.cells (z0.map byteV).toArray 23)) w.heap.size 23 z0 := Blk.new _ _ _
    have hE0 : Ext w (w.alloc (.cells (z0.map byteV).toArray 23)) := (Ext.refl w).alloc _
    go_wp2_with fail
    change Calls _ _ _ (w.alloc (.cells (z0.map byteV).toArray 23)) _
    generalize w.alloc (.cells (z0.map byteV).toArray 23) = w1 at *
    refine (refLong_calls m n _).mono ?_; rintro e w2 ⟨rfl, e2⟩
    have hX2 := Blk.below hX0 e2 (Blk.lt hX0)
    have hE2 := hE0.trans e2
    clear hX0 hE0 e2
    rw [HLg.out]
    go_wp2_with (refine stop_load 23 (.tmp 6) rfl ?_)
    refine ⟨?_⟩
    refine wpList_load_row rfl 23 (.tmp 6) rfl w.heap.size (by rfl) 23 _ (0, 0) _ hX2 Tryd.underlying23 rfl (size32.trans (by simp [hz0])) ?_
    simp only [Act.put, List.setIfInBounds_toArray, List.set_cons_zero, List.set_cons_succ]
    go_wp2_with fail
    change Calls _ _ #[_, _, sumV z0, _] _ _
    refine (HW.out _ ((hr.below hE2 (Nat.le_refl _)).more hE2.size)).mono ?_; rintro e w3 ⟨v, rfl, hO, e3⟩
    go_wp2_with fail
    go_ret
    exact ⟨_, rfl, owns_base hO hE2.size, hE2.trans e3⟩
  · have hy : wayP m n z0 l = _ := if_neg hlg
    rw [hy]
    clear hy
    have dl : (Way.longI m n != (l.length : Int)) = true := by simpa using hlg
    unfold sumV
    go_enter Tryd.func38, Tryd.ntmps38
    have hE0 : Ext w (w.alloc (.cells (z0.map byteV).toArray 23)) := (Ext.refl w).alloc _
    go_wp2_with fail
    change Calls _ _ _ (w.alloc (.cells (z0.map byteV).toArray 23)) _
    generalize w.alloc (.cells (z0.map byteV).toArray 23) = w1 at *
    refine (refLong_calls m n _).mono ?_; rintro e w2 ⟨rfl, e2⟩
    generalize Way.longI m n = L at *
    go_wp2_with fail
    go_ret
    exact ⟨_, rfl, World.ownsRow_nil _ _ _ _, hE0.trans e2⟩

end Go.Proofs.YtfpipdopgepelaaDoor

namespace Go.Proofs.YtfpipdopgepelaaDoor
open Go.ChangeShapes Go.WideShapes Go.ChangeAt Go.RowKit
attribute [local go_sem] bs_size bs_toList2 bs_append bs_extract_end bs_extract_begin bs_get wrap64_b grow_cell grow_frozen

/-- What stands in a row of which the first and the last k are revd. -/
def revd (l : List Bool) (k i : Nat) : Bool := if i < k ∨ l.length ≤ i + k then l.getD (l.length - 1 - i) false else l.getD i false
theorem revd_zero (l : List Bool) (i : Nat) (h : i < l.length) : revd l 0 i = l.getD i false := by
  unfold revd
  rw [if_neg (by omega)]
theorem revd_all (l : List Bool) (k i : Nat) (h : i < l.length) (hk : l.length ≤ 2 * k + 1) : revd l k i = l.reverse.getD i false := by
  have hr : l.reverse.getD i false = l.getD (l.length - 1 - i) false := by
    simp only [List.getD_eq_getElem?_getD]
    rw [List.getElem?_reverse h]
  rw [hr]
  unfold revd
  split
  · rfl
  · rename_i hn
    have : l.length - 1 - i = i := by omega
    rw [this]
theorem revd_low (l : List Bool) (k i : Nat) (h : i < l.length) (hk : 2 * k + 1 < l.length) : revd l (k + 1) i = if i = k then revd l k (l.length - 1 - k) else if i = l.length - 1 - k then revd l k k else revd l k i := by
  unfold revd
  by_cases h1 : i = k
  · subst h1
    rw [if_pos (by omega), if_pos rfl, if_neg (by omega)]
  · by_cases h2 : i = l.length - 1 - k
    · subst h2
      rw [if_pos (by omega), if_neg h1, if_pos rfl, if_neg (by omega)]
      congr 1
      omega
    · rw [if_neg h1, if_neg h2]
      by_cases h3 : i < k ∨ l.length ≤ i + k
      · rw [if_pos (by omega), if_pos h3]
      · rw [if_neg (by omega), if_neg h3]

set_option maxHeartbeats 4000000 in
theorem reverse_blk (g : Nat) (t : TypeId) (l : List Bool) (cap : Nat) (hl : l.length ≤ 1099511627776) (hc : l.length ≤ cap) (cur : Array Value) (hz : cur.size = cap) (hcur : ∀ i, i < l.length → cur[i]? = some (.bool (l.getD i false))) (w : World) (hB : Blk w g t cur) :
    Calls Tryd.prog 83 #[.slice (some ⟨g, 0, none⟩) l.length cap] w fun e w' => e = .returned (.tuple #[]) ∧ Upd g w w' ∧ ∃ cur' : Array Value, Blk w' g t cur' ∧ cur'.size = cap ∧ (∀ i, i < l.length → cur'[i]? = some (.bool (l.reverse.getD i false))) := by
  go_enter Tryd.func83, Tryd.ntmps83
  have hw1 : (l.length : Int) - 1 ≤ 9223372036854775807 := by omega
  go_wp2_with fail
  go_loopw [2, 3] (fun s2 s3 wr => ∃ (k : Nat) (cu : Array Value), k ≤ l.length ∧ s2 = .int .i64 (k : Int) ∧ s3 = .int .i64 ((l.length : Int) - 1 - (k : Int)) ∧ Blk wr g t cu ∧ cu.size = cap ∧ (∀ i, i < l.length → cu[i]? = some (.bool (revd l k i))) ∧ Upd g w wr) (fun s2 _ _ => l.length - (intOf s2).toNat)
  case atStart => exact ⟨0, cur, Nat.zero_le _, rfl, by simp, hB, hz, fun i hi => by rw [revd_zero l i hi]; exact hcur i hi, Upd.refl _ _⟩
  case round =>
    obtain ⟨wo, rfl⟩ : ∃ wo : World, wo = wr := ⟨_, rfl⟩
    obtain ⟨k, cu, hk, rfl, rfl, hB, hz, hcu, hU⟩ := hrel
    by_cases hlt : 2 * k + 1 < l.length
    · have d1 : (k : Int) < (l.length : Int) - 1 - (k : Int) := by omega
      obtain ⟨j, hj⟩ : ∃ j : Nat, l.length - 1 - k = j := ⟨_, rfl⟩
      have hjI : (l.length : Int) - 1 - (k : Int) = (j : Int) := by omega
      have hkl : (k : Int) < (l.length : Int) := by omega
      have hjl : (j : Int) < (l.length : Int) := by omega
      have hkj : k ≠ j := by omega
      have ck : wo.cell? ⟨g, k, none⟩ = some (.bool (revd l k k)) := (Blk.cell hB k).trans (hcu k (by omega))
      have cj : wo.cell? ⟨g, j, none⟩ = some (.bool (revd l k j)) := (Blk.cell hB j).trans (hcu j (by omega))
      have fk := Blk.frozen hB k
      have fj := Blk.frozen hB j
      have hgl := Blk.lt hB
      have hst := revd_low l k
      rw [hj] at hst
      have Hst := Lib.hid hst
      have Hj := Lib.hid hj
      have hcuH := Lib.hid hcu
      clear hst hj hcu
      rw [hjI] at d1 ⊢
      generalize revd l k k = tk at *
      generalize revd l k j = tj at *
      go_wp2_with fail
      refine region_bar0 12 (by kernel_rfl) (by kernel_rfl) (fun x => ?_)
      repeat (first | (refine bar_quiet (by decide +kernel) (by rfl) (by rfl) (fun K hK => ?_); go_big_quiet_op; refine hK _ ?_; clear hK K) | (refine bar_still (by rfl) (by rfl) (fun K hK => ?_); go_big_quiet_op; refine hK _ ?_; clear hK K) | (refine bar_skip (by rfl) ?_; simp only [Act.put, List.setIfInBounds_toArray, List.set_cons_zero, List.set_cons_succ]))
      (refine bar_last (by decide) (by rfl) (by rfl) (fun K E hK => ?_); go_big_op; refine hK _ _ ?_; clear hK K E)
      repeat (first | (refine bar_quiet (by decide +kernel) (by rfl) (by rfl) (fun K hK => ?_); go_big_quiet_op; refine hK _ ?_; clear hK K) | (refine bar_still (by rfl) (by rfl) (fun K hK => ?_); go_big_quiet_op; refine hK _ ?_; clear hK K) | (refine bar_skip (by rfl) ?_; simp only [Act.put, List.setIfInBounds_toArray, List.set_cons_zero, List.set_cons_succ]))
      (refine bar_last (by decide) (by rfl) (by rfl) (fun K E hK => ?_); go_big_op; refine hK _ _ ?_; clear hK K E)
      refine bar_nil ?_
      have hB2 := Blk.below hB (grow_ext x) hgl
      have hU2 := hU.ext (grow_ext x)
      have hB3 : Blk (((grow wo x).setCell ⟨g, k, none⟩ (.bool tj)).setCell ⟨g, j, none⟩ (.bool tk)) g t ((cu.setIfInBounds k (.bool tj)).setIfInBounds j (.bool tk)) := Blk.set_ (Blk.set_ hB2 k _) j _
      have hU3 : Upd g w (((grow wo x).setCell ⟨g, k, none⟩ (.bool tj)).setCell ⟨g, j, none⟩ (.bool tk)) := (hU2.setCell (.inl rfl) _).setCell (.inl rfl) _
      have hz3 : ((cu.setIfInBounds k (.bool tj)).setIfInBounds j (.bool tk)).size = cap := by simp [hz]
      have hcu3 : ∀ i, i < l.length → ((cu.setIfInBounds k (.bool tj)).setIfInBounds j (.bool tk))[i]? = some (.bool (revd l (k + 1) i)) := fun i hi => by
        rw [Hst.out i hi hlt, Array.getElem?_setIfInBounds, Array.getElem?_setIfInBounds]
        by_cases h1 : j = i
        · subst h1
          rw [if_pos rfl, if_pos (by simp; omega), if_neg (Ne.symm hkj), if_pos rfl]
        · rw [if_neg h1]
          by_cases h2 : k = i
          · subst h2
            rw [if_pos rfl, if_pos (by omega), if_pos rfl]
          · rw [if_neg h2, if_neg (Ne.symm h2), if_neg (Ne.symm h1)]
            exact hcuH.out i hi
      generalize ((grow wo x).setCell ⟨g, k, none⟩ (.bool tj)).setCell ⟨g, j, none⟩ (.bool tk) = w5 at *
      generalize (cu.setIfInBounds k (.bool tj)).setIfInBounds j (.bool tk) = cu3 at *
      clear ck cj fk fj hgl hB hU hB2 hU2 hz
      go_wp2_with fail
      go_roundw
      case rel => exact ⟨k + 1, cu3, by omega, by go_num, by congr 1; omega, hB3, hz3, hcu3, hU3⟩
      case measure => simp [intOf]; omega
    · have d1 : ¬ (k : Int) < (l.length : Int) - 1 - (k : Int) := by omega
      have hcu2 : ∀ i, i < l.length → cu[i]? = some (.bool (l.reverse.getD i false)) := fun i hi => by rw [hcu i hi, revd_all l k i hi (by omega)]
      have hfin : Upd g w wo ∧ ∃ cur' : Array Value, Blk wo g t cur' ∧ cur'.size = cap ∧ (∀ i, i < l.length → cur'[i]? = some (.bool (l.reverse.getD i false))) := ⟨hU, cu, hB, hz, hcu2⟩
      clear hcu hcu2 hB hU hz
      go_wp2_with fail
      go_end0
      exact ⟨rfl, hfin⟩

theorem Reverse_calls (base : Nat) (v : Value) (l : List Bool) (hl : l.length ≤ 1099511627776) (w : World) (h : OwnB w base v l) :
    Calls Tryd.prog 83 #[v] w fun e w' => e = .returned (.tuple #[]) ∧ OwnB w' base v l.reverse ∧ ∀ B, B ≤ base → Keep (fun k => k < B) w w' := by
  obtain ⟨e1, e2⟩ := h
  rcases e2 with ⟨rfl, h0⟩ | ⟨g, cap, cur, rfl, hb, hh, hc, hm, hz, ht⟩
  · have hl0 : l = [] := List.eq_nil_of_length_eq_zero (by omega)
    subst hl0
    go_enter Tryd.func83, Tryd.ntmps83
    go_wp2_with fail
    go_loopw [2, 3] (fun s2 s3 wr => s2 = .int .i64 0 ∧ s3 = .int .i64 (-1) ∧ w = wr) (fun _ _ _ => 0)
    case atStart => exact ⟨rfl, rfl, rfl⟩
    case round =>
      obtain ⟨rfl, rfl, rfl⟩ := hrel
      go_wp2_with fail
      go_end0
      exact ⟨rfl, World.ownsRow_nil _ _ _ _, fun B _ => Keep.refl _ _⟩
  · have hcur : ∀ i, i < l.length → cur[i]? = some (.bool (l.getD i false)) := fun i hi => by
      have : (cur.toList.take (l.length * 1))[i]? = (boolsV l)[i]? := by rw [ht]
      rw [List.getElem?_take_of_lt (by omega)] at this
      rw [Array.getElem?_toList] at this
      rw [this]
      simp [boolsV, List.getD_eq_getElem?_getD, hi]
    refine (reverse_blk g _ l cap hl hc cur (by omega) hcur w hh).mono ?_
    rintro e w' ⟨rfl, hU, cur', hB, hz', hc'⟩
    refine ⟨rfl, ⟨by simp [boolsV], .inr ⟨g, cap, cur', by rw [List.length_reverse], hb, hB, by rw [List.length_reverse]; exact hc, hm, by omega, ?_⟩⟩, fun B hB' => Keep.of_upd hU (by omega)⟩
    apply List.ext_getElem?
    intro i
    by_cases hi : i < l.length
    · rw [List.getElem?_take_of_lt (by rw [List.length_reverse]; omega), Array.getElem?_toList, hc' i hi]
      simp [boolsV, List.getD_eq_getElem?_getD, hi]
    · rw [List.getElem?_eq_none (by simp; omega), List.getElem?_eq_none (by simp [boolsV]; omega)]

end Go.Proofs.YtfpipdopgepelaaDoor

namespace Go.Proofs.YtfpipdopgepelaaDoor
open Go.ChangeShapes Go.WideShapes Go.ChangeAt Go.RowKit
attribute [local go_sem] bs_size bs_toList2 bs_append bs_extract_end bs_extract_begin bs_get wrap64_b grow_cell grow_frozen

set_option maxHeartbeats 1000000 in
theorem sides_calls (m n : Nat) (h1 : 1 ≤ m) (h2 : m ≤ n) (h3 : n ≤ 1099511627776) (w : World) :
    Calls Tryd.prog 66 #[.int .i64 (m : Int), .int .i64 (n : Int)] w fun e w' => ∃ v, e = .returned v ∧ OwnB w' w.heap.size v (Way.parts m n).reverse ∧ Ext w w' := by
  obtain ⟨goal, hgoal⟩ : ∃ g, g = Way.parts m n := ⟨_, rfl⟩
  have hgl : goal.length ≤ n := by rw [hgoal]; exact parts_le m n
  rw [← hgoal]
  have Hg := Lib.hid hgoal
  clear hgoal
  go_enter Tryd.func66, Tryd.ntmps66
  go_wp2_with fail
  go_loopw [0, 1, 5, 6] (fun s0 s1 s5 _ wr => ∃ (i j : Nat) (out : List Bool), s0 = .int .i64 (i : Int) ∧ s1 = .int .i64 (j : Int) ∧ 1 ≤ i ∧ i ≤ j ∧ j ≤ n ∧ out ++ Way.parts i j = goal ∧ OwnB wr w.heap.size s5 out ∧ Ext w wr) (fun _ s1 _ _ _ => (intOf s1).toNat)
  case atStart => exact ⟨m, n, [], rfl, rfl, h1, h2, Nat.le_refl _, by rw [Hg.out]; rfl, ownB_nil _ _, Ext.refl _⟩
  case round =>
    obtain ⟨wo, rfl⟩ : ∃ wo : World, wo = wr := ⟨_, rfl⟩
    obtain ⟨i, j, out, rfl, rfl, hi, hij, hjn, hog, hO, hE⟩ := hrel
    have hol : out.length ≤ n := by have := congrArg List.length hog; rw [List.length_append] at this; omega
    have Hog := Lib.hid hog
    clear hog
    obtain ⟨A, c, hv⟩ := own_slice hO
    subst hv
    by_cases hne : i = j
    · subst hne
      have hgo : out = goal := by rw [← Hog.out, Way.parts_done, List.append_nil]
      subst hgo
      go_wp2_with fail
      refine (Reverse_calls w.heap.size _ out (by omega) _ hO).mono ?_; rintro e w9 ⟨rfl, hO9, hk9⟩
      have hK9 := (Keep.of_ext (S := fun k => k < w.heap.size) hE).trans (hk9 w.heap.size (Nat.le_refl _))
      clear hO hE hk9
      go_wp2_with fail
      go_ret
      exact ⟨_, rfl, hO9, hK9.ext⟩
    · have hneI : ((i : Int) != (j : Int)) = true := by simp; omega
      have hsl := Tree.split_lt j (by omega)
      have hsp := Tree.split_pos j (by omega)
      have HSp := Lib.hid (split_nat j (by omega))
      have hz := hE.size
      by_cases hk : i ≤ Tree.split j
      · have hp := Way.parts_first (by omega) hi hk
        have Hp := Lib.hid hp
        have hkI : ¬ (Tree.split j : Int) < (i : Int) := by omega
        have hd : decide ((Tree.split j : Int) < (i : Int)) = false := decide_eq_false hkI
        clear hp
        go_wp2_with fail
        refine (Split_calls (j : Int) (by omega) (by omega) _).mono ?_; rw [HSp.out]; rintro e w1 ⟨rfl, rfl⟩
        generalize Tree.split j = k at *
        go_wp2_with (refine stop_dst 17 rfl ?_)
        refine ⟨?_⟩
        have hdN : decide (k < i) = false := decide_eq_false (by omega)
        simp only [hdN]
        refine append_bool rfl (.tmp 12) (.tmp 16) rfl _ out false rfl rfl (by omega) w.heap.size hz hO hE (Nat.le_refl _) fun A5 c5 w5 hO5 hE5 => ?_
        simp only [Act.put, List.setIfInBounds_toArray, List.set_cons_zero, List.set_cons_succ]
        clear hO hE
        go_wp2_with fail
        go_roundw
        case rel => exact ⟨i, k, out ++ [false], rfl, rfl, hi, hk, by omega, by rw [← Hog.out, Hp.out]; simp, hO5, hE5⟩
        case measure => simp [intOf]; omega
      · have hp := Way.parts_others (by omega) hi hk
        have Hp := Lib.hid hp
        have hkI : (Tree.split j : Int) < (i : Int) := by omega
        have hd : decide ((Tree.split j : Int) < (i : Int)) = true := decide_eq_true hkI
        clear hp
        go_wp2_with fail
        refine (Split_calls (j : Int) (by omega) (by omega) _).mono ?_; rw [HSp.out]; rintro e w1 ⟨rfl, rfl⟩
        generalize Tree.split j = k at *
        have e1 : (i : Int) - (k : Int) = ((i - k : Nat) : Int) := by omega
        have e2 : (j : Int) - (k : Int) = ((j - k : Nat) : Int) := by omega
        go_wp2_with (refine stop_dst 17 rfl ?_)
        refine ⟨?_⟩
        refine append_bool rfl (.tmp 12) (.tmp 16) rfl _ out true rfl rfl (by omega) w.heap.size hz hO hE (Nat.le_refl _) fun A5 c5 w5 hO5 hE5 => ?_
        simp only [Act.put, List.setIfInBounds_toArray, List.set_cons_zero, List.set_cons_succ]
        clear hO hE
        go_wp2_with fail
        go_roundw
        case rel => exact ⟨i - k, j - k, out ++ [true], by go_num, by go_num, by omega, by omega, by omega, by rw [← Hog.out, Hp.out]; simp, hO5, hE5⟩
        case measure => simp [intOf]; omega

/-- What twin.Trees tells. -/
def treesIn (x y : List UInt8) (a b : List (List UInt8)) (T : List Bool) : Option (List UInt8 × List UInt8) :=
  if a.length ≤ T.length then firstO (wayS x T a) (wayS y T b) else firstO (wayS (a.headD x) T a.tail) (wayS (b.headD y) T b.tail)
def treesP (m n : Int) (x y : List UInt8) (a b : List (List UInt8)) : Option (List UInt8 × List UInt8) :=
  if ((bothP x m n a).2 && (bothP y m n b).2) && decide ((bothP x m n a).1.2 = (bothP y m n b).1.2) then treesIn x y a b (Way.parts m.toNat n.toNat).reverse else none
theorem both_ok (x : List UInt8) (m n : Int) (l : List (List UInt8)) (h : (bothP x m n l).2 = true) : 1 ≤ m ∧ m ≤ n ∧ n ≤ 1099511627776 ∧ (l.length = (Way.parts m.toNat n.toNat).length ∨ l.length = (Way.parts m.toNat n.toNat).length + 1) := by
  unfold bothP at h
  split at h
  · rename_i hl
    unfold Way.linksI at hl
    split at hl
    · omega
    · refine ⟨by omega, by omega, by omega, ?_⟩
      split at hl <;> omega
  · cases h
theorem tail_all {l : List (List UInt8)} (h : AllH l) : AllH l.tail := fun x hx => h x (List.mem_of_mem_tail hx)

set_option maxHeartbeats 8000000 in
theorem Trees_calls (m n : Int) (hn63 : n ≤ 9223372036854775807) (x y : List UInt8) (hx : x.length = 32) (hy : y.length = 32) (va vb : Value) (a b : List (List UInt8)) (ha : AllH a) (hb : AllH b) (hal : a.length ≤ 1000000) (hbl : b.length ≤ 1000000) (w : World) (KW : Keys w) (hSa : SlS w w.heap.size va a) (hSb : SlS w w.heap.size vb b) :
    Calls Tryd.prog 43 #[.int .i64 m, .int .i64 n, sumV x, sumV y, va, vb] w fun e w' => e = .returned (.tuple #[.agg (twC (treesP m n x y a b)), .bool (treesP m n x y a b).isSome]) ∧ Ext w w' := by
  obtain ⟨R, hR⟩ : ∃ R, R = treesP m n x y a b := ⟨_, rfl⟩
  rw [← hR]
  have hpx := bothP_length x hx m n a ha
  have hpy := bothP_length y hy m n b hb
  have hok := both_ok x m n a
  have hok2 := both_ok y m n b
  unfold treesP at hR
  obtain ⟨P, hP⟩ : ∃ P, P = bothP x m n a := ⟨_, rfl⟩
  obtain ⟨Q, hQ⟩ : ∃ Q, Q = bothP y m n b := ⟨_, rfl⟩
  rw [← hP] at hR hpx hok
  rw [← hQ] at hR hpy hok2
  obtain ⟨⟨p0, p⟩, i⟩ := P
  obtain ⟨⟨q0, q⟩, j⟩ := Q
  obtain ⟨hp0, hpl⟩ := hpx
  obtain ⟨hq0, hql⟩ := hpy
  dsimp only at hR hok hok2 hp0 hpl hq0 hql
  have HP := Lib.hid hP
  have HQ := Lib.hid hQ
  have HR := Lib.hid hR
  have HO1 := Lib.hid hok
  have HO2 := Lib.hid hok2
  clear hP hQ hR hok hok2
  have hgw := guard_sum
  have hfx := fold_sum x hx
  have hfy := fold_sum y hy
  have heq := fun w : World => eq_sum p q hpl hql w
  obtain ⟨d, hd0⟩ : ∃ d, d = decide (p = q) := ⟨_, rfl⟩
  rw [← hd0] at heq
  have HD := Lib.hid hd0
  clear hd0
  unfold sumV
  go_enter Tryd.func43, Tryd.ntmps43
  have hX : ArrB (((w.alloc (.cells (x.map byteV).toArray 23)).alloc (.cells (y.map byteV).toArray 23)).alloc (.cells #[.string (bs []), .string (bs [])] 57)) w.heap.size 23 x := Blk.alloc (Blk.alloc (Blk.new _ _ _) _) _
  have hY : ArrB (((w.alloc (.cells (x.map byteV).toArray 23)).alloc (.cells (y.map byteV).toArray 23)).alloc (.cells #[.string (bs []), .string (bs [])] 57)) (w.heap.size + 1) 23 y := by
    have := Blk.new (w.alloc (.cells (x.map byteV).toArray 23)) 23 (y.map byteV).toArray
    rw [alloc_size] at this
    exact Blk.alloc this _
  have hZ : Blk (((w.alloc (.cells (x.map byteV).toArray 23)).alloc (.cells (y.map byteV).toArray 23)).alloc (.cells #[.string (bs []), .string (bs [])] 57)) (w.heap.size + 1 + 1) 57 #[.string (bs []), .string (bs [])] := by
    have := Blk.new ((w.alloc (.cells (x.map byteV).toArray 23)).alloc (.cells (y.map byteV).toArray 23)) 57 #[.string (bs []), .string (bs [])]
    simp only [alloc_size] at this
    exact this
  have hE : Ext w (((w.alloc (.cells (x.map byteV).toArray 23)).alloc (.cells (y.map byteV).toArray 23)).alloc (.cells #[.string (bs []), .string (bs [])] 57)) := (((Ext.refl w).alloc _).alloc _).alloc _
  have hSa1 := hSa.ext hE
  have hSb1 := hSb.ext hE
  obtain ⟨Aa, ca, hva, hAa, hca, hca63, hra0⟩ := id hSa
  obtain ⟨Ab, cb, hvb, hAb, hcb, hcb63, hrb0⟩ := id hSb
  subst hva
  subst hvb
  clear hSa hSb
  go_wp2_with (refine stop_load 23 (.tmp 8) rfl ?_)
  refine ⟨?_⟩
  change wpList _ _ _ _ _ (((w.alloc (.cells (x.map byteV).toArray 23)).alloc (.cells (y.map byteV).toArray 23)).alloc (.cells #[.string (bs []), .string (bs [])] 57))
  generalize ((w.alloc (.cells (x.map byteV).toArray 23)).alloc (.cells (y.map byteV).toArray 23)).alloc (.cells #[.string (bs []), .string (bs [])] 57) = w1 at *
  refine wpList_load_row rfl 23 (.tmp 8) rfl w.heap.size (by rfl) 23 _ (0, 0) _ hX Tryd.underlying23 rfl (size32.trans (by simp [hx])) ?_
  simp only [Act.put, List.setIfInBounds_toArray, List.set_cons_zero, List.set_cons_succ]
  go_wp2_with fail
  change Calls _ _ #[sumV x, _, _, _] _ _
  refine (Both_sls x hx m n hn63 _ a ha hal _ (KW.ext hE) hSa1).mono ?_; rw [← HP.out]; rintro e v2 ⟨rfl, e1⟩
  replace hX := Blk.below hX e1 (Blk.lt hX)
  replace hY := Blk.below hY e1 (Blk.lt hY)
  replace hZ := Blk.below hZ e1 (Blk.lt hZ)
  replace hSa1 := hSa1.ext e1
  replace hSb1 := hSb1.ext e1
  replace hE := hE.trans e1
  clear e1
  unfold sumV
  go_wp2_with (refine stop_store 23 (.tmp 14) (.tmp 27) rfl ?_)
  refine ⟨?_⟩
  change wpList _ _ _ _ _ (twoW v2)
  refine wpList_store_row rfl 23 (.tmp 14) (.tmp 27) rfl v2.heap.size ((p0).map byteV).toArray (by rfl) (by rfl) 23 _ (twoW_facts v2).1 (size32.trans (by simp [hp0])) (by simp [hp0, zerosB]) (by simp [byteV, Value.oneCell']) ?_
  simp only [Act.put, List.setIfInBounds_toArray, List.set_cons_zero, List.set_cons_succ]
  obtain ⟨hA0, hA0, hA, e4⟩ := two_rows v2 p0 p
  go_wp2_with (refine stop_store 23 (.tmp 15) (.tmp 28) rfl ?_)
  refine ⟨?_⟩
  refine wpList_store_row rfl 23 (.tmp 15) (.tmp 28) rfl (v2.heap.size + 1) ((p).map byteV).toArray (by rfl) (by rfl) 23 _ hA0 (size32.trans (by simp [hpl])) (by simp [hpl, zerosB]) (by simp [byteV, Value.oneCell']) ?_
  simp only [Act.put, List.setIfInBounds_toArray, List.set_cons_zero, List.set_cons_succ]
  clear hA0
  obtain ⟨g5, g5e⟩ : ∃ g5, g5 = v2.heap.size := ⟨_, rfl⟩
  rw [← g5e] at hA0 hA e4 ⊢
  generalize ((twoW v2).setRow g5 ((p0).map byteV).toArray).setRow (g5 + 1) ((p).map byteV).toArray = v3 at *
  replace hX := Blk.below hX e4 (Blk.lt hX)
  replace hY := Blk.below hY e4 (Blk.lt hY)
  replace hZ := Blk.below hZ e4 (Blk.lt hZ)
  replace hSa1 := hSa1.ext e4
  replace hSb1 := hSb1.ext e4
  replace hE := hE.trans e4
  clear e4
  clear g5e
  go_wp2_with (refine stop_load 23 (.tmp 9) rfl ?_)
  refine ⟨?_⟩
  refine wpList_load_row rfl 23 (.tmp 9) rfl (w.heap.size + 1) (by rfl) 23 _ (0, 0) _ hY Tryd.underlying23 rfl (size32.trans (by simp [hy])) ?_
  simp only [Act.put, List.setIfInBounds_toArray, List.set_cons_zero, List.set_cons_succ]
  go_wp2_with fail
  change Calls _ _ #[sumV y, _, _, _] _ _
  refine (Both_sls y hy m n hn63 _ b hb hbl _ (KW.ext hE) hSb1).mono ?_; rw [← HQ.out]; rintro e v7 ⟨rfl, e6⟩
  replace hX := Blk.below hX e6 (Blk.lt hX)
  replace hY := Blk.below hY e6 (Blk.lt hY)
  replace hZ := Blk.below hZ e6 (Blk.lt hZ)
  replace hSa1 := hSa1.ext e6
  replace hSb1 := hSb1.ext e6
  replace hA0 := Blk.below hA0 e6 (Blk.lt hA0)
  replace hA := Blk.below hA e6 (Blk.lt hA)
  replace hE := hE.trans e6
  clear e6
  unfold sumV
  go_wp2_with (refine stop_store 23 (.tmp 17) (.tmp 36) rfl ?_)
  refine ⟨?_⟩
  change wpList _ _ _ _ _ (twoW v7)
  refine wpList_store_row rfl 23 (.tmp 17) (.tmp 36) rfl v7.heap.size ((q0).map byteV).toArray (by rfl) (by rfl) 23 _ (twoW_facts v7).1 (size32.trans (by simp [hq0])) (by simp [hq0, zerosB]) (by simp [byteV, Value.oneCell']) ?_
  simp only [Act.put, List.setIfInBounds_toArray, List.set_cons_zero, List.set_cons_succ]
  obtain ⟨hB0, hB0, hB, e9⟩ := two_rows v7 q0 q
  go_wp2_with (refine stop_store 23 (.tmp 18) (.tmp 37) rfl ?_)
  refine ⟨?_⟩
  refine wpList_store_row rfl 23 (.tmp 18) (.tmp 37) rfl (v7.heap.size + 1) ((q).map byteV).toArray (by rfl) (by rfl) 23 _ hB0 (size32.trans (by simp [hql])) (by simp [hql, zerosB]) (by simp [byteV, Value.oneCell']) ?_
  simp only [Act.put, List.setIfInBounds_toArray, List.set_cons_zero, List.set_cons_succ]
  clear hB0
  obtain ⟨g10, g10e⟩ : ∃ g10, g10 = v7.heap.size := ⟨_, rfl⟩
  rw [← g10e] at hB0 hB e9 ⊢
  generalize ((twoW v7).setRow g10 ((q0).map byteV).toArray).setRow (g10 + 1) ((q).map byteV).toArray = v8 at *
  replace hX := Blk.below hX e9 (Blk.lt hX)
  replace hY := Blk.below hY e9 (Blk.lt hY)
  replace hZ := Blk.below hZ e9 (Blk.lt hZ)
  replace hSa1 := hSa1.ext e9
  replace hSb1 := hSb1.ext e9
  replace hA0 := Blk.below hA0 e9 (Blk.lt hA0)
  replace hA := Blk.below hA e9 (Blk.lt hA)
  replace hE := hE.trans e9
  clear e9
  clear g10e
  have z0 : v8.cell? ⟨w.heap.size + 1 + 1, 0, none⟩ = some (.string (bs [])) := Blk.cell hZ 0
  have z1 : v8.cell? ⟨w.heap.size + 1 + 1, 1, none⟩ = some (.string (bs [])) := Blk.cell hZ 1
  have f0 := Blk.frozen hZ 0
  have f1 := Blk.frozen hZ 1
  have hzl := Blk.lt hZ
  cases i
  · obtain rfl : R = none := HR.out
    go_wp2_with fail
    have hR5 := Blk.set_ (Blk.set_ hZ 0 (.string ⟨#[]⟩)) 1 (.string ⟨#[]⟩)
    refine bodyPost_ret (res_cell_t rfl _ _ (w.heap.size + 1 + 1) 57 _ _ rfl hR5 Tryd.underlying57 rfl size_twins) rfl ?_
    exact ⟨rfl, (hE.setCell (by simp; omega) _).setCell (by simp; omega) _⟩
  cases j
  · obtain rfl : R = none := HR.out
    go_wp2_with fail
    have hR5 := Blk.set_ (Blk.set_ hZ 0 (.string ⟨#[]⟩)) 1 (.string ⟨#[]⟩)
    refine bodyPost_ret (res_cell_t rfl _ _ (w.heap.size + 1 + 1) 57 _ _ rfl hR5 Tryd.underlying57 rfl size_twins) rfl ?_
    exact ⟨rfl, (hE.setCell (by simp; omega) _).setCell (by simp; omega) _⟩
  cases d
  · have hpq : ¬ p = q := of_decide_eq_false HD.out.symm
    obtain rfl : R = none := HR.out.trans (if_neg (by simp [hpq]))
    clear hpq
    go_wp2_with (refine stop_load 23 (.tmp 15) rfl ?_)
    refine ⟨?_⟩
    refine list_want (by rfl) (fun K hK => ?_)
    refine wp_load_row 23 (.tmp 15) rfl (g5 + 1) (by rfl) 23 _ (0, 0) _ hA Tryd.underlying23 rfl (size32.trans (by simp [hpl])) ?_
    refine hK _ _ ?_; clear hK K
    simp only [Act.put, List.setIfInBounds_toArray, List.set_cons_zero, List.set_cons_succ]
    go_wp2_with (refine stop_load 23 (.tmp 18) rfl ?_)
    refine ⟨?_⟩
    refine list_want (by rfl) (fun K hK => ?_)
    refine wp_load_row 23 (.tmp 18) rfl (g10 + 1) (by rfl) 23 _ (0, 0) _ hB Tryd.underlying23 rfl (size32.trans (by simp [hql])) ?_
    refine hK _ _ ?_; clear hK K
    simp only [Act.put, List.setIfInBounds_toArray, List.set_cons_zero, List.set_cons_succ]
    go_wp2_with fail
    have hR5 := Blk.set_ (Blk.set_ hZ 0 (.string ⟨#[]⟩)) 1 (.string ⟨#[]⟩)
    refine bodyPost_ret (res_cell_t rfl _ _ (w.heap.size + 1 + 1) 57 _ _ rfl hR5 Tryd.underlying57 rfl size_twins) rfl ?_
    exact ⟨rfl, (hE.setCell (by simp; omega) _).setCell (by simp; omega) _⟩
  have hpq : p = q := of_decide_eq_true HD.out.symm
  have hR : R = treesIn x y a b (Way.parts m.toNat n.toNat).reverse := HR.out.trans (if_pos (by simp [hpq]))
  obtain ⟨hm1, hm2, hm3, hm4⟩ := HO1.out rfl
  obtain ⟨-, -, -, hm5⟩ := HO2.out rfl
  obtain ⟨mN, rfl⟩ : ∃ k : Nat, m = (k : Int) := ⟨m.toNat, by omega⟩
  obtain ⟨nN, rfl⟩ : ∃ k : Nat, n = (k : Int) := ⟨n.toNat, by omega⟩
  simp only [Int.toNat_natCast] at hR hm4 hm5
  have hlab : a.length = b.length := by
    have h1 : Way.linksI (mN : Int) (nN : Int) = (a.length : Int) := by
      have h2 : (bothP x (mN : Int) (nN : Int) a).2 = true := by rw [← HP.out]
      unfold bothP at h2
      split at h2
      · assumption
      · cases h2
    have h1' : Way.linksI (mN : Int) (nN : Int) = (b.length : Int) := by
      have h2 : (bothP y (mN : Int) (nN : Int) b).2 = true := by rw [← HQ.out]
      unfold bothP at h2
      split at h2
      · assumption
      · cases h2
    omega
  have hsd := sides_calls mN nN (by omega) (by omega) (by omega)
  have hTl : (Way.parts mN nN).reverse.length = (Way.parts mN nN).length := List.length_reverse
  rw [← hTl] at hm4 hm5
  generalize (Way.parts mN nN).reverse = T at *
  have HSd := Lib.hid hsd
  have HRR := Lib.hid hR
  have Hm4 := Lib.hid hm4
  have Hab := Lib.hid hlab
  clear hpq hR hm4 hm5 hlab hsd hTl
  go_wp2_with (refine stop_load 23 (.tmp 15) rfl ?_)
  refine ⟨?_⟩
  refine list_want (by rfl) (fun K hK => ?_)
  refine wp_load_row 23 (.tmp 15) rfl (g5 + 1) (by rfl) 23 _ (0, 0) _ hA Tryd.underlying23 rfl (size32.trans (by simp [hpl])) ?_
  refine hK _ _ ?_; clear hK K
  simp only [Act.put, List.setIfInBounds_toArray, List.set_cons_zero, List.set_cons_succ]
  go_wp2_with (refine stop_load 23 (.tmp 18) rfl ?_)
  refine ⟨?_⟩
  refine list_want (by rfl) (fun K hK => ?_)
  refine wp_load_row 23 (.tmp 18) rfl (g10 + 1) (by rfl) 23 _ (0, 0) _ hB Tryd.underlying23 rfl (size32.trans (by simp [hql])) ?_
  refine hK _ _ ?_; clear hK K
  simp only [Act.put, List.setIfInBounds_toArray, List.set_cons_zero, List.set_cons_succ]
  go_wp2_with fail
  refine (HSd.out v8).mono ?_; rintro e wt ⟨vt, rfl, hO, et⟩
  obtain ⟨BT, cT, hvt, hrT, -, -, hBb⟩ := own_rd hO
  have hB3 : w.heap.size + 3 ≤ v8.heap.size := by have := Blk.lt hZ; omega
  subst hvt
  clear hO HSd
  replace hX := Blk.below hX et (Blk.lt hX)
  replace hY := Blk.below hY et (Blk.lt hY)
  replace hZ := Blk.below hZ et (Blk.lt hZ)
  replace hSa1 := hSa1.ext et
  replace hSb1 := hSb1.ext et
  replace hA0 := Blk.below hA0 et (Blk.lt hA0)
  replace hA := Blk.below hA et (Blk.lt hA)
  replace hB0 := Blk.below hB0 et (Blk.lt hB0)
  replace hB := Blk.below hB et (Blk.lt hB)
  replace hE := hE.trans et
  replace z0 : wt.cell? ⟨w.heap.size + 1 + 1, 0, none⟩ = some (.string (bs [])) := Blk.cell hZ 0
  replace z1 : wt.cell? ⟨w.heap.size + 1 + 1, 1, none⟩ = some (.string (bs [])) := Blk.cell hZ 1
  replace f0 := Blk.frozen hZ 0
  replace f1 := Blk.frozen hZ 1
  replace hzl := Blk.lt hZ
  clear et
  obtain ⟨Aa', ca', hva, -, -, -, hra⟩ := id hSa1
  obtain ⟨Ab', cb', hvb, -, -, -, hrb⟩ := id hSb1
  injection hva with v1 v2 v3
  injection hvb with v4 v5 v6
  subst v1 v3 v4 v6
  clear v2 v5
  rcases Hm4.out with hwh | hwh
  · skip
    have hTa : T.length = (a).length := hwh.symm
    have hTb : T.length = (b).length := by rw [← Hab.out]; exact hwh.symm
    have hwa := way_calls x hx Aa ca a ha hal T BT cT hTa
    have hwb := way_calls y hy Ab cb b hb hbl T BT cT hTb
    have hfi := first_calls (wayS x T a) (wayS y T b) (fun s hs => by rw [wayS_bound T a x hx ha s hs]; omega) (fun s hs => by rw [wayS_bound T b y hy hb s hs]; omega) (by rw [way_len x T a hTa]; exact hal) (by rw [way_len y T b hTb]; exact hbl)
    have hR2 : R = firstO (wayS x T a) (wayS y T b) := HRR.out.trans (if_pos (by omega))
    have HR2 := Lib.hid hR2
    have HWa := Lib.hid hwa
    have HWb := Lib.hid hwb
    have HFi := Lib.hid hfi
    have hgt : ¬ (T.length : Int) < (a.length : Int) := by omega
    clear hR2 hwa hwb hfi hTa hTb hwh
    clear z0 z1 f0 f1 hzl
    have hKs : ∀ z : More wt, Keys (grow wt z) := fun z => KW.ext (hE.trans (grow_ext z))
    have hras : ∀ z : More wt, Rd (grow wt z) (grow wt z).heap.size Aa (flatS a) := fun z => (hra.below (grow_ext z) (Nat.le_refl _)).more (grow_ext z).size
    have hrbs : ∀ z : More wt, Rd (grow wt z) (grow wt z).heap.size Ab (flatS b) := fun z => (hrb.below (grow_ext z) (Nat.le_refl _)).more (grow_ext z).size
    have hrTs : ∀ z : More wt, Rd (grow wt z) (grow wt z).heap.size BT (T.map Value.bool) := fun z => (hrT.below (grow_ext z) (Nat.le_refl _)).more (grow_ext z).size
    clear hra hrb hrT
    go_wp2_with fail
    refine region_mix 11 (by kernel_rfl) (by kernel_rfl) (fun y0 => ?_); simp only [List.take_succ_cons, List.take_zero, List.drop_succ_cons, List.drop_zero]
    refine mix_row (by rfl) (by rfl) 23 (.tmp 8) rfl w.heap.size (by rfl) 23 _ _ hX Tryd.underlying23 rfl (size32.trans (by simp [hx])) ?_
    simp only [Act.put, List.setIfInBounds_toArray, List.set_cons_zero, List.set_cons_succ]
    iterate 2 (first | (refine mix_quiet (by rfl) (by rfl) (fun K hK => ?_); go_big_quiet_op; refine hK _ ?_; clear hK K) | (refine mix_skip (by rfl) ?_; simp only [Act.put, List.setIfInBounds_toArray, List.set_cons_zero, List.set_cons_succ]))
    (refine mix_loud (by rfl) (by rfl) (fun K E hK => ?_); go_big_op)
    refine (HWa.out _ (hKs _) (hras _) (hrTs _)).mono ?_; rintro e w5 ⟨v5, rfl, hO1, hd⟩
    obtain ⟨x1, rfl⟩ := more_ext _ hd; clear hd
    refine hK _ _ ⟨_, rfl⟩ ?_; clear hK K E
    refine mix_row (by rfl) (by rfl) 23 (.tmp 9) rfl (w.heap.size + 1) (by rfl) 23 _ _ hY Tryd.underlying23 rfl (size32.trans (by simp [hy])) ?_
    simp only [Act.put, List.setIfInBounds_toArray, List.set_cons_zero, List.set_cons_succ]
    iterate 2 (first | (refine mix_quiet (by rfl) (by rfl) (fun K hK => ?_); go_big_quiet_op; refine hK _ ?_; clear hK K) | (refine mix_skip (by rfl) ?_; simp only [Act.put, List.setIfInBounds_toArray, List.set_cons_zero, List.set_cons_succ]))
    (refine mix_loud (by rfl) (by rfl) (fun K E hK => ?_); go_big_op)
    refine (HWb.out _ (hKs _) (hrbs _) (hrTs _)).mono ?_; rintro e w6 ⟨v6, rfl, hO2, hd⟩
    replace hO1 := owns_ext hO1 hd
    obtain ⟨x2, rfl⟩ := more_ext _ hd; clear hd
    refine hK _ _ ⟨_, rfl⟩ ?_; clear hK K E
    obtain ⟨A5, c5, rfl, hr5⟩ := ownT_rd hO1
    obtain ⟨A6, c6, rfl, hr6⟩ := ownT_rd hO2
    clear hO1 hO2
    (refine mix_loud (by rfl) (by rfl) (fun K E hK => ?_); go_big_op)
    refine (HFi.out A5 A6 c5 c6 _ (hKs _) hr5 hr6).mono ?_; rw [← HR2.out]; rintro e w7 ⟨rfl, hd⟩
    obtain ⟨x3, rfl⟩ := more_ext _ hd; clear hd hr5 hr6
    refine hK _ _ ⟨_, rfl⟩ ?_; clear hK K E
    repeat (first | (refine mix_quiet (by rfl) (by rfl) (fun K hK => ?_); go_big_quiet_op; refine hK _ ?_; clear hK K) | (refine mix_skip (by rfl) ?_; simp only [Act.put, List.setIfInBounds_toArray, List.set_cons_zero, List.set_cons_succ]))
    refine mix_nil ?_
    have e9 := grow_ext x3
    clear hKs hras hrbs hrTs
    generalize grow wt x3 = w9 at *
    replace hZ := Blk.below hZ e9 (Blk.lt hZ)
    replace hE := hE.trans e9
    clear e9
    have f0 := Blk.frozen hZ 0
    have f1 := Blk.frozen hZ 1
    have z0 : w9.cell? ⟨w.heap.size + 1 + 1, 0, none⟩ = some (.string (bs [])) := Blk.cell hZ 0
    have z1 : w9.cell? ⟨w.heap.size + 1 + 1, 1, none⟩ = some (.string (bs [])) := Blk.cell hZ 1
    have hzl := Blk.lt hZ
    unfold twC
    obtain ⟨s, hs⟩ : ∃ s, s = (R.getD ([], [])).1 := ⟨_, rfl⟩
    obtain ⟨t, ht⟩ : ∃ t, t = (R.getD ([], [])).2 := ⟨_, rfl⟩
    rw [← hs, ← ht]
    have HS := Lib.hid hs
    have HTT := Lib.hid ht
    clear hs ht
    have hR5 := Blk.set_ (Blk.set_ hZ 0 (.string (bs s))) 1 (.string (bs t))
    go_wp2_with fail
    refine bodyPost_ret (res_cell_t rfl _ _ (w.heap.size + 1 + 1) 57 _ _ rfl hR5 Tryd.underlying57 rfl size_twins) rfl ?_
    exact ⟨by rw [HS.out, HTT.out]; rfl, (hE.setCell (by simp; omega) _).setCell (by simp; omega) _⟩
  · skip
    have hgt : (T.length : Int) < (a.length : Int) := by omega
    have hgtN : T.length < a.length := by omega
    have ha0 : 0 < a.length := by omega
    have hb0 : 0 < b.length := by rw [← Hab.out]; exact ha0
    have ha0I : (0 : Int) < (a.length : Int) := by omega
    have hb0I : (0 : Int) < (b.length : Int) := by omega
    have ha1I : (1 : Int) ≤ (a.length : Int) := by omega
    have hb1I : (1 : Int) ≤ (b.length : Int) := by omega
    obtain ⟨ba, oa, rfl, hba, hma0⟩ := rds_mid hra0 ha (k := 0) ha0
    obtain ⟨bb, ob, rfl, hbb, hmb0⟩ := rds_mid hrb0 hb (k := 0) hb0
    simp only [Nat.zero_mul, Nat.add_zero] at hma0 hmb0
    have hda : a[0]'ha0 = a.headD x := by cases a with
      | nil => simp at ha0
      | cons u v => rfl
    have hdb : b[0]'hb0 = b.headD y := by cases b with
      | nil => simp at hb0
      | cons u v => rfl
    rw [hda] at hma0
    rw [hdb] at hmb0
    have hxa := headD_length a ha x hx
    have hyb := headD_length b hb y hy
    have hta := tail_all ha
    have htb := tail_all hb
    have hla1 : a.tail.length = a.length - 1 := List.length_tail
    have hlb1 : b.tail.length = b.length - 1 := List.length_tail
    have hlab := Hab.out
    have hR2 : R = firstO (wayS (a.headD x) T a.tail) (wayS (b.headD y) T b.tail) := HRR.out.trans (if_neg (by omega))
    have HR2 := Lib.hid hR2
    have hTa : T.length = a.tail.length := by omega
    have hTb : T.length = b.tail.length := by omega
    have hlat : a.tail.length ≤ 1000000 := by omega
    have hlbt : b.tail.length ≤ 1000000 := by omega
    have hfi := first_calls (wayS (a.headD x) T a.tail) (wayS (b.headD y) T b.tail) (fun s hs => by rw [wayS_bound T a.tail (a.headD x) hxa hta s hs]; omega) (fun s hs => by rw [wayS_bound T b.tail (b.headD y) hyb htb s hs]; omega) (by rw [way_len _ T a.tail hTa]; exact hlat) (by rw [way_len _ T b.tail hTb]; exact hlbt)
    have hwa := fun A c => way_calls (a.headD x) hxa A c a.tail hta hlat T BT cT hTa
    have hwb := fun A c => way_calls (b.headD y) hyb A c b.tail htb hlbt T BT cT hTb
    rw [← HR2.out] at hfi
    have HFi := Lib.hid hfi
    have Hwa := Lib.hid hwa
    have Hwb := Lib.hid hwb
    have hdra := rds_drop hra0 ha 1
    have hdrb := rds_drop hrb0 hb 1
    rw [List.drop_one] at hdra hdrb
    clear hfi hwa hwb hR2 HRR hda hdb
    generalize a.headD x = x' at *
    generalize b.headD y = y' at *
    generalize ha' : a.tail = a' at *
    generalize hb' : b.tail = b' at *
    clear hra hrb
    have hba2 : ba < wt.heap.size := Nat.lt_of_lt_of_le hba hE.size
    have hma : wt.rangeAt ba oa (hcells x') := fun i u hu => ((ext_cells hE).1 ba _ hba).trans (hma0 i u hu)
    have Hla1 := Lib.hid hla1
    have Hlb1 := Lib.hid hlb1
    have HTa := Lib.hid hTa
    have HTb := Lib.hid hTb
    have Hwh := Lib.hid hwh
    clear hla1 hlb1 hTa hTb hwh hlab ha' hb'
    by_cases hca1 : ca = 1
    · by_cases hcb1 : cb = 1
      · skip
        subst hca1
        have hal1 : a.length = 1 := by omega
        have hna : a' = [] := List.eq_nil_of_length_eq_zero (by rw [Hla1.out]; omega)
        subst hcb1
        have hnb : b' = [] := List.eq_nil_of_length_eq_zero (by rw [Hlb1.out]; omega)
        have Hna := Lib.hid hna
        clear hna hal1
        have Hnb := Lib.hid hnb
        clear hnb
        go_wp2_with fail
        refine region_keep0 (fun k => k ≠ w.heap.size) (by kernel_rfl) (by kernel_rfl) ?_
        iterate 2 (first | (refine mix_quiet (by rfl) (by rfl) (fun K hK => ?_); go_big_quiet_op; refine hK _ ?_; clear hK K) | (refine mix_skip (by rfl) ?_; simp only [Act.put, List.setIfInBounds_toArray, List.set_cons_zero, List.set_cons_succ]))
        refine held_mid (by rfl) (by rfl) 23 (.tmp 60) rfl ba oa (by rfl) (hcells x') _ hma hba2 (by omega) Tryd.underlying23 rfl (size32l _ hxa) ?_
        simp only [Act.put, List.setIfInBounds_toArray, List.set_cons_zero, List.set_cons_succ]
        unfold hcells
        iterate 2 (first | (refine mix_quiet (by rfl) (by rfl) (fun K hK => ?_); go_big_quiet_op; refine hK _ ?_; clear hK K) | (refine mix_skip (by rfl) ?_; simp only [Act.put, List.setIfInBounds_toArray, List.set_cons_zero, List.set_cons_succ]))
        have jk : Keep (fun k => k ≠ w.heap.size) wt (wt.drew.setRow (w.heap.size) ((x').map byteV).toArray) := (Keep.refl _ _).drew.trans (Keep.of_upd ((Upd.refl _ _).row _) (fun h => h rfl))
        refine mix_store_row (by rfl) (by rfl) 23 (.tmp 8) (.tmp 61) rfl (w.heap.size) ((x').map byteV).toArray (by rfl) (by rfl) 23 _ (Blk.drew hX) (size32.trans (by simp [hxa])) (by simp [hxa, hx]) (by simp [byteV, Value.oneCell']) (held_of jk) ?_
        simp only [Act.put, List.setIfInBounds_toArray, List.set_cons_zero, List.set_cons_succ]
        iterate 1 (first | (refine mix_quiet (by rfl) (by rfl) (fun K hK => ?_); go_big_quiet_op; refine hK _ ?_; clear hK K) | (refine mix_skip (by rfl) ?_; simp only [Act.put, List.setIfInBounds_toArray, List.set_cons_zero, List.set_cons_succ]))
        refine mix_nil ?_
        have hXn : ArrB (wt.drew.setRow (w.heap.size) ((x').map byteV).toArray) (w.heap.size) 23 x' := Blk.row (Blk.drew hX) _
        generalize wt.drew.setRow (w.heap.size) ((x').map byteV).toArray = wu at *
        have jk1 : Keep (fun k => k ≠ w.heap.size ∧ k ≠ w.heap.size + 1) wt wu := jk.mono (fun k _ h => h.1)
        have hYu : ArrB wu (w.heap.size + 1) 23 y := Blk.kept hY jk (by omega)
        have hEu : Ext w wu := ((Keep.of_ext (S := fun k => k < w.heap.size) hE).trans (jk.mono (fun k _ h => by omega))).ext
        have hmb : wu.rangeAt bb ob (hcells y') := fun i u hu => ((ext_cells hEu).1 bb _ hbb).trans (hmb0 i u hu)
        have hbb2 : bb < wu.heap.size := Nat.lt_of_lt_of_le hbb hEu.size
        clear hX hY jk hma hba2
        go_wp2_with fail
        refine region_keep0 (fun k => k ≠ w.heap.size + 1) (by kernel_rfl) (by kernel_rfl) ?_
        iterate 2 (first | (refine mix_quiet (by rfl) (by rfl) (fun K hK => ?_); go_big_quiet_op; refine hK _ ?_; clear hK K) | (refine mix_skip (by rfl) ?_; simp only [Act.put, List.setIfInBounds_toArray, List.set_cons_zero, List.set_cons_succ]))
        refine held_mid (by rfl) (by rfl) 23 (.tmp 65) rfl bb ob (by rfl) (hcells y') _ hmb hbb2 (by omega) Tryd.underlying23 rfl (size32l _ hyb) ?_
        simp only [Act.put, List.setIfInBounds_toArray, List.set_cons_zero, List.set_cons_succ]
        unfold hcells
        iterate 2 (first | (refine mix_quiet (by rfl) (by rfl) (fun K hK => ?_); go_big_quiet_op; refine hK _ ?_; clear hK K) | (refine mix_skip (by rfl) ?_; simp only [Act.put, List.setIfInBounds_toArray, List.set_cons_zero, List.set_cons_succ]))
        have jk : Keep (fun k => k ≠ w.heap.size + 1) wu (wu.drew.setRow (w.heap.size + 1) ((y').map byteV).toArray) := (Keep.refl _ _).drew.trans (Keep.of_upd ((Upd.refl _ _).row _) (fun h => h rfl))
        refine mix_store_row (by rfl) (by rfl) 23 (.tmp 9) (.tmp 66) rfl (w.heap.size + 1) ((y').map byteV).toArray (by rfl) (by rfl) 23 _ (Blk.drew hYu) (size32.trans (by simp [hyb])) (by simp [hyb, hy]) (by simp [byteV, Value.oneCell']) (held_of jk) ?_
        simp only [Act.put, List.setIfInBounds_toArray, List.set_cons_zero, List.set_cons_succ]
        iterate 1 (first | (refine mix_quiet (by rfl) (by rfl) (fun K hK => ?_); go_big_quiet_op; refine hK _ ?_; clear hK K) | (refine mix_skip (by rfl) ?_; simp only [Act.put, List.setIfInBounds_toArray, List.set_cons_zero, List.set_cons_succ]))
        refine mix_nil ?_
        have hYn : ArrB (wu.drew.setRow (w.heap.size + 1) ((y').map byteV).toArray) (w.heap.size + 1) 23 y' := Blk.row (Blk.drew hYu) _
        generalize wu.drew.setRow (w.heap.size + 1) ((y').map byteV).toArray = wv at *
        have hkk := jk1.trans (jk.mono (S := fun k => k ≠ w.heap.size + 1) (fun k _ h => h.2))
        have hX : ArrB wv w.heap.size 23 x' := Blk.kept hXn jk (by omega)
        have hY := hYn
        have hZv := Blk.kept hZ hkk ⟨by omega, by omega⟩
        have hEv : Ext w wv := ((Keep.of_ext (S := fun k => k < w.heap.size) hE).trans (hkk.mono (fun k _ h => ⟨by omega, by omega⟩))).ext
        have hrTv : Rd wv wv.heap.size BT (T.map Value.bool) := fun hne => by
          obtain ⟨b5, o5, e5, hb5, hc5⟩ := hrT hne
          have := hBb b5 o5 e5
          exact ⟨b5, o5, e5, Nat.lt_of_lt_of_le hb5 hkk.size, fun j u hu => (World.cell?_of_block (hkk.block b5 hb5 ⟨by omega, by omega⟩)).trans (hc5 j u hu)⟩
        clear hXn hYn hYu jk1 jk hkk hmb hbb2 hZ hE hEu hrT
        have hZ := hZv
        have hE := hEv
        have hrT := hrTv
        clear hZv hEv hrTv
        have hra : Rd wv wv.heap.size (some ⟨ba, oa, none⟩) (flatS a') := by rw [Hna.out]; exact Rd.nil
        have hwa := Hwa.out (some ⟨ba, oa, none⟩) 0
        rw [show a'.length = 0 from by rw [Hna.out]; rfl] at hwa
        have hrb : Rd wv wv.heap.size (some ⟨bb, ob, none⟩) (flatS b') := by rw [Hnb.out]; exact Rd.nil
        have hwb := Hwb.out (some ⟨bb, ob, none⟩) 0
        rw [show b'.length = 0 from by rw [Hnb.out]; rfl] at hwb
        have HWa := Lib.hid hwa
        have HWb := Lib.hid hwb
        clear hwa hwb
        clear z0 z1 f0 f1 hzl
        have hKs : ∀ z : More wv, Keys (grow wv z) := fun z => KW.ext (hE.trans (grow_ext z))
        have hras : ∀ z : More wv, Rd (grow wv z) (grow wv z).heap.size (some ⟨ba, oa, none⟩) (flatS a') := fun z => (hra.below (grow_ext z) (Nat.le_refl _)).more (grow_ext z).size
        have hrbs : ∀ z : More wv, Rd (grow wv z) (grow wv z).heap.size (some ⟨bb, ob, none⟩) (flatS b') := fun z => (hrb.below (grow_ext z) (Nat.le_refl _)).more (grow_ext z).size
        have hrTs : ∀ z : More wv, Rd (grow wv z) (grow wv z).heap.size BT (T.map Value.bool) := fun z => (hrT.below (grow_ext z) (Nat.le_refl _)).more (grow_ext z).size
        clear hra hrb hrT
        go_wp2_with fail
        refine region_mix 11 (by kernel_rfl) (by kernel_rfl) (fun y0 => ?_); simp only [List.take_succ_cons, List.take_zero, List.drop_succ_cons, List.drop_zero]
        refine mix_row (by rfl) (by rfl) 23 (.tmp 8) rfl w.heap.size (by rfl) 23 _ _ hX Tryd.underlying23 rfl (size32.trans (by simp [hxa])) ?_
        simp only [Act.put, List.setIfInBounds_toArray, List.set_cons_zero, List.set_cons_succ]
        iterate 2 (first | (refine mix_quiet (by rfl) (by rfl) (fun K hK => ?_); go_big_quiet_op; refine hK _ ?_; clear hK K) | (refine mix_skip (by rfl) ?_; simp only [Act.put, List.setIfInBounds_toArray, List.set_cons_zero, List.set_cons_succ]))
        (refine mix_loud (by rfl) (by rfl) (fun K E hK => ?_); go_big_op)
        refine (HWa.out _ (hKs _) (hras _) (hrTs _)).mono ?_; rintro e w5 ⟨v5, rfl, hO1, hd⟩
        obtain ⟨x1, rfl⟩ := more_ext _ hd; clear hd
        refine hK _ _ ⟨_, rfl⟩ ?_; clear hK K E
        refine mix_row (by rfl) (by rfl) 23 (.tmp 9) rfl (w.heap.size + 1) (by rfl) 23 _ _ hY Tryd.underlying23 rfl (size32.trans (by simp [hyb])) ?_
        simp only [Act.put, List.setIfInBounds_toArray, List.set_cons_zero, List.set_cons_succ]
        iterate 2 (first | (refine mix_quiet (by rfl) (by rfl) (fun K hK => ?_); go_big_quiet_op; refine hK _ ?_; clear hK K) | (refine mix_skip (by rfl) ?_; simp only [Act.put, List.setIfInBounds_toArray, List.set_cons_zero, List.set_cons_succ]))
        (refine mix_loud (by rfl) (by rfl) (fun K E hK => ?_); go_big_op)
        refine (HWb.out _ (hKs _) (hrbs _) (hrTs _)).mono ?_; rintro e w6 ⟨v6, rfl, hO2, hd⟩
        replace hO1 := owns_ext hO1 hd
        obtain ⟨x2, rfl⟩ := more_ext _ hd; clear hd
        refine hK _ _ ⟨_, rfl⟩ ?_; clear hK K E
        obtain ⟨A5, c5, rfl, hr5⟩ := ownT_rd hO1
        obtain ⟨A6, c6, rfl, hr6⟩ := ownT_rd hO2
        clear hO1 hO2
        (refine mix_loud (by rfl) (by rfl) (fun K E hK => ?_); go_big_op)
        refine (HFi.out A5 A6 c5 c6 _ (hKs _) hr5 hr6).mono ?_; rintro e w7 ⟨rfl, hd⟩
        obtain ⟨x3, rfl⟩ := more_ext _ hd; clear hd hr5 hr6
        refine hK _ _ ⟨_, rfl⟩ ?_; clear hK K E
        repeat (first | (refine mix_quiet (by rfl) (by rfl) (fun K hK => ?_); go_big_quiet_op; refine hK _ ?_; clear hK K) | (refine mix_skip (by rfl) ?_; simp only [Act.put, List.setIfInBounds_toArray, List.set_cons_zero, List.set_cons_succ]))
        refine mix_nil ?_
        have e9 := grow_ext x3
        clear hKs hras hrbs hrTs
        generalize grow wv x3 = w9 at *
        replace hZ := Blk.below hZ e9 (Blk.lt hZ)
        replace hE := hE.trans e9
        clear e9
        have f0 := Blk.frozen hZ 0
        have f1 := Blk.frozen hZ 1
        have z0 : w9.cell? ⟨w.heap.size + 1 + 1, 0, none⟩ = some (.string (bs [])) := Blk.cell hZ 0
        have z1 : w9.cell? ⟨w.heap.size + 1 + 1, 1, none⟩ = some (.string (bs [])) := Blk.cell hZ 1
        have hzl := Blk.lt hZ
        unfold twC
        obtain ⟨s, hs⟩ : ∃ s, s = (R.getD ([], [])).1 := ⟨_, rfl⟩
        obtain ⟨t, ht⟩ : ∃ t, t = (R.getD ([], [])).2 := ⟨_, rfl⟩
        rw [← hs, ← ht]
        have HS := Lib.hid hs
        have HTT := Lib.hid ht
        clear hs ht
        have hR5 := Blk.set_ (Blk.set_ hZ 0 (.string (bs s))) 1 (.string (bs t))
        go_wp2_with fail
        refine bodyPost_ret (res_cell_t rfl _ _ (w.heap.size + 1 + 1) 57 _ _ rfl hR5 Tryd.underlying57 rfl size_twins) rfl ?_
        exact ⟨by rw [HS.out, HTT.out]; rfl, (hE.setCell (by simp; omega) _).setCell (by simp; omega) _⟩
      · skip
        subst hca1
        have hal1 : a.length = 1 := by omega
        have hna : a' = [] := List.eq_nil_of_length_eq_zero (by rw [Hla1.out]; omega)
        have hcb2 : 1 < cb := by omega
        have Hna := Lib.hid hna
        clear hna hal1
        go_wp2_with fail
        refine region_keep0 (fun k => k ≠ w.heap.size) (by kernel_rfl) (by kernel_rfl) ?_
        iterate 2 (first | (refine mix_quiet (by rfl) (by rfl) (fun K hK => ?_); go_big_quiet_op; refine hK _ ?_; clear hK K) | (refine mix_skip (by rfl) ?_; simp only [Act.put, List.setIfInBounds_toArray, List.set_cons_zero, List.set_cons_succ]))
        refine held_mid (by rfl) (by rfl) 23 (.tmp 60) rfl ba oa (by rfl) (hcells x') _ hma hba2 (by omega) Tryd.underlying23 rfl (size32l _ hxa) ?_
        simp only [Act.put, List.setIfInBounds_toArray, List.set_cons_zero, List.set_cons_succ]
        unfold hcells
        iterate 2 (first | (refine mix_quiet (by rfl) (by rfl) (fun K hK => ?_); go_big_quiet_op; refine hK _ ?_; clear hK K) | (refine mix_skip (by rfl) ?_; simp only [Act.put, List.setIfInBounds_toArray, List.set_cons_zero, List.set_cons_succ]))
        have jk : Keep (fun k => k ≠ w.heap.size) wt (wt.drew.setRow (w.heap.size) ((x').map byteV).toArray) := (Keep.refl _ _).drew.trans (Keep.of_upd ((Upd.refl _ _).row _) (fun h => h rfl))
        refine mix_store_row (by rfl) (by rfl) 23 (.tmp 8) (.tmp 61) rfl (w.heap.size) ((x').map byteV).toArray (by rfl) (by rfl) 23 _ (Blk.drew hX) (size32.trans (by simp [hxa])) (by simp [hxa, hx]) (by simp [byteV, Value.oneCell']) (held_of jk) ?_
        simp only [Act.put, List.setIfInBounds_toArray, List.set_cons_zero, List.set_cons_succ]
        iterate 1 (first | (refine mix_quiet (by rfl) (by rfl) (fun K hK => ?_); go_big_quiet_op; refine hK _ ?_; clear hK K) | (refine mix_skip (by rfl) ?_; simp only [Act.put, List.setIfInBounds_toArray, List.set_cons_zero, List.set_cons_succ]))
        refine mix_nil ?_
        have hXn : ArrB (wt.drew.setRow (w.heap.size) ((x').map byteV).toArray) (w.heap.size) 23 x' := Blk.row (Blk.drew hX) _
        generalize wt.drew.setRow (w.heap.size) ((x').map byteV).toArray = wu at *
        have jk1 : Keep (fun k => k ≠ w.heap.size ∧ k ≠ w.heap.size + 1) wt wu := jk.mono (fun k _ h => h.1)
        have hYu : ArrB wu (w.heap.size + 1) 23 y := Blk.kept hY jk (by omega)
        have hEu : Ext w wu := ((Keep.of_ext (S := fun k => k < w.heap.size) hE).trans (jk.mono (fun k _ h => by omega))).ext
        have hmb : wu.rangeAt bb ob (hcells y') := fun i u hu => ((ext_cells hEu).1 bb _ hbb).trans (hmb0 i u hu)
        have hbb2 : bb < wu.heap.size := Nat.lt_of_lt_of_le hbb hEu.size
        clear hX hY jk hma hba2
        go_wp2_with fail
        refine region_keep0 (fun k => k ≠ w.heap.size + 1) (by kernel_rfl) (by kernel_rfl) ?_
        iterate 2 (first | (refine mix_quiet (by rfl) (by rfl) (fun K hK => ?_); go_big_quiet_op; refine hK _ ?_; clear hK K) | (refine mix_skip (by rfl) ?_; simp only [Act.put, List.setIfInBounds_toArray, List.set_cons_zero, List.set_cons_succ]))
        refine held_mid (by rfl) (by rfl) 23 (.tmp 65) rfl bb ob (by rfl) (hcells y') _ hmb hbb2 (by omega) Tryd.underlying23 rfl (size32l _ hyb) ?_
        simp only [Act.put, List.setIfInBounds_toArray, List.set_cons_zero, List.set_cons_succ]
        unfold hcells
        iterate 2 (first | (refine mix_quiet (by rfl) (by rfl) (fun K hK => ?_); go_big_quiet_op; refine hK _ ?_; clear hK K) | (refine mix_skip (by rfl) ?_; simp only [Act.put, List.setIfInBounds_toArray, List.set_cons_zero, List.set_cons_succ]))
        have jk : Keep (fun k => k ≠ w.heap.size + 1) wu (wu.drew.setRow (w.heap.size + 1) ((y').map byteV).toArray) := (Keep.refl _ _).drew.trans (Keep.of_upd ((Upd.refl _ _).row _) (fun h => h rfl))
        refine mix_store_row (by rfl) (by rfl) 23 (.tmp 9) (.tmp 66) rfl (w.heap.size + 1) ((y').map byteV).toArray (by rfl) (by rfl) 23 _ (Blk.drew hYu) (size32.trans (by simp [hyb])) (by simp [hyb, hy]) (by simp [byteV, Value.oneCell']) (held_of jk) ?_
        simp only [Act.put, List.setIfInBounds_toArray, List.set_cons_zero, List.set_cons_succ]
        iterate 1 (first | (refine mix_quiet (by rfl) (by rfl) (fun K hK => ?_); go_big_quiet_op; refine hK _ ?_; clear hK K) | (refine mix_skip (by rfl) ?_; simp only [Act.put, List.setIfInBounds_toArray, List.set_cons_zero, List.set_cons_succ]))
        refine mix_nil ?_
        have hYn : ArrB (wu.drew.setRow (w.heap.size + 1) ((y').map byteV).toArray) (w.heap.size + 1) 23 y' := Blk.row (Blk.drew hYu) _
        generalize wu.drew.setRow (w.heap.size + 1) ((y').map byteV).toArray = wv at *
        have hkk := jk1.trans (jk.mono (S := fun k => k ≠ w.heap.size + 1) (fun k _ h => h.2))
        have hX : ArrB wv w.heap.size 23 x' := Blk.kept hXn jk (by omega)
        have hY := hYn
        have hZv := Blk.kept hZ hkk ⟨by omega, by omega⟩
        have hEv : Ext w wv := ((Keep.of_ext (S := fun k => k < w.heap.size) hE).trans (hkk.mono (fun k _ h => ⟨by omega, by omega⟩))).ext
        have hrTv : Rd wv wv.heap.size BT (T.map Value.bool) := fun hne => by
          obtain ⟨b5, o5, e5, hb5, hc5⟩ := hrT hne
          have := hBb b5 o5 e5
          exact ⟨b5, o5, e5, Nat.lt_of_lt_of_le hb5 hkk.size, fun j u hu => (World.cell?_of_block (hkk.block b5 hb5 ⟨by omega, by omega⟩)).trans (hc5 j u hu)⟩
        clear hXn hYn hYu jk1 jk hkk hmb hbb2 hZ hE hEu hrT
        have hZ := hZv
        have hE := hEv
        have hrT := hrTv
        clear hZv hEv hrTv
        have hra : Rd wv wv.heap.size (some ⟨ba, oa, none⟩) (flatS a') := by rw [Hna.out]; exact Rd.nil
        have hwa := Hwa.out (some ⟨ba, oa, none⟩) 0
        rw [show a'.length = 0 from by rw [Hna.out]; rfl] at hwa
        have hrb : Rd wv wv.heap.size (some ⟨bb, ob + 32, none⟩) (flatS b') := (hdrb.below hE (Nat.le_refl _)).more hE.size
        have hwb := Hwb.out (some ⟨bb, ob + 32, none⟩) (cb - 1)
        rw [Hlb1.out] at hwb
        have HWa := Lib.hid hwa
        have HWb := Lib.hid hwb
        clear hwa hwb
        clear z0 z1 f0 f1 hzl
        have hKs : ∀ z : More wv, Keys (grow wv z) := fun z => KW.ext (hE.trans (grow_ext z))
        have hras : ∀ z : More wv, Rd (grow wv z) (grow wv z).heap.size (some ⟨ba, oa, none⟩) (flatS a') := fun z => (hra.below (grow_ext z) (Nat.le_refl _)).more (grow_ext z).size
        have hrbs : ∀ z : More wv, Rd (grow wv z) (grow wv z).heap.size (some ⟨bb, ob + 32, none⟩) (flatS b') := fun z => (hrb.below (grow_ext z) (Nat.le_refl _)).more (grow_ext z).size
        have hrTs : ∀ z : More wv, Rd (grow wv z) (grow wv z).heap.size BT (T.map Value.bool) := fun z => (hrT.below (grow_ext z) (Nat.le_refl _)).more (grow_ext z).size
        clear hra hrb hrT
        go_wp2_with fail
        refine region_mix 11 (by kernel_rfl) (by kernel_rfl) (fun y0 => ?_); simp only [List.take_succ_cons, List.take_zero, List.drop_succ_cons, List.drop_zero]
        refine mix_row (by rfl) (by rfl) 23 (.tmp 8) rfl w.heap.size (by rfl) 23 _ _ hX Tryd.underlying23 rfl (size32.trans (by simp [hxa])) ?_
        simp only [Act.put, List.setIfInBounds_toArray, List.set_cons_zero, List.set_cons_succ]
        iterate 2 (first | (refine mix_quiet (by rfl) (by rfl) (fun K hK => ?_); go_big_quiet_op; refine hK _ ?_; clear hK K) | (refine mix_skip (by rfl) ?_; simp only [Act.put, List.setIfInBounds_toArray, List.set_cons_zero, List.set_cons_succ]))
        (refine mix_loud (by rfl) (by rfl) (fun K E hK => ?_); go_big_op)
        refine (HWa.out _ (hKs _) (hras _) (hrTs _)).mono ?_; rintro e w5 ⟨v5, rfl, hO1, hd⟩
        obtain ⟨x1, rfl⟩ := more_ext _ hd; clear hd
        refine hK _ _ ⟨_, rfl⟩ ?_; clear hK K E
        refine mix_row (by rfl) (by rfl) 23 (.tmp 9) rfl (w.heap.size + 1) (by rfl) 23 _ _ hY Tryd.underlying23 rfl (size32.trans (by simp [hyb])) ?_
        simp only [Act.put, List.setIfInBounds_toArray, List.set_cons_zero, List.set_cons_succ]
        iterate 2 (first | (refine mix_quiet (by rfl) (by rfl) (fun K hK => ?_); go_big_quiet_op; refine hK _ ?_; clear hK K) | (refine mix_skip (by rfl) ?_; simp only [Act.put, List.setIfInBounds_toArray, List.set_cons_zero, List.set_cons_succ]))
        (refine mix_loud (by rfl) (by rfl) (fun K E hK => ?_); go_big_op)
        refine (HWb.out _ (hKs _) (hrbs _) (hrTs _)).mono ?_; rintro e w6 ⟨v6, rfl, hO2, hd⟩
        replace hO1 := owns_ext hO1 hd
        obtain ⟨x2, rfl⟩ := more_ext _ hd; clear hd
        refine hK _ _ ⟨_, rfl⟩ ?_; clear hK K E
        obtain ⟨A5, c5, rfl, hr5⟩ := ownT_rd hO1
        obtain ⟨A6, c6, rfl, hr6⟩ := ownT_rd hO2
        clear hO1 hO2
        (refine mix_loud (by rfl) (by rfl) (fun K E hK => ?_); go_big_op)
        refine (HFi.out A5 A6 c5 c6 _ (hKs _) hr5 hr6).mono ?_; rintro e w7 ⟨rfl, hd⟩
        obtain ⟨x3, rfl⟩ := more_ext _ hd; clear hd hr5 hr6
        refine hK _ _ ⟨_, rfl⟩ ?_; clear hK K E
        repeat (first | (refine mix_quiet (by rfl) (by rfl) (fun K hK => ?_); go_big_quiet_op; refine hK _ ?_; clear hK K) | (refine mix_skip (by rfl) ?_; simp only [Act.put, List.setIfInBounds_toArray, List.set_cons_zero, List.set_cons_succ]))
        refine mix_nil ?_
        have e9 := grow_ext x3
        clear hKs hras hrbs hrTs
        generalize grow wv x3 = w9 at *
        replace hZ := Blk.below hZ e9 (Blk.lt hZ)
        replace hE := hE.trans e9
        clear e9
        have f0 := Blk.frozen hZ 0
        have f1 := Blk.frozen hZ 1
        have z0 : w9.cell? ⟨w.heap.size + 1 + 1, 0, none⟩ = some (.string (bs [])) := Blk.cell hZ 0
        have z1 : w9.cell? ⟨w.heap.size + 1 + 1, 1, none⟩ = some (.string (bs [])) := Blk.cell hZ 1
        have hzl := Blk.lt hZ
        unfold twC
        obtain ⟨s, hs⟩ : ∃ s, s = (R.getD ([], [])).1 := ⟨_, rfl⟩
        obtain ⟨t, ht⟩ : ∃ t, t = (R.getD ([], [])).2 := ⟨_, rfl⟩
        rw [← hs, ← ht]
        have HS := Lib.hid hs
        have HTT := Lib.hid ht
        clear hs ht
        have hR5 := Blk.set_ (Blk.set_ hZ 0 (.string (bs s))) 1 (.string (bs t))
        go_wp2_with fail
        refine bodyPost_ret (res_cell_t rfl _ _ (w.heap.size + 1 + 1) 57 _ _ rfl hR5 Tryd.underlying57 rfl size_twins) rfl ?_
        exact ⟨by rw [HS.out, HTT.out]; rfl, (hE.setCell (by simp; omega) _).setCell (by simp; omega) _⟩
    · by_cases hcb1 : cb = 1
      · skip
        have hca2 : 1 < ca := by omega
        subst hcb1
        have hnb : b' = [] := List.eq_nil_of_length_eq_zero (by rw [Hlb1.out]; omega)
        have Hnb := Lib.hid hnb
        clear hnb
        go_wp2_with fail
        refine region_keep0 (fun k => k ≠ w.heap.size) (by kernel_rfl) (by kernel_rfl) ?_
        iterate 2 (first | (refine mix_quiet (by rfl) (by rfl) (fun K hK => ?_); go_big_quiet_op; refine hK _ ?_; clear hK K) | (refine mix_skip (by rfl) ?_; simp only [Act.put, List.setIfInBounds_toArray, List.set_cons_zero, List.set_cons_succ]))
        refine held_mid (by rfl) (by rfl) 23 (.tmp 60) rfl ba oa (by rfl) (hcells x') _ hma hba2 (by omega) Tryd.underlying23 rfl (size32l _ hxa) ?_
        simp only [Act.put, List.setIfInBounds_toArray, List.set_cons_zero, List.set_cons_succ]
        unfold hcells
        iterate 2 (first | (refine mix_quiet (by rfl) (by rfl) (fun K hK => ?_); go_big_quiet_op; refine hK _ ?_; clear hK K) | (refine mix_skip (by rfl) ?_; simp only [Act.put, List.setIfInBounds_toArray, List.set_cons_zero, List.set_cons_succ]))
        have jk : Keep (fun k => k ≠ w.heap.size) wt (wt.drew.setRow (w.heap.size) ((x').map byteV).toArray) := (Keep.refl _ _).drew.trans (Keep.of_upd ((Upd.refl _ _).row _) (fun h => h rfl))
        refine mix_store_row (by rfl) (by rfl) 23 (.tmp 8) (.tmp 61) rfl (w.heap.size) ((x').map byteV).toArray (by rfl) (by rfl) 23 _ (Blk.drew hX) (size32.trans (by simp [hxa])) (by simp [hxa, hx]) (by simp [byteV, Value.oneCell']) (held_of jk) ?_
        simp only [Act.put, List.setIfInBounds_toArray, List.set_cons_zero, List.set_cons_succ]
        iterate 1 (first | (refine mix_quiet (by rfl) (by rfl) (fun K hK => ?_); go_big_quiet_op; refine hK _ ?_; clear hK K) | (refine mix_skip (by rfl) ?_; simp only [Act.put, List.setIfInBounds_toArray, List.set_cons_zero, List.set_cons_succ]))
        refine mix_nil ?_
        have hXn : ArrB (wt.drew.setRow (w.heap.size) ((x').map byteV).toArray) (w.heap.size) 23 x' := Blk.row (Blk.drew hX) _
        generalize wt.drew.setRow (w.heap.size) ((x').map byteV).toArray = wu at *
        have jk1 : Keep (fun k => k ≠ w.heap.size ∧ k ≠ w.heap.size + 1) wt wu := jk.mono (fun k _ h => h.1)
        have hYu : ArrB wu (w.heap.size + 1) 23 y := Blk.kept hY jk (by omega)
        have hEu : Ext w wu := ((Keep.of_ext (S := fun k => k < w.heap.size) hE).trans (jk.mono (fun k _ h => by omega))).ext
        have hmb : wu.rangeAt bb ob (hcells y') := fun i u hu => ((ext_cells hEu).1 bb _ hbb).trans (hmb0 i u hu)
        have hbb2 : bb < wu.heap.size := Nat.lt_of_lt_of_le hbb hEu.size
        clear hX hY jk hma hba2
        go_wp2_with fail
        refine region_keep0 (fun k => k ≠ w.heap.size + 1) (by kernel_rfl) (by kernel_rfl) ?_
        iterate 2 (first | (refine mix_quiet (by rfl) (by rfl) (fun K hK => ?_); go_big_quiet_op; refine hK _ ?_; clear hK K) | (refine mix_skip (by rfl) ?_; simp only [Act.put, List.setIfInBounds_toArray, List.set_cons_zero, List.set_cons_succ]))
        refine held_mid (by rfl) (by rfl) 23 (.tmp 65) rfl bb ob (by rfl) (hcells y') _ hmb hbb2 (by omega) Tryd.underlying23 rfl (size32l _ hyb) ?_
        simp only [Act.put, List.setIfInBounds_toArray, List.set_cons_zero, List.set_cons_succ]
        unfold hcells
        iterate 2 (first | (refine mix_quiet (by rfl) (by rfl) (fun K hK => ?_); go_big_quiet_op; refine hK _ ?_; clear hK K) | (refine mix_skip (by rfl) ?_; simp only [Act.put, List.setIfInBounds_toArray, List.set_cons_zero, List.set_cons_succ]))
        have jk : Keep (fun k => k ≠ w.heap.size + 1) wu (wu.drew.setRow (w.heap.size + 1) ((y').map byteV).toArray) := (Keep.refl _ _).drew.trans (Keep.of_upd ((Upd.refl _ _).row _) (fun h => h rfl))
        refine mix_store_row (by rfl) (by rfl) 23 (.tmp 9) (.tmp 66) rfl (w.heap.size + 1) ((y').map byteV).toArray (by rfl) (by rfl) 23 _ (Blk.drew hYu) (size32.trans (by simp [hyb])) (by simp [hyb, hy]) (by simp [byteV, Value.oneCell']) (held_of jk) ?_
        simp only [Act.put, List.setIfInBounds_toArray, List.set_cons_zero, List.set_cons_succ]
        iterate 1 (first | (refine mix_quiet (by rfl) (by rfl) (fun K hK => ?_); go_big_quiet_op; refine hK _ ?_; clear hK K) | (refine mix_skip (by rfl) ?_; simp only [Act.put, List.setIfInBounds_toArray, List.set_cons_zero, List.set_cons_succ]))
        refine mix_nil ?_
        have hYn : ArrB (wu.drew.setRow (w.heap.size + 1) ((y').map byteV).toArray) (w.heap.size + 1) 23 y' := Blk.row (Blk.drew hYu) _
        generalize wu.drew.setRow (w.heap.size + 1) ((y').map byteV).toArray = wv at *
        have hkk := jk1.trans (jk.mono (S := fun k => k ≠ w.heap.size + 1) (fun k _ h => h.2))
        have hX : ArrB wv w.heap.size 23 x' := Blk.kept hXn jk (by omega)
        have hY := hYn
        have hZv := Blk.kept hZ hkk ⟨by omega, by omega⟩
        have hEv : Ext w wv := ((Keep.of_ext (S := fun k => k < w.heap.size) hE).trans (hkk.mono (fun k _ h => ⟨by omega, by omega⟩))).ext
        have hrTv : Rd wv wv.heap.size BT (T.map Value.bool) := fun hne => by
          obtain ⟨b5, o5, e5, hb5, hc5⟩ := hrT hne
          have := hBb b5 o5 e5
          exact ⟨b5, o5, e5, Nat.lt_of_lt_of_le hb5 hkk.size, fun j u hu => (World.cell?_of_block (hkk.block b5 hb5 ⟨by omega, by omega⟩)).trans (hc5 j u hu)⟩
        clear hXn hYn hYu jk1 jk hkk hmb hbb2 hZ hE hEu hrT
        have hZ := hZv
        have hE := hEv
        have hrT := hrTv
        clear hZv hEv hrTv
        have hra : Rd wv wv.heap.size (some ⟨ba, oa + 32, none⟩) (flatS a') := (hdra.below hE (Nat.le_refl _)).more hE.size
        have hwa := Hwa.out (some ⟨ba, oa + 32, none⟩) (ca - 1)
        rw [Hla1.out] at hwa
        have hrb : Rd wv wv.heap.size (some ⟨bb, ob, none⟩) (flatS b') := by rw [Hnb.out]; exact Rd.nil
        have hwb := Hwb.out (some ⟨bb, ob, none⟩) 0
        rw [show b'.length = 0 from by rw [Hnb.out]; rfl] at hwb
        have HWa := Lib.hid hwa
        have HWb := Lib.hid hwb
        clear hwa hwb
        clear z0 z1 f0 f1 hzl
        have hKs : ∀ z : More wv, Keys (grow wv z) := fun z => KW.ext (hE.trans (grow_ext z))
        have hras : ∀ z : More wv, Rd (grow wv z) (grow wv z).heap.size (some ⟨ba, oa + 32, none⟩) (flatS a') := fun z => (hra.below (grow_ext z) (Nat.le_refl _)).more (grow_ext z).size
        have hrbs : ∀ z : More wv, Rd (grow wv z) (grow wv z).heap.size (some ⟨bb, ob, none⟩) (flatS b') := fun z => (hrb.below (grow_ext z) (Nat.le_refl _)).more (grow_ext z).size
        have hrTs : ∀ z : More wv, Rd (grow wv z) (grow wv z).heap.size BT (T.map Value.bool) := fun z => (hrT.below (grow_ext z) (Nat.le_refl _)).more (grow_ext z).size
        clear hra hrb hrT
        go_wp2_with fail
        refine region_mix 11 (by kernel_rfl) (by kernel_rfl) (fun y0 => ?_); simp only [List.take_succ_cons, List.take_zero, List.drop_succ_cons, List.drop_zero]
        refine mix_row (by rfl) (by rfl) 23 (.tmp 8) rfl w.heap.size (by rfl) 23 _ _ hX Tryd.underlying23 rfl (size32.trans (by simp [hxa])) ?_
        simp only [Act.put, List.setIfInBounds_toArray, List.set_cons_zero, List.set_cons_succ]
        iterate 2 (first | (refine mix_quiet (by rfl) (by rfl) (fun K hK => ?_); go_big_quiet_op; refine hK _ ?_; clear hK K) | (refine mix_skip (by rfl) ?_; simp only [Act.put, List.setIfInBounds_toArray, List.set_cons_zero, List.set_cons_succ]))
        (refine mix_loud (by rfl) (by rfl) (fun K E hK => ?_); go_big_op)
        refine (HWa.out _ (hKs _) (hras _) (hrTs _)).mono ?_; rintro e w5 ⟨v5, rfl, hO1, hd⟩
        obtain ⟨x1, rfl⟩ := more_ext _ hd; clear hd
        refine hK _ _ ⟨_, rfl⟩ ?_; clear hK K E
        refine mix_row (by rfl) (by rfl) 23 (.tmp 9) rfl (w.heap.size + 1) (by rfl) 23 _ _ hY Tryd.underlying23 rfl (size32.trans (by simp [hyb])) ?_
        simp only [Act.put, List.setIfInBounds_toArray, List.set_cons_zero, List.set_cons_succ]
        iterate 2 (first | (refine mix_quiet (by rfl) (by rfl) (fun K hK => ?_); go_big_quiet_op; refine hK _ ?_; clear hK K) | (refine mix_skip (by rfl) ?_; simp only [Act.put, List.setIfInBounds_toArray, List.set_cons_zero, List.set_cons_succ]))
        (refine mix_loud (by rfl) (by rfl) (fun K E hK => ?_); go_big_op)
        refine (HWb.out _ (hKs _) (hrbs _) (hrTs _)).mono ?_; rintro e w6 ⟨v6, rfl, hO2, hd⟩
        replace hO1 := owns_ext hO1 hd
        obtain ⟨x2, rfl⟩ := more_ext _ hd; clear hd
        refine hK _ _ ⟨_, rfl⟩ ?_; clear hK K E
        obtain ⟨A5, c5, rfl, hr5⟩ := ownT_rd hO1
        obtain ⟨A6, c6, rfl, hr6⟩ := ownT_rd hO2
        clear hO1 hO2
        (refine mix_loud (by rfl) (by rfl) (fun K E hK => ?_); go_big_op)
        refine (HFi.out A5 A6 c5 c6 _ (hKs _) hr5 hr6).mono ?_; rintro e w7 ⟨rfl, hd⟩
        obtain ⟨x3, rfl⟩ := more_ext _ hd; clear hd hr5 hr6
        refine hK _ _ ⟨_, rfl⟩ ?_; clear hK K E
        repeat (first | (refine mix_quiet (by rfl) (by rfl) (fun K hK => ?_); go_big_quiet_op; refine hK _ ?_; clear hK K) | (refine mix_skip (by rfl) ?_; simp only [Act.put, List.setIfInBounds_toArray, List.set_cons_zero, List.set_cons_succ]))
        refine mix_nil ?_
        have e9 := grow_ext x3
        clear hKs hras hrbs hrTs
        generalize grow wv x3 = w9 at *
        replace hZ := Blk.below hZ e9 (Blk.lt hZ)
        replace hE := hE.trans e9
        clear e9
        have f0 := Blk.frozen hZ 0
        have f1 := Blk.frozen hZ 1
        have z0 : w9.cell? ⟨w.heap.size + 1 + 1, 0, none⟩ = some (.string (bs [])) := Blk.cell hZ 0
        have z1 : w9.cell? ⟨w.heap.size + 1 + 1, 1, none⟩ = some (.string (bs [])) := Blk.cell hZ 1
        have hzl := Blk.lt hZ
        unfold twC
        obtain ⟨s, hs⟩ : ∃ s, s = (R.getD ([], [])).1 := ⟨_, rfl⟩
        obtain ⟨t, ht⟩ : ∃ t, t = (R.getD ([], [])).2 := ⟨_, rfl⟩
        rw [← hs, ← ht]
        have HS := Lib.hid hs
        have HTT := Lib.hid ht
        clear hs ht
        have hR5 := Blk.set_ (Blk.set_ hZ 0 (.string (bs s))) 1 (.string (bs t))
        go_wp2_with fail
        refine bodyPost_ret (res_cell_t rfl _ _ (w.heap.size + 1 + 1) 57 _ _ rfl hR5 Tryd.underlying57 rfl size_twins) rfl ?_
        exact ⟨by rw [HS.out, HTT.out]; rfl, (hE.setCell (by simp; omega) _).setCell (by simp; omega) _⟩
      · skip
        have hca2 : 1 < ca := by omega
        have hcb2 : 1 < cb := by omega
        go_wp2_with fail
        refine region_keep0 (fun k => k ≠ w.heap.size) (by kernel_rfl) (by kernel_rfl) ?_
        iterate 2 (first | (refine mix_quiet (by rfl) (by rfl) (fun K hK => ?_); go_big_quiet_op; refine hK _ ?_; clear hK K) | (refine mix_skip (by rfl) ?_; simp only [Act.put, List.setIfInBounds_toArray, List.set_cons_zero, List.set_cons_succ]))
        refine held_mid (by rfl) (by rfl) 23 (.tmp 60) rfl ba oa (by rfl) (hcells x') _ hma hba2 (by omega) Tryd.underlying23 rfl (size32l _ hxa) ?_
        simp only [Act.put, List.setIfInBounds_toArray, List.set_cons_zero, List.set_cons_succ]
        unfold hcells
        iterate 2 (first | (refine mix_quiet (by rfl) (by rfl) (fun K hK => ?_); go_big_quiet_op; refine hK _ ?_; clear hK K) | (refine mix_skip (by rfl) ?_; simp only [Act.put, List.setIfInBounds_toArray, List.set_cons_zero, List.set_cons_succ]))
        have jk : Keep (fun k => k ≠ w.heap.size) wt (wt.drew.setRow (w.heap.size) ((x').map byteV).toArray) := (Keep.refl _ _).drew.trans (Keep.of_upd ((Upd.refl _ _).row _) (fun h => h rfl))
        refine mix_store_row (by rfl) (by rfl) 23 (.tmp 8) (.tmp 61) rfl (w.heap.size) ((x').map byteV).toArray (by rfl) (by rfl) 23 _ (Blk.drew hX) (size32.trans (by simp [hxa])) (by simp [hxa, hx]) (by simp [byteV, Value.oneCell']) (held_of jk) ?_
        simp only [Act.put, List.setIfInBounds_toArray, List.set_cons_zero, List.set_cons_succ]
        iterate 1 (first | (refine mix_quiet (by rfl) (by rfl) (fun K hK => ?_); go_big_quiet_op; refine hK _ ?_; clear hK K) | (refine mix_skip (by rfl) ?_; simp only [Act.put, List.setIfInBounds_toArray, List.set_cons_zero, List.set_cons_succ]))
        refine mix_nil ?_
        have hXn : ArrB (wt.drew.setRow (w.heap.size) ((x').map byteV).toArray) (w.heap.size) 23 x' := Blk.row (Blk.drew hX) _
        generalize wt.drew.setRow (w.heap.size) ((x').map byteV).toArray = wu at *
        have jk1 : Keep (fun k => k ≠ w.heap.size ∧ k ≠ w.heap.size + 1) wt wu := jk.mono (fun k _ h => h.1)
        have hYu : ArrB wu (w.heap.size + 1) 23 y := Blk.kept hY jk (by omega)
        have hEu : Ext w wu := ((Keep.of_ext (S := fun k => k < w.heap.size) hE).trans (jk.mono (fun k _ h => by omega))).ext
        have hmb : wu.rangeAt bb ob (hcells y') := fun i u hu => ((ext_cells hEu).1 bb _ hbb).trans (hmb0 i u hu)
        have hbb2 : bb < wu.heap.size := Nat.lt_of_lt_of_le hbb hEu.size
        clear hX hY jk hma hba2
        go_wp2_with fail
        refine region_keep0 (fun k => k ≠ w.heap.size + 1) (by kernel_rfl) (by kernel_rfl) ?_
        iterate 2 (first | (refine mix_quiet (by rfl) (by rfl) (fun K hK => ?_); go_big_quiet_op; refine hK _ ?_; clear hK K) | (refine mix_skip (by rfl) ?_; simp only [Act.put, List.setIfInBounds_toArray, List.set_cons_zero, List.set_cons_succ]))
        refine held_mid (by rfl) (by rfl) 23 (.tmp 65) rfl bb ob (by rfl) (hcells y') _ hmb hbb2 (by omega) Tryd.underlying23 rfl (size32l _ hyb) ?_
        simp only [Act.put, List.setIfInBounds_toArray, List.set_cons_zero, List.set_cons_succ]
        unfold hcells
        iterate 2 (first | (refine mix_quiet (by rfl) (by rfl) (fun K hK => ?_); go_big_quiet_op; refine hK _ ?_; clear hK K) | (refine mix_skip (by rfl) ?_; simp only [Act.put, List.setIfInBounds_toArray, List.set_cons_zero, List.set_cons_succ]))
        have jk : Keep (fun k => k ≠ w.heap.size + 1) wu (wu.drew.setRow (w.heap.size + 1) ((y').map byteV).toArray) := (Keep.refl _ _).drew.trans (Keep.of_upd ((Upd.refl _ _).row _) (fun h => h rfl))
        refine mix_store_row (by rfl) (by rfl) 23 (.tmp 9) (.tmp 66) rfl (w.heap.size + 1) ((y').map byteV).toArray (by rfl) (by rfl) 23 _ (Blk.drew hYu) (size32.trans (by simp [hyb])) (by simp [hyb, hy]) (by simp [byteV, Value.oneCell']) (held_of jk) ?_
        simp only [Act.put, List.setIfInBounds_toArray, List.set_cons_zero, List.set_cons_succ]
        iterate 1 (first | (refine mix_quiet (by rfl) (by rfl) (fun K hK => ?_); go_big_quiet_op; refine hK _ ?_; clear hK K) | (refine mix_skip (by rfl) ?_; simp only [Act.put, List.setIfInBounds_toArray, List.set_cons_zero, List.set_cons_succ]))
        refine mix_nil ?_
        have hYn : ArrB (wu.drew.setRow (w.heap.size + 1) ((y').map byteV).toArray) (w.heap.size + 1) 23 y' := Blk.row (Blk.drew hYu) _
        generalize wu.drew.setRow (w.heap.size + 1) ((y').map byteV).toArray = wv at *
        have hkk := jk1.trans (jk.mono (S := fun k => k ≠ w.heap.size + 1) (fun k _ h => h.2))
        have hX : ArrB wv w.heap.size 23 x' := Blk.kept hXn jk (by omega)
        have hY := hYn
        have hZv := Blk.kept hZ hkk ⟨by omega, by omega⟩
        have hEv : Ext w wv := ((Keep.of_ext (S := fun k => k < w.heap.size) hE).trans (hkk.mono (fun k _ h => ⟨by omega, by omega⟩))).ext
        have hrTv : Rd wv wv.heap.size BT (T.map Value.bool) := fun hne => by
          obtain ⟨b5, o5, e5, hb5, hc5⟩ := hrT hne
          have := hBb b5 o5 e5
          exact ⟨b5, o5, e5, Nat.lt_of_lt_of_le hb5 hkk.size, fun j u hu => (World.cell?_of_block (hkk.block b5 hb5 ⟨by omega, by omega⟩)).trans (hc5 j u hu)⟩
        clear hXn hYn hYu jk1 jk hkk hmb hbb2 hZ hE hEu hrT
        have hZ := hZv
        have hE := hEv
        have hrT := hrTv
        clear hZv hEv hrTv
        have hra : Rd wv wv.heap.size (some ⟨ba, oa + 32, none⟩) (flatS a') := (hdra.below hE (Nat.le_refl _)).more hE.size
        have hwa := Hwa.out (some ⟨ba, oa + 32, none⟩) (ca - 1)
        rw [Hla1.out] at hwa
        have hrb : Rd wv wv.heap.size (some ⟨bb, ob + 32, none⟩) (flatS b') := (hdrb.below hE (Nat.le_refl _)).more hE.size
        have hwb := Hwb.out (some ⟨bb, ob + 32, none⟩) (cb - 1)
        rw [Hlb1.out] at hwb
        have HWa := Lib.hid hwa
        have HWb := Lib.hid hwb
        clear hwa hwb
        clear z0 z1 f0 f1 hzl
        have hKs : ∀ z : More wv, Keys (grow wv z) := fun z => KW.ext (hE.trans (grow_ext z))
        have hras : ∀ z : More wv, Rd (grow wv z) (grow wv z).heap.size (some ⟨ba, oa + 32, none⟩) (flatS a') := fun z => (hra.below (grow_ext z) (Nat.le_refl _)).more (grow_ext z).size
        have hrbs : ∀ z : More wv, Rd (grow wv z) (grow wv z).heap.size (some ⟨bb, ob + 32, none⟩) (flatS b') := fun z => (hrb.below (grow_ext z) (Nat.le_refl _)).more (grow_ext z).size
        have hrTs : ∀ z : More wv, Rd (grow wv z) (grow wv z).heap.size BT (T.map Value.bool) := fun z => (hrT.below (grow_ext z) (Nat.le_refl _)).more (grow_ext z).size
        clear hra hrb hrT
        go_wp2_with fail
        refine region_mix 11 (by kernel_rfl) (by kernel_rfl) (fun y0 => ?_); simp only [List.take_succ_cons, List.take_zero, List.drop_succ_cons, List.drop_zero]
        refine mix_row (by rfl) (by rfl) 23 (.tmp 8) rfl w.heap.size (by rfl) 23 _ _ hX Tryd.underlying23 rfl (size32.trans (by simp [hxa])) ?_
        simp only [Act.put, List.setIfInBounds_toArray, List.set_cons_zero, List.set_cons_succ]
        iterate 2 (first | (refine mix_quiet (by rfl) (by rfl) (fun K hK => ?_); go_big_quiet_op; refine hK _ ?_; clear hK K) | (refine mix_skip (by rfl) ?_; simp only [Act.put, List.setIfInBounds_toArray, List.set_cons_zero, List.set_cons_succ]))
        (refine mix_loud (by rfl) (by rfl) (fun K E hK => ?_); go_big_op)
        refine (HWa.out _ (hKs _) (hras _) (hrTs _)).mono ?_; rintro e w5 ⟨v5, rfl, hO1, hd⟩
        obtain ⟨x1, rfl⟩ := more_ext _ hd; clear hd
        refine hK _ _ ⟨_, rfl⟩ ?_; clear hK K E
        refine mix_row (by rfl) (by rfl) 23 (.tmp 9) rfl (w.heap.size + 1) (by rfl) 23 _ _ hY Tryd.underlying23 rfl (size32.trans (by simp [hyb])) ?_
        simp only [Act.put, List.setIfInBounds_toArray, List.set_cons_zero, List.set_cons_succ]
        iterate 2 (first | (refine mix_quiet (by rfl) (by rfl) (fun K hK => ?_); go_big_quiet_op; refine hK _ ?_; clear hK K) | (refine mix_skip (by rfl) ?_; simp only [Act.put, List.setIfInBounds_toArray, List.set_cons_zero, List.set_cons_succ]))
        (refine mix_loud (by rfl) (by rfl) (fun K E hK => ?_); go_big_op)
        refine (HWb.out _ (hKs _) (hrbs _) (hrTs _)).mono ?_; rintro e w6 ⟨v6, rfl, hO2, hd⟩
        replace hO1 := owns_ext hO1 hd
        obtain ⟨x2, rfl⟩ := more_ext _ hd; clear hd
        refine hK _ _ ⟨_, rfl⟩ ?_; clear hK K E
        obtain ⟨A5, c5, rfl, hr5⟩ := ownT_rd hO1
        obtain ⟨A6, c6, rfl, hr6⟩ := ownT_rd hO2
        clear hO1 hO2
        (refine mix_loud (by rfl) (by rfl) (fun K E hK => ?_); go_big_op)
        refine (HFi.out A5 A6 c5 c6 _ (hKs _) hr5 hr6).mono ?_; rintro e w7 ⟨rfl, hd⟩
        obtain ⟨x3, rfl⟩ := more_ext _ hd; clear hd hr5 hr6
        refine hK _ _ ⟨_, rfl⟩ ?_; clear hK K E
        repeat (first | (refine mix_quiet (by rfl) (by rfl) (fun K hK => ?_); go_big_quiet_op; refine hK _ ?_; clear hK K) | (refine mix_skip (by rfl) ?_; simp only [Act.put, List.setIfInBounds_toArray, List.set_cons_zero, List.set_cons_succ]))
        refine mix_nil ?_
        have e9 := grow_ext x3
        clear hKs hras hrbs hrTs
        generalize grow wv x3 = w9 at *
        replace hZ := Blk.below hZ e9 (Blk.lt hZ)
        replace hE := hE.trans e9
        clear e9
        have f0 := Blk.frozen hZ 0
        have f1 := Blk.frozen hZ 1
        have z0 : w9.cell? ⟨w.heap.size + 1 + 1, 0, none⟩ = some (.string (bs [])) := Blk.cell hZ 0
        have z1 : w9.cell? ⟨w.heap.size + 1 + 1, 1, none⟩ = some (.string (bs [])) := Blk.cell hZ 1
        have hzl := Blk.lt hZ
        unfold twC
        obtain ⟨s, hs⟩ : ∃ s, s = (R.getD ([], [])).1 := ⟨_, rfl⟩
        obtain ⟨t, ht⟩ : ∃ t, t = (R.getD ([], [])).2 := ⟨_, rfl⟩
        rw [← hs, ← ht]
        have HS := Lib.hid hs
        have HTT := Lib.hid ht
        clear hs ht
        have hR5 := Blk.set_ (Blk.set_ hZ 0 (.string (bs s))) 1 (.string (bs t))
        go_wp2_with fail
        refine bodyPost_ret (res_cell_t rfl _ _ (w.heap.size + 1 + 1) 57 _ _ rfl hR5 Tryd.underlying57 rfl size_twins) rfl ?_
        exact ⟨by rw [HS.out, HTT.out]; rfl, (hE.setCell (by simp; omega) _).setCell (by simp; omega) _⟩

end Go.Proofs.YtfpipdopgepelaaDoor
