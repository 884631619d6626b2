/-
  The document's Bytes of a record, the leaves, and what is read of a record's own bytes.
-/
import Derived.Test.YtlcimlencoaiiaaDoorRec3
import Derived.Test.YtlcimlencoaiiaaDoorLeafA
set_option linter.unusedVariables false
set_option maxRecDepth 100000
set_option linter.unusedSimpArgs false
namespace Go.Proofs.YtlcimlencoaiiaaDoor
open Go.ChangeShapes Go.WideShapes Go.ChangeAt Go.RowKit
attribute [local go_sem] bs_size bs_toList2 bs_append bs_extract_end bs_extract_begin bs_get wrap64_b grow_cell grow_frozen

/-- The bytes that Bytes answers. -/
def Rc.outB (r : Rc) : List UInt8 := if r.check = 0 then r.bytes else []
theorem Rc.outB_length (r : Rc) : r.outB.length ≤ 36 + r.pay.length := by
  unfold Rc.outB
  split
  · have h1 := Oct.put_length (Rc.u64 r.win)
    have h2 := Oct.need_le (Rc.u64 r.win)
    have h3 := Oct.put_length (Rc.u64 r.idx)
    have h4 := Oct.need_le (Rc.u64 r.idx)
    have h5 := Rc.inRow_length r
    simp only [Rc.bytes, List.length_append]; omega
  · simp
theorem Rc.read_bytes (r : Rc) (h : r.check = 0) : Rc.read r.bytes = (r, 0) := by
  obtain ⟨⟨w0, w1, t0, t1, i0, i1⟩, hp⟩ := Rc.may_of r h
  have hlt : ∀ t, Rc.u64 t < 18446744073709551616 := fun t => by have := Rc.u64_lt t; omega
  have e1 := Rc.u64_id r.win w0 (by omega)
  have e2 := Rc.u64_id r.idx i0 (by omega)
  have e3 := Rc.u64_id r.time t0 (by omega)
  have n1 := Oct.num_put (Rc.u64 r.win) (hlt _) (Oct.put (Rc.u64 r.idx) ++ (Oct.put (Rc.u64 r.time) ++ Oct.text r.pay)) 1125899906842624 (by omega)
  have n2 := Oct.num_put (Rc.u64 r.idx) (hlt _) (Oct.put (Rc.u64 r.time) ++ Oct.text r.pay) 3999 (by omega)
  have n3 := Oct.num_put (Rc.u64 r.time) (hlt _) (Oct.text r.pay) 1125899906842624 (by omega)
  have n4 := Oct.text_put r.pay (by omega) [] 2000 (by omega)
  rw [List.append_nil] at n4
  rw [e1] at n1; rw [e2] at n2; rw [e3] at n3
  unfold Rc.read Rc.bytes Rc.inRow
  rw [n1]; dsimp only
  rw [n2]; dsimp only
  rw [n3]; dsimp only
  rw [n4]; dsimp only
  rw [if_pos (by simp [Oct.Sc.endE])]

set_option maxHeartbeats 2000000 in
theorem refRecBytes_calls (r : Rc) (w : World) (hp : r.pay.length ≤ 140737488355328) :
    Calls Tryd.prog 37 #[r.v] w fun e w' => e = .returned (.tuple #[.string (bs (if r.check = 0 then r.bytes else [])), .int .i64 r.check]) ∧ Ext w w' := by
  have hw1 := u64_wrap r.win
  have hw2 := u64_wrap r.idx
  have hw3 := u64_wrap r.time
  have hu1 := Rc.u64_lt r.win
  have hu2 := Rc.u64_lt r.idx
  have hu3 := Rc.u64_lt r.time
  have hq1 : (Oct.put (Rc.u64 r.win)).length ≤ 9 := by have := Oct.put_length (Rc.u64 r.win); have := Oct.need_le (Rc.u64 r.win); omega
  have hq2 : (Oct.put (Rc.u64 r.idx)).length ≤ 9 := by have := Oct.put_length (Rc.u64 r.idx); have := Oct.need_le (Rc.u64 r.idx); omega
  have hq3 : (Oct.put (Rc.u64 r.time)).length ≤ 9 := by have := Oct.put_length (Rc.u64 r.time); have := Oct.need_le (Rc.u64 r.time); omega
  have hq4 : (Oct.text r.pay).length ≤ 9 + r.pay.length := by have := Oct.put_length r.pay.length; have := Oct.need_le r.pay.length; simp only [Oct.text, List.length_append]; omega
  have hn1 : ¬ (9223372036854775807 < (Oct.put (Rc.u64 r.win)).length + (Oct.put (Rc.u64 r.idx)).length) := by omega
  have hn2 : ¬ (9223372036854775807 < (Oct.put (Rc.u64 r.win)).length + (Oct.put (Rc.u64 r.idx)).length + (Oct.put (Rc.u64 r.time)).length) := by omega
  have hn3 : ¬ (9223372036854775807 < (Oct.put (Rc.u64 r.win)).length + (Oct.put (Rc.u64 r.idx)).length + (Oct.put (Rc.u64 r.time)).length + (Oct.text r.pay).length) := by omega
  have hall : (Oct.put (Rc.u64 r.win) ++ Oct.put (Rc.u64 r.idx) ++ Oct.put (Rc.u64 r.time)) ++ Oct.text r.pay = r.bytes := by simp [Rc.bytes, Rc.inRow]
  have Hall := Lib.hid hall
  clear hall
  rcases (show r.check = 0 ∨ r.check = 1 ∨ r.check = 11 from by unfold Rc.check; (repeat' split) <;> simp) with hc | hc | hc
  · rw [if_pos hc]
    have HC := Lib.hid hc
    clear hc
    unfold Rc.v
    go_enter Tryd.func37, Tryd.ntmps37
    go_wp2_with fail
    refine (refCheck_calls r _ (by omega)).mono ?_; rintro e w1 ⟨rfl, e1⟩
    have hx1 : RecAt w1 w.heap.size r := Blk.below (Blk.new w _ _) e1 (by simp)
    have hlt1 : w.heap.size < w1.heap.size := Blk.lt hx1
    obtain ⟨c0, c1, c2, c3⟩ := hx1.cells
    have hE1 := ((Ext.refl w).alloc (.cells #[.int .i64 r.win, .int .i64 r.idx, .int .i64 r.time, .string (bs r.pay)] 45)).trans e1
    clear e1 hx1
    rw [HC.out]
    go_wp2_with fail
    refine region_mix0 (by kernel_rfl) (by kernel_rfl) (fun x => ?_)
    repeat (first | (refine mix_quiet (by rfl) (by rfl) (fun K hK => ?_); go_big_quiet_op; refine hK _ ?_; clear hK K) | (refine mix_skip (by rfl) ?_; simp only [Act.put, List.setIfInBounds_toArray, List.set_cons_zero, List.set_cons_succ]))
    (refine mix_loud (by rfl) (by rfl) (fun K E hK => ?_); go_big_op)
    (with_reducible refine (refPut_calls (Rc.u64 r.win) _ (by omega) (by omega)).mono ?_); rintro e w3 ⟨rfl, hd⟩; rw [Int.toNat_natCast]
    obtain ⟨x2, rfl⟩ := more_ext _ hd; clear hd
    refine hK _ _ ⟨_, rfl⟩ ?_; clear hK K E
    repeat (first | (refine mix_quiet (by rfl) (by rfl) (fun K hK => ?_); go_big_quiet_op; refine hK _ ?_; clear hK K) | (refine mix_skip (by rfl) ?_; simp only [Act.put, List.setIfInBounds_toArray, List.set_cons_zero, List.set_cons_succ]))
    (refine mix_loud (by rfl) (by rfl) (fun K E hK => ?_); go_big_op)
    (with_reducible refine (refPut_calls (Rc.u64 r.idx) _ (by omega) (by omega)).mono ?_); rintro e w3 ⟨rfl, hd⟩; rw [Int.toNat_natCast]
    obtain ⟨x3, rfl⟩ := more_ext _ hd; clear hd
    refine hK _ _ ⟨_, rfl⟩ ?_; clear hK K E
    repeat (first | (refine mix_quiet (by rfl) (by rfl) (fun K hK => ?_); go_big_quiet_op; refine hK _ ?_; clear hK K) | (refine mix_skip (by rfl) ?_; simp only [Act.put, List.setIfInBounds_toArray, List.set_cons_zero, List.set_cons_succ]))
    (refine mix_loud (by rfl) (by rfl) (fun K E hK => ?_); go_big_op)
    (with_reducible refine (refPut_calls (Rc.u64 r.time) _ (by omega) (by omega)).mono ?_); rintro e w3 ⟨rfl, hd⟩; rw [Int.toNat_natCast]
    obtain ⟨x4, rfl⟩ := more_ext _ hd; clear hd
    refine hK _ _ ⟨_, rfl⟩ ?_; clear hK K E
    repeat (first | (refine mix_quiet (by rfl) (by rfl) (fun K hK => ?_); go_big_quiet_op; refine hK _ ?_; clear hK K) | (refine mix_skip (by rfl) ?_; simp only [Act.put, List.setIfInBounds_toArray, List.set_cons_zero, List.set_cons_succ]))
    (refine mix_loud (by rfl) (by rfl) (fun K E hK => ?_); go_big_op)
    refine (refText_calls r.pay _ hp).mono ?_; rintro e w3 ⟨rfl, hd⟩
    obtain ⟨x5, rfl⟩ := more_ext _ hd; clear hd
    refine hK _ _ ⟨_, rfl⟩ ?_; clear hK K E
    repeat (first | (refine mix_quiet (by rfl) (by rfl) (fun K hK => ?_); go_big_quiet_op; refine hK _ ?_; clear hK K) | (refine mix_skip (by rfl) ?_; simp only [Act.put, List.setIfInBounds_toArray, List.set_cons_zero, List.set_cons_succ]))
    refine mix_nil ?_
    go_wp2_with fail
    go_ret2
    exact ⟨by rw [HC.out]; rfl, hE1.trans (grow_ext _)⟩
  all_goals
    rw [if_neg (by omega)]
    have HC := Lib.hid hc
    clear hc
    unfold Rc.v
    go_enter Tryd.func37, Tryd.ntmps37
    go_wp2_with fail
    refine (refCheck_calls r _ (by omega)).mono ?_; rintro e w1 ⟨rfl, e1⟩
    rw [HC.out]
    go_wp2_with fail
    go_ret2
    exact ⟨by rw [HC.out]; rfl, ((Ext.refl w).alloc _).trans e1⟩

set_option maxHeartbeats 1000000 in
theorem recLeaf_calls (r : Rc) (w : World) (KW : Keys w) (hp : r.pay.length ≤ 140737488355328) :
    Calls Tryd.prog 40 #[r.v] w fun e w' => e = .returned (sumV (leafB r.outB)) ∧ Ext w w' := by
  obtain ⟨z, hz⟩ : ∃ z, z = leafB r.outB := ⟨_, rfl⟩
  rw [← hz]
  have hzl : z.length = 32 := by rw [hz]; exact leafB_length _
  have Hz := Lib.hid hz; clear hz
  have hol := Rc.outB_length r
  have hcall := fun w => recBytes_calls r w hp
  obtain ⟨d, hd⟩ : ∃ d, d = r.outB := ⟨_, rfl⟩
  rw [show (if r.check = 0 then r.bytes else []) = d from hd.symm] at hcall
  rw [← hd] at hol
  rw [← hd] at Hz
  clear hd
  generalize r.check = c at *
  unfold Rc.v at hcall ⊢
  go_enter Tryd.func40, Tryd.ntmps40
  go_wp2_with fail
  change Calls _ _ _ ((w.alloc _).alloc (.cells ((zerosB 32).map byteV).toArray 23)) _
  have hR0 : ArrB ((w.alloc (.cells #[.int .i64 r.win, .int .i64 r.idx, .int .i64 r.time, .string (bs r.pay)] 45)).alloc (.cells ((zerosB 32).map byteV).toArray 23)) (w.heap.size + 1) 23 (zerosB 32) := by
    have := Blk.new (w.alloc (.cells #[.int .i64 r.win, .int .i64 r.idx, .int .i64 r.time, .string (bs r.pay)] 45)) 23 ((zerosB 32).map byteV).toArray
    rw [show (w.alloc (.cells #[.int .i64 r.win, .int .i64 r.idx, .int .i64 r.time, .string (bs r.pay)] 45)).heap.size = w.heap.size + 1 from by simp] at this
    exact this
  have hE0 := ((Ext.refl w).alloc (.cells #[.int .i64 r.win, .int .i64 r.idx, .int .i64 r.time, .string (bs r.pay)] 45)).alloc (.cells ((zerosB 32).map byteV).toArray 23)
  generalize (w.alloc (.cells #[.int .i64 r.win, .int .i64 r.idx, .int .i64 r.time, .string (bs r.pay)] 45)).alloc (.cells ((zerosB 32).map byteV).toArray 23) = w0 at *
  refine (hcall _).mono ?_; rintro e w1 ⟨rfl, e1⟩
  have hR1 := Blk.below hR0 e1 hR0.lt
  clear hcall
  go_wp2_with fail
  refine (Leaf_calls d (by omega) _ (KW.ext (hE0.trans e1))).mono ?_; rw [← Hz.out]; rintro e w2 ⟨rfl, e2⟩
  have hml : (z.map byteV).toArray.size = 32 := by simp [hzl]
  have hR2 := Blk.below hR1 e2 hR1.lt
  have hE2 := (hE0.trans e1).trans e2
  clear Hz
  unfold sumV
  go_wp2_with (refine stop_store 23 (.tmp 2) (.tmp 11) rfl ?_)
  refine ⟨?_⟩
  refine wpList_store_row rfl 23 (.tmp 2) (.tmp 11) rfl (w.heap.size + 1) _ (by rfl) (by rfl) 23 _ hR2 (size32.trans (by rw [hml])) (by rw [hml]; simp [zerosB]) (by simp [byteV, Value.oneCell']) ?_
  simp only [Act.put, List.setIfInBounds_toArray, List.set_cons_zero, List.set_cons_succ]
  go_wp2_with fail
  exact bodyPost_ret (results_cell_row rfl _ _ (w.heap.size + 1) 23 _ (0, 0) _ rfl (Blk.row hR2 _) Tryd.underlying23 rfl (size32.trans (by rw [hml]))) rfl ⟨rfl, hE2.row (Nat.le_succ _) _⟩

set_option maxHeartbeats 1000000 in
theorem refRecLeaf_calls (r : Rc) (w : World) (hp : r.pay.length ≤ 140737488355328) :
    Calls Tryd.prog 41 #[r.v] w fun e w' => e = .returned (sumV (leafB r.outB)) ∧ Ext w w' := by
  obtain ⟨z, hz⟩ : ∃ z, z = leafB r.outB := ⟨_, rfl⟩
  rw [← hz]
  have hzl : z.length = 32 := by rw [hz]; exact leafB_length _
  have Hz := Lib.hid hz; clear hz
  have hol := Rc.outB_length r
  have hcall := fun w => refRecBytes_calls r w hp
  obtain ⟨d, hd⟩ : ∃ d, d = r.outB := ⟨_, rfl⟩
  rw [show (if r.check = 0 then r.bytes else []) = d from hd.symm] at hcall
  rw [← hd] at hol
  rw [← hd] at Hz
  clear hd
  generalize r.check = c at *
  unfold Rc.v at hcall ⊢
  go_enter Tryd.func41, Tryd.ntmps41
  go_wp2_with fail
  change Calls _ _ _ ((w.alloc _).alloc (.cells ((zerosB 32).map byteV).toArray 23)) _
  have hR0 : ArrB ((w.alloc (.cells #[.int .i64 r.win, .int .i64 r.idx, .int .i64 r.time, .string (bs r.pay)] 45)).alloc (.cells ((zerosB 32).map byteV).toArray 23)) (w.heap.size + 1) 23 (zerosB 32) := by
    have := Blk.new (w.alloc (.cells #[.int .i64 r.win, .int .i64 r.idx, .int .i64 r.time, .string (bs r.pay)] 45)) 23 ((zerosB 32).map byteV).toArray
    rw [show (w.alloc (.cells #[.int .i64 r.win, .int .i64 r.idx, .int .i64 r.time, .string (bs r.pay)] 45)).heap.size = w.heap.size + 1 from by simp] at this
    exact this
  have hE0 := ((Ext.refl w).alloc (.cells #[.int .i64 r.win, .int .i64 r.idx, .int .i64 r.time, .string (bs r.pay)] 45)).alloc (.cells ((zerosB 32).map byteV).toArray 23)
  generalize (w.alloc (.cells #[.int .i64 r.win, .int .i64 r.idx, .int .i64 r.time, .string (bs r.pay)] 45)).alloc (.cells ((zerosB 32).map byteV).toArray 23) = w0 at *
  refine (hcall _).mono ?_; rintro e w1 ⟨rfl, e1⟩
  have hR1 := Blk.below hR0 e1 hR0.lt
  clear hcall
  go_wp2_with fail
  refine (refLeaf_calls d (by omega) _).mono ?_; rw [← Hz.out]; rintro e w2 ⟨rfl, e2⟩
  have hml : (z.map byteV).toArray.size = 32 := by simp [hzl]
  have hR2 := Blk.below hR1 e2 hR1.lt
  have hE2 := (hE0.trans e1).trans e2
  clear Hz
  unfold sumV
  go_wp2_with (refine stop_store 23 (.tmp 2) (.tmp 11) rfl ?_)
  refine ⟨?_⟩
  refine wpList_store_row rfl 23 (.tmp 2) (.tmp 11) rfl (w.heap.size + 1) _ (by rfl) (by rfl) 23 _ hR2 (size32.trans (by rw [hml])) (by rw [hml]; simp [zerosB]) (by simp [byteV, Value.oneCell']) ?_
  simp only [Act.put, List.setIfInBounds_toArray, List.set_cons_zero, List.set_cons_succ]
  go_wp2_with fail
  exact bodyPost_ret (results_cell_row rfl _ _ (w.heap.size + 1) 23 _ (0, 0) _ rfl (Blk.row hR2 _) Tryd.underlying23 rfl (size32.trans (by rw [hml]))) rfl ⟨rfl, hE2.row (Nat.le_succ _) _⟩

/-- What the walk of RecordBytes wants of a record. -/
theorem rec_pack (q : Rc) (hp : q.pay.length ≤ 6000) : ∃ (c : Int) (sx z : List UInt8), z.length = 32 ∧ sx.length ≤ 7000 ∧
    Hid (∀ w, Calls Tryd.prog 36 #[q.v] w fun e w' => e = .returned (.tuple #[.string (bs sx), .int .i64 c]) ∧ Ext w w') ∧
    Hid (∀ w, Calls Tryd.prog 37 #[q.v] w fun e w' => e = .returned (.tuple #[.string (bs sx), .int .i64 c]) ∧ Ext w w') ∧
    Hid (∀ w, Calls Tryd.prog 38 #[q.v] w fun e w' => e = .returned (.int .i64 c) ∧ Ext w w') ∧
    Hid (∀ w, Calls Tryd.prog 39 #[q.v] w fun e w' => e = .returned (.int .i64 c) ∧ Ext w w') ∧
    Hid (∀ w, Keys w → Calls Tryd.prog 40 #[q.v] w fun e w' => e = .returned (sumV z) ∧ Ext w w') ∧
    Hid (∀ w, Calls Tryd.prog 41 #[q.v] w fun e w' => e = .returned (sumV z) ∧ Ext w w') ∧
    Hid (c = 0 → Rc.read sx = (q, 0)) := by
  have hl := Rc.outB_length q
  exact ⟨q.check, q.outB, leafB q.outB, leafB_length _, by omega, Lib.hid (fun w => recBytes_calls q w (by omega)), Lib.hid (fun w => refRecBytes_calls q w (by omega)), Lib.hid (fun w => Check_calls q w (by omega)), Lib.hid (fun w => refCheck_calls q w (by omega)),
    Lib.hid (fun w KW => recLeaf_calls q w KW (by omega)), Lib.hid (fun w => refRecLeaf_calls q w (by omega)), Lib.hid (fun hc => by unfold Rc.outB; rw [if_pos hc]; exact Rc.read_bytes q hc)⟩

end Go.Proofs.YtlcimlencoaiiaaDoor
