/-
  The walks of layer 15 (record).
-/
import Derived.Test.YtlcimlencoaiiaaDoorRecP
set_option linter.unusedVariables false
set_option maxRecDepth 100000
set_option linter.unusedSimpArgs false
namespace Go.Proofs.YtlcimlencoaiiaaDoor
open Go.RowKit
attribute [local go_sem] bs_size bs_toList2 bs_append bs_extract_end bs_extract_begin bs_get wrap64_b

theorem Check1_calls (n most : Int) (w : World) :
    Calls Tryd.prog 73 #[.int .i64 n, .int .i64 most] w fun e w' => e = .returned (.bool (decide (0 ≤ n ∧ n ≤ most))) ∧ w = w' := by
  go_enter Tryd.func73, Tryd.ntmps73
  go_wp2
  all_goals
    go_ret
    refine ⟨ret_bool ?_, rfl⟩
    rw [Bool.eq_iff_iff]
    simp
    omega

theorem Check_calls (r : Rc) (w : World) (hp : r.pay.length ≤ 9223372036854775807) :
    Calls Tryd.prog 38 #[r.v] w fun e w' => e = .returned (.int .i64 r.check) ∧ Ext w w' := by
  unfold Rc.v
  go_enter Tryd.func38, Tryd.ntmps38
  go_wp2_with (go_at_call 73; refine (Check1_calls _ _ _).mono ?_; rintro e w' ⟨rfl, rfl⟩)
  all_goals
    go_ret
    refine ⟨ret_int ?_, (Ext.refl w).alloc _⟩
    first
      | exact Rc.check_0 r (by unfold Rc.may; simp at *; omega) (by simp at *; omega)
      | exact Rc.check_11 r (by unfold Rc.may; simp at *; omega) (by simp at *; omega)
      | exact Rc.check_1 r (by unfold Rc.may; simp at *; omega)

theorem inRow_calls (r : Rc) (w : World) (hp : r.pay.length ≤ 140737488355328) :
    Calls Tryd.prog 70 #[r.v] w fun e w' => e = .returned (.string (bs r.inRow)) ∧ Ext w w' := by
  unfold Rc.v
  go_enter Tryd.func70, Tryd.ntmps70
  have hw : IntKind.u64.wrap r.time = (Rc.u64 r.time : Int) := by
    have e : IntKind.u64.wrap r.time = r.time % 18446744073709551616 := rfl
    rw [e]; unfold Rc.u64; omega
  have hu := Rc.u64_lt r.time
  have hil : ¬ (9223372036854775807 < (Oct.put (Rc.u64 r.time)).length + (Oct.text r.pay).length) := by have := Rc.inRow_length r; simp only [Rc.inRow, List.length_append] at this; omega
  go_wp2_with fail
  go_region_law (first
    | (go_simp; go_at_call 69; refine (Put_calls (Rc.u64 r.time) _ (by omega) (by omega)).mono ?_; rintro e w1 ⟨rfl, e1⟩; rw [Int.toNat_natCast]; have hx1 : Blk w1 w.heap.size 45 _ := Blk.below (Blk.drew (Blk.new w _ _)) e1 (by simp); have cx1 : w1.cell? ⟨w.heap.size, 3, none⟩ = some (.string (bs r.pay)) := Blk.cell hx1 3)
    | (go_simp; go_at_call 99; refine (Text_calls r.pay _ hp).mono ?_; rintro e w2 ⟨rfl, e2⟩))
  all_goals
    go_wp2
    go_ret
    exact ⟨rfl, (((Ext.refl w).alloc _).drew.trans e1).trans e2⟩

theorem recSize_calls (r : Rc) (w : World) (hp : r.pay.length ≤ 140737488355328) :
    Calls Tryd.prog 67 #[r.v] w fun e w' => e = .returned (.int .i64 r.inRow.length) ∧ Ext w w' := by
  unfold Rc.v
  go_enter Tryd.func67, Tryd.ntmps67
  go_wp2_with fail
  refine (inRow_calls r _ hp).mono ?_; rintro e w1 ⟨rfl, e1⟩
  go_wp2_with fail
  go_ret
  exact ⟨rfl, ((Ext.refl w).alloc _).trans e1⟩

theorem u64_wrap (t : Int) : IntKind.u64.wrap t = (Rc.u64 t : Int) := by
  have e : IntKind.u64.wrap t = t % 18446744073709551616 := rfl
  rw [e]; unfold Rc.u64; omega

set_option maxRecDepth 100000 in
set_option maxHeartbeats 2000000 in
theorem recBytes_calls (r : Rc) (w : World) (hp : r.pay.length ≤ 140737488355328) :
    Calls Tryd.prog 36 #[r.v] w fun e w' => e = .returned (.tuple #[.string (bs (if r.check = 0 then r.bytes else [])), .int .i64 r.check]) ∧ Ext w w' := by
  have hw1 := u64_wrap r.win
  have hw2 := u64_wrap r.idx
  have hu1 := Rc.u64_lt r.win
  have hu2 := Rc.u64_lt r.idx
  have hq1 : (Oct.put (Rc.u64 r.win)).length ≤ 9 := by have := Oct.put_length (Rc.u64 r.win); have := Oct.need_le (Rc.u64 r.win); omega
  have hq2 : (Oct.put (Rc.u64 r.idx)).length ≤ 9 := by have := Oct.put_length (Rc.u64 r.idx); have := Oct.need_le (Rc.u64 r.idx); omega
  have hq3 := Rc.inRow_length r
  have hn1 : ¬ (9223372036854775807 < (Oct.put (Rc.u64 r.win)).length + (Oct.put (Rc.u64 r.idx)).length) := by omega
  have hn2 : ¬ (9223372036854775807 < (Oct.put (Rc.u64 r.win)).length + (Oct.put (Rc.u64 r.idx)).length + r.inRow.length) := by omega
  rcases (show r.check = 0 ∨ r.check = 1 ∨ r.check = 11 from by unfold Rc.check; (repeat' split) <;> simp) with hc | hc | hc
  · rw [if_pos hc]
    have HC := Lib.hid hc
    clear hc
    unfold Rc.v
    go_enter Tryd.func36, Tryd.ntmps36
    go_wp2_with fail
    refine (Check_calls r _ (by omega)).mono ?_; rintro e w1 ⟨rfl, e1⟩
    have hx1 : Blk w1 w.heap.size 45 _ := Blk.below (Blk.new w _ _) e1 (by simp)
    have c0 : w1.cell? ⟨w.heap.size, 0, none⟩ = some (.int .i64 r.win) := Blk.cell hx1 0
    have c1 : w1.cell? ⟨w.heap.size, 1, none⟩ = some (.int .i64 r.idx) := Blk.cell hx1 1
    have c2 : w1.cell? ⟨w.heap.size, 2, none⟩ = some (.int .i64 r.time) := Blk.cell hx1 2
    have c3 : w1.cell? ⟨w.heap.size, 3, none⟩ = some (.string (bs r.pay)) := Blk.cell hx1 3
    rw [HC.out]
    go_wp2_with fail
    go_region_law (first
      | (go_simp; go_at_call 69; (with_reducible refine (Put_calls (Rc.u64 r.win) _ (by omega) (by omega)).mono ?_); rintro e w2 ⟨rfl, e2⟩; rw [Int.toNat_natCast]; have hx2 : Blk w2 w.heap.size 45 _ := Blk.below (Blk.drew hx1) e2 hx1.lt; have d0 : w2.cell? ⟨w.heap.size, 0, none⟩ = some (.int .i64 r.win) := Blk.cell hx2 0; have d1 : w2.cell? ⟨w.heap.size, 1, none⟩ = some (.int .i64 r.idx) := Blk.cell hx2 1; have d2 : w2.cell? ⟨w.heap.size, 2, none⟩ = some (.int .i64 r.time) := Blk.cell hx2 2; have d3 : w2.cell? ⟨w.heap.size, 3, none⟩ = some (.string (bs r.pay)) := Blk.cell hx2 3)
      | (go_simp; go_at_call 69; (with_reducible refine (Put_calls (Rc.u64 r.idx) _ (by omega) (by omega)).mono ?_); rintro e w3 ⟨rfl, e3⟩; rw [Int.toNat_natCast]; have hx3 : Blk w3 w.heap.size 45 _ := Blk.below hx2 e3 hx2.lt; have f0 : w3.cell? ⟨w.heap.size, 0, none⟩ = some (.int .i64 r.win) := Blk.cell hx3 0; have f1 : w3.cell? ⟨w.heap.size, 1, none⟩ = some (.int .i64 r.idx) := Blk.cell hx3 1; have f2 : w3.cell? ⟨w.heap.size, 2, none⟩ = some (.int .i64 r.time) := Blk.cell hx3 2; have f3 : w3.cell? ⟨w.heap.size, 3, none⟩ = some (.string (bs r.pay)) := Blk.cell hx3 3)
      | (go_simp; go_at_call 70; refine (inRow_calls r _ hp).mono ?_; rintro e w4 ⟨rfl, e4⟩))
    all_goals
      go_wp2
      go_ret2
      exact ⟨by rw [HC.out]; rfl, (((((Ext.refl w).alloc _).trans e1).drew.trans e2).trans e3).trans e4⟩
  all_goals
    rw [if_neg (by omega)]
    have HC := Lib.hid hc
    clear hc
    unfold Rc.v
    go_enter Tryd.func36, Tryd.ntmps36
    go_wp2_with fail
    refine (Check_calls r _ (by omega)).mono ?_; rintro e w1 ⟨rfl, e1⟩
    rw [HC.out]
    go_wp2_with fail
    go_ret2
    exact ⟨by rw [HC.out]; rfl, ((Ext.refl w).alloc _).trans e1⟩

end Go.Proofs.YtlcimlencoaiiaaDoor
