/-
  scriniumlaw15.RecordBytes: which records may be, their bytes and leaves; what was written is read again. No condition.
-/
import Derived.Test.YtlcimlencoaiiaaDoorRecB
import Derived.Test.YtlcimlencoaiiaaDoorOpL
import Derived.Test.YtlcimlencoaiiaaDoorEqA
import Derived.Test.YtlcimlencoaiiaaDoorMix6
import Derived.Test.YtlcimlencoaiiaaDoorLaw
import Derived.Deep.DeepCutAuto
set_option linter.unusedVariables false
set_option maxRecDepth 100000
set_option linter.unusedSimpArgs false
namespace Go.Proofs.YtlcimlencoaiiaaDoor.recordBytes
open Go.ChangeShapes Go.WideShapes Go.ChangeAt Go.RowKit
attribute [local go_sem] bs_size bs_toList2 bs_append bs_extract_end bs_extract_begin bs_get wrap64_b grow_cell grow_frozen

set_option maxHeartbeats 4000000 in
theorem walk (r0 : Rc) (more : Int) (hp : r0.pay.length ≤ 9223372036854775807) (h0 : -9223372036854775808 ≤ more) (h1 : more ≤ 9223372036854775807) (w : World) (KW : Keys w) :
    Calls Tryd.prog 10 #[r0.v, .int .i64 more] w fun e w' => e = .returned (.bool true) ∧ Ext w w' := by
  obtain ⟨i0, hi, hz0, hz1, hz2⟩ := info_parts info_u8
  unfold Rc.v
  go_enter Tryd.func10, Tryd.ntmps10
  go_wp2_with fail
  refine (awake15_calls _).mono ?_; rintro e w1 ⟨rfl, e1⟩
  have hA1 : RecAt w1 w.heap.size r0 := Blk.below (Blk.new w _ _) e1 (by simp)
  have E1 : Ext w w1 := ((Ext.refl w).alloc _).trans e1
  clear e1
  obtain ⟨c0, c1, c2, c3⟩ := hA1.cells
  go_wp2_with fail
  refine (small_calls r0 _ hp).mono ?_; rintro e w2 ⟨rfl, e2⟩
  have hA2 := hA1.ext e2
  obtain ⟨f0, f1, f2, f3⟩ := hA2.frozen
  obtain ⟨d0, d1, d2, d3⟩ := hA2.cells
  have E2 := E1.trans e2
  have hpa : r0.small.pay.length ≤ 2010 := by simp [Rc.small]; omega
  clear c0 c1 c2 c3 hA1 e2 E1
  unfold Rc.v
  generalize r0.small = r at *
  obtain ⟨m, hm, hm3⟩ : ∃ m : Nat, (m : Int) = (more.tmod 4).natAbs ∧ m ≤ 3 := by
    refine ⟨(more.tmod 4).natAbs, rfl, ?_⟩
    have a := Int.tmod_lt_of_pos more (b := 4) (by omega)
    have b := Int.lt_tmod_of_pos more (b := 4) (by omega)
    omega
  obtain ⟨n, hn⟩ : ∃ n : Nat, n = 1000 * m := ⟨_, rfl⟩
  have hmn : (1000 : Int) * (m : Int) = (n : Int) := by omega
  have hn3 : n ≤ 3000 := by omega
  have hzl : (zerosB n).length = n := by simp [zerosB]
  have hadd : ¬ (9223372036854775807 < r.pay.length + (zerosB n).length) := by omega
  have hadd2 : ¬ (9223372036854775807 < r.pay.length + n) := by omega
  clear hn
  have hA3 := hA2.store r
  have E3 := ((((E2.setCell (p := ⟨w.heap.size, 0, none⟩) (Nat.le_refl _) (.int .i64 r.win)).setCell (p := ⟨w.heap.size, 1, none⟩) (Nat.le_refl _) (.int .i64 r.idx)).setCell (p := ⟨w.heap.size, 2, none⟩) (Nat.le_refl _) (.int .i64 r.time)).setCell (p := ⟨w.heap.size, 3, none⟩) (Nat.le_refl _) (.string (bs r.pay)))
  obtain ⟨c, sx, z, hzl2, hsl, B1, B2, C1, C2, L1, L2, HR⟩ := rec_pack ⟨r.win, r.idx, r.time, r.pay ++ zerosB n⟩ (by simp only [List.length_append]; omega)
  rcases (show more.tmod 4 = -(m : Int) ∧ more.tmod 4 < 0 ∨ more.tmod 4 = (m : Int) ∧ ¬ more.tmod 4 < 0 from by omega) with ⟨hr, hs⟩ | ⟨hr, hs⟩
  all_goals
    rw [hr] at hs
    clear hm
    go_wp2_with fail
    generalize (((w2.setCell ⟨w.heap.size, 0, none⟩ (.int .i64 r.win)).setCell ⟨w.heap.size, 1, none⟩ (.int .i64 r.idx)).setCell ⟨w.heap.size, 2, none⟩ (.int .i64 r.time)).setCell ⟨w.heap.size, 3, none⟩ (.string (bs r.pay)) = w3 at *
    clear f0 f1 f2 f3 d0 d1 d2 d3 hA2 E2
    obtain ⟨d0, d1, d2, d3⟩ := hA3.cells
    have hgl : w.heap.size < w3.heap.size := Blk.lt hA3
    refine region_planC 7 (Plan.run [0, 1, 2, 3, 4, 5, 6] .nil) (by kernel_rfl) (by kernel_rfl) (fun y0 => ?_); simp only [Plan.run, List.drop_succ_cons, List.drop_zero, List.drop_nil]
    iterate 4 (first | (refine planC_quiet (by simp only [List.getElem?_toArray, List.getElem?_cons_zero, List.getElem?_cons_succ]; rfl) (by rfl) (by rfl) (fun K hK => ?_); go_big_quiet_op; refine hK _ ?_; clear hK K) | (refine planC_skip (by simp only [List.getElem?_toArray, List.getElem?_cons_zero, List.getElem?_cons_succ]; rfl) (by rfl) ?_; simp only [Act.put, List.setIfInBounds_toArray, List.set_cons_zero, List.set_cons_succ]))
    refine planC_one ?_
    obtain ⟨wm, hrun, hown, hgr⟩ := run_make_full (P := Tryd.prog) (grow w3 y0) (grow w3 y0).heap.size 47 5 i0 (.int .u8 0) 1 Tryd.underlying47 hi hz0 hz1 .i64 .i64 n (by rw [hz2]; omega) (by unfold maxLen; omega) (Nat.le_refl _)
    (refine planC_loud (by simp only [List.getElem?_toArray, List.getElem?_cons_zero, List.getElem?_cons_succ]; rfl) (by rfl) (by rfl) (fun K E hK => ?_); go_big_op)
    clear hrun; rw [made_bytes] at hown
    have hd : Ext (grow w3 y0) wm := ⟨hgr.os, hgr.tape, hgr.output, hgr.size, fun k hk => hgr.block k hk (by simp)⟩
    have h4 : Rd wm wm.heap.size (some ⟨(grow w3 y0).heap.size, 0, none⟩) ((zerosB n).map byteV) := Rd.of_own hown
    clear hown hgr
    obtain ⟨y1, rfl⟩ := more_ext y0 hd; clear hd
    generalize (grow w3 y0).heap.size = g4 at *
    refine hK _ _ ⟨_, rfl⟩ ?_; clear hK K E
    refine planC_one ?_
    have hcv := conv_bytes (grow w3 y1) _ _ (zerosB n) n n (by simp [zerosB]) h4
    (refine planC_loud (by simp only [List.getElem?_toArray, List.getElem?_cons_zero, List.getElem?_cons_succ]; rfl) (by rfl) (by rfl) (fun K E hK => ?_); go_big_op)
    refine hK _ _ ⟨_, rfl⟩ ?_; clear hK K E
    clear h4
    clear hcv
    iterate 1 (first | (refine planC_quiet (by simp only [List.getElem?_toArray, List.getElem?_cons_zero, List.getElem?_cons_succ]; rfl) (by rfl) (by rfl) (fun K hK => ?_); go_big_quiet_op; refine hK _ ?_; clear hK K) | (refine planC_skip (by simp only [List.getElem?_toArray, List.getElem?_cons_zero, List.getElem?_cons_succ]; rfl) (by rfl) ?_; simp only [Act.put, List.setIfInBounds_toArray, List.set_cons_zero, List.set_cons_succ]))
    refine planC_nil ?_
    have hA4 := hA3.ext (grow_ext y1)
    have E4 := E3.trans (grow_ext y1)
    clear d0 d1 d2 d3 hA3 E3
    generalize grow w3 y1 = w4 at *
    obtain ⟨d0, d1, d2, d3⟩ := hA4.cells
    obtain ⟨f0, f1, f2, f3⟩ := hA4.frozen
    go_wp2_with fail
    refine (B1.out _).mono ?_; rintro e w5 ⟨rfl, e5⟩
    have hA5 : RecAt w5 w.heap.size ⟨r.win, r.idx, r.time, r.pay ++ zerosB n⟩ := (hA4.pay _).ext e5
    have E5 := (E4.setCell (p := ⟨w.heap.size, 3, none⟩) (Nat.le_refl _) (.string (bs (r.pay ++ zerosB n)))).trans e5
    clear d0 d1 d2 d3 f0 f1 f2 f3 hA4 E4 e5
    generalize (⟨r.win, r.idx, r.time, r.pay ++ zerosB n⟩ : Rc) = q at *
    obtain ⟨d0, d1, d2, d3⟩ := hA5.cells
    go_wp2_with fail
    refine (B2.out _).mono ?_; rintro e w6 ⟨rfl, e6⟩
    have hA6 : Blk w6 w.heap.size 45 #[.int .i64 q.win, .int .i64 q.idx, .int .i64 q.time, .string (bs q.pay)] := hA5.ext e6
    have hR6 : RecAt w6 w.heap.size q := hA6
    have E6 := E5.trans e6
    clear d0 d1 d2 d3 hA5 E5 e6
    have hgw := guard_sum
    have heq1 := fun w : World => eq_sum z z hzl2 hzl2 w
    have hKs : ∀ x : More w6, Keys (grow w6 x) := fun x => KW.ext (E6.trans (grow_ext x))
    go_wp2_with fail
    refine region_plan 22 (Plan.run [0, 1, 2, 3, 4, 5, 6, 7, 8, 9, 11, 10, 12, 13, 14, 15, 16, 18, 17, 19, 20, 21] .nil) (by kernel_rfl) (by kernel_rfl) (fun y0 => ?_); simp only [Plan.run, List.drop_succ_cons, List.drop_zero, List.drop_nil]
    iterate 9 (first | (refine plan_quiet (by simp only [List.getElem?_toArray, List.getElem?_cons_zero, List.getElem?_cons_succ]; rfl) (by rfl) (by rfl) (fun K hK => ?_); go_big_quiet_op; refine hK _ ?_; clear hK K) | (refine plan_skip (by simp only [List.getElem?_toArray, List.getElem?_cons_zero, List.getElem?_cons_succ]; rfl) (by rfl) ?_; simp only [Act.put, List.setIfInBounds_toArray, List.set_cons_zero, List.set_cons_succ]))
    refine plan_row (by simp only [List.getElem?_toArray, List.getElem?_cons_zero, List.getElem?_cons_succ]; rfl) (by rfl) (by rfl) 45 (.tmp 2) rfl w.heap.size (by rfl) _ _ _ hA6 Tryd.underlying45 rfl (by kernel_rfl) ?_
    simp only [Act.put, List.setIfInBounds_toArray, List.set_cons_zero, List.set_cons_succ]
    refine plan_row (by simp only [List.getElem?_toArray, List.getElem?_cons_zero, List.getElem?_cons_succ]; rfl) (by rfl) (by rfl) 45 (.tmp 2) rfl w.heap.size (by rfl) _ _ _ hA6 Tryd.underlying45 rfl (by kernel_rfl) ?_
    simp only [Act.put, List.setIfInBounds_toArray, List.set_cons_zero, List.set_cons_succ]
    refine plan_one ?_
    (refine plan_loud (by simp only [List.getElem?_toArray, List.getElem?_cons_zero, List.getElem?_cons_succ]; rfl) (by rfl) (by rfl) (fun K E hK => ?_); go_big_op)
    refine (C1.out (grow w6 y0)).mono ?_; rintro e w3 ⟨rfl, hd⟩
    obtain ⟨y1, rfl⟩ := more_ext y0 hd; clear hd
    refine hK _ _ ⟨_, rfl⟩ ?_; clear hK K E
    refine plan_one ?_
    (refine plan_loud (by simp only [List.getElem?_toArray, List.getElem?_cons_zero, List.getElem?_cons_succ]; rfl) (by rfl) (by rfl) (fun K E hK => ?_); go_big_op)
    refine (C2.out (grow w6 y1)).mono ?_; rintro e w3 ⟨rfl, hd⟩
    obtain ⟨y2, rfl⟩ := more_ext y1 hd; clear hd
    refine hK _ _ ⟨_, rfl⟩ ?_; clear hK K E
    iterate 3 (first | (refine plan_quiet (by simp only [List.getElem?_toArray, List.getElem?_cons_zero, List.getElem?_cons_succ]; rfl) (by rfl) (by rfl) (fun K hK => ?_); go_big_quiet_op; refine hK _ ?_; clear hK K) | (refine plan_skip (by simp only [List.getElem?_toArray, List.getElem?_cons_zero, List.getElem?_cons_succ]; rfl) (by rfl) ?_; simp only [Act.put, List.setIfInBounds_toArray, List.set_cons_zero, List.set_cons_succ]))
    refine plan_row (by simp only [List.getElem?_toArray, List.getElem?_cons_zero, List.getElem?_cons_succ]; rfl) (by rfl) (by rfl) 45 (.tmp 2) rfl w.heap.size (by rfl) _ _ _ hA6 Tryd.underlying45 rfl (by kernel_rfl) ?_
    simp only [Act.put, List.setIfInBounds_toArray, List.set_cons_zero, List.set_cons_succ]
    refine plan_row (by simp only [List.getElem?_toArray, List.getElem?_cons_zero, List.getElem?_cons_succ]; rfl) (by rfl) (by rfl) 45 (.tmp 2) rfl w.heap.size (by rfl) _ _ _ hA6 Tryd.underlying45 rfl (by kernel_rfl) ?_
    simp only [Act.put, List.setIfInBounds_toArray, List.set_cons_zero, List.set_cons_succ]
    refine plan_one ?_
    (refine plan_loud (by simp only [List.getElem?_toArray, List.getElem?_cons_zero, List.getElem?_cons_succ]; rfl) (by rfl) (by rfl) (fun K E hK => ?_); go_big_op)
    refine (L1.out (grow w6 y2) (hKs _)).mono ?_; unfold sumV; rintro e w3 ⟨rfl, hd⟩
    obtain ⟨y3, rfl⟩ := more_ext y2 hd; clear hd
    refine hK _ _ ⟨_, rfl⟩ ?_; clear hK K E
    refine plan_one ?_
    (refine plan_loud (by simp only [List.getElem?_toArray, List.getElem?_cons_zero, List.getElem?_cons_succ]; rfl) (by rfl) (by rfl) (fun K E hK => ?_); go_big_op)
    refine (L2.out (grow w6 y3)).mono ?_; unfold sumV; rintro e w3 ⟨rfl, hd⟩
    obtain ⟨y4, rfl⟩ := more_ext y3 hd; clear hd
    refine hK _ _ ⟨_, rfl⟩ ?_; clear hK K E
    iterate 2 (first | (refine plan_quiet (by simp only [List.getElem?_toArray, List.getElem?_cons_zero, List.getElem?_cons_succ]; rfl) (by rfl) (by rfl) (fun K hK => ?_); go_big_quiet_op; refine hK _ ?_; clear hK K) | (refine plan_skip (by simp only [List.getElem?_toArray, List.getElem?_cons_zero, List.getElem?_cons_succ]; rfl) (by rfl) ?_; simp only [Act.put, List.setIfInBounds_toArray, List.set_cons_zero, List.set_cons_succ]))
    refine plan_nil ?_
    have hA7 : RecAt (grow w6 y4) w.heap.size q := hR6.ext (grow_ext y4)
    have E7 := E6.trans (grow_ext y4)
    clear hKs hR6 hA6 E6 heq1 hgw
    generalize grow w6 y4 = w7 at *
    by_cases hc : c = 0
    · have hrd := HR.out hc
      subst hc
      go_wp2_with fail
      refine (recRead_calls sx _ (by omega)).mono ?_; rw [hrd]; rintro e w8 ⟨rfl, e8⟩
      have hA8 := hA7.ext e8
      have E8 := E7.trans e8
      obtain ⟨d0, d1, d2, d3⟩ := hA8.cells
      unfold Rc.v
      have hgl8 : w.heap.size < w8.heap.size := Blk.lt hA8
      go_wp2_with fail
      go_ret
      exact ⟨rfl, E8.alloc _⟩
    · have hcb : (c != 0) = true := by simp [hc]
      go_wp2_with fail
      go_ret
      exact ⟨rfl, E7⟩

set_option maxRecDepth 100000 in
theorem contract (H : Type) (enc : TypeId × Value → H) (W : World) (base : Nat) (args : Array Value) (ds gs : List (DataW H)) (before : List MemPlace)
    (hval0 : ∀ (j : Nat) t v, Tryd.f10.params[j]? = some t → args[j]? = some v → Value.okWide Tryd.prog W .any base t v)
    (hW : DataW.Whole enc Tryd.prog Tryd.f10.params.toList Rows.recordBytesSpec.vars false W args.toList ds gs before) (hL : laidMetH Tryd.prog Rows.recordBytesRow.laid W) :
    Calls Tryd.prog 10 args W fun e W' => ∃ v, e = .returned v ∧ Rows.recordBytesSpec.post enc Tryd.prog Tryd.f10 false true false false W args v W' := by
  have K : Keys W := keys_of hL
  have hval : ∀ (j : Nat) t v, Tryd.f10.params[j]? = some t → args[j]? = some v → Value.okWide Tryd.prog W .any base t v := hval0
  have hW' := hW
  obtain ⟨p, q, hA0, hV, rfl, hfz, hnd⟩ := hW
  have hA : DataW.TrodAll enc Tryd.prog W 0 (fun _ => true) true Tryd.f10.params.toList args.toList ds p := hA0
  rw [Tryd.params10] at hA hval
  obtain ⟨v0, vs0, d0, ds0, p0, q0, hargs, rfl, rfl, hx0, r0⟩ := trodAll_cons hA
  obtain ⟨v1, vs1, d1, ds1, p1, q1, rfl, rfl, rfl, hx1, r1⟩ := trodAll_cons r0
  obtain ⟨rfl, rfl, rfl⟩ := trodAll_nil r1
  obtain rfl : args = #[v0, v1] := by cases args; simp_all
  obtain ⟨rfl, rfl⟩ := trodVars_none hV
  obtain ⟨r, rfl, hrf, hr⟩ := op_rec (hval 0 45 v0 rfl rfl) (tr_of hx0)
  obtain ⟨more, rfl, hmore0, hmore1⟩ := op_int (hval 1 3 v1 rfl rfl) (tr_of hx1)
  refine (walk r more hr hmore0 hmore1 W K).mono fun e W' ⟨he, hg⟩ => ?_
  subst he
  exact ⟨_, rfl, law_post hW' rfl rfl (by kernel_rfl) rfl rfl rfl hg⟩

theorem laid_met (os : Os) : laidMet Tryd.prog Rows.recordBytesRow.laid ((keysWorld os).forCall (fun _ _ => 0) ⟨#[], #[.agg #[.int .i64 0, .int .i64 0, .int .i64 0, .string .empty], .int .i64 0], []⟩).memory :=
  laidMet_of_run' 8 (by kernel_rfl) (by kernel_rfl)
theorem reads (os : Os) {H : Type} (enc : TypeId × Value → H) : ∃ x, DataW.whole enc Tryd.prog ((keysWorld os).forCall (fun _ _ => 0) ⟨#[], #[.agg #[.int .i64 0, .int .i64 0, .int .i64 0, .string .empty], .int .i64 0], []⟩).memory Tryd.f10.params.toList Rows.recordBytesSpec.vars false (#[.agg #[.int .i64 0, .int .i64 0, .int .i64 0, .string .empty], .int .i64 0] : Array Value).toList 8 = some x :=
  Option.isSome_iff_exists.1 (by kernel_rfl)
set_option maxRecDepth 100000 in
theorem lifted (os : Os) (started : os.Started) (H : Type) (enc : TypeId × Value → H) (F : Stop.Interp) :
    ReturnsInHanded {} Tryd.checked os 10 .any ((OpenSpec.ofChange Rows.recordBytesSpec).preRow enc Tryd.prog Tryd.f10 Rows.recordBytesRow.domain false Rows.recordBytesRow.laid) (((OpenSpec.ofChange Rows.recordBytesSpec).at F).post enc Tryd.prog Tryd.f10 false true false false) := by
  obtain ⟨x, hx⟩ := reads os enc
  refine returnsInHanded_of_row (C := Tryd.checked) (s := OpenSpec.ofChange Rows.recordBytesSpec) own_ started (by kernel_rfl) Tryd.func10
    (witness_row_at (enc := enc) (C := Tryd.checked) false (keysWorld os) #[.agg #[.int .i64 0, .int .i64 0, .int .i64 0, .string .empty], .int .i64 0] rfl (by kernel_rfl) (by kernel_rfl) (by kernel_rfl)
      (OpenSpec.preRow_of_cond 8 hx rfl (fun k hk => by cases hk) (by kernel_rfl) (laid_met os))) ?_
  intro W base args ds gs before hval hW _ _ _ hL _ _
  exact contract H enc W base args ds gs before hval hW hL

theorem said : Rows.RecordBytesSaid :=
  OpenClaim.holds_of_cond 10 Tryd.f10 rfl rfl rfl rfl rfl rfl rfl ⟨rfl, rfl, rfl, rfl, rfl⟩ rfl rfl rfl rfl rfl (by kernel_rfl) Tryd.func10 (by kernel_rfl)
    (of_decide_eq_true (by kernel_rfl)) (by unfold Func.isWrapper; first | (rw [if_pos (by decide +kernel)]; kernel_rfl) | (rw [if_neg (by decide +kernel)]; exact ⟨rfl, rfl⟩))
    (fun os started H enc _ F => by rw [OpenClaim.pre_eq_preRow]; exact lifted os started H enc F)
theorem plain (f : FuncId) (fn : Func) (hf : Tryd.pinned.checked.prog.funcNamed "scrinium/scriniumlaw15.RecordBytes" = some f) (hfn : Tryd.pinned.checked.prog.funcs[f]? = some fn) :
    false = Tryd.pinned.checked.prog.looks [] ∧ ∀ (j : Nat) t, fn.params[j]? = some t → Tryd.pinned.checked.prog.wantsStandIn t = false := by
  obtain rfl : f = 10 := Option.some.inj ((show Tryd.prog.funcNamed "scrinium/scriniumlaw15.RecordBytes" = some 10 by kernel_rfl).symm.trans hf) |>.symm
  obtain rfl : fn = Tryd.f10 := (Option.some.inj (Tryd.func10.symm.trans hfn)).symm
  refine ⟨by kernel_rfl, fun j t ht => ?_⟩
  rw [Tryd.params10] at ht
  have hm : t ∈ ([45, 3] : List TypeId) := by simpa using Array.mem_of_getElem? ht
  have hall : (([45, 3] : List TypeId).all fun u => !Tryd.prog.wantsStandIn u) = true := by kernel_rfl
  exact (show Tryd.prog.wantsStandIn t = false by simpa using List.all_eq_true.1 hall t hm)
theorem proved : Rows.RecordBytesCardSaid :=
  Claim7.holds_tied_plain_at .later [] _ _ _ _ said (fun _ h => by cases h) (by kernel_rfl) (fun _ h => by cases h) recordBytes_row_tie rfl ⟨rfl, rfl⟩ (by kernel_rfl) rfl plain (by kernel_rfl)

end Go.Proofs.YtlcimlencoaiiaaDoor.recordBytes
