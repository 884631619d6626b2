/-
  scriniumlaw02.ShaSteps: a state behind a block is as the document says. No condition.
-/
import Derived.Test.YtgofnkpegfkonaaDoorAwk
import Derived.Test.YtgofnkpegfkonaaDoorOpS
import Derived.Test.YtgofnkpegfkonaaDoorEqA
import Derived.Test.YtgofnkpegfkonaaDoorSha3
set_option linter.unusedVariables false
set_option linter.unusedSimpArgs false
namespace Go.Proofs.YtgofnkpegfkonaaDoor.shaSteps
open Go.ChangeShapes Go.WideShapes Go.ChangeAt Go.RowKit
attribute [local go_sem] bs_size bs_toList2 bs_append bs_extract_end bs_extract_begin bs_get wrap64_b grow_cell grow_frozen

set_option maxRecDepth 100000 in
set_option maxHeartbeats 1000000 in
theorem walk (s b : List Int) (hs : s.length = 8) (hb : b.length = 16) (w : World) (K : Keys w) :
    Calls Tryd.prog 3 #[.agg (s.map wordV).toArray, .agg (b.map wordV).toArray] w fun e w' => e = .returned (.bool true) ∧ Ext w w' := by
  go_enter Tryd.func3, Tryd.ntmps3
  go_wp2_with fail
  have h8 := hs
  have hS := Blk.alloc (Blk.new w 23 (s.map wordV).toArray) (.cells (b.map wordV).toArray 24)
  have hB := Blk.new (w.alloc (.cells (s.map wordV).toArray 23)) 24 (b.map wordV).toArray
  have hE := ((Ext.refl w).alloc (.cells (s.map wordV).toArray 23)).alloc (.cells (b.map wordV).toArray 24)
  rw [alloc_size] at hB
  generalize (w.alloc (.cells (s.map wordV).toArray 23)).alloc (.cells (b.map wordV).toArray 24) = w0 at *
  refine (awake_calls _ (K.ext hE)).mono ?_; rintro e w1 ⟨rfl, e1⟩
  replace hS := Blk.below hS e1 hS.lt
  replace hB := Blk.below hB e1 hB.lt
  have hE1 := hE.trans e1
  clear hE e1
  go_wp2_with fail
  have hw8 : ∀ (l : List Int), l.length = 8 → ∀ w : World, (Op.equalIn 10000 23 (.agg (l.map wordV).toArray) (.agg (l.map wordV).toArray)).run Tryd.prog w = .ok (decide (l = l)) w := fun l h w => eq_w8 l l h h w
  have heq := hw8 (step s b) (by rw [step_length]; exact hs)
  have heq2 := hw8 start rfl
  have hgw := guard_w8
  clear hw8
  have hKs : ∀ x : More w1, Keys (grow w1 x) := fun x => K.ext (hE1.trans (grow_ext x))
  refine region_mix0 (by kernel_rfl) (by kernel_rfl) (fun x => ?_)
  iterate 2 (first | (refine mix_quiet (by rfl) (by rfl) (fun K hK => ?_); go_big_quiet_op; refine hK _ ?_; clear hK K) | (refine mix_skip (by rfl) ?_; simp only [Act.put, List.setIfInBounds_toArray, List.set_cons_zero, List.set_cons_succ]))
  refine mix_row (by rfl) (by rfl) 23 (.tmp 2) rfl w.heap.size (by rfl) _ _ _ hS Tryd.underlying23 rfl (size8.trans (by simp [hs])) ?_
  simp only [Act.put, List.setIfInBounds_toArray, List.set_cons_zero, List.set_cons_succ]
  refine mix_row (by rfl) (by rfl) 24 (.tmp 3) rfl (w.heap.size + 1) (by rfl) _ _ _ hB Tryd.underlying24 rfl (size16.trans (by simp [hb])) ?_
  simp only [Act.put, List.setIfInBounds_toArray, List.set_cons_zero, List.set_cons_succ]
  (refine mix_loud (by rfl) (by rfl) (fun K E hK => ?_); go_big_op)
  refine (Step_calls s b hs hb _ (hKs _)).mono ?_; rintro e w3 ⟨rfl, hd⟩
  obtain ⟨x', rfl⟩ := more_ext x hd
  refine hK _ _ ⟨_, rfl⟩ ?_; clear hK K E
  clear hd x
  refine mix_row (by rfl) (by rfl) 23 (.tmp 2) rfl w.heap.size (by rfl) _ _ _ hS Tryd.underlying23 rfl (size8.trans (by simp [hs])) ?_
  simp only [Act.put, List.setIfInBounds_toArray, List.set_cons_zero, List.set_cons_succ]
  refine mix_row (by rfl) (by rfl) 24 (.tmp 3) rfl (w.heap.size + 1) (by rfl) _ _ _ hB Tryd.underlying24 rfl (size16.trans (by simp [hb])) ?_
  simp only [Act.put, List.setIfInBounds_toArray, List.set_cons_zero, List.set_cons_succ]
  (refine mix_loud (by rfl) (by rfl) (fun K E hK => ?_); go_big_op)
  refine (refStep_calls s b hs hb _).mono ?_; rintro e w3 ⟨rfl, hd⟩
  obtain ⟨x', rfl⟩ := more_ext _ hd
  refine hK _ _ ⟨_, rfl⟩ ?_; clear hK K E

  repeat (first | (refine mix_quiet (by rfl) (by rfl) (fun K hK => ?_); go_big_quiet_op; refine hK _ ?_; clear hK K) | (refine mix_skip (by rfl) ?_; simp only [Act.put, List.setIfInBounds_toArray, List.set_cons_zero, List.set_cons_succ]))
  (refine mix_loud (by rfl) (by rfl) (fun K E hK => ?_); go_big_op)
  refine (Start_calls _).mono ?_; rintro e w3 ⟨rfl, hd⟩
  obtain ⟨x', rfl⟩ := more_ext _ hd
  refine hK _ _ ⟨_, rfl⟩ ?_; clear hK K E

  (refine mix_loud (by rfl) (by rfl) (fun K E hK => ?_); go_big_op)
  refine (refStart_calls _).mono ?_; rintro e w3 ⟨rfl, hd⟩
  obtain ⟨x', rfl⟩ := more_ext _ hd
  refine hK _ _ ⟨_, rfl⟩ ?_; clear hK K E

  repeat (first | (refine mix_quiet (by rfl) (by rfl) (fun K hK => ?_); go_big_quiet_op; refine hK _ ?_; clear hK K) | (refine mix_skip (by rfl) ?_; simp only [Act.put, List.setIfInBounds_toArray, List.set_cons_zero, List.set_cons_succ]))
  refine mix_nil ?_
  go_wp2_with fail
  go_ret
  exact ⟨rfl, hE1.trans (grow_ext _)⟩

set_option maxRecDepth 100000 in
theorem contract (H : Type) (enc : TypeId × Value → H) (W : World) (base : Nat) (args : Array Value) (ds gs : List (DataW H)) (before : List MemPlace)
    (hval0 : ∀ (j : Nat) t v, Tryd.f3.params[j]? = some t → args[j]? = some v → Value.okWide Tryd.prog W .any base t v)
    (hW : DataW.Whole enc Tryd.prog Tryd.f3.params.toList Rows.shaStepsSpec.vars false W args.toList ds gs before) (hL : laidMetH Tryd.prog Rows.shaStepsRow.laid W) :
    Calls Tryd.prog 3 args W fun e W' => ∃ v, e = .returned v ∧ Rows.shaStepsSpec.post enc Tryd.prog Tryd.f3 false true false false W args v W' := by
  have K : Keys W := keys_of hL
  have hval : ∀ (j : Nat) t v, Tryd.f3.params[j]? = some t → args[j]? = some v → Value.okWide Tryd.prog W .any base t v := hval0
  have hW' := hW
  obtain ⟨p, q, hA0, hV, rfl, hfz, hnd⟩ := hW
  have hA : DataW.TrodAll enc Tryd.prog W 0 (fun _ => true) true Tryd.f3.params.toList args.toList ds p := hA0
  rw [Tryd.params3] at hA hval
  obtain ⟨v0, vs0, d0, ds0, p0, q0, hargs, rfl, rfl, hx0, r0⟩ := trodAll_cons hA
  obtain ⟨v1, vs1, d1, ds1, p1, q1, rfl, rfl, rfl, hx1, r1⟩ := trodAll_cons r0
  obtain ⟨rfl, rfl, rfl⟩ := trodAll_nil r1
  obtain rfl : args = #[v0, v1] := by cases args; simp_all
  obtain ⟨rfl, rfl⟩ := trodVars_none hV
  obtain ⟨s, rfl, hs⟩ := op_w8 (hval 0 23 v0 rfl rfl) (tr_of hx0)
  obtain ⟨b, rfl, hb⟩ := op_w16 (hval 1 24 v1 rfl rfl) (tr_of hx1)
  refine (walk s b hs hb W K).mono fun e W' ⟨he, hg⟩ => ?_
  subst he
  exact ⟨_, rfl, law_post hW' rfl rfl (by kernel_rfl) rfl rfl rfl hg⟩

theorem laid_met (os : Os) : laidMet Tryd.prog Rows.shaStepsRow.laid ((keysWorld os).forCall (fun _ _ => 0) ⟨#[], #[.agg #[.int .u32 0, .int .u32 0, .int .u32 0, .int .u32 0, .int .u32 0, .int .u32 0, .int .u32 0, .int .u32 0], .agg #[.int .u32 0, .int .u32 0, .int .u32 0, .int .u32 0, .int .u32 0, .int .u32 0, .int .u32 0, .int .u32 0, .int .u32 0, .int .u32 0, .int .u32 0, .int .u32 0, .int .u32 0, .int .u32 0, .int .u32 0, .int .u32 0]], []⟩).memory :=
  laidMet_of_run' 8 (by kernel_rfl) (by kernel_rfl)
theorem reads (os : Os) {H : Type} (enc : TypeId × Value → H) : ∃ x, DataW.whole enc Tryd.prog ((keysWorld os).forCall (fun _ _ => 0) ⟨#[], #[.agg #[.int .u32 0, .int .u32 0, .int .u32 0, .int .u32 0, .int .u32 0, .int .u32 0, .int .u32 0, .int .u32 0], .agg #[.int .u32 0, .int .u32 0, .int .u32 0, .int .u32 0, .int .u32 0, .int .u32 0, .int .u32 0, .int .u32 0, .int .u32 0, .int .u32 0, .int .u32 0, .int .u32 0, .int .u32 0, .int .u32 0, .int .u32 0, .int .u32 0]], []⟩).memory Tryd.f3.params.toList Rows.shaStepsSpec.vars false (#[.agg #[.int .u32 0, .int .u32 0, .int .u32 0, .int .u32 0, .int .u32 0, .int .u32 0, .int .u32 0, .int .u32 0], .agg #[.int .u32 0, .int .u32 0, .int .u32 0, .int .u32 0, .int .u32 0, .int .u32 0, .int .u32 0, .int .u32 0, .int .u32 0, .int .u32 0, .int .u32 0, .int .u32 0, .int .u32 0, .int .u32 0, .int .u32 0, .int .u32 0]] : Array Value).toList 8 = some x :=
  Option.isSome_iff_exists.1 (by kernel_rfl)
set_option maxRecDepth 100000 in
theorem lifted (os : Os) (started : os.Started) (H : Type) (enc : TypeId × Value → H) (F : Stop.Interp) :
    ReturnsInHanded {} Tryd.checked os 3 .any ((OpenSpec.ofChange Rows.shaStepsSpec).preRow enc Tryd.prog Tryd.f3 Rows.shaStepsRow.domain false Rows.shaStepsRow.laid) (((OpenSpec.ofChange Rows.shaStepsSpec).at F).post enc Tryd.prog Tryd.f3 false true false false) := by
  obtain ⟨x, hx⟩ := reads os enc
  refine returnsInHanded_of_row (C := Tryd.checked) (s := OpenSpec.ofChange Rows.shaStepsSpec) own_ started (by kernel_rfl) Tryd.func3
    (witness_row_at (enc := enc) (C := Tryd.checked) false (keysWorld os) #[.agg #[.int .u32 0, .int .u32 0, .int .u32 0, .int .u32 0, .int .u32 0, .int .u32 0, .int .u32 0, .int .u32 0], .agg #[.int .u32 0, .int .u32 0, .int .u32 0, .int .u32 0, .int .u32 0, .int .u32 0, .int .u32 0, .int .u32 0, .int .u32 0, .int .u32 0, .int .u32 0, .int .u32 0, .int .u32 0, .int .u32 0, .int .u32 0, .int .u32 0]] rfl (by kernel_rfl) (by kernel_rfl) (by kernel_rfl)
      (OpenSpec.preRow_of_cond 8 hx rfl (fun k hk => by cases hk) (by kernel_rfl) (laid_met os))) ?_
  intro W base args ds gs before hval hW _ _ _ hL _ _
  exact contract H enc W base args ds gs before hval hW hL

theorem said : Rows.ShaStepsSaid :=
  OpenClaim.holds_of_cond 3 Tryd.f3 rfl rfl rfl rfl rfl rfl rfl ⟨rfl, rfl, rfl, rfl, rfl⟩ rfl rfl rfl rfl rfl (by kernel_rfl) Tryd.func3 (by kernel_rfl)
    (of_decide_eq_true (by kernel_rfl)) (by unfold Func.isWrapper; first | (rw [if_pos (by decide +kernel)]; kernel_rfl) | (rw [if_neg (by decide +kernel)]; exact ⟨rfl, rfl⟩))
    (fun os started H enc _ F => by rw [OpenClaim.pre_eq_preRow]; exact lifted os started H enc F)
theorem plain (f : FuncId) (fn : Func) (hf : Tryd.pinned.checked.prog.funcNamed "scrinium/scriniumlaw02.ShaSteps" = some f) (hfn : Tryd.pinned.checked.prog.funcs[f]? = some fn) :
    false = Tryd.pinned.checked.prog.looks [] ∧ ∀ (j : Nat) t, fn.params[j]? = some t → Tryd.pinned.checked.prog.wantsStandIn t = false := by
  obtain rfl : f = 3 := Option.some.inj ((show Tryd.prog.funcNamed "scrinium/scriniumlaw02.ShaSteps" = some 3 by kernel_rfl).symm.trans hf) |>.symm
  obtain rfl : fn = Tryd.f3 := (Option.some.inj (Tryd.func3.symm.trans hfn)).symm
  refine ⟨by kernel_rfl, fun j t ht => ?_⟩
  rw [Tryd.params3] at ht
  have hm : t ∈ ([23, 24] : List TypeId) := by simpa using Array.mem_of_getElem? ht
  have hall : (([23, 24] : List TypeId).all fun u => !Tryd.prog.wantsStandIn u) = true := by kernel_rfl
  exact (show Tryd.prog.wantsStandIn t = false by simpa using List.all_eq_true.1 hall t hm)
theorem proved : Rows.ShaStepsCardSaid :=
  Claim7.holds_tied_plain_at .later [] _ _ _ _ said (fun _ h => by cases h) (by kernel_rfl) (fun _ h => by cases h) shaSteps_row_tie rfl ⟨rfl, rfl⟩ (by kernel_rfl) rfl plain (by kernel_rfl)

end Go.Proofs.YtgofnkpegfkonaaDoor.shaSteps
