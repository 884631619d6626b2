/-
  scriniumlaw11.FrontFull: a front of 2^40 leaves takes no more. No condition.
-/
import Derived.Test.YtlcimlencoaiiaaDoorFrontM
import Derived.Test.YtlcimlencoaiiaaDoorOpL
import Derived.Test.YtlcimlencoaiiaaDoorEqA
import Derived.Test.YtlcimlencoaiiaaDoorLaw
import Derived.Deep.DeepCutAuto
set_option linter.unusedVariables false
set_option maxRecDepth 100000
set_option linter.unusedSimpArgs false
namespace Go.Proofs.YtlcimlencoaiiaaDoor.frontFull
open Go.ChangeShapes Go.WideShapes Go.ChangeAt Go.RowKit
attribute [local go_sem] bs_size bs_toList2 bs_append bs_extract_end bs_extract_begin bs_get wrap64_b grow_cell grow_frozen cZZ


theorem addFull_calls (g : Nat) (n : Int) (pk : List (List UInt8)) (x : List UInt8) (hn : 1099511627776 ≤ n) (w : World) (h : FrAt w g n pk) :
    Calls Tryd.prog 52 #[.pointer (some ⟨g, 0, none⟩), sumV x] w fun e w' => e = .returned (.int .i64 0) ∧ Ext w w' := by
  obtain ⟨v, h1, h2⟩ := h
  have c0 : (w.alloc (.cells (x.map byteV).toArray 23)).cell? ⟨g, 0, none⟩ = some (.int .i64 n) := Blk.cell (h1.alloc _) 0
  have hd : decide ((1099511627776 : Int) ≤ n) = true := decide_eq_true hn
  unfold sumV
  go_enter Tryd.func52, Tryd.ntmps52
  go_wp2_with fail
  go_step3
  go_wp2_with fail
  try rw [Exit.noGoto_ret]
  go_ret
  exact ⟨rfl, (Ext.refl w).alloc _⟩

set_option maxHeartbeats 2000000 in
theorem walk (x : List UInt8) (hx : x.length = 32) (w : World) (KW : Keys w) :
    Calls Tryd.prog 15 #[sumV x] w fun e w' => e = .returned (.bool true) ∧ Ext w w' := by
  have hE0 := (Ext.refl w).alloc (.cells (x.map byteV).toArray 23)
  have hX0 : ArrB (w.alloc (.cells (x.map byteV).toArray 23)) w.heap.size 23 x := Blk.new _ _ _
  have hall1 : AllH [x] := AllH.cons hx AllH.nil
  have hall2 : AllH [x, x] := AllH.cons hx hall1
  have hR1 := frRead_put 1099511627776 [x] hall1 (by omega) (show 1 = Tree.ones 1099511627776 from by decide +kernel)
  have hR2 := frRead_big 1099511627777 (Oct.list [x, x]) (by omega) (by omega)
  have HR1 := Lib.hid hR1; have HR2 := Lib.hid hR2
  clear hR1 hR2
  have hln1 := Oct.list_length_le 32 [x] (fun s hs => Nat.le_of_eq (hall1 s hs))
  have hln2 := Oct.list_length_le 32 [x, x] (fun s hs => Nat.le_of_eq (hall2 s hs))
  have hlp1 : (Oct.put 1099511627776 ++ Oct.list [x]).length ≤ 1099511627776 := by
    have h1 := Oct.put_length 1099511627776
    have h2 := Oct.need_le 1099511627776
    rw [List.length_append]
    simp at hln1
    omega
  have hlp2 : (Oct.put 1099511627777 ++ Oct.list [x, x]).length ≤ 1099511627776 := by
    have h1 := Oct.put_length 1099511627777
    have h2 := Oct.need_le 1099511627777
    rw [List.length_append]
    simp at hln2
    omega
  clear hln1 hln2
  unfold sumV
  go_enter Tryd.func15, Tryd.ntmps15
  go_wp2_with fail
  refine (awake11_calls _ (KW.ext hE0)).mono ?_; rintro e w1 ⟨rfl, e1⟩
  have hX1 := hX0.below e1 hX0.lt
  have hE1 := hE0.trans e1
  clear hE0 hX0 e1
  go_wp2_with (refine stop_load 23 (.tmp 1) rfl ?_)
  refine ⟨?_⟩
  refine wpList_load_row rfl 23 (.tmp 1) rfl w.heap.size (by rfl) 23 _ (0, 0) _ hX1 Tryd.underlying23 rfl (size32.trans (by simp [hx])) ?_
  simp only [Act.put, List.setIfInBounds_toArray, List.set_cons_zero, List.set_cons_succ]
  refine wpList_buildSums rfl 1 _ rfl [x] hall1 rfl (by decide) (by decide) (by rfl) ?_
  simp only [Act.put, List.setIfInBounds_toArray, List.set_cons_zero, List.set_cons_succ]
  have hS2 := sls_new w1 [x] 1 rfl (by decide)
  have e2 := (Ext.refl w1).alloc (.cells (flatS [x]).toArray 23)
  generalize w1.alloc (.cells (flatS [x]).toArray 23) = w2 at *
  have hX2 := hX1.below e2 hX1.lt
  have hE2 := hE1.trans e2
  clear hX1 hE1 e2
  go_wp2_with fail
  refine (refFrBytes_calls 1099511627776 _ [x] hall1 (by omega) (by simp) _ hS2).mono ?_; rintro e w3 ⟨rfl, e3⟩
  have hX3 := hX2.below e3 hX2.lt
  have hE3 := hE2.trans e3
  clear hX2 hE2 e3 hS2
  go_wp2_with fail
  refine (frRead_calls _ hlp1 _).mono ?_; rw [HR1.out]; rintro e w4 ⟨g, rfl, hg, hF, e4⟩
  have hX4 := hX3.below e4 hX3.lt
  have hE4 := hE3.trans e4
  clear hX3 hE3 e4 hlp1
  go_wp2_with (refine stop_load 23 (.tmp 1) rfl ?_)
  refine ⟨?_⟩
  refine wpList_load_row rfl 23 (.tmp 1) rfl w.heap.size (by rfl) 23 _ (0, 0) _ hX4 Tryd.underlying23 rfl (size32.trans (by simp [hx])) ?_
  simp only [Act.put, List.setIfInBounds_toArray, List.set_cons_zero, List.set_cons_succ]
  refine wpList_load_row rfl 23 (.tmp 1) rfl w.heap.size (by rfl) 23 _ (0, 0) _ hX4 Tryd.underlying23 rfl (size32.trans (by simp [hx])) ?_
  simp only [Act.put, List.setIfInBounds_toArray, List.set_cons_zero, List.set_cons_succ]
  refine wpList_buildSums rfl 2 _ rfl [x, x] hall2 rfl (by decide) (by decide) (by rfl) ?_
  simp only [Act.put, List.setIfInBounds_toArray, List.set_cons_zero, List.set_cons_succ]
  have hS5 := sls_new w4 [x, x] 2 rfl (by decide)
  have e5 := (Ext.refl w4).alloc (.cells (flatS [x, x]).toArray 23)
  generalize w4.alloc (.cells (flatS [x, x]).toArray 23) = w5 at *
  have hX5 := hX4.below e5 hX4.lt
  have hE5 := hE4.trans e5
  have hF5 := hF.ext e5
  clear hX4 hE4 e5 hF
  go_wp2_with fail
  refine (refFrBytes_calls 1099511627777 _ [x, x] hall2 (by omega) (by simp) _ hS5).mono ?_; rintro e w6 ⟨rfl, e6⟩
  have hX6 := hX5.below e6 hX5.lt
  have hE6 := hE5.trans e6
  have hF6 := hF5.ext e6
  clear hX5 hE5 e6 hS5 hF5
  go_wp2_with fail
  refine (frRead_calls _ hlp2 _).mono ?_; rw [HR2.out]; rintro e w7 ⟨rfl, e7⟩
  have hX7 := hX6.below e7 hX6.lt
  have hE7 := hE6.trans e7
  have hF7 := hF6.ext e7
  clear hX6 hE6 e7 hF6 hlp2
  have hFs : ∀ y : More w7, FrAt (grow w7 y) g 1099511627776 [x] := fun y => hF7.ext (grow_ext y)
  have hKs : ∀ y : More w7, Keys (grow w7 y) := fun y => KW.ext (hE7.trans (grow_ext y))
  have hgw := guard_sum
  have heq1 := fun w : World => eq_sum x x hx hx w
  go_wp2_with fail
  refine region_plan 27 (Plan.run [0, 1, 2, 3, 4, 5, 6, 7, 8, 9, 10, 11, 12, 13, 14, 15, 16, 17, 18, 19, 20, 21, 23, 22, 24, 25, 26] .nil) (by kernel_rfl) (by kernel_rfl) (fun y0 => ?_); simp only [Plan.run, List.drop_succ_cons, List.drop_zero, List.drop_nil]
  iterate 11 (first | (refine plan_quiet (by simp only [List.getElem?_toArray, List.getElem?_cons_zero, List.getElem?_cons_succ]; rfl) (by rfl) (by rfl) (fun K hK => ?_); go_big_quiet_op; refine hK _ ?_; clear hK K) | (refine plan_skip (by simp only [List.getElem?_toArray, List.getElem?_cons_zero, List.getElem?_cons_succ]; rfl) (by rfl) ?_; simp only [Act.put, List.setIfInBounds_toArray, List.set_cons_zero, List.set_cons_succ]))
  refine plan_row (by simp only [List.getElem?_toArray, List.getElem?_cons_zero, List.getElem?_cons_succ]; rfl) (by rfl) (by rfl) 23 (.tmp 1) rfl w.heap.size (by rfl) _ _ _ hX7 Tryd.underlying23 rfl (size32.trans (by simp [hx])) ?_
  simp only [Act.put, List.setIfInBounds_toArray, List.set_cons_zero, List.set_cons_succ]
  refine plan_one ?_
  (refine plan_loud (by simp only [List.getElem?_toArray, List.getElem?_cons_zero, List.getElem?_cons_succ]; rfl) (by rfl) (by rfl) (fun K E hK => ?_); go_big_op)
  change Calls _ _ #[_, sumV x] _ _
  refine (addFull_calls g 1099511627776 [x] x (by omega) (grow w7 y0) (hFs _)).mono ?_; rintro e w3 ⟨rfl, hd⟩
  obtain ⟨y1, rfl⟩ := more_ext y0 hd; clear hd
  refine hK _ _ ⟨_, rfl⟩ ?_; clear hK K E
  iterate 4 (first | (refine plan_quiet (by simp only [List.getElem?_toArray, List.getElem?_cons_zero, List.getElem?_cons_succ]; rfl) (by rfl) (by rfl) (fun K hK => ?_); go_big_quiet_op; refine hK _ ?_; clear hK K) | (refine plan_skip (by simp only [List.getElem?_toArray, List.getElem?_cons_zero, List.getElem?_cons_succ]; rfl) (by rfl) ?_; simp only [Act.put, List.setIfInBounds_toArray, List.set_cons_zero, List.set_cons_succ]))
  refine plan_one ?_
  (refine plan_loud (by simp only [List.getElem?_toArray, List.getElem?_cons_zero, List.getElem?_cons_succ]; rfl) (by rfl) (by rfl) (fun K E hK => ?_); go_big_op)
  refine (frSize_calls g 1099511627776 [x] (grow w7 y1) (hFs _)).mono ?_; rintro e w3 ⟨rfl, rfl⟩
  refine hK _ _ ⟨_, rfl⟩ ?_; clear hK K E
  iterate 4 (first | (refine plan_quiet (by simp only [List.getElem?_toArray, List.getElem?_cons_zero, List.getElem?_cons_succ]; rfl) (by rfl) (by rfl) (fun K hK => ?_); go_big_quiet_op; refine hK _ ?_; clear hK K) | (refine plan_skip (by simp only [List.getElem?_toArray, List.getElem?_cons_zero, List.getElem?_cons_succ]; rfl) (by rfl) ?_; simp only [Act.put, List.setIfInBounds_toArray, List.set_cons_zero, List.set_cons_succ]))
  refine plan_row (by simp only [List.getElem?_toArray, List.getElem?_cons_zero, List.getElem?_cons_succ]; rfl) (by rfl) (by rfl) 23 (.tmp 1) rfl w.heap.size (by rfl) _ _ _ hX7 Tryd.underlying23 rfl (size32.trans (by simp [hx])) ?_
  simp only [Act.put, List.setIfInBounds_toArray, List.set_cons_zero, List.set_cons_succ]
  refine plan_one ?_
  (refine plan_loud (by simp only [List.getElem?_toArray, List.getElem?_cons_zero, List.getElem?_cons_succ]; rfl) (by rfl) (by rfl) (fun K E hK => ?_); go_big_op)
  refine (frRoot_calls g 1099511627776 [x] (AllH.cons hx AllH.nil) (by simp) (by simp) (grow w7 y1) (hKs _) (hFs _)).mono ?_; rw [show joinS [x] = x from rfl]; unfold sumV; rintro e w3 ⟨rfl, hd⟩
  obtain ⟨y3, rfl⟩ := more_ext y1 hd; clear hd
  refine hK _ _ ⟨_, rfl⟩ ?_; clear hK K E
  iterate 3 (first | (refine plan_quiet (by simp only [List.getElem?_toArray, List.getElem?_cons_zero, List.getElem?_cons_succ]; rfl) (by rfl) (by rfl) (fun K hK => ?_); go_big_quiet_op; refine hK _ ?_; clear hK K) | (refine plan_skip (by simp only [List.getElem?_toArray, List.getElem?_cons_zero, List.getElem?_cons_succ]; rfl) (by rfl) ?_; simp only [Act.put, List.setIfInBounds_toArray, List.set_cons_zero, List.set_cons_succ]))
  refine plan_nil ?_
  go_wp2_with fail
  go_ret
  exact ⟨rfl, hE7.trans (grow_ext _)⟩

set_option maxRecDepth 100000 in
theorem contract (H : Type) (enc : TypeId × Value → H) (W : World) (base : Nat) (args : Array Value) (ds gs : List (DataW H)) (before : List MemPlace)
    (hval0 : ∀ (j : Nat) t v, Tryd.f15.params[j]? = some t → args[j]? = some v → Value.okWide Tryd.prog W .any base t v)
    (hW : DataW.Whole enc Tryd.prog Tryd.f15.params.toList Rows.frontFullSpec.vars false W args.toList ds gs before) (hL : laidMetH Tryd.prog Rows.frontFullRow.laid W) :
    Calls Tryd.prog 15 args W fun e W' => ∃ v, e = .returned v ∧ Rows.frontFullSpec.post enc Tryd.prog Tryd.f15 false true false false W args v W' := by
  have K : Keys W := keys_of hL
  have hval : ∀ (j : Nat) t v, Tryd.f15.params[j]? = some t → args[j]? = some v → Value.okWide Tryd.prog W .any base t v := hval0
  have hW' := hW
  obtain ⟨p, q, hA0, hV, rfl, hfz, hnd⟩ := hW
  have hA : DataW.TrodAll enc Tryd.prog W 0 (fun _ => true) true Tryd.f15.params.toList args.toList ds p := hA0
  rw [Tryd.params15] at hA hval
  obtain ⟨v0, vs0, d0, ds0, p0, q0, hargs, rfl, rfl, hx0, r0⟩ := trodAll_cons hA
  obtain ⟨rfl, rfl, rfl⟩ := trodAll_nil r0
  obtain rfl : args = #[v0] := by cases args; simp_all
  obtain ⟨rfl, rfl⟩ := trodVars_none hV
  obtain ⟨x, rfl, hx⟩ := op_sum (hval 0 23 v0 rfl rfl) (tr_of hx0)
  refine (walk x hx W K).mono fun e W' ⟨he, hg⟩ => ?_
  subst he
  exact ⟨_, rfl, law_post hW' rfl rfl (by kernel_rfl) rfl rfl rfl hg⟩

theorem laid_met (os : Os) : laidMet Tryd.prog Rows.frontFullRow.laid ((keysWorld os).forCall (fun _ _ => 0) ⟨#[], #[.agg #[.int .u8 0, .int .u8 0, .int .u8 0, .int .u8 0, .int .u8 0, .int .u8 0, .int .u8 0, .int .u8 0, .int .u8 0, .int .u8 0, .int .u8 0, .int .u8 0, .int .u8 0, .int .u8 0, .int .u8 0, .int .u8 0, .int .u8 0, .int .u8 0, .int .u8 0, .int .u8 0, .int .u8 0, .int .u8 0, .int .u8 0, .int .u8 0, .int .u8 0, .int .u8 0, .int .u8 0, .int .u8 0, .int .u8 0, .int .u8 0, .int .u8 0, .int .u8 0]], []⟩).memory :=
  laidMet_of_run' 8 (by kernel_rfl) (by kernel_rfl)
theorem reads (os : Os) {H : Type} (enc : TypeId × Value → H) : ∃ x, DataW.whole enc Tryd.prog ((keysWorld os).forCall (fun _ _ => 0) ⟨#[], #[.agg #[.int .u8 0, .int .u8 0, .int .u8 0, .int .u8 0, .int .u8 0, .int .u8 0, .int .u8 0, .int .u8 0, .int .u8 0, .int .u8 0, .int .u8 0, .int .u8 0, .int .u8 0, .int .u8 0, .int .u8 0, .int .u8 0, .int .u8 0, .int .u8 0, .int .u8 0, .int .u8 0, .int .u8 0, .int .u8 0, .int .u8 0, .int .u8 0, .int .u8 0, .int .u8 0, .int .u8 0, .int .u8 0, .int .u8 0, .int .u8 0, .int .u8 0, .int .u8 0]], []⟩).memory Tryd.f15.params.toList Rows.frontFullSpec.vars false (#[.agg #[.int .u8 0, .int .u8 0, .int .u8 0, .int .u8 0, .int .u8 0, .int .u8 0, .int .u8 0, .int .u8 0, .int .u8 0, .int .u8 0, .int .u8 0, .int .u8 0, .int .u8 0, .int .u8 0, .int .u8 0, .int .u8 0, .int .u8 0, .int .u8 0, .int .u8 0, .int .u8 0, .int .u8 0, .int .u8 0, .int .u8 0, .int .u8 0, .int .u8 0, .int .u8 0, .int .u8 0, .int .u8 0, .int .u8 0, .int .u8 0, .int .u8 0, .int .u8 0]] : Array Value).toList 8 = some x :=
  Option.isSome_iff_exists.1 (by kernel_rfl)
set_option maxRecDepth 100000 in
theorem lifted (os : Os) (started : os.Started) (H : Type) (enc : TypeId × Value → H) (F : Stop.Interp) :
    ReturnsInHanded {} Tryd.checked os 15 .any ((OpenSpec.ofChange Rows.frontFullSpec).preRow enc Tryd.prog Tryd.f15 Rows.frontFullRow.domain false Rows.frontFullRow.laid) (((OpenSpec.ofChange Rows.frontFullSpec).at F).post enc Tryd.prog Tryd.f15 false true false false) := by
  obtain ⟨x, hx⟩ := reads os enc
  refine returnsInHanded_of_row (C := Tryd.checked) (s := OpenSpec.ofChange Rows.frontFullSpec) own_ started (by kernel_rfl) Tryd.func15
    (witness_row_at (enc := enc) (C := Tryd.checked) false (keysWorld os) #[.agg #[.int .u8 0, .int .u8 0, .int .u8 0, .int .u8 0, .int .u8 0, .int .u8 0, .int .u8 0, .int .u8 0, .int .u8 0, .int .u8 0, .int .u8 0, .int .u8 0, .int .u8 0, .int .u8 0, .int .u8 0, .int .u8 0, .int .u8 0, .int .u8 0, .int .u8 0, .int .u8 0, .int .u8 0, .int .u8 0, .int .u8 0, .int .u8 0, .int .u8 0, .int .u8 0, .int .u8 0, .int .u8 0, .int .u8 0, .int .u8 0, .int .u8 0, .int .u8 0]] rfl (by kernel_rfl) (by kernel_rfl) (by kernel_rfl)
      (OpenSpec.preRow_of_cond 8 hx rfl (fun k hk => by cases hk) (by kernel_rfl) (laid_met os))) ?_
  intro W base args ds gs before hval hW _ _ _ hL _ _
  exact contract H enc W base args ds gs before hval hW hL

theorem said : Rows.FrontFullSaid :=
  OpenClaim.holds_of_cond 15 Tryd.f15 rfl rfl rfl rfl rfl rfl rfl ⟨rfl, rfl, rfl, rfl, rfl⟩ rfl rfl rfl rfl rfl (by kernel_rfl) Tryd.func15 (by kernel_rfl)
    (of_decide_eq_true (by kernel_rfl)) (by unfold Func.isWrapper; first | (rw [if_pos (by decide +kernel)]; kernel_rfl) | (rw [if_neg (by decide +kernel)]; exact ⟨rfl, rfl⟩))
    (fun os started H enc _ F => by rw [OpenClaim.pre_eq_preRow]; exact lifted os started H enc F)
theorem plain (f : FuncId) (fn : Func) (hf : Tryd.pinned.checked.prog.funcNamed "scrinium/scriniumlaw11.FrontFull" = some f) (hfn : Tryd.pinned.checked.prog.funcs[f]? = some fn) :
    false = Tryd.pinned.checked.prog.looks [] ∧ ∀ (j : Nat) t, fn.params[j]? = some t → Tryd.pinned.checked.prog.wantsStandIn t = false := by
  obtain rfl : f = 15 := Option.some.inj ((show Tryd.prog.funcNamed "scrinium/scriniumlaw11.FrontFull" = some 15 by kernel_rfl).symm.trans hf) |>.symm
  obtain rfl : fn = Tryd.f15 := (Option.some.inj (Tryd.func15.symm.trans hfn)).symm
  refine ⟨by kernel_rfl, fun j t ht => ?_⟩
  rw [Tryd.params15] at ht
  have hm : t ∈ ([23] : List TypeId) := by simpa using Array.mem_of_getElem? ht
  have hall : (([23] : List TypeId).all fun u => !Tryd.prog.wantsStandIn u) = true := by kernel_rfl
  exact (show Tryd.prog.wantsStandIn t = false by simpa using List.all_eq_true.1 hall t hm)
theorem proved : Rows.FrontFullCardSaid :=
  Claim7.holds_tied_plain_at .later [] _ _ _ _ said (fun _ h => by cases h) (by kernel_rfl) (fun _ h => by cases h) frontFull_row_tie rfl ⟨rfl, rfl⟩ (by kernel_rfl) rfl plain (by kernel_rfl)

end Go.Proofs.YtlcimlencoaiiaaDoor.frontFull
