/-
  scriniumlaw02.ShaHashes: hashes, and how they are written, are as the document says. No condition.
-/
import Derived.Test.YtgofnkpegfkonaaDoorAwk
import Derived.Test.YtgofnkpegfkonaaDoorOpS
import Derived.Test.YtgofnkpegfkonaaDoorEqA
import Derived.Test.YtgofnkpegfkonaaDoorSha9
set_option linter.unusedVariables false
set_option linter.unusedSimpArgs false
namespace Go.Proofs.YtgofnkpegfkonaaDoor.shaHashes
open Go.ChangeShapes Go.WideShapes Go.ChangeAt Go.RowKit
attribute [local go_sem] bs_size bs_toList2 bs_append bs_extract_end bs_extract_begin bs_get wrap64_b grow_cell grow_frozen

set_option maxRecDepth 100000 in
set_option maxHeartbeats 1000000 in
theorem walk (s z : List UInt8) (hs : s.length ≤ 9223372036854775807) (hz : z.length = 32) (w : World) (K : Keys w) :
    Calls Tryd.prog 6 #[.string (bs s), sumV z] w fun e w' => e = .returned (.bool true) ∧ Ext w w' := by
  unfold sumV
  go_enter Tryd.func6, Tryd.ntmps6
  go_wp2_with fail
  have hZ := Blk.new w 33 (z.map byteV).toArray
  have hE := (Ext.refl w).alloc (.cells (z.map byteV).toArray 33)
  generalize w.alloc (.cells (z.map byteV).toArray 33) = w0 at *
  refine (awake_calls _ (K.ext hE)).mono ?_; rintro e w1 ⟨rfl, e1⟩
  replace hZ := Blk.below hZ e1 hZ.lt
  have hE1 := hE.trans e1
  clear hE e1
  go_wp2_with fail
  refine (short_calls s 500 _ hs (by omega)).mono ?_; rintro e w2 ⟨rfl, rfl⟩
  have hd : (s.take 500).length ≤ 500 := by simp; omega
  generalize s.take 500 = d at *
  go_wp2_with fail
  have heq := fun w : World => eq_sum (shaOf d) (shaOf d) (shaOf_length _) (shaOf_length _) w
  have hgw := guard_sum
  have hKs : ∀ x : More w1, Keys (grow w1 x) := fun x => K.ext (hE1.trans (grow_ext x))
  have hgz := hZ.lt
  refine region_mix0 (by kernel_rfl) (by kernel_rfl) (fun x => ?_)
  iterate 3 (first | (refine mix_quiet (by rfl) (by rfl) (fun K hK => ?_); go_big_quiet_op; refine hK _ ?_; clear hK K) | (refine mix_skip (by rfl) ?_; simp only [Act.put, List.setIfInBounds_toArray, List.set_cons_zero, List.set_cons_succ]))
  (refine mix_loud (by rfl) (by rfl) (fun K E hK => ?_); go_big_op)
  refine hK _ _ (more_of ((grow_ext x).alloc _)) ?_; clear hK K E
  (refine mix_loud (by rfl) (by rfl) (fun K E hK => ?_); go_big_op)
  have hRd : ∀ w : World, Rd (w.alloc (.cells #[.string (bs d)] 9)) (w.alloc (.cells #[.string (bs d)] 9)).heap.size (some ⟨w.heap.size, 0, none⟩) ([d].map strV) := fun w => Blk.rd (Blk.new w _ _)
  have hj : joinB [d] = d := by simp [joinB]
  refine (Of_calls [d] _ 1 _ ((hKs x).ext ((Ext.refl _).alloc _)) (hRd _) (by simp) (by rw [hj]; omega)).mono ?_; rw [hj]; clear hRd hj
  rintro e w3 ⟨rfl, hd'⟩
  obtain ⟨x', rfl⟩ := more_of (((grow_ext _).alloc _).trans hd')
  refine hK _ _ ⟨_, rfl⟩ ?_; clear hK K E
  repeat (first | (refine mix_quiet (by rfl) (by rfl) (fun K hK => ?_); go_big_quiet_op; refine hK _ ?_; clear hK K) | (refine mix_skip (by rfl) ?_; simp only [Act.put, List.setIfInBounds_toArray, List.set_cons_zero, List.set_cons_succ]))
  (refine mix_loud (by rfl) (by rfl) (fun K E hK => ?_); go_big_op)
  refine (refOf_calls d _ (by omega)).mono ?_; rintro e w3 ⟨rfl, hd'⟩
  obtain ⟨x', rfl⟩ := more_ext _ hd'
  refine hK _ _ ⟨_, rfl⟩ ?_; clear hK K E
  unfold sumV
  iterate 3 (first | (refine mix_quiet (by rfl) (by rfl) (fun K hK => ?_); go_big_quiet_op; refine hK _ ?_; clear hK K) | (refine mix_skip (by rfl) ?_; simp only [Act.put, List.setIfInBounds_toArray, List.set_cons_zero, List.set_cons_succ]))
  refine mix_row (by rfl) (by rfl) 33 (.tmp 3) rfl w.heap.size (by rfl) _ _ _ hZ Tryd.underlying33 rfl (size32.trans (by simp [hz])) ?_
  simp only [Act.put, List.setIfInBounds_toArray, List.set_cons_zero, List.set_cons_succ]
  (refine mix_loud (by rfl) (by rfl) (fun K E hK => ?_); go_big_op)
  refine (Hex_calls z hz _).mono ?_; rintro e w3 ⟨rfl, hd'⟩
  obtain ⟨x', rfl⟩ := more_ext _ hd'
  refine hK _ _ ⟨_, rfl⟩ ?_; clear hK K E
  refine mix_row (by rfl) (by rfl) 33 (.tmp 3) rfl w.heap.size (by rfl) _ _ _ hZ Tryd.underlying33 rfl (size32.trans (by simp [hz])) ?_
  simp only [Act.put, List.setIfInBounds_toArray, List.set_cons_zero, List.set_cons_succ]
  (refine mix_loud (by rfl) (by rfl) (fun K E hK => ?_); go_big_op)
  refine (refHex_calls z hz _).mono ?_; rintro e w3 ⟨rfl, hd'⟩
  obtain ⟨x', rfl⟩ := more_ext _ hd'
  refine hK _ _ ⟨_, rfl⟩ ?_; clear hK K E
  iterate 3 (first | (refine mix_quiet (by rfl) (by rfl) (fun K hK => ?_); go_big_quiet_op; refine hK _ ?_; clear hK K) | (refine mix_skip (by rfl) ?_; simp only [Act.put, List.setIfInBounds_toArray, List.set_cons_zero, List.set_cons_succ]))
  refine mix_row (by rfl) (by rfl) 33 (.tmp 3) rfl w.heap.size (by rfl) _ _ _ hZ Tryd.underlying33 rfl (size32.trans (by simp [hz])) ?_
  simp only [Act.put, List.setIfInBounds_toArray, List.set_cons_zero, List.set_cons_succ]
  (refine mix_loud (by rfl) (by rfl) (fun K E hK => ?_); go_big_op)
  refine (Bytes_calls z hz _).mono ?_; rintro e w3 ⟨rfl, hd'⟩
  obtain ⟨x', rfl⟩ := more_ext _ hd'
  refine hK _ _ ⟨_, rfl⟩ ?_; clear hK K E
  refine mix_row (by rfl) (by rfl) 33 (.tmp 3) rfl w.heap.size (by rfl) _ _ _ hZ Tryd.underlying33 rfl (size32.trans (by simp [hz])) ?_
  simp only [Act.put, List.setIfInBounds_toArray, List.set_cons_zero, List.set_cons_succ]
  (refine mix_loud (by rfl) (by rfl) (fun K E hK => ?_); go_big_op)
  refine (refBytes_calls z hz _).mono ?_; rintro e w3 ⟨rfl, hd'⟩
  obtain ⟨x', rfl⟩ := more_ext _ hd'
  refine hK _ _ ⟨_, rfl⟩ ?_; clear hK K E
  repeat (first | (refine mix_quiet (by rfl) (by rfl) (fun K hK => ?_); go_big_quiet_op; refine hK _ ?_; clear hK K) | (refine mix_skip (by rfl) ?_; simp only [Act.put, List.setIfInBounds_toArray, List.set_cons_zero, List.set_cons_succ]))
  refine mix_nil ?_
  go_wp2_with fail
  go_ret
  exact ⟨rfl, hE1.trans (grow_ext _)⟩

set_option maxRecDepth 100000 in
theorem contract (H : Type) (enc : TypeId × Value → H) (W : World) (base : Nat) (args : Array Value) (ds gs : List (DataW H)) (before : List MemPlace)
    (hval0 : ∀ (j : Nat) t v, Tryd.f6.params[j]? = some t → args[j]? = some v → Value.okWide Tryd.prog W .any base t v)
    (hW : DataW.Whole enc Tryd.prog Tryd.f6.params.toList Rows.shaHashesSpec.vars false W args.toList ds gs before) (hL : laidMetH Tryd.prog Rows.shaHashesRow.laid W) :
    Calls Tryd.prog 6 args W fun e W' => ∃ v, e = .returned v ∧ Rows.shaHashesSpec.post enc Tryd.prog Tryd.f6 false true false false W args v W' := by
  have K : Keys W := keys_of hL
  have hval : ∀ (j : Nat) t v, Tryd.f6.params[j]? = some t → args[j]? = some v → Value.okWide Tryd.prog W .any base t v := hval0
  have hW' := hW
  obtain ⟨p, q, hA0, hV, rfl, hfz, hnd⟩ := hW
  have hA : DataW.TrodAll enc Tryd.prog W 0 (fun _ => true) true Tryd.f6.params.toList args.toList ds p := hA0
  rw [Tryd.params6] at hA hval
  obtain ⟨v0, vs0, d0, ds0, p0, q0, hargs, rfl, rfl, hx0, r0⟩ := trodAll_cons hA
  obtain ⟨v1, vs1, d1, ds1, p1, q1, rfl, rfl, rfl, hx1, r1⟩ := trodAll_cons r0
  obtain ⟨rfl, rfl, rfl⟩ := trodAll_nil r1
  obtain rfl : args = #[v0, v1] := by cases args; simp_all
  obtain ⟨rfl, rfl⟩ := trodVars_none hV
  obtain ⟨s, rfl, hs⟩ := op_str (hval 0 9 v0 rfl rfl) (tr_of hx0)
  obtain ⟨z, rfl, hz⟩ := op_sum (hval 1 33 v1 rfl rfl) (tr_of hx1)
  refine (walk s z hs hz W K).mono fun e W' ⟨he, hg⟩ => ?_
  subst he
  exact ⟨_, rfl, law_post hW' rfl rfl (by kernel_rfl) rfl rfl rfl hg⟩

theorem laid_met (os : Os) : laidMet Tryd.prog Rows.shaHashesRow.laid ((keysWorld os).forCall (fun _ _ => 0) ⟨#[], #[.string .empty, .agg #[.int .u8 0, .int .u8 0, .int .u8 0, .int .u8 0, .int .u8 0, .int .u8 0, .int .u8 0, .int .u8 0, .int .u8 0, .int .u8 0, .int .u8 0, .int .u8 0, .int .u8 0, .int .u8 0, .int .u8 0, .int .u8 0, .int .u8 0, .int .u8 0, .int .u8 0, .int .u8 0, .int .u8 0, .int .u8 0, .int .u8 0, .int .u8 0, .int .u8 0, .int .u8 0, .int .u8 0, .int .u8 0, .int .u8 0, .int .u8 0, .int .u8 0, .int .u8 0]], []⟩).memory :=
  laidMet_of_run' 8 (by kernel_rfl) (by kernel_rfl)
theorem reads (os : Os) {H : Type} (enc : TypeId × Value → H) : ∃ x, DataW.whole enc Tryd.prog ((keysWorld os).forCall (fun _ _ => 0) ⟨#[], #[.string .empty, .agg #[.int .u8 0, .int .u8 0, .int .u8 0, .int .u8 0, .int .u8 0, .int .u8 0, .int .u8 0, .int .u8 0, .int .u8 0, .int .u8 0, .int .u8 0, .int .u8 0, .int .u8 0, .int .u8 0, .int .u8 0, .int .u8 0, .int .u8 0, .int .u8 0, .int .u8 0, .int .u8 0, .int .u8 0, .int .u8 0, .int .u8 0, .int .u8 0, .int .u8 0, .int .u8 0, .int .u8 0, .int .u8 0, .int .u8 0, .int .u8 0, .int .u8 0, .int .u8 0]], []⟩).memory Tryd.f6.params.toList Rows.shaHashesSpec.vars false (#[.string .empty, .agg #[.int .u8 0, .int .u8 0, .int .u8 0, .int .u8 0, .int .u8 0, .int .u8 0, .int .u8 0, .int .u8 0, .int .u8 0, .int .u8 0, .int .u8 0, .int .u8 0, .int .u8 0, .int .u8 0, .int .u8 0, .int .u8 0, .int .u8 0, .int .u8 0, .int .u8 0, .int .u8 0, .int .u8 0, .int .u8 0, .int .u8 0, .int .u8 0, .int .u8 0, .int .u8 0, .int .u8 0, .int .u8 0, .int .u8 0, .int .u8 0, .int .u8 0, .int .u8 0]] : Array Value).toList 8 = some x :=
  Option.isSome_iff_exists.1 (by kernel_rfl)
set_option maxRecDepth 100000 in
theorem lifted (os : Os) (started : os.Started) (H : Type) (enc : TypeId × Value → H) (F : Stop.Interp) :
    ReturnsInHanded {} Tryd.checked os 6 .any ((OpenSpec.ofChange Rows.shaHashesSpec).preRow enc Tryd.prog Tryd.f6 Rows.shaHashesRow.domain false Rows.shaHashesRow.laid) (((OpenSpec.ofChange Rows.shaHashesSpec).at F).post enc Tryd.prog Tryd.f6 false true false false) := by
  obtain ⟨x, hx⟩ := reads os enc
  refine returnsInHanded_of_row (C := Tryd.checked) (s := OpenSpec.ofChange Rows.shaHashesSpec) own_ started (by kernel_rfl) Tryd.func6
    (witness_row_at (enc := enc) (C := Tryd.checked) false (keysWorld os) #[.string .empty, .agg #[.int .u8 0, .int .u8 0, .int .u8 0, .int .u8 0, .int .u8 0, .int .u8 0, .int .u8 0, .int .u8 0, .int .u8 0, .int .u8 0, .int .u8 0, .int .u8 0, .int .u8 0, .int .u8 0, .int .u8 0, .int .u8 0, .int .u8 0, .int .u8 0, .int .u8 0, .int .u8 0, .int .u8 0, .int .u8 0, .int .u8 0, .int .u8 0, .int .u8 0, .int .u8 0, .int .u8 0, .int .u8 0, .int .u8 0, .int .u8 0, .int .u8 0, .int .u8 0]] rfl (by kernel_rfl) (by kernel_rfl) (by kernel_rfl)
      (OpenSpec.preRow_of_cond 8 hx rfl (fun k hk => by cases hk) (by kernel_rfl) (laid_met os))) ?_
  intro W base args ds gs before hval hW _ _ _ hL _ _
  exact contract H enc W base args ds gs before hval hW hL

theorem said : Rows.ShaHashesSaid :=
  OpenClaim.holds_of_cond 6 Tryd.f6 rfl rfl rfl rfl rfl rfl rfl ⟨rfl, rfl, rfl, rfl, rfl⟩ rfl rfl rfl rfl rfl (by kernel_rfl) Tryd.func6 (by kernel_rfl)
    (of_decide_eq_true (by kernel_rfl)) (by unfold Func.isWrapper; first | (rw [if_pos (by decide +kernel)]; kernel_rfl) | (rw [if_neg (by decide +kernel)]; exact ⟨rfl, rfl⟩))
    (fun os started H enc _ F => by rw [OpenClaim.pre_eq_preRow]; exact lifted os started H enc F)
theorem plain (f : FuncId) (fn : Func) (hf : Tryd.pinned.checked.prog.funcNamed "scrinium/scriniumlaw02.ShaHashes" = some f) (hfn : Tryd.pinned.checked.prog.funcs[f]? = some fn) :
    false = Tryd.pinned.checked.prog.looks [] ∧ ∀ (j : Nat) t, fn.params[j]? = some t → Tryd.pinned.checked.prog.wantsStandIn t = false := by
  obtain rfl : f = 6 := Option.some.inj ((show Tryd.prog.funcNamed "scrinium/scriniumlaw02.ShaHashes" = some 6 by kernel_rfl).symm.trans hf) |>.symm
  obtain rfl : fn = Tryd.f6 := (Option.some.inj (Tryd.func6.symm.trans hfn)).symm
  refine ⟨by kernel_rfl, fun j t ht => ?_⟩
  rw [Tryd.params6] at ht
  have hm : t ∈ ([9, 33] : List TypeId) := by simpa using Array.mem_of_getElem? ht
  have hall : (([9, 33] : List TypeId).all fun u => !Tryd.prog.wantsStandIn u) = true := by kernel_rfl
  exact (show Tryd.prog.wantsStandIn t = false by simpa using List.all_eq_true.1 hall t hm)
theorem proved : Rows.ShaHashesCardSaid :=
  Claim7.holds_tied_plain_at .later [] _ _ _ _ said (fun _ h => by cases h) (by kernel_rfl) (fun _ h => by cases h) shaHashes_row_tie rfl ⟨rfl, rfl⟩ (by kernel_rfl) rfl plain (by kernel_rfl)

end Go.Proofs.YtgofnkpegfkonaaDoor.shaHashes
