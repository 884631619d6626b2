/-
  scriniumlaw02.ShaNil: of no hash there is that of nothing; a zero one is new. No condition.
-/
import Derived.Test.YtgofnkpegfkonaaDoorAwk
import Derived.Test.YtgofnkpegfkonaaDoorOpS
import Derived.Test.YtgofnkpegfkonaaDoorEqA
import Derived.Test.YtgofnkpegfkonaaDoorShaC
import Derived.Test.YtgofnkpegfkonaaDoorMix5
set_option linter.unusedVariables false
set_option linter.unusedSimpArgs false
namespace Go.Proofs.YtgofnkpegfkonaaDoor.shaNil
open Go.ChangeShapes Go.WideShapes Go.ChangeAt Go.RowKit
attribute [local go_sem] bs_size bs_toList2 bs_append bs_extract_end bs_extract_begin bs_get wrap64_b grow_cell grow_frozen

set_option maxRecDepth 100000 in
set_option maxHeartbeats 1000000 in
theorem walk (s : List UInt8) (w : World) (K : Keys w) (hs : s.length ≤ 9223372036854775807) :
    Calls Tryd.prog 9 #[.string (bs s)] w fun e w' => e = .returned (.bool true) ∧ Ext w w' := by
  go_enter Tryd.func9, Tryd.ntmps9
  go_wp2_with fail
  refine (short_calls s 100 _ hs (by omega)).mono ?_; rintro e w2 ⟨rfl, rfl⟩
  have hd : (s.take 100).length ≤ 100 := by simp; omega
  generalize s.take 100 = d at *
  go_wp2_with fail
  refine (Write_nil d _).mono ?_; rintro e w2 ⟨rfl, rfl⟩
  go_wp2_with fail
  have hgo : ∃ o, o = Obj.cells (hashV false (zeros 8) [] 0).toArray 52 := ⟨_, rfl⟩
  change Calls _ _ _ (w.alloc (.cells (hashV false (zeros 8) [] 0).toArray 52)) _
  have hZ : HashNew (w.alloc (.cells (hashV false (zeros 8) [] 0).toArray 52)) w.heap.size := Blk.new w _ _
  have hE := (Ext.refl w).alloc (.cells (hashV false (zeros 8) [] 0).toArray 52)
  clear hgo
  generalize w.alloc (.cells (hashV false (zeros 8) [] 0).toArray 52) = w0 at *
  have hg0 := K.lt0
  have hZ' : HashOk w0 w.heap.size [] := .inr ⟨rfl, hZ⟩
  clear hZ
  refine (Sum_calls [] w.heap.size _ (K.ext hE) hZ' (by simp)).mono ?_; rintro e w1 ⟨rfl, e1⟩
  replace hZ' := hZ'.ext e1
  have hE1 := hE.trans e1
  clear hE e1
  have hsl0 : ((shaOf []).map byteV).toArray.size = 32 := by simp [shaOf_length]
  unfold sumV
  go_wp2_with (refine stop_store 33 (.tmp 6) (.tmp 15) rfl ?_)
  refine ⟨?_⟩
  change wpList _ _ _ _ _ (w1.alloc (.cells ((zerosB 32).map byteV).toArray 33))
  refine wpList_store_row rfl 33 (.tmp 6) (.tmp 15) rfl w1.heap.size _ (by rfl) (by rfl) 33 _ (Blk.new w1 _ _) (size32.trans (by rw [hsl0])) (by rw [hsl0]; rfl) (by simp [byteV, Value.oneCell']) ?_
  simp only [Act.put, List.setIfInBounds_toArray, List.set_cons_zero, List.set_cons_succ]
  have hX := Blk.row (Blk.new w1 33 ((zerosB 32).map byteV).toArray) ((shaOf []).map byteV).toArray
  have hlo : w.heap.size < w1.heap.size := hZ'.lt
  have hE2 := (hE1.alloc (.cells ((zerosB 32).map byteV).toArray 33)).row (Nat.le_of_lt hlo) ((shaOf []).map byteV).toArray
  have hZ2 := hZ'.ext (((Ext.refl w1).alloc (.cells ((zerosB 32).map byteV).toArray 33)).row (Nat.le_refl _) ((shaOf []).map byteV).toArray)
  generalize (w1.alloc (.cells ((zerosB 32).map byteV).toArray 33)).setRow w1.heap.size ((shaOf []).map byteV).toArray = w2 at *
  generalize w1.heap.size = gx at *
  clear hZ' hE1 w1 w0
  go_wp2_with fail
  go_at_call 30
  refine (Write_calls d [] w.heap.size _ (K.ext hE2) hZ2 (by omega) (by simp; omega)).mono ?_; rintro e w4 ⟨rfl, hZ4, hU⟩
  have hX4 := Blk.grown hX hU (by intro e; injection e with e; omega)
  have hE4 := hE2.upd hU (Nat.le_refl _)
  rw [List.nil_append] at hZ4
  clear hX hE2 hZ2 hU
  go_wp2_with fail
  have heq := fun w : World => eq_sum (shaOf d) (shaOf d) (shaOf_length _) (shaOf_length _) w
  have heq0 := fun w : World => eq_sum (shaOf []) (shaOf []) (shaOf_length _) (shaOf_length _) w
  have hgw := guard_sum
  have hKs : ∀ x : More w4, Keys (grow w4 x) := fun x => K.ext (hE4.trans (grow_ext x))
  have hZs : ∀ x : More w4, HashOk (grow w4 x) w.heap.size d := fun x => HashOk.ext (.inl hZ4) (grow_ext x)
  have hRd : ∀ w : World, Rd (w.alloc (.cells #[.string (bs d)] 9)) (w.alloc (.cells #[.string (bs d)] 9)).heap.size (some ⟨w.heap.size, 0, none⟩) ([d].map strV) := fun w => Blk.rd (Blk.new w _ _)
  have hj : joinB [d] = d := by simp [joinB]
  refine region_plan 40 (Plan.run [0, 1, 2, 3, 4, 5, 6, 7, 8, 9, 10, 11, 12, 13, 14, 15, 16, 17, 18, 19, 20, 21, 22, 23, 24, 25, 27] (.two 26 28 (.one 28 (Plan.run [29, 30, 31, 32, 33, 34, 35, 36, 37, 38, 39] .nil)) (.one 26 (Plan.run [29, 30, 31, 32, 33, 34, 35, 36, 37, 38, 39] .nil)))) (by kernel_rfl) (by kernel_rfl) (fun x => ?_); simp only [Plan.run, List.drop_succ_cons, List.drop_zero, List.drop_nil]
  refine plan_one ?_
  (refine plan_loud (by simp only [List.getElem?_toArray, List.getElem?_cons_zero, List.getElem?_cons_succ]; rfl) (by rfl) (by rfl) (fun K E hK => ?_); go_big_op)
  refine (awake_calls _ (hKs _)).mono ?_; rintro e w3 ⟨rfl, hd'⟩
  obtain ⟨x', rfl⟩ := more_ext _ hd'
  refine hK _ _ ⟨_, rfl⟩ ?_; clear hK K E
  iterate 3 (first | (refine plan_quiet (by simp only [List.getElem?_toArray, List.getElem?_cons_zero, List.getElem?_cons_succ]; rfl) (by rfl) (by rfl) (fun K hK => ?_); go_big_quiet_op; refine hK _ ?_; clear hK K) | (refine plan_skip (by simp only [List.getElem?_toArray, List.getElem?_cons_zero, List.getElem?_cons_succ]; rfl) (by rfl) ?_; simp only [Act.put, List.setIfInBounds_toArray, List.set_cons_zero, List.set_cons_succ]))
  refine plan_one ?_
  (refine plan_loud (by simp only [List.getElem?_toArray, List.getElem?_cons_zero, List.getElem?_cons_succ]; rfl) (by rfl) (by rfl) (fun K E hK => ?_); go_big_op)
  refine (Len_nil _).mono ?_; rintro e w3 ⟨rfl, hd'⟩
  obtain ⟨x', rfl⟩ := more_same _ hd'
  refine hK _ _ ⟨_, rfl⟩ ?_; clear hK K E
  repeat (first | (refine plan_quiet (by simp only [List.getElem?_toArray, List.getElem?_cons_zero, List.getElem?_cons_succ]; rfl) (by rfl) (by rfl) (fun K hK => ?_); go_big_quiet_op; refine hK _ ?_; clear hK K) | (refine plan_skip (by simp only [List.getElem?_toArray, List.getElem?_cons_zero, List.getElem?_cons_succ]; rfl) (by rfl) ?_; simp only [Act.put, List.setIfInBounds_toArray, List.set_cons_zero, List.set_cons_succ]))
  refine plan_one ?_
  (refine plan_loud (by simp only [List.getElem?_toArray, List.getElem?_cons_zero, List.getElem?_cons_succ]; rfl) (by rfl) (by rfl) (fun K E hK => ?_); go_big_op)
  refine (Sum_nil _ (hKs _)).mono ?_; rintro e w3 ⟨rfl, hd'⟩
  obtain ⟨x', rfl⟩ := more_ext _ hd'
  refine hK _ _ ⟨_, rfl⟩ ?_; clear hK K E
  refine plan_one ?_
  (refine plan_loud (by simp only [List.getElem?_toArray, List.getElem?_cons_zero, List.getElem?_cons_succ]; rfl) (by rfl) (by rfl) (fun K E hK => ?_); go_big_op)
  refine (Of_calls [] none 0 _ (hKs _) Rd.nil (by decide) (by decide)).mono ?_; rintro e w3 ⟨rfl, hd'⟩
  obtain ⟨x', rfl⟩ := more_ext _ hd'
  refine hK _ _ ⟨_, rfl⟩ ?_; clear hK K E
  rw [show joinB [] = [] from rfl]
  unfold sumV
  repeat (first | (refine plan_quiet (by simp only [List.getElem?_toArray, List.getElem?_cons_zero, List.getElem?_cons_succ]; rfl) (by rfl) (by rfl) (fun K hK => ?_); go_big_quiet_op; refine hK _ ?_; clear hK K) | (refine plan_skip (by simp only [List.getElem?_toArray, List.getElem?_cons_zero, List.getElem?_cons_succ]; rfl) (by rfl) ?_; simp only [Act.put, List.setIfInBounds_toArray, List.set_cons_zero, List.set_cons_succ]))
  refine plan_one ?_
  (refine plan_loud (by simp only [List.getElem?_toArray, List.getElem?_cons_zero, List.getElem?_cons_succ]; rfl) (by rfl) (by rfl) (fun K E hK => ?_); go_big_op)
  refine (Copy_nil _).mono ?_; rintro e w3 ⟨rfl, hd'⟩
  obtain ⟨x', rfl⟩ := more_same _ hd'
  refine hK _ _ ⟨_, rfl⟩ ?_; clear hK K E
  iterate 3 (first | (refine plan_quiet (by simp only [List.getElem?_toArray, List.getElem?_cons_zero, List.getElem?_cons_succ]; rfl) (by rfl) (by rfl) (fun K hK => ?_); go_big_quiet_op; refine hK _ ?_; clear hK K) | (refine plan_skip (by simp only [List.getElem?_toArray, List.getElem?_cons_zero, List.getElem?_cons_succ]; rfl) (by rfl) ?_; simp only [Act.put, List.setIfInBounds_toArray, List.set_cons_zero, List.set_cons_succ]))
  refine plan_row (by simp only [List.getElem?_toArray, List.getElem?_cons_zero, List.getElem?_cons_succ]; rfl) (by rfl) (by rfl) 33 (.tmp 6) rfl gx (by rfl) _ _ _ hX4 Tryd.underlying33 rfl (size32.trans (by rw [hsl0])) ?_
  simp only [Act.put, List.setIfInBounds_toArray, List.set_cons_zero, List.set_cons_succ]
  refine plan_one ?_
  (refine plan_loud (by simp only [List.getElem?_toArray, List.getElem?_cons_zero, List.getElem?_cons_succ]; rfl) (by rfl) (by rfl) (fun K E hK => ?_); go_big_op)
  refine (Of_calls [] none 0 _ (hKs _) Rd.nil (by decide) (by decide)).mono ?_; rintro e w3 ⟨rfl, hd'⟩
  obtain ⟨x', rfl⟩ := more_ext _ hd'
  refine hK _ _ ⟨_, rfl⟩ ?_; clear hK K E
  rw [show joinB [] = [] from rfl]
  unfold sumV
  repeat (first | (refine plan_quiet (by simp only [List.getElem?_toArray, List.getElem?_cons_zero, List.getElem?_cons_succ]; rfl) (by rfl) (by rfl) (fun K hK => ?_); go_big_quiet_op; refine hK _ ?_; clear hK K) | (refine plan_skip (by simp only [List.getElem?_toArray, List.getElem?_cons_zero, List.getElem?_cons_succ]; rfl) (by rfl) ?_; simp only [Act.put, List.setIfInBounds_toArray, List.set_cons_zero, List.set_cons_succ]))
  refine plan_two ?_ ?_
  · (refine plan_loud (by simp only [List.getElem?_toArray, List.getElem?_cons_zero, List.getElem?_cons_succ]; rfl) (by rfl) (by rfl) (fun K E hK => ?_); go_big_op)
    refine (Sum_calls d w.heap.size _ (hKs _) (hZs _) (by omega)).mono ?_; rintro e w3 ⟨rfl, hd'⟩
    obtain ⟨x', rfl⟩ := more_ext _ hd'
    refine hK _ _ ⟨_, rfl⟩ ?_; clear hK K E
    refine plan_one ?_
    (refine plan_loud (by simp only [List.getElem?_toArray, List.getElem?_cons_zero, List.getElem?_cons_succ]; rfl) (by rfl) (by rfl) (fun K E hK => ?_); go_big_op)
    refine hK _ _ (more_of ((grow_ext _).alloc _)) ?_; clear hK K E
    refine plan_one ?_
    (refine plan_loud (by simp only [List.getElem?_toArray, List.getElem?_cons_zero, List.getElem?_cons_succ]; rfl) (by rfl) (by rfl) (fun K E hK => ?_); go_big_op)
    refine (Of_calls [d] _ 1 _ ((hKs _).ext ((Ext.refl _).alloc _)) (hRd _) (by simp) (by rw [hj]; omega)).mono ?_; rw [hj]; rintro e w3 ⟨rfl, hd'⟩
    obtain ⟨x', rfl⟩ := more_of (((grow_ext _).alloc _).trans hd')
    refine hK _ _ ⟨_, rfl⟩ ?_; clear hK K E
    unfold sumV
    repeat (first | (refine plan_quiet (by simp only [List.getElem?_toArray, List.getElem?_cons_zero, List.getElem?_cons_succ]; rfl) (by rfl) (by rfl) (fun K hK => ?_); go_big_quiet_op; refine hK _ ?_; clear hK K) | (refine plan_skip (by simp only [List.getElem?_toArray, List.getElem?_cons_zero, List.getElem?_cons_succ]; rfl) (by rfl) ?_; simp only [Act.put, List.setIfInBounds_toArray, List.set_cons_zero, List.set_cons_succ]))
    refine plan_one ?_
    (refine plan_loud (by simp only [List.getElem?_toArray, List.getElem?_cons_zero, List.getElem?_cons_succ]; rfl) (by rfl) (by rfl) (fun K E hK => ?_); go_big_op)
    refine (Len_calls d w.heap.size _ (hZs _)).mono ?_; rintro e w3 ⟨rfl, hd'⟩
    obtain ⟨x', rfl⟩ := more_same _ hd'
    refine hK _ _ ⟨_, rfl⟩ ?_; clear hK K E
    repeat (first | (refine plan_quiet (by simp only [List.getElem?_toArray, List.getElem?_cons_zero, List.getElem?_cons_succ]; rfl) (by rfl) (by rfl) (fun K hK => ?_); go_big_quiet_op; refine hK _ ?_; clear hK K) | (refine plan_skip (by simp only [List.getElem?_toArray, List.getElem?_cons_zero, List.getElem?_cons_succ]; rfl) (by rfl) ?_; simp only [Act.put, List.setIfInBounds_toArray, List.set_cons_zero, List.set_cons_succ]))
    refine plan_nil ?_
    go_wp2_with fail
    go_ret
    exact ⟨rfl, hE4.trans (grow_ext _)⟩
  · (refine plan_loud (by simp only [List.getElem?_toArray, List.getElem?_cons_zero, List.getElem?_cons_succ]; rfl) (by rfl) (by rfl) (fun K E hK => ?_); go_big_op)
    refine hK _ _ (more_of ((grow_ext _).alloc _)) ?_; clear hK K E
    refine plan_one ?_
    (refine plan_loud (by simp only [List.getElem?_toArray, List.getElem?_cons_zero, List.getElem?_cons_succ]; rfl) (by rfl) (by rfl) (fun K E hK => ?_); go_big_op)
    refine (Sum_calls d w.heap.size _ ((hKs _).ext ((Ext.refl _).alloc _)) ((hZs _).ext ((Ext.refl _).alloc _)) (by omega)).mono ?_; rintro e w3 ⟨rfl, hd'⟩
    have hR3 := Rd.below (hRd _) hd' (Nat.le_refl _)
    have hsz := hd'.size
    obtain ⟨x', rfl⟩ := more_of (((grow_ext _).alloc _).trans hd')
    refine hK _ _ ⟨_, rfl⟩ ?_; clear hK K E
    refine plan_one ?_
    (refine plan_loud (by simp only [List.getElem?_toArray, List.getElem?_cons_zero, List.getElem?_cons_succ]; rfl) (by rfl) (by rfl) (fun K E hK => ?_); go_big_op)
    refine (Of_calls [d] _ 1 _ (hKs _) (hR3.more hsz) (by simp) (by rw [hj]; omega)).mono ?_; rw [hj]; rintro e w3 ⟨rfl, hd'⟩
    obtain ⟨x', rfl⟩ := more_ext _ hd'
    refine hK _ _ ⟨_, rfl⟩ ?_; clear hK K E
    unfold sumV
    repeat (first | (refine plan_quiet (by simp only [List.getElem?_toArray, List.getElem?_cons_zero, List.getElem?_cons_succ]; rfl) (by rfl) (by rfl) (fun K hK => ?_); go_big_quiet_op; refine hK _ ?_; clear hK K) | (refine plan_skip (by simp only [List.getElem?_toArray, List.getElem?_cons_zero, List.getElem?_cons_succ]; rfl) (by rfl) ?_; simp only [Act.put, List.setIfInBounds_toArray, List.set_cons_zero, List.set_cons_succ]))
    refine plan_one ?_
    (refine plan_loud (by simp only [List.getElem?_toArray, List.getElem?_cons_zero, List.getElem?_cons_succ]; rfl) (by rfl) (by rfl) (fun K E hK => ?_); go_big_op)
    refine (Len_calls d w.heap.size _ (hZs _)).mono ?_; rintro e w3 ⟨rfl, hd'⟩
    obtain ⟨x', rfl⟩ := more_same _ hd'
    refine hK _ _ ⟨_, rfl⟩ ?_; clear hK K E
    repeat (first | (refine plan_quiet (by simp only [List.getElem?_toArray, List.getElem?_cons_zero, List.getElem?_cons_succ]; rfl) (by rfl) (by rfl) (fun K hK => ?_); go_big_quiet_op; refine hK _ ?_; clear hK K) | (refine plan_skip (by simp only [List.getElem?_toArray, List.getElem?_cons_zero, List.getElem?_cons_succ]; rfl) (by rfl) ?_; simp only [Act.put, List.setIfInBounds_toArray, List.set_cons_zero, List.set_cons_succ]))
    refine plan_nil ?_
    go_wp2_with fail
    go_ret
    exact ⟨rfl, hE4.trans (grow_ext _)⟩

set_option maxRecDepth 100000 in
theorem contract (H : Type) (enc : TypeId × Value → H) (W : World) (base : Nat) (args : Array Value) (ds gs : List (DataW H)) (before : List MemPlace)
    (hval0 : ∀ (j : Nat) t v, Tryd.f9.params[j]? = some t → args[j]? = some v → Value.okWide Tryd.prog W .any base t v)
    (hW : DataW.Whole enc Tryd.prog Tryd.f9.params.toList Rows.shaNilSpec.vars false W args.toList ds gs before) (hL : laidMetH Tryd.prog Rows.shaNilRow.laid W) :
    Calls Tryd.prog 9 args W fun e W' => ∃ v, e = .returned v ∧ Rows.shaNilSpec.post enc Tryd.prog Tryd.f9 false true false false W args v W' := by
  have K : Keys W := keys_of hL
  have hval : ∀ (j : Nat) t v, Tryd.f9.params[j]? = some t → args[j]? = some v → Value.okWide Tryd.prog W .any base t v := hval0
  have hW' := hW
  obtain ⟨p, q, hA0, hV, rfl, hfz, hnd⟩ := hW
  have hA : DataW.TrodAll enc Tryd.prog W 0 (fun _ => true) true Tryd.f9.params.toList args.toList ds p := hA0
  rw [Tryd.params9] at hA hval
  obtain ⟨v0, vs0, d0, ds0, p0, q0, hargs, rfl, rfl, hx0, r0⟩ := trodAll_cons hA
  obtain ⟨rfl, rfl, rfl⟩ := trodAll_nil r0
  obtain rfl : args = #[v0] := by cases args; simp_all
  obtain ⟨rfl, rfl⟩ := trodVars_none hV
  obtain ⟨s, rfl, hs⟩ := op_str (hval 0 9 v0 rfl rfl) (tr_of hx0)
  refine (walk s W K hs).mono fun e W' ⟨he, hg⟩ => ?_
  subst he
  exact ⟨_, rfl, law_post hW' rfl rfl (by kernel_rfl) rfl rfl rfl hg⟩

theorem laid_met (os : Os) : laidMet Tryd.prog Rows.shaNilRow.laid ((keysWorld os).forCall (fun _ _ => 0) ⟨#[], #[.string .empty], []⟩).memory :=
  laidMet_of_run' 8 (by kernel_rfl) (by kernel_rfl)
theorem reads (os : Os) {H : Type} (enc : TypeId × Value → H) : ∃ x, DataW.whole enc Tryd.prog ((keysWorld os).forCall (fun _ _ => 0) ⟨#[], #[.string .empty], []⟩).memory Tryd.f9.params.toList Rows.shaNilSpec.vars false (#[.string .empty] : Array Value).toList 8 = some x :=
  Option.isSome_iff_exists.1 (by kernel_rfl)
set_option maxRecDepth 100000 in
theorem lifted (os : Os) (started : os.Started) (H : Type) (enc : TypeId × Value → H) (F : Stop.Interp) :
    ReturnsInHanded {} Tryd.checked os 9 .any ((OpenSpec.ofChange Rows.shaNilSpec).preRow enc Tryd.prog Tryd.f9 Rows.shaNilRow.domain false Rows.shaNilRow.laid) (((OpenSpec.ofChange Rows.shaNilSpec).at F).post enc Tryd.prog Tryd.f9 false true false false) := by
  obtain ⟨x, hx⟩ := reads os enc
  refine returnsInHanded_of_row (C := Tryd.checked) (s := OpenSpec.ofChange Rows.shaNilSpec) own_ started (by kernel_rfl) Tryd.func9
    (witness_row_at (enc := enc) (C := Tryd.checked) false (keysWorld os) #[.string .empty] rfl (by kernel_rfl) (by kernel_rfl) (by kernel_rfl)
      (OpenSpec.preRow_of_cond 8 hx rfl (fun k hk => by cases hk) (by kernel_rfl) (laid_met os))) ?_
  intro W base args ds gs before hval hW _ _ _ hL _ _
  exact contract H enc W base args ds gs before hval hW hL

theorem said : Rows.ShaNilSaid :=
  OpenClaim.holds_of_cond 9 Tryd.f9 rfl rfl rfl rfl rfl rfl rfl ⟨rfl, rfl, rfl, rfl, rfl⟩ rfl rfl rfl rfl rfl (by kernel_rfl) Tryd.func9 (by kernel_rfl)
    (of_decide_eq_true (by kernel_rfl)) (by unfold Func.isWrapper; first | (rw [if_pos (by decide +kernel)]; kernel_rfl) | (rw [if_neg (by decide +kernel)]; exact ⟨rfl, rfl⟩))
    (fun os started H enc _ F => by rw [OpenClaim.pre_eq_preRow]; exact lifted os started H enc F)
theorem plain (f : FuncId) (fn : Func) (hf : Tryd.pinned.checked.prog.funcNamed "scrinium/scriniumlaw02.ShaNil" = some f) (hfn : Tryd.pinned.checked.prog.funcs[f]? = some fn) :
    false = Tryd.pinned.checked.prog.looks [] ∧ ∀ (j : Nat) t, fn.params[j]? = some t → Tryd.pinned.checked.prog.wantsStandIn t = false := by
  obtain rfl : f = 9 := Option.some.inj ((show Tryd.prog.funcNamed "scrinium/scriniumlaw02.ShaNil" = some 9 by kernel_rfl).symm.trans hf) |>.symm
  obtain rfl : fn = Tryd.f9 := (Option.some.inj (Tryd.func9.symm.trans hfn)).symm
  refine ⟨by kernel_rfl, fun j t ht => ?_⟩
  rw [Tryd.params9] at ht
  have hm : t ∈ ([9] : List TypeId) := by simpa using Array.mem_of_getElem? ht
  have hall : (([9] : List TypeId).all fun u => !Tryd.prog.wantsStandIn u) = true := by kernel_rfl
  exact (show Tryd.prog.wantsStandIn t = false by simpa using List.all_eq_true.1 hall t hm)
theorem proved : Rows.ShaNilCardSaid :=
  Claim7.holds_tied_plain_at .later [] _ _ _ _ said (fun _ h => by cases h) (by kernel_rfl) (fun _ h => by cases h) shaNil_row_tie rfl ⟨rfl, rfl⟩ (by kernel_rfl) rfl plain (by kernel_rfl)

end Go.Proofs.YtgofnkpegfkonaaDoor.shaNil
