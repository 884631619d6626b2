/-
  scriniumlaw03.MacSums: keys are padded, and sums made, as the document says. No condition.
-/
import Derived.Test.YtgofnkpegfkonaaDoorMacA
import Derived.Test.YtgofnkpegfkonaaDoorFew2
import Derived.Deep.DeepCutAuto
set_option linter.unusedVariables false
set_option linter.unusedSimpArgs false
namespace Go.Proofs.YtgofnkpegfkonaaDoor.macSums
open Go.ChangeShapes Go.WideShapes Go.ChangeAt Go.RowKit
attribute [local go_sem] bs_size bs_toList2 bs_append bs_extract_end bs_extract_begin bs_get wrap64_b grow_cell grow_frozen


set_option maxRecDepth 100000 in
set_option maxHeartbeats 2000000 in
theorem walk (key s x : List UInt8) (hk0 : key.length ≤ 9223372036854775807) (hs0 : s.length ≤ 9223372036854775807) (hx : x.length = 32) (w : World) (KW : Keys w) :
    Calls Tryd.prog 11 #[.string (bs key), .string (bs s), sumV x] w fun e w' => e = .returned (.bool true) ∧ Ext w w' := by
  unfold sumV
  go_enter Tryd.func11, Tryd.ntmps11
  go_wp2_with fail
  have hX0 := Blk.new w 33 (x.map byteV).toArray
  have hE0 := (Ext.refl w).alloc (.cells (x.map byteV).toArray 33)
  generalize w.alloc (.cells (x.map byteV).toArray 33) = w0 at *
  refine (awake03_calls _ (KW.ext hE0)).mono ?_; rintro e w1 ⟨rfl, e1⟩
  go_wp2_with fail
  refine (short03_calls key 200 _ hk0 (by omega)).mono ?_; rintro e w2 ⟨rfl, rfl⟩
  have hk : (key.take 200).length ≤ 200 := by simp; omega
  generalize key.take 200 = key at *
  go_wp2_with fail
  refine (short03_calls s 300 _ hs0 (by omega)).mono ?_; rintro e w2 ⟨rfl, rfl⟩
  have hs : (s.take 300).length ≤ 300 := by simp; omega
  generalize s.take 300 = s at *
  clear hk0 hs0
  go_wp2_with fail
  refine (refMac_calls key s (by omega) (by omega) _).mono ?_; rintro e w2 ⟨rfl, e2⟩
  have hX2 := Blk.below (Blk.below hX0 e1 hX0.lt) e2 (Blk.below hX0 e1 hX0.lt).lt
  have hE2 := (hE0.trans e1).trans e2
  have hml := macOf_length key s
  obtain ⟨mac, hmac⟩ : ∃ mac, mac = macOf key s := ⟨_, rfl⟩
  rw [← hmac] at hml ⊢
  have Hmac := Lib.hid hmac
  clear hX0 hE0 e1 e2 hmac
  have hmz : (mac.map byteV).toArray.size = 32 := by simp [hml]
  unfold sumV
  go_wp2_with (refine stop_store 33 (.tmp 8) (.tmp 16) rfl ?_)
  refine ⟨?_⟩
  change wpList _ _ _ _ _ (w2.alloc (.cells ((zerosB 32).map byteV).toArray 33))
  refine wpList_store_row rfl 33 (.tmp 8) (.tmp 16) rfl w2.heap.size _ (by rfl) (by rfl) 33 _ (Blk.new w2 _ _) (size32.trans (by rw [hmz])) (by rw [hmz]; rfl) (by simp [byteV, Value.oneCell']) ?_
  simp only [Act.put, List.setIfInBounds_toArray, List.set_cons_zero, List.set_cons_succ]
  have hW := Blk.row (Blk.new w2 33 ((zerosB 32).map byteV).toArray) (mac.map byteV).toArray
  have hX := Blk.rowFar (Blk.alloc hX2 (.cells ((zerosB 32).map byteV).toArray 33)) (show w.heap.size ≠ w2.heap.size by have := hX2.lt; omega) (mac.map byteV).toArray
  have hE : Ext w ((w2.alloc (.cells ((zerosB 32).map byteV).toArray 33)).setRow w2.heap.size (mac.map byteV).toArray) := (hE2.alloc _).row hE2.size _
  clear hX2 hE2
  generalize (w2.alloc (.cells ((zerosB 32).map byteV).toArray 33)).setRow w2.heap.size (mac.map byteV).toArray = w4 at *
  generalize w2.heap.size = gw at *
  go_wp2_with fail
  have hKs : ∀ x : More w4, Keys (grow w4 x) := fun x => KW.ext (hE.trans (grow_ext x))
  have hj : joinB [s] = s := by simp [joinB]
  have hgw := guard_sum
  have heq1 := fun w : World => eq_sum mac mac hml hml w
  have heq2 := fun w : World => eq_sum x mac hx hml w
  refine region_plan 35 (Plan.run [0, 1, 2, 4, 3, 5, 6, 7, 8, 9, 10, 13, 11, 12, 14, 15, 16, 17, 18, 19, 22, 23, 24, 20, 21, 25, 26, 27, 28, 29, 30, 31, 32, 33, 34] .nil) (by kernel_rfl) (by kernel_rfl) (fun y0 => ?_); simp only [Plan.run, List.drop_succ_cons, List.drop_zero, List.drop_nil]
  iterate 4 (first | (refine plan_quiet (by simp only [List.getElem?_toArray, List.getElem?_cons_zero, List.getElem?_cons_succ]; rfl) (by rfl) (by rfl) (fun K hK => ?_); go_big_quiet_op; refine hK _ ?_; clear hK K) | (refine plan_skip (by simp only [List.getElem?_toArray, List.getElem?_cons_zero, List.getElem?_cons_succ]; rfl) (by rfl) ?_; simp only [Act.put, List.setIfInBounds_toArray, List.set_cons_zero, List.set_cons_succ]))
  refine plan_one ?_
  (refine plan_loud (by simp only [List.getElem?_toArray, List.getElem?_cons_zero, List.getElem?_cons_succ]; rfl) (by rfl) (by rfl) (fun K E hK => ?_); go_big_op)
  refine (Pad_calls key (by omega) (grow w4 y0) (hKs _)).mono ?_; rintro e w3 ⟨rfl, hd⟩
  obtain ⟨y1, rfl⟩ := more_ext y0 hd; clear hd
  refine hK _ _ ⟨_, rfl⟩ ?_; clear hK K E
  refine plan_one ?_
  (refine plan_loud (by simp only [List.getElem?_toArray, List.getElem?_cons_zero, List.getElem?_cons_succ]; rfl) (by rfl) (by rfl) (fun K E hK => ?_); go_big_op)
  refine (refPad_calls key (by omega) (grow w4 y1)).mono ?_; rintro e w3 ⟨rfl, hd⟩
  obtain ⟨y2, rfl⟩ := more_ext y1 hd; clear hd
  refine hK _ _ ⟨_, rfl⟩ ?_; clear hK K E
  iterate 5 (first | (refine plan_quiet (by simp only [List.getElem?_toArray, List.getElem?_cons_zero, List.getElem?_cons_succ]; rfl) (by rfl) (by rfl) (fun K hK => ?_); go_big_quiet_op; refine hK _ ?_; clear hK K) | (refine plan_skip (by simp only [List.getElem?_toArray, List.getElem?_cons_zero, List.getElem?_cons_succ]; rfl) (by rfl) ?_; simp only [Act.put, List.setIfInBounds_toArray, List.set_cons_zero, List.set_cons_succ]))
  refine plan_row (by simp only [List.getElem?_toArray, List.getElem?_cons_zero, List.getElem?_cons_succ]; rfl) (by rfl) (by rfl) 33 (.tmp 8) rfl gw (by rfl) _ _ _ hW Tryd.underlying33 rfl (size32.trans (by simp [hml])) ?_
  simp only [Act.put, List.setIfInBounds_toArray, List.set_cons_zero, List.set_cons_succ]
  refine plan_one ?_
  (refine plan_loud (by simp only [List.getElem?_toArray, List.getElem?_cons_zero, List.getElem?_cons_succ]; rfl) (by rfl) (by rfl) (fun K E hK => ?_); go_big_op)
  obtain ⟨y3, hy3⟩ := more_of ((grow_ext y2).alloc (.cells #[.string (bs s)] 9))
  have h11 : Rd ((grow w4 y2).alloc (.cells #[.string (bs s)] 9)) ((grow w4 y2).alloc (.cells #[.string (bs s)] 9)).heap.size (some ⟨(grow w4 y2).heap.size, 0, none⟩) ([s].map strV) := Blk.rd (Blk.new _ _ _)
  rw [hy3] at h11 ⊢
  clear hy3; generalize (grow w4 y2).heap.size = g11 at *
  refine hK _ _ ⟨_, rfl⟩ ?_; clear hK K E
  refine plan_one ?_
  (refine plan_loud (by simp only [List.getElem?_toArray, List.getElem?_cons_zero, List.getElem?_cons_succ]; rfl) (by rfl) (by rfl) (fun K E hK => ?_); go_big_op)
  refine (MOf_calls key (by omega) [s] _ 1 (grow w4 y3) (hKs _) h11 (by simp) (by rw [hj]; omega)).mono ?_; rw [hj, ← Hmac.out]; unfold sumV; rintro e w3 ⟨rfl, hd⟩
  obtain ⟨y4, rfl⟩ := more_ext y3 hd; clear hd
  refine hK _ _ ⟨_, rfl⟩ ?_; clear hK K E
  clear h11
  iterate 4 (first | (refine plan_quiet (by simp only [List.getElem?_toArray, List.getElem?_cons_zero, List.getElem?_cons_succ]; rfl) (by rfl) (by rfl) (fun K hK => ?_); go_big_quiet_op; refine hK _ ?_; clear hK K) | (refine plan_skip (by simp only [List.getElem?_toArray, List.getElem?_cons_zero, List.getElem?_cons_succ]; rfl) (by rfl) ?_; simp only [Act.put, List.setIfInBounds_toArray, List.set_cons_zero, List.set_cons_succ]))
  refine plan_row (by simp only [List.getElem?_toArray, List.getElem?_cons_zero, List.getElem?_cons_succ]; rfl) (by rfl) (by rfl) 33 (.tmp 5) rfl w.heap.size (by rfl) _ _ _ hX Tryd.underlying33 rfl (size32.trans (by simp [hx])) ?_
  simp only [Act.put, List.setIfInBounds_toArray, List.set_cons_zero, List.set_cons_succ]
  iterate 1 (first | (refine plan_quiet (by simp only [List.getElem?_toArray, List.getElem?_cons_zero, List.getElem?_cons_succ]; rfl) (by rfl) (by rfl) (fun K hK => ?_); go_big_quiet_op; refine hK _ ?_; clear hK K) | (refine plan_skip (by simp only [List.getElem?_toArray, List.getElem?_cons_zero, List.getElem?_cons_succ]; rfl) (by rfl) ?_; simp only [Act.put, List.setIfInBounds_toArray, List.set_cons_zero, List.set_cons_succ]))
  refine plan_row (by simp only [List.getElem?_toArray, List.getElem?_cons_zero, List.getElem?_cons_succ]; rfl) (by rfl) (by rfl) 33 (.tmp 5) rfl w.heap.size (by rfl) _ _ _ hX Tryd.underlying33 rfl (size32.trans (by simp [hx])) ?_
  simp only [Act.put, List.setIfInBounds_toArray, List.set_cons_zero, List.set_cons_succ]
  refine plan_row (by simp only [List.getElem?_toArray, List.getElem?_cons_zero, List.getElem?_cons_succ]; rfl) (by rfl) (by rfl) 33 (.tmp 8) rfl gw (by rfl) _ _ _ hW Tryd.underlying33 rfl (size32.trans (by simp [hml])) ?_
  simp only [Act.put, List.setIfInBounds_toArray, List.set_cons_zero, List.set_cons_succ]
  iterate 1 (first | (refine plan_quiet (by simp only [List.getElem?_toArray, List.getElem?_cons_zero, List.getElem?_cons_succ]; rfl) (by rfl) (by rfl) (fun K hK => ?_); go_big_quiet_op; refine hK _ ?_; clear hK K) | (refine plan_skip (by simp only [List.getElem?_toArray, List.getElem?_cons_zero, List.getElem?_cons_succ]; rfl) (by rfl) ?_; simp only [Act.put, List.setIfInBounds_toArray, List.set_cons_zero, List.set_cons_succ]))
  refine plan_one ?_
  (refine plan_loud (by simp only [List.getElem?_toArray, List.getElem?_cons_zero, List.getElem?_cons_succ]; rfl) (by rfl) (by rfl) (fun K E hK => ?_); go_big_op)
  obtain ⟨y5, hy5⟩ := more_of ((grow_ext y4).alloc (.cells #[.string (bs s)] 9))
  have h20 : Rd ((grow w4 y4).alloc (.cells #[.string (bs s)] 9)) ((grow w4 y4).alloc (.cells #[.string (bs s)] 9)).heap.size (some ⟨(grow w4 y4).heap.size, 0, none⟩) ([s].map strV) := Blk.rd (Blk.new _ _ _)
  rw [hy5] at h20 ⊢
  clear hy5; generalize (grow w4 y4).heap.size = g20 at *
  refine hK _ _ ⟨_, rfl⟩ ?_; clear hK K E
  refine plan_one ?_
  (refine plan_loud (by simp only [List.getElem?_toArray, List.getElem?_cons_zero, List.getElem?_cons_succ]; rfl) (by rfl) (by rfl) (fun K E hK => ?_); go_big_op)
  change Calls _ _ #[_, sumV x, _] _ _
  refine (MacRight_calls key x (by omega) hx [s] _ 1 (grow w4 y5) (hKs _) h20 (by simp) (by rw [hj]; omega)).mono ?_; rw [hj, ← Hmac.out]; rintro e w3 ⟨rfl, hd⟩
  obtain ⟨y6, rfl⟩ := more_ext y5 hd; clear hd
  refine hK _ _ ⟨_, rfl⟩ ?_; clear hK K E
  clear h20
  iterate 4 (first | (refine plan_quiet (by simp only [List.getElem?_toArray, List.getElem?_cons_zero, List.getElem?_cons_succ]; rfl) (by rfl) (by rfl) (fun K hK => ?_); go_big_quiet_op; refine hK _ ?_; clear hK K) | (refine plan_skip (by simp only [List.getElem?_toArray, List.getElem?_cons_zero, List.getElem?_cons_succ]; rfl) (by rfl) ?_; simp only [Act.put, List.setIfInBounds_toArray, List.set_cons_zero, List.set_cons_succ]))
  refine plan_row (by simp only [List.getElem?_toArray, List.getElem?_cons_zero, List.getElem?_cons_succ]; rfl) (by rfl) (by rfl) 33 (.tmp 8) rfl gw (by rfl) _ _ _ hW Tryd.underlying33 rfl (size32.trans (by simp [hml])) ?_
  simp only [Act.put, List.setIfInBounds_toArray, List.set_cons_zero, List.set_cons_succ]
  iterate 1 (first | (refine plan_quiet (by simp only [List.getElem?_toArray, List.getElem?_cons_zero, List.getElem?_cons_succ]; rfl) (by rfl) (by rfl) (fun K hK => ?_); go_big_quiet_op; refine hK _ ?_; clear hK K) | (refine plan_skip (by simp only [List.getElem?_toArray, List.getElem?_cons_zero, List.getElem?_cons_succ]; rfl) (by rfl) ?_; simp only [Act.put, List.setIfInBounds_toArray, List.set_cons_zero, List.set_cons_succ]))
  refine plan_one ?_
  (refine plan_loud (by simp only [List.getElem?_toArray, List.getElem?_cons_zero, List.getElem?_cons_succ]; rfl) (by rfl) (by rfl) (fun K E hK => ?_); go_big_op)
  obtain ⟨y7, hy7⟩ := more_of ((grow_ext y6).alloc (.cells #[.string (bs s)] 9))
  have h31 : Rd ((grow w4 y6).alloc (.cells #[.string (bs s)] 9)) ((grow w4 y6).alloc (.cells #[.string (bs s)] 9)).heap.size (some ⟨(grow w4 y6).heap.size, 0, none⟩) ([s].map strV) := Blk.rd (Blk.new _ _ _)
  rw [hy7] at h31 ⊢
  clear hy7; generalize (grow w4 y6).heap.size = g31 at *
  refine hK _ _ ⟨_, rfl⟩ ?_; clear hK K E
  refine plan_one ?_
  (refine plan_loud (by simp only [List.getElem?_toArray, List.getElem?_cons_zero, List.getElem?_cons_succ]; rfl) (by rfl) (by rfl) (fun K E hK => ?_); go_big_op)
  change Calls _ _ #[_, sumV mac, _] _ _
  refine (MacRight_calls key mac (by omega) hml [s] _ 1 (grow w4 y7) (hKs _) h31 (by simp) (by rw [hj]; omega)).mono ?_; rw [hj, ← Hmac.out, show decide (mac = mac) = true from by simp]; rintro e w3 ⟨rfl, hd⟩
  obtain ⟨y8, rfl⟩ := more_ext y7 hd; clear hd
  refine hK _ _ ⟨_, rfl⟩ ?_; clear hK K E
  clear h31
  iterate 2 (first | (refine plan_quiet (by simp only [List.getElem?_toArray, List.getElem?_cons_zero, List.getElem?_cons_succ]; rfl) (by rfl) (by rfl) (fun K hK => ?_); go_big_quiet_op; refine hK _ ?_; clear hK K) | (refine plan_skip (by simp only [List.getElem?_toArray, List.getElem?_cons_zero, List.getElem?_cons_succ]; rfl) (by rfl) ?_; simp only [Act.put, List.setIfInBounds_toArray, List.set_cons_zero, List.set_cons_succ]))
  refine plan_nil ?_
  go_wp2_with fail
  go_ret
  exact ⟨by simp, hE.trans (grow_ext _)⟩

set_option maxRecDepth 100000 in
theorem contract (H : Type) (enc : TypeId × Value → H) (W : World) (base : Nat) (args : Array Value) (ds gs : List (DataW H)) (before : List MemPlace)
    (hval0 : ∀ (j : Nat) t v, Tryd.f11.params[j]? = some t → args[j]? = some v → Value.okWide Tryd.prog W .any base t v)
    (hW : DataW.Whole enc Tryd.prog Tryd.f11.params.toList Rows.macSumsSpec.vars false W args.toList ds gs before) (hL : laidMetH Tryd.prog Rows.macSumsRow.laid W) :
    Calls Tryd.prog 11 args W fun e W' => ∃ v, e = .returned v ∧ Rows.macSumsSpec.post enc Tryd.prog Tryd.f11 false true false false W args v W' := by
  have K : Keys W := keys_of hL
  have hval : ∀ (j : Nat) t v, Tryd.f11.params[j]? = some t → args[j]? = some v → Value.okWide Tryd.prog W .any base t v := hval0
  have hW' := hW
  obtain ⟨p, q, hA0, hV, rfl, hfz, hnd⟩ := hW
  have hA : DataW.TrodAll enc Tryd.prog W 0 (fun _ => true) true Tryd.f11.params.toList args.toList ds p := hA0
  rw [Tryd.params11] at hA hval
  obtain ⟨v0, vs0, d0, ds0, p0, q0, hargs, rfl, rfl, hx0, r0⟩ := trodAll_cons hA
  obtain ⟨v1, vs1, d1, ds1, p1, q1, rfl, rfl, rfl, hx1, r1⟩ := trodAll_cons r0
  obtain ⟨v2, vs2, d2, ds2, p2, q2, rfl, rfl, rfl, hx2, r2⟩ := trodAll_cons r1
  obtain ⟨rfl, rfl, rfl⟩ := trodAll_nil r2
  obtain rfl : args = #[v0, v1, v2] := by cases args; simp_all
  obtain ⟨rfl, rfl⟩ := trodVars_none hV
  obtain ⟨key, rfl, hkey⟩ := op_str (hval 0 9 v0 rfl rfl) (tr_of hx0)
  obtain ⟨s, rfl, hs⟩ := op_str (hval 1 9 v1 rfl rfl) (tr_of hx1)
  obtain ⟨x, rfl, hx⟩ := op_sum (hval 2 33 v2 rfl rfl) (tr_of hx2)
  refine (walk key s x hkey hs hx W K).mono fun e W' ⟨he, hg⟩ => ?_
  subst he
  exact ⟨_, rfl, law_post hW' rfl rfl (by kernel_rfl) rfl rfl rfl hg⟩

theorem laid_met (os : Os) : laidMet Tryd.prog Rows.macSumsRow.laid ((keysWorld os).forCall (fun _ _ => 0) ⟨#[], #[.string .empty, .string .empty, .agg #[.int .u8 0, .int .u8 0, .int .u8 0, .int .u8 0, .int .u8 0, .int .u8 0, .int .u8 0, .int .u8 0, .int .u8 0, .int .u8 0, .int .u8 0, .int .u8 0, .int .u8 0, .int .u8 0, .int .u8 0, .int .u8 0, .int .u8 0, .int .u8 0, .int .u8 0, .int .u8 0, .int .u8 0, .int .u8 0, .int .u8 0, .int .u8 0, .int .u8 0, .int .u8 0, .int .u8 0, .int .u8 0, .int .u8 0, .int .u8 0, .int .u8 0, .int .u8 0]], []⟩).memory :=
  laidMet_of_run' 8 (by kernel_rfl) (by kernel_rfl)
theorem reads (os : Os) {H : Type} (enc : TypeId × Value → H) : ∃ x, DataW.whole enc Tryd.prog ((keysWorld os).forCall (fun _ _ => 0) ⟨#[], #[.string .empty, .string .empty, .agg #[.int .u8 0, .int .u8 0, .int .u8 0, .int .u8 0, .int .u8 0, .int .u8 0, .int .u8 0, .int .u8 0, .int .u8 0, .int .u8 0, .int .u8 0, .int .u8 0, .int .u8 0, .int .u8 0, .int .u8 0, .int .u8 0, .int .u8 0, .int .u8 0, .int .u8 0, .int .u8 0, .int .u8 0, .int .u8 0, .int .u8 0, .int .u8 0, .int .u8 0, .int .u8 0, .int .u8 0, .int .u8 0, .int .u8 0, .int .u8 0, .int .u8 0, .int .u8 0]], []⟩).memory Tryd.f11.params.toList Rows.macSumsSpec.vars false (#[.string .empty, .string .empty, .agg #[.int .u8 0, .int .u8 0, .int .u8 0, .int .u8 0, .int .u8 0, .int .u8 0, .int .u8 0, .int .u8 0, .int .u8 0, .int .u8 0, .int .u8 0, .int .u8 0, .int .u8 0, .int .u8 0, .int .u8 0, .int .u8 0, .int .u8 0, .int .u8 0, .int .u8 0, .int .u8 0, .int .u8 0, .int .u8 0, .int .u8 0, .int .u8 0, .int .u8 0, .int .u8 0, .int .u8 0, .int .u8 0, .int .u8 0, .int .u8 0, .int .u8 0, .int .u8 0]] : Array Value).toList 8 = some x :=
  Option.isSome_iff_exists.1 (by kernel_rfl)
set_option maxRecDepth 100000 in
theorem lifted (os : Os) (started : os.Started) (H : Type) (enc : TypeId × Value → H) (F : Stop.Interp) :
    ReturnsInHanded {} Tryd.checked os 11 .any ((OpenSpec.ofChange Rows.macSumsSpec).preRow enc Tryd.prog Tryd.f11 Rows.macSumsRow.domain false Rows.macSumsRow.laid) (((OpenSpec.ofChange Rows.macSumsSpec).at F).post enc Tryd.prog Tryd.f11 false true false false) := by
  obtain ⟨x, hx⟩ := reads os enc
  refine returnsInHanded_of_row (C := Tryd.checked) (s := OpenSpec.ofChange Rows.macSumsSpec) own_ started (by kernel_rfl) Tryd.func11
    (witness_row_at (enc := enc) (C := Tryd.checked) false (keysWorld os) #[.string .empty, .string .empty, .agg #[.int .u8 0, .int .u8 0, .int .u8 0, .int .u8 0, .int .u8 0, .int .u8 0, .int .u8 0, .int .u8 0, .int .u8 0, .int .u8 0, .int .u8 0, .int .u8 0, .int .u8 0, .int .u8 0, .int .u8 0, .int .u8 0, .int .u8 0, .int .u8 0, .int .u8 0, .int .u8 0, .int .u8 0, .int .u8 0, .int .u8 0, .int .u8 0, .int .u8 0, .int .u8 0, .int .u8 0, .int .u8 0, .int .u8 0, .int .u8 0, .int .u8 0, .int .u8 0]] rfl (by kernel_rfl) (by kernel_rfl) (by kernel_rfl)
      (OpenSpec.preRow_of_cond 8 hx rfl (fun k hk => by cases hk) (by kernel_rfl) (laid_met os))) ?_
  intro W base args ds gs before hval hW _ _ _ hL _ _
  exact contract H enc W base args ds gs before hval hW hL

theorem said : Rows.MacSumsSaid :=
  OpenClaim.holds_of_cond 11 Tryd.f11 rfl rfl rfl rfl rfl rfl rfl ⟨rfl, rfl, rfl, rfl, rfl⟩ rfl rfl rfl rfl rfl (by kernel_rfl) Tryd.func11 (by kernel_rfl)
    (of_decide_eq_true (by kernel_rfl)) (by unfold Func.isWrapper; first | (rw [if_pos (by decide +kernel)]; kernel_rfl) | (rw [if_neg (by decide +kernel)]; exact ⟨rfl, rfl⟩))
    (fun os started H enc _ F => by rw [OpenClaim.pre_eq_preRow]; exact lifted os started H enc F)
theorem plain (f : FuncId) (fn : Func) (hf : Tryd.pinned.checked.prog.funcNamed "scrinium/scriniumlaw03.MacSums" = some f) (hfn : Tryd.pinned.checked.prog.funcs[f]? = some fn) :
    false = Tryd.pinned.checked.prog.looks [] ∧ ∀ (j : Nat) t, fn.params[j]? = some t → Tryd.pinned.checked.prog.wantsStandIn t = false := by
  obtain rfl : f = 11 := Option.some.inj ((show Tryd.prog.funcNamed "scrinium/scriniumlaw03.MacSums" = some 11 by kernel_rfl).symm.trans hf) |>.symm
  obtain rfl : fn = Tryd.f11 := (Option.some.inj (Tryd.func11.symm.trans hfn)).symm
  refine ⟨by kernel_rfl, fun j t ht => ?_⟩
  rw [Tryd.params11] at ht
  have hm : t ∈ ([9, 9, 33] : List TypeId) := by simpa using Array.mem_of_getElem? ht
  have hall : (([9, 9, 33] : List TypeId).all fun u => !Tryd.prog.wantsStandIn u) = true := by kernel_rfl
  exact (show Tryd.prog.wantsStandIn t = false by simpa using List.all_eq_true.1 hall t hm)
theorem proved : Rows.MacSumsCardSaid :=
  Claim7.holds_tied_plain_at .later [] _ _ _ _ said (fun _ h => by cases h) (by kernel_rfl) (fun _ h => by cases h) macSums_row_tie rfl ⟨rfl, rfl⟩ (by kernel_rfl) rfl plain (by kernel_rfl)

end Go.Proofs.YtgofnkpegfkonaaDoor.macSums
