/-
  scriniumlaw11.FrontNil: of no front nothing comes; a zero one is new. No condition.
-/
import Derived.Test.YtlcimlencoaiiaaDoorFrontM
import Derived.Test.YtlcimlencoaiiaaDoorOpL
import Derived.Test.YtlcimlencoaiiaaDoorEqA
import Derived.Test.YtlcimlencoaiiaaDoorLaw
import Derived.Deep.DeepCutAuto
set_option linter.unusedVariables false
set_option maxRecDepth 100000
set_option linter.unusedSimpArgs false
namespace Go.Proofs.YtlcimlencoaiiaaDoor.frontNil
open Go.ChangeShapes Go.WideShapes Go.ChangeAt Go.RowKit
attribute [local go_sem] bs_size bs_toList2 bs_append bs_extract_end bs_extract_begin bs_get wrap64_b grow_cell grow_frozen cZZ


section
variable {P : Program} {ops : Array Oper} {T : Act → World → Prop} {o : Oper} {rest : List Oper} {a : Act} {w w0 : World} {gz : Nat}
theorem mix_rowT (hl : loudOp o = false) (hw : Region.wanted o (yielded ops a.tmps) = true) (ty : TypeId) (p : Operand) (ho : o.op = .load ty p) (g : Nat) (hx : a.eval p = .pointer (some ⟨g, 0, none⟩))
    (t : TypeId) (cs : Array Value) (d : TypeDesc) (hg : Blk w0 g t cs) (hne : g ≠ gz) (hu : P.underlying ty = some d) (hd : (match d with | .struct _ | .array _ _ => true | _ => false) = true) (hi : (P.info? ty).map (·.size) = some cs.size)
    (h : wpMix P ops (fun w' => ∃ x : Turn gz w0, w' = turned gz w0 x) loudOp T rest (a.put o.dst (.agg cs)) w) : wpMix P ops (fun w' => ∃ x : Turn gz w0, w' = turned gz w0 x) loudOp T (o :: rest) a w := by
  refine mix_quiet hl hw fun K hK => ⟨.agg cs, fun w' hs => ?_, hK _ h⟩
  obtain ⟨x, rfl⟩ := hs
  have hg' : Blk (turned gz w0 x) g t cs := hg.kept (S := fun k => k ≠ gz) (.of_upd (turned_upd x) (fun h => h rfl)) hne
  unfold Oper.quietAt execOp
  simp only [ho, hx, Instr.loadAt, Instr.sureAddr, Sem.run_bind, Sem.run_pure, Result.andThen_ok, run_loadVar_row (turned gz w0 x) g t ty cs (0, 0) d hg' hu hd hi]
  exact ⟨rfl, rfl⟩
end

set_option maxHeartbeats 2000000 in
theorem walk (x : List UInt8) (hx : x.length = 32) (w : World) (KW : Keys w) :
    Calls Tryd.prog 13 #[sumV x] w fun e w' => e = .returned (.bool true) ∧ Ext w w' := by
  have hE0 := (Ext.refl w).alloc (.cells (x.map byteV).toArray 23)
  have hX0 : ArrB (w.alloc (.cells (x.map byteV).toArray 23)) w.heap.size 23 x := Blk.new _ _ _
  unfold sumV
  go_enter Tryd.func13, Tryd.ntmps13
  go_wp2_with fail
  have hZ : FrT ((w.alloc (.cells (x.map byteV).toArray 23)).alloc (.cells #[.int .i64 0, .slice none 0 0] 65)) (w.heap.size + 1) [] := ⟨_, by have := Blk.new (w.alloc (.cells (x.map byteV).toArray 23)) 65 #[.int .i64 0, .slice none 0 0]; simpa using this, OwnN.nil _ _⟩
  have hX1 := hX0.alloc (.cells #[.int .i64 0, .slice none 0 0] 65)
  have hE1 := hE0.alloc (.cells #[.int .i64 0, .slice none 0 0] 65)
  clear hE0 hX0
  generalize (w.alloc (.cells (x.map byteV).toArray 23)).alloc (.cells #[.int .i64 0, .slice none 0 0] 65) = w1 at *
  refine (refRoot_calls _ [] AllH.nil _ ⟨none, 0, rfl, .inl ⟨.inl rfl, rfl, rfl⟩, Nat.zero_le _, by omega, Rd.nil⟩).mono ?_; rintro e w2 ⟨rfl, e2⟩
  have hel := emptyB_length
  have hre : rootS [] = emptyB := rfl
  rw [hre]
  obtain ⟨y, hy⟩ : ∃ y, y = emptyB := ⟨_, rfl⟩
  rw [← hy] at hel ⊢
  have Hy := Lib.hid hy
  clear hy hre
  unfold sumV
  have hZ2 := hZ.ext e2
  have hX2 := hX1.below e2 hX1.lt
  have hE2 := hE1.trans e2
  have hgz0 : w.heap.size < w.heap.size + 1 := by omega
  have hgzl := hZ2.lt
  generalize w.heap.size + 1 = gz at *
  clear hZ hX1 hE1 e2
  go_wp2_with (refine stop_store 23 (.tmp 5) (.tmp 8) rfl ?_)
  refine ⟨?_⟩
  change wpList _ _ _ _ _ (w2.alloc (.cells ((zerosB 32).map byteV).toArray 23))
  have hY0 : ArrB (w2.alloc (.cells ((zerosB 32).map byteV).toArray 23)) w2.heap.size 23 (zerosB 32) := Blk.new _ _ _
  refine wpList_store_row rfl 23 (.tmp 5) (.tmp 8) rfl w2.heap.size ((y).map byteV).toArray (by rfl) (by rfl) 23 _ hY0 (size32.trans (by simp [hel])) (by simp [hel, zerosB]) (by simp [byteV, Value.oneCell']) ?_
  simp only [Act.put, List.setIfInBounds_toArray, List.set_cons_zero, List.set_cons_succ]
  have hY : ArrB ((w2.alloc (.cells ((zerosB 32).map byteV).toArray 23)).setRow w2.heap.size ((y).map byteV).toArray) w2.heap.size 23 (y) := Blk.row hY0 _
  have e3 : Ext w2 ((w2.alloc (.cells ((zerosB 32).map byteV).toArray 23)).setRow w2.heap.size ((y).map byteV).toArray) := ((Ext.refl w2).alloc _).row (Nat.le_refl _) _
  clear hY0
  generalize (w2.alloc (.cells ((zerosB 32).map byteV).toArray 23)).setRow w2.heap.size ((y).map byteV).toArray = w3 at *
  have hZ3 := hZ2.ext e3
  have hX3 := hX2.below e3 hX2.lt
  have hE3 := hE2.trans e3
  have hyz : w2.heap.size ≠ gz := by omega
  have hxz : w.heap.size ≠ gz := by omega
  have hgzE : w.heap.size ≤ gz := by omega
  clear hZ2 hX2 e3
  have K3 := KW.ext hE3
  have hz0 : gz ≠ 0 := by omega
  have hgw := guard_sum
  have heqy := fun w : World => eq_sum y y hel hel w
  have heqx := fun w : World => eq_sum x x hx hx w
  have hKs : ∀ z : World, Upd gz w3 z → Keys z := fun z hz => K3.upd hz hz0
  have HKs := Lib.hid hKs
  have Hfin : ∀ z : World, Upd gz w3 z → Ext w z := fun z hz => hE3.upd hz hgzE
  have HFin := Lib.hid Hfin
  have hrx : rootS [x] = x := rfl
  have HRx := Lib.hid hrx
  clear hKs Hfin hrx KW K3
  go_wp2_with fail
  refine region_upd0 gz (by kernel_rfl) (by kernel_rfl) ?_
  have hU := (Upd.refl gz w3).drew
  have hZ := hZ3.ext (Ext.refl w3).drew
  clear hZ3
  (refine mix_loud (by rfl) (by rfl) (fun K E hK => ?_); go_big_op)
  refine (awake11_calls _ (HKs.out _ hU)).mono ?_; rintro e w4 ⟨rfl, e4⟩
  have hU := hU.ext e4; have hZ := hZ.ext e4; clear e4
  refine hK _ _ (turned_of hU) ?_; clear hK K E
  repeat (first | (refine mix_quiet (by rfl) (by rfl) (fun K hK => ?_); go_big_quiet_op; refine hK _ ?_; clear hK K) | (refine mix_skip (by rfl) ?_; simp only [Act.put, List.setIfInBounds_toArray, List.set_cons_zero, List.set_cons_succ]))
  refine mix_rowT (by rfl) (by rfl) 23 (.tmp 1) rfl w.heap.size (by rfl) 23 _ _ hX3 (by assumption) Tryd.underlying23 rfl (size32.trans (by simp [hx])) ?_
  simp only [Act.put, List.setIfInBounds_toArray, List.set_cons_zero, List.set_cons_succ]
  repeat (first | (refine mix_quiet (by rfl) (by rfl) (fun K hK => ?_); go_big_quiet_op; refine hK _ ?_; clear hK K) | (refine mix_skip (by rfl) ?_; simp only [Act.put, List.setIfInBounds_toArray, List.set_cons_zero, List.set_cons_succ]))
  (refine mix_loud (by rfl) (by rfl) (fun K E hK => ?_); go_big_op)
  change Calls _ _ #[_, sumV x] _ _
  refine (nilAdd_calls x _).mono ?_; rintro e w5 ⟨rfl, e4⟩
  have hU := hU.ext e4; have hZ := hZ.ext e4; clear e4
  refine hK _ _ (turned_of hU) ?_; clear hK K E
  repeat (first | (refine mix_quiet (by rfl) (by rfl) (fun K hK => ?_); go_big_quiet_op; refine hK _ ?_; clear hK K) | (refine mix_skip (by rfl) ?_; simp only [Act.put, List.setIfInBounds_toArray, List.set_cons_zero, List.set_cons_succ]))
  (refine mix_loud (by rfl) (by rfl) (fun K E hK => ?_); go_big_op)
  refine (nilSize_calls _).mono ?_; rintro e w6 ⟨rfl, rfl⟩
  refine hK _ _ (turned_of hU) ?_; clear hK K E
  repeat (first | (refine mix_quiet (by rfl) (by rfl) (fun K hK => ?_); go_big_quiet_op; refine hK _ ?_; clear hK K) | (refine mix_skip (by rfl) ?_; simp only [Act.put, List.setIfInBounds_toArray, List.set_cons_zero, List.set_cons_succ]))
  (refine mix_loud (by rfl) (by rfl) (fun K E hK => ?_); go_big_op)
  refine (nilRoot_calls _ (HKs.out _ hU)).mono ?_; rw [← Hy.out]; unfold sumV; rintro e w7 ⟨rfl, e4⟩
  have hU := hU.ext e4; have hZ := hZ.ext e4; clear e4
  refine hK _ _ (turned_of hU) ?_; clear hK K E
  refine mix_rowT (by rfl) (by rfl) 23 (.tmp 5) rfl w2.heap.size (by rfl) 23 _ _ hY (by assumption) Tryd.underlying23 rfl (size32.trans (by simp [hel])) ?_
  simp only [Act.put, List.setIfInBounds_toArray, List.set_cons_zero, List.set_cons_succ]
  repeat (first | (refine mix_quiet (by rfl) (by rfl) (fun K hK => ?_); go_big_quiet_op; refine hK _ ?_; clear hK K) | (refine mix_skip (by rfl) ?_; simp only [Act.put, List.setIfInBounds_toArray, List.set_cons_zero, List.set_cons_succ]))
  (refine mix_loud (by rfl) (by rfl) (fun K E hK => ?_); go_big_op)
  refine (nilPeaks_calls _).mono ?_; rintro e w8 ⟨rfl, rfl⟩
  refine hK _ _ (turned_of hU) ?_; clear hK K E
  repeat (first | (refine mix_quiet (by rfl) (by rfl) (fun K hK => ?_); go_big_quiet_op; refine hK _ ?_; clear hK K) | (refine mix_skip (by rfl) ?_; simp only [Act.put, List.setIfInBounds_toArray, List.set_cons_zero, List.set_cons_succ]))
  (refine mix_loud (by rfl) (by rfl) (fun K E hK => ?_); go_big_op)
  refine (nilCopy_calls _).mono ?_; rintro e w9 ⟨rfl, rfl⟩
  refine hK _ _ (turned_of hU) ?_; clear hK K E
  repeat (first | (refine mix_quiet (by rfl) (by rfl) (fun K hK => ?_); go_big_quiet_op; refine hK _ ?_; clear hK K) | (refine mix_skip (by rfl) ?_; simp only [Act.put, List.setIfInBounds_toArray, List.set_cons_zero, List.set_cons_succ]))
  (refine mix_loud (by rfl) (by rfl) (fun K E hK => ?_); go_big_op)
  refine (nilBytes_calls _).mono ?_; rw [put0]; rintro e w10 ⟨rfl, e4⟩
  have hU := hU.ext e4; have hZ := hZ.ext e4; clear e4
  refine hK _ _ (turned_of hU) ?_; clear hK K E
  repeat (first | (refine mix_quiet (by rfl) (by rfl) (fun K hK => ?_); go_big_quiet_op; refine hK _ ?_; clear hK K) | (refine mix_skip (by rfl) ?_; simp only [Act.put, List.setIfInBounds_toArray, List.set_cons_zero, List.set_cons_succ]))
  (refine mix_loud (by rfl) (by rfl) (fun K E hK => ?_); go_big_op)
  refine (frtRoot_calls gz [] AllH.nil (by simp) _ (HKs.out _ hU) hZ).mono ?_; rw [show rootS [] = y from Hy.out.symm]; unfold sumV; rintro e w11 ⟨rfl, e4⟩
  have hU := hU.ext e4; have hZ := hZ.ext e4; clear e4
  refine hK _ _ (turned_of hU) ?_; clear hK K E
  refine mix_rowT (by rfl) (by rfl) 23 (.tmp 5) rfl w2.heap.size (by rfl) 23 _ _ hY (by assumption) Tryd.underlying23 rfl (size32.trans (by simp [hel])) ?_
  simp only [Act.put, List.setIfInBounds_toArray, List.set_cons_zero, List.set_cons_succ]
  repeat (first | (refine mix_quiet (by rfl) (by rfl) (fun K hK => ?_); go_big_quiet_op; refine hK _ ?_; clear hK K) | (refine mix_skip (by rfl) ?_; simp only [Act.put, List.setIfInBounds_toArray, List.set_cons_zero, List.set_cons_succ]))
  refine mix_rowT (by rfl) (by rfl) 23 (.tmp 1) rfl w.heap.size (by rfl) 23 _ _ hX3 (by assumption) Tryd.underlying23 rfl (size32.trans (by simp [hx])) ?_
  simp only [Act.put, List.setIfInBounds_toArray, List.set_cons_zero, List.set_cons_succ]
  (refine mix_loud (by rfl) (by rfl) (fun K E hK => ?_); go_big_op)
  change Calls _ _ #[_, sumV x] _ _
  refine (frtAdd_calls gz [] x AllH.nil hx (by simp) _ (HKs.out _ hU) hZ).mono ?_; rintro e w12 ⟨rfl, hZ', hU'⟩
  have hU := hU.trans hU'; clear hU' hZ
  refine hK _ _ (turned_of hU) ?_; clear hK K E
  repeat (first | (refine mix_quiet (by rfl) (by rfl) (fun K hK => ?_); go_big_quiet_op; refine hK _ ?_; clear hK K) | (refine mix_skip (by rfl) ?_; simp only [Act.put, List.setIfInBounds_toArray, List.set_cons_zero, List.set_cons_succ]))
  (refine mix_loud (by rfl) (by rfl) (fun K E hK => ?_); go_big_op)
  refine (frtRoot_calls gz ([] ++ [x]) (AllH.cons hx AllH.nil) (by simp) _ (HKs.out _ hU) hZ').mono ?_; rw [show rootS ([] ++ [x]) = x from HRx.out]; unfold sumV; rintro e w13 ⟨rfl, e4⟩
  have hU := hU.ext e4; clear e4
  refine hK _ _ (turned_of hU) ?_; clear hK K E
  refine mix_rowT (by rfl) (by rfl) 23 (.tmp 1) rfl w.heap.size (by rfl) 23 _ _ hX3 (by assumption) Tryd.underlying23 rfl (size32.trans (by simp [hx])) ?_
  simp only [Act.put, List.setIfInBounds_toArray, List.set_cons_zero, List.set_cons_succ]
  repeat (first | (refine mix_quiet (by rfl) (by rfl) (fun K hK => ?_); go_big_quiet_op; refine hK _ ?_; clear hK K) | (refine mix_skip (by rfl) ?_; simp only [Act.put, List.setIfInBounds_toArray, List.set_cons_zero, List.set_cons_succ]))
  refine mix_nil ?_
  go_wp2_with fail
  go_ret
  exact ⟨rfl, HFin.out _ hU⟩

set_option maxRecDepth 100000 in
theorem contract (H : Type) (enc : TypeId × Value → H) (W : World) (base : Nat) (args : Array Value) (ds gs : List (DataW H)) (before : List MemPlace)
    (hval0 : ∀ (j : Nat) t v, Tryd.f13.params[j]? = some t → args[j]? = some v → Value.okWide Tryd.prog W .any base t v)
    (hW : DataW.Whole enc Tryd.prog Tryd.f13.params.toList Rows.frontNilSpec.vars false W args.toList ds gs before) (hL : laidMetH Tryd.prog Rows.frontNilRow.laid W) :
    Calls Tryd.prog 13 args W fun e W' => ∃ v, e = .returned v ∧ Rows.frontNilSpec.post enc Tryd.prog Tryd.f13 false true false false W args v W' := by
  have K : Keys W := keys_of hL
  have hval : ∀ (j : Nat) t v, Tryd.f13.params[j]? = some t → args[j]? = some v → Value.okWide Tryd.prog W .any base t v := hval0
  have hW' := hW
  obtain ⟨p, q, hA0, hV, rfl, hfz, hnd⟩ := hW
  have hA : DataW.TrodAll enc Tryd.prog W 0 (fun _ => true) true Tryd.f13.params.toList args.toList ds p := hA0
  rw [Tryd.params13] at hA hval
  obtain ⟨v0, vs0, d0, ds0, p0, q0, hargs, rfl, rfl, hx0, r0⟩ := trodAll_cons hA
  obtain ⟨rfl, rfl, rfl⟩ := trodAll_nil r0
  obtain rfl : args = #[v0] := by cases args; simp_all
  obtain ⟨rfl, rfl⟩ := trodVars_none hV
  obtain ⟨x, rfl, hx⟩ := op_sum (hval 0 23 v0 rfl rfl) (tr_of hx0)
  refine (walk x hx W K).mono fun e W' ⟨he, hg⟩ => ?_
  subst he
  exact ⟨_, rfl, law_post hW' rfl rfl (by kernel_rfl) rfl rfl rfl hg⟩

theorem laid_met (os : Os) : laidMet Tryd.prog Rows.frontNilRow.laid ((keysWorld os).forCall (fun _ _ => 0) ⟨#[], #[.agg #[.int .u8 0, .int .u8 0, .int .u8 0, .int .u8 0, .int .u8 0, .int .u8 0, .int .u8 0, .int .u8 0, .int .u8 0, .int .u8 0, .int .u8 0, .int .u8 0, .int .u8 0, .int .u8 0, .int .u8 0, .int .u8 0, .int .u8 0, .int .u8 0, .int .u8 0, .int .u8 0, .int .u8 0, .int .u8 0, .int .u8 0, .int .u8 0, .int .u8 0, .int .u8 0, .int .u8 0, .int .u8 0, .int .u8 0, .int .u8 0, .int .u8 0, .int .u8 0]], []⟩).memory :=
  laidMet_of_run' 8 (by kernel_rfl) (by kernel_rfl)
theorem reads (os : Os) {H : Type} (enc : TypeId × Value → H) : ∃ x, DataW.whole enc Tryd.prog ((keysWorld os).forCall (fun _ _ => 0) ⟨#[], #[.agg #[.int .u8 0, .int .u8 0, .int .u8 0, .int .u8 0, .int .u8 0, .int .u8 0, .int .u8 0, .int .u8 0, .int .u8 0, .int .u8 0, .int .u8 0, .int .u8 0, .int .u8 0, .int .u8 0, .int .u8 0, .int .u8 0, .int .u8 0, .int .u8 0, .int .u8 0, .int .u8 0, .int .u8 0, .int .u8 0, .int .u8 0, .int .u8 0, .int .u8 0, .int .u8 0, .int .u8 0, .int .u8 0, .int .u8 0, .int .u8 0, .int .u8 0, .int .u8 0]], []⟩).memory Tryd.f13.params.toList Rows.frontNilSpec.vars false (#[.agg #[.int .u8 0, .int .u8 0, .int .u8 0, .int .u8 0, .int .u8 0, .int .u8 0, .int .u8 0, .int .u8 0, .int .u8 0, .int .u8 0, .int .u8 0, .int .u8 0, .int .u8 0, .int .u8 0, .int .u8 0, .int .u8 0, .int .u8 0, .int .u8 0, .int .u8 0, .int .u8 0, .int .u8 0, .int .u8 0, .int .u8 0, .int .u8 0, .int .u8 0, .int .u8 0, .int .u8 0, .int .u8 0, .int .u8 0, .int .u8 0, .int .u8 0, .int .u8 0]] : Array Value).toList 8 = some x :=
  Option.isSome_iff_exists.1 (by kernel_rfl)
set_option maxRecDepth 100000 in
theorem lifted (os : Os) (started : os.Started) (H : Type) (enc : TypeId × Value → H) (F : Stop.Interp) :
    ReturnsInHanded {} Tryd.checked os 13 .any ((OpenSpec.ofChange Rows.frontNilSpec).preRow enc Tryd.prog Tryd.f13 Rows.frontNilRow.domain false Rows.frontNilRow.laid) (((OpenSpec.ofChange Rows.frontNilSpec).at F).post enc Tryd.prog Tryd.f13 false true false false) := by
  obtain ⟨x, hx⟩ := reads os enc
  refine returnsInHanded_of_row (C := Tryd.checked) (s := OpenSpec.ofChange Rows.frontNilSpec) own_ started (by kernel_rfl) Tryd.func13
    (witness_row_at (enc := enc) (C := Tryd.checked) false (keysWorld os) #[.agg #[.int .u8 0, .int .u8 0, .int .u8 0, .int .u8 0, .int .u8 0, .int .u8 0, .int .u8 0, .int .u8 0, .int .u8 0, .int .u8 0, .int .u8 0, .int .u8 0, .int .u8 0, .int .u8 0, .int .u8 0, .int .u8 0, .int .u8 0, .int .u8 0, .int .u8 0, .int .u8 0, .int .u8 0, .int .u8 0, .int .u8 0, .int .u8 0, .int .u8 0, .int .u8 0, .int .u8 0, .int .u8 0, .int .u8 0, .int .u8 0, .int .u8 0, .int .u8 0]] rfl (by kernel_rfl) (by kernel_rfl) (by kernel_rfl)
      (OpenSpec.preRow_of_cond 8 hx rfl (fun k hk => by cases hk) (by kernel_rfl) (laid_met os))) ?_
  intro W base args ds gs before hval hW _ _ _ hL _ _
  exact contract H enc W base args ds gs before hval hW hL

theorem said : Rows.FrontNilSaid :=
  OpenClaim.holds_of_cond 13 Tryd.f13 rfl rfl rfl rfl rfl rfl rfl ⟨rfl, rfl, rfl, rfl, rfl⟩ rfl rfl rfl rfl rfl (by kernel_rfl) Tryd.func13 (by kernel_rfl)
    (of_decide_eq_true (by kernel_rfl)) (by unfold Func.isWrapper; first | (rw [if_pos (by decide +kernel)]; kernel_rfl) | (rw [if_neg (by decide +kernel)]; exact ⟨rfl, rfl⟩))
    (fun os started H enc _ F => by rw [OpenClaim.pre_eq_preRow]; exact lifted os started H enc F)
theorem plain (f : FuncId) (fn : Func) (hf : Tryd.pinned.checked.prog.funcNamed "scrinium/scriniumlaw11.FrontNil" = some f) (hfn : Tryd.pinned.checked.prog.funcs[f]? = some fn) :
    false = Tryd.pinned.checked.prog.looks [] ∧ ∀ (j : Nat) t, fn.params[j]? = some t → Tryd.pinned.checked.prog.wantsStandIn t = false := by
  obtain rfl : f = 13 := Option.some.inj ((show Tryd.prog.funcNamed "scrinium/scriniumlaw11.FrontNil" = some 13 by kernel_rfl).symm.trans hf) |>.symm
  obtain rfl : fn = Tryd.f13 := (Option.some.inj (Tryd.func13.symm.trans hfn)).symm
  refine ⟨by kernel_rfl, fun j t ht => ?_⟩
  rw [Tryd.params13] at ht
  have hm : t ∈ ([23] : List TypeId) := by simpa using Array.mem_of_getElem? ht
  have hall : (([23] : List TypeId).all fun u => !Tryd.prog.wantsStandIn u) = true := by kernel_rfl
  exact (show Tryd.prog.wantsStandIn t = false by simpa using List.all_eq_true.1 hall t hm)
theorem proved : Rows.FrontNilCardSaid :=
  Claim7.holds_tied_plain_at .later [] _ _ _ _ said (fun _ h => by cases h) (by kernel_rfl) (fun _ h => by cases h) frontNil_row_tie rfl ⟨rfl, rfl⟩ (by kernel_rfl) rfl plain (by kernel_rfl)

end Go.Proofs.YtlcimlencoaiiaaDoor.frontNil
