/-
  scriniumlaw12.ProofLeaves: no condition.
-/
import Derived.Test.YtfpipdopgepelaaDoorRefPath
import Derived.Test.YtfpipdopgepelaaDoorOpQ
import Derived.Test.YtfpipdopgepelaaDoorEqA
import Derived.Test.YtfpipdopgepelaaDoorLaw
import Derived.Deep.DeepCutAuto
set_option linter.unusedVariables false
set_option maxRecDepth 100000
set_option linter.unusedSimpArgs false
namespace Go.Proofs.YtfpipdopgepelaaDoor.proofLeaves
open Go.ChangeShapes Go.WideShapes Go.ChangeAt Go.RowKit
attribute [local go_sem] bs_size bs_toList2 bs_append bs_extract_end bs_extract_begin bs_get wrap64_b grow_cell grow_frozen

/-! ### Plain law -/
theorem right_path (l : List (List UInt8)) (k : Nat) (hk : k < l.length) (h : l.length ≤ 1099511627776) : rightB (rootS l) l[k] (k : Int) (l.length : Int) (pathS l k) = true := by
  have hlong : Way.longI (k : Int) (l.length : Int) = ((pathS l k).length : Int) := by
    unfold Way.longI
    rw [if_neg (by omega), Way.path_length nodeB emptyB l.length l k rfl]
    simp
  have ht : Way.turnsI (k : Int) (l.length : Int) = Way.turns k l.length := by
    unfold Way.turnsI
    rw [if_neg (by omega)]
    simp
  unfold rightB foldP
  rw [if_pos hlong, ht, Way.fold_path nodeB emptyB l.length l k hk rfl]
  simp

/-! ### The walk -/
set_option maxHeartbeats 4000000 in
theorem walk (v : Value) (l : List (List UInt8)) (n : Int) (hl : AllH l) (hn0 : -9223372036854775808 ≤ n) (hn1 : n ≤ 9223372036854775807) (w : World) (KW : Keys w) (h : SlS w w.heap.size v l) :
    Calls Tryd.prog 5 #[v, .int .i64 n] w fun e w' => e = .returned (.bool true) ∧ Ext w w' := by
  go_enter Tryd.func5, Tryd.ntmps5
  go_wp2_with fail
  refine (awake12_calls _ KW).mono ?_; rintro e w1 ⟨rfl, e1⟩
  go_wp2_with fail
  refine (few12_calls _ l hl 20 (by omega) _ (h.ext e1)).mono ?_; rintro e w2 ⟨v', rfl, hS, rfl⟩
  have hm := hl.take 20
  have hml : (l.take 20).length ≤ 20 := by simp; omega
  generalize l.take 20 = m at *
  have hS0 := hS
  have K1 := KW.ext e1
  clear KW h
  obtain ⟨A, cap, rfl, hA, hc, hc63, hr⟩ := hS
  by_cases h0 : m.length = 0
  · have hb : ((m.length : Int) == 0) = true := by rw [beq_iff_eq]; omega
    have H0 := Lib.hid h0
    clear h0
    go_wp2_with fail
    go_ret
    exact ⟨rfl, e1⟩
  · have hb : ((m.length : Int) == 0) = false := by rw [beq_eq_false_iff_ne]; omega
    rcases hA with ⟨_, hl1, _⟩ | ⟨b, off, rfl⟩
    · rw [hl1] at h0; simp at h0
    obtain ⟨r, hr'⟩ : ∃ r, r = n.tmod (m.length : Int) := ⟨_, rfl⟩
    have hr1 : r < (m.length : Int) := by rw [hr']; exact Int.tmod_lt_of_pos n (by omega)
    have hr0 : -(m.length : Int) < r := by
      have := Int.lt_tmod_of_pos n (show (0 : Int) < (m.length : Int) by omega)
      omega
    replace hr' := hr'.symm
    by_cases hneg : r < 0
    · obtain ⟨k, hk⟩ : ∃ k : Nat, -r = (k : Int) := ⟨(-r).toNat, by omega⟩
      have hkm : k < m.length := by omega
      have hkI : (k : Int) < (m.length : Int) := by omega
      go_wp2_with fail
      clear hr' hneg hk
      obtain ⟨hbl, hmm⟩ := rds_at hr hm hkm
      have hq := hm.get k hkm
      have HR := Lib.hid (right_path m k hkm (by omega))
      have hpl := pathS_le m k
      have hpa := path_all _ m k rfl hm
      generalize m[k] = q at *
      refine (refPath_calls _ m k (by omega) hkm hm _ hS0).mono ?_; rintro e w3 ⟨v3, rfl, hP, e3⟩
      have hmm3 : w3.rangeAt b (off + k * 32) (hcells q) := fun i u hu => ((ext_cells e3).1 b _ hbl).trans (hmm i u hu)
      have hbl3 : b < w3.heap.size := Nat.lt_of_lt_of_le hbl e3.size
      have hS3 := hS0.ext e3
      have E3 := e1.trans e3
      have K3 := K1.ext e3
      obtain ⟨Ap, cp, hv3, _⟩ := id hP
      subst hv3
      clear hmm hS0
      go_wp2_with fail
      refine region_keep0 (fun _ => True) (by kernel_rfl) (by kernel_rfl) ?_
      have k0 : Ext w3 w3.drew := (Ext.refl w3).drew
      iterate 6 (first | (refine mix_quiet (by rfl) (by rfl) (fun K hK => ?_); go_big_quiet_op; refine hK _ ?_; clear hK K) | (refine mix_skip (by rfl) ?_; simp only [Act.put, List.setIfInBounds_toArray, List.set_cons_zero, List.set_cons_succ]))
      (refine mix_loud (by rfl) (by rfl) (fun K E hK => ?_); go_big_op)
      refine (refRoot_calls _ m hm _ (hS3.ext k0)).mono ?_; rintro e u1 ⟨rfl, k1⟩
      have k1 := k0.trans k1
      refine hK _ _ (held_of (Keep.of_ext k1)) ?_; clear hK K E
      iterate 3 (first | (refine mix_quiet (by rfl) (by rfl) (fun K hK => ?_); go_big_quiet_op; refine hK _ ?_; clear hK K) | (refine mix_skip (by rfl) ?_; simp only [Act.put, List.setIfInBounds_toArray, List.set_cons_zero, List.set_cons_succ]))
      refine held_mid (by rfl) (by rfl) 23 (.tmp 40) rfl b (off + k * 32) (by rfl) (hcells q) _ hmm3 hbl3 trivial Tryd.underlying23 rfl (size32l _ hq) ?_
      simp only [Act.put, List.setIfInBounds_toArray, List.set_cons_zero, List.set_cons_succ]
      unfold hcells
      iterate 4 (first | (refine mix_quiet (by rfl) (by rfl) (fun K hK => ?_); go_big_quiet_op; refine hK _ ?_; clear hK K) | (refine mix_skip (by rfl) ?_; simp only [Act.put, List.setIfInBounds_toArray, List.set_cons_zero, List.set_cons_succ]))
      (refine mix_loud (by rfl) (by rfl) (fun K E hK => ?_); go_big_op)
      change Calls _ _ #[sumV (rootS m), sumV q, _, _, _] _ _
      refine (Right_sls (rootS m) q (rootS_length _ hm) hq (k : Int) (m.length : Int) (by omega) _ (pathS m k) hpa (by omega) _ (K3.ext k1) (hP.ext k1)).mono ?_; rw [HR.out]; rintro e u2 ⟨rfl, k2⟩
      have k2 := k1.trans k2
      refine hK _ _ (held_of (Keep.of_ext k2)) ?_; clear hK K E
      repeat (first | (refine mix_quiet (by rfl) (by rfl) (fun K hK => ?_); go_big_quiet_op; refine hK _ ?_; clear hK K) | (refine mix_skip (by rfl) ?_; simp only [Act.put, List.setIfInBounds_toArray, List.set_cons_zero, List.set_cons_succ]))
      refine mix_nil ?_
      go_wp2_with fail
      go_ret
      exact ⟨rfl, E3.trans k2⟩
    · obtain ⟨k, hk⟩ : ∃ k : Nat, r = (k : Int) := ⟨r.toNat, by omega⟩
      have hkm : k < m.length := by omega
      have hkI : (k : Int) < (m.length : Int) := by omega
      subst hk
      have hneg2 : ¬ (k : Int) < 0 := by omega
      go_wp2_with fail
      clear hr' hneg hneg2
      obtain ⟨hbl, hmm⟩ := rds_at hr hm hkm
      have hq := hm.get k hkm
      have HR := Lib.hid (right_path m k hkm (by omega))
      have hpl := pathS_le m k
      have hpa := path_all _ m k rfl hm
      generalize m[k] = q at *
      refine (refPath_calls _ m k (by omega) hkm hm _ hS0).mono ?_; rintro e w3 ⟨v3, rfl, hP, e3⟩
      have hmm3 : w3.rangeAt b (off + k * 32) (hcells q) := fun i u hu => ((ext_cells e3).1 b _ hbl).trans (hmm i u hu)
      have hbl3 : b < w3.heap.size := Nat.lt_of_lt_of_le hbl e3.size
      have hS3 := hS0.ext e3
      have E3 := e1.trans e3
      have K3 := K1.ext e3
      obtain ⟨Ap, cp, hv3, _⟩ := id hP
      subst hv3
      clear hmm hS0
      go_wp2_with fail
      refine region_keep0 (fun _ => True) (by kernel_rfl) (by kernel_rfl) ?_
      have k0 : Ext w3 w3.drew := (Ext.refl w3).drew
      iterate 6 (first | (refine mix_quiet (by rfl) (by rfl) (fun K hK => ?_); go_big_quiet_op; refine hK _ ?_; clear hK K) | (refine mix_skip (by rfl) ?_; simp only [Act.put, List.setIfInBounds_toArray, List.set_cons_zero, List.set_cons_succ]))
      (refine mix_loud (by rfl) (by rfl) (fun K E hK => ?_); go_big_op)
      refine (refRoot_calls _ m hm _ (hS3.ext k0)).mono ?_; rintro e u1 ⟨rfl, k1⟩
      have k1 := k0.trans k1
      refine hK _ _ (held_of (Keep.of_ext k1)) ?_; clear hK K E
      iterate 3 (first | (refine mix_quiet (by rfl) (by rfl) (fun K hK => ?_); go_big_quiet_op; refine hK _ ?_; clear hK K) | (refine mix_skip (by rfl) ?_; simp only [Act.put, List.setIfInBounds_toArray, List.set_cons_zero, List.set_cons_succ]))
      refine held_mid (by rfl) (by rfl) 23 (.tmp 40) rfl b (off + k * 32) (by rfl) (hcells q) _ hmm3 hbl3 trivial Tryd.underlying23 rfl (size32l _ hq) ?_
      simp only [Act.put, List.setIfInBounds_toArray, List.set_cons_zero, List.set_cons_succ]
      unfold hcells
      iterate 4 (first | (refine mix_quiet (by rfl) (by rfl) (fun K hK => ?_); go_big_quiet_op; refine hK _ ?_; clear hK K) | (refine mix_skip (by rfl) ?_; simp only [Act.put, List.setIfInBounds_toArray, List.set_cons_zero, List.set_cons_succ]))
      (refine mix_loud (by rfl) (by rfl) (fun K E hK => ?_); go_big_op)
      change Calls _ _ #[sumV (rootS m), sumV q, _, _, _] _ _
      refine (Right_sls (rootS m) q (rootS_length _ hm) hq (k : Int) (m.length : Int) (by omega) _ (pathS m k) hpa (by omega) _ (K3.ext k1) (hP.ext k1)).mono ?_; rw [HR.out]; rintro e u2 ⟨rfl, k2⟩
      have k2 := k1.trans k2
      refine hK _ _ (held_of (Keep.of_ext k2)) ?_; clear hK K E
      repeat (first | (refine mix_quiet (by rfl) (by rfl) (fun K hK => ?_); go_big_quiet_op; refine hK _ ?_; clear hK K) | (refine mix_skip (by rfl) ?_; simp only [Act.put, List.setIfInBounds_toArray, List.set_cons_zero, List.set_cons_succ]))
      refine mix_nil ?_
      go_wp2_with fail
      go_ret
      exact ⟨rfl, E3.trans k2⟩

set_option maxRecDepth 100000 in
theorem contract (H : Type) (enc : TypeId × Value → H) (W : World) (base : Nat) (args : Array Value) (ds gs : List (DataW H)) (before : List MemPlace)
    (hval0 : ∀ (j : Nat) t v, Tryd.f5.params[j]? = some t → args[j]? = some v → Value.okWide Tryd.prog W .any base t v)
    (hW : DataW.Whole enc Tryd.prog Tryd.f5.params.toList Rows.proofLeavesSpec.vars false W args.toList ds gs before) (hL : laidMetH Tryd.prog Rows.proofLeavesRow.laid W) :
    Calls Tryd.prog 5 args W fun e W' => ∃ v, e = .returned v ∧ Rows.proofLeavesSpec.post enc Tryd.prog Tryd.f5 false true false false W args v W' := by
  have K : Keys W := keys_of hL
  have hval : ∀ (j : Nat) t v, Tryd.f5.params[j]? = some t → args[j]? = some v → Value.okWide Tryd.prog W .any base t v := hval0
  have hW' := hW
  obtain ⟨p, q, hA0, hV, rfl, hfz, hnd⟩ := hW
  have hA : DataW.TrodAll enc Tryd.prog W 0 (fun _ => true) true Tryd.f5.params.toList args.toList ds p := hA0
  rw [Tryd.params5] at hA hval
  obtain ⟨v0, vs0, d0, ds0, p0, q0, hargs, rfl, rfl, hx0, r0⟩ := trodAll_cons hA
  obtain ⟨v1, vs1, d1, ds1, p1, q1, rfl, rfl, rfl, hx1, r1⟩ := trodAll_cons r0
  obtain ⟨rfl, rfl, rfl⟩ := trodAll_nil r1
  obtain rfl : args = #[v0, v1] := by cases args; simp_all
  obtain ⟨rfl, rfl⟩ := trodVars_none hV
  obtain ⟨l, hls, hla⟩ := op_sls (hval 0 25 v0 rfl rfl) (tr_of hx0)
  obtain ⟨n, rfl, hn0, hn1⟩ := op_int (hval 1 3 v1 rfl rfl) (tr_of hx1)
  refine (walk v0 l n hla hn0 hn1 W K hls).mono fun e W' ⟨he, hg⟩ => ?_
  subst he
  exact ⟨_, rfl, law_post hW' rfl rfl (by kernel_rfl) rfl rfl rfl hg⟩

theorem laid_met (os : Os) : laidMet Tryd.prog Rows.proofLeavesRow.laid ((keysWorld os).forCall (fun _ _ => 0) ⟨#[], #[.slice none 0 0, .int .i64 0], []⟩).memory :=
  laidMet_of_run' 8 (by kernel_rfl) (by kernel_rfl)
theorem reads (os : Os) {H : Type} (enc : TypeId × Value → H) : ∃ x, DataW.whole enc Tryd.prog ((keysWorld os).forCall (fun _ _ => 0) ⟨#[], #[.slice none 0 0, .int .i64 0], []⟩).memory Tryd.f5.params.toList Rows.proofLeavesSpec.vars false (#[.slice none 0 0, .int .i64 0] : Array Value).toList 8 = some x :=
  Option.isSome_iff_exists.1 (by kernel_rfl)
set_option maxRecDepth 100000 in
theorem lifted (os : Os) (started : os.Started) (H : Type) (enc : TypeId × Value → H) (F : Stop.Interp) :
    ReturnsInHanded {} Tryd.checked os 5 .any ((OpenSpec.ofChange Rows.proofLeavesSpec).preRow enc Tryd.prog Tryd.f5 Rows.proofLeavesRow.domain false Rows.proofLeavesRow.laid) (((OpenSpec.ofChange Rows.proofLeavesSpec).at F).post enc Tryd.prog Tryd.f5 false true false false) := by
  obtain ⟨x, hx⟩ := reads os enc
  refine returnsInHanded_of_row (C := Tryd.checked) (s := OpenSpec.ofChange Rows.proofLeavesSpec) own_ started (by kernel_rfl) Tryd.func5
    (witness_row_at (enc := enc) (C := Tryd.checked) false (keysWorld os) #[.slice none 0 0, .int .i64 0] rfl (by kernel_rfl) (by kernel_rfl) (by kernel_rfl)
      (OpenSpec.preRow_of_cond 8 hx rfl (fun k hk => by cases hk) (by kernel_rfl) (laid_met os))) ?_
  intro W base args ds gs before hval hW _ _ _ hL _ _
  exact contract H enc W base args ds gs before hval hW hL

theorem said : Rows.ProofLeavesSaid :=
  OpenClaim.holds_of_cond 5 Tryd.f5 rfl rfl rfl rfl rfl rfl rfl ⟨rfl, rfl, rfl, rfl, rfl⟩ rfl rfl rfl rfl rfl (by kernel_rfl) Tryd.func5 (by kernel_rfl)
    (of_decide_eq_true (by kernel_rfl)) (by unfold Func.isWrapper; first | (rw [if_pos (by decide +kernel)]; kernel_rfl) | (rw [if_neg (by decide +kernel)]; exact ⟨rfl, rfl⟩))
    (fun os started H enc _ F => by rw [OpenClaim.pre_eq_preRow]; exact lifted os started H enc F)
theorem plain (f : FuncId) (fn : Func) (hf : Tryd.pinned.checked.prog.funcNamed "scrinium/scriniumlaw12.ProofLeaves" = some f) (hfn : Tryd.pinned.checked.prog.funcs[f]? = some fn) :
    false = Tryd.pinned.checked.prog.looks [] ∧ ∀ (j : Nat) t, fn.params[j]? = some t → Tryd.pinned.checked.prog.wantsStandIn t = false := by
  obtain rfl : f = 5 := Option.some.inj ((show Tryd.prog.funcNamed "scrinium/scriniumlaw12.ProofLeaves" = some 5 by kernel_rfl).symm.trans hf) |>.symm
  obtain rfl : fn = Tryd.f5 := (Option.some.inj (Tryd.func5.symm.trans hfn)).symm
  refine ⟨by kernel_rfl, fun j t ht => ?_⟩
  rw [Tryd.params5] at ht
  have hm : t ∈ ([25, 3] : List TypeId) := by simpa using Array.mem_of_getElem? ht
  have hall : (([25, 3] : List TypeId).all fun u => !Tryd.prog.wantsStandIn u) = true := by kernel_rfl
  exact (show Tryd.prog.wantsStandIn t = false by simpa using List.all_eq_true.1 hall t hm)
theorem proved : Rows.ProofLeavesCardSaid :=
  Claim7.holds_tied_plain_at .later [] _ _ _ _ said (fun _ h => by cases h) (by kernel_rfl) (fun _ h => by cases h) proofLeaves_row_tie rfl ⟨rfl, rfl⟩ (by kernel_rfl) rfl plain (by kernel_rfl)

end Go.Proofs.YtfpipdopgepelaaDoor.proofLeaves
