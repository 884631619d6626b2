/-
  scriniumlaw09.LeafTops: the root is the last row's one; of as many as a power of two it is the node of both halves' roots. No condition.
-/
import Derived.Test.YtlcimlencoaiiaaDoorLeafA
import Derived.Test.YtlcimlencoaiiaaDoorOpL
import Derived.Test.YtlcimlencoaiiaaDoorEqA
import Derived.Test.YtlcimlencoaiiaaDoorLaw
import Derived.Deep.DeepCutAuto
set_option linter.unusedVariables false
set_option maxRecDepth 100000
set_option linter.unusedSimpArgs false
namespace Go.Proofs.YtlcimlencoaiiaaDoor.leafTops
open Go.ChangeShapes Go.WideShapes Go.ChangeAt Go.RowKit
attribute [local go_sem] bs_size bs_toList2 bs_append bs_extract_end bs_extract_begin bs_get wrap64_b grow_cell grow_frozen

theorem i64_and3 (n : Int) : bits .and .i64 n 3 = n % 4 := by
  have h3 : (BitVec.ofInt 64 3).toNat = 2 ^ 2 - 1 := by decide
  have key : (BitVec.ofInt 64 n &&& BitVec.ofInt 64 3).toNat = (n % ((2 ^ 64 : Nat) : Int)).toNat % 2 ^ 2 := by
    rw [BitVec.toNat_and, BitVec.toNat_ofInt, h3, Nat.and_two_pow_sub_one_eq_mod]
  show IntKind.i64.wrap ((BitVec.ofInt 64 n &&& BitVec.ofInt 64 3).toNat : Nat) = n % 4
  rw [key, IntKind.wrap_i64]
  omega
theorem tops_plain (m : List (List UInt8)) (j n : Nat) (hn : n = 2 ^ j) (h : 2 * n ≤ m.length) : rootS (m.take (2 * n)) = nodeB (rootS (m.take n)) (rootS ((m.drop n).take n)) := by
  have hn0 : 0 < n := by rw [hn]; exact Nat.pow_pos (by omega)
  have hl : (m.take (2 * n)).length = 2 * n := by simp; omega
  have hs : Tree.split (2 * n) = n := by rw [Tree.split_is (2 * n) j (by omega) (by omega), hn]
  have := Tree.rootR_two nodeB emptyB (m.take (2 * n)) (by omega)
  rw [hl, hs, List.take_take, Nat.min_eq_left (by omega), List.drop_take] at this
  rw [show 2 * n - n = n by omega] at this
  exact this


set_option maxHeartbeats 2000000 in
theorem walk (v : Value) (l : List (List UInt8)) (power : Int) (hl : AllH l) (w : World) (KW : Keys w) (h : SlS w w.heap.size v l) :
    Calls Tryd.prog 5 #[v, .int .i64 power] w fun e w' => e = .returned (.bool true) ∧ Ext w w' := by
  go_enter Tryd.func5, Tryd.ntmps5
  go_wp2_with fail
  refine (awake09_calls _ KW).mono ?_; rintro e w1 ⟨rfl, e1⟩
  go_wp2_with fail
  refine (few09_calls v l hl _ (h.ext e1)).mono ?_; rintro e w2 ⟨v', rfl, hS, rfl⟩
  have hm := hl.take 20
  have hml : (l.take 20).length ≤ 20 := by simp; omega
  generalize l.take 20 = m at *
  go_wp2_with fail
  refine (Levels_calls v' m hm (by omega) _ (KW.ext e1) hS).mono ?_; rintro e w2 ⟨vo, vs, rfl, hout, hRs, e2⟩
  have hE := e1.trans e2
  have hLl := levS_length m
  have hvl : vs.length = Tree.depth m.length + 1 := by rw [hRs.length, hLl]
  have hdm := depth_le m.length
  obtain ⟨Ao, co, rfl⟩ := own_slice hout
  obtain ⟨bo, oo, rfl, hbo, hcs⟩ := Rd.of_own hout (by rintro rfl; simp at hvl)
  have hO := hRs.own (Tree.depth m.length) (by omega) (by omega)
  rw [levS_get] at hO
  obtain ⟨AL, cL, hvL, _, _, _, hownL⟩ := hO
  have hcell := hcs (Tree.depth m.length) _ (by rw [List.getElem?_eq_getElem (by omega), hvL])
  rw [hvL] at hownL
  have hS2 := hS.ext e2
  rw [hvl] at *
  obtain ⟨A, cap, rfl, hA0, hc, hc63, hr⟩ := hS2
  by_cases hm0 : m.length = 0
  · have hd0 : Tree.depth m.length = 0 := by rw [hm0]; rfl
    have hme : m = [] := List.eq_nil_of_length_eq_zero hm0
    have hr0 : (Tree.row nodeB m (Tree.depth m.length)).length = 0 := by rw [hd0]; exact hm0
    have hb0 : ((m.length : Int) == 0) = true := by simp [hm0]
    rw [hr0] at hcell
    rw [hd0, Nat.add_zero] at hcell
    rw [hd0] at *
    have hre : rootS m = emptyB := by rw [hme]; rfl
    have Hre := Lib.hid hre
    have hSn : SlS w2 w2.heap.size (.slice A m.length cap) m := ⟨A, cap, rfl, hA0, hc, hc63, hr⟩
    have hgw := guard_sum
    have heq1 := fun w : World => eq_sum emptyB emptyB emptyB_length emptyB_length w
    clear hd0 hme hr0 hre hownL hcs hvL hLl hvl hRs hout hdm hm0 hS e1 e2
    go_wp2_with fail
    refine (Root_calls (.slice A m.length cap) m hm (by omega) _ (KW.ext hE) hSn).mono ?_; rw [Hre.out]; rintro e w3 ⟨rfl, e3⟩
    unfold sumV
    go_wp2_with fail
    refine (Empty_calls _ (KW.ext (hE.trans e3))).mono ?_; rintro e w4 ⟨rfl, e4⟩
    unfold sumV
    go_wp2_with fail
    go_ret
    exact ⟨rfl, (hE.trans e3).trans e4⟩
  · have hb0 : ((m.length : Int) == 0) = false := by rw [beq_eq_false_iff_ne]; omega
    rcases hA0 with ⟨_, hl1, _⟩ | ⟨b, off, rfl⟩
    · rw [hl1] at hm0; simp at hm0
    obtain ⟨z, hz1, hz2⟩ := levS_last m hm0
    rw [hz1] at hownL hcell
    have hzl : z.length = 32 := by rw [hz2]; exact rootS_length m hm
    obtain ⟨bL, oL, rfl, hbL, hmid⟩ := rds_mid (Rd.of_own (hownL (by simp))) (AllH.cons hzl AllH.nil) (k := 0) (by simp)
    rw [Nat.zero_mul, Nat.add_zero] at hmid
    have Hz2 := Lib.hid hz2
    have hm1 : 0 < m.length := by omega
    clear hownL hcs hvL hLl hvl hRs hout hz1 hz2 hS e1 e2 hm0
    generalize Tree.depth m.length = d at *
    have hgw := guard_sum
    have heq1 := fun w : World => eq_sum z z hzl hzl w
    go_wp2_with fail
    have hKs : ∀ x : More w2, Keys (grow w2 x) := fun x => KW.ext (hE.trans (grow_ext x))
    have hSs : ∀ y : More w2, SlS (grow w2 y) (grow w2 y).heap.size (.slice (some ⟨b, off, none⟩) m.length cap) m := fun y => SlS.ext ⟨_, cap, rfl, .inr ⟨b, off, rfl⟩, hc, hc63, hr⟩ (grow_ext y)
    refine region_plan 11 (Plan.run [0, 1, 2, 3, 4, 6, 7, 8, 5, 9, 10] .nil) (by kernel_rfl) (by kernel_rfl) (fun y0 => ?_); simp only [Plan.run, List.drop_succ_cons, List.drop_zero, List.drop_nil]
    iterate 7 (first | (refine plan_quiet (by simp only [List.getElem?_toArray, List.getElem?_cons_zero, List.getElem?_cons_succ]; rfl) (by rfl) (by rfl) (fun K hK => ?_); go_big_quiet_op; refine hK _ ?_; clear hK K) | (refine plan_skip (by simp only [List.getElem?_toArray, List.getElem?_cons_zero, List.getElem?_cons_succ]; rfl) (by rfl) ?_; simp only [Act.put, List.setIfInBounds_toArray, List.set_cons_zero, List.set_cons_succ]))
    refine plan_mid (by simp only [List.getElem?_toArray, List.getElem?_cons_zero, List.getElem?_cons_succ]; rfl) (by rfl) (by rfl) 23 (.tmp 46) rfl bL (oL) (by rfl) _ _ hmid hbL Tryd.underlying23 rfl (size32l _ hzl) ?_
    simp only [Act.put, List.setIfInBounds_toArray, List.set_cons_zero, List.set_cons_succ]
    unfold hcells
    refine plan_one ?_
    (refine plan_loud (by simp only [List.getElem?_toArray, List.getElem?_cons_zero, List.getElem?_cons_succ]; rfl) (by rfl) (by rfl) (fun K E hK => ?_); go_big_op)
    refine (Root_calls (.slice (some ⟨b, off, none⟩) m.length cap) m hm (by omega) (grow w2 y0) (hKs _) (hSs _)).mono ?_; rw [← Hz2.out]; unfold sumV; rintro e w3 ⟨rfl, hd⟩
    obtain ⟨y1, rfl⟩ := more_ext y0 hd; clear hd
    refine hK _ _ ⟨_, rfl⟩ ?_; clear hK K E
    iterate 2 (first | (refine plan_quiet (by simp only [List.getElem?_toArray, List.getElem?_cons_zero, List.getElem?_cons_succ]; rfl) (by rfl) (by rfl) (fun K hK => ?_); go_big_quiet_op; refine hK _ ?_; clear hK K) | (refine plan_skip (by simp only [List.getElem?_toArray, List.getElem?_cons_zero, List.getElem?_cons_succ]; rfl) (by rfl) ?_; simp only [Act.put, List.setIfInBounds_toArray, List.set_cons_zero, List.set_cons_succ]))
    refine plan_nil ?_
    have hE3 := hE.trans (grow_ext y1)
    replace hr := hr.below (grow_ext y1) (Nat.le_refl _)
    have hrB := hr.more (grow_ext y1).size
    clear hKs hSs hE hmid hcell hr
    generalize grow w2 y1 = w3 at *
    have hand := i64_and3 power
    obtain ⟨j, hj, hj4⟩ : ∃ j : Nat, power % 4 = (j : Int) ∧ j < 4 := ⟨(power % 4).toNat, by omega, by omega⟩
    rw [hj] at hand
    obtain ⟨n, hn⟩ : ∃ n : Nat, n = 2 ^ j := ⟨_, rfl⟩
    have hn8 : 1 ≤ n ∧ n ≤ 8 := by
      rcases (show j = 0 ∨ j = 1 ∨ j = 2 ∨ j = 3 from by omega) with rfl | rfl | rfl | rfl <;> subst hn <;> decide
    obtain ⟨hn1, hn8⟩ := hn8
    have hpow : (2 : Int) ^ j = (n : Int) := by rw [hn]; simp
    have hju : IntKind.u64.wrap (j : Int) = (j : Int) := u64_eq rfl (by omega) (by omega)
    have Hn := Lib.hid hn
    clear hn hj
    by_cases hlen : m.length < 2 * n
    · have hlI : (m.length : Int) < 2 * (n : Int) := by omega
      go_wp2_with fail
      go_ret
      exact ⟨rfl, hE3⟩
    · have hlI : ¬ (m.length : Int) < 2 * (n : Int) := by omega
      have hle : 2 * n ≤ m.length := by omega
      have hleI : (2 : Int) * (n : Int) ≤ (cap : Int) := by omega
      have hcn : 2 * n ≤ cap := by omega
      have hcnI : (n : Int) ≤ (cap : Int) := by omega
      have hcn1 : n ≤ cap := by omega
      have hcn2 : n < cap := by omega
      have hcnI2 : (n : Int) < (cap : Int) := by omega
      have hc1 : (1 : Int) ≤ (cap : Int) := by omega
      have hc1n : 1 ≤ cap := by omega
      have hnn : (n : Int) ≤ 2 * (n : Int) := by omega
      have h2n : 2 * n - n = n := by omega
      have h2nI : (2 : Int) * (n : Int) - (n : Int) = (n : Int) := by omega
      have hm1I : (0 : Int) < (m.length : Int) := by omega
      have htp := tops_plain m j n Hn.out hle
      obtain ⟨z2, hz2⟩ : ∃ z2, z2 = rootS (m.take (2 * n)) := ⟨_, rfl⟩
      have hz2l : z2.length = 32 := by rw [hz2]; exact rootS_length _ (hm.take _)
      have Hz := Lib.hid hz2; have Hzz := Lib.hid (hz2.trans htp)
      have hx0 := hm.get 0 hm1
      have hx1 : rootS (m.take 1) = m[0] := by
        match m, hm1 with
        | x :: r, _ => rfl
      have Hx0 := Lib.hid hx1
      obtain ⟨hbf, hmf⟩ := rds_at hrB hm hm1
      rw [Nat.zero_mul, Nat.add_zero] at hmf
      clear htp hz2 hx1
      have heq2 := fun w : World => eq_sum z2 z2 hz2l hz2l w
      have heq3 := fun w : World => eq_sum m[0] m[0] hx0 hx0 w
      have hKs : ∀ x : More w3, Keys (grow w3 x) := fun x => KW.ext (hE3.trans (grow_ext x))
      have hS2 : ∀ y : More w3, SlS (grow w3 y) (grow w3 y).heap.size (.slice (some ⟨b, off, none⟩) (2 * n) cap) (m.take (2 * n)) := fun y => SlS.ext (sls_take hm hc hc63 hrB (2 * n) hle) (grow_ext y)
      have hS1 : ∀ y : More w3, SlS (grow w3 y) (grow w3 y).heap.size (.slice (some ⟨b, off, none⟩) n cap) (m.take n) := fun y => SlS.ext (sls_take hm hc hc63 hrB n (by omega)) (grow_ext y)
      have hS0 : ∀ y : More w3, SlS (grow w3 y) (grow w3 y).heap.size (.slice (some ⟨b, off, none⟩) 1 cap) (m.take 1) := fun y => SlS.ext (sls_take hm hc hc63 hrB 1 (by omega)) (grow_ext y)
      have hS3 : ∀ y : More w3, SlS (grow w3 y) (grow w3 y).heap.size (.slice (some ⟨b, off + n * 32, none⟩) n (cap - n)) ((m.drop n).take n) := fun y => SlS.ext (sls_take (hm.drop n) (by rw [List.length_drop]; omega) (by omega) (rds_drop hrB hm n) n (by rw [List.length_drop]; omega)) (grow_ext y)
      go_wp2_with fail
      refine region_plan 30 (Plan.run [0, 1, 2, 3, 4, 5, 7, 8, 9, 11, 12, 13, 14, 15, 6, 10, 16, 17, 18, 19, 20, 21, 22, 24, 25, 26, 23, 27, 28, 29] .nil) (by kernel_rfl) (by kernel_rfl) (fun y0 => ?_); simp only [Plan.run, List.drop_succ_cons, List.drop_zero, List.drop_nil]
      iterate 14 (first | (refine plan_quiet (by simp only [List.getElem?_toArray, List.getElem?_cons_zero, List.getElem?_cons_succ]; rfl) (by rfl) (by rfl) (fun K hK => ?_); go_big_quiet_op; refine hK _ ?_; clear hK K) | (refine plan_skip (by simp only [List.getElem?_toArray, List.getElem?_cons_zero, List.getElem?_cons_succ]; rfl) (by rfl) ?_; simp only [Act.put, List.setIfInBounds_toArray, List.set_cons_zero, List.set_cons_succ]))
      refine plan_one ?_
      (refine plan_loud (by simp only [List.getElem?_toArray, List.getElem?_cons_zero, List.getElem?_cons_succ]; rfl) (by rfl) (by rfl) (fun K E hK => ?_); go_big_op)
      refine (Root_calls (.slice (some ⟨b, off, none⟩) (2 * n) cap) (m.take (2 * n)) (hm.take _) (by rw [List.length_take]; omega) (grow w3 y0) (hKs _) (hS2 _)).mono ?_; rw [← Hz.out]; unfold sumV; rintro e w3 ⟨rfl, hd⟩
      obtain ⟨y1, rfl⟩ := more_ext y0 hd; clear hd
      refine hK _ _ ⟨_, rfl⟩ ?_; clear hK K E
      refine plan_one ?_
      (refine plan_loud (by simp only [List.getElem?_toArray, List.getElem?_cons_zero, List.getElem?_cons_succ]; rfl) (by rfl) (by rfl) (fun K E hK => ?_); go_big_op)
      refine (Root_calls (.slice (some ⟨b, off, none⟩) n cap) (m.take n) (hm.take _) (by rw [List.length_take]; omega) (grow w3 y1) (hKs _) (hS1 _)).mono ?_; rintro e w3 ⟨rfl, hd⟩
      obtain ⟨y2, rfl⟩ := more_ext y1 hd; clear hd
      refine hK _ _ ⟨_, rfl⟩ ?_; clear hK K E
      refine plan_one ?_
      (refine plan_loud (by simp only [List.getElem?_toArray, List.getElem?_cons_zero, List.getElem?_cons_succ]; rfl) (by rfl) (by rfl) (fun K E hK => ?_); go_big_op)
      refine (Root_calls (.slice (some ⟨b, off + n * 32, none⟩) n (cap - n)) ((m.drop n).take n) ((hm.drop n).take n) (by rw [List.length_take]; omega) (grow w3 y2) (hKs _) (hS3 _)).mono ?_; rintro e w3 ⟨rfl, hd⟩
      obtain ⟨y3, rfl⟩ := more_ext y2 hd; clear hd
      refine hK _ _ ⟨_, rfl⟩ ?_; clear hK K E
      refine plan_one ?_
      (refine plan_loud (by simp only [List.getElem?_toArray, List.getElem?_cons_zero, List.getElem?_cons_succ]; rfl) (by rfl) (by rfl) (fun K E hK => ?_); go_big_op)
      refine (Node_calls (rootS (m.take n)) (rootS ((m.drop n).take n)) (rootS_length _ (hm.take n)) (rootS_length _ ((hm.drop n).take n)) (grow w3 y3) (hKs _)).mono ?_; rw [← Hzz.out]; unfold sumV; rintro e w3 ⟨rfl, hd⟩
      obtain ⟨y4, rfl⟩ := more_ext y3 hd; clear hd
      refine hK _ _ ⟨_, rfl⟩ ?_; clear hK K E
      iterate 7 (first | (refine plan_quiet (by simp only [List.getElem?_toArray, List.getElem?_cons_zero, List.getElem?_cons_succ]; rfl) (by rfl) (by rfl) (fun K hK => ?_); go_big_quiet_op; refine hK _ ?_; clear hK K) | (refine plan_skip (by simp only [List.getElem?_toArray, List.getElem?_cons_zero, List.getElem?_cons_succ]; rfl) (by rfl) ?_; simp only [Act.put, List.setIfInBounds_toArray, List.set_cons_zero, List.set_cons_succ]))
      refine plan_mid (by simp only [List.getElem?_toArray, List.getElem?_cons_zero, List.getElem?_cons_succ]; rfl) (by rfl) (by rfl) 23 (.tmp 85) rfl b (off) (by rfl) _ _ hmf hbf Tryd.underlying23 rfl (size32l _ hx0) ?_
      simp only [Act.put, List.setIfInBounds_toArray, List.set_cons_zero, List.set_cons_succ]
      unfold hcells
      refine plan_one ?_
      (refine plan_loud (by simp only [List.getElem?_toArray, List.getElem?_cons_zero, List.getElem?_cons_succ]; rfl) (by rfl) (by rfl) (fun K E hK => ?_); go_big_op)
      refine (Root_calls (.slice (some ⟨b, off, none⟩) 1 cap) (m.take 1) (hm.take 1) (by rw [List.length_take]; omega) (grow w3 y4) (hKs _) (hS0 _)).mono ?_; rw [Hx0.out]; unfold sumV; rintro e w3 ⟨rfl, hd⟩
      obtain ⟨y5, rfl⟩ := more_ext y4 hd; clear hd
      refine hK _ _ ⟨_, rfl⟩ ?_; clear hK K E
      iterate 3 (first | (refine plan_quiet (by simp only [List.getElem?_toArray, List.getElem?_cons_zero, List.getElem?_cons_succ]; rfl) (by rfl) (by rfl) (fun K hK => ?_); go_big_quiet_op; refine hK _ ?_; clear hK K) | (refine plan_skip (by simp only [List.getElem?_toArray, List.getElem?_cons_zero, List.getElem?_cons_succ]; rfl) (by rfl) ?_; simp only [Act.put, List.setIfInBounds_toArray, List.set_cons_zero, List.set_cons_succ]))
      refine plan_nil ?_
      go_wp2_with fail
      go_ret
      exact ⟨rfl, hE3.trans (grow_ext _)⟩

set_option maxRecDepth 100000 in
theorem contract (H : Type) (enc : TypeId × Value → H) (W : World) (base : Nat) (args : Array Value) (ds gs : List (DataW H)) (before : List MemPlace)
    (hval0 : ∀ (j : Nat) t v, Tryd.f5.params[j]? = some t → args[j]? = some v → Value.okWide Tryd.prog W .any base t v)
    (hW : DataW.Whole enc Tryd.prog Tryd.f5.params.toList Rows.leafTopsSpec.vars false W args.toList ds gs before) (hL : laidMetH Tryd.prog Rows.leafTopsRow.laid W) :
    Calls Tryd.prog 5 args W fun e W' => ∃ v, e = .returned v ∧ Rows.leafTopsSpec.post enc Tryd.prog Tryd.f5 false true false false W args v W' := by
  have K : Keys W := keys_of hL
  have hval : ∀ (j : Nat) t v, Tryd.f5.params[j]? = some t → args[j]? = some v → Value.okWide Tryd.prog W .any base t v := hval0
  have hW' := hW
  obtain ⟨p, q, hA0, hV, rfl, hfz, hnd⟩ := hW
  have hA : DataW.TrodAll enc Tryd.prog W 0 (fun _ => true) true Tryd.f5.params.toList args.toList ds p := hA0
  rw [Tryd.params5] at hA hval
  obtain ⟨v0, vs0, d0, ds0, p0, q0, hargs, rfl, rfl, hx0, r0⟩ := trodAll_cons hA
  obtain ⟨v1, vs1, d1, ds1, p1, q1, rfl, rfl, rfl, hx1, r1⟩ := trodAll_cons r0
  obtain ⟨rfl, rfl, rfl⟩ := trodAll_nil r1
  obtain rfl : args = #[v0, v1] := by cases args; simp_all
  obtain ⟨rfl, rfl⟩ := trodVars_none hV
  obtain ⟨l, hls, hla⟩ := op_sls (hval 0 29 v0 rfl rfl) (tr_of hx0)
  obtain ⟨power, rfl, hpower0, hpower1⟩ := op_int (hval 1 3 v1 rfl rfl) (tr_of hx1)
  refine (walk v0 l power hla W K hls).mono fun e W' ⟨he, hg⟩ => ?_
  subst he
  exact ⟨_, rfl, law_post hW' rfl rfl (by kernel_rfl) rfl rfl rfl hg⟩

theorem laid_met (os : Os) : laidMet Tryd.prog Rows.leafTopsRow.laid ((keysWorld os).forCall (fun _ _ => 0) ⟨#[], #[.slice none 0 0, .int .i64 0], []⟩).memory :=
  laidMet_of_run' 8 (by kernel_rfl) (by kernel_rfl)
theorem reads (os : Os) {H : Type} (enc : TypeId × Value → H) : ∃ x, DataW.whole enc Tryd.prog ((keysWorld os).forCall (fun _ _ => 0) ⟨#[], #[.slice none 0 0, .int .i64 0], []⟩).memory Tryd.f5.params.toList Rows.leafTopsSpec.vars false (#[.slice none 0 0, .int .i64 0] : Array Value).toList 8 = some x :=
  Option.isSome_iff_exists.1 (by kernel_rfl)
set_option maxRecDepth 100000 in
theorem lifted (os : Os) (started : os.Started) (H : Type) (enc : TypeId × Value → H) (F : Stop.Interp) :
    ReturnsInHanded {} Tryd.checked os 5 .any ((OpenSpec.ofChange Rows.leafTopsSpec).preRow enc Tryd.prog Tryd.f5 Rows.leafTopsRow.domain false Rows.leafTopsRow.laid) (((OpenSpec.ofChange Rows.leafTopsSpec).at F).post enc Tryd.prog Tryd.f5 false true false false) := by
  obtain ⟨x, hx⟩ := reads os enc
  refine returnsInHanded_of_row (C := Tryd.checked) (s := OpenSpec.ofChange Rows.leafTopsSpec) own_ started (by kernel_rfl) Tryd.func5
    (witness_row_at (enc := enc) (C := Tryd.checked) false (keysWorld os) #[.slice none 0 0, .int .i64 0] rfl (by kernel_rfl) (by kernel_rfl) (by kernel_rfl)
      (OpenSpec.preRow_of_cond 8 hx rfl (fun k hk => by cases hk) (by kernel_rfl) (laid_met os))) ?_
  intro W base args ds gs before hval hW _ _ _ hL _ _
  exact contract H enc W base args ds gs before hval hW hL

theorem said : Rows.LeafTopsSaid :=
  OpenClaim.holds_of_cond 5 Tryd.f5 rfl rfl rfl rfl rfl rfl rfl ⟨rfl, rfl, rfl, rfl, rfl⟩ rfl rfl rfl rfl rfl (by kernel_rfl) Tryd.func5 (by kernel_rfl)
    (of_decide_eq_true (by kernel_rfl)) (by unfold Func.isWrapper; first | (rw [if_pos (by decide +kernel)]; kernel_rfl) | (rw [if_neg (by decide +kernel)]; exact ⟨rfl, rfl⟩))
    (fun os started H enc _ F => by rw [OpenClaim.pre_eq_preRow]; exact lifted os started H enc F)
theorem plain (f : FuncId) (fn : Func) (hf : Tryd.pinned.checked.prog.funcNamed "scrinium/scriniumlaw09.LeafTops" = some f) (hfn : Tryd.pinned.checked.prog.funcs[f]? = some fn) :
    false = Tryd.pinned.checked.prog.looks [] ∧ ∀ (j : Nat) t, fn.params[j]? = some t → Tryd.pinned.checked.prog.wantsStandIn t = false := by
  obtain rfl : f = 5 := Option.some.inj ((show Tryd.prog.funcNamed "scrinium/scriniumlaw09.LeafTops" = some 5 by kernel_rfl).symm.trans hf) |>.symm
  obtain rfl : fn = Tryd.f5 := (Option.some.inj (Tryd.func5.symm.trans hfn)).symm
  refine ⟨by kernel_rfl, fun j t ht => ?_⟩
  rw [Tryd.params5] at ht
  have hm : t ∈ ([29, 3] : List TypeId) := by simpa using Array.mem_of_getElem? ht
  have hall : (([29, 3] : List TypeId).all fun u => !Tryd.prog.wantsStandIn u) = true := by kernel_rfl
  exact (show Tryd.prog.wantsStandIn t = false by simpa using List.all_eq_true.1 hall t hm)
theorem proved : Rows.LeafTopsCardSaid :=
  Claim7.holds_tied_plain_at .later [] _ _ _ _ said (fun _ h => by cases h) (by kernel_rfl) (fun _ h => by cases h) leafTops_row_tie rfl ⟨rfl, rfl⟩ (by kernel_rfl) rfl plain (by kernel_rfl)

end Go.Proofs.YtlcimlencoaiiaaDoor.leafTops
