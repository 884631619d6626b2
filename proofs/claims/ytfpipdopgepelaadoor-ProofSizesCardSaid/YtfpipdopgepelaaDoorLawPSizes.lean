/-
  scriniumlaw12.ProofSizes: no condition.
-/
import Derived.Test.YtfpipdopgepelaaDoorProofM
import Derived.Test.YtfpipdopgepelaaDoorOpQ
import Derived.Test.YtfpipdopgepelaaDoorEqA
import Derived.Test.YtfpipdopgepelaaDoorLaw
import Derived.Deep.DeepCutAuto
set_option linter.unusedVariables false
set_option maxRecDepth 100000
set_option linter.unusedSimpArgs false
namespace Go.Proofs.YtfpipdopgepelaaDoor.proofSizes
open Go.ChangeShapes Go.WideShapes Go.ChangeAt Go.RowKit
attribute [local go_sem] bs_size bs_toList2 bs_append bs_extract_end bs_extract_begin bs_get wrap64_b grow_cell grow_frozen

/-! ### Plain law -/
theorem right_not (a b : List UInt8) (m n : Int) (l : List (List UInt8)) (h : Way.longI m n ≠ (l.length : Int)) : rightB a b m n l = false := by
  unfold rightB foldP
  rw [if_neg h]
  rfl
theorem goes_not (a b : List UInt8) (m n : Int) (l : List (List UInt8)) (h : Way.linksI m n ≠ (l.length : Int)) : goesB a m b n l = false := by
  unfold goesB bothP
  rw [if_neg h]
  rfl
theorem blk_mid {w : World} {g : Nat} {t : TypeId} {l : List (List UInt8)} (h : Blk w g t (flatS l).toArray) (hl : AllH l) (k : Nat) (hk : k < l.length) : w.rangeAt g (k * 32) (hcells l[k]) := fun j v hv => by
  rw [Blk.cell h]
  have := flatS_get l hl k hk j v hv
  simpa using this
theorem mid0 {w : World} {g : Nat} {t : TypeId} {a b : List UInt8} (h : Blk w g t (flatS [a, b]).toArray) (ha : a.length = 32) (hb : b.length = 32) : w.rangeAt g 0 (hcells a) := blk_mid h (AllH.cons ha (AllH.cons hb AllH.nil)) 0 (by simp)
theorem mid1 {w : World} {g : Nat} {t : TypeId} {a b : List UInt8} (h : Blk w g t (flatS [a, b]).toArray) (ha : a.length = 32) (hb : b.length = 32) : w.rangeAt g 32 (hcells b) := blk_mid h (AllH.cons ha (AllH.cons hb AllH.nil)) 1 (by simp)

/-! ### The walk -/
set_option maxHeartbeats 4000000 in
theorem walk (a b : List UInt8) (ha : a.length = 32) (hb : b.length = 32) (m n : Int) (hmm : -9223372036854775808 ≤ m ∧ m ≤ 9223372036854775807) (hn : -9223372036854775808 ≤ n ∧ n ≤ 9223372036854775807) (c : Value) (l : List (List UInt8)) (w : World) (KW : Keys w) (hS : SlS w w.heap.size c l) (hl : AllH l) :
    Calls Tryd.prog 8 #[.agg (flatS [a, b]).toArray, .agg #[.int .i64 m, .int .i64 n], c] w fun e w' => e = .returned (.bool true) ∧ Ext w w' := by
  go_enter Tryd.func8, Tryd.ntmps8
  go_wp2_with fail
  have hX : Blk ((w.alloc (.cells (flatS [a, b]).toArray 41)).alloc (.cells #[.int .i64 m, .int .i64 n] 24)) w.heap.size 41 (flatS [a, b]).toArray := Blk.alloc (Blk.new _ _ _) _
  have hM : Blk ((w.alloc (.cells (flatS [a, b]).toArray 41)).alloc (.cells #[.int .i64 m, .int .i64 n] 24)) (w.heap.size + 1) 24 #[.int .i64 m, .int .i64 n] := by
    have := Blk.new (w.alloc (.cells (flatS [a, b]).toArray 41)) 24 #[.int .i64 m, .int .i64 n]
    rw [alloc_size] at this
    exact this
  have hE1 : Ext w ((w.alloc (.cells (flatS [a, b]).toArray 41)).alloc (.cells #[.int .i64 m, .int .i64 n] 24)) := ((Ext.refl w).alloc _).alloc _
  generalize (w.alloc (.cells (flatS [a, b]).toArray 41)).alloc (.cells #[.int .i64 m, .int .i64 n] 24) = w1 at *
  refine (awake12_calls _ (KW.ext hE1)).mono ?_; rintro e w4 ⟨rfl, e2⟩
  have hX := hX.below e2 hX.lt
  have hM := hM.below e2 hM.lt
  have hE4 := hE1.trans e2
  have c0 : w4.cell? ⟨w.heap.size + 1, 0, none⟩ = some (.int .i64 m) := Blk.cell hM 0
  have c1 : w4.cell? ⟨w.heap.size + 1, 1, none⟩ = some (.int .i64 n) := Blk.cell hM 1
  have hS4 : SlS w4 w4.heap.size c l := hS.ext hE4
  obtain ⟨Ac, lc, cc, rfl⟩ : ∃ A k cap, c = .slice A k cap := by
    obtain ⟨A, cap, h1, _⟩ := hS4
    exact ⟨A, _, cap, h1⟩
  clear hE1 e2
  go_wp2_with fail
  refine (few12_calls _ l hl 50 (by omega) _ hS4).mono ?_; rintro e w5 ⟨v', rfl, hF, rfl⟩
  have hfl : AllH (l.take 50) := AllH.take hl 50
  have hf5 : (l.take 50).length ≤ 50 := by rw [List.length_take]; omega
  generalize l.take 50 = f at *
  obtain ⟨Af, cf, rfl, hF2⟩ := hF
  have hF : SlS w4 w4.heap.size (.slice Af f.length cf) f := ⟨Af, cf, rfl, hF2⟩
  clear hF2 hS hS4
  by_cases h1 : Way.longI m n = (f.length : Int)
  · have HL1 := Lib.hid h1
    clear h1
    by_cases h2 : Way.linksI m n = (f.length : Int)
    · have HL2 := Lib.hid h2
      clear h2
      go_wp2_with fail
      refine (refLong_calls m n _).mono ?_; rintro e w5 ⟨rfl, e5⟩
      have hX := hX.below e5 hX.lt
      have hM := hM.below e5 hM.lt
      have hE5 := hE4.trans e5
      have hF := hF.ext e5
      have c0 : w5.cell? ⟨w.heap.size + 1, 0, none⟩ = some (.int .i64 m) := Blk.cell hM 0
      have c1 : w5.cell? ⟨w.heap.size + 1, 1, none⟩ = some (.int .i64 n) := Blk.cell hM 1
      have hm0 : w5.rangeAt w.heap.size 0 (hcells a) := mid0 hX ha hb
      have hm1 : w5.rangeAt w.heap.size 32 (hcells b) := mid1 hX ha hb
      clear hE4 e5
      rw [HL1.out]
      go_wp2_with fail
      refine (refLinksLong_calls m n _).mono ?_; rintro e wz ⟨rfl, rfl⟩
      rw [HL2.out]
      go_wp2_with fail
      go_ret
      exact ⟨rfl, hE5⟩
    · have d2 : (Way.linksI m n == (f.length : Int)) = false := by rw [beq_eq_false_iff_ne]; exact h2
      have HG := Lib.hid (goes_not a b m n f h2)
      clear h2
      go_wp2_with fail
      refine (refLong_calls m n _).mono ?_; rintro e w5 ⟨rfl, e5⟩
      have hX := hX.below e5 hX.lt
      have hM := hM.below e5 hM.lt
      have hE5 := hE4.trans e5
      have hF := hF.ext e5
      have c0 : w5.cell? ⟨w.heap.size + 1, 0, none⟩ = some (.int .i64 m) := Blk.cell hM 0
      have c1 : w5.cell? ⟨w.heap.size + 1, 1, none⟩ = some (.int .i64 n) := Blk.cell hM 1
      have hm0 : w5.rangeAt w.heap.size 0 (hcells a) := mid0 hX ha hb
      have hm1 : w5.rangeAt w.heap.size 32 (hcells b) := mid1 hX ha hb
      clear hE4 e5
      rw [HL1.out]
      go_wp2_with fail
      refine (refLinksLong_calls m n _).mono ?_; rintro e wz ⟨rfl, rfl⟩
      generalize Way.linksI m n = L2 at *
      go_wp2_with (refine stop_load 23 (.tmp 44) rfl ?_)
      refine ⟨?_⟩
      refine list_want (by rfl) (fun K hK => ?_)
      refine wp_load_mid 23 (.tmp 44) rfl w.heap.size (0) (by rfl) (hcells a) _ hm0 Tryd.underlying23 rfl (size32l _ ha) ?_
      refine hK _ _ ?_; clear hK K
      simp only [Act.put, List.setIfInBounds_toArray, List.set_cons_zero, List.set_cons_succ]
      unfold hcells
      go_wp2_with (refine stop_load 23 (.tmp 48) rfl ?_)
      refine ⟨?_⟩
      refine list_want (by rfl) (fun K hK => ?_)
      refine wp_load_mid 23 (.tmp 48) rfl w.heap.size (32) (by rfl) (hcells b) _ hm1 Tryd.underlying23 rfl (size32l _ hb) ?_
      refine hK _ _ ?_; clear hK K
      simp only [Act.put, List.setIfInBounds_toArray, List.set_cons_zero, List.set_cons_succ]
      unfold hcells
      go_wp2_with fail
      change Calls _ _ #[sumV a, _, sumV b, _, _] _ _
      refine (Goes_sls a b ha hb m n hn.2 _ f hfl (by omega) w5 (KW.ext hE5) hF).mono ?_; rw [HG.out]; rintro e wy ⟨rfl, ey⟩
      go_wp2_with fail
      go_ret
      exact ⟨rfl, hE5.trans ey⟩
  · have d1 : (Way.longI m n == (f.length : Int)) = false := by rw [beq_eq_false_iff_ne]; exact h1
    have HR := Lib.hid (right_not a b m n f h1)
    clear h1
    by_cases h2 : Way.linksI m n = (f.length : Int)
    · have HL2 := Lib.hid h2
      clear h2
      go_wp2_with fail
      refine (refLong_calls m n _).mono ?_; rintro e w5 ⟨rfl, e5⟩
      have hX := hX.below e5 hX.lt
      have hM := hM.below e5 hM.lt
      have hE5 := hE4.trans e5
      have hF := hF.ext e5
      have c0 : w5.cell? ⟨w.heap.size + 1, 0, none⟩ = some (.int .i64 m) := Blk.cell hM 0
      have c1 : w5.cell? ⟨w.heap.size + 1, 1, none⟩ = some (.int .i64 n) := Blk.cell hM 1
      have hm0 : w5.rangeAt w.heap.size 0 (hcells a) := mid0 hX ha hb
      have hm1 : w5.rangeAt w.heap.size 32 (hcells b) := mid1 hX ha hb
      clear hE4 e5
      generalize Way.longI m n = L1 at *
      go_wp2_with (refine stop_load 23 (.tmp 23) rfl ?_)
      refine ⟨?_⟩
      refine list_want (by rfl) (fun K hK => ?_)
      refine wp_load_mid 23 (.tmp 23) rfl w.heap.size (0) (by rfl) (hcells a) _ hm0 Tryd.underlying23 rfl (size32l _ ha) ?_
      refine hK _ _ ?_; clear hK K
      simp only [Act.put, List.setIfInBounds_toArray, List.set_cons_zero, List.set_cons_succ]
      unfold hcells
      go_wp2_with (refine stop_load 23 (.tmp 25) rfl ?_)
      refine ⟨?_⟩
      refine list_want (by rfl) (fun K hK => ?_)
      refine wp_load_mid 23 (.tmp 25) rfl w.heap.size (32) (by rfl) (hcells b) _ hm1 Tryd.underlying23 rfl (size32l _ hb) ?_
      refine hK _ _ ?_; clear hK K
      simp only [Act.put, List.setIfInBounds_toArray, List.set_cons_zero, List.set_cons_succ]
      unfold hcells
      go_wp2_with fail
      change Calls _ _ #[sumV a, sumV b, _, _, _] _ _
      refine (Right_sls a b ha hb m n hn.2 _ f hfl (by omega) w5 (KW.ext hE5) hF).mono ?_; rw [HR.out]; rintro e w6 ⟨rfl, e6⟩
      have hX := hX.below e6 hX.lt
      have hM := hM.below e6 hM.lt
      have hE6 := hE5.trans e6
      have hF := hF.ext e6
      have c0 : w6.cell? ⟨w.heap.size + 1, 0, none⟩ = some (.int .i64 m) := Blk.cell hM 0
      have c1 : w6.cell? ⟨w.heap.size + 1, 1, none⟩ = some (.int .i64 n) := Blk.cell hM 1
      have hm0 : w6.rangeAt w.heap.size 0 (hcells a) := mid0 hX ha hb
      have hm1 : w6.rangeAt w.heap.size 32 (hcells b) := mid1 hX ha hb
      clear hE5 e6
      go_wp2_with fail
      refine (refLinksLong_calls m n _).mono ?_; rintro e wz ⟨rfl, rfl⟩
      rw [HL2.out]
      go_wp2_with fail
      go_ret
      exact ⟨rfl, hE6⟩
    · have d2 : (Way.linksI m n == (f.length : Int)) = false := by rw [beq_eq_false_iff_ne]; exact h2
      have HG := Lib.hid (goes_not a b m n f h2)
      clear h2
      go_wp2_with fail
      refine (refLong_calls m n _).mono ?_; rintro e w5 ⟨rfl, e5⟩
      have hX := hX.below e5 hX.lt
      have hM := hM.below e5 hM.lt
      have hE5 := hE4.trans e5
      have hF := hF.ext e5
      have c0 : w5.cell? ⟨w.heap.size + 1, 0, none⟩ = some (.int .i64 m) := Blk.cell hM 0
      have c1 : w5.cell? ⟨w.heap.size + 1, 1, none⟩ = some (.int .i64 n) := Blk.cell hM 1
      have hm0 : w5.rangeAt w.heap.size 0 (hcells a) := mid0 hX ha hb
      have hm1 : w5.rangeAt w.heap.size 32 (hcells b) := mid1 hX ha hb
      clear hE4 e5
      generalize Way.longI m n = L1 at *
      go_wp2_with (refine stop_load 23 (.tmp 23) rfl ?_)
      refine ⟨?_⟩
      refine list_want (by rfl) (fun K hK => ?_)
      refine wp_load_mid 23 (.tmp 23) rfl w.heap.size (0) (by rfl) (hcells a) _ hm0 Tryd.underlying23 rfl (size32l _ ha) ?_
      refine hK _ _ ?_; clear hK K
      simp only [Act.put, List.setIfInBounds_toArray, List.set_cons_zero, List.set_cons_succ]
      unfold hcells
      go_wp2_with (refine stop_load 23 (.tmp 25) rfl ?_)
      refine ⟨?_⟩
      refine list_want (by rfl) (fun K hK => ?_)
      refine wp_load_mid 23 (.tmp 25) rfl w.heap.size (32) (by rfl) (hcells b) _ hm1 Tryd.underlying23 rfl (size32l _ hb) ?_
      refine hK _ _ ?_; clear hK K
      simp only [Act.put, List.setIfInBounds_toArray, List.set_cons_zero, List.set_cons_succ]
      unfold hcells
      go_wp2_with fail
      change Calls _ _ #[sumV a, sumV b, _, _, _] _ _
      refine (Right_sls a b ha hb m n hn.2 _ f hfl (by omega) w5 (KW.ext hE5) hF).mono ?_; rw [HR.out]; rintro e w6 ⟨rfl, e6⟩
      have hX := hX.below e6 hX.lt
      have hM := hM.below e6 hM.lt
      have hE6 := hE5.trans e6
      have hF := hF.ext e6
      have c0 : w6.cell? ⟨w.heap.size + 1, 0, none⟩ = some (.int .i64 m) := Blk.cell hM 0
      have c1 : w6.cell? ⟨w.heap.size + 1, 1, none⟩ = some (.int .i64 n) := Blk.cell hM 1
      have hm0 : w6.rangeAt w.heap.size 0 (hcells a) := mid0 hX ha hb
      have hm1 : w6.rangeAt w.heap.size 32 (hcells b) := mid1 hX ha hb
      clear hE5 e6
      go_wp2_with fail
      refine (refLinksLong_calls m n _).mono ?_; rintro e wz ⟨rfl, rfl⟩
      generalize Way.linksI m n = L2 at *
      go_wp2_with (refine stop_load 23 (.tmp 44) rfl ?_)
      refine ⟨?_⟩
      refine list_want (by rfl) (fun K hK => ?_)
      refine wp_load_mid 23 (.tmp 44) rfl w.heap.size (0) (by rfl) (hcells a) _ hm0 Tryd.underlying23 rfl (size32l _ ha) ?_
      refine hK _ _ ?_; clear hK K
      simp only [Act.put, List.setIfInBounds_toArray, List.set_cons_zero, List.set_cons_succ]
      unfold hcells
      go_wp2_with (refine stop_load 23 (.tmp 48) rfl ?_)
      refine ⟨?_⟩
      refine list_want (by rfl) (fun K hK => ?_)
      refine wp_load_mid 23 (.tmp 48) rfl w.heap.size (32) (by rfl) (hcells b) _ hm1 Tryd.underlying23 rfl (size32l _ hb) ?_
      refine hK _ _ ?_; clear hK K
      simp only [Act.put, List.setIfInBounds_toArray, List.set_cons_zero, List.set_cons_succ]
      unfold hcells
      go_wp2_with fail
      change Calls _ _ #[sumV a, _, sumV b, _, _] _ _
      refine (Goes_sls a b ha hb m n hn.2 _ f hfl (by omega) w6 (KW.ext hE6) hF).mono ?_; rw [HG.out]; rintro e wy ⟨rfl, ey⟩
      go_wp2_with fail
      go_ret
      exact ⟨rfl, hE6.trans ey⟩

set_option maxRecDepth 100000 in
theorem contract (H : Type) (enc : TypeId × Value → H) (W : World) (base : Nat) (args : Array Value) (ds gs : List (DataW H)) (before : List MemPlace)
    (hval0 : ∀ (j : Nat) t v, Tryd.f8.params[j]? = some t → args[j]? = some v → Value.okWide Tryd.prog W .any base t v)
    (hW : DataW.Whole enc Tryd.prog Tryd.f8.params.toList Rows.proofSizesSpec.vars false W args.toList ds gs before) (hL : laidMetH Tryd.prog Rows.proofSizesRow.laid W) :
    Calls Tryd.prog 8 args W fun e W' => ∃ v, e = .returned v ∧ Rows.proofSizesSpec.post enc Tryd.prog Tryd.f8 false true false false W args v W' := by
  have K : Keys W := keys_of hL
  have hval : ∀ (j : Nat) t v, Tryd.f8.params[j]? = some t → args[j]? = some v → Value.okWide Tryd.prog W .any base t v := hval0
  have hW' := hW
  obtain ⟨p, q, hA0, hV, rfl, hfz, hnd⟩ := hW
  have hA : DataW.TrodAll enc Tryd.prog W 0 (fun _ => true) true Tryd.f8.params.toList args.toList ds p := hA0
  rw [Tryd.params8] at hA hval
  obtain ⟨v0, vs0, d0, ds0, p0, q0, hargs, rfl, rfl, hx0, r0⟩ := trodAll_cons hA
  obtain ⟨v1, vs1, d1, ds1, p1, q1, rfl, rfl, rfl, hx1, r1⟩ := trodAll_cons r0
  obtain ⟨v2, vs2, d2, ds2, p2, q2, rfl, rfl, rfl, hx2, r2⟩ := trodAll_cons r1
  obtain ⟨rfl, rfl, rfl⟩ := trodAll_nil r2
  obtain rfl : args = #[v0, v1, v2] := by cases args; simp_all
  obtain ⟨rfl, rfl⟩ := trodVars_none hV
  obtain ⟨a1, a2, rfl, ha1, ha2⟩ := op_sum2 (hval 0 41 v0 rfl rfl) (tr_of hx0)
  obtain ⟨b1, b2, rfl, hb1, hb2⟩ := op_i2 (hval 1 24 v1 rfl rfl) (tr_of hx1)
  obtain ⟨r, hrs, hra⟩ := op_sls (hval 2 25 v2 rfl rfl) (tr_of hx2)
  refine (walk a1 a2 ha1 ha2 b1 b2 hb1 hb2 _ r W K hrs hra).mono fun e W' ⟨he, hg⟩ => ?_
  subst he
  exact ⟨_, rfl, law_post hW' rfl rfl (by kernel_rfl) rfl rfl rfl hg⟩

theorem laid_met (os : Os) : laidMet Tryd.prog Rows.proofSizesRow.laid ((keysWorld os).forCall (fun _ _ => 0) ⟨#[], #[.agg (Array.replicate 64 (.int .u8 0)), .agg #[.int .i64 0, .int .i64 0], .slice none 0 0], []⟩).memory :=
  laidMet_of_run' 8 (by kernel_rfl) (by kernel_rfl)
theorem reads (os : Os) {H : Type} (enc : TypeId × Value → H) : ∃ x, DataW.whole enc Tryd.prog ((keysWorld os).forCall (fun _ _ => 0) ⟨#[], #[.agg (Array.replicate 64 (.int .u8 0)), .agg #[.int .i64 0, .int .i64 0], .slice none 0 0], []⟩).memory Tryd.f8.params.toList Rows.proofSizesSpec.vars false (#[.agg (Array.replicate 64 (.int .u8 0)), .agg #[.int .i64 0, .int .i64 0], .slice none 0 0] : Array Value).toList 8 = some x :=
  Option.isSome_iff_exists.1 (by kernel_rfl)
set_option maxRecDepth 100000 in
theorem lifted (os : Os) (started : os.Started) (H : Type) (enc : TypeId × Value → H) (F : Stop.Interp) :
    ReturnsInHanded {} Tryd.checked os 8 .any ((OpenSpec.ofChange Rows.proofSizesSpec).preRow enc Tryd.prog Tryd.f8 Rows.proofSizesRow.domain false Rows.proofSizesRow.laid) (((OpenSpec.ofChange Rows.proofSizesSpec).at F).post enc Tryd.prog Tryd.f8 false true false false) := by
  obtain ⟨x, hx⟩ := reads os enc
  refine returnsInHanded_of_row (C := Tryd.checked) (s := OpenSpec.ofChange Rows.proofSizesSpec) own_ started (by kernel_rfl) Tryd.func8
    (witness_row_at (enc := enc) (C := Tryd.checked) false (keysWorld os) #[.agg (Array.replicate 64 (.int .u8 0)), .agg #[.int .i64 0, .int .i64 0], .slice none 0 0] rfl (by kernel_rfl) (by kernel_rfl) (by kernel_rfl)
      (OpenSpec.preRow_of_cond 8 hx rfl (fun k hk => by cases hk) (by kernel_rfl) (laid_met os))) ?_
  intro W base args ds gs before hval hW _ _ _ hL _ _
  exact contract H enc W base args ds gs before hval hW hL

theorem said : Rows.ProofSizesSaid :=
  OpenClaim.holds_of_cond 8 Tryd.f8 rfl rfl rfl rfl rfl rfl rfl ⟨rfl, rfl, rfl, rfl, rfl⟩ rfl rfl rfl rfl rfl (by kernel_rfl) Tryd.func8 (by kernel_rfl)
    (of_decide_eq_true (by kernel_rfl)) (by unfold Func.isWrapper; first | (rw [if_pos (by decide +kernel)]; kernel_rfl) | (rw [if_neg (by decide +kernel)]; exact ⟨rfl, rfl⟩))
    (fun os started H enc _ F => by rw [OpenClaim.pre_eq_preRow]; exact lifted os started H enc F)
theorem plain (f : FuncId) (fn : Func) (hf : Tryd.pinned.checked.prog.funcNamed "scrinium/scriniumlaw12.ProofSizes" = some f) (hfn : Tryd.pinned.checked.prog.funcs[f]? = some fn) :
    false = Tryd.pinned.checked.prog.looks [] ∧ ∀ (j : Nat) t, fn.params[j]? = some t → Tryd.pinned.checked.prog.wantsStandIn t = false := by
  obtain rfl : f = 8 := Option.some.inj ((show Tryd.prog.funcNamed "scrinium/scriniumlaw12.ProofSizes" = some 8 by kernel_rfl).symm.trans hf) |>.symm
  obtain rfl : fn = Tryd.f8 := (Option.some.inj (Tryd.func8.symm.trans hfn)).symm
  refine ⟨by kernel_rfl, fun j t ht => ?_⟩
  rw [Tryd.params8] at ht
  have hm : t ∈ ([41, 24, 25] : List TypeId) := by simpa using Array.mem_of_getElem? ht
  have hall : (([41, 24, 25] : List TypeId).all fun u => !Tryd.prog.wantsStandIn u) = true := by kernel_rfl
  exact (show Tryd.prog.wantsStandIn t = false by simpa using List.all_eq_true.1 hall t hm)
theorem proved : Rows.ProofSizesCardSaid :=
  Claim7.holds_tied_plain_at .later [] _ _ _ _ said (fun _ h => by cases h) (by kernel_rfl) (fun _ h => by cases h) proofSizes_row_tie rfl ⟨rfl, rfl⟩ (by kernel_rfl) rfl plain (by kernel_rfl)

end Go.Proofs.YtfpipdopgepelaaDoor.proofSizes
