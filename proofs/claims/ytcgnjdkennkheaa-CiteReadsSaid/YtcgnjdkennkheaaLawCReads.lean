/-
  scriniumlaw19.CiteReads: no condition.
-/
import Derived.Test.YtcgnjdkennkheaaCiteM

import Derived.Test.YtcgnjdkennkheaaLaw
set_option linter.unusedVariables false
set_option maxRecDepth 100000
set_option linter.unusedSimpArgs false
namespace Go.Proofs.Ytcgnjdkennkheaa.citeReads
open Go.ChangeShapes Go.WideShapes Go.ChangeAt Go.RowKit
open Seal (Fz Hd St Ct)
attribute [local go_sem] bs_size bs_toList2 bs_append bs_extract_end bs_extract_begin bs_get wrap64_b grow_cell grow_frozen

/-! ### The walk -/
theorem readC_ok (s : List UInt8) : (Seal.Ct.readC s).ok := by
  by_cases h : Seal.Ct.good s
  · rw [Seal.Ct.readC_yes s h]; exact Seal.Ct.parse_ok s
  · rw [Seal.Ct.readC_no s h]; exact zC_ok
set_option maxHeartbeats 8000000 in
theorem walk (s : List UInt8) (hs : s.length ≤ 9223372036854775807) (w : World) :
    Calls Try.prog 4 #[.string (bs s)] w fun e w' => e = .returned (.bool true) ∧ Ext w w' := by
  have hst : (s.take 2000).length ≤ 2000 := by rw [List.length_take]; omega
  obtain ⟨q, hq⟩ : ∃ q, q = s.take 2000 := ⟨_, rfl⟩
  have hql : q.length ≤ 2000 := by rw [hq]; exact hst
  have Hq := Lib.hid hq; clear hq hst
  have HR := fun w => citeRead_calls q (by omega) w
  have HF := fun w => cfRead_calls q (by omega) w
  have hok := readC_ok q
  generalize Seal.Ct.readC q = c at *
  generalize Seal.Ct.readE q = er at *
  have hHS := fun P Q P2 Q2 w h1 h2 h3 h4 => cfSame_calls c c hok hok P Q P2 Q2 w h1 h2 h3 h4
  rw [show decide (c = c) = true by simp] at hHS
  obtain ⟨c1, c2, c3, -, -⟩ := hok
  have her : (er == er) = true := by simp
  have H1 := Lib.hid HR; have H2 := Lib.hid HF; have H3 := Lib.hid hHS
  clear HR HF hHS
  have hE := Ext.refl w
  go_enter Try.func4, Try.ntmps4
  go_wp2_with fail
  refine (awake19_calls _).mono ?_; rintro e v1 ⟨rfl, e2⟩
  have sz2 := e2.size
  replace hE := hE.trans e2
  clear e2
  go_wp2_with fail
  refine (short19_calls s 2000 _ hs (by omega)).mono ?_; rw [← Hq.out]; rintro e w' ⟨rfl, rfl⟩
  go_wp2_with fail
  refine (H1.out _).mono ?_; rintro e v3 ⟨P, Q, rfl, hP, hQ, e4⟩
  have sz4 := e4.size
  replace hE := hE.trans e4
  clear e4
  go_wp2_with (refine stop_store 30 (.tmp 4) (.tmp 15) rfl ?_)
  refine ⟨?_⟩
  change wpList _ _ _ _ _ (v3.alloc (.cells (citeC Seal.zF (.slice none 0 0) 0 (.slice none 0 0) Seal.zH).toArray 30))
  have hA0 : Blk (v3.alloc (.cells (citeC Seal.zF (.slice none 0 0) 0 (.slice none 0 0) Seal.zH).toArray 30)) v3.heap.size 30 (citeC Seal.zF (.slice none 0 0) 0 (.slice none 0 0) Seal.zH).toArray := Blk.new v3 _ _
  have e7a := (Ext.refl v3).alloc (.cells (citeC Seal.zF (.slice none 0 0) 0 (.slice none 0 0) Seal.zH).toArray 30)
  obtain ⟨g6, g6e⟩ : ∃ g6, g6 = v3.heap.size := ⟨_, rfl⟩
  rw [← g6e] at hA0
  try rw [← g6e]
  have g6b : v3.heap.size ≤ g6 := by omega
  generalize v3.alloc (.cells (citeC Seal.zF (.slice none 0 0) 0 (.slice none 0 0) Seal.zH).toArray 30) = v5' at *
  refine wpList_store_row rfl 30 (.tmp 4) (.tmp 15) rfl g6 (citeC c.fz P c.place Q c.hd).toArray (by rfl) (by rfl) 30 _ hA0 (size_ct c1 c2 c3) (by simp only [List.size_toArray]; rw [citeC_length c1 c2 c3]; rfl) (all_oneCell_toArray (citeC_one hP.oneCell hQ.oneCell)) ?_
  simp only [Act.put, List.setIfInBounds_toArray, List.set_cons_zero, List.set_cons_succ]
  have hA : CiteAt (v5'.setRow g6 (citeC c.fz P c.place Q c.hd).toArray) g6 c.fz P c.place Q c.hd := Blk.row hA0 _
  have e7 : Ext v3 (v5'.setRow g6 (citeC c.fz P c.place Q c.hd).toArray) := e7a.row g6b _
  clear hA0 e7a g6e
  generalize v5'.setRow g6 (citeC c.fz P c.place Q c.hd).toArray = v5 at *
  clear v5' 
  replace hP := hP.ext e7
  replace hQ := hQ.ext e7
  have sz7 := e7.size
  replace hE := hE.trans e7
  clear e7
  go_wp2_with fail
  refine (H2.out _).mono ?_; rintro e v8 ⟨R, S, rfl, hR, hS, e9⟩
  replace hP := hP.ext e9
  replace hQ := hQ.ext e9
  replace hA := hA.ext e9
  have sz9 := e9.size
  replace hE := hE.trans e9
  clear e9
  go_wp2_with (refine stop_store 30 (.tmp 6) (.tmp 20) rfl ?_)
  refine ⟨?_⟩
  change wpList _ _ _ _ _ (v8.alloc (.cells (citeC Seal.zF (.slice none 0 0) 0 (.slice none 0 0) Seal.zH).toArray 30))
  have hB0 : Blk (v8.alloc (.cells (citeC Seal.zF (.slice none 0 0) 0 (.slice none 0 0) Seal.zH).toArray 30)) v8.heap.size 30 (citeC Seal.zF (.slice none 0 0) 0 (.slice none 0 0) Seal.zH).toArray := Blk.new v8 _ _
  have e12a := (Ext.refl v8).alloc (.cells (citeC Seal.zF (.slice none 0 0) 0 (.slice none 0 0) Seal.zH).toArray 30)
  obtain ⟨g11, g11e⟩ : ∃ g11, g11 = v8.heap.size := ⟨_, rfl⟩
  rw [← g11e] at hB0
  try rw [← g11e]
  have g11b : v8.heap.size ≤ g11 := by omega
  generalize v8.alloc (.cells (citeC Seal.zF (.slice none 0 0) 0 (.slice none 0 0) Seal.zH).toArray 30) = v10' at *
  refine wpList_store_row rfl 30 (.tmp 6) (.tmp 20) rfl g11 (citeC c.fz R c.place S c.hd).toArray (by rfl) (by rfl) 30 _ hB0 (size_ct c1 c2 c3) (by simp only [List.size_toArray]; rw [citeC_length c1 c2 c3]; rfl) (all_oneCell_toArray (citeC_one hR.oneCell hS.oneCell)) ?_
  simp only [Act.put, List.setIfInBounds_toArray, List.set_cons_zero, List.set_cons_succ]
  have hB : CiteAt (v10'.setRow g11 (citeC c.fz R c.place S c.hd).toArray) g11 c.fz R c.place S c.hd := Blk.row hB0 _
  have e12 : Ext v8 (v10'.setRow g11 (citeC c.fz R c.place S c.hd).toArray) := e12a.row g11b _
  clear hB0 e12a g11e
  generalize v10'.setRow g11 (citeC c.fz R c.place S c.hd).toArray = v10 at *
  clear v10' 
  replace hP := hP.ext e12
  replace hQ := hQ.ext e12
  replace hA := hA.ext e12
  replace hR := hR.ext e12
  replace hS := hS.ext e12
  have sz12 := e12.size
  replace hE := hE.trans e12
  clear e12
  go_wp2_with (refine stop_load 30 (.tmp 4) rfl ?_)
  refine ⟨?_⟩
  refine wpList_load_row rfl 30 (.tmp 4) rfl g6 (by rfl) 30 _ (0, 0) _ hA Try.underlying30 rfl (size_ct c1 c2 c3) ?_
  simp only [Act.put, List.setIfInBounds_toArray, List.set_cons_zero, List.set_cons_succ]
  go_wp2_with (refine stop_load 30 (.tmp 6) rfl ?_)
  refine ⟨?_⟩
  refine wpList_load_row rfl 30 (.tmp 6) rfl g11 (by rfl) 30 _ (0, 0) _ hB Try.underlying30 rfl (size_ct c1 c2 c3) ?_
  simp only [Act.put, List.setIfInBounds_toArray, List.set_cons_zero, List.set_cons_succ]
  go_wp2_with fail
  change Calls _ _ #[citeV c.fz P c.place Q c.hd, citeV c.fz R c.place S c.hd] _ _
  refine (H3.out P Q R S _ hP hQ hR hS).mono ?_; rintro e v13 ⟨rfl, e14⟩
  replace hP := hP.ext e14
  replace hQ := hQ.ext e14
  replace hA := hA.ext e14
  replace hR := hR.ext e14
  replace hS := hS.ext e14
  replace hB := hB.ext e14
  have sz14 := e14.size
  replace hE := hE.trans e14
  clear e14
  go_wp2_with fail
  go_ret
  exact ⟨rfl, hE⟩

set_option maxRecDepth 100000 in
theorem lifted (os : Os) (started : os.Started) (H : Type) (enc : TypeId × Value → H) :
    ReturnsInHanded {} Try.checked os 4 .any (Rows.citeReadsSpec.pre6 enc Try.prog Try.f4 Rows.citeReadsRow.domain false) (Rows.citeReadsSpec.post enc Try.prog Try.f4 false true false false) := by
  refine returnsInHanded_of_change (C := Try.checked) own_ started (by kernel_rfl) Try.func4
    (ChangeSpec.witness6 (enc := enc) (C := Try.checked) false ⟨#[], #[.string .empty], []⟩ 8 (by kernel_rfl) (by kernel_rfl) (by kernel_rfl) (by kernel_rfl)) ?_
  intro W base args ds gs before hval0 hW hcnd _
  have hval : ∀ (j : Nat) t v, Try.f4.params[j]? = some t → args[j]? = some v → Value.okWide Try.prog W .any base t v := hval0
  have hW' := hW
  obtain ⟨p, q, hA0, hV, rfl, hfz, hnd⟩ := hW
  have hA : DataW.TrodAll enc Try.prog W 0 (fun _ => true) true Try.f4.params.toList args.toList ds p := hA0
  rw [Try.params4] at hA hval
  obtain ⟨v0, vs0, d0, ds0, p0, q0, hargs, rfl, rfl, hx0, r0⟩ := trodAll_cons hA
  obtain ⟨rfl, rfl, rfl⟩ := trodAll_nil r0
  obtain rfl : args = #[v0] := by cases args; simp_all
  obtain ⟨rfl, rfl⟩ := trodVars_none hV
  obtain ⟨s, rfl, hs⟩ := op_str (hval 0 9 v0 rfl rfl) (tr_of hx0)
  refine (walk s hs W).mono fun e W' ⟨he, hg⟩ => ?_
  subst he
  exact ⟨_, rfl, law_post hW' rfl rfl (by kernel_rfl) rfl rfl rfl hg⟩

theorem over : Rows.citeReadsRow.holds Try.pinned (OpenSpec.ofChange Rows.citeReadsSpec) :=
  OpenClaim.holds_of_wide 4 Try.f4 rfl rfl rfl rfl rfl rfl rfl ⟨rfl, rfl, rfl, rfl, rfl⟩ rfl rfl rfl rfl rfl (by kernel_rfl) Try.func4 (by kernel_rfl)
    (of_decide_eq_true (by kernel_rfl)) (by unfold Func.isWrapper; first | (rw [if_pos (by decide +kernel)]; kernel_rfl) | (rw [if_neg (by decide +kernel)]; exact ⟨rfl, rfl⟩))
    (fun os started H enc _ => lifted os started H enc)

theorem proved : Rows.CiteReadsSaid := over

end Go.Proofs.Ytcgnjdkennkheaa.citeReads
