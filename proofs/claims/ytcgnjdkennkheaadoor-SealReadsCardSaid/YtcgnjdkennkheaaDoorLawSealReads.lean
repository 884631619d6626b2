/-
  scriniumlaw16.SealReads: no condition.
-/
import Derived.Test.YtcgnjdkennkheaaDoorSealNM
import Derived.Test.YtcgnjdkennkheaaDoorSealX
import Derived.Test.YtcgnjdkennkheaaDoorLaw
set_option linter.unusedVariables false
set_option maxRecDepth 100000
set_option linter.unusedSimpArgs false
namespace Go.Proofs.YtcgnjdkennkheaaDoor.sealReads
open Go.ChangeShapes Go.WideShapes Go.ChangeAt Go.RowKit
open Seal (Fz Hd St)
attribute [local go_sem] bs_size bs_toList2 bs_append bs_extract_end bs_extract_begin bs_get wrap64_b grow_cell grow_frozen

/-! ### The walk -/
set_option maxHeartbeats 16000000 in
theorem walk (s : List UInt8) (hs : s.length ≤ 9223372036854775807) (w : World) (KW : Keys w) :
    Calls Tryd.prog 6 #[.string (bs s)] w fun e w' => e = .returned (.bool true) ∧ Ext w w' := by
  have hst : (s.take 300).length ≤ 300 := by rw [List.length_take]; omega
  obtain ⟨q, hq⟩ : ∃ q, q = s.take 300 := ⟨_, rfl⟩
  have hql : q.length ≤ 300 := by rw [hq]; exact hst
  have Hq := Lib.hid hq; clear hq hst
  obtain ⟨xf, hxf⟩ : ∃ x, x = (Fz.read q).getD Seal.zF := ⟨_, rfl⟩
  obtain ⟨xh, hxh⟩ : ∃ x, x = (Hd.read q).getD Seal.zH := ⟨_, rfl⟩
  obtain ⟨xt, hxt⟩ : ∃ x, x = (St.read q).getD Seal.zS := ⟨_, rfl⟩
  obtain ⟨rf, hrf⟩ : ∃ x, x = Seal.errOf (Fz.read q) := ⟨_, rfl⟩
  obtain ⟨rh, hrh⟩ : ∃ x, x = Seal.errOf (Hd.read q) := ⟨_, rfl⟩
  obtain ⟨rt, hrt⟩ : ∃ x, x = Seal.errOf (St.read q) := ⟨_, rfl⟩
  have x1 : xf.root.length = 32 := by
    rw [hxf]
    cases h : Fz.read q with
    | none => rfl
    | some f => exact ((Seal.Fz.read_iff q f).1 h).2.1
  have x2 : xh.root.length = 32 ∧ xh.mac.length = 32 := by
    rw [hxh]
    cases h : Hd.read q with
    | none => exact ⟨rfl, rfl⟩
    | some f => exact ⟨((Seal.Hd.read_iff q f).1 h).2.1, ((Seal.Hd.read_iff q f).1 h).2.2.1⟩
  have x3 : xt.fz.root.length = 32 ∧ xt.mac.length = 32 := by
    rw [hxt]
    cases h : St.read q with
    | none => exact ⟨rfl, rfl⟩
    | some f => exact ⟨((Seal.St.read_iff q f).1 h).2.1, ((Seal.St.read_iff q f).1 h).2.2.1⟩
  obtain ⟨x2, x4⟩ := x2
  obtain ⟨x3, x5⟩ := x3
  have heqf : ∀ w : World, (Op.equalIn 10000 27 xf.v xf.v).run Tryd.prog w = .ok true w := fun w => by rw [eq_fz xf xf x1 x1 w]; simp
  have heqh : ∀ w : World, (Op.equalIn 10000 25 xh.v xh.v).run Tryd.prog w = .ok true w := fun w => by rw [eq_hd xh xh x2 x2 x4 x4 w]; simp
  have heqt : ∀ w : World, (Op.equalIn 10000 29 xt.v xt.v).run Tryd.prog w = .ok true w := fun w => by rw [eq_st xt xt x3 x3 x5 x5 w]; simp
  have hgf := guard_fz
  have hgh := guard_hd
  have hgs := guard_st
  have b4 : (rf == rf) = true := by simp
  have b5 : (rh == rh) = true := by simp
  have b6 : (rt == rt) = true := by simp
  have Hxf := Lib.hid hxf; have Hxh := Lib.hid hxh; have Hxt := Lib.hid hxt; have Hrf := Lib.hid hrf; have Hrh := Lib.hid hrh; have Hrt := Lib.hid hrt
  clear hxf hxh hxt hrf hrh hrt
  unfold Seal.Fz.v at heqf
  unfold Seal.Hd.v at heqh
  unfold Seal.St.v at heqt
  have hE := Ext.refl w
  go_enter Tryd.func6, Tryd.ntmps6
  go_wp2_with fail
  refine (awake16_calls _ KW).mono ?_; rintro e v1 ⟨rfl, e2⟩
  replace hE := hE.trans e2
  clear e2
  go_wp2_with fail
  refine (short16_calls s 300 _ hs (by omega)).mono ?_; rw [← Hq.out]; rintro e w' ⟨rfl, rfl⟩
  go_wp2_with fail
  refine (ReadFreeze_calls q (by omega) _).mono ?_; rw [← Hxf.out, ← Hrf.out]; rintro e v3 ⟨rfl, e4⟩
  replace hE := hE.trans e4
  clear e4
  unfold Seal.Fz.v
  go_wp2_with (refine stop_store 27 (.tmp 4) (.tmp 22) rfl ?_)
  refine ⟨?_⟩
  change wpList _ _ _ _ _ (v3.alloc (.cells (⟨0, 0, List.replicate 32 0⟩ : Fz).cells.toArray 27))
  have hA0 := Blk.new v3 27 (⟨0, 0, List.replicate 32 0⟩ : Fz).cells.toArray
  have e6a := (Ext.refl v3).alloc (.cells (⟨0, 0, List.replicate 32 0⟩ : Fz).cells.toArray 27)
  have g7l : v3.heap.size < (v3.alloc (.cells (⟨0, 0, List.replicate 32 0⟩ : Fz).cells.toArray 27)).heap.size := Blk.lt hA0
  obtain ⟨g7, g7e⟩ : ∃ g7, g7 = v3.heap.size := ⟨_, rfl⟩
  have g7b : v3.heap.size ≤ g7 := by omega
  rw [← g7e] at hA0 g7l
  try rw [← g7e]
  generalize v3.alloc (.cells (⟨0, 0, List.replicate 32 0⟩ : Fz).cells.toArray 27) = v5' at *
  refine wpList_store_row rfl 27 (.tmp 4) (.tmp 22) rfl g7 xf.cells.toArray (by rfl) (by rfl) 27 _ hA0 (Seal.size_fz xf x1) (by simp only [List.size_toArray]; rw [Seal.Fz.cells_length xf x1]; rfl) (all_oneCell_toArray (Seal.Fz.one xf)) ?_
  simp only [Act.put, List.setIfInBounds_toArray, List.set_cons_zero, List.set_cons_succ]
  have hA : FzAt (v5'.setRow g7 xf.cells.toArray) g7 xf := Blk.row hA0 _
  have e6 : Ext v3 (v5'.setRow g7 xf.cells.toArray) := e6a.row g7b _
  clear hA0 e6a g7l
  generalize v5'.setRow g7 xf.cells.toArray = v5 at *
  clear v5' g7e
  replace hE := hE.trans e6
  clear e6
  go_wp2_with fail
  refine (refReadFreeze_calls q (by omega) _).mono ?_; rw [← Hxf.out, ← Hrf.out]; rintro e v8 ⟨rfl, e9⟩
  replace hA := hA.ext e9
  replace hE := hE.trans e9
  clear e9
  unfold Seal.Fz.v
  go_wp2_with (refine stop_store 27 (.tmp 6) (.tmp 27) rfl ?_)
  refine ⟨?_⟩
  change wpList _ _ _ _ _ (v8.alloc (.cells (⟨0, 0, List.replicate 32 0⟩ : Fz).cells.toArray 27))
  have hB0 := Blk.new v8 27 (⟨0, 0, List.replicate 32 0⟩ : Fz).cells.toArray
  have e11a := (Ext.refl v8).alloc (.cells (⟨0, 0, List.replicate 32 0⟩ : Fz).cells.toArray 27)
  have g12l : v8.heap.size < (v8.alloc (.cells (⟨0, 0, List.replicate 32 0⟩ : Fz).cells.toArray 27)).heap.size := Blk.lt hB0
  obtain ⟨g12, g12e⟩ : ∃ g12, g12 = v8.heap.size := ⟨_, rfl⟩
  have g12b : v8.heap.size ≤ g12 := by omega
  rw [← g12e] at hB0 g12l
  try rw [← g12e]
  generalize v8.alloc (.cells (⟨0, 0, List.replicate 32 0⟩ : Fz).cells.toArray 27) = v10' at *
  refine wpList_store_row rfl 27 (.tmp 6) (.tmp 27) rfl g12 xf.cells.toArray (by rfl) (by rfl) 27 _ hB0 (Seal.size_fz xf x1) (by simp only [List.size_toArray]; rw [Seal.Fz.cells_length xf x1]; rfl) (all_oneCell_toArray (Seal.Fz.one xf)) ?_
  simp only [Act.put, List.setIfInBounds_toArray, List.set_cons_zero, List.set_cons_succ]
  have hB : FzAt (v10'.setRow g12 xf.cells.toArray) g12 xf := Blk.row hB0 _
  have e11 : Ext v8 (v10'.setRow g12 xf.cells.toArray) := e11a.row g12b _
  clear hB0 e11a g12l
  generalize v10'.setRow g12 xf.cells.toArray = v10 at *
  clear v10' g12e
  replace hA := hA.ext e11
  replace hE := hE.trans e11
  clear e11
  go_wp2_with fail
  refine (ReadHead_calls q (by omega) _).mono ?_; rw [← Hxh.out, ← Hrh.out]; rintro e v13 ⟨rfl, e14⟩
  replace hA := hA.ext e14
  replace hB := hB.ext e14
  replace hE := hE.trans e14
  clear e14
  unfold Seal.Hd.v
  go_wp2_with (refine stop_store 25 (.tmp 8) (.tmp 32) rfl ?_)
  refine ⟨?_⟩
  change wpList _ _ _ _ _ (v13.alloc (.cells (⟨0, List.replicate 32 0, 0, List.replicate 32 0⟩ : Hd).cells.toArray 25))
  have hC0 := Blk.new v13 25 (⟨0, List.replicate 32 0, 0, List.replicate 32 0⟩ : Hd).cells.toArray
  have e16a := (Ext.refl v13).alloc (.cells (⟨0, List.replicate 32 0, 0, List.replicate 32 0⟩ : Hd).cells.toArray 25)
  have g17l : v13.heap.size < (v13.alloc (.cells (⟨0, List.replicate 32 0, 0, List.replicate 32 0⟩ : Hd).cells.toArray 25)).heap.size := Blk.lt hC0
  obtain ⟨g17, g17e⟩ : ∃ g17, g17 = v13.heap.size := ⟨_, rfl⟩
  have g17b : v13.heap.size ≤ g17 := by omega
  rw [← g17e] at hC0 g17l
  try rw [← g17e]
  generalize v13.alloc (.cells (⟨0, List.replicate 32 0, 0, List.replicate 32 0⟩ : Hd).cells.toArray 25) = v15' at *
  refine wpList_store_row rfl 25 (.tmp 8) (.tmp 32) rfl g17 xh.cells.toArray (by rfl) (by rfl) 25 _ hC0 (Seal.size_hd xh x2 x4) (by simp only [List.size_toArray]; rw [Seal.Hd.cells_length xh x2 x4]; rfl) (all_oneCell_toArray (Seal.Hd.one xh)) ?_
  simp only [Act.put, List.setIfInBounds_toArray, List.set_cons_zero, List.set_cons_succ]
  have hC : HdAt (v15'.setRow g17 xh.cells.toArray) g17 xh := Blk.row hC0 _
  have e16 : Ext v13 (v15'.setRow g17 xh.cells.toArray) := e16a.row g17b _
  clear hC0 e16a g17l
  generalize v15'.setRow g17 xh.cells.toArray = v15 at *
  clear v15' g17e
  replace hA := hA.ext e16
  replace hB := hB.ext e16
  replace hE := hE.trans e16
  clear e16
  go_wp2_with fail
  refine (refReadHead_calls q (by omega) _).mono ?_; rw [← Hxh.out, ← Hrh.out]; rintro e v18 ⟨rfl, e19⟩
  replace hA := hA.ext e19
  replace hB := hB.ext e19
  replace hC := hC.ext e19
  replace hE := hE.trans e19
  clear e19
  unfold Seal.Hd.v
  go_wp2_with (refine stop_store 25 (.tmp 10) (.tmp 37) rfl ?_)
  refine ⟨?_⟩
  change wpList _ _ _ _ _ (v18.alloc (.cells (⟨0, List.replicate 32 0, 0, List.replicate 32 0⟩ : Hd).cells.toArray 25))
  have hD0 := Blk.new v18 25 (⟨0, List.replicate 32 0, 0, List.replicate 32 0⟩ : Hd).cells.toArray
  have e21a := (Ext.refl v18).alloc (.cells (⟨0, List.replicate 32 0, 0, List.replicate 32 0⟩ : Hd).cells.toArray 25)
  have g22l : v18.heap.size < (v18.alloc (.cells (⟨0, List.replicate 32 0, 0, List.replicate 32 0⟩ : Hd).cells.toArray 25)).heap.size := Blk.lt hD0
  obtain ⟨g22, g22e⟩ : ∃ g22, g22 = v18.heap.size := ⟨_, rfl⟩
  have g22b : v18.heap.size ≤ g22 := by omega
  rw [← g22e] at hD0 g22l
  try rw [← g22e]
  generalize v18.alloc (.cells (⟨0, List.replicate 32 0, 0, List.replicate 32 0⟩ : Hd).cells.toArray 25) = v20' at *
  refine wpList_store_row rfl 25 (.tmp 10) (.tmp 37) rfl g22 xh.cells.toArray (by rfl) (by rfl) 25 _ hD0 (Seal.size_hd xh x2 x4) (by simp only [List.size_toArray]; rw [Seal.Hd.cells_length xh x2 x4]; rfl) (all_oneCell_toArray (Seal.Hd.one xh)) ?_
  simp only [Act.put, List.setIfInBounds_toArray, List.set_cons_zero, List.set_cons_succ]
  have hD : HdAt (v20'.setRow g22 xh.cells.toArray) g22 xh := Blk.row hD0 _
  have e21 : Ext v18 (v20'.setRow g22 xh.cells.toArray) := e21a.row g22b _
  clear hD0 e21a g22l
  generalize v20'.setRow g22 xh.cells.toArray = v20 at *
  clear v20' g22e
  replace hA := hA.ext e21
  replace hB := hB.ext e21
  replace hC := hC.ext e21
  replace hE := hE.trans e21
  clear e21
  go_wp2_with fail
  refine (ReadStone_calls q (by omega) _).mono ?_; rw [← Hxt.out, ← Hrt.out]; rintro e v23 ⟨rfl, e24⟩
  replace hA := hA.ext e24
  replace hB := hB.ext e24
  replace hC := hC.ext e24
  replace hD := hD.ext e24
  replace hE := hE.trans e24
  clear e24
  unfold Seal.St.v
  go_wp2_with (refine stop_store 29 (.tmp 12) (.tmp 42) rfl ?_)
  refine ⟨?_⟩
  change wpList _ _ _ _ _ (v23.alloc (.cells (⟨⟨0, 0, List.replicate 32 0⟩, 0, List.replicate 32 0⟩ : St).cells.toArray 29))
  have hG0 := Blk.new v23 29 (⟨⟨0, 0, List.replicate 32 0⟩, 0, List.replicate 32 0⟩ : St).cells.toArray
  have e26a := (Ext.refl v23).alloc (.cells (⟨⟨0, 0, List.replicate 32 0⟩, 0, List.replicate 32 0⟩ : St).cells.toArray 29)
  have g27l : v23.heap.size < (v23.alloc (.cells (⟨⟨0, 0, List.replicate 32 0⟩, 0, List.replicate 32 0⟩ : St).cells.toArray 29)).heap.size := Blk.lt hG0
  obtain ⟨g27, g27e⟩ : ∃ g27, g27 = v23.heap.size := ⟨_, rfl⟩
  have g27b : v23.heap.size ≤ g27 := by omega
  rw [← g27e] at hG0 g27l
  try rw [← g27e]
  generalize v23.alloc (.cells (⟨⟨0, 0, List.replicate 32 0⟩, 0, List.replicate 32 0⟩ : St).cells.toArray 29) = v25' at *
  refine wpList_store_row rfl 29 (.tmp 12) (.tmp 42) rfl g27 xt.cells.toArray (by rfl) (by rfl) 29 _ hG0 (Seal.size_st xt x3 x5) (by simp only [List.size_toArray]; rw [Seal.St.cells_length xt x3 x5]; rfl) (all_oneCell_toArray (Seal.St.one xt)) ?_
  simp only [Act.put, List.setIfInBounds_toArray, List.set_cons_zero, List.set_cons_succ]
  have hG : StAt (v25'.setRow g27 xt.cells.toArray) g27 xt := Blk.row hG0 _
  have e26 : Ext v23 (v25'.setRow g27 xt.cells.toArray) := e26a.row g27b _
  clear hG0 e26a g27l
  generalize v25'.setRow g27 xt.cells.toArray = v25 at *
  clear v25' g27e
  replace hA := hA.ext e26
  replace hB := hB.ext e26
  replace hC := hC.ext e26
  replace hD := hD.ext e26
  replace hE := hE.trans e26
  clear e26
  go_wp2_with fail
  refine (refReadStone_calls q (by omega) _).mono ?_; rw [← Hxt.out, ← Hrt.out]; rintro e v28 ⟨rfl, e29⟩
  replace hA := hA.ext e29
  replace hB := hB.ext e29
  replace hC := hC.ext e29
  replace hD := hD.ext e29
  replace hG := hG.ext e29
  replace hE := hE.trans e29
  clear e29
  unfold Seal.St.v
  go_wp2_with (refine stop_store 29 (.tmp 14) (.tmp 47) rfl ?_)
  refine ⟨?_⟩
  change wpList _ _ _ _ _ (v28.alloc (.cells (⟨⟨0, 0, List.replicate 32 0⟩, 0, List.replicate 32 0⟩ : St).cells.toArray 29))
  have hH0 := Blk.new v28 29 (⟨⟨0, 0, List.replicate 32 0⟩, 0, List.replicate 32 0⟩ : St).cells.toArray
  have e31a := (Ext.refl v28).alloc (.cells (⟨⟨0, 0, List.replicate 32 0⟩, 0, List.replicate 32 0⟩ : St).cells.toArray 29)
  have g32l : v28.heap.size < (v28.alloc (.cells (⟨⟨0, 0, List.replicate 32 0⟩, 0, List.replicate 32 0⟩ : St).cells.toArray 29)).heap.size := Blk.lt hH0
  obtain ⟨g32, g32e⟩ : ∃ g32, g32 = v28.heap.size := ⟨_, rfl⟩
  have g32b : v28.heap.size ≤ g32 := by omega
  rw [← g32e] at hH0 g32l
  try rw [← g32e]
  generalize v28.alloc (.cells (⟨⟨0, 0, List.replicate 32 0⟩, 0, List.replicate 32 0⟩ : St).cells.toArray 29) = v30' at *
  refine wpList_store_row rfl 29 (.tmp 14) (.tmp 47) rfl g32 xt.cells.toArray (by rfl) (by rfl) 29 _ hH0 (Seal.size_st xt x3 x5) (by simp only [List.size_toArray]; rw [Seal.St.cells_length xt x3 x5]; rfl) (all_oneCell_toArray (Seal.St.one xt)) ?_
  simp only [Act.put, List.setIfInBounds_toArray, List.set_cons_zero, List.set_cons_succ]
  have hH : StAt (v30'.setRow g32 xt.cells.toArray) g32 xt := Blk.row hH0 _
  have e31 : Ext v28 (v30'.setRow g32 xt.cells.toArray) := e31a.row g32b _
  clear hH0 e31a g32l
  generalize v30'.setRow g32 xt.cells.toArray = v30 at *
  clear v30' g32e
  replace hA := hA.ext e31
  replace hB := hB.ext e31
  replace hC := hC.ext e31
  replace hD := hD.ext e31
  replace hG := hG.ext e31
  replace hE := hE.trans e31
  clear e31
  go_wp2_with (refine stop_load 27 (.tmp 4) rfl ?_)
  refine ⟨?_⟩
  refine list_wantS (by rfl) (fun K hK => ?_)
  refine wp_load_row 27 (.tmp 4) rfl g7 (by rfl) 27 _ (0, 0) _ hA Tryd.underlying27 rfl (Seal.size_fz xf x1) ?_
  refine hK _ _ ?_; clear hK K
  simp only [Act.put, List.setIfInBounds_toArray, List.set_cons_zero, List.set_cons_succ]
  go_wp2_with (refine stop_load 27 (.tmp 6) rfl ?_)
  refine ⟨?_⟩
  refine list_wantS (by rfl) (fun K hK => ?_)
  refine wp_load_row 27 (.tmp 6) rfl g12 (by rfl) 27 _ (0, 0) _ hB Tryd.underlying27 rfl (Seal.size_fz xf x1) ?_
  refine hK _ _ ?_; clear hK K
  simp only [Act.put, List.setIfInBounds_toArray, List.set_cons_zero, List.set_cons_succ]
  go_wp2_with (refine stop_load 25 (.tmp 8) rfl ?_)
  refine ⟨?_⟩
  refine list_wantS (by rfl) (fun K hK => ?_)
  refine wp_load_row 25 (.tmp 8) rfl g17 (by rfl) 25 _ (0, 0) _ hC Tryd.underlying25 rfl (Seal.size_hd xh x2 x4) ?_
  refine hK _ _ ?_; clear hK K
  simp only [Act.put, List.setIfInBounds_toArray, List.set_cons_zero, List.set_cons_succ]
  go_wp2_with (refine stop_load 25 (.tmp 10) rfl ?_)
  refine ⟨?_⟩
  refine list_wantS (by rfl) (fun K hK => ?_)
  refine wp_load_row 25 (.tmp 10) rfl g22 (by rfl) 25 _ (0, 0) _ hD Tryd.underlying25 rfl (Seal.size_hd xh x2 x4) ?_
  refine hK _ _ ?_; clear hK K
  simp only [Act.put, List.setIfInBounds_toArray, List.set_cons_zero, List.set_cons_succ]
  go_wp2_with (refine stop_load 29 (.tmp 12) rfl ?_)
  refine ⟨?_⟩
  refine list_wantS (by rfl) (fun K hK => ?_)
  refine wp_load_row 29 (.tmp 12) rfl g27 (by rfl) 29 _ (0, 0) _ hG Tryd.underlying29 rfl (Seal.size_st xt x3 x5) ?_
  refine hK _ _ ?_; clear hK K
  simp only [Act.put, List.setIfInBounds_toArray, List.set_cons_zero, List.set_cons_succ]
  go_wp2_with (refine stop_load 29 (.tmp 14) rfl ?_)
  refine ⟨?_⟩
  refine list_wantS (by rfl) (fun K hK => ?_)
  refine wp_load_row 29 (.tmp 14) rfl g32 (by rfl) 29 _ (0, 0) _ hH Tryd.underlying29 rfl (Seal.size_st xt x3 x5) ?_
  refine hK _ _ ?_; clear hK K
  simp only [Act.put, List.setIfInBounds_toArray, List.set_cons_zero, List.set_cons_succ]
  go_wp2_with fail
  go_ret
  exact ⟨rfl, hE⟩

set_option maxRecDepth 100000 in
theorem contract (H : Type) (enc : TypeId × Value → H) (W : World) (base : Nat) (args : Array Value) (ds gs : List (DataW H)) (before : List MemPlace)
    (hval0 : ∀ (j : Nat) t v, Tryd.f6.params[j]? = some t → args[j]? = some v → Value.okWide Tryd.prog W .any base t v)
    (hW : DataW.Whole enc Tryd.prog Tryd.f6.params.toList Rows.sealReadsSpec.vars false W args.toList ds gs before) (hL : laidMetH Tryd.prog Rows.sealReadsRow.laid W) :
    Calls Tryd.prog 6 args W fun e W' => ∃ v, e = .returned v ∧ Rows.sealReadsSpec.post enc Tryd.prog Tryd.f6 false true false false W args v W' := by
  have K : Keys W := keys_of hL
  have hval : ∀ (j : Nat) t v, Tryd.f6.params[j]? = some t → args[j]? = some v → Value.okWide Tryd.prog W .any base t v := hval0
  have hW' := hW
  obtain ⟨p, q, hA0, hV, rfl, hfz, hnd⟩ := hW
  have hA : DataW.TrodAll enc Tryd.prog W 0 (fun _ => true) true Tryd.f6.params.toList args.toList ds p := hA0
  rw [Tryd.params6] at hA hval
  obtain ⟨v0, vs0, d0, ds0, p0, q0, hargs, rfl, rfl, hx0, r0⟩ := trodAll_cons hA
  obtain ⟨rfl, rfl, rfl⟩ := trodAll_nil r0
  obtain rfl : args = #[v0] := by cases args; simp_all
  obtain ⟨rfl, rfl⟩ := trodVars_none hV
  obtain ⟨s, rfl, hs⟩ := op_str (hval 0 9 v0 rfl rfl) (tr_of hx0)
  refine (walk s hs W K).mono fun e W' ⟨he, hg⟩ => ?_
  subst he
  exact ⟨_, rfl, law_post hW' rfl rfl (by kernel_rfl) rfl rfl rfl hg⟩

theorem laid_met (os : Os) : laidMet Tryd.prog Rows.sealReadsRow.laid ((keysWorld os).forCall (fun _ _ => 0) ⟨#[], #[.string .empty], []⟩).memory :=
  laidMet_of_run' 8 (by kernel_rfl) (by kernel_rfl)
theorem reads (os : Os) {H : Type} (enc : TypeId × Value → H) : ∃ x, DataW.whole enc Tryd.prog ((keysWorld os).forCall (fun _ _ => 0) ⟨#[], #[.string .empty], []⟩).memory Tryd.f6.params.toList Rows.sealReadsSpec.vars false (#[.string .empty] : Array Value).toList 8 = some x :=
  Option.isSome_iff_exists.1 (by kernel_rfl)
set_option maxRecDepth 100000 in
theorem lifted (os : Os) (started : os.Started) (H : Type) (enc : TypeId × Value → H) (F : Stop.Interp) :
    ReturnsInHanded {} Tryd.checked os 6 .any ((OpenSpec.ofChange Rows.sealReadsSpec).preRow enc Tryd.prog Tryd.f6 Rows.sealReadsRow.domain false Rows.sealReadsRow.laid) (((OpenSpec.ofChange Rows.sealReadsSpec).at F).post enc Tryd.prog Tryd.f6 false true false false) := by
  obtain ⟨x, hx⟩ := reads os enc
  refine returnsInHanded_of_row (C := Tryd.checked) (s := OpenSpec.ofChange Rows.sealReadsSpec) own_ started (by kernel_rfl) Tryd.func6
    (witness_row_at (enc := enc) (C := Tryd.checked) false (keysWorld os) #[.string .empty] rfl (by kernel_rfl) (by kernel_rfl) (by kernel_rfl)
      (OpenSpec.preRow_of_cond 8 hx rfl (fun k hk => by cases hk) (by kernel_rfl) (laid_met os))) ?_
  intro W base args ds gs before hval hW _ _ _ hL _ _
  exact contract H enc W base args ds gs before hval hW hL

theorem said : Rows.SealReadsSaid :=
  OpenClaim.holds_of_cond 6 Tryd.f6 rfl rfl rfl rfl rfl rfl rfl ⟨rfl, rfl, rfl, rfl, rfl⟩ rfl rfl rfl rfl rfl (by kernel_rfl) Tryd.func6 (by kernel_rfl)
    (of_decide_eq_true (by kernel_rfl)) (by unfold Func.isWrapper; first | (rw [if_pos (by decide +kernel)]; kernel_rfl) | (rw [if_neg (by decide +kernel)]; exact ⟨rfl, rfl⟩))
    (fun os started H enc _ F => by rw [OpenClaim.pre_eq_preRow]; exact lifted os started H enc F)
theorem plain (f : FuncId) (fn : Func) (hf : Tryd.pinned.checked.prog.funcNamed "scrinium/scriniumlaw16.SealReads" = some f) (hfn : Tryd.pinned.checked.prog.funcs[f]? = some fn) :
    false = Tryd.pinned.checked.prog.looks [] ∧ ∀ (j : Nat) t, fn.params[j]? = some t → Tryd.pinned.checked.prog.wantsStandIn t = false := by
  obtain rfl : f = 6 := Option.some.inj ((show Tryd.prog.funcNamed "scrinium/scriniumlaw16.SealReads" = some 6 by kernel_rfl).symm.trans hf) |>.symm
  obtain rfl : fn = Tryd.f6 := (Option.some.inj (Tryd.func6.symm.trans hfn)).symm
  refine ⟨by kernel_rfl, fun j t ht => ?_⟩
  rw [Tryd.params6] at ht
  have hm : t ∈ ([9] : List TypeId) := by simpa using Array.mem_of_getElem? ht
  have hall : (([9] : List TypeId).all fun u => !Tryd.prog.wantsStandIn u) = true := by kernel_rfl
  exact (show Tryd.prog.wantsStandIn t = false by simpa using List.all_eq_true.1 hall t hm)
theorem proved : Rows.SealReadsCardSaid :=
  Claim7.holds_tied_plain_at .later [] _ _ _ _ said (fun _ h => by cases h) (by kernel_rfl) (fun _ h => by cases h) sealReads_row_tie rfl ⟨rfl, rfl⟩ (by kernel_rfl) rfl plain (by kernel_rfl)

end Go.Proofs.YtcgnjdkennkheaaDoor.sealReads
