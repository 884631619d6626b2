/-
  scriniumlaw16.SealSigns: no condition.
-/
import Derived.Test.YtcgnjdkennkheaaDoorSealA
import Derived.Test.YtcgnjdkennkheaaDoorOpSeal
import Derived.Test.YtcgnjdkennkheaaDoorLaw
set_option linter.unusedVariables false
set_option maxRecDepth 100000
set_option linter.unusedSimpArgs false
namespace Go.Proofs.YtcgnjdkennkheaaDoor.sealSigns
open Go.ChangeShapes Go.WideShapes Go.ChangeAt Go.RowKit
open Seal (Fz Hd St)
attribute [local go_sem] bs_size bs_toList2 bs_append bs_extract_end bs_extract_begin bs_get wrap64_b grow_cell grow_frozen

/-! ### The walk -/
set_option maxHeartbeats 8000000 in
theorem walk (key : List UInt8) (h : Hd) (t : St) (hkey : key.length ≤ 9223372036854775807) (fh : h.fit) (ft : t.fit) (w : World) (KW : Keys w) :
    Calls Tryd.prog 3 #[.string (bs key), h.v, t.v] w fun e w' => e = .returned (.bool true) ∧ Ext w w' := by
  have hH : HdAt ((w.alloc (.cells h.cells.toArray 25)).alloc (.cells t.cells.toArray 29)) w.heap.size h := by
    have := Blk.new w 25 h.cells.toArray
    exact Blk.alloc (this) _
  have hT : StAt ((w.alloc (.cells h.cells.toArray 25)).alloc (.cells t.cells.toArray 29)) (w.heap.size + 1) t := by
    have := Blk.new (w.alloc (.cells h.cells.toArray 25)) 29 t.cells.toArray
    rw [alloc_size] at this
    exact this
  have hE : Ext w ((w.alloc (.cells h.cells.toArray 25)).alloc (.cells t.cells.toArray 29)) := ((Ext.refl w).alloc _).alloc _
  obtain ⟨f1, f2, f3, f4⟩ := fh
  obtain ⟨⟨-, -, s0⟩, s1, s2⟩ := ft
  have hkt : (key.take 100).length ≤ 100 := by rw [List.length_take]; omega
  obtain ⟨ky, hky⟩ : ∃ ky, ky = key.take 100 := ⟨_, rfl⟩
  have hk : ky.length ≤ 4611686018427387904 := by rw [hky]; omega
  have Hky := Lib.hid hky; clear hky hkt
  obtain ⟨a, ha⟩ : ∃ a, a = Hd.sign ky h.size h.root h.clock := ⟨_, rfl⟩
  obtain ⟨b, hb⟩ : ∃ b, b = St.sign ky t.fz t.at_ := ⟨_, rfl⟩
  have a1 : a.root.length = 32 := by rw [ha]; exact f3
  have a2 : a.mac.length = 32 := by rw [ha]; exact Seal.signB_length _ _ _
  have b1 : b.fz.root.length = 32 := by rw [hb]; exact s0
  have b2 : b.mac.length = 32 := by rw [hb]; exact Seal.signB_length _ _ _
  have heqa : ∀ w : World, (Op.equalIn 10000 25 a.v a.v).run Tryd.prog w = .ok true w := fun w => by rw [eq_hd a a a1 a1 a2 a2 w]; simp
  have heqb : ∀ w : World, (Op.equalIn 10000 29 b.v b.v).run Tryd.prog w = .ok true w := fun w => by rw [eq_st b b b1 b1 b2 b2 w]; simp
  have hgh := guard_hd
  have hgs := guard_st
  obtain ⟨p, hp⟩ : ∃ p, p = h.rightB ky := ⟨_, rfl⟩
  obtain ⟨q, hq⟩ : ∃ q, q = t.rightB ky := ⟨_, rfl⟩
  obtain ⟨r, hr⟩ : ∃ r, r = a.rightB ky := ⟨_, rfl⟩
  obtain ⟨s, hs⟩ : ∃ s, s = b.rightB ky := ⟨_, rfl⟩
  have Ha := Lib.hid ha; have Hb := Lib.hid hb; have Hp := Lib.hid hp; have Hq := Lib.hid hq; have Hr := Lib.hid hr; have Hs := Lib.hid hs
  clear ha hb hp hq hr hs
  unfold Seal.Hd.v Seal.St.v at *
  go_enter Tryd.func3, Tryd.ntmps3
  go_wp2_with fail
  change Calls _ _ _ ((w.alloc (.cells h.cells.toArray 25)).alloc (.cells t.cells.toArray 29)) _
  generalize ((w.alloc (.cells h.cells.toArray 25)).alloc (.cells t.cells.toArray 29)) = w0 at *
  refine (awake16_calls _ (KW.ext hE)).mono ?_; rintro e v1 ⟨rfl, e2⟩
  replace hH := hH.ext e2
  replace hT := hT.ext e2
  replace hE := hE.trans e2
  clear e2
  go_wp2_with fail
  refine (short16_calls key 100 _ hkey (by omega)).mono ?_; rw [← Hky.out]; rintro e w' ⟨rfl, rfl⟩
  have c0 := hH.c0
  have c1 := hH.c33 f3
  have hroot := hH.root
  have d1 := hT.c34 s0
  have hfzr := hT.fz
  have hhl := Blk.lt hH
  have htl := Blk.lt hT
  go_wp2_with (refine stop_load 23 (.tmp 19) rfl ?_)
  refine ⟨?_⟩
  refine wpList_load_mid rfl 23 (.tmp 19) rfl w.heap.size (1) (by rfl) (hcells h.root) _ hroot Tryd.underlying23 rfl (size32l _ f3) ?_
  simp only [Act.put, List.setIfInBounds_toArray, List.set_cons_zero, List.set_cons_succ]
  go_wp2_with fail
  clear c0 c1 hroot d1 hfzr hhl htl
  change Calls _ _ #[.string (bs ky), .int .i64 h.size, sumV h.root, .int .i64 h.clock] _ _
  refine (Head_calls ky hk h.size h.clock h.root f3 _ (KW.ext hE)).mono ?_; rw [← Ha.out]; rintro e v3 ⟨rfl, e4⟩
  replace hH := hH.ext e4
  replace hT := hT.ext e4
  replace hE := hE.trans e4
  clear e4
  unfold Seal.Hd.v
  go_wp2_with (refine stop_store 25 (.tmp 8) (.tmp 23) rfl ?_)
  refine ⟨?_⟩
  change wpList _ _ _ _ _ (v3.alloc (.cells (⟨0, List.replicate 32 0, 0, List.replicate 32 0⟩ : Hd).cells.toArray 25))
  have hA0 := Blk.new v3 25 (⟨0, List.replicate 32 0, 0, List.replicate 32 0⟩ : Hd).cells.toArray
  have e6a := (Ext.refl v3).alloc (.cells (⟨0, List.replicate 32 0, 0, List.replicate 32 0⟩ : Hd).cells.toArray 25)
  have g7l : v3.heap.size < (v3.alloc (.cells (⟨0, List.replicate 32 0, 0, List.replicate 32 0⟩ : Hd).cells.toArray 25)).heap.size := Blk.lt hA0
  obtain ⟨g7, g7e⟩ : ∃ g7, g7 = v3.heap.size := ⟨_, rfl⟩
  have g7b : v3.heap.size ≤ g7 := by omega
  rw [← g7e] at hA0 g7l
  try rw [← g7e]
  generalize v3.alloc (.cells (⟨0, List.replicate 32 0, 0, List.replicate 32 0⟩ : Hd).cells.toArray 25) = v5' at *
  refine wpList_store_row rfl 25 (.tmp 8) (.tmp 23) rfl g7 a.cells.toArray (by rfl) (by rfl) 25 _ hA0 (Seal.size_hd a a1 a2) (by simp only [List.size_toArray]; rw [Seal.Hd.cells_length a a1 a2]; rfl) (all_oneCell_toArray (Seal.Hd.one a)) ?_
  simp only [Act.put, List.setIfInBounds_toArray, List.set_cons_zero, List.set_cons_succ]
  have hA : HdAt (v5'.setRow g7 a.cells.toArray) g7 a := Blk.row hA0 _
  have e6 : Ext v3 (v5'.setRow g7 a.cells.toArray) := e6a.row g7b _
  clear hA0 e6a g7l
  generalize v5'.setRow g7 a.cells.toArray = v5 at *
  clear v5' g7e
  replace hH := hH.ext e6
  replace hT := hT.ext e6
  replace hE := hE.trans e6
  clear e6
  have c0 := hH.c0
  have c1 := hH.c33 f3
  have hroot := hH.root
  have d1 := hT.c34 s0
  have hfzr := hT.fz
  have hhl := Blk.lt hH
  have htl := Blk.lt hT
  go_wp2_with (refine stop_load 27 (.tmp 25) rfl ?_)
  refine ⟨?_⟩
  refine wpList_load_mid rfl 27 (.tmp 25) rfl (w.heap.size + 1) (0) (by rfl) (t.fz.cells) _ hfzr Tryd.underlying27 rfl ((Seal.size_fz t.fz s0).trans (by rw [List.size_toArray])) ?_
  simp only [Act.put, List.setIfInBounds_toArray, List.set_cons_zero, List.set_cons_succ]
  go_wp2_with fail
  clear c0 c1 hroot d1 hfzr hhl htl
  change Calls _ _ #[.string (bs ky), t.fz.v, .int .i64 t.at_] _ _
  refine (Stone_calls ky hk t.fz s0 t.at_ _ (KW.ext hE)).mono ?_; rw [← Hb.out]; rintro e v8 ⟨rfl, e9⟩
  replace hH := hH.ext e9
  replace hT := hT.ext e9
  replace hA := hA.ext e9
  replace hE := hE.trans e9
  clear e9
  unfold Seal.St.v
  go_wp2_with (refine stop_store 29 (.tmp 9) (.tmp 29) rfl ?_)
  refine ⟨?_⟩
  change wpList _ _ _ _ _ (v8.alloc (.cells (⟨⟨0, 0, List.replicate 32 0⟩, 0, List.replicate 32 0⟩ : St).cells.toArray 29))
  have hB0 := Blk.new v8 29 (⟨⟨0, 0, List.replicate 32 0⟩, 0, List.replicate 32 0⟩ : St).cells.toArray
  have e11a := (Ext.refl v8).alloc (.cells (⟨⟨0, 0, List.replicate 32 0⟩, 0, List.replicate 32 0⟩ : St).cells.toArray 29)
  have g12l : v8.heap.size < (v8.alloc (.cells (⟨⟨0, 0, List.replicate 32 0⟩, 0, List.replicate 32 0⟩ : St).cells.toArray 29)).heap.size := Blk.lt hB0
  obtain ⟨g12, g12e⟩ : ∃ g12, g12 = v8.heap.size := ⟨_, rfl⟩
  have g12b : v8.heap.size ≤ g12 := by omega
  rw [← g12e] at hB0 g12l
  try rw [← g12e]
  generalize v8.alloc (.cells (⟨⟨0, 0, List.replicate 32 0⟩, 0, List.replicate 32 0⟩ : St).cells.toArray 29) = v10' at *
  refine wpList_store_row rfl 29 (.tmp 9) (.tmp 29) rfl g12 b.cells.toArray (by rfl) (by rfl) 29 _ hB0 (Seal.size_st b b1 b2) (by simp only [List.size_toArray]; rw [Seal.St.cells_length b b1 b2]; rfl) (all_oneCell_toArray (Seal.St.one b)) ?_
  simp only [Act.put, List.setIfInBounds_toArray, List.set_cons_zero, List.set_cons_succ]
  have hB : StAt (v10'.setRow g12 b.cells.toArray) g12 b := Blk.row hB0 _
  have e11 : Ext v8 (v10'.setRow g12 b.cells.toArray) := e11a.row g12b _
  clear hB0 e11a g12l
  generalize v10'.setRow g12 b.cells.toArray = v10 at *
  clear v10' g12e
  replace hH := hH.ext e11
  replace hT := hT.ext e11
  replace hA := hA.ext e11
  replace hE := hE.trans e11
  clear e11
  have c0 := hH.c0
  have c1 := hH.c33 f3
  have hroot := hH.root
  have d1 := hT.c34 s0
  have hfzr := hT.fz
  have hhl := Blk.lt hH
  have htl := Blk.lt hT
  go_wp2_with fail
  refine region_mix0 (by kernel_rfl) (by kernel_rfl) (fun x => ?_)
  refine mix_row (by rfl) (by rfl) 25 (.tmp 8) rfl g7 (by rfl) _ _ _ hA Tryd.underlying25 rfl (Seal.size_hd a a1 a2) ?_
  simp only [Act.put, List.setIfInBounds_toArray, List.set_cons_zero, List.set_cons_succ]
  iterate 4 (first | (refine mix_quiet (by rfl) (by rfl) (fun K hK => ?_); go_big_quiet_op; refine hK _ ?_; clear hK K) | (refine mix_skip (by rfl) ?_; simp only [Act.put, List.setIfInBounds_toArray, List.set_cons_zero, List.set_cons_succ]))
  refine mix_mid (by rfl) (by rfl) 23 (.tmp 34) rfl w.heap.size 1 (by rfl) (hcells h.root) _ hroot hhl Tryd.underlying23 rfl (size32l _ f3) ?_
  simp only [Act.put, List.setIfInBounds_toArray, List.set_cons_zero, List.set_cons_succ]
  repeat (first | (refine mix_quiet (by rfl) (by rfl) (fun K hK => ?_); go_big_quiet_op; refine hK _ ?_; clear hK K) | (refine mix_skip (by rfl) ?_; simp only [Act.put, List.setIfInBounds_toArray, List.set_cons_zero, List.set_cons_succ]))
  (refine mix_loud (by rfl) (by rfl) (fun K E hK => ?_); go_big_op)
  refine (refHead_calls ky hk h.size h.clock h.root f3 _).mono ?_; rw [← Ha.out]; rintro e w3 ⟨rfl, hd⟩
  obtain ⟨x13, rfl⟩ := more_ext x hd
  refine hK _ _ ⟨_, rfl⟩ ?_; clear hK K E hd
  unfold Seal.Hd.v
  iterate 2 (first | (refine mix_quiet (by rfl) (by rfl) (fun K hK => ?_); go_big_quiet_op; refine hK _ ?_; clear hK K) | (refine mix_skip (by rfl) ?_; simp only [Act.put, List.setIfInBounds_toArray, List.set_cons_zero, List.set_cons_succ]))
  refine mix_row (by rfl) (by rfl) 29 (.tmp 9) rfl g12 (by rfl) _ _ _ hB Tryd.underlying29 rfl (Seal.size_st b b1 b2) ?_
  simp only [Act.put, List.setIfInBounds_toArray, List.set_cons_zero, List.set_cons_succ]
  iterate 2 (first | (refine mix_quiet (by rfl) (by rfl) (fun K hK => ?_); go_big_quiet_op; refine hK _ ?_; clear hK K) | (refine mix_skip (by rfl) ?_; simp only [Act.put, List.setIfInBounds_toArray, List.set_cons_zero, List.set_cons_succ]))
  refine mix_mid (by rfl) (by rfl) 27 (.tmp 43) rfl (w.heap.size + 1) 0 (by rfl) (t.fz.cells) _ hfzr htl Tryd.underlying27 rfl ((Seal.size_fz t.fz s0).trans (by rw [List.size_toArray])) ?_
  simp only [Act.put, List.setIfInBounds_toArray, List.set_cons_zero, List.set_cons_succ]
  repeat (first | (refine mix_quiet (by rfl) (by rfl) (fun K hK => ?_); go_big_quiet_op; refine hK _ ?_; clear hK K) | (refine mix_skip (by rfl) ?_; simp only [Act.put, List.setIfInBounds_toArray, List.set_cons_zero, List.set_cons_succ]))
  (refine mix_loud (by rfl) (by rfl) (fun K E hK => ?_); go_big_op)
  refine (refStone_calls ky hk t.fz s0 t.at_ _).mono ?_; rw [← Hb.out]; rintro e w3 ⟨rfl, hd⟩
  obtain ⟨x14, rfl⟩ := more_ext x13 hd
  refine hK _ _ ⟨_, rfl⟩ ?_; clear hK K E hd
  unfold Seal.St.v
  repeat (first | (refine mix_quiet (by rfl) (by rfl) (fun K hK => ?_); go_big_quiet_op; refine hK _ ?_; clear hK K) | (refine mix_skip (by rfl) ?_; simp only [Act.put, List.setIfInBounds_toArray, List.set_cons_zero, List.set_cons_succ]))
  clear c0 c1 hroot d1 hfzr hhl htl
  refine mix_nil ?_
  have e16 := grow_ext x14
  generalize grow v10 x14 = v15 at *
  replace hH := hH.ext e16
  replace hT := hT.ext e16
  replace hA := hA.ext e16
  replace hB := hB.ext e16
  replace hE := hE.trans e16
  clear e16
  have pp : (p == p) = true := by simp
  have qq : (q == q) = true := by simp
  have rr : (r == r) = true := by simp
  have ss : (s == s) = true := by simp
  go_wp2_with fail
  refine region_mix0 (by kernel_rfl) (by kernel_rfl) (fun x => ?_)
  iterate 1 (first | (refine mix_quiet (by rfl) (by rfl) (fun K hK => ?_); go_big_quiet_op; refine hK _ ?_; clear hK K) | (refine mix_skip (by rfl) ?_; simp only [Act.put, List.setIfInBounds_toArray, List.set_cons_zero, List.set_cons_succ]))
  refine mix_row (by rfl) (by rfl) 25 (.tmp 4) rfl w.heap.size (by rfl) _ _ _ hH Tryd.underlying25 rfl (Seal.size_hd h f3 f4) ?_
  simp only [Act.put, List.setIfInBounds_toArray, List.set_cons_zero, List.set_cons_succ]
  (refine mix_loud (by rfl) (by rfl) (fun K E hK => ?_); go_big_op)
  refine (HeadRight_calls ky hk h f3 f4 _ (KW.ext (hE.trans (grow_ext _)))).mono ?_; rw [← Hp.out]; rintro e w3 ⟨rfl, hd⟩
  obtain ⟨x17, rfl⟩ := more_ext x hd
  refine hK _ _ ⟨_, rfl⟩ ?_; clear hK K E hd
  iterate 1 (first | (refine mix_quiet (by rfl) (by rfl) (fun K hK => ?_); go_big_quiet_op; refine hK _ ?_; clear hK K) | (refine mix_skip (by rfl) ?_; simp only [Act.put, List.setIfInBounds_toArray, List.set_cons_zero, List.set_cons_succ]))
  refine mix_row (by rfl) (by rfl) 25 (.tmp 4) rfl w.heap.size (by rfl) _ _ _ hH Tryd.underlying25 rfl (Seal.size_hd h f3 f4) ?_
  simp only [Act.put, List.setIfInBounds_toArray, List.set_cons_zero, List.set_cons_succ]
  (refine mix_loud (by rfl) (by rfl) (fun K E hK => ?_); go_big_op)
  refine (refHeadRight_calls ky hk h f3 f4 _).mono ?_; rw [← Hp.out]; rintro e w3 ⟨rfl, hd⟩
  obtain ⟨x18, rfl⟩ := more_ext x17 hd
  refine hK _ _ ⟨_, rfl⟩ ?_; clear hK K E hd
  iterate 3 (first | (refine mix_quiet (by rfl) (by rfl) (fun K hK => ?_); go_big_quiet_op; refine hK _ ?_; clear hK K) | (refine mix_skip (by rfl) ?_; simp only [Act.put, List.setIfInBounds_toArray, List.set_cons_zero, List.set_cons_succ]))
  refine mix_row (by rfl) (by rfl) 29 (.tmp 5) rfl (w.heap.size + 1) (by rfl) _ _ _ hT Tryd.underlying29 rfl (Seal.size_st t s0 s2) ?_
  simp only [Act.put, List.setIfInBounds_toArray, List.set_cons_zero, List.set_cons_succ]
  (refine mix_loud (by rfl) (by rfl) (fun K E hK => ?_); go_big_op)
  refine (StoneRight_calls ky hk t s0 s2 _ (KW.ext (hE.trans (grow_ext _)))).mono ?_; rw [← Hq.out]; rintro e w3 ⟨rfl, hd⟩
  obtain ⟨x19, rfl⟩ := more_ext x18 hd
  refine hK _ _ ⟨_, rfl⟩ ?_; clear hK K E hd
  iterate 1 (first | (refine mix_quiet (by rfl) (by rfl) (fun K hK => ?_); go_big_quiet_op; refine hK _ ?_; clear hK K) | (refine mix_skip (by rfl) ?_; simp only [Act.put, List.setIfInBounds_toArray, List.set_cons_zero, List.set_cons_succ]))
  refine mix_row (by rfl) (by rfl) 29 (.tmp 5) rfl (w.heap.size + 1) (by rfl) _ _ _ hT Tryd.underlying29 rfl (Seal.size_st t s0 s2) ?_
  simp only [Act.put, List.setIfInBounds_toArray, List.set_cons_zero, List.set_cons_succ]
  (refine mix_loud (by rfl) (by rfl) (fun K E hK => ?_); go_big_op)
  refine (refStoneRight_calls ky hk t s0 s2 _).mono ?_; rw [← Hq.out]; rintro e w3 ⟨rfl, hd⟩
  obtain ⟨x20, rfl⟩ := more_ext x19 hd
  refine hK _ _ ⟨_, rfl⟩ ?_; clear hK K E hd
  repeat (first | (refine mix_quiet (by rfl) (by rfl) (fun K hK => ?_); go_big_quiet_op; refine hK _ ?_; clear hK K) | (refine mix_skip (by rfl) ?_; simp only [Act.put, List.setIfInBounds_toArray, List.set_cons_zero, List.set_cons_succ]))
  refine mix_nil ?_
  have e22 := grow_ext x20
  generalize grow v15 x20 = v21 at *
  replace hH := hH.ext e22
  replace hT := hT.ext e22
  replace hA := hA.ext e22
  replace hB := hB.ext e22
  replace hE := hE.trans e22
  clear e22
  go_wp2_with fail
  refine region_mix0 (by kernel_rfl) (by kernel_rfl) (fun x => ?_)
  iterate 1 (first | (refine mix_quiet (by rfl) (by rfl) (fun K hK => ?_); go_big_quiet_op; refine hK _ ?_; clear hK K) | (refine mix_skip (by rfl) ?_; simp only [Act.put, List.setIfInBounds_toArray, List.set_cons_zero, List.set_cons_succ]))
  refine mix_row (by rfl) (by rfl) 25 (.tmp 8) rfl g7 (by rfl) _ _ _ hA Tryd.underlying25 rfl (Seal.size_hd a a1 a2) ?_
  simp only [Act.put, List.setIfInBounds_toArray, List.set_cons_zero, List.set_cons_succ]
  (refine mix_loud (by rfl) (by rfl) (fun K E hK => ?_); go_big_op)
  refine (HeadRight_calls ky hk a a1 a2 _ (KW.ext (hE.trans (grow_ext _)))).mono ?_; rw [← Hr.out]; rintro e w3 ⟨rfl, hd⟩
  obtain ⟨x23, rfl⟩ := more_ext x hd
  refine hK _ _ ⟨_, rfl⟩ ?_; clear hK K E hd
  iterate 1 (first | (refine mix_quiet (by rfl) (by rfl) (fun K hK => ?_); go_big_quiet_op; refine hK _ ?_; clear hK K) | (refine mix_skip (by rfl) ?_; simp only [Act.put, List.setIfInBounds_toArray, List.set_cons_zero, List.set_cons_succ]))
  refine mix_row (by rfl) (by rfl) 25 (.tmp 8) rfl g7 (by rfl) _ _ _ hA Tryd.underlying25 rfl (Seal.size_hd a a1 a2) ?_
  simp only [Act.put, List.setIfInBounds_toArray, List.set_cons_zero, List.set_cons_succ]
  (refine mix_loud (by rfl) (by rfl) (fun K E hK => ?_); go_big_op)
  refine (refHeadRight_calls ky hk a a1 a2 _).mono ?_; rw [← Hr.out]; rintro e w3 ⟨rfl, hd⟩
  obtain ⟨x24, rfl⟩ := more_ext x23 hd
  refine hK _ _ ⟨_, rfl⟩ ?_; clear hK K E hd
  iterate 3 (first | (refine mix_quiet (by rfl) (by rfl) (fun K hK => ?_); go_big_quiet_op; refine hK _ ?_; clear hK K) | (refine mix_skip (by rfl) ?_; simp only [Act.put, List.setIfInBounds_toArray, List.set_cons_zero, List.set_cons_succ]))
  refine mix_row (by rfl) (by rfl) 29 (.tmp 9) rfl g12 (by rfl) _ _ _ hB Tryd.underlying29 rfl (Seal.size_st b b1 b2) ?_
  simp only [Act.put, List.setIfInBounds_toArray, List.set_cons_zero, List.set_cons_succ]
  (refine mix_loud (by rfl) (by rfl) (fun K E hK => ?_); go_big_op)
  refine (StoneRight_calls ky hk b b1 b2 _ (KW.ext (hE.trans (grow_ext _)))).mono ?_; rw [← Hs.out]; rintro e w3 ⟨rfl, hd⟩
  obtain ⟨x25, rfl⟩ := more_ext x24 hd
  refine hK _ _ ⟨_, rfl⟩ ?_; clear hK K E hd
  iterate 1 (first | (refine mix_quiet (by rfl) (by rfl) (fun K hK => ?_); go_big_quiet_op; refine hK _ ?_; clear hK K) | (refine mix_skip (by rfl) ?_; simp only [Act.put, List.setIfInBounds_toArray, List.set_cons_zero, List.set_cons_succ]))
  refine mix_row (by rfl) (by rfl) 29 (.tmp 9) rfl g12 (by rfl) _ _ _ hB Tryd.underlying29 rfl (Seal.size_st b b1 b2) ?_
  simp only [Act.put, List.setIfInBounds_toArray, List.set_cons_zero, List.set_cons_succ]
  (refine mix_loud (by rfl) (by rfl) (fun K E hK => ?_); go_big_op)
  refine (refStoneRight_calls ky hk b b1 b2 _).mono ?_; rw [← Hs.out]; rintro e w3 ⟨rfl, hd⟩
  obtain ⟨x26, rfl⟩ := more_ext x25 hd
  refine hK _ _ ⟨_, rfl⟩ ?_; clear hK K E hd
  repeat (first | (refine mix_quiet (by rfl) (by rfl) (fun K hK => ?_); go_big_quiet_op; refine hK _ ?_; clear hK K) | (refine mix_skip (by rfl) ?_; simp only [Act.put, List.setIfInBounds_toArray, List.set_cons_zero, List.set_cons_succ]))
  refine mix_nil ?_
  have e28 := grow_ext x26
  generalize grow v21 x26 = v27 at *
  replace hH := hH.ext e28
  replace hT := hT.ext e28
  replace hA := hA.ext e28
  replace hB := hB.ext e28
  replace hE := hE.trans e28
  clear e28
  go_wp2_with fail
  go_ret
  exact ⟨rfl, hE⟩

set_option maxRecDepth 100000 in
theorem contract (H : Type) (enc : TypeId × Value → H) (W : World) (base : Nat) (args : Array Value) (ds gs : List (DataW H)) (before : List MemPlace)
    (hval0 : ∀ (j : Nat) t v, Tryd.f3.params[j]? = some t → args[j]? = some v → Value.okWide Tryd.prog W .any base t v)
    (hW : DataW.Whole enc Tryd.prog Tryd.f3.params.toList Rows.sealSignsSpec.vars false W args.toList ds gs before) (hL : laidMetH Tryd.prog Rows.sealSignsRow.laid W) :
    Calls Tryd.prog 3 args W fun e W' => ∃ v, e = .returned v ∧ Rows.sealSignsSpec.post enc Tryd.prog Tryd.f3 false true false false W args v W' := by
  have K : Keys W := keys_of hL
  have hval : ∀ (j : Nat) t v, Tryd.f3.params[j]? = some t → args[j]? = some v → Value.okWide Tryd.prog W .any base t v := hval0
  have hW' := hW
  obtain ⟨p, q, hA0, hV, rfl, hfz, hnd⟩ := hW
  have hA : DataW.TrodAll enc Tryd.prog W 0 (fun _ => true) true Tryd.f3.params.toList args.toList ds p := hA0
  rw [Tryd.params3] at hA hval
  obtain ⟨v0, vs0, d0, ds0, p0, q0, hargs, rfl, rfl, hx0, r0⟩ := trodAll_cons hA
  obtain ⟨v1, vs1, d1, ds1, p1, q1, rfl, rfl, rfl, hx1, r1⟩ := trodAll_cons r0
  obtain ⟨v2, vs2, d2, ds2, p2, q2, rfl, rfl, rfl, hx2, r2⟩ := trodAll_cons r1
  obtain ⟨rfl, rfl, rfl⟩ := trodAll_nil r2
  obtain rfl : args = #[v0, v1, v2] := by cases args; simp_all
  obtain ⟨rfl, rfl⟩ := trodVars_none hV
  obtain ⟨key, rfl, hkey⟩ := op_str (hval 0 9 v0 rfl rfl) (tr_of hx0)
  obtain ⟨h, rfl, hh⟩ := op_hd (hval 1 25 v1 rfl rfl) (tr_of hx1)
  obtain ⟨t, rfl, ht⟩ := op_st (hval 2 29 v2 rfl rfl) (tr_of hx2)
  refine (walk key h t hkey hh ht W K).mono fun e W' ⟨he, hg⟩ => ?_
  subst he
  exact ⟨_, rfl, law_post hW' rfl rfl (by kernel_rfl) rfl rfl rfl hg⟩

theorem laid_met (os : Os) : laidMet Tryd.prog Rows.sealSignsRow.laid ((keysWorld os).forCall (fun _ _ => 0) ⟨#[], #[.string .empty, .agg (Array.mk (α := Value) ((Value.int IntKind.i64 0 :: (List.replicate 32 (Value.int IntKind.u8 0) ++ (Value.int IntKind.i64 0 :: List.replicate 32 (Value.int IntKind.u8 0)))))), .agg (Array.mk (α := Value) (((Value.int IntKind.i64 0 :: Value.int IntKind.i64 0 :: List.replicate 32 (Value.int IntKind.u8 0)) ++ (Value.int IntKind.i64 0 :: List.replicate 32 (Value.int IntKind.u8 0)))))], []⟩).memory :=
  laidMet_of_run' 8 (by kernel_rfl) (by kernel_rfl)
theorem reads (os : Os) {H : Type} (enc : TypeId × Value → H) : ∃ x, DataW.whole enc Tryd.prog ((keysWorld os).forCall (fun _ _ => 0) ⟨#[], #[.string .empty, .agg (Array.mk (α := Value) ((Value.int IntKind.i64 0 :: (List.replicate 32 (Value.int IntKind.u8 0) ++ (Value.int IntKind.i64 0 :: List.replicate 32 (Value.int IntKind.u8 0)))))), .agg (Array.mk (α := Value) (((Value.int IntKind.i64 0 :: Value.int IntKind.i64 0 :: List.replicate 32 (Value.int IntKind.u8 0)) ++ (Value.int IntKind.i64 0 :: List.replicate 32 (Value.int IntKind.u8 0)))))], []⟩).memory Tryd.f3.params.toList Rows.sealSignsSpec.vars false (#[.string .empty, .agg (Array.mk (α := Value) ((Value.int IntKind.i64 0 :: (List.replicate 32 (Value.int IntKind.u8 0) ++ (Value.int IntKind.i64 0 :: List.replicate 32 (Value.int IntKind.u8 0)))))), .agg (Array.mk (α := Value) (((Value.int IntKind.i64 0 :: Value.int IntKind.i64 0 :: List.replicate 32 (Value.int IntKind.u8 0)) ++ (Value.int IntKind.i64 0 :: List.replicate 32 (Value.int IntKind.u8 0)))))] : Array Value).toList 8 = some x :=
  Option.isSome_iff_exists.1 (by kernel_rfl)
set_option maxRecDepth 100000 in
theorem lifted (os : Os) (started : os.Started) (H : Type) (enc : TypeId × Value → H) (F : Stop.Interp) :
    ReturnsInHanded {} Tryd.checked os 3 .any ((OpenSpec.ofChange Rows.sealSignsSpec).preRow enc Tryd.prog Tryd.f3 Rows.sealSignsRow.domain false Rows.sealSignsRow.laid) (((OpenSpec.ofChange Rows.sealSignsSpec).at F).post enc Tryd.prog Tryd.f3 false true false false) := by
  obtain ⟨x, hx⟩ := reads os enc
  refine returnsInHanded_of_row (C := Tryd.checked) (s := OpenSpec.ofChange Rows.sealSignsSpec) own_ started (by kernel_rfl) Tryd.func3
    (witness_row_at (enc := enc) (C := Tryd.checked) false (keysWorld os) #[.string .empty, .agg (Array.mk (α := Value) ((Value.int IntKind.i64 0 :: (List.replicate 32 (Value.int IntKind.u8 0) ++ (Value.int IntKind.i64 0 :: List.replicate 32 (Value.int IntKind.u8 0)))))), .agg (Array.mk (α := Value) (((Value.int IntKind.i64 0 :: Value.int IntKind.i64 0 :: List.replicate 32 (Value.int IntKind.u8 0)) ++ (Value.int IntKind.i64 0 :: List.replicate 32 (Value.int IntKind.u8 0)))))] rfl (by kernel_rfl) (by kernel_rfl) (by kernel_rfl)
      (OpenSpec.preRow_of_cond 8 hx rfl (fun k hk => by cases hk) (by kernel_rfl) (laid_met os))) ?_
  intro W base args ds gs before hval hW _ _ _ hL _ _
  exact contract H enc W base args ds gs before hval hW hL

theorem said : Rows.SealSignsSaid :=
  OpenClaim.holds_of_cond 3 Tryd.f3 rfl rfl rfl rfl rfl rfl rfl ⟨rfl, rfl, rfl, rfl, rfl⟩ rfl rfl rfl rfl rfl (by kernel_rfl) Tryd.func3 (by kernel_rfl)
    (of_decide_eq_true (by kernel_rfl)) (by unfold Func.isWrapper; first | (rw [if_pos (by decide +kernel)]; kernel_rfl) | (rw [if_neg (by decide +kernel)]; exact ⟨rfl, rfl⟩))
    (fun os started H enc _ F => by rw [OpenClaim.pre_eq_preRow]; exact lifted os started H enc F)
theorem plain (f : FuncId) (fn : Func) (hf : Tryd.pinned.checked.prog.funcNamed "scrinium/scriniumlaw16.SealSigns" = some f) (hfn : Tryd.pinned.checked.prog.funcs[f]? = some fn) :
    false = Tryd.pinned.checked.prog.looks [] ∧ ∀ (j : Nat) t, fn.params[j]? = some t → Tryd.pinned.checked.prog.wantsStandIn t = false := by
  obtain rfl : f = 3 := Option.some.inj ((show Tryd.prog.funcNamed "scrinium/scriniumlaw16.SealSigns" = some 3 by kernel_rfl).symm.trans hf) |>.symm
  obtain rfl : fn = Tryd.f3 := (Option.some.inj (Tryd.func3.symm.trans hfn)).symm
  refine ⟨by kernel_rfl, fun j t ht => ?_⟩
  rw [Tryd.params3] at ht
  have hm : t ∈ ([9, 25, 29] : List TypeId) := by simpa using Array.mem_of_getElem? ht
  have hall : (([9, 25, 29] : List TypeId).all fun u => !Tryd.prog.wantsStandIn u) = true := by kernel_rfl
  exact (show Tryd.prog.wantsStandIn t = false by simpa using List.all_eq_true.1 hall t hm)
theorem proved : Rows.SealSignsCardSaid :=
  Claim7.holds_tied_plain_at .later [] _ _ _ _ said (fun _ h => by cases h) (by kernel_rfl) (fun _ h => by cases h) sealSigns_row_tie rfl ⟨rfl, rfl⟩ (by kernel_rfl) rfl plain (by kernel_rfl)

end Go.Proofs.YtcgnjdkennkheaaDoor.sealSigns
