/-
  scriniumlaw16.SealKinds: no condition.
-/
import Derived.Test.YtcgnjdkennkheaaDoorSealNM
import Derived.Deep.DeepCutAuto
import Derived.Test.YtcgnjdkennkheaaDoorLaw
set_option linter.unusedVariables false
set_option maxRecDepth 100000
set_option linter.unusedSimpArgs false
namespace Go.Proofs.YtcgnjdkennkheaaDoor.sealKinds
open Go.ChangeShapes Go.WideShapes Go.ChangeAt Go.RowKit
open Seal (Fz Hd St)
attribute [local go_sem] bs_size bs_toList2 bs_append bs_extract_end bs_extract_begin bs_get wrap64_b grow_cell grow_frozen

/-! ### The walk -/
set_option maxHeartbeats 16000000 in
theorem walk (f : Fz) (h : Hd) (t : St) (ff : f.fit) (fh : h.fit) (ft : t.fit) (w : World) (KW : Keys w) :
    Calls Tryd.prog 7 #[f.v, h.v, t.v] w fun e w' => e = .returned (.bool true) ∧ Ext w w' := by
  have hF : FzAt (((w.alloc (.cells f.cells.toArray 27)).alloc (.cells h.cells.toArray 25)).alloc (.cells t.cells.toArray 29)) w.heap.size f := by
    have := Blk.new w 27 f.cells.toArray
    exact Blk.alloc (Blk.alloc (this) _) _
  have hH : HdAt (((w.alloc (.cells f.cells.toArray 27)).alloc (.cells h.cells.toArray 25)).alloc (.cells t.cells.toArray 29)) (w.heap.size + 1) h := by
    have := Blk.new (w.alloc (.cells f.cells.toArray 27)) 25 h.cells.toArray
    rw [alloc_size] at this
    exact Blk.alloc (this) _
  have hT : StAt (((w.alloc (.cells f.cells.toArray 27)).alloc (.cells h.cells.toArray 25)).alloc (.cells t.cells.toArray 29)) (w.heap.size + 2) t := by
    have := Blk.new ((w.alloc (.cells f.cells.toArray 27)).alloc (.cells h.cells.toArray 25)) 29 t.cells.toArray
    rw [alloc_size, alloc_size] at this
    exact this
  have hE : Ext w (((w.alloc (.cells f.cells.toArray 27)).alloc (.cells h.cells.toArray 25)).alloc (.cells t.cells.toArray 29)) := (((Ext.refl w).alloc _).alloc _).alloc _
  obtain ⟨-, -, lf⟩ := ff
  obtain ⟨-, -, lh, mh⟩ := fh
  obtain ⟨⟨-, -, lt⟩, -, mt⟩ := ft
  have kf := Lib.hid (Seal.fz_hd f); have kf2 := Lib.hid (Seal.fz_st f); have kh := Lib.hid (Seal.hd_fz h); have kh2 := Lib.hid (Seal.hd_st h); have kt := Lib.hid (Seal.st_fz t); have kt2 := Lib.hid (Seal.st_hd t)
  by_cases mf : f.may
  · by_cases mh : h.may
    · by_cases mt : t.may
      · skip
        obtain ⟨of, ef⟩ := Seal.Fz.out_ok f mf
        obtain ⟨-, oh, eh⟩ := Seal.Hd.out_ok h mh
        obtain ⟨-, ot, et⟩ := Seal.St.out_ok t mt
        have Of := Lib.hid of; have Ef := Lib.hid ef; have Oh := Lib.hid oh; have Eh := Lib.hid eh; have Ot := Lib.hid ot; have Et := Lib.hid et
        clear of ef oh eh ot et mf mh mt
        unfold Seal.Fz.v Seal.Hd.v Seal.St.v
        go_enter Tryd.func7, Tryd.ntmps7
        go_wp2_with fail
        change Calls _ _ _ (((w.alloc (.cells f.cells.toArray 27)).alloc (.cells h.cells.toArray 25)).alloc (.cells t.cells.toArray 29)) _
        generalize (((w.alloc (.cells f.cells.toArray 27)).alloc (.cells h.cells.toArray 25)).alloc (.cells t.cells.toArray 29)) = w0 at *
        refine (awake16_calls _ (KW.ext hE)).mono ?_; rintro e v1 ⟨rfl, e2⟩
        replace hF := hF.ext e2
        replace hH := hH.ext e2
        replace hT := hT.ext e2
        replace hE := hE.trans e2
        clear e2
        go_wp2_with (refine stop_load 27 (.tmp 3) rfl ?_)
        refine ⟨?_⟩
        refine wpList_load_row rfl 27 (.tmp 3) rfl w.heap.size (by rfl) 27 _ (0, 0) _ hF Tryd.underlying27 rfl (Seal.size_fz f lf) ?_
        simp only [Act.put, List.setIfInBounds_toArray, List.set_cons_zero, List.set_cons_succ]
        go_wp2_with fail
        change Calls _ _ #[f.v] _ _
        refine (FreezeBytes_calls f lf _).mono ?_; rw [Of.out, Ef.out]; rintro e v3 ⟨rfl, e4⟩
        replace hF := hF.ext e4
        replace hH := hH.ext e4
        replace hT := hT.ext e4
        replace hE := hE.trans e4
        clear e4
        go_wp2_with (refine stop_load 25 (.tmp 4) rfl ?_)
        refine ⟨?_⟩
        refine wpList_load_row rfl 25 (.tmp 4) rfl (w.heap.size + 1) (by rfl) 25 _ (0, 0) _ hH Tryd.underlying25 rfl (Seal.size_hd h lh mh) ?_
        simp only [Act.put, List.setIfInBounds_toArray, List.set_cons_zero, List.set_cons_succ]
        go_wp2_with fail
        change Calls _ _ #[h.v] _ _
        refine (HeadBytes_calls h lh mh _).mono ?_; rw [Oh.out, Eh.out]; rintro e v5 ⟨rfl, e6⟩
        replace hF := hF.ext e6
        replace hH := hH.ext e6
        replace hT := hT.ext e6
        replace hE := hE.trans e6
        clear e6
        go_wp2_with (refine stop_load 29 (.tmp 5) rfl ?_)
        refine ⟨?_⟩
        refine wpList_load_row rfl 29 (.tmp 5) rfl (w.heap.size + 2) (by rfl) 29 _ (0, 0) _ hT Tryd.underlying29 rfl (Seal.size_st t lt mt) ?_
        simp only [Act.put, List.setIfInBounds_toArray, List.set_cons_zero, List.set_cons_succ]
        go_wp2_with fail
        change Calls _ _ #[t.v] _ _
        refine (StoneBytes_calls t lt mt _).mono ?_; rw [Ot.out, Et.out]; rintro e v7 ⟨rfl, e8⟩
        replace hF := hF.ext e8
        replace hH := hH.ext e8
        replace hT := hT.ext e8
        replace hE := hE.trans e8
        clear e8
        go_wp2_with fail
        refine (ReadHead_calls f.bytes (by have := Seal.Fz.bytes_length f lf; omega) _).mono ?_; rw [kf.out]; rintro e v9 ⟨rfl, e10⟩
        replace hF := hF.ext e10
        replace hH := hH.ext e10
        replace hT := hT.ext e10
        replace hE := hE.trans e10
        clear e10
        simp only [Option.getD_none, show Seal.errOf (none : Option Hd) = 10 from rfl]
        unfold Seal.Hd.v
        go_wp2_with (refine stop_store 25 (.tmp 14) (.tmp 56) rfl ?_)
        refine ⟨?_⟩
        change wpList _ _ _ _ _ (v9.alloc (.cells (⟨0, List.replicate 32 0, 0, List.replicate 32 0⟩ : Hd).cells.toArray 25))
        have hA0 := Blk.new v9 25 (⟨0, List.replicate 32 0, 0, List.replicate 32 0⟩ : Hd).cells.toArray
        have e12a := (Ext.refl v9).alloc (.cells (⟨0, List.replicate 32 0, 0, List.replicate 32 0⟩ : Hd).cells.toArray 25)
        have g13l : v9.heap.size < (v9.alloc (.cells (⟨0, List.replicate 32 0, 0, List.replicate 32 0⟩ : Hd).cells.toArray 25)).heap.size := Blk.lt hA0
        obtain ⟨g13, g13e⟩ : ∃ g13, g13 = v9.heap.size := ⟨_, rfl⟩
        have g13b : v9.heap.size ≤ g13 := by omega
        rw [← g13e] at hA0 g13l
        try rw [← g13e]
        generalize v9.alloc (.cells (⟨0, List.replicate 32 0, 0, List.replicate 32 0⟩ : Hd).cells.toArray 25) = v11' at *
        refine wpList_store_row rfl 25 (.tmp 14) (.tmp 56) rfl g13 Seal.zH.cells.toArray (by rfl) (by rfl) 25 _ hA0 (Seal.size_hd Seal.zH (by rfl) (by rfl)) (by simp only [List.size_toArray]; rw [Seal.Hd.cells_length Seal.zH (by rfl) (by rfl)]; rfl) (all_oneCell_toArray (Seal.Hd.one Seal.zH)) ?_
        simp only [Act.put, List.setIfInBounds_toArray, List.set_cons_zero, List.set_cons_succ]
        have hA : HdAt (v11'.setRow g13 Seal.zH.cells.toArray) g13 Seal.zH := Blk.row hA0 _
        have e12 : Ext v9 (v11'.setRow g13 Seal.zH.cells.toArray) := e12a.row g13b _
        clear hA0 e12a g13l
        generalize v11'.setRow g13 Seal.zH.cells.toArray = v11 at *
        clear v11' g13e
        replace hF := hF.ext e12
        replace hH := hH.ext e12
        replace hT := hT.ext e12
        replace hE := hE.trans e12
        clear e12
        go_wp2_with fail
        refine (ReadStone_calls f.bytes (by have := Seal.Fz.bytes_length f lf; omega) _).mono ?_; rw [kf2.out]; rintro e v14 ⟨rfl, e15⟩
        replace hF := hF.ext e15
        replace hH := hH.ext e15
        replace hT := hT.ext e15
        replace hA := hA.ext e15
        replace hE := hE.trans e15
        clear e15
        simp only [Option.getD_none, show Seal.errOf (none : Option St) = 10 from rfl]
        unfold Seal.St.v
        go_wp2_with (refine stop_store 29 (.tmp 16) (.tmp 61) rfl ?_)
        refine ⟨?_⟩
        change wpList _ _ _ _ _ (v14.alloc (.cells (⟨⟨0, 0, List.replicate 32 0⟩, 0, List.replicate 32 0⟩ : St).cells.toArray 29))
        have hB0 := Blk.new v14 29 (⟨⟨0, 0, List.replicate 32 0⟩, 0, List.replicate 32 0⟩ : St).cells.toArray
        have e17a := (Ext.refl v14).alloc (.cells (⟨⟨0, 0, List.replicate 32 0⟩, 0, List.replicate 32 0⟩ : St).cells.toArray 29)
        have g18l : v14.heap.size < (v14.alloc (.cells (⟨⟨0, 0, List.replicate 32 0⟩, 0, List.replicate 32 0⟩ : St).cells.toArray 29)).heap.size := Blk.lt hB0
        obtain ⟨g18, g18e⟩ : ∃ g18, g18 = v14.heap.size := ⟨_, rfl⟩
        have g18b : v14.heap.size ≤ g18 := by omega
        rw [← g18e] at hB0 g18l
        try rw [← g18e]
        generalize v14.alloc (.cells (⟨⟨0, 0, List.replicate 32 0⟩, 0, List.replicate 32 0⟩ : St).cells.toArray 29) = v16' at *
        refine wpList_store_row rfl 29 (.tmp 16) (.tmp 61) rfl g18 Seal.zS.cells.toArray (by rfl) (by rfl) 29 _ hB0 (Seal.size_st Seal.zS (by rfl) (by rfl)) (by simp only [List.size_toArray]; rw [Seal.St.cells_length Seal.zS (by rfl) (by rfl)]; rfl) (all_oneCell_toArray (Seal.St.one Seal.zS)) ?_
        simp only [Act.put, List.setIfInBounds_toArray, List.set_cons_zero, List.set_cons_succ]
        have hB : StAt (v16'.setRow g18 Seal.zS.cells.toArray) g18 Seal.zS := Blk.row hB0 _
        have e17 : Ext v14 (v16'.setRow g18 Seal.zS.cells.toArray) := e17a.row g18b _
        clear hB0 e17a g18l
        generalize v16'.setRow g18 Seal.zS.cells.toArray = v16 at *
        clear v16' g18e
        replace hF := hF.ext e17
        replace hH := hH.ext e17
        replace hT := hT.ext e17
        replace hA := hA.ext e17
        replace hE := hE.trans e17
        clear e17
        go_wp2_with fail
        refine (ReadFreeze_calls h.bytes (by have := Seal.Hd.says_length h lh; have := Seal.text_le h.mac; unfold Seal.Hd.bytes; rw [List.length_append]; omega) _).mono ?_; rw [kh.out]; rintro e v19 ⟨rfl, e20⟩
        replace hF := hF.ext e20
        replace hH := hH.ext e20
        replace hT := hT.ext e20
        replace hA := hA.ext e20
        replace hB := hB.ext e20
        replace hE := hE.trans e20
        clear e20
        simp only [Option.getD_none, show Seal.errOf (none : Option Fz) = 10 from rfl]
        unfold Seal.Fz.v
        go_wp2_with (refine stop_store 27 (.tmp 18) (.tmp 66) rfl ?_)
        refine ⟨?_⟩
        change wpList _ _ _ _ _ (v19.alloc (.cells (⟨0, 0, List.replicate 32 0⟩ : Fz).cells.toArray 27))
        have hC0 := Blk.new v19 27 (⟨0, 0, List.replicate 32 0⟩ : Fz).cells.toArray
        have e22a := (Ext.refl v19).alloc (.cells (⟨0, 0, List.replicate 32 0⟩ : Fz).cells.toArray 27)
        have g23l : v19.heap.size < (v19.alloc (.cells (⟨0, 0, List.replicate 32 0⟩ : Fz).cells.toArray 27)).heap.size := Blk.lt hC0
        obtain ⟨g23, g23e⟩ : ∃ g23, g23 = v19.heap.size := ⟨_, rfl⟩
        have g23b : v19.heap.size ≤ g23 := by omega
        rw [← g23e] at hC0 g23l
        try rw [← g23e]
        generalize v19.alloc (.cells (⟨0, 0, List.replicate 32 0⟩ : Fz).cells.toArray 27) = v21' at *
        refine wpList_store_row rfl 27 (.tmp 18) (.tmp 66) rfl g23 Seal.zF.cells.toArray (by rfl) (by rfl) 27 _ hC0 (Seal.size_fz Seal.zF (by rfl)) (by simp only [List.size_toArray]; rw [Seal.Fz.cells_length Seal.zF (by rfl)]; rfl) (all_oneCell_toArray (Seal.Fz.one Seal.zF)) ?_
        simp only [Act.put, List.setIfInBounds_toArray, List.set_cons_zero, List.set_cons_succ]
        have hC : FzAt (v21'.setRow g23 Seal.zF.cells.toArray) g23 Seal.zF := Blk.row hC0 _
        have e22 : Ext v19 (v21'.setRow g23 Seal.zF.cells.toArray) := e22a.row g23b _
        clear hC0 e22a g23l
        generalize v21'.setRow g23 Seal.zF.cells.toArray = v21 at *
        clear v21' g23e
        replace hF := hF.ext e22
        replace hH := hH.ext e22
        replace hT := hT.ext e22
        replace hA := hA.ext e22
        replace hB := hB.ext e22
        replace hE := hE.trans e22
        clear e22
        go_wp2_with fail
        refine (ReadStone_calls h.bytes (by have := Seal.Hd.says_length h lh; have := Seal.text_le h.mac; unfold Seal.Hd.bytes; rw [List.length_append]; omega) _).mono ?_; rw [kh2.out]; rintro e v24 ⟨rfl, e25⟩
        replace hF := hF.ext e25
        replace hH := hH.ext e25
        replace hT := hT.ext e25
        replace hA := hA.ext e25
        replace hB := hB.ext e25
        replace hC := hC.ext e25
        replace hE := hE.trans e25
        clear e25
        simp only [Option.getD_none, show Seal.errOf (none : Option St) = 10 from rfl]
        unfold Seal.St.v
        go_wp2_with (refine stop_store 29 (.tmp 20) (.tmp 71) rfl ?_)
        refine ⟨?_⟩
        change wpList _ _ _ _ _ (v24.alloc (.cells (⟨⟨0, 0, List.replicate 32 0⟩, 0, List.replicate 32 0⟩ : St).cells.toArray 29))
        have hD0 := Blk.new v24 29 (⟨⟨0, 0, List.replicate 32 0⟩, 0, List.replicate 32 0⟩ : St).cells.toArray
        have e27a := (Ext.refl v24).alloc (.cells (⟨⟨0, 0, List.replicate 32 0⟩, 0, List.replicate 32 0⟩ : St).cells.toArray 29)
        have g28l : v24.heap.size < (v24.alloc (.cells (⟨⟨0, 0, List.replicate 32 0⟩, 0, List.replicate 32 0⟩ : St).cells.toArray 29)).heap.size := Blk.lt hD0
        obtain ⟨g28, g28e⟩ : ∃ g28, g28 = v24.heap.size := ⟨_, rfl⟩
        have g28b : v24.heap.size ≤ g28 := by omega
        rw [← g28e] at hD0 g28l
        try rw [← g28e]
        generalize v24.alloc (.cells (⟨⟨0, 0, List.replicate 32 0⟩, 0, List.replicate 32 0⟩ : St).cells.toArray 29) = v26' at *
        refine wpList_store_row rfl 29 (.tmp 20) (.tmp 71) rfl g28 Seal.zS.cells.toArray (by rfl) (by rfl) 29 _ hD0 (Seal.size_st Seal.zS (by rfl) (by rfl)) (by simp only [List.size_toArray]; rw [Seal.St.cells_length Seal.zS (by rfl) (by rfl)]; rfl) (all_oneCell_toArray (Seal.St.one Seal.zS)) ?_
        simp only [Act.put, List.setIfInBounds_toArray, List.set_cons_zero, List.set_cons_succ]
        have hD : StAt (v26'.setRow g28 Seal.zS.cells.toArray) g28 Seal.zS := Blk.row hD0 _
        have e27 : Ext v24 (v26'.setRow g28 Seal.zS.cells.toArray) := e27a.row g28b _
        clear hD0 e27a g28l
        generalize v26'.setRow g28 Seal.zS.cells.toArray = v26 at *
        clear v26' g28e
        replace hF := hF.ext e27
        replace hH := hH.ext e27
        replace hT := hT.ext e27
        replace hA := hA.ext e27
        replace hB := hB.ext e27
        replace hC := hC.ext e27
        replace hE := hE.trans e27
        clear e27
        go_wp2_with fail
        refine (ReadFreeze_calls t.bytes (by have := Seal.St.says_length t lt; have := Seal.text_le t.mac; unfold Seal.St.bytes; rw [List.length_append]; omega) _).mono ?_; rw [kt.out]; rintro e v29 ⟨rfl, e30⟩
        replace hF := hF.ext e30
        replace hH := hH.ext e30
        replace hT := hT.ext e30
        replace hA := hA.ext e30
        replace hB := hB.ext e30
        replace hC := hC.ext e30
        replace hD := hD.ext e30
        replace hE := hE.trans e30
        clear e30
        simp only [Option.getD_none, show Seal.errOf (none : Option Fz) = 10 from rfl]
        unfold Seal.Fz.v
        go_wp2_with (refine stop_store 27 (.tmp 22) (.tmp 76) rfl ?_)
        refine ⟨?_⟩
        change wpList _ _ _ _ _ (v29.alloc (.cells (⟨0, 0, List.replicate 32 0⟩ : Fz).cells.toArray 27))
        have hG0 := Blk.new v29 27 (⟨0, 0, List.replicate 32 0⟩ : Fz).cells.toArray
        have e32a := (Ext.refl v29).alloc (.cells (⟨0, 0, List.replicate 32 0⟩ : Fz).cells.toArray 27)
        have g33l : v29.heap.size < (v29.alloc (.cells (⟨0, 0, List.replicate 32 0⟩ : Fz).cells.toArray 27)).heap.size := Blk.lt hG0
        obtain ⟨g33, g33e⟩ : ∃ g33, g33 = v29.heap.size := ⟨_, rfl⟩
        have g33b : v29.heap.size ≤ g33 := by omega
        rw [← g33e] at hG0 g33l
        try rw [← g33e]
        generalize v29.alloc (.cells (⟨0, 0, List.replicate 32 0⟩ : Fz).cells.toArray 27) = v31' at *
        refine wpList_store_row rfl 27 (.tmp 22) (.tmp 76) rfl g33 Seal.zF.cells.toArray (by rfl) (by rfl) 27 _ hG0 (Seal.size_fz Seal.zF (by rfl)) (by simp only [List.size_toArray]; rw [Seal.Fz.cells_length Seal.zF (by rfl)]; rfl) (all_oneCell_toArray (Seal.Fz.one Seal.zF)) ?_
        simp only [Act.put, List.setIfInBounds_toArray, List.set_cons_zero, List.set_cons_succ]
        have hG : FzAt (v31'.setRow g33 Seal.zF.cells.toArray) g33 Seal.zF := Blk.row hG0 _
        have e32 : Ext v29 (v31'.setRow g33 Seal.zF.cells.toArray) := e32a.row g33b _
        clear hG0 e32a g33l
        generalize v31'.setRow g33 Seal.zF.cells.toArray = v31 at *
        clear v31' g33e
        replace hF := hF.ext e32
        replace hH := hH.ext e32
        replace hT := hT.ext e32
        replace hA := hA.ext e32
        replace hB := hB.ext e32
        replace hC := hC.ext e32
        replace hD := hD.ext e32
        replace hE := hE.trans e32
        clear e32
        go_wp2_with fail
        refine (ReadHead_calls t.bytes (by have := Seal.St.says_length t lt; have := Seal.text_le t.mac; unfold Seal.St.bytes; rw [List.length_append]; omega) _).mono ?_; rw [kt2.out]; rintro e v34 ⟨rfl, e35⟩
        replace hF := hF.ext e35
        replace hH := hH.ext e35
        replace hT := hT.ext e35
        replace hA := hA.ext e35
        replace hB := hB.ext e35
        replace hC := hC.ext e35
        replace hD := hD.ext e35
        replace hG := hG.ext e35
        replace hE := hE.trans e35
        clear e35
        simp only [Option.getD_none, show Seal.errOf (none : Option Hd) = 10 from rfl]
        unfold Seal.Hd.v
        go_wp2_with (refine stop_store 25 (.tmp 24) (.tmp 81) rfl ?_)
        refine ⟨?_⟩
        change wpList _ _ _ _ _ (v34.alloc (.cells (⟨0, List.replicate 32 0, 0, List.replicate 32 0⟩ : Hd).cells.toArray 25))
        have hI0 := Blk.new v34 25 (⟨0, List.replicate 32 0, 0, List.replicate 32 0⟩ : Hd).cells.toArray
        have e37a := (Ext.refl v34).alloc (.cells (⟨0, List.replicate 32 0, 0, List.replicate 32 0⟩ : Hd).cells.toArray 25)
        have g38l : v34.heap.size < (v34.alloc (.cells (⟨0, List.replicate 32 0, 0, List.replicate 32 0⟩ : Hd).cells.toArray 25)).heap.size := Blk.lt hI0
        obtain ⟨g38, g38e⟩ : ∃ g38, g38 = v34.heap.size := ⟨_, rfl⟩
        have g38b : v34.heap.size ≤ g38 := by omega
        rw [← g38e] at hI0 g38l
        try rw [← g38e]
        generalize v34.alloc (.cells (⟨0, List.replicate 32 0, 0, List.replicate 32 0⟩ : Hd).cells.toArray 25) = v36' at *
        refine wpList_store_row rfl 25 (.tmp 24) (.tmp 81) rfl g38 Seal.zH.cells.toArray (by rfl) (by rfl) 25 _ hI0 (Seal.size_hd Seal.zH (by rfl) (by rfl)) (by simp only [List.size_toArray]; rw [Seal.Hd.cells_length Seal.zH (by rfl) (by rfl)]; rfl) (all_oneCell_toArray (Seal.Hd.one Seal.zH)) ?_
        simp only [Act.put, List.setIfInBounds_toArray, List.set_cons_zero, List.set_cons_succ]
        have hI : HdAt (v36'.setRow g38 Seal.zH.cells.toArray) g38 Seal.zH := Blk.row hI0 _
        have e37 : Ext v34 (v36'.setRow g38 Seal.zH.cells.toArray) := e37a.row g38b _
        clear hI0 e37a g38l
        generalize v36'.setRow g38 Seal.zH.cells.toArray = v36 at *
        clear v36' g38e
        replace hF := hF.ext e37
        replace hH := hH.ext e37
        replace hT := hT.ext e37
        replace hA := hA.ext e37
        replace hB := hB.ext e37
        replace hC := hC.ext e37
        replace hD := hD.ext e37
        replace hG := hG.ext e37
        replace hE := hE.trans e37
        clear e37
        go_wp2_with fail
        go_ret
        exact ⟨rfl, hE⟩
      · skip
        obtain ⟨of, ef⟩ := Seal.Fz.out_ok f mf
        obtain ⟨-, oh, eh⟩ := Seal.Hd.out_ok h mh
        obtain ⟨-, ot, et⟩ := Seal.St.out_no t mt
        have Of := Lib.hid of; have Ef := Lib.hid ef; have Oh := Lib.hid oh; have Eh := Lib.hid eh; have Ot := Lib.hid ot; have Et := Lib.hid et
        clear of ef oh eh ot et mf mh mt
        unfold Seal.Fz.v Seal.Hd.v Seal.St.v
        go_enter Tryd.func7, Tryd.ntmps7
        go_wp2_with fail
        change Calls _ _ _ (((w.alloc (.cells f.cells.toArray 27)).alloc (.cells h.cells.toArray 25)).alloc (.cells t.cells.toArray 29)) _
        generalize (((w.alloc (.cells f.cells.toArray 27)).alloc (.cells h.cells.toArray 25)).alloc (.cells t.cells.toArray 29)) = w0 at *
        refine (awake16_calls _ (KW.ext hE)).mono ?_; rintro e v1 ⟨rfl, e2⟩
        replace hF := hF.ext e2
        replace hH := hH.ext e2
        replace hT := hT.ext e2
        replace hE := hE.trans e2
        clear e2
        go_wp2_with (refine stop_load 27 (.tmp 3) rfl ?_)
        refine ⟨?_⟩
        refine wpList_load_row rfl 27 (.tmp 3) rfl w.heap.size (by rfl) 27 _ (0, 0) _ hF Tryd.underlying27 rfl (Seal.size_fz f lf) ?_
        simp only [Act.put, List.setIfInBounds_toArray, List.set_cons_zero, List.set_cons_succ]
        go_wp2_with fail
        change Calls _ _ #[f.v] _ _
        refine (FreezeBytes_calls f lf _).mono ?_; rw [Of.out, Ef.out]; rintro e v3 ⟨rfl, e4⟩
        replace hF := hF.ext e4
        replace hH := hH.ext e4
        replace hT := hT.ext e4
        replace hE := hE.trans e4
        clear e4
        go_wp2_with (refine stop_load 25 (.tmp 4) rfl ?_)
        refine ⟨?_⟩
        refine wpList_load_row rfl 25 (.tmp 4) rfl (w.heap.size + 1) (by rfl) 25 _ (0, 0) _ hH Tryd.underlying25 rfl (Seal.size_hd h lh mh) ?_
        simp only [Act.put, List.setIfInBounds_toArray, List.set_cons_zero, List.set_cons_succ]
        go_wp2_with fail
        change Calls _ _ #[h.v] _ _
        refine (HeadBytes_calls h lh mh _).mono ?_; rw [Oh.out, Eh.out]; rintro e v5 ⟨rfl, e6⟩
        replace hF := hF.ext e6
        replace hH := hH.ext e6
        replace hT := hT.ext e6
        replace hE := hE.trans e6
        clear e6
        go_wp2_with (refine stop_load 29 (.tmp 5) rfl ?_)
        refine ⟨?_⟩
        refine wpList_load_row rfl 29 (.tmp 5) rfl (w.heap.size + 2) (by rfl) 29 _ (0, 0) _ hT Tryd.underlying29 rfl (Seal.size_st t lt mt) ?_
        simp only [Act.put, List.setIfInBounds_toArray, List.set_cons_zero, List.set_cons_succ]
        go_wp2_with fail
        change Calls _ _ #[t.v] _ _
        refine (StoneBytes_calls t lt mt _).mono ?_; rw [Ot.out, Et.out]; rintro e v7 ⟨rfl, e8⟩
        replace hF := hF.ext e8
        replace hH := hH.ext e8
        replace hT := hT.ext e8
        replace hE := hE.trans e8
        clear e8
        go_wp2_with fail
        go_ret
        exact ⟨rfl, hE⟩
    · by_cases mt : t.may
      · skip
        obtain ⟨of, ef⟩ := Seal.Fz.out_ok f mf
        obtain ⟨-, oh, eh⟩ := Seal.Hd.out_no h mh
        obtain ⟨-, ot, et⟩ := Seal.St.out_ok t mt
        have Of := Lib.hid of; have Ef := Lib.hid ef; have Oh := Lib.hid oh; have Eh := Lib.hid eh; have Ot := Lib.hid ot; have Et := Lib.hid et
        clear of ef oh eh ot et mf mh mt
        unfold Seal.Fz.v Seal.Hd.v Seal.St.v
        go_enter Tryd.func7, Tryd.ntmps7
        go_wp2_with fail
        change Calls _ _ _ (((w.alloc (.cells f.cells.toArray 27)).alloc (.cells h.cells.toArray 25)).alloc (.cells t.cells.toArray 29)) _
        generalize (((w.alloc (.cells f.cells.toArray 27)).alloc (.cells h.cells.toArray 25)).alloc (.cells t.cells.toArray 29)) = w0 at *
        refine (awake16_calls _ (KW.ext hE)).mono ?_; rintro e v1 ⟨rfl, e2⟩
        replace hF := hF.ext e2
        replace hH := hH.ext e2
        replace hT := hT.ext e2
        replace hE := hE.trans e2
        clear e2
        go_wp2_with (refine stop_load 27 (.tmp 3) rfl ?_)
        refine ⟨?_⟩
        refine wpList_load_row rfl 27 (.tmp 3) rfl w.heap.size (by rfl) 27 _ (0, 0) _ hF Tryd.underlying27 rfl (Seal.size_fz f lf) ?_
        simp only [Act.put, List.setIfInBounds_toArray, List.set_cons_zero, List.set_cons_succ]
        go_wp2_with fail
        change Calls _ _ #[f.v] _ _
        refine (FreezeBytes_calls f lf _).mono ?_; rw [Of.out, Ef.out]; rintro e v3 ⟨rfl, e4⟩
        replace hF := hF.ext e4
        replace hH := hH.ext e4
        replace hT := hT.ext e4
        replace hE := hE.trans e4
        clear e4
        go_wp2_with (refine stop_load 25 (.tmp 4) rfl ?_)
        refine ⟨?_⟩
        refine wpList_load_row rfl 25 (.tmp 4) rfl (w.heap.size + 1) (by rfl) 25 _ (0, 0) _ hH Tryd.underlying25 rfl (Seal.size_hd h lh mh) ?_
        simp only [Act.put, List.setIfInBounds_toArray, List.set_cons_zero, List.set_cons_succ]
        go_wp2_with fail
        change Calls _ _ #[h.v] _ _
        refine (HeadBytes_calls h lh mh _).mono ?_; rw [Oh.out, Eh.out]; rintro e v5 ⟨rfl, e6⟩
        replace hF := hF.ext e6
        replace hH := hH.ext e6
        replace hT := hT.ext e6
        replace hE := hE.trans e6
        clear e6
        go_wp2_with (refine stop_load 29 (.tmp 5) rfl ?_)
        refine ⟨?_⟩
        refine wpList_load_row rfl 29 (.tmp 5) rfl (w.heap.size + 2) (by rfl) 29 _ (0, 0) _ hT Tryd.underlying29 rfl (Seal.size_st t lt mt) ?_
        simp only [Act.put, List.setIfInBounds_toArray, List.set_cons_zero, List.set_cons_succ]
        go_wp2_with fail
        change Calls _ _ #[t.v] _ _
        refine (StoneBytes_calls t lt mt _).mono ?_; rw [Ot.out, Et.out]; rintro e v7 ⟨rfl, e8⟩
        replace hF := hF.ext e8
        replace hH := hH.ext e8
        replace hT := hT.ext e8
        replace hE := hE.trans e8
        clear e8
        go_wp2_with fail
        go_ret
        exact ⟨rfl, hE⟩
      · skip
        obtain ⟨of, ef⟩ := Seal.Fz.out_ok f mf
        obtain ⟨-, oh, eh⟩ := Seal.Hd.out_no h mh
        obtain ⟨-, ot, et⟩ := Seal.St.out_no t mt
        have Of := Lib.hid of; have Ef := Lib.hid ef; have Oh := Lib.hid oh; have Eh := Lib.hid eh; have Ot := Lib.hid ot; have Et := Lib.hid et
        clear of ef oh eh ot et mf mh mt
        unfold Seal.Fz.v Seal.Hd.v Seal.St.v
        go_enter Tryd.func7, Tryd.ntmps7
        go_wp2_with fail
        change Calls _ _ _ (((w.alloc (.cells f.cells.toArray 27)).alloc (.cells h.cells.toArray 25)).alloc (.cells t.cells.toArray 29)) _
        generalize (((w.alloc (.cells f.cells.toArray 27)).alloc (.cells h.cells.toArray 25)).alloc (.cells t.cells.toArray 29)) = w0 at *
        refine (awake16_calls _ (KW.ext hE)).mono ?_; rintro e v1 ⟨rfl, e2⟩
        replace hF := hF.ext e2
        replace hH := hH.ext e2
        replace hT := hT.ext e2
        replace hE := hE.trans e2
        clear e2
        go_wp2_with (refine stop_load 27 (.tmp 3) rfl ?_)
        refine ⟨?_⟩
        refine wpList_load_row rfl 27 (.tmp 3) rfl w.heap.size (by rfl) 27 _ (0, 0) _ hF Tryd.underlying27 rfl (Seal.size_fz f lf) ?_
        simp only [Act.put, List.setIfInBounds_toArray, List.set_cons_zero, List.set_cons_succ]
        go_wp2_with fail
        change Calls _ _ #[f.v] _ _
        refine (FreezeBytes_calls f lf _).mono ?_; rw [Of.out, Ef.out]; rintro e v3 ⟨rfl, e4⟩
        replace hF := hF.ext e4
        replace hH := hH.ext e4
        replace hT := hT.ext e4
        replace hE := hE.trans e4
        clear e4
        go_wp2_with (refine stop_load 25 (.tmp 4) rfl ?_)
        refine ⟨?_⟩
        refine wpList_load_row rfl 25 (.tmp 4) rfl (w.heap.size + 1) (by rfl) 25 _ (0, 0) _ hH Tryd.underlying25 rfl (Seal.size_hd h lh mh) ?_
        simp only [Act.put, List.setIfInBounds_toArray, List.set_cons_zero, List.set_cons_succ]
        go_wp2_with fail
        change Calls _ _ #[h.v] _ _
        refine (HeadBytes_calls h lh mh _).mono ?_; rw [Oh.out, Eh.out]; rintro e v5 ⟨rfl, e6⟩
        replace hF := hF.ext e6
        replace hH := hH.ext e6
        replace hT := hT.ext e6
        replace hE := hE.trans e6
        clear e6
        go_wp2_with (refine stop_load 29 (.tmp 5) rfl ?_)
        refine ⟨?_⟩
        refine wpList_load_row rfl 29 (.tmp 5) rfl (w.heap.size + 2) (by rfl) 29 _ (0, 0) _ hT Tryd.underlying29 rfl (Seal.size_st t lt mt) ?_
        simp only [Act.put, List.setIfInBounds_toArray, List.set_cons_zero, List.set_cons_succ]
        go_wp2_with fail
        change Calls _ _ #[t.v] _ _
        refine (StoneBytes_calls t lt mt _).mono ?_; rw [Ot.out, Et.out]; rintro e v7 ⟨rfl, e8⟩
        replace hF := hF.ext e8
        replace hH := hH.ext e8
        replace hT := hT.ext e8
        replace hE := hE.trans e8
        clear e8
        go_wp2_with fail
        go_ret
        exact ⟨rfl, hE⟩
  · by_cases mh : h.may
    · by_cases mt : t.may
      · skip
        obtain ⟨of, ef⟩ := Seal.Fz.out_no f mf
        obtain ⟨-, oh, eh⟩ := Seal.Hd.out_ok h mh
        obtain ⟨-, ot, et⟩ := Seal.St.out_ok t mt
        have Of := Lib.hid of; have Ef := Lib.hid ef; have Oh := Lib.hid oh; have Eh := Lib.hid eh; have Ot := Lib.hid ot; have Et := Lib.hid et
        clear of ef oh eh ot et mf mh mt
        unfold Seal.Fz.v Seal.Hd.v Seal.St.v
        go_enter Tryd.func7, Tryd.ntmps7
        go_wp2_with fail
        change Calls _ _ _ (((w.alloc (.cells f.cells.toArray 27)).alloc (.cells h.cells.toArray 25)).alloc (.cells t.cells.toArray 29)) _
        generalize (((w.alloc (.cells f.cells.toArray 27)).alloc (.cells h.cells.toArray 25)).alloc (.cells t.cells.toArray 29)) = w0 at *
        refine (awake16_calls _ (KW.ext hE)).mono ?_; rintro e v1 ⟨rfl, e2⟩
        replace hF := hF.ext e2
        replace hH := hH.ext e2
        replace hT := hT.ext e2
        replace hE := hE.trans e2
        clear e2
        go_wp2_with (refine stop_load 27 (.tmp 3) rfl ?_)
        refine ⟨?_⟩
        refine wpList_load_row rfl 27 (.tmp 3) rfl w.heap.size (by rfl) 27 _ (0, 0) _ hF Tryd.underlying27 rfl (Seal.size_fz f lf) ?_
        simp only [Act.put, List.setIfInBounds_toArray, List.set_cons_zero, List.set_cons_succ]
        go_wp2_with fail
        change Calls _ _ #[f.v] _ _
        refine (FreezeBytes_calls f lf _).mono ?_; rw [Of.out, Ef.out]; rintro e v3 ⟨rfl, e4⟩
        replace hF := hF.ext e4
        replace hH := hH.ext e4
        replace hT := hT.ext e4
        replace hE := hE.trans e4
        clear e4
        go_wp2_with (refine stop_load 25 (.tmp 4) rfl ?_)
        refine ⟨?_⟩
        refine wpList_load_row rfl 25 (.tmp 4) rfl (w.heap.size + 1) (by rfl) 25 _ (0, 0) _ hH Tryd.underlying25 rfl (Seal.size_hd h lh mh) ?_
        simp only [Act.put, List.setIfInBounds_toArray, List.set_cons_zero, List.set_cons_succ]
        go_wp2_with fail
        change Calls _ _ #[h.v] _ _
        refine (HeadBytes_calls h lh mh _).mono ?_; rw [Oh.out, Eh.out]; rintro e v5 ⟨rfl, e6⟩
        replace hF := hF.ext e6
        replace hH := hH.ext e6
        replace hT := hT.ext e6
        replace hE := hE.trans e6
        clear e6
        go_wp2_with (refine stop_load 29 (.tmp 5) rfl ?_)
        refine ⟨?_⟩
        refine wpList_load_row rfl 29 (.tmp 5) rfl (w.heap.size + 2) (by rfl) 29 _ (0, 0) _ hT Tryd.underlying29 rfl (Seal.size_st t lt mt) ?_
        simp only [Act.put, List.setIfInBounds_toArray, List.set_cons_zero, List.set_cons_succ]
        go_wp2_with fail
        change Calls _ _ #[t.v] _ _
        refine (StoneBytes_calls t lt mt _).mono ?_; rw [Ot.out, Et.out]; rintro e v7 ⟨rfl, e8⟩
        replace hF := hF.ext e8
        replace hH := hH.ext e8
        replace hT := hT.ext e8
        replace hE := hE.trans e8
        clear e8
        go_wp2_with fail
        go_ret
        exact ⟨rfl, hE⟩
      · skip
        obtain ⟨of, ef⟩ := Seal.Fz.out_no f mf
        obtain ⟨-, oh, eh⟩ := Seal.Hd.out_ok h mh
        obtain ⟨-, ot, et⟩ := Seal.St.out_no t mt
        have Of := Lib.hid of; have Ef := Lib.hid ef; have Oh := Lib.hid oh; have Eh := Lib.hid eh; have Ot := Lib.hid ot; have Et := Lib.hid et
        clear of ef oh eh ot et mf mh mt
        unfold Seal.Fz.v Seal.Hd.v Seal.St.v
        go_enter Tryd.func7, Tryd.ntmps7
        go_wp2_with fail
        change Calls _ _ _ (((w.alloc (.cells f.cells.toArray 27)).alloc (.cells h.cells.toArray 25)).alloc (.cells t.cells.toArray 29)) _
        generalize (((w.alloc (.cells f.cells.toArray 27)).alloc (.cells h.cells.toArray 25)).alloc (.cells t.cells.toArray 29)) = w0 at *
        refine (awake16_calls _ (KW.ext hE)).mono ?_; rintro e v1 ⟨rfl, e2⟩
        replace hF := hF.ext e2
        replace hH := hH.ext e2
        replace hT := hT.ext e2
        replace hE := hE.trans e2
        clear e2
        go_wp2_with (refine stop_load 27 (.tmp 3) rfl ?_)
        refine ⟨?_⟩
        refine wpList_load_row rfl 27 (.tmp 3) rfl w.heap.size (by rfl) 27 _ (0, 0) _ hF Tryd.underlying27 rfl (Seal.size_fz f lf) ?_
        simp only [Act.put, List.setIfInBounds_toArray, List.set_cons_zero, List.set_cons_succ]
        go_wp2_with fail
        change Calls _ _ #[f.v] _ _
        refine (FreezeBytes_calls f lf _).mono ?_; rw [Of.out, Ef.out]; rintro e v3 ⟨rfl, e4⟩
        replace hF := hF.ext e4
        replace hH := hH.ext e4
        replace hT := hT.ext e4
        replace hE := hE.trans e4
        clear e4
        go_wp2_with (refine stop_load 25 (.tmp 4) rfl ?_)
        refine ⟨?_⟩
        refine wpList_load_row rfl 25 (.tmp 4) rfl (w.heap.size + 1) (by rfl) 25 _ (0, 0) _ hH Tryd.underlying25 rfl (Seal.size_hd h lh mh) ?_
        simp only [Act.put, List.setIfInBounds_toArray, List.set_cons_zero, List.set_cons_succ]
        go_wp2_with fail
        change Calls _ _ #[h.v] _ _
        refine (HeadBytes_calls h lh mh _).mono ?_; rw [Oh.out, Eh.out]; rintro e v5 ⟨rfl, e6⟩
        replace hF := hF.ext e6
        replace hH := hH.ext e6
        replace hT := hT.ext e6
        replace hE := hE.trans e6
        clear e6
        go_wp2_with (refine stop_load 29 (.tmp 5) rfl ?_)
        refine ⟨?_⟩
        refine wpList_load_row rfl 29 (.tmp 5) rfl (w.heap.size + 2) (by rfl) 29 _ (0, 0) _ hT Tryd.underlying29 rfl (Seal.size_st t lt mt) ?_
        simp only [Act.put, List.setIfInBounds_toArray, List.set_cons_zero, List.set_cons_succ]
        go_wp2_with fail
        change Calls _ _ #[t.v] _ _
        refine (StoneBytes_calls t lt mt _).mono ?_; rw [Ot.out, Et.out]; rintro e v7 ⟨rfl, e8⟩
        replace hF := hF.ext e8
        replace hH := hH.ext e8
        replace hT := hT.ext e8
        replace hE := hE.trans e8
        clear e8
        go_wp2_with fail
        go_ret
        exact ⟨rfl, hE⟩
    · by_cases mt : t.may
      · skip
        obtain ⟨of, ef⟩ := Seal.Fz.out_no f mf
        obtain ⟨-, oh, eh⟩ := Seal.Hd.out_no h mh
        obtain ⟨-, ot, et⟩ := Seal.St.out_ok t mt
        have Of := Lib.hid of; have Ef := Lib.hid ef; have Oh := Lib.hid oh; have Eh := Lib.hid eh; have Ot := Lib.hid ot; have Et := Lib.hid et
        clear of ef oh eh ot et mf mh mt
        unfold Seal.Fz.v Seal.Hd.v Seal.St.v
        go_enter Tryd.func7, Tryd.ntmps7
        go_wp2_with fail
        change Calls _ _ _ (((w.alloc (.cells f.cells.toArray 27)).alloc (.cells h.cells.toArray 25)).alloc (.cells t.cells.toArray 29)) _
        generalize (((w.alloc (.cells f.cells.toArray 27)).alloc (.cells h.cells.toArray 25)).alloc (.cells t.cells.toArray 29)) = w0 at *
        refine (awake16_calls _ (KW.ext hE)).mono ?_; rintro e v1 ⟨rfl, e2⟩
        replace hF := hF.ext e2
        replace hH := hH.ext e2
        replace hT := hT.ext e2
        replace hE := hE.trans e2
        clear e2
        go_wp2_with (refine stop_load 27 (.tmp 3) rfl ?_)
        refine ⟨?_⟩
        refine wpList_load_row rfl 27 (.tmp 3) rfl w.heap.size (by rfl) 27 _ (0, 0) _ hF Tryd.underlying27 rfl (Seal.size_fz f lf) ?_
        simp only [Act.put, List.setIfInBounds_toArray, List.set_cons_zero, List.set_cons_succ]
        go_wp2_with fail
        change Calls _ _ #[f.v] _ _
        refine (FreezeBytes_calls f lf _).mono ?_; rw [Of.out, Ef.out]; rintro e v3 ⟨rfl, e4⟩
        replace hF := hF.ext e4
        replace hH := hH.ext e4
        replace hT := hT.ext e4
        replace hE := hE.trans e4
        clear e4
        go_wp2_with (refine stop_load 25 (.tmp 4) rfl ?_)
        refine ⟨?_⟩
        refine wpList_load_row rfl 25 (.tmp 4) rfl (w.heap.size + 1) (by rfl) 25 _ (0, 0) _ hH Tryd.underlying25 rfl (Seal.size_hd h lh mh) ?_
        simp only [Act.put, List.setIfInBounds_toArray, List.set_cons_zero, List.set_cons_succ]
        go_wp2_with fail
        change Calls _ _ #[h.v] _ _
        refine (HeadBytes_calls h lh mh _).mono ?_; rw [Oh.out, Eh.out]; rintro e v5 ⟨rfl, e6⟩
        replace hF := hF.ext e6
        replace hH := hH.ext e6
        replace hT := hT.ext e6
        replace hE := hE.trans e6
        clear e6
        go_wp2_with (refine stop_load 29 (.tmp 5) rfl ?_)
        refine ⟨?_⟩
        refine wpList_load_row rfl 29 (.tmp 5) rfl (w.heap.size + 2) (by rfl) 29 _ (0, 0) _ hT Tryd.underlying29 rfl (Seal.size_st t lt mt) ?_
        simp only [Act.put, List.setIfInBounds_toArray, List.set_cons_zero, List.set_cons_succ]
        go_wp2_with fail
        change Calls _ _ #[t.v] _ _
        refine (StoneBytes_calls t lt mt _).mono ?_; rw [Ot.out, Et.out]; rintro e v7 ⟨rfl, e8⟩
        replace hF := hF.ext e8
        replace hH := hH.ext e8
        replace hT := hT.ext e8
        replace hE := hE.trans e8
        clear e8
        go_wp2_with fail
        go_ret
        exact ⟨rfl, hE⟩
      · skip
        obtain ⟨of, ef⟩ := Seal.Fz.out_no f mf
        obtain ⟨-, oh, eh⟩ := Seal.Hd.out_no h mh
        obtain ⟨-, ot, et⟩ := Seal.St.out_no t mt
        have Of := Lib.hid of; have Ef := Lib.hid ef; have Oh := Lib.hid oh; have Eh := Lib.hid eh; have Ot := Lib.hid ot; have Et := Lib.hid et
        clear of ef oh eh ot et mf mh mt
        unfold Seal.Fz.v Seal.Hd.v Seal.St.v
        go_enter Tryd.func7, Tryd.ntmps7
        go_wp2_with fail
        change Calls _ _ _ (((w.alloc (.cells f.cells.toArray 27)).alloc (.cells h.cells.toArray 25)).alloc (.cells t.cells.toArray 29)) _
        generalize (((w.alloc (.cells f.cells.toArray 27)).alloc (.cells h.cells.toArray 25)).alloc (.cells t.cells.toArray 29)) = w0 at *
        refine (awake16_calls _ (KW.ext hE)).mono ?_; rintro e v1 ⟨rfl, e2⟩
        replace hF := hF.ext e2
        replace hH := hH.ext e2
        replace hT := hT.ext e2
        replace hE := hE.trans e2
        clear e2
        go_wp2_with (refine stop_load 27 (.tmp 3) rfl ?_)
        refine ⟨?_⟩
        refine wpList_load_row rfl 27 (.tmp 3) rfl w.heap.size (by rfl) 27 _ (0, 0) _ hF Tryd.underlying27 rfl (Seal.size_fz f lf) ?_
        simp only [Act.put, List.setIfInBounds_toArray, List.set_cons_zero, List.set_cons_succ]
        go_wp2_with fail
        change Calls _ _ #[f.v] _ _
        refine (FreezeBytes_calls f lf _).mono ?_; rw [Of.out, Ef.out]; rintro e v3 ⟨rfl, e4⟩
        replace hF := hF.ext e4
        replace hH := hH.ext e4
        replace hT := hT.ext e4
        replace hE := hE.trans e4
        clear e4
        go_wp2_with (refine stop_load 25 (.tmp 4) rfl ?_)
        refine ⟨?_⟩
        refine wpList_load_row rfl 25 (.tmp 4) rfl (w.heap.size + 1) (by rfl) 25 _ (0, 0) _ hH Tryd.underlying25 rfl (Seal.size_hd h lh mh) ?_
        simp only [Act.put, List.setIfInBounds_toArray, List.set_cons_zero, List.set_cons_succ]
        go_wp2_with fail
        change Calls _ _ #[h.v] _ _
        refine (HeadBytes_calls h lh mh _).mono ?_; rw [Oh.out, Eh.out]; rintro e v5 ⟨rfl, e6⟩
        replace hF := hF.ext e6
        replace hH := hH.ext e6
        replace hT := hT.ext e6
        replace hE := hE.trans e6
        clear e6
        go_wp2_with (refine stop_load 29 (.tmp 5) rfl ?_)
        refine ⟨?_⟩
        refine wpList_load_row rfl 29 (.tmp 5) rfl (w.heap.size + 2) (by rfl) 29 _ (0, 0) _ hT Tryd.underlying29 rfl (Seal.size_st t lt mt) ?_
        simp only [Act.put, List.setIfInBounds_toArray, List.set_cons_zero, List.set_cons_succ]
        go_wp2_with fail
        change Calls _ _ #[t.v] _ _
        refine (StoneBytes_calls t lt mt _).mono ?_; rw [Ot.out, Et.out]; rintro e v7 ⟨rfl, e8⟩
        replace hF := hF.ext e8
        replace hH := hH.ext e8
        replace hT := hT.ext e8
        replace hE := hE.trans e8
        clear e8
        go_wp2_with fail
        go_ret
        exact ⟨rfl, hE⟩

set_option maxRecDepth 100000 in
theorem contract (H : Type) (enc : TypeId × Value → H) (W : World) (base : Nat) (args : Array Value) (ds gs : List (DataW H)) (before : List MemPlace)
    (hval0 : ∀ (j : Nat) t v, Tryd.f7.params[j]? = some t → args[j]? = some v → Value.okWide Tryd.prog W .any base t v)
    (hW : DataW.Whole enc Tryd.prog Tryd.f7.params.toList Rows.sealKindsSpec.vars false W args.toList ds gs before) (hL : laidMetH Tryd.prog Rows.sealKindsRow.laid W) :
    Calls Tryd.prog 7 args W fun e W' => ∃ v, e = .returned v ∧ Rows.sealKindsSpec.post enc Tryd.prog Tryd.f7 false true false false W args v W' := by
  have K : Keys W := keys_of hL
  have hval : ∀ (j : Nat) t v, Tryd.f7.params[j]? = some t → args[j]? = some v → Value.okWide Tryd.prog W .any base t v := hval0
  have hW' := hW
  obtain ⟨p, q, hA0, hV, rfl, hfz, hnd⟩ := hW
  have hA : DataW.TrodAll enc Tryd.prog W 0 (fun _ => true) true Tryd.f7.params.toList args.toList ds p := hA0
  rw [Tryd.params7] at hA hval
  obtain ⟨v0, vs0, d0, ds0, p0, q0, hargs, rfl, rfl, hx0, r0⟩ := trodAll_cons hA
  obtain ⟨v1, vs1, d1, ds1, p1, q1, rfl, rfl, rfl, hx1, r1⟩ := trodAll_cons r0
  obtain ⟨v2, vs2, d2, ds2, p2, q2, rfl, rfl, rfl, hx2, r2⟩ := trodAll_cons r1
  obtain ⟨rfl, rfl, rfl⟩ := trodAll_nil r2
  obtain rfl : args = #[v0, v1, v2] := by cases args; simp_all
  obtain ⟨rfl, rfl⟩ := trodVars_none hV
  obtain ⟨f, rfl, hf⟩ := op_fz (hval 0 27 v0 rfl rfl) (tr_of hx0)
  obtain ⟨h, rfl, hh⟩ := op_hd (hval 1 25 v1 rfl rfl) (tr_of hx1)
  obtain ⟨t, rfl, ht⟩ := op_st (hval 2 29 v2 rfl rfl) (tr_of hx2)
  refine (walk f h t hf hh ht W K).mono fun e W' ⟨he, hg⟩ => ?_
  subst he
  exact ⟨_, rfl, law_post hW' rfl rfl (by kernel_rfl) rfl rfl rfl hg⟩

theorem laid_met (os : Os) : laidMet Tryd.prog Rows.sealKindsRow.laid ((keysWorld os).forCall (fun _ _ => 0) ⟨#[], #[.agg (Array.mk (α := Value) ((Value.int IntKind.i64 0 :: Value.int IntKind.i64 0 :: List.replicate 32 (Value.int IntKind.u8 0)))), .agg (Array.mk (α := Value) ((Value.int IntKind.i64 0 :: (List.replicate 32 (Value.int IntKind.u8 0) ++ (Value.int IntKind.i64 0 :: List.replicate 32 (Value.int IntKind.u8 0)))))), .agg (Array.mk (α := Value) (((Value.int IntKind.i64 0 :: Value.int IntKind.i64 0 :: List.replicate 32 (Value.int IntKind.u8 0)) ++ (Value.int IntKind.i64 0 :: List.replicate 32 (Value.int IntKind.u8 0)))))], []⟩).memory :=
  laidMet_of_run' 8 (by kernel_rfl) (by kernel_rfl)
theorem reads (os : Os) {H : Type} (enc : TypeId × Value → H) : ∃ x, DataW.whole enc Tryd.prog ((keysWorld os).forCall (fun _ _ => 0) ⟨#[], #[.agg (Array.mk (α := Value) ((Value.int IntKind.i64 0 :: Value.int IntKind.i64 0 :: List.replicate 32 (Value.int IntKind.u8 0)))), .agg (Array.mk (α := Value) ((Value.int IntKind.i64 0 :: (List.replicate 32 (Value.int IntKind.u8 0) ++ (Value.int IntKind.i64 0 :: List.replicate 32 (Value.int IntKind.u8 0)))))), .agg (Array.mk (α := Value) (((Value.int IntKind.i64 0 :: Value.int IntKind.i64 0 :: List.replicate 32 (Value.int IntKind.u8 0)) ++ (Value.int IntKind.i64 0 :: List.replicate 32 (Value.int IntKind.u8 0)))))], []⟩).memory Tryd.f7.params.toList Rows.sealKindsSpec.vars false (#[.agg (Array.mk (α := Value) ((Value.int IntKind.i64 0 :: Value.int IntKind.i64 0 :: List.replicate 32 (Value.int IntKind.u8 0)))), .agg (Array.mk (α := Value) ((Value.int IntKind.i64 0 :: (List.replicate 32 (Value.int IntKind.u8 0) ++ (Value.int IntKind.i64 0 :: List.replicate 32 (Value.int IntKind.u8 0)))))), .agg (Array.mk (α := Value) (((Value.int IntKind.i64 0 :: Value.int IntKind.i64 0 :: List.replicate 32 (Value.int IntKind.u8 0)) ++ (Value.int IntKind.i64 0 :: List.replicate 32 (Value.int IntKind.u8 0)))))] : Array Value).toList 8 = some x :=
  Option.isSome_iff_exists.1 (by kernel_rfl)
set_option maxRecDepth 100000 in
theorem lifted (os : Os) (started : os.Started) (H : Type) (enc : TypeId × Value → H) (F : Stop.Interp) :
    ReturnsInHanded {} Tryd.checked os 7 .any ((OpenSpec.ofChange Rows.sealKindsSpec).preRow enc Tryd.prog Tryd.f7 Rows.sealKindsRow.domain false Rows.sealKindsRow.laid) (((OpenSpec.ofChange Rows.sealKindsSpec).at F).post enc Tryd.prog Tryd.f7 false true false false) := by
  obtain ⟨x, hx⟩ := reads os enc
  refine returnsInHanded_of_row (C := Tryd.checked) (s := OpenSpec.ofChange Rows.sealKindsSpec) own_ started (by kernel_rfl) Tryd.func7
    (witness_row_at (enc := enc) (C := Tryd.checked) false (keysWorld os) #[.agg (Array.mk (α := Value) ((Value.int IntKind.i64 0 :: Value.int IntKind.i64 0 :: List.replicate 32 (Value.int IntKind.u8 0)))), .agg (Array.mk (α := Value) ((Value.int IntKind.i64 0 :: (List.replicate 32 (Value.int IntKind.u8 0) ++ (Value.int IntKind.i64 0 :: List.replicate 32 (Value.int IntKind.u8 0)))))), .agg (Array.mk (α := Value) (((Value.int IntKind.i64 0 :: Value.int IntKind.i64 0 :: List.replicate 32 (Value.int IntKind.u8 0)) ++ (Value.int IntKind.i64 0 :: List.replicate 32 (Value.int IntKind.u8 0)))))] rfl (by kernel_rfl) (by kernel_rfl) (by kernel_rfl)
      (OpenSpec.preRow_of_cond 8 hx rfl (fun k hk => by cases hk) (by kernel_rfl) (laid_met os))) ?_
  intro W base args ds gs before hval hW _ _ _ hL _ _
  exact contract H enc W base args ds gs before hval hW hL

theorem said : Rows.SealKindsSaid :=
  OpenClaim.holds_of_cond 7 Tryd.f7 rfl rfl rfl rfl rfl rfl rfl ⟨rfl, rfl, rfl, rfl, rfl⟩ rfl rfl rfl rfl rfl (by kernel_rfl) Tryd.func7 (by kernel_rfl)
    (of_decide_eq_true (by kernel_rfl)) (by unfold Func.isWrapper; first | (rw [if_pos (by decide +kernel)]; kernel_rfl) | (rw [if_neg (by decide +kernel)]; exact ⟨rfl, rfl⟩))
    (fun os started H enc _ F => by rw [OpenClaim.pre_eq_preRow]; exact lifted os started H enc F)
theorem plain (f : FuncId) (fn : Func) (hf : Tryd.pinned.checked.prog.funcNamed "scrinium/scriniumlaw16.SealKinds" = some f) (hfn : Tryd.pinned.checked.prog.funcs[f]? = some fn) :
    false = Tryd.pinned.checked.prog.looks [] ∧ ∀ (j : Nat) t, fn.params[j]? = some t → Tryd.pinned.checked.prog.wantsStandIn t = false := by
  obtain rfl : f = 7 := Option.some.inj ((show Tryd.prog.funcNamed "scrinium/scriniumlaw16.SealKinds" = some 7 by kernel_rfl).symm.trans hf) |>.symm
  obtain rfl : fn = Tryd.f7 := (Option.some.inj (Tryd.func7.symm.trans hfn)).symm
  refine ⟨by kernel_rfl, fun j t ht => ?_⟩
  rw [Tryd.params7] at ht
  have hm : t ∈ ([27, 25, 29] : List TypeId) := by simpa using Array.mem_of_getElem? ht
  have hall : (([27, 25, 29] : List TypeId).all fun u => !Tryd.prog.wantsStandIn u) = true := by kernel_rfl
  exact (show Tryd.prog.wantsStandIn t = false by simpa using List.all_eq_true.1 hall t hm)
theorem proved : Rows.SealKindsCardSaid :=
  Claim7.holds_tied_plain_at .later [] _ _ _ _ said (fun _ h => by cases h) (by kernel_rfl) (fun _ h => by cases h) sealKinds_row_tie rfl ⟨rfl, rfl⟩ (by kernel_rfl) rfl plain (by kernel_rfl)

end Go.Proofs.YtcgnjdkennkheaaDoor.sealKinds
