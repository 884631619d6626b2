/-
  scriniumlaw16.SealOne: no condition.
-/
import Derived.Test.YtcgnjdkennkheaaDoorSealA
import Derived.Test.YtcgnjdkennkheaaDoorOpSeal
import Derived.Deep.DeepCutAuto
import Derived.Test.YtcgnjdkennkheaaDoorLaw
set_option linter.unusedVariables false
set_option maxRecDepth 100000
set_option linter.unusedSimpArgs false
namespace Go.Proofs.YtcgnjdkennkheaaDoor.sealOne
open Go.ChangeShapes Go.WideShapes Go.ChangeAt Go.RowKit
open Seal (Fz Hd St)
attribute [local go_sem] bs_size bs_toList2 bs_append bs_extract_end bs_extract_begin bs_get wrap64_b grow_cell grow_frozen

/-! ### The walk -/
set_option maxHeartbeats 16000000 in
theorem walk (f1 f2 : Fz) (h1 h2 : Hd) (t1 t2 : St) (ff1 : f1.fit) (ff2 : f2.fit) (fh1 : h1.fit) (fh2 : h2.fit) (ft1 : t1.fit) (ft2 : t2.fit) (w : World) (KW : Keys w) :
    Calls Tryd.prog 4 #[.agg (f1.cells ++ f2.cells).toArray, .agg (h1.cells ++ h2.cells).toArray, .agg (t1.cells ++ t2.cells).toArray] w fun e w' => e = .returned (.bool true) ∧ Ext w w' := by
  have hB0 : Blk (((w.alloc (.cells (f1.cells ++ f2.cells).toArray 37)).alloc (.cells (h1.cells ++ h2.cells).toArray 38)).alloc (.cells (t1.cells ++ t2.cells).toArray 39)) w.heap.size 37 (f1.cells ++ f2.cells).toArray := by
    have := Blk.new w 37 (f1.cells ++ f2.cells).toArray
    exact Blk.alloc (Blk.alloc (this) _) _
  have hB1 : Blk (((w.alloc (.cells (f1.cells ++ f2.cells).toArray 37)).alloc (.cells (h1.cells ++ h2.cells).toArray 38)).alloc (.cells (t1.cells ++ t2.cells).toArray 39)) (w.heap.size + 1) 38 (h1.cells ++ h2.cells).toArray := by
    have := Blk.new (w.alloc (.cells (f1.cells ++ f2.cells).toArray 37)) 38 (h1.cells ++ h2.cells).toArray
    rw [alloc_size] at this
    exact Blk.alloc (this) _
  have hB2 : Blk (((w.alloc (.cells (f1.cells ++ f2.cells).toArray 37)).alloc (.cells (h1.cells ++ h2.cells).toArray 38)).alloc (.cells (t1.cells ++ t2.cells).toArray 39)) (w.heap.size + 2) 39 (t1.cells ++ t2.cells).toArray := by
    have := Blk.new ((w.alloc (.cells (f1.cells ++ f2.cells).toArray 37)).alloc (.cells (h1.cells ++ h2.cells).toArray 38)) 39 (t1.cells ++ t2.cells).toArray
    rw [alloc_size, alloc_size] at this
    exact this
  have hE : Ext w (((w.alloc (.cells (f1.cells ++ f2.cells).toArray 37)).alloc (.cells (h1.cells ++ h2.cells).toArray 38)).alloc (.cells (t1.cells ++ t2.cells).toArray 39)) := (((Ext.refl w).alloc _).alloc _).alloc _
  obtain ⟨-, -, lf1⟩ := ff1
  obtain ⟨-, -, lf2⟩ := ff2
  obtain ⟨-, -, lh1, mh1⟩ := fh1
  obtain ⟨-, -, lh2, mh2⟩ := fh2
  obtain ⟨⟨-, -, lt1⟩, -, mt1⟩ := ft1
  obtain ⟨⟨-, -, lt2⟩, -, mt2⟩ := ft2
  have Of1 : (f1.may ∧ f1.outB = f1.bytes ∧ f1.outE = 0) ∨ (¬ f1.may ∧ f1.outB = [] ∧ f1.outE = 1) := by
    by_cases m : f1.may
    · exact .inl ⟨m, (Seal.Fz.out_ok _ m).1, (Seal.Fz.out_ok _ m).2⟩
    · exact .inr ⟨m, (Seal.Fz.out_no _ m).1, (Seal.Fz.out_no _ m).2⟩
  obtain ⟨sf1, hsf1⟩ : ∃ s, s = f1.outB := ⟨_, rfl⟩
  obtain ⟨ef1, hef1⟩ : ∃ e, e = f1.outE := ⟨_, rfl⟩
  rw [← hsf1, ← hef1] at Of1
  have Hsf1 := Lib.hid hsf1; have Hef1 := Lib.hid hef1; have Hf1 := Lib.hid Of1; clear hsf1 hef1 Of1
  have Of2 : (f2.may ∧ f2.outB = f2.bytes ∧ f2.outE = 0) ∨ (¬ f2.may ∧ f2.outB = [] ∧ f2.outE = 1) := by
    by_cases m : f2.may
    · exact .inl ⟨m, (Seal.Fz.out_ok _ m).1, (Seal.Fz.out_ok _ m).2⟩
    · exact .inr ⟨m, (Seal.Fz.out_no _ m).1, (Seal.Fz.out_no _ m).2⟩
  obtain ⟨sf2, hsf2⟩ : ∃ s, s = f2.outB := ⟨_, rfl⟩
  obtain ⟨ef2, hef2⟩ : ∃ e, e = f2.outE := ⟨_, rfl⟩
  rw [← hsf2, ← hef2] at Of2
  have Hsf2 := Lib.hid hsf2; have Hef2 := Lib.hid hef2; have Hf2 := Lib.hid Of2; clear hsf2 hef2 Of2
  have Oh1 : (h1.may ∧ h1.outB = h1.bytes ∧ h1.outE = 0) ∨ (¬ h1.may ∧ h1.outB = [] ∧ h1.outE = 1) := by
    by_cases m : h1.may
    · exact .inl ⟨m, (Seal.Hd.out_ok _ m).2.1, (Seal.Hd.out_ok _ m).2.2⟩
    · exact .inr ⟨m, (Seal.Hd.out_no _ m).2.1, (Seal.Hd.out_no _ m).2.2⟩
  obtain ⟨sh1, hsh1⟩ : ∃ s, s = h1.outB := ⟨_, rfl⟩
  obtain ⟨eh1, heh1⟩ : ∃ e, e = h1.outE := ⟨_, rfl⟩
  rw [← hsh1, ← heh1] at Oh1
  have Hsh1 := Lib.hid hsh1; have Heh1 := Lib.hid heh1; have Hh1 := Lib.hid Oh1; clear hsh1 heh1 Oh1
  have Oh2 : (h2.may ∧ h2.outB = h2.bytes ∧ h2.outE = 0) ∨ (¬ h2.may ∧ h2.outB = [] ∧ h2.outE = 1) := by
    by_cases m : h2.may
    · exact .inl ⟨m, (Seal.Hd.out_ok _ m).2.1, (Seal.Hd.out_ok _ m).2.2⟩
    · exact .inr ⟨m, (Seal.Hd.out_no _ m).2.1, (Seal.Hd.out_no _ m).2.2⟩
  obtain ⟨sh2, hsh2⟩ : ∃ s, s = h2.outB := ⟨_, rfl⟩
  obtain ⟨eh2, heh2⟩ : ∃ e, e = h2.outE := ⟨_, rfl⟩
  rw [← hsh2, ← heh2] at Oh2
  have Hsh2 := Lib.hid hsh2; have Heh2 := Lib.hid heh2; have Hh2 := Lib.hid Oh2; clear hsh2 heh2 Oh2
  have Ot1 : (t1.may ∧ t1.outB = t1.bytes ∧ t1.outE = 0) ∨ (¬ t1.may ∧ t1.outB = [] ∧ t1.outE = 1) := by
    by_cases m : t1.may
    · exact .inl ⟨m, (Seal.St.out_ok _ m).2.1, (Seal.St.out_ok _ m).2.2⟩
    · exact .inr ⟨m, (Seal.St.out_no _ m).2.1, (Seal.St.out_no _ m).2.2⟩
  obtain ⟨st1, hst1⟩ : ∃ s, s = t1.outB := ⟨_, rfl⟩
  obtain ⟨et1, het1⟩ : ∃ e, e = t1.outE := ⟨_, rfl⟩
  rw [← hst1, ← het1] at Ot1
  have Hst1 := Lib.hid hst1; have Het1 := Lib.hid het1; have Ht1 := Lib.hid Ot1; clear hst1 het1 Ot1
  have Ot2 : (t2.may ∧ t2.outB = t2.bytes ∧ t2.outE = 0) ∨ (¬ t2.may ∧ t2.outB = [] ∧ t2.outE = 1) := by
    by_cases m : t2.may
    · exact .inl ⟨m, (Seal.St.out_ok _ m).2.1, (Seal.St.out_ok _ m).2.2⟩
    · exact .inr ⟨m, (Seal.St.out_no _ m).2.1, (Seal.St.out_no _ m).2.2⟩
  obtain ⟨st2, hst2⟩ : ∃ s, s = t2.outB := ⟨_, rfl⟩
  obtain ⟨et2, het2⟩ : ∃ e, e = t2.outE := ⟨_, rfl⟩
  rw [← hst2, ← het2] at Ot2
  have Hst2 := Lib.hid hst2; have Het2 := Lib.hid het2; have Ht2 := Lib.hid Ot2; clear hst2 het2 Ot2
  have hgf := guard_fz
  have hgh := guard_hd
  have hgs := guard_st
  go_enter Tryd.func4, Tryd.ntmps4
  go_wp2_with fail
  change Calls _ _ _ (((w.alloc (.cells (f1.cells ++ f2.cells).toArray 37)).alloc (.cells (h1.cells ++ h2.cells).toArray 38)).alloc (.cells (t1.cells ++ t2.cells).toArray 39)) _
  generalize (((w.alloc (.cells (f1.cells ++ f2.cells).toArray 37)).alloc (.cells (h1.cells ++ h2.cells).toArray 38)).alloc (.cells (t1.cells ++ t2.cells).toArray 39)) = w0 at *
  refine (awake16_calls _ (KW.ext hE)).mono ?_; rintro e v1 ⟨rfl, e2⟩
  replace hB0 := Blk.below hB0 e2 (Blk.lt hB0)
  replace hB1 := Blk.below hB1 e2 (Blk.lt hB1)
  replace hB2 := Blk.below hB2 e2 (Blk.lt hB2)
  replace hE := hE.trans e2
  clear e2
  have hr : v1.rangeAt w.heap.size 0 f1.cells := Blk.range (pre := []) (mid := f1.cells) (post := f2.cells) hB0 0 rfl
  have hl := Blk.lt hB0
  go_wp2_with (refine stop_load 27 (.tmp 26) rfl ?_)
  refine ⟨?_⟩
  refine wpList_load_mid rfl 27 (.tmp 26) rfl w.heap.size (0) (by rfl) (f1.cells) _ hr Tryd.underlying27 rfl ((Seal.size_fz f1 lf1).trans (by rw [List.size_toArray])) ?_
  simp only [Act.put, List.setIfInBounds_toArray, List.set_cons_zero, List.set_cons_succ]
  go_wp2_with fail
  clear hr hl
  change Calls _ _ #[f1.v] _ _
  refine (FreezeBytes_calls f1 lf1 _).mono ?_; rw [← Hsf1.out, ← Hef1.out]; rintro e v3 ⟨rfl, e4⟩
  replace hB0 := Blk.below hB0 e4 (Blk.lt hB0)
  replace hB1 := Blk.below hB1 e4 (Blk.lt hB1)
  replace hB2 := Blk.below hB2 e4 (Blk.lt hB2)
  replace hE := hE.trans e4
  clear e4
  have hr : v3.rangeAt w.heap.size 34 f2.cells := Blk.range (pre := f1.cells) (mid := f2.cells) (post := []) (by rw [List.append_nil]; exact hB0) 34 (by rw [Seal.Fz.cells_length _ lf1])
  have hl := Blk.lt hB0
  go_wp2_with (refine stop_load 27 (.tmp 32) rfl ?_)
  refine ⟨?_⟩
  refine wpList_load_mid rfl 27 (.tmp 32) rfl w.heap.size (34) (by rfl) (f2.cells) _ hr Tryd.underlying27 rfl ((Seal.size_fz f2 lf2).trans (by rw [List.size_toArray])) ?_
  simp only [Act.put, List.setIfInBounds_toArray, List.set_cons_zero, List.set_cons_succ]
  go_wp2_with fail
  clear hr hl
  change Calls _ _ #[f2.v] _ _
  refine (FreezeBytes_calls f2 lf2 _).mono ?_; rw [← Hsf2.out, ← Hef2.out]; rintro e v5 ⟨rfl, e6⟩
  replace hB0 := Blk.below hB0 e6 (Blk.lt hB0)
  replace hB1 := Blk.below hB1 e6 (Blk.lt hB1)
  replace hB2 := Blk.below hB2 e6 (Blk.lt hB2)
  replace hE := hE.trans e6
  clear e6
  have hr : v5.rangeAt (w.heap.size + 1) 0 h1.cells := Blk.range (pre := []) (mid := h1.cells) (post := h2.cells) hB1 0 rfl
  have hl := Blk.lt hB1
  go_wp2_with (refine stop_load 25 (.tmp 38) rfl ?_)
  refine ⟨?_⟩
  refine wpList_load_mid rfl 25 (.tmp 38) rfl (w.heap.size + 1) (0) (by rfl) (h1.cells) _ hr Tryd.underlying25 rfl ((Seal.size_hd h1 lh1 mh1).trans (by rw [List.size_toArray])) ?_
  simp only [Act.put, List.setIfInBounds_toArray, List.set_cons_zero, List.set_cons_succ]
  go_wp2_with fail
  clear hr hl
  change Calls _ _ #[h1.v] _ _
  refine (HeadBytes_calls h1 lh1 mh1 _).mono ?_; rw [← Hsh1.out, ← Heh1.out]; rintro e v7 ⟨rfl, e8⟩
  replace hB0 := Blk.below hB0 e8 (Blk.lt hB0)
  replace hB1 := Blk.below hB1 e8 (Blk.lt hB1)
  replace hB2 := Blk.below hB2 e8 (Blk.lt hB2)
  replace hE := hE.trans e8
  clear e8
  have hr : v7.rangeAt (w.heap.size + 1) 66 h2.cells := Blk.range (pre := h1.cells) (mid := h2.cells) (post := []) (by rw [List.append_nil]; exact hB1) 66 (by rw [Seal.Hd.cells_length _ lh1 mh1])
  have hl := Blk.lt hB1
  go_wp2_with (refine stop_load 25 (.tmp 44) rfl ?_)
  refine ⟨?_⟩
  refine wpList_load_mid rfl 25 (.tmp 44) rfl (w.heap.size + 1) (66) (by rfl) (h2.cells) _ hr Tryd.underlying25 rfl ((Seal.size_hd h2 lh2 mh2).trans (by rw [List.size_toArray])) ?_
  simp only [Act.put, List.setIfInBounds_toArray, List.set_cons_zero, List.set_cons_succ]
  go_wp2_with fail
  clear hr hl
  change Calls _ _ #[h2.v] _ _
  refine (HeadBytes_calls h2 lh2 mh2 _).mono ?_; rw [← Hsh2.out, ← Heh2.out]; rintro e v9 ⟨rfl, e10⟩
  replace hB0 := Blk.below hB0 e10 (Blk.lt hB0)
  replace hB1 := Blk.below hB1 e10 (Blk.lt hB1)
  replace hB2 := Blk.below hB2 e10 (Blk.lt hB2)
  replace hE := hE.trans e10
  clear e10
  have hr : v9.rangeAt (w.heap.size + 2) 0 t1.cells := Blk.range (pre := []) (mid := t1.cells) (post := t2.cells) hB2 0 rfl
  have hl := Blk.lt hB2
  go_wp2_with (refine stop_load 29 (.tmp 50) rfl ?_)
  refine ⟨?_⟩
  refine wpList_load_mid rfl 29 (.tmp 50) rfl (w.heap.size + 2) (0) (by rfl) (t1.cells) _ hr Tryd.underlying29 rfl ((Seal.size_st t1 lt1 mt1).trans (by rw [List.size_toArray])) ?_
  simp only [Act.put, List.setIfInBounds_toArray, List.set_cons_zero, List.set_cons_succ]
  go_wp2_with fail
  clear hr hl
  change Calls _ _ #[t1.v] _ _
  refine (StoneBytes_calls t1 lt1 mt1 _).mono ?_; rw [← Hst1.out, ← Het1.out]; rintro e v11 ⟨rfl, e12⟩
  replace hB0 := Blk.below hB0 e12 (Blk.lt hB0)
  replace hB1 := Blk.below hB1 e12 (Blk.lt hB1)
  replace hB2 := Blk.below hB2 e12 (Blk.lt hB2)
  replace hE := hE.trans e12
  clear e12
  have hr : v11.rangeAt (w.heap.size + 2) 67 t2.cells := Blk.range (pre := t1.cells) (mid := t2.cells) (post := []) (by rw [List.append_nil]; exact hB2) 67 (by rw [Seal.St.cells_length _ lt1 mt1])
  have hl := Blk.lt hB2
  go_wp2_with (refine stop_load 29 (.tmp 56) rfl ?_)
  refine ⟨?_⟩
  refine wpList_load_mid rfl 29 (.tmp 56) rfl (w.heap.size + 2) (67) (by rfl) (t2.cells) _ hr Tryd.underlying29 rfl ((Seal.size_st t2 lt2 mt2).trans (by rw [List.size_toArray])) ?_
  simp only [Act.put, List.setIfInBounds_toArray, List.set_cons_zero, List.set_cons_succ]
  go_wp2_with fail
  clear hr hl
  change Calls _ _ #[t2.v] _ _
  refine (StoneBytes_calls t2 lt2 mt2 _).mono ?_; rw [← Hst2.out, ← Het2.out]; rintro e v13 ⟨rfl, e14⟩
  replace hB0 := Blk.below hB0 e14 (Blk.lt hB0)
  replace hB1 := Blk.below hB1 e14 (Blk.lt hB1)
  replace hB2 := Blk.below hB2 e14 (Blk.lt hB2)
  replace hE := hE.trans e14
  clear e14
  go_upto_region 8 with fail
  go_cut [20] (fun s20 wx => s20 = .bool true ∧ v13 = wx)
  case first =>
    rcases Hf1.out with ⟨ma, rfl, rfl⟩ | ⟨ma, rfl, rfl⟩
    · rcases Hf2.out with ⟨mb, rfl, rfl⟩ | ⟨mb, rfl, rfl⟩
      · skip
        obtain ⟨d, hd⟩ : ∃ d, d = decide (f1 = f2) := ⟨_, rfl⟩
        have hbb : (f1.bytes == f2.bytes) = d := by
          rw [hd, Bool.eq_iff_iff, beq_iff_eq, decide_eq_true_eq]
          exact ⟨fun h => Seal.Fz.bytes_one f1 f2 ma mb lf1 lf2 h, fun h => by rw [h]⟩
        have heq : ∀ w : World, (Op.equalIn 10000 27 f1.v f2.v).run Tryd.prog w = .ok d w := fun w => by rw [eq_fz f1 f2 lf1 lf2 w, hd]
        have hdd : (d == d) = true := by simp
        clear hd
        unfold Seal.Fz.v at heq
        have hr0 : v13.rangeAt w.heap.size 0 f1.cells := Blk.range (pre := []) (mid := f1.cells) (post := f2.cells) hB0 0 rfl
        have hr1 : v13.rangeAt w.heap.size 34 f2.cells := Blk.range (pre := f1.cells) (mid := f2.cells) (post := []) (by rw [List.append_nil]; exact hB0) 34 (by rw [Seal.Fz.cells_length _ lf1])
        have hl := Blk.lt hB0
        go_wp2_with (refine stop_load 27 (.tmp 71) rfl ?_)
        refine ⟨?_⟩
        refine list_wantS (by rfl) (fun K hK => ?_)
        refine wp_load_mid 27 (.tmp 71) rfl w.heap.size (0) (by rfl) (f1.cells) _ hr0 Tryd.underlying27 rfl ((Seal.size_fz f1 lf1).trans (by rw [List.size_toArray])) ?_
        refine hK _ _ ?_; clear hK K
        simp only [Act.put, List.setIfInBounds_toArray, List.set_cons_zero, List.set_cons_succ]
        go_wp2_with (refine stop_load 27 (.tmp 73) rfl ?_)
        refine ⟨?_⟩
        refine list_wantS (by rfl) (fun K hK => ?_)
        refine wp_load_mid 27 (.tmp 73) rfl w.heap.size (34) (by rfl) (f2.cells) _ hr1 Tryd.underlying27 rfl ((Seal.size_fz f2 lf2).trans (by rw [List.size_toArray])) ?_
        refine hK _ _ ?_; clear hK K
        simp only [Act.put, List.setIfInBounds_toArray, List.set_cons_zero, List.set_cons_succ]
        go_wp2_with fail
        go_meet
        exact ⟨rfl, rfl⟩
      · skip
        go_wp2_with fail
        go_meet
        exact ⟨rfl, rfl⟩
    · skip
      go_wp2_with fail
      go_meet
      exact ⟨rfl, rfl⟩
  obtain ⟨rfl, rfl⟩ := hcut
  go_upto_region 9 with fail
  go_cut [21] (fun s21 wx => s21 = .bool true ∧ v13 = wx)
  case first =>
    rcases Hh1.out with ⟨ma, rfl, rfl⟩ | ⟨ma, rfl, rfl⟩
    · rcases Hh2.out with ⟨mb, rfl, rfl⟩ | ⟨mb, rfl, rfl⟩
      · skip
        obtain ⟨d, hd⟩ : ∃ d, d = decide (h1 = h2) := ⟨_, rfl⟩
        have hbb : (h1.bytes == h2.bytes) = d := by
          rw [hd, Bool.eq_iff_iff, beq_iff_eq, decide_eq_true_eq]
          exact ⟨fun h => Seal.Hd.bytes_one h1 h2 ma mb lh1 lh2 mh1 mh2 h, fun h => by rw [h]⟩
        have heq : ∀ w : World, (Op.equalIn 10000 25 h1.v h2.v).run Tryd.prog w = .ok d w := fun w => by rw [eq_hd h1 h2 lh1 lh2 mh1 mh2 w, hd]
        have hdd : (d == d) = true := by simp
        clear hd
        unfold Seal.Hd.v at heq
        have hr0 : v13.rangeAt (w.heap.size + 1) 0 h1.cells := Blk.range (pre := []) (mid := h1.cells) (post := h2.cells) hB1 0 rfl
        have hr1 : v13.rangeAt (w.heap.size + 1) 66 h2.cells := Blk.range (pre := h1.cells) (mid := h2.cells) (post := []) (by rw [List.append_nil]; exact hB1) 66 (by rw [Seal.Hd.cells_length _ lh1 mh1])
        have hl := Blk.lt hB1
        go_wp2_with (refine stop_load 25 (.tmp 88) rfl ?_)
        refine ⟨?_⟩
        refine list_wantS (by rfl) (fun K hK => ?_)
        refine wp_load_mid 25 (.tmp 88) rfl (w.heap.size + 1) (0) (by rfl) (h1.cells) _ hr0 Tryd.underlying25 rfl ((Seal.size_hd h1 lh1 mh1).trans (by rw [List.size_toArray])) ?_
        refine hK _ _ ?_; clear hK K
        simp only [Act.put, List.setIfInBounds_toArray, List.set_cons_zero, List.set_cons_succ]
        go_wp2_with (refine stop_load 25 (.tmp 90) rfl ?_)
        refine ⟨?_⟩
        refine list_wantS (by rfl) (fun K hK => ?_)
        refine wp_load_mid 25 (.tmp 90) rfl (w.heap.size + 1) (66) (by rfl) (h2.cells) _ hr1 Tryd.underlying25 rfl ((Seal.size_hd h2 lh2 mh2).trans (by rw [List.size_toArray])) ?_
        refine hK _ _ ?_; clear hK K
        simp only [Act.put, List.setIfInBounds_toArray, List.set_cons_zero, List.set_cons_succ]
        go_wp2_with fail
        go_meet
        exact ⟨rfl, rfl⟩
      · skip
        go_wp2_with fail
        go_meet
        exact ⟨rfl, rfl⟩
    · skip
      go_wp2_with fail
      go_meet
      exact ⟨rfl, rfl⟩
  obtain ⟨rfl, rfl⟩ := hcut
  go_upto_region 10 with fail
  go_cut [22] (fun s22 wx => s22 = .bool true ∧ v13 = wx)
  case first =>
    rcases Ht1.out with ⟨ma, rfl, rfl⟩ | ⟨ma, rfl, rfl⟩
    · rcases Ht2.out with ⟨mb, rfl, rfl⟩ | ⟨mb, rfl, rfl⟩
      · skip
        obtain ⟨d, hd⟩ : ∃ d, d = decide (t1 = t2) := ⟨_, rfl⟩
        have hbb : (t1.bytes == t2.bytes) = d := by
          rw [hd, Bool.eq_iff_iff, beq_iff_eq, decide_eq_true_eq]
          exact ⟨fun h => Seal.St.bytes_one t1 t2 ma mb lt1 lt2 mt1 mt2 h, fun h => by rw [h]⟩
        have heq : ∀ w : World, (Op.equalIn 10000 29 t1.v t2.v).run Tryd.prog w = .ok d w := fun w => by rw [eq_st t1 t2 lt1 lt2 mt1 mt2 w, hd]
        have hdd : (d == d) = true := by simp
        clear hd
        unfold Seal.St.v at heq
        have hr0 : v13.rangeAt (w.heap.size + 2) 0 t1.cells := Blk.range (pre := []) (mid := t1.cells) (post := t2.cells) hB2 0 rfl
        have hr1 : v13.rangeAt (w.heap.size + 2) 67 t2.cells := Blk.range (pre := t1.cells) (mid := t2.cells) (post := []) (by rw [List.append_nil]; exact hB2) 67 (by rw [Seal.St.cells_length _ lt1 mt1])
        have hl := Blk.lt hB2
        go_wp2_with (refine stop_load 29 (.tmp 105) rfl ?_)
        refine ⟨?_⟩
        refine list_wantS (by rfl) (fun K hK => ?_)
        refine wp_load_mid 29 (.tmp 105) rfl (w.heap.size + 2) (0) (by rfl) (t1.cells) _ hr0 Tryd.underlying29 rfl ((Seal.size_st t1 lt1 mt1).trans (by rw [List.size_toArray])) ?_
        refine hK _ _ ?_; clear hK K
        simp only [Act.put, List.setIfInBounds_toArray, List.set_cons_zero, List.set_cons_succ]
        go_wp2_with (refine stop_load 29 (.tmp 107) rfl ?_)
        refine ⟨?_⟩
        refine list_wantS (by rfl) (fun K hK => ?_)
        refine wp_load_mid 29 (.tmp 107) rfl (w.heap.size + 2) (67) (by rfl) (t2.cells) _ hr1 Tryd.underlying29 rfl ((Seal.size_st t2 lt2 mt2).trans (by rw [List.size_toArray])) ?_
        refine hK _ _ ?_; clear hK K
        simp only [Act.put, List.setIfInBounds_toArray, List.set_cons_zero, List.set_cons_succ]
        go_wp2_with fail
        go_meet
        exact ⟨rfl, rfl⟩
      · skip
        go_wp2_with fail
        go_meet
        exact ⟨rfl, rfl⟩
    · skip
      go_wp2_with fail
      go_meet
      exact ⟨rfl, rfl⟩
  obtain ⟨rfl, rfl⟩ := hcut
  go_upto_region 11 with fail
  go_cut [23] (fun s23 wx => s23 = .bool true ∧ v13 = wx)
  case first =>
    rcases Hf1.out with ⟨ma, rfl, rfl⟩ | ⟨ma, rfl, rfl⟩
    · rcases Hh1.out with ⟨mb, rfl, rfl⟩ | ⟨mb, rfl, rfl⟩
      · rcases Ht1.out with ⟨mc, rfl, rfl⟩ | ⟨mc, rfl, rfl⟩
        · have k1 : (f1.bytes == h1.bytes) = false := by rw [beq_eq_false_iff_ne]; exact Seal.fz_ne_hd _ _
          have k2 : (f1.bytes == t1.bytes) = false := by rw [beq_eq_false_iff_ne]; exact Seal.fz_ne_st _ _
          have k3 : (h1.bytes == t1.bytes) = false := by rw [beq_eq_false_iff_ne]; exact Seal.hd_ne_st _ _
          go_wp2_with fail
          go_meet
          exact ⟨rfl, rfl⟩
        · skip
          go_wp2_with fail
          go_meet
          exact ⟨rfl, rfl⟩
      · skip
        go_wp2_with fail
        go_meet
        exact ⟨rfl, rfl⟩
    · skip
      go_wp2_with fail
      go_meet
      exact ⟨rfl, rfl⟩
  obtain ⟨rfl, rfl⟩ := hcut
  go_wp2_with fail
  go_ret
  exact ⟨rfl, hE⟩

set_option maxRecDepth 100000 in
theorem contract (H : Type) (enc : TypeId × Value → H) (W : World) (base : Nat) (args : Array Value) (ds gs : List (DataW H)) (before : List MemPlace)
    (hval0 : ∀ (j : Nat) t v, Tryd.f4.params[j]? = some t → args[j]? = some v → Value.okWide Tryd.prog W .any base t v)
    (hW : DataW.Whole enc Tryd.prog Tryd.f4.params.toList Rows.sealOneSpec.vars false W args.toList ds gs before) (hL : laidMetH Tryd.prog Rows.sealOneRow.laid W) :
    Calls Tryd.prog 4 args W fun e W' => ∃ v, e = .returned v ∧ Rows.sealOneSpec.post enc Tryd.prog Tryd.f4 false true false false W args v W' := by
  have K : Keys W := keys_of hL
  have hval : ∀ (j : Nat) t v, Tryd.f4.params[j]? = some t → args[j]? = some v → Value.okWide Tryd.prog W .any base t v := hval0
  have hW' := hW
  obtain ⟨p, q, hA0, hV, rfl, hfz, hnd⟩ := hW
  have hA : DataW.TrodAll enc Tryd.prog W 0 (fun _ => true) true Tryd.f4.params.toList args.toList ds p := hA0
  rw [Tryd.params4] at hA hval
  obtain ⟨v0, vs0, d0, ds0, p0, q0, hargs, rfl, rfl, hx0, r0⟩ := trodAll_cons hA
  obtain ⟨v1, vs1, d1, ds1, p1, q1, rfl, rfl, rfl, hx1, r1⟩ := trodAll_cons r0
  obtain ⟨v2, vs2, d2, ds2, p2, q2, rfl, rfl, rfl, hx2, r2⟩ := trodAll_cons r1
  obtain ⟨rfl, rfl, rfl⟩ := trodAll_nil r2
  obtain rfl : args = #[v0, v1, v2] := by cases args; simp_all
  obtain ⟨rfl, rfl⟩ := trodVars_none hV
  obtain ⟨f1, f2, rfl, hf1, hf2⟩ := op_fz2 (hval 0 37 v0 rfl rfl) (tr_of hx0)
  obtain ⟨h1, h2, rfl, hh1, hh2⟩ := op_hd2 (hval 1 38 v1 rfl rfl) (tr_of hx1)
  obtain ⟨t1, t2, rfl, ht1, ht2⟩ := op_st2 (hval 2 39 v2 rfl rfl) (tr_of hx2)
  refine (walk f1 f2 h1 h2 t1 t2 hf1 hf2 hh1 hh2 ht1 ht2 W K).mono fun e W' ⟨he, hg⟩ => ?_
  subst he
  exact ⟨_, rfl, law_post hW' rfl rfl (by kernel_rfl) rfl rfl rfl hg⟩

theorem laid_met (os : Os) : laidMet Tryd.prog Rows.sealOneRow.laid ((keysWorld os).forCall (fun _ _ => 0) ⟨#[], #[.agg (Array.mk (α := Value) ((Value.int IntKind.i64 0 :: Value.int IntKind.i64 0 :: List.replicate 32 (Value.int IntKind.u8 0)) ++ (Value.int IntKind.i64 0 :: Value.int IntKind.i64 0 :: List.replicate 32 (Value.int IntKind.u8 0)))), .agg (Array.mk (α := Value) ((Value.int IntKind.i64 0 :: (List.replicate 32 (Value.int IntKind.u8 0) ++ (Value.int IntKind.i64 0 :: List.replicate 32 (Value.int IntKind.u8 0)))) ++ (Value.int IntKind.i64 0 :: (List.replicate 32 (Value.int IntKind.u8 0) ++ (Value.int IntKind.i64 0 :: List.replicate 32 (Value.int IntKind.u8 0)))))), .agg (Array.mk (α := Value) (((Value.int IntKind.i64 0 :: Value.int IntKind.i64 0 :: List.replicate 32 (Value.int IntKind.u8 0)) ++ (Value.int IntKind.i64 0 :: List.replicate 32 (Value.int IntKind.u8 0))) ++ ((Value.int IntKind.i64 0 :: Value.int IntKind.i64 0 :: List.replicate 32 (Value.int IntKind.u8 0)) ++ (Value.int IntKind.i64 0 :: List.replicate 32 (Value.int IntKind.u8 0)))))], []⟩).memory :=
  laidMet_of_run' 8 (by kernel_rfl) (by kernel_rfl)
theorem reads (os : Os) {H : Type} (enc : TypeId × Value → H) : ∃ x, DataW.whole enc Tryd.prog ((keysWorld os).forCall (fun _ _ => 0) ⟨#[], #[.agg (Array.mk (α := Value) ((Value.int IntKind.i64 0 :: Value.int IntKind.i64 0 :: List.replicate 32 (Value.int IntKind.u8 0)) ++ (Value.int IntKind.i64 0 :: Value.int IntKind.i64 0 :: List.replicate 32 (Value.int IntKind.u8 0)))), .agg (Array.mk (α := Value) ((Value.int IntKind.i64 0 :: (List.replicate 32 (Value.int IntKind.u8 0) ++ (Value.int IntKind.i64 0 :: List.replicate 32 (Value.int IntKind.u8 0)))) ++ (Value.int IntKind.i64 0 :: (List.replicate 32 (Value.int IntKind.u8 0) ++ (Value.int IntKind.i64 0 :: List.replicate 32 (Value.int IntKind.u8 0)))))), .agg (Array.mk (α := Value) (((Value.int IntKind.i64 0 :: Value.int IntKind.i64 0 :: List.replicate 32 (Value.int IntKind.u8 0)) ++ (Value.int IntKind.i64 0 :: List.replicate 32 (Value.int IntKind.u8 0))) ++ ((Value.int IntKind.i64 0 :: Value.int IntKind.i64 0 :: List.replicate 32 (Value.int IntKind.u8 0)) ++ (Value.int IntKind.i64 0 :: List.replicate 32 (Value.int IntKind.u8 0)))))], []⟩).memory Tryd.f4.params.toList Rows.sealOneSpec.vars false (#[.agg (Array.mk (α := Value) ((Value.int IntKind.i64 0 :: Value.int IntKind.i64 0 :: List.replicate 32 (Value.int IntKind.u8 0)) ++ (Value.int IntKind.i64 0 :: Value.int IntKind.i64 0 :: List.replicate 32 (Value.int IntKind.u8 0)))), .agg (Array.mk (α := Value) ((Value.int IntKind.i64 0 :: (List.replicate 32 (Value.int IntKind.u8 0) ++ (Value.int IntKind.i64 0 :: List.replicate 32 (Value.int IntKind.u8 0)))) ++ (Value.int IntKind.i64 0 :: (List.replicate 32 (Value.int IntKind.u8 0) ++ (Value.int IntKind.i64 0 :: List.replicate 32 (Value.int IntKind.u8 0)))))), .agg (Array.mk (α := Value) (((Value.int IntKind.i64 0 :: Value.int IntKind.i64 0 :: List.replicate 32 (Value.int IntKind.u8 0)) ++ (Value.int IntKind.i64 0 :: List.replicate 32 (Value.int IntKind.u8 0))) ++ ((Value.int IntKind.i64 0 :: Value.int IntKind.i64 0 :: List.replicate 32 (Value.int IntKind.u8 0)) ++ (Value.int IntKind.i64 0 :: List.replicate 32 (Value.int IntKind.u8 0)))))] : Array Value).toList 8 = some x :=
  Option.isSome_iff_exists.1 (by kernel_rfl)
set_option maxRecDepth 100000 in
theorem lifted (os : Os) (started : os.Started) (H : Type) (enc : TypeId × Value → H) (F : Stop.Interp) :
    ReturnsInHanded {} Tryd.checked os 4 .any ((OpenSpec.ofChange Rows.sealOneSpec).preRow enc Tryd.prog Tryd.f4 Rows.sealOneRow.domain false Rows.sealOneRow.laid) (((OpenSpec.ofChange Rows.sealOneSpec).at F).post enc Tryd.prog Tryd.f4 false true false false) := by
  obtain ⟨x, hx⟩ := reads os enc
  refine returnsInHanded_of_row (C := Tryd.checked) (s := OpenSpec.ofChange Rows.sealOneSpec) own_ started (by kernel_rfl) Tryd.func4
    (witness_row_at (enc := enc) (C := Tryd.checked) false (keysWorld os) #[.agg (Array.mk (α := Value) ((Value.int IntKind.i64 0 :: Value.int IntKind.i64 0 :: List.replicate 32 (Value.int IntKind.u8 0)) ++ (Value.int IntKind.i64 0 :: Value.int IntKind.i64 0 :: List.replicate 32 (Value.int IntKind.u8 0)))), .agg (Array.mk (α := Value) ((Value.int IntKind.i64 0 :: (List.replicate 32 (Value.int IntKind.u8 0) ++ (Value.int IntKind.i64 0 :: List.replicate 32 (Value.int IntKind.u8 0)))) ++ (Value.int IntKind.i64 0 :: (List.replicate 32 (Value.int IntKind.u8 0) ++ (Value.int IntKind.i64 0 :: List.replicate 32 (Value.int IntKind.u8 0)))))), .agg (Array.mk (α := Value) (((Value.int IntKind.i64 0 :: Value.int IntKind.i64 0 :: List.replicate 32 (Value.int IntKind.u8 0)) ++ (Value.int IntKind.i64 0 :: List.replicate 32 (Value.int IntKind.u8 0))) ++ ((Value.int IntKind.i64 0 :: Value.int IntKind.i64 0 :: List.replicate 32 (Value.int IntKind.u8 0)) ++ (Value.int IntKind.i64 0 :: List.replicate 32 (Value.int IntKind.u8 0)))))] rfl (by kernel_rfl) (by kernel_rfl) (by kernel_rfl)
      (OpenSpec.preRow_of_cond 8 hx rfl (fun k hk => by cases hk) (by kernel_rfl) (laid_met os))) ?_
  intro W base args ds gs before hval hW _ _ _ hL _ _
  exact contract H enc W base args ds gs before hval hW hL

theorem said : Rows.SealOneSaid :=
  OpenClaim.holds_of_cond 4 Tryd.f4 rfl rfl rfl rfl rfl rfl rfl ⟨rfl, rfl, rfl, rfl, rfl⟩ rfl rfl rfl rfl rfl (by kernel_rfl) Tryd.func4 (by kernel_rfl)
    (of_decide_eq_true (by kernel_rfl)) (by unfold Func.isWrapper; first | (rw [if_pos (by decide +kernel)]; kernel_rfl) | (rw [if_neg (by decide +kernel)]; exact ⟨rfl, rfl⟩))
    (fun os started H enc _ F => by rw [OpenClaim.pre_eq_preRow]; exact lifted os started H enc F)
theorem plain (f : FuncId) (fn : Func) (hf : Tryd.pinned.checked.prog.funcNamed "scrinium/scriniumlaw16.SealOne" = some f) (hfn : Tryd.pinned.checked.prog.funcs[f]? = some fn) :
    false = Tryd.pinned.checked.prog.looks [] ∧ ∀ (j : Nat) t, fn.params[j]? = some t → Tryd.pinned.checked.prog.wantsStandIn t = false := by
  obtain rfl : f = 4 := Option.some.inj ((show Tryd.prog.funcNamed "scrinium/scriniumlaw16.SealOne" = some 4 by kernel_rfl).symm.trans hf) |>.symm
  obtain rfl : fn = Tryd.f4 := (Option.some.inj (Tryd.func4.symm.trans hfn)).symm
  refine ⟨by kernel_rfl, fun j t ht => ?_⟩
  rw [Tryd.params4] at ht
  have hm : t ∈ ([37, 38, 39] : List TypeId) := by simpa using Array.mem_of_getElem? ht
  have hall : (([37, 38, 39] : List TypeId).all fun u => !Tryd.prog.wantsStandIn u) = true := by kernel_rfl
  exact (show Tryd.prog.wantsStandIn t = false by simpa using List.all_eq_true.1 hall t hm)
theorem proved : Rows.SealOneCardSaid :=
  Claim7.holds_tied_plain_at .later [] _ _ _ _ said (fun _ h => by cases h) (by kernel_rfl) (fun _ h => by cases h) sealOne_row_tie rfl ⟨rfl, rfl⟩ (by kernel_rfl) rfl plain (by kernel_rfl)

end Go.Proofs.YtcgnjdkennkheaaDoor.sealOne
