/-
  scriniumlaw16.SealBytes: no condition.
-/
import Derived.Test.YtcgnjdkennkheaaDoorSealNM
import Derived.Deep.DeepCutAuto
import Derived.Test.YtcgnjdkennkheaaDoorLaw
set_option linter.unusedVariables false
set_option maxRecDepth 100000
set_option linter.unusedSimpArgs false
namespace Go.Proofs.YtcgnjdkennkheaaDoor.sealBytes
open Go.ChangeShapes Go.WideShapes Go.ChangeAt Go.RowKit
open Seal (Fz Hd St)
attribute [local go_sem] bs_size bs_toList2 bs_append bs_extract_end bs_extract_begin bs_get wrap64_b grow_cell grow_frozen

theorem list_skipS {P : Program} {ops : Array Oper} {Q : Exit → Act → World → Prop} {a : Act} {w : World} {rest : List Oper} {o : Oper} (hw : Region.wanted o (yielded ops a.tmps) = false)
    (h : wpList P ops Q rest (a.put o.dst undef) w) : wpList P ops Q (o :: rest) a w := wpList_step fun K hK => by rw [if_neg (by simp [hw])]; exact hK _ _ h
/-! ### The walk -/
set_option maxHeartbeats 16000000 in
theorem walk (f : Fz) (h : Hd) (t : St) (ff : f.fit) (fh : h.fit) (ft : t.fit) (w : World) (KW : Keys w) :
    Calls Tryd.prog 8 #[f.v, h.v, t.v] w fun e w' => e = .returned (.bool true) ∧ Ext w w' := by
  have hF : FzAt (((w.alloc (.cells f.cells.toArray 27)).alloc (.cells h.cells.toArray 25)).alloc (.cells t.cells.toArray 29)) w.heap.size f := by
    have := Blk.new w 27 f.cells.toArray
    exact Blk.alloc (Blk.alloc (this) _) _
  have hH : HdAt (((w.alloc (.cells f.cells.toArray 27)).alloc (.cells h.cells.toArray 25)).alloc (.cells t.cells.toArray 29)) (w.heap.size + 1) h := by
    have := Blk.new (w.alloc (.cells f.cells.toArray 27)) 25 h.cells.toArray
    rw [alloc_size] at this
    exact Blk.alloc (this) _
  have hT : StAt (((w.alloc (.cells f.cells.toArray 27)).alloc (.cells h.cells.toArray 25)).alloc (.cells t.cells.toArray 29)) (w.heap.size + 2) t := by
    have := Blk.new ((w.alloc (.cells f.cells.toArray 27)).alloc (.cells h.cells.toArray 25)) 29 t.cells.toArray
    rw [alloc_size, alloc_size] at this
    exact this
  have hE : Ext w (((w.alloc (.cells f.cells.toArray 27)).alloc (.cells h.cells.toArray 25)).alloc (.cells t.cells.toArray 29)) := (((Ext.refl w).alloc _).alloc _).alloc _
  obtain ⟨-, -, lf⟩ := ff
  obtain ⟨-, -, lh, mh⟩ := fh
  obtain ⟨⟨-, -, lt⟩, -, mt⟩ := ft
  have Of : (f.outE = 0 ∧ Fz.read f.outB = some f) ∨ f.outE = 1 := by
    by_cases m : f.may
    · obtain ⟨a, b⟩ := Seal.Fz.out_ok f m
      exact .inl ⟨b, by rw [a]; exact Seal.Fz.read_bytes f m lf⟩
    · exact .inr (Seal.Fz.out_no f m).2
  have Oh : (h.outE = 0 ∧ Hd.read h.outB = some h) ∨ h.outE = 1 := by
    by_cases m : h.may
    · obtain ⟨-, a, b⟩ := Seal.Hd.out_ok h m
      exact .inl ⟨b, by rw [a]; exact Seal.Hd.read_bytes h m lh mh⟩
    · exact .inr (Seal.Hd.out_no h m).2.2
  have Ot : (t.outE = 0 ∧ St.read t.outB = some t) ∨ t.outE = 1 := by
    by_cases m : t.may
    · obtain ⟨-, a, b⟩ := Seal.St.out_ok t m
      exact .inl ⟨b, by rw [a]; exact Seal.St.read_bytes t m lt mt⟩
    · exact .inr (Seal.St.out_no t m).2.2
  have Lf : f.outB.length ≤ 1000 := by
    have := Seal.Fz.bytes_length f lf
    unfold Seal.Fz.outB
    split
    · omega
    · simp
  have Lh : h.outB.length ≤ 1000 := by
    have := Seal.Hd.says_length h lh
    have := Seal.text_le h.mac
    unfold Seal.Hd.outB
    split
    · unfold Seal.Hd.bytes; rw [List.length_append]; omega
    · simp
  have Lt : t.outB.length ≤ 1000 := by
    have := Seal.St.says_length t lt
    have := Seal.text_le t.mac
    unfold Seal.St.outB
    split
    · unfold Seal.St.bytes; rw [List.length_append]; omega
    · simp
  obtain ⟨sf, hsf⟩ : ∃ s, s = f.outB := ⟨_, rfl⟩
  obtain ⟨sh, hsh⟩ : ∃ s, s = h.outB := ⟨_, rfl⟩
  obtain ⟨st, hst⟩ : ∃ s, s = t.outB := ⟨_, rfl⟩
  obtain ⟨ef, hef⟩ : ∃ s, s = f.outE := ⟨_, rfl⟩
  obtain ⟨eh, heh⟩ : ∃ s, s = h.outE := ⟨_, rfl⟩
  obtain ⟨et, het⟩ : ∃ s, s = t.outE := ⟨_, rfl⟩
  rw [← hsf] at Of Lf
  rw [← hsh] at Oh Lh
  rw [← hst] at Ot Lt
  rw [← hef] at Of
  rw [← heh] at Oh
  rw [← het] at Ot
  obtain ⟨xf, hxf⟩ : ∃ x, x = (Fz.read sf).getD Seal.zF := ⟨_, rfl⟩
  obtain ⟨xh, hxh⟩ : ∃ x, x = (Hd.read sh).getD Seal.zH := ⟨_, rfl⟩
  obtain ⟨xt, hxt⟩ : ∃ x, x = (St.read st).getD Seal.zS := ⟨_, rfl⟩
  obtain ⟨rf, hrf⟩ : ∃ x, x = Seal.errOf (Fz.read sf) := ⟨_, rfl⟩
  obtain ⟨rh, hrh⟩ : ∃ x, x = Seal.errOf (Hd.read sh) := ⟨_, rfl⟩
  obtain ⟨rt, hrt⟩ : ∃ x, x = Seal.errOf (St.read st) := ⟨_, rfl⟩
  have x1 : xf.root.length = 32 := by
    rw [hxf]
    cases h : Fz.read sf with
    | none => rfl
    | some f => exact ((Seal.Fz.read_iff sf f).1 h).2.1
  have x2 : xh.root.length = 32 ∧ xh.mac.length = 32 := by
    rw [hxh]
    cases h : Hd.read sh with
    | none => exact ⟨rfl, rfl⟩
    | some f => exact ⟨((Seal.Hd.read_iff sh f).1 h).2.1, ((Seal.Hd.read_iff sh f).1 h).2.2.1⟩
  have x3 : xt.fz.root.length = 32 ∧ xt.mac.length = 32 := by
    rw [hxt]
    cases h : St.read st with
    | none => exact ⟨rfl, rfl⟩
    | some f => exact ⟨((Seal.St.read_iff st f).1 h).2.1, ((Seal.St.read_iff st f).1 h).2.2.1⟩
  obtain ⟨x2, x4⟩ := x2
  obtain ⟨x3, x5⟩ := x3
  have Of2 : (ef = 0 ∧ xf = f ∧ rf = 0) ∨ ef = 1 := Of.imp (fun h => ⟨h.1, by rw [hxf, h.2]; rfl, by rw [hrf, h.2]; rfl⟩) id
  have Oh2 : (eh = 0 ∧ xh = h ∧ rh = 0) ∨ eh = 1 := Oh.imp (fun h => ⟨h.1, by rw [hxh, h.2]; rfl, by rw [hrh, h.2]; rfl⟩) id
  have Ot2 : (et = 0 ∧ xt = t ∧ rt = 0) ∨ et = 1 := Ot.imp (fun h => ⟨h.1, by rw [hxt, h.2]; rfl, by rw [hrt, h.2]; rfl⟩) id
  obtain ⟨z, hz⟩ : ∃ z, z = leafB f.outB := ⟨_, rfl⟩
  have hz32 : z.length = 32 := by rw [hz]; exact leafB_length _
  have heqz : ∀ w : World, (Op.equalIn 10000 23 (.agg (z.map byteV).toArray) (.agg (z.map byteV).toArray)).run Tryd.prog w = .ok true w := fun w => by rw [eq_sum z z hz32 hz32 w]; simp
  have heqf : ∀ w : World, (Op.equalIn 10000 27 f.v f.v).run Tryd.prog w = .ok true w := fun w => by rw [eq_fz f f lf lf w]; simp
  have heqh : ∀ w : World, (Op.equalIn 10000 25 h.v h.v).run Tryd.prog w = .ok true w := fun w => by rw [eq_hd h h lh lh mh mh w]; simp
  have heqt : ∀ w : World, (Op.equalIn 10000 29 t.v t.v).run Tryd.prog w = .ok true w := fun w => by rw [eq_st t t lt lt mt mt w]; simp
  have hgz := guard_sum
  have hgf := guard_fz
  have hgh := guard_hd
  have hgs := guard_st
  have b1 : (sf == sf) = true := by simp
  have b2 : (sh == sh) = true := by simp
  have b3 : (st == st) = true := by simp
  have b4 : (ef == ef) = true := by simp
  have b5 : (eh == eh) = true := by simp
  have b6 : (et == et) = true := by simp
  have b7 : (ef != ef) = false := by simp
  have b8 : (eh != eh) = false := by simp
  have b9 : (et != et) = false := by simp
  have Hsf := Lib.hid hsf; have Hsh := Lib.hid hsh; have Hst := Lib.hid hst; have Hef := Lib.hid hef; have Heh := Lib.hid heh; have Het := Lib.hid het
  have Hxf := Lib.hid hxf; have Hxh := Lib.hid hxh; have Hxt := Lib.hid hxt; have Hrf := Lib.hid hrf; have Hrh := Lib.hid hrh; have Hrt := Lib.hid hrt; have Hz := Lib.hid hz
  have O1 := Lib.hid Of2; have O2 := Lib.hid Oh2; have O3 := Lib.hid Ot2
  clear hsf hsh hst hef heh het hxf hxh hxt hrf hrh hrt hz Of Oh Ot Of2 Oh2 Ot2
  unfold Seal.Fz.v at heqf
  unfold Seal.Hd.v at heqh
  unfold Seal.St.v at heqt
  unfold Seal.Fz.v Seal.Hd.v Seal.St.v
  go_enter Tryd.func8, Tryd.ntmps8
  go_wp2_with fail
  change Calls _ _ _ (((w.alloc (.cells f.cells.toArray 27)).alloc (.cells h.cells.toArray 25)).alloc (.cells t.cells.toArray 29)) _
  generalize (((w.alloc (.cells f.cells.toArray 27)).alloc (.cells h.cells.toArray 25)).alloc (.cells t.cells.toArray 29)) = w0 at *
  refine (awake16_calls _ (KW.ext hE)).mono ?_; rintro e v1 ⟨rfl, e2⟩
  replace hF := hF.ext e2
  replace hH := hH.ext e2
  replace hT := hT.ext e2
  replace hE := hE.trans e2
  clear e2
  go_wp2_with (refine stop_load 27 (.tmp 3) rfl ?_)
  refine ⟨?_⟩
  refine wpList_load_row rfl 27 (.tmp 3) rfl w.heap.size (by rfl) 27 _ (0, 0) _ hF Tryd.underlying27 rfl (Seal.size_fz f lf) ?_
  simp only [Act.put, List.setIfInBounds_toArray, List.set_cons_zero, List.set_cons_succ]
  go_wp2_with fail
  change Calls _ _ #[f.v] _ _
  refine (FreezeBytes_calls f lf _).mono ?_; rw [← Hsf.out, ← Hef.out]; rintro e v3 ⟨rfl, e4⟩
  replace hF := hF.ext e4
  replace hH := hH.ext e4
  replace hT := hT.ext e4
  replace hE := hE.trans e4
  clear e4
  go_wp2_with (refine stop_load 27 (.tmp 3) rfl ?_)
  refine ⟨?_⟩
  refine wpList_load_row rfl 27 (.tmp 3) rfl w.heap.size (by rfl) 27 _ (0, 0) _ hF Tryd.underlying27 rfl (Seal.size_fz f lf) ?_
  simp only [Act.put, List.setIfInBounds_toArray, List.set_cons_zero, List.set_cons_succ]
  go_wp2_with fail
  change Calls _ _ #[f.v] _ _
  refine (refFreezeBytes_calls f lf _).mono ?_; rw [← Hsf.out, ← Hef.out]; rintro e v5 ⟨rfl, e6⟩
  replace hF := hF.ext e6
  replace hH := hH.ext e6
  replace hT := hT.ext e6
  replace hE := hE.trans e6
  clear e6
  go_wp2_with (refine stop_load 25 (.tmp 4) rfl ?_)
  refine ⟨?_⟩
  refine wpList_load_row rfl 25 (.tmp 4) rfl (w.heap.size + 1) (by rfl) 25 _ (0, 0) _ hH Tryd.underlying25 rfl (Seal.size_hd h lh mh) ?_
  simp only [Act.put, List.setIfInBounds_toArray, List.set_cons_zero, List.set_cons_succ]
  go_wp2_with fail
  change Calls _ _ #[h.v] _ _
  refine (HeadBytes_calls h lh mh _).mono ?_; rw [← Hsh.out, ← Heh.out]; rintro e v7 ⟨rfl, e8⟩
  replace hF := hF.ext e8
  replace hH := hH.ext e8
  replace hT := hT.ext e8
  replace hE := hE.trans e8
  clear e8
  go_wp2_with (refine stop_load 25 (.tmp 4) rfl ?_)
  refine ⟨?_⟩
  refine wpList_load_row rfl 25 (.tmp 4) rfl (w.heap.size + 1) (by rfl) 25 _ (0, 0) _ hH Tryd.underlying25 rfl (Seal.size_hd h lh mh) ?_
  simp only [Act.put, List.setIfInBounds_toArray, List.set_cons_zero, List.set_cons_succ]
  go_wp2_with fail
  change Calls _ _ #[h.v] _ _
  refine (refHeadBytes_calls h lh mh _).mono ?_; rw [← Hsh.out, ← Heh.out]; rintro e v9 ⟨rfl, e10⟩
  replace hF := hF.ext e10
  replace hH := hH.ext e10
  replace hT := hT.ext e10
  replace hE := hE.trans e10
  clear e10
  go_wp2_with (refine stop_load 29 (.tmp 5) rfl ?_)
  refine ⟨?_⟩
  refine wpList_load_row rfl 29 (.tmp 5) rfl (w.heap.size + 2) (by rfl) 29 _ (0, 0) _ hT Tryd.underlying29 rfl (Seal.size_st t lt mt) ?_
  simp only [Act.put, List.setIfInBounds_toArray, List.set_cons_zero, List.set_cons_succ]
  go_wp2_with fail
  change Calls _ _ #[t.v] _ _
  refine (StoneBytes_calls t lt mt _).mono ?_; rw [← Hst.out, ← Het.out]; rintro e v11 ⟨rfl, e12⟩
  replace hF := hF.ext e12
  replace hH := hH.ext e12
  replace hT := hT.ext e12
  replace hE := hE.trans e12
  clear e12
  go_wp2_with (refine stop_load 29 (.tmp 5) rfl ?_)
  refine ⟨?_⟩
  refine wpList_load_row rfl 29 (.tmp 5) rfl (w.heap.size + 2) (by rfl) 29 _ (0, 0) _ hT Tryd.underlying29 rfl (Seal.size_st t lt mt) ?_
  simp only [Act.put, List.setIfInBounds_toArray, List.set_cons_zero, List.set_cons_succ]
  go_wp2_with fail
  change Calls _ _ #[t.v] _ _
  refine (refStoneBytes_calls t lt mt _).mono ?_; rw [← Hst.out, ← Het.out]; rintro e v13 ⟨rfl, e14⟩
  replace hF := hF.ext e14
  replace hH := hH.ext e14
  replace hT := hT.ext e14
  replace hE := hE.trans e14
  clear e14
  go_wp2_with fail
  refine region_mix0 (by kernel_rfl) (by kernel_rfl) (fun x => ?_)
  iterate 29 (first | (refine mix_quiet (by rfl) (by rfl) (fun K hK => ?_); go_big_quiet_op; refine hK _ ?_; clear hK K) | (refine mix_skip (by rfl) ?_; simp only [Act.put, List.setIfInBounds_toArray, List.set_cons_zero, List.set_cons_succ]))
  refine mix_row (by rfl) (by rfl) 27 (.tmp 3) rfl w.heap.size (by rfl) _ _ _ hF Tryd.underlying27 rfl (Seal.size_fz f lf) ?_
  simp only [Act.put, List.setIfInBounds_toArray, List.set_cons_zero, List.set_cons_succ]
  (refine mix_loud (by rfl) (by rfl) (fun K E hK => ?_); go_big_op)
  refine (FreezeLeaf_calls f lf _ (KW.ext (hE.trans (grow_ext _)))).mono ?_; rw [← Hz.out]; rintro e w3 ⟨rfl, hd⟩
  obtain ⟨x15, rfl⟩ := more_ext x hd
  refine hK _ _ ⟨_, rfl⟩ ?_; clear hK K E hd
  refine mix_row (by rfl) (by rfl) 27 (.tmp 3) rfl w.heap.size (by rfl) _ _ _ hF Tryd.underlying27 rfl (Seal.size_fz f lf) ?_
  simp only [Act.put, List.setIfInBounds_toArray, List.set_cons_zero, List.set_cons_succ]
  (refine mix_loud (by rfl) (by rfl) (fun K E hK => ?_); go_big_op)
  refine (refFreezeLeaf_calls f lf _).mono ?_; rw [← Hz.out]; rintro e w3 ⟨rfl, hd⟩
  obtain ⟨x16, rfl⟩ := more_ext x15 hd
  refine hK _ _ ⟨_, rfl⟩ ?_; clear hK K E hd
  unfold sumV
  repeat (first | (refine mix_quiet (by rfl) (by rfl) (fun K hK => ?_); go_big_quiet_op; refine hK _ ?_; clear hK K) | (refine mix_skip (by rfl) ?_; simp only [Act.put, List.setIfInBounds_toArray, List.set_cons_zero, List.set_cons_succ]))
  refine mix_nil ?_
  have e18 := grow_ext x16
  generalize grow v13 x16 = v17 at *
  replace hF := hF.ext e18
  replace hH := hH.ext e18
  replace hT := hT.ext e18
  replace hE := hE.trans e18
  clear e18
  go_wp2_with fail
  refine (ReadFreeze_calls sf (by omega) _).mono ?_; rw [← Hxf.out, ← Hrf.out]; rintro e v19 ⟨rfl, e20⟩
  replace hF := hF.ext e20
  replace hH := hH.ext e20
  replace hT := hT.ext e20
  replace hE := hE.trans e20
  clear e20
  unfold Seal.Fz.v
  go_wp2_with (refine stop_store 27 (.tmp 20) (.tmp 95) rfl ?_)
  refine ⟨?_⟩
  change wpList _ _ _ _ _ (v19.alloc (.cells (⟨0, 0, List.replicate 32 0⟩ : Fz).cells.toArray 27))
  have hA0 := Blk.new v19 27 (⟨0, 0, List.replicate 32 0⟩ : Fz).cells.toArray
  have e22a := (Ext.refl v19).alloc (.cells (⟨0, 0, List.replicate 32 0⟩ : Fz).cells.toArray 27)
  have g23l : v19.heap.size < (v19.alloc (.cells (⟨0, 0, List.replicate 32 0⟩ : Fz).cells.toArray 27)).heap.size := Blk.lt hA0
  obtain ⟨g23, g23e⟩ : ∃ g23, g23 = v19.heap.size := ⟨_, rfl⟩
  have g23b : v19.heap.size ≤ g23 := by omega
  rw [← g23e] at hA0 g23l
  try rw [← g23e]
  generalize v19.alloc (.cells (⟨0, 0, List.replicate 32 0⟩ : Fz).cells.toArray 27) = v21' at *
  refine wpList_store_row rfl 27 (.tmp 20) (.tmp 95) rfl g23 xf.cells.toArray (by rfl) (by rfl) 27 _ hA0 (Seal.size_fz xf x1) (by simp only [List.size_toArray]; rw [Seal.Fz.cells_length xf x1]; rfl) (all_oneCell_toArray (Seal.Fz.one xf)) ?_
  simp only [Act.put, List.setIfInBounds_toArray, List.set_cons_zero, List.set_cons_succ]
  have hA : FzAt (v21'.setRow g23 xf.cells.toArray) g23 xf := Blk.row hA0 _
  have e22 : Ext v19 (v21'.setRow g23 xf.cells.toArray) := e22a.row g23b _
  clear hA0 e22a g23l
  generalize v21'.setRow g23 xf.cells.toArray = v21 at *
  clear v21' g23e
  replace hF := hF.ext e22
  replace hH := hH.ext e22
  replace hT := hT.ext e22
  replace hE := hE.trans e22
  clear e22
  go_wp2_with fail
  refine (ReadHead_calls sh (by omega) _).mono ?_; rw [← Hxh.out, ← Hrh.out]; rintro e v24 ⟨rfl, e25⟩
  replace hF := hF.ext e25
  replace hH := hH.ext e25
  replace hT := hT.ext e25
  replace hA := hA.ext e25
  replace hE := hE.trans e25
  clear e25
  unfold Seal.Hd.v
  go_wp2_with (refine stop_store 25 (.tmp 22) (.tmp 100) rfl ?_)
  refine ⟨?_⟩
  change wpList _ _ _ _ _ (v24.alloc (.cells (⟨0, List.replicate 32 0, 0, List.replicate 32 0⟩ : Hd).cells.toArray 25))
  have hB0 := Blk.new v24 25 (⟨0, List.replicate 32 0, 0, List.replicate 32 0⟩ : Hd).cells.toArray
  have e27a := (Ext.refl v24).alloc (.cells (⟨0, List.replicate 32 0, 0, List.replicate 32 0⟩ : Hd).cells.toArray 25)
  have g28l : v24.heap.size < (v24.alloc (.cells (⟨0, List.replicate 32 0, 0, List.replicate 32 0⟩ : Hd).cells.toArray 25)).heap.size := Blk.lt hB0
  obtain ⟨g28, g28e⟩ : ∃ g28, g28 = v24.heap.size := ⟨_, rfl⟩
  have g28b : v24.heap.size ≤ g28 := by omega
  rw [← g28e] at hB0 g28l
  try rw [← g28e]
  generalize v24.alloc (.cells (⟨0, List.replicate 32 0, 0, List.replicate 32 0⟩ : Hd).cells.toArray 25) = v26' at *
  refine wpList_store_row rfl 25 (.tmp 22) (.tmp 100) rfl g28 xh.cells.toArray (by rfl) (by rfl) 25 _ hB0 (Seal.size_hd xh x2 x4) (by simp only [List.size_toArray]; rw [Seal.Hd.cells_length xh x2 x4]; rfl) (all_oneCell_toArray (Seal.Hd.one xh)) ?_
  simp only [Act.put, List.setIfInBounds_toArray, List.set_cons_zero, List.set_cons_succ]
  have hB : HdAt (v26'.setRow g28 xh.cells.toArray) g28 xh := Blk.row hB0 _
  have e27 : Ext v24 (v26'.setRow g28 xh.cells.toArray) := e27a.row g28b _
  clear hB0 e27a g28l
  generalize v26'.setRow g28 xh.cells.toArray = v26 at *
  clear v26' g28e
  replace hF := hF.ext e27
  replace hH := hH.ext e27
  replace hT := hT.ext e27
  replace hA := hA.ext e27
  replace hE := hE.trans e27
  clear e27
  go_wp2_with fail
  refine (ReadStone_calls st (by omega) _).mono ?_; rw [← Hxt.out, ← Hrt.out]; rintro e v29 ⟨rfl, e30⟩
  replace hF := hF.ext e30
  replace hH := hH.ext e30
  replace hT := hT.ext e30
  replace hA := hA.ext e30
  replace hB := hB.ext e30
  replace hE := hE.trans e30
  clear e30
  unfold Seal.St.v
  go_wp2_with (refine stop_store 29 (.tmp 24) (.tmp 105) rfl ?_)
  refine ⟨?_⟩
  change wpList _ _ _ _ _ (v29.alloc (.cells (⟨⟨0, 0, List.replicate 32 0⟩, 0, List.replicate 32 0⟩ : St).cells.toArray 29))
  have hC0 := Blk.new v29 29 (⟨⟨0, 0, List.replicate 32 0⟩, 0, List.replicate 32 0⟩ : St).cells.toArray
  have e32a := (Ext.refl v29).alloc (.cells (⟨⟨0, 0, List.replicate 32 0⟩, 0, List.replicate 32 0⟩ : St).cells.toArray 29)
  have g33l : v29.heap.size < (v29.alloc (.cells (⟨⟨0, 0, List.replicate 32 0⟩, 0, List.replicate 32 0⟩ : St).cells.toArray 29)).heap.size := Blk.lt hC0
  obtain ⟨g33, g33e⟩ : ∃ g33, g33 = v29.heap.size := ⟨_, rfl⟩
  have g33b : v29.heap.size ≤ g33 := by omega
  rw [← g33e] at hC0 g33l
  try rw [← g33e]
  generalize v29.alloc (.cells (⟨⟨0, 0, List.replicate 32 0⟩, 0, List.replicate 32 0⟩ : St).cells.toArray 29) = v31' at *
  refine wpList_store_row rfl 29 (.tmp 24) (.tmp 105) rfl g33 xt.cells.toArray (by rfl) (by rfl) 29 _ hC0 (Seal.size_st xt x3 x5) (by simp only [List.size_toArray]; rw [Seal.St.cells_length xt x3 x5]; rfl) (all_oneCell_toArray (Seal.St.one xt)) ?_
  simp only [Act.put, List.setIfInBounds_toArray, List.set_cons_zero, List.set_cons_succ]
  have hC : StAt (v31'.setRow g33 xt.cells.toArray) g33 xt := Blk.row hC0 _
  have e32 : Ext v29 (v31'.setRow g33 xt.cells.toArray) := e32a.row g33b _
  clear hC0 e32a g33l
  generalize v31'.setRow g33 xt.cells.toArray = v31 at *
  clear v31' g33e
  replace hF := hF.ext e32
  replace hH := hH.ext e32
  replace hT := hT.ext e32
  replace hA := hA.ext e32
  replace hB := hB.ext e32
  replace hE := hE.trans e32
  clear e32
  rcases O1.out with ⟨he, hx, hr⟩ | he
  · skip
    rw [hx] at hA
    have hb01 : (ef != 0) = false := by rw [he]; rfl
    have hb02 : (rf == 0) = true := by rw [hr]; rfl
    clear he hx hr O1
    go_wp2_with (refine stop_load 27 (.tmp 20) rfl ?_)
    refine ⟨?_⟩
    refine list_wantS (by rfl) (fun K hK => ?_)
    refine wp_load_row 27 (.tmp 20) rfl g23 (by rfl) 27 _ (0, 0) _ hA Tryd.underlying27 rfl (Seal.size_fz f lf) ?_
    refine hK _ _ ?_; clear hK K
    simp only [Act.put, List.setIfInBounds_toArray, List.set_cons_zero, List.set_cons_succ]
    go_wp2_with (refine stop_load 27 (.tmp 3) rfl ?_)
    refine ⟨?_⟩
    refine list_wantS (by rfl) (fun K hK => ?_)
    refine wp_load_row 27 (.tmp 3) rfl w.heap.size (by rfl) 27 _ (0, 0) _ hF Tryd.underlying27 rfl (Seal.size_fz f lf) ?_
    refine hK _ _ ?_; clear hK K
    simp only [Act.put, List.setIfInBounds_toArray, List.set_cons_zero, List.set_cons_succ]
    rcases O2.out with ⟨he, hx, hr⟩ | he
    · skip
      rw [hx] at hB
      have hb11 : (eh != 0) = false := by rw [he]; rfl
      have hb12 : (rh == 0) = true := by rw [hr]; rfl
      clear he hx hr O2
      go_wp2_with (refine stop_load 25 (.tmp 22) rfl ?_)
      refine ⟨?_⟩
      refine list_wantS (by rfl) (fun K hK => ?_)
      refine wp_load_row 25 (.tmp 22) rfl g28 (by rfl) 25 _ (0, 0) _ hB Tryd.underlying25 rfl (Seal.size_hd h lh mh) ?_
      refine hK _ _ ?_; clear hK K
      simp only [Act.put, List.setIfInBounds_toArray, List.set_cons_zero, List.set_cons_succ]
      go_wp2_with (refine stop_load 25 (.tmp 4) rfl ?_)
      refine ⟨?_⟩
      refine list_wantS (by rfl) (fun K hK => ?_)
      refine wp_load_row 25 (.tmp 4) rfl (w.heap.size + 1) (by rfl) 25 _ (0, 0) _ hH Tryd.underlying25 rfl (Seal.size_hd h lh mh) ?_
      refine hK _ _ ?_; clear hK K
      simp only [Act.put, List.setIfInBounds_toArray, List.set_cons_zero, List.set_cons_succ]
      rcases O3.out with ⟨he, hx, hr⟩ | he
      · skip
        rw [hx] at hC
        have hb21 : (et != 0) = false := by rw [he]; rfl
        have hb22 : (rt == 0) = true := by rw [hr]; rfl
        clear he hx hr O3
        go_wp2_with (refine stop_load 29 (.tmp 24) rfl ?_)
        refine ⟨?_⟩
        refine list_wantS (by rfl) (fun K hK => ?_)
        refine wp_load_row 29 (.tmp 24) rfl g33 (by rfl) 29 _ (0, 0) _ hC Tryd.underlying29 rfl (Seal.size_st t lt mt) ?_
        refine hK _ _ ?_; clear hK K
        simp only [Act.put, List.setIfInBounds_toArray, List.set_cons_zero, List.set_cons_succ]
        go_wp2_with (refine stop_load 29 (.tmp 5) rfl ?_)
        refine ⟨?_⟩
        refine list_wantS (by rfl) (fun K hK => ?_)
        refine wp_load_row 29 (.tmp 5) rfl (w.heap.size + 2) (by rfl) 29 _ (0, 0) _ hT Tryd.underlying29 rfl (Seal.size_st t lt mt) ?_
        refine hK _ _ ?_; clear hK K
        simp only [Act.put, List.setIfInBounds_toArray, List.set_cons_zero, List.set_cons_succ]
        go_wp2_with fail
        go_ret
        exact ⟨rfl, hE⟩
      · skip
        have hb21 : (et != 0) = true := by rw [he]; rfl
        clear he O3
        go_wp2_with fail
        go_ret
        exact ⟨rfl, hE⟩
    · skip
      have hb11 : (eh != 0) = true := by rw [he]; rfl
      clear he O2
      rcases O3.out with ⟨he, hx, hr⟩ | he
      · skip
        rw [hx] at hC
        have hb21 : (et != 0) = false := by rw [he]; rfl
        have hb22 : (rt == 0) = true := by rw [hr]; rfl
        clear he hx hr O3
        go_wp2_with (refine stop_at 123 rfl ?_)
        refine ⟨?_⟩
        iterate 28 (first | go_skip | (refine list_wantS (by rfl) (fun K hK => ?_); refine wp_load_row 29 (.tmp 24) rfl g33 (by rfl) 29 _ (0, 0) _ hC Tryd.underlying29 rfl (Seal.size_st t lt mt) ?_; refine hK _ _ ?_; clear hK K; simp only [Act.put, List.setIfInBounds_toArray, List.set_cons_zero, List.set_cons_succ]) | (refine list_wantS (by rfl) (fun K hK => ?_); refine wp_load_row 29 (.tmp 5) rfl (w.heap.size + 2) (by rfl) 29 _ (0, 0) _ hT Tryd.underlying29 rfl (Seal.size_st t lt mt) ?_; refine hK _ _ ?_; clear hK K; simp only [Act.put, List.setIfInBounds_toArray, List.set_cons_zero, List.set_cons_succ]) | go_values | go_guarded | go_step)
        go_wp2_with fail
        go_ret
        exact ⟨rfl, hE⟩
      · skip
        have hb21 : (et != 0) = true := by rw [he]; rfl
        clear he O3
        go_wp2_with fail
        go_ret
        exact ⟨rfl, hE⟩
  · skip
    have hb01 : (ef != 0) = true := by rw [he]; rfl
    clear he O1
    rcases O2.out with ⟨he, hx, hr⟩ | he
    · skip
      rw [hx] at hB
      have hb11 : (eh != 0) = false := by rw [he]; rfl
      have hb12 : (rh == 0) = true := by rw [hr]; rfl
      clear he hx hr O2
      go_wp2_with (refine stop_at 110 rfl ?_)
      refine ⟨?_⟩
      iterate 28 (first | go_skip | (refine list_wantS (by rfl) (fun K hK => ?_); refine wp_load_row 25 (.tmp 22) rfl g28 (by rfl) 25 _ (0, 0) _ hB Tryd.underlying25 rfl (Seal.size_hd h lh mh) ?_; refine hK _ _ ?_; clear hK K; simp only [Act.put, List.setIfInBounds_toArray, List.set_cons_zero, List.set_cons_succ]) | (refine list_wantS (by rfl) (fun K hK => ?_); refine wp_load_row 25 (.tmp 4) rfl (w.heap.size + 1) (by rfl) 25 _ (0, 0) _ hH Tryd.underlying25 rfl (Seal.size_hd h lh mh) ?_; refine hK _ _ ?_; clear hK K; simp only [Act.put, List.setIfInBounds_toArray, List.set_cons_zero, List.set_cons_succ]) | go_values | go_guarded | go_step)
      rcases O3.out with ⟨he, hx, hr⟩ | he
      · skip
        rw [hx] at hC
        have hb21 : (et != 0) = false := by rw [he]; rfl
        have hb22 : (rt == 0) = true := by rw [hr]; rfl
        clear he hx hr O3
        go_wp2_with (refine stop_load 29 (.tmp 24) rfl ?_)
        refine ⟨?_⟩
        refine list_wantS (by rfl) (fun K hK => ?_)
        refine wp_load_row 29 (.tmp 24) rfl g33 (by rfl) 29 _ (0, 0) _ hC Tryd.underlying29 rfl (Seal.size_st t lt mt) ?_
        refine hK _ _ ?_; clear hK K
        simp only [Act.put, List.setIfInBounds_toArray, List.set_cons_zero, List.set_cons_succ]
        go_wp2_with (refine stop_load 29 (.tmp 5) rfl ?_)
        refine ⟨?_⟩
        refine list_wantS (by rfl) (fun K hK => ?_)
        refine wp_load_row 29 (.tmp 5) rfl (w.heap.size + 2) (by rfl) 29 _ (0, 0) _ hT Tryd.underlying29 rfl (Seal.size_st t lt mt) ?_
        refine hK _ _ ?_; clear hK K
        simp only [Act.put, List.setIfInBounds_toArray, List.set_cons_zero, List.set_cons_succ]
        go_wp2_with fail
        go_ret
        exact ⟨rfl, hE⟩
      · skip
        have hb21 : (et != 0) = true := by rw [he]; rfl
        clear he O3
        go_wp2_with fail
        go_ret
        exact ⟨rfl, hE⟩
    · skip
      have hb11 : (eh != 0) = true := by rw [he]; rfl
      clear he O2
      rcases O3.out with ⟨he, hx, hr⟩ | he
      · skip
        rw [hx] at hC
        have hb21 : (et != 0) = false := by rw [he]; rfl
        have hb22 : (rt == 0) = true := by rw [hr]; rfl
        clear he hx hr O3
        go_wp2_with (refine stop_at 110 rfl ?_)
        refine ⟨?_⟩
        iterate 52 (first | go_skip | (refine list_wantS (by rfl) (fun K hK => ?_); refine wp_load_row 29 (.tmp 24) rfl g33 (by rfl) 29 _ (0, 0) _ hC Tryd.underlying29 rfl (Seal.size_st t lt mt) ?_; refine hK _ _ ?_; clear hK K; simp only [Act.put, List.setIfInBounds_toArray, List.set_cons_zero, List.set_cons_succ]) | (refine list_wantS (by rfl) (fun K hK => ?_); refine wp_load_row 29 (.tmp 5) rfl (w.heap.size + 2) (by rfl) 29 _ (0, 0) _ hT Tryd.underlying29 rfl (Seal.size_st t lt mt) ?_; refine hK _ _ ?_; clear hK K; simp only [Act.put, List.setIfInBounds_toArray, List.set_cons_zero, List.set_cons_succ]) | go_values | go_guarded | go_step)
        go_wp2_with fail
        go_ret
        exact ⟨rfl, hE⟩
      · skip
        have hb21 : (et != 0) = true := by rw [he]; rfl
        clear he O3
        go_wp2_with fail
        go_ret
        exact ⟨rfl, hE⟩

set_option maxRecDepth 100000 in
theorem contract (H : Type) (enc : TypeId × Value → H) (W : World) (base : Nat) (args : Array Value) (ds gs : List (DataW H)) (before : List MemPlace)
    (hval0 : ∀ (j : Nat) t v, Tryd.f8.params[j]? = some t → args[j]? = some v → Value.okWide Tryd.prog W .any base t v)
    (hW : DataW.Whole enc Tryd.prog Tryd.f8.params.toList Rows.sealBytesSpec.vars false W args.toList ds gs before) (hL : laidMetH Tryd.prog Rows.sealBytesRow.laid W) :
    Calls Tryd.prog 8 args W fun e W' => ∃ v, e = .returned v ∧ Rows.sealBytesSpec.post enc Tryd.prog Tryd.f8 false true false false W args v W' := by
  have K : Keys W := keys_of hL
  have hval : ∀ (j : Nat) t v, Tryd.f8.params[j]? = some t → args[j]? = some v → Value.okWide Tryd.prog W .any base t v := hval0
  have hW' := hW
  obtain ⟨p, q, hA0, hV, rfl, hfz, hnd⟩ := hW
  have hA : DataW.TrodAll enc Tryd.prog W 0 (fun _ => true) true Tryd.f8.params.toList args.toList ds p := hA0
  rw [Tryd.params8] at hA hval
  obtain ⟨v0, vs0, d0, ds0, p0, q0, hargs, rfl, rfl, hx0, r0⟩ := trodAll_cons hA
  obtain ⟨v1, vs1, d1, ds1, p1, q1, rfl, rfl, rfl, hx1, r1⟩ := trodAll_cons r0
  obtain ⟨v2, vs2, d2, ds2, p2, q2, rfl, rfl, rfl, hx2, r2⟩ := trodAll_cons r1
  obtain ⟨rfl, rfl, rfl⟩ := trodAll_nil r2
  obtain rfl : args = #[v0, v1, v2] := by cases args; simp_all
  obtain ⟨rfl, rfl⟩ := trodVars_none hV
  obtain ⟨f, rfl, hf⟩ := op_fz (hval 0 27 v0 rfl rfl) (tr_of hx0)
  obtain ⟨h, rfl, hh⟩ := op_hd (hval 1 25 v1 rfl rfl) (tr_of hx1)
  obtain ⟨t, rfl, ht⟩ := op_st (hval 2 29 v2 rfl rfl) (tr_of hx2)
  refine (walk f h t hf hh ht W K).mono fun e W' ⟨he, hg⟩ => ?_
  subst he
  exact ⟨_, rfl, law_post hW' rfl rfl (by kernel_rfl) rfl rfl rfl hg⟩

theorem laid_met (os : Os) : laidMet Tryd.prog Rows.sealBytesRow.laid ((keysWorld os).forCall (fun _ _ => 0) ⟨#[], #[.agg (Array.mk (α := Value) ((Value.int IntKind.i64 0 :: Value.int IntKind.i64 0 :: List.replicate 32 (Value.int IntKind.u8 0)))), .agg (Array.mk (α := Value) ((Value.int IntKind.i64 0 :: (List.replicate 32 (Value.int IntKind.u8 0) ++ (Value.int IntKind.i64 0 :: List.replicate 32 (Value.int IntKind.u8 0)))))), .agg (Array.mk (α := Value) (((Value.int IntKind.i64 0 :: Value.int IntKind.i64 0 :: List.replicate 32 (Value.int IntKind.u8 0)) ++ (Value.int IntKind.i64 0 :: List.replicate 32 (Value.int IntKind.u8 0)))))], []⟩).memory :=
  laidMet_of_run' 8 (by kernel_rfl) (by kernel_rfl)
theorem reads (os : Os) {H : Type} (enc : TypeId × Value → H) : ∃ x, DataW.whole enc Tryd.prog ((keysWorld os).forCall (fun _ _ => 0) ⟨#[], #[.agg (Array.mk (α := Value) ((Value.int IntKind.i64 0 :: Value.int IntKind.i64 0 :: List.replicate 32 (Value.int IntKind.u8 0)))), .agg (Array.mk (α := Value) ((Value.int IntKind.i64 0 :: (List.replicate 32 (Value.int IntKind.u8 0) ++ (Value.int IntKind.i64 0 :: List.replicate 32 (Value.int IntKind.u8 0)))))), .agg (Array.mk (α := Value) (((Value.int IntKind.i64 0 :: Value.int IntKind.i64 0 :: List.replicate 32 (Value.int IntKind.u8 0)) ++ (Value.int IntKind.i64 0 :: List.replicate 32 (Value.int IntKind.u8 0)))))], []⟩).memory Tryd.f8.params.toList Rows.sealBytesSpec.vars false (#[.agg (Array.mk (α := Value) ((Value.int IntKind.i64 0 :: Value.int IntKind.i64 0 :: List.replicate 32 (Value.int IntKind.u8 0)))), .agg (Array.mk (α := Value) ((Value.int IntKind.i64 0 :: (List.replicate 32 (Value.int IntKind.u8 0) ++ (Value.int IntKind.i64 0 :: List.replicate 32 (Value.int IntKind.u8 0)))))), .agg (Array.mk (α := Value) (((Value.int IntKind.i64 0 :: Value.int IntKind.i64 0 :: List.replicate 32 (Value.int IntKind.u8 0)) ++ (Value.int IntKind.i64 0 :: List.replicate 32 (Value.int IntKind.u8 0)))))] : Array Value).toList 8 = some x :=
  Option.isSome_iff_exists.1 (by kernel_rfl)
set_option maxRecDepth 100000 in
theorem lifted (os : Os) (started : os.Started) (H : Type) (enc : TypeId × Value → H) (F : Stop.Interp) :
    ReturnsInHanded {} Tryd.checked os 8 .any ((OpenSpec.ofChange Rows.sealBytesSpec).preRow enc Tryd.prog Tryd.f8 Rows.sealBytesRow.domain false Rows.sealBytesRow.laid) (((OpenSpec.ofChange Rows.sealBytesSpec).at F).post enc Tryd.prog Tryd.f8 false true false false) := by
  obtain ⟨x, hx⟩ := reads os enc
  refine returnsInHanded_of_row (C := Tryd.checked) (s := OpenSpec.ofChange Rows.sealBytesSpec) own_ started (by kernel_rfl) Tryd.func8
    (witness_row_at (enc := enc) (C := Tryd.checked) false (keysWorld os) #[.agg (Array.mk (α := Value) ((Value.int IntKind.i64 0 :: Value.int IntKind.i64 0 :: List.replicate 32 (Value.int IntKind.u8 0)))), .agg (Array.mk (α := Value) ((Value.int IntKind.i64 0 :: (List.replicate 32 (Value.int IntKind.u8 0) ++ (Value.int IntKind.i64 0 :: List.replicate 32 (Value.int IntKind.u8 0)))))), .agg (Array.mk (α := Value) (((Value.int IntKind.i64 0 :: Value.int IntKind.i64 0 :: List.replicate 32 (Value.int IntKind.u8 0)) ++ (Value.int IntKind.i64 0 :: List.replicate 32 (Value.int IntKind.u8 0)))))] rfl (by kernel_rfl) (by kernel_rfl) (by kernel_rfl)
      (OpenSpec.preRow_of_cond 8 hx rfl (fun k hk => by cases hk) (by kernel_rfl) (laid_met os))) ?_
  intro W base args ds gs before hval hW _ _ _ hL _ _
  exact contract H enc W base args ds gs before hval hW hL

theorem said : Rows.SealBytesSaid :=
  OpenClaim.holds_of_cond 8 Tryd.f8 rfl rfl rfl rfl rfl rfl rfl ⟨rfl, rfl, rfl, rfl, rfl⟩ rfl rfl rfl rfl rfl (by kernel_rfl) Tryd.func8 (by kernel_rfl)
    (of_decide_eq_true (by kernel_rfl)) (by unfold Func.isWrapper; first | (rw [if_pos (by decide +kernel)]; kernel_rfl) | (rw [if_neg (by decide +kernel)]; exact ⟨rfl, rfl⟩))
    (fun os started H enc _ F => by rw [OpenClaim.pre_eq_preRow]; exact lifted os started H enc F)
theorem plain (f : FuncId) (fn : Func) (hf : Tryd.pinned.checked.prog.funcNamed "scrinium/scriniumlaw16.SealBytes" = some f) (hfn : Tryd.pinned.checked.prog.funcs[f]? = some fn) :
    false = Tryd.pinned.checked.prog.looks [] ∧ ∀ (j : Nat) t, fn.params[j]? = some t → Tryd.pinned.checked.prog.wantsStandIn t = false := by
  obtain rfl : f = 8 := Option.some.inj ((show Tryd.prog.funcNamed "scrinium/scriniumlaw16.SealBytes" = some 8 by kernel_rfl).symm.trans hf) |>.symm
  obtain rfl : fn = Tryd.f8 := (Option.some.inj (Tryd.func8.symm.trans hfn)).symm
  refine ⟨by kernel_rfl, fun j t ht => ?_⟩
  rw [Tryd.params8] at ht
  have hm : t ∈ ([27, 25, 29] : List TypeId) := by simpa using Array.mem_of_getElem? ht
  have hall : (([27, 25, 29] : List TypeId).all fun u => !Tryd.prog.wantsStandIn u) = true := by kernel_rfl
  exact (show Tryd.prog.wantsStandIn t = false by simpa using List.all_eq_true.1 hall t hm)
theorem proved : Rows.SealBytesCardSaid :=
  Claim7.holds_tied_plain_at .later [] _ _ _ _ said (fun _ h => by cases h) (by kernel_rfl) (fun _ h => by cases h) sealBytes_row_tie rfl ⟨rfl, rfl⟩ (by kernel_rfl) rfl plain (by kernel_rfl)

end Go.Proofs.YtcgnjdkennkheaaDoor.sealBytes
