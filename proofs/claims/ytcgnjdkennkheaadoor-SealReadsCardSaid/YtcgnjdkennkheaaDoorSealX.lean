/-
  Reading of layer 16: the document's ReadStone.
-/
import Derived.Test.YtcgnjdkennkheaaDoorSealV
set_option linter.unusedVariables false
set_option maxRecDepth 100000
set_option linter.unusedSimpArgs false
namespace Go.Proofs.YtcgnjdkennkheaaDoor
open Go.RowKit
open Seal (Fz Hd St)
attribute [local go_sem] bs_size bs_toList2 bs_append bs_extract_end bs_extract_begin bs_get wrap64_b


set_option maxHeartbeats 8000000 in
theorem refReadStone_calls (s : List UInt8) (hs : s.length ≤ 1099511627776) (w : World) :
    Calls Tryd.prog 27 #[.string (bs s)] w fun e w' => e = .returned (.tuple #[((Seal.St.read s).getD Seal.zS).v, .int .i64 (Seal.errOf (Seal.St.read s))]) ∧ Ext w w' := by
  have hR : StAt (w.alloc (.cells Seal.zS.cells.toArray 29)) w.heap.size Seal.zS := by
    have := Blk.new w 29 Seal.zS.cells.toArray
    exact this
  have hE : Ext w (w.alloc (.cells Seal.zS.cells.toArray 29)) := (Ext.refl w).alloc _
  have hread := Seal.St.readR_eq s
  rw [← hread]
  obtain ⟨o, ho⟩ : ∃ o, o = Seal.St.readR s := ⟨_, rfl⟩
  rw [← ho]
  unfold Seal.St.readR at ho
  simp only at ho
  have HN1 := fun w g s' hw (hs' : s'.length ≤ 1099511627776) => rfText_calls g s' (Seal.begin_ s 84) 200 w hw hs' (by omega) (by omega)
  have HN2 := fun w g s' hw (hs' : s'.length ≤ 1099511627776) => rfNum_calls g s' ((Seal.begin_ s 84).text 200).2 1125899906842624 w hw hs' (by omega) (by omega)
  have HN3 := fun w g s' hw (hs' : s'.length ≤ 1099511627776) => rfHash_calls g s' (((Seal.begin_ s 84).text 200).2.num 1125899906842624).2 w hw hs'
  have ht := text_atmost (Seal.begin_ s 84) 200 (by omega)
  generalize (Seal.begin_ s 84).text 200 = a at *
  generalize a.2.num 1125899906842624 = b at *
  have hz32 : (Seal.hashR b.2).1.length = 32 := by
    unfold Seal.hashR
    split
    · assumption
    · simp
  generalize Seal.hashR b.2 = c at *
  have HRd := fun w => refReadFreeze_calls a.1 (by omega) w
  rw [← Seal.Fz.readR_eq] at HRd
  have f1 : (((Seal.Fz.readR a.1).getD Seal.zF) : Fz).root.length = 32 := by
    cases h : Seal.Fz.readR a.1 with
    | none => rfl
    | some f => exact ((Seal.Fz.readR_iff a.1 f).1 h).2.1
  obtain ⟨f, hf⟩ : ∃ f, f = (Seal.Fz.readR a.1).getD Seal.zF := ⟨_, rfl⟩
  obtain ⟨fe, hfe⟩ : ∃ fe, fe = Seal.errOf (Seal.Fz.readR a.1) := ⟨_, rfl⟩
  rw [← hf] at HRd f1
  rw [← hfe] at HRd
  obtain ⟨sv, hsv⟩ : ∃ sv : St, sv = ⟨f, b.1, List.replicate 32 0⟩ := ⟨_, rfl⟩
  have sv1 : sv.fz.root.length = 32 := by rw [hsv]; exact f1
  have sv2 : sv.mac.length = 32 := by rw [hsv]; simp
  obtain ⟨v, hv⟩ : ∃ v : St, v = ⟨sv.fz, sv.at_, c.1⟩ := ⟨_, rfl⟩
  have vr : v.fz.root.length = 32 := by rw [hv]; exact sv1
  have vm : v.mac.length = 32 := by rw [hv]; exact hz32
  have hbu := built_st2 f f1 b.1
  rw [← hsv] at hbu
  have hcase : (fe = 0 ∧ c.2.endE = 0 ∧ o = some v) ∨ (fe = 10 ∧ o = none) ∨ (fe = 0 ∧ c.2.endE = 10 ∧ o = none) := by
    rw [ho]
    cases hq : Seal.Fz.readR a.1 with
    | none =>
      refine .inr (.inl ⟨?_, rfl⟩)
      rw [hfe, hq]
      rfl
    | some f' =>
      have hff : f = f' := by rw [hf, hq]; rfl
      have hfe0 : fe = 0 := by rw [hfe, hq]; rfl
      by_cases he0 : c.2.endE = 0
      · refine .inl ⟨hfe0, he0, ?_⟩
        show (if c.2.endE = 0 then some (⟨f', b.1, c.1⟩ : St) else none) = some v
        rw [if_pos he0, hv, hsv, ← hff]
      · refine .inr (.inr ⟨hfe0, ?_, ?_⟩)
        · unfold Oct.Sc.endE at he0 ⊢
          split
          · rfl
          · rename_i h
            rw [if_neg h] at he0
            exact absurd rfl he0
        · show (if c.2.endE = 0 then some (⟨f', b.1, c.1⟩ : St) else none) = none
          rw [if_neg he0]
  have H1 := Lib.hid HN1; have H2 := Lib.hid HN2; have H3 := Lib.hid HN3; have HR := Lib.hid HRd; have Hv := Lib.hid hv
  clear HN1 HN2 HN3 HRd hread hv hf hfe hsv ho ht
  rcases hcase with ⟨hfe, he, rfl⟩ | ⟨hfe, rfl⟩ | ⟨hfe, he, rfl⟩
  · simp only [Option.getD_some, show Seal.errOf (some v) = 0 from rfl]
    subst hfe
    unfold Seal.St.v
    go_enter Tryd.func27, Tryd.ntmps27
    go_wp2_with fail
    change Calls _ _ _ (w.alloc (.cells Seal.zS.cells.toArray 29)) _
    generalize (w.alloc (.cells Seal.zS.cells.toArray 29)) = w0 at *
    refine (begin_calls s 84 _ hs).mono ?_; rintro e w1 ⟨g, s', rfl, hgB, hS, hs', e1⟩
    have hRl := hR.lt
    replace hR := hR.ext e1
    have hEB := hE.trans e1
    have hU : Upd g w1 w1 := Upd.refl _ _
    have hgl := hS.lt
    have hgw : w.heap.size < g := by omega
    clear e1 hE
    go_wp2_with fail
    refine (H1.out _ g s' hS (by omega)).mono ?_; rintro e v1 ⟨rfl, hS', hU'⟩
    replace hS := hS'
    replace hR := hR.upd hU' (by omega)
    have sz1 := hU'.size
    replace hU := hU.trans hU'
    clear hS' hU'
    go_wp2_with fail
    refine (HR.out _).mono ?_; rintro e v2 ⟨rfl, e3⟩
    replace hS := hS.ext e3
    replace hR := hR.ext e3
    have sz3 := e3.size
    replace hU := hU.ext e3
    clear e3
    unfold Seal.Fz.v at *
    go_wp2_with (refine stop_store 27 (.tmp 5) (.tmp 14) rfl ?_)
    refine ⟨?_⟩
    change wpList _ _ _ _ _ (v2.alloc (.cells (⟨0, 0, List.replicate 32 0⟩ : Fz).cells.toArray 27))
    have hN0 := Blk.new v2 27 (⟨0, 0, List.replicate 32 0⟩ : Fz).cells.toArray
    have ea := (Ext.refl v2).alloc (.cells (⟨0, 0, List.replicate 32 0⟩ : Fz).cells.toArray 27)
    have gs5 := hS.lt
    replace hS := hS.ext ea
    have gb_hR5 := hR.lt
    replace hR := hR.ext ea
    replace hU := hU.ext ea
    clear ea
    have hUs5 := hU.size
    obtain ⟨g5, g5e⟩ : ∃ g5, g5 = v2.heap.size := ⟨_, rfl⟩
    try rw [← g5e]
    rw [← g5e] at hN0
    have g5b : v2.heap.size ≤ g5 := by omega
    have g5c : g5 ≤ v2.heap.size := by omega
    clear g5e
    generalize v2.alloc (.cells (⟨0, 0, List.replicate 32 0⟩ : Fz).cells.toArray 27) = v4' at *
    refine wpList_store_row rfl 27 (.tmp 5) (.tmp 14) rfl g5 f.cells.toArray (by rfl) (by rfl) 27 _ hN0 (Seal.size_fz f f1) (by simp only [List.size_toArray]; rw [Seal.Fz.cells_length f f1]; rfl) (all_oneCell_toArray (Seal.Fz.one f)) ?_
    simp only [Act.put, List.setIfInBounds_toArray, List.set_cons_zero, List.set_cons_succ]
    have hN : FzAt (v4'.setRow g5 f.cells.toArray) g5 f := Blk.row hN0 _
    replace hS := hS.rowF (show _ ≠ g5 by omega) f.cells.toArray
    replace hR := hR.rowF (show _ ≠ g5 by omega) f.cells.toArray
    replace hU := hU.rowNew (show w1.heap.size ≤ g5 by omega) f.cells.toArray
    clear hN0
    generalize v4'.setRow g5 f.cells.toArray = v4 at *
    go_wp2_with fail
    have hgf := hN.lt
    have hrr := hR.lt
    have hss := hS.lt
    refine region_keepP (fun k => k ≠ g) 5 (Plan.run [0, 1] (.two 2 4 (Plan.run [3, 4] .nil) (Plan.run [2, 3] .nil))) (by kernel_rfl) (by kernel_rfl) ?_; simp only [Plan.run, List.drop_succ_cons, List.drop_zero, List.drop_nil]
    refine planH_row (by simp only [List.getElem?_toArray, List.getElem?_cons_zero, List.getElem?_cons_succ]; rfl) (by rfl) (by rfl) 27 (.tmp 5) rfl g5 (by rfl) _ _ _ hN (by show g5 ≠ g; omega) Tryd.underlying27 rfl (Seal.size_fz f f1) ?_
    simp only [Act.put, List.setIfInBounds_toArray, List.set_cons_zero, List.set_cons_succ]
    iterate 1 (first | (refine plan_quiet (by simp only [List.getElem?_toArray, List.getElem?_cons_zero, List.getElem?_cons_succ]; rfl) (by rfl) (by rfl) (fun K hK => ?_); go_big_quiet_op; refine hK _ ?_; clear hK K) | (refine plan_skip (by simp only [List.getElem?_toArray, List.getElem?_cons_zero, List.getElem?_cons_succ]; rfl) (by rfl) ?_; simp only [Act.put, List.setIfInBounds_toArray, List.set_cons_zero, List.set_cons_succ]))
    refine plan_two ?_ ?_
    · skip
      (refine plan_loud (by simp only [List.getElem?_toArray, List.getElem?_cons_zero, List.getElem?_cons_succ]; rfl) (by rfl) (by rfl) (fun K E hK => ?_); go_big_op)
      refine (H2.out v4.drew g s' hS.drew' (by omega)).mono ?_; rintro e v90 ⟨rfl, hS', hU'⟩
      have hk1 : Keep (fun k => k ≠ g) v4 v90 := (Keep.refl _ v4).drew.trans (Keep.of_upd hU' (by simp))
      refine hK _ _ (held_of hk1) ?_; clear hK K E
      refine plan_build (by simp only [List.getElem?_toArray, List.getElem?_cons_zero, List.getElem?_cons_succ]; rfl) (by rfl) (by rfl) 29 _ rfl _ (by rw [Array.toList_map]; rfl) _ hbu ?_
      simp only [Act.put, List.setIfInBounds_toArray, List.set_cons_zero, List.set_cons_succ]
      refine plan_one ?_
      (refine plan_loud (by simp only [List.getElem?_toArray, List.getElem?_cons_zero, List.getElem?_cons_succ]; rfl) (by rfl) (by rfl) (fun K E hK => ?_); go_big_op)
      refine hK _ _ (held_of (hk1.alloc _)) ?_; clear hK K E
      refine plan_nil ?_
      change wpList _ _ _ _ _ (v90.alloc (.cells Seal.zS.cells.toArray 29))
      replace hS := hS'
      replace hR := (hR.drew').upd hU' (by omega)
      replace hU := hU.drew.trans hU'
      have sz90 := hU'.size
      clear hU' hS'
      have hN0 := Blk.new v90 29 Seal.zS.cells.toArray
      have ea := (Ext.refl v90).alloc (.cells Seal.zS.cells.toArray 29)
      have l1 := hS.lt
      have l2 := hR.lt
      have l3 := hU.size
      replace hS := hS.ext ea
      replace hR := hR.ext ea
      replace hU := hU.ext ea
      obtain ⟨gh, ghe⟩ : ∃ gh, gh = v90.heap.size := ⟨_, rfl⟩
      try rw [← ghe]
      rw [← ghe] at hN0
      have ghb : v90.heap.size ≤ gh := by omega
      clear ghe ea
      generalize v90.alloc (.cells Seal.zS.cells.toArray 29) = v91 at *
      refine wpList_store_row rfl 29 (.tmp 7) (.tmp 19) rfl gh sv.cells.toArray (by rfl) (by rfl) 29 _ hN0 (Seal.size_st sv sv1 sv2) (by simp only [List.size_toArray]; rw [Seal.St.cells_length sv sv1 sv2]; rfl) (all_oneCell_toArray (Seal.St.one sv)) ?_
      simp only [Act.put, List.setIfInBounds_toArray, List.set_cons_zero, List.set_cons_succ]
      clear hN
      have hN : StAt (v91.setRow gh sv.cells.toArray) gh sv := Blk.row hN0 _
      replace hS := hS.rowF (show _ ≠ gh by omega) sv.cells.toArray
      replace hR := hR.rowF (show _ ≠ gh by omega) sv.cells.toArray
      replace hU := hU.rowNew (show w1.heap.size ≤ gh by omega) sv.cells.toArray
      clear hN0
      generalize v91.setRow gh sv.cells.toArray = v92 at *
      go_wp2_with fail
      refine (H3.out _ g s' hS (by omega)).mono ?_; rintro e v46 ⟨rfl, hS', hU'⟩
      replace hS := hS'
      replace hR := hR.upd hU' (by omega)
      replace hN := hN.upd hU' (by omega)
      have sz46 := hU'.size
      replace hU := hU.trans hU'
      clear hS' hU'
      unfold sumV
      go_wp2_with (refine stop_store 23 (.tmp 22) (.tmp 21) rfl ?_)
      refine ⟨?_⟩
      have hth : v46.there gh 35 ((c.1).map byteV).toArray.size := Blk.there hN 35 _ (by rw [Seal.St.cells_length sv sv1 sv2]; simp [hz32])
      refine wpList_store_mid rfl 23 (.tmp 22) (.tmp 21) rfl gh 35 _ (by rfl) (by rfl) hth (size32.trans (by simp [hz32])) (by simp [byteV, Value.oneCell']) ?_
      simp only [Act.put, List.setIfInBounds_toArray, List.set_cons_zero, List.set_cons_succ]
      clear hth
      replace hS := hS.farCs (show _ ≠ gh by omega) ((c.1).map byteV).toArray.toList 35
      replace hR := hR.farCs (show _ ≠ gh by omega) ((c.1).map byteV).toArray.toList 35
      replace hN := hN.putMac sv1 c.1 (by simp [hz32, sv2])
      replace hU : Upd _ w1 (v46.setCells gh 35 ((c.1).map byteV).toArray.toList) := upd_cells (show w1.heap.size ≤ gh by omega) _ _ _ hU
      generalize (v46.setCells gh 35 ((c.1).map byteV).toArray.toList) = v47 at *
      rw [← Hv.out] at hN
      go_wp2_with fail
      refine (rfEnd_calls g s' _ _ hS (by omega)).mono ?_; rw [he]; rintro e v48 ⟨rfl, zz, hzz⟩
      have ed : Ext v47 v48 := by rw [hzz]; exact (Ext.refl _).drewN _
      clear hzz
      replace hS := hS.ext ed
      replace hR := hR.ext ed
      replace hN := hN.ext ed
      replace hU := hU.ext ed
      clear ed
      have hX : Ext w v48 := hEB.upd hU (Nat.le_of_lt hgw)
      have hsz := Seal.size_st v vr vm
      have hcl := Seal.St.cells_length v vr vm
      have hone := all_oneCell_toArray (Seal.St.one v)
      have Hcl := Lib.hid hcl; clear hcl
      go_wp2_with (refine stop_load 29 (.tmp 7) rfl ?_)
      refine ⟨?_⟩
      refine wpList_load_row rfl 29 (.tmp 7) rfl gh (by rfl) 29 _ (0, 0) _ hN Tryd.underlying29 rfl (hsz) ?_
      simp only [Act.put, List.setIfInBounds_toArray, List.set_cons_zero, List.set_cons_succ]
      go_wp2_with (refine stop_store 29 (.tmp 2) (.tmp 31) rfl ?_)
      refine ⟨?_⟩
      refine wpList_store_row rfl 29 (.tmp 2) (.tmp 31) rfl w.heap.size v.cells.toArray (by rfl) (by rfl) 29 _ hR hsz (by simp only [List.size_toArray] <;> (try (rw [Hcl.out] <;> (try rfl)))) hone ?_
      simp only [Act.put, List.setIfInBounds_toArray, List.set_cons_zero, List.set_cons_succ]
      go_wp2_with fail
      (try simp only [Exit.inBlock, Exit.then])
      refine bodyPost_ret (res_two rfl _ _ w.heap.size 29 v.cells.toArray _ rfl (Blk.row hR v.cells.toArray) Tryd.underlying29 rfl hsz) rfl ?_
      exact ⟨rfl, hX.row (Nat.le_refl _) _⟩
    · skip
      (refine plan_loud (by simp only [List.getElem?_toArray, List.getElem?_cons_zero, List.getElem?_cons_succ]; rfl) (by rfl) (by rfl) (fun K E hK => ?_); go_big_op)
      have hk1 : Keep (fun k => k ≠ g) v4 (v4.drew.alloc (.cells Seal.zS.cells.toArray 29)) := (Keep.refl _ v4).drew.alloc _
      refine hK _ _ (held_of hk1) ?_; clear hK K E
      change wpPlan _ _ _ _ _ _ _ (v4.drew.alloc (.cells Seal.zS.cells.toArray 29))
      have hN0 : Blk (v4.drew.alloc (.cells Seal.zS.cells.toArray 29)) v4.heap.size 29 Seal.zS.cells.toArray := Blk.new v4.drew _ _
      have ea : Ext v4 (v4.drew.alloc (.cells Seal.zS.cells.toArray 29)) := ((Ext.refl v4).drew).alloc _
      have l3 := hU.size
      replace hS := hS.ext ea
      replace hR := hR.ext ea
      replace hU := hU.ext ea
      obtain ⟨gh, ghe⟩ : ∃ gh, gh = v4.heap.size := ⟨_, rfl⟩
      try rw [show v4.drew.heap.size = gh from ghe.symm]
      try rw [← ghe]
      rw [← ghe] at hN0
      have ghb : v4.heap.size ≤ gh := by omega
      clear ghe ea
      generalize v4.drew.alloc (.cells Seal.zS.cells.toArray 29) = v90 at *
      refine plan_one ?_
      (refine plan_loud (by simp only [List.getElem?_toArray, List.getElem?_cons_zero, List.getElem?_cons_succ]; rfl) (by rfl) (by rfl) (fun K E hK => ?_); go_big_op)
      refine (H2.out _ g s' hS (by omega)).mono ?_; rintro e v91 ⟨rfl, hS', hU'⟩
      refine hK _ _ (held_of (hk1.trans (Keep.of_upd hU' (by simp)))) ?_; clear hK K E
      refine plan_build (by simp only [List.getElem?_toArray, List.getElem?_cons_zero, List.getElem?_cons_succ]; rfl) (by rfl) (by rfl) 29 _ rfl _ (by rw [Array.toList_map]; rfl) _ hbu ?_
      simp only [Act.put, List.setIfInBounds_toArray, List.set_cons_zero, List.set_cons_succ]
      refine plan_nil ?_
      replace hS := hS'
      replace hR := hR.upd hU' (by omega)
      replace hN0 := Blk.grown hN0 hU' (by simp; omega)
      replace hU := hU.trans hU'
      clear hU' hS' 
      refine wpList_store_row rfl 29 (.tmp 7) (.tmp 19) rfl gh sv.cells.toArray (by rfl) (by rfl) 29 _ hN0 (Seal.size_st sv sv1 sv2) (by simp only [List.size_toArray]; rw [Seal.St.cells_length sv sv1 sv2]; rfl) (all_oneCell_toArray (Seal.St.one sv)) ?_
      simp only [Act.put, List.setIfInBounds_toArray, List.set_cons_zero, List.set_cons_succ]
      clear hN
      have hN : StAt (v91.setRow gh sv.cells.toArray) gh sv := Blk.row hN0 _
      replace hS := hS.rowF (show _ ≠ gh by omega) sv.cells.toArray
      replace hR := hR.rowF (show _ ≠ gh by omega) sv.cells.toArray
      replace hU := hU.rowNew (show w1.heap.size ≤ gh by omega) sv.cells.toArray
      clear hN0
      generalize v91.setRow gh sv.cells.toArray = v92 at *
      go_wp2_with fail
      refine (H3.out _ g s' hS (by omega)).mono ?_; rintro e v86 ⟨rfl, hS', hU'⟩
      replace hS := hS'
      replace hR := hR.upd hU' (by omega)
      replace hN := hN.upd hU' (by omega)
      have sz86 := hU'.size
      replace hU := hU.trans hU'
      clear hS' hU'
      unfold sumV
      go_wp2_with (refine stop_store 23 (.tmp 22) (.tmp 21) rfl ?_)
      refine ⟨?_⟩
      have hth : v86.there gh 35 ((c.1).map byteV).toArray.size := Blk.there hN 35 _ (by rw [Seal.St.cells_length sv sv1 sv2]; simp [hz32])
      refine wpList_store_mid rfl 23 (.tmp 22) (.tmp 21) rfl gh 35 _ (by rfl) (by rfl) hth (size32.trans (by simp [hz32])) (by simp [byteV, Value.oneCell']) ?_
      simp only [Act.put, List.setIfInBounds_toArray, List.set_cons_zero, List.set_cons_succ]
      clear hth
      replace hS := hS.farCs (show _ ≠ gh by omega) ((c.1).map byteV).toArray.toList 35
      replace hR := hR.farCs (show _ ≠ gh by omega) ((c.1).map byteV).toArray.toList 35
      replace hN := hN.putMac sv1 c.1 (by simp [hz32, sv2])
      replace hU : Upd _ w1 (v86.setCells gh 35 ((c.1).map byteV).toArray.toList) := upd_cells (show w1.heap.size ≤ gh by omega) _ _ _ hU
      generalize (v86.setCells gh 35 ((c.1).map byteV).toArray.toList) = v87 at *
      rw [← Hv.out] at hN
      go_wp2_with fail
      refine (rfEnd_calls g s' _ _ hS (by omega)).mono ?_; rw [he]; rintro e v88 ⟨rfl, zz, hzz⟩
      have ed : Ext v87 v88 := by rw [hzz]; exact (Ext.refl _).drewN _
      clear hzz
      replace hS := hS.ext ed
      replace hR := hR.ext ed
      replace hN := hN.ext ed
      replace hU := hU.ext ed
      clear ed
      have hX : Ext w v88 := hEB.upd hU (Nat.le_of_lt hgw)
      have hsz := Seal.size_st v vr vm
      have hcl := Seal.St.cells_length v vr vm
      have hone := all_oneCell_toArray (Seal.St.one v)
      have Hcl := Lib.hid hcl; clear hcl
      go_wp2_with (refine stop_load 29 (.tmp 7) rfl ?_)
      refine ⟨?_⟩
      refine wpList_load_row rfl 29 (.tmp 7) rfl gh (by rfl) 29 _ (0, 0) _ hN Tryd.underlying29 rfl (hsz) ?_
      simp only [Act.put, List.setIfInBounds_toArray, List.set_cons_zero, List.set_cons_succ]
      go_wp2_with (refine stop_store 29 (.tmp 2) (.tmp 31) rfl ?_)
      refine ⟨?_⟩
      refine wpList_store_row rfl 29 (.tmp 2) (.tmp 31) rfl w.heap.size v.cells.toArray (by rfl) (by rfl) 29 _ hR hsz (by simp only [List.size_toArray] <;> (try (rw [Hcl.out] <;> (try rfl)))) hone ?_
      simp only [Act.put, List.setIfInBounds_toArray, List.set_cons_zero, List.set_cons_succ]
      go_wp2_with fail
      (try simp only [Exit.inBlock, Exit.then])
      refine bodyPost_ret (res_two rfl _ _ w.heap.size 29 v.cells.toArray _ rfl (Blk.row hR v.cells.toArray) Tryd.underlying29 rfl hsz) rfl ?_
      exact ⟨rfl, hX.row (Nat.le_refl _) _⟩
  · simp only [Option.getD_none, show Seal.errOf (none : Option St) = 10 from rfl]
    subst hfe
    rcases (show c.2.endE = 0 ∨ c.2.endE = 10 by
      unfold Oct.Sc.endE
      split
      · exact .inr rfl
      · exact .inl rfl) with he | he
    · skip
      unfold Seal.St.v
      go_enter Tryd.func27, Tryd.ntmps27
      go_wp2_with fail
      change Calls _ _ _ (w.alloc (.cells Seal.zS.cells.toArray 29)) _
      generalize (w.alloc (.cells Seal.zS.cells.toArray 29)) = w0 at *
      refine (begin_calls s 84 _ hs).mono ?_; rintro e w1 ⟨g, s', rfl, hgB, hS, hs', e1⟩
      have hRl := hR.lt
      replace hR := hR.ext e1
      have hEB := hE.trans e1
      have hU : Upd g w1 w1 := Upd.refl _ _
      have hgl := hS.lt
      have hgw : w.heap.size < g := by omega
      clear e1 hE
      go_wp2_with fail
      refine (H1.out _ g s' hS (by omega)).mono ?_; rintro e v1 ⟨rfl, hS', hU'⟩
      replace hS := hS'
      replace hR := hR.upd hU' (by omega)
      have sz1 := hU'.size
      replace hU := hU.trans hU'
      clear hS' hU'
      go_wp2_with fail
      refine (HR.out _).mono ?_; rintro e v2 ⟨rfl, e3⟩
      replace hS := hS.ext e3
      replace hR := hR.ext e3
      have sz3 := e3.size
      replace hU := hU.ext e3
      clear e3
      unfold Seal.Fz.v at *
      go_wp2_with (refine stop_store 27 (.tmp 5) (.tmp 14) rfl ?_)
      refine ⟨?_⟩
      change wpList _ _ _ _ _ (v2.alloc (.cells (⟨0, 0, List.replicate 32 0⟩ : Fz).cells.toArray 27))
      have hN0 := Blk.new v2 27 (⟨0, 0, List.replicate 32 0⟩ : Fz).cells.toArray
      have ea := (Ext.refl v2).alloc (.cells (⟨0, 0, List.replicate 32 0⟩ : Fz).cells.toArray 27)
      have gs5 := hS.lt
      replace hS := hS.ext ea
      have gb_hR5 := hR.lt
      replace hR := hR.ext ea
      replace hU := hU.ext ea
      clear ea
      have hUs5 := hU.size
      obtain ⟨g5, g5e⟩ : ∃ g5, g5 = v2.heap.size := ⟨_, rfl⟩
      try rw [← g5e]
      rw [← g5e] at hN0
      have g5b : v2.heap.size ≤ g5 := by omega
      have g5c : g5 ≤ v2.heap.size := by omega
      clear g5e
      generalize v2.alloc (.cells (⟨0, 0, List.replicate 32 0⟩ : Fz).cells.toArray 27) = v4' at *
      refine wpList_store_row rfl 27 (.tmp 5) (.tmp 14) rfl g5 f.cells.toArray (by rfl) (by rfl) 27 _ hN0 (Seal.size_fz f f1) (by simp only [List.size_toArray]; rw [Seal.Fz.cells_length f f1]; rfl) (all_oneCell_toArray (Seal.Fz.one f)) ?_
      simp only [Act.put, List.setIfInBounds_toArray, List.set_cons_zero, List.set_cons_succ]
      have hN : FzAt (v4'.setRow g5 f.cells.toArray) g5 f := Blk.row hN0 _
      replace hS := hS.rowF (show _ ≠ g5 by omega) f.cells.toArray
      replace hR := hR.rowF (show _ ≠ g5 by omega) f.cells.toArray
      replace hU := hU.rowNew (show w1.heap.size ≤ g5 by omega) f.cells.toArray
      clear hN0
      generalize v4'.setRow g5 f.cells.toArray = v4 at *
      go_wp2_with fail
      have hgf := hN.lt
      have hrr := hR.lt
      have hss := hS.lt
      refine region_keepP (fun k => k ≠ g) 5 (Plan.run [0, 1] (.two 2 4 (Plan.run [3, 4] .nil) (Plan.run [2, 3] .nil))) (by kernel_rfl) (by kernel_rfl) ?_; simp only [Plan.run, List.drop_succ_cons, List.drop_zero, List.drop_nil]
      refine planH_row (by simp only [List.getElem?_toArray, List.getElem?_cons_zero, List.getElem?_cons_succ]; rfl) (by rfl) (by rfl) 27 (.tmp 5) rfl g5 (by rfl) _ _ _ hN (by show g5 ≠ g; omega) Tryd.underlying27 rfl (Seal.size_fz f f1) ?_
      simp only [Act.put, List.setIfInBounds_toArray, List.set_cons_zero, List.set_cons_succ]
      iterate 1 (first | (refine plan_quiet (by simp only [List.getElem?_toArray, List.getElem?_cons_zero, List.getElem?_cons_succ]; rfl) (by rfl) (by rfl) (fun K hK => ?_); go_big_quiet_op; refine hK _ ?_; clear hK K) | (refine plan_skip (by simp only [List.getElem?_toArray, List.getElem?_cons_zero, List.getElem?_cons_succ]; rfl) (by rfl) ?_; simp only [Act.put, List.setIfInBounds_toArray, List.set_cons_zero, List.set_cons_succ]))
      refine plan_two ?_ ?_
      · skip
        (refine plan_loud (by simp only [List.getElem?_toArray, List.getElem?_cons_zero, List.getElem?_cons_succ]; rfl) (by rfl) (by rfl) (fun K E hK => ?_); go_big_op)
        refine (H2.out v4.drew g s' hS.drew' (by omega)).mono ?_; rintro e v90 ⟨rfl, hS', hU'⟩
        have hk1 : Keep (fun k => k ≠ g) v4 v90 := (Keep.refl _ v4).drew.trans (Keep.of_upd hU' (by simp))
        refine hK _ _ (held_of hk1) ?_; clear hK K E
        refine plan_build (by simp only [List.getElem?_toArray, List.getElem?_cons_zero, List.getElem?_cons_succ]; rfl) (by rfl) (by rfl) 29 _ rfl _ (by rw [Array.toList_map]; rfl) _ hbu ?_
        simp only [Act.put, List.setIfInBounds_toArray, List.set_cons_zero, List.set_cons_succ]
        refine plan_one ?_
        (refine plan_loud (by simp only [List.getElem?_toArray, List.getElem?_cons_zero, List.getElem?_cons_succ]; rfl) (by rfl) (by rfl) (fun K E hK => ?_); go_big_op)
        refine hK _ _ (held_of (hk1.alloc _)) ?_; clear hK K E
        refine plan_nil ?_
        change wpList _ _ _ _ _ (v90.alloc (.cells Seal.zS.cells.toArray 29))
        replace hS := hS'
        replace hR := (hR.drew').upd hU' (by omega)
        replace hU := hU.drew.trans hU'
        have sz90 := hU'.size
        clear hU' hS'
        have hN0 := Blk.new v90 29 Seal.zS.cells.toArray
        have ea := (Ext.refl v90).alloc (.cells Seal.zS.cells.toArray 29)
        have l1 := hS.lt
        have l2 := hR.lt
        have l3 := hU.size
        replace hS := hS.ext ea
        replace hR := hR.ext ea
        replace hU := hU.ext ea
        obtain ⟨gh, ghe⟩ : ∃ gh, gh = v90.heap.size := ⟨_, rfl⟩
        try rw [← ghe]
        rw [← ghe] at hN0
        have ghb : v90.heap.size ≤ gh := by omega
        clear ghe ea
        generalize v90.alloc (.cells Seal.zS.cells.toArray 29) = v91 at *
        refine wpList_store_row rfl 29 (.tmp 7) (.tmp 19) rfl gh sv.cells.toArray (by rfl) (by rfl) 29 _ hN0 (Seal.size_st sv sv1 sv2) (by simp only [List.size_toArray]; rw [Seal.St.cells_length sv sv1 sv2]; rfl) (all_oneCell_toArray (Seal.St.one sv)) ?_
        simp only [Act.put, List.setIfInBounds_toArray, List.set_cons_zero, List.set_cons_succ]
        clear hN
        have hN : StAt (v91.setRow gh sv.cells.toArray) gh sv := Blk.row hN0 _
        replace hS := hS.rowF (show _ ≠ gh by omega) sv.cells.toArray
        replace hR := hR.rowF (show _ ≠ gh by omega) sv.cells.toArray
        replace hU := hU.rowNew (show w1.heap.size ≤ gh by omega) sv.cells.toArray
        clear hN0
        generalize v91.setRow gh sv.cells.toArray = v92 at *
        go_wp2_with fail
        refine (H3.out _ g s' hS (by omega)).mono ?_; rintro e v46 ⟨rfl, hS', hU'⟩
        replace hS := hS'
        replace hR := hR.upd hU' (by omega)
        replace hN := hN.upd hU' (by omega)
        have sz46 := hU'.size
        replace hU := hU.trans hU'
        clear hS' hU'
        unfold sumV
        go_wp2_with (refine stop_store 23 (.tmp 22) (.tmp 21) rfl ?_)
        refine ⟨?_⟩
        have hth : v46.there gh 35 ((c.1).map byteV).toArray.size := Blk.there hN 35 _ (by rw [Seal.St.cells_length sv sv1 sv2]; simp [hz32])
        refine wpList_store_mid rfl 23 (.tmp 22) (.tmp 21) rfl gh 35 _ (by rfl) (by rfl) hth (size32.trans (by simp [hz32])) (by simp [byteV, Value.oneCell']) ?_
        simp only [Act.put, List.setIfInBounds_toArray, List.set_cons_zero, List.set_cons_succ]
        clear hth
        replace hS := hS.farCs (show _ ≠ gh by omega) ((c.1).map byteV).toArray.toList 35
        replace hR := hR.farCs (show _ ≠ gh by omega) ((c.1).map byteV).toArray.toList 35
        replace hN := hN.putMac sv1 c.1 (by simp [hz32, sv2])
        replace hU : Upd _ w1 (v46.setCells gh 35 ((c.1).map byteV).toArray.toList) := upd_cells (show w1.heap.size ≤ gh by omega) _ _ _ hU
        generalize (v46.setCells gh 35 ((c.1).map byteV).toArray.toList) = v47 at *
        rw [← Hv.out] at hN
        go_wp2_with fail
        refine (rfEnd_calls g s' _ _ hS (by omega)).mono ?_; rw [he]; rintro e v48 ⟨rfl, zz, hzz⟩
        have ed : Ext v47 v48 := by rw [hzz]; exact (Ext.refl _).drewN _
        clear hzz
        replace hS := hS.ext ed
        replace hR := hR.ext ed
        replace hN := hN.ext ed
        replace hU := hU.ext ed
        clear ed
        have hX : Ext w v48 := hEB.upd hU (Nat.le_of_lt hgw)
        have hsz := Seal.size_st Seal.zS (by rfl) (by rfl)
        have hcl := Seal.St.cells_length Seal.zS (by rfl) (by rfl)
        have hone := all_oneCell_toArray (Seal.St.one Seal.zS)
        have Hcl := Lib.hid hcl; clear hcl
        go_wp2_with (refine stop_store 29 (.tmp 2) (.tmp 30) rfl ?_)
        refine ⟨?_⟩
        refine wpList_store_row rfl 29 (.tmp 2) (.tmp 30) rfl w.heap.size Seal.zS.cells.toArray (by rfl) (by rfl) 29 _ hR hsz (by simp only [List.size_toArray] <;> (try (rw [Hcl.out] <;> (try rfl)))) hone ?_
        simp only [Act.put, List.setIfInBounds_toArray, List.set_cons_zero, List.set_cons_succ]
        go_wp2_with fail
        (try simp only [Exit.inBlock, Exit.then])
        refine bodyPost_ret (res_two rfl _ _ w.heap.size 29 Seal.zS.cells.toArray _ rfl (Blk.row hR Seal.zS.cells.toArray) Tryd.underlying29 rfl hsz) rfl ?_
        exact ⟨rfl, hX.row (Nat.le_refl _) _⟩
      · skip
        (refine plan_loud (by simp only [List.getElem?_toArray, List.getElem?_cons_zero, List.getElem?_cons_succ]; rfl) (by rfl) (by rfl) (fun K E hK => ?_); go_big_op)
        have hk1 : Keep (fun k => k ≠ g) v4 (v4.drew.alloc (.cells Seal.zS.cells.toArray 29)) := (Keep.refl _ v4).drew.alloc _
        refine hK _ _ (held_of hk1) ?_; clear hK K E
        change wpPlan _ _ _ _ _ _ _ (v4.drew.alloc (.cells Seal.zS.cells.toArray 29))
        have hN0 : Blk (v4.drew.alloc (.cells Seal.zS.cells.toArray 29)) v4.heap.size 29 Seal.zS.cells.toArray := Blk.new v4.drew _ _
        have ea : Ext v4 (v4.drew.alloc (.cells Seal.zS.cells.toArray 29)) := ((Ext.refl v4).drew).alloc _
        have l3 := hU.size
        replace hS := hS.ext ea
        replace hR := hR.ext ea
        replace hU := hU.ext ea
        obtain ⟨gh, ghe⟩ : ∃ gh, gh = v4.heap.size := ⟨_, rfl⟩
        try rw [show v4.drew.heap.size = gh from ghe.symm]
        try rw [← ghe]
        rw [← ghe] at hN0
        have ghb : v4.heap.size ≤ gh := by omega
        clear ghe ea
        generalize v4.drew.alloc (.cells Seal.zS.cells.toArray 29) = v90 at *
        refine plan_one ?_
        (refine plan_loud (by simp only [List.getElem?_toArray, List.getElem?_cons_zero, List.getElem?_cons_succ]; rfl) (by rfl) (by rfl) (fun K E hK => ?_); go_big_op)
        refine (H2.out _ g s' hS (by omega)).mono ?_; rintro e v91 ⟨rfl, hS', hU'⟩
        refine hK _ _ (held_of (hk1.trans (Keep.of_upd hU' (by simp)))) ?_; clear hK K E
        refine plan_build (by simp only [List.getElem?_toArray, List.getElem?_cons_zero, List.getElem?_cons_succ]; rfl) (by rfl) (by rfl) 29 _ rfl _ (by rw [Array.toList_map]; rfl) _ hbu ?_
        simp only [Act.put, List.setIfInBounds_toArray, List.set_cons_zero, List.set_cons_succ]
        refine plan_nil ?_
        replace hS := hS'
        replace hR := hR.upd hU' (by omega)
        replace hN0 := Blk.grown hN0 hU' (by simp; omega)
        replace hU := hU.trans hU'
        clear hU' hS' 
        refine wpList_store_row rfl 29 (.tmp 7) (.tmp 19) rfl gh sv.cells.toArray (by rfl) (by rfl) 29 _ hN0 (Seal.size_st sv sv1 sv2) (by simp only [List.size_toArray]; rw [Seal.St.cells_length sv sv1 sv2]; rfl) (all_oneCell_toArray (Seal.St.one sv)) ?_
        simp only [Act.put, List.setIfInBounds_toArray, List.set_cons_zero, List.set_cons_succ]
        clear hN
        have hN : StAt (v91.setRow gh sv.cells.toArray) gh sv := Blk.row hN0 _
        replace hS := hS.rowF (show _ ≠ gh by omega) sv.cells.toArray
        replace hR := hR.rowF (show _ ≠ gh by omega) sv.cells.toArray
        replace hU := hU.rowNew (show w1.heap.size ≤ gh by omega) sv.cells.toArray
        clear hN0
        generalize v91.setRow gh sv.cells.toArray = v92 at *
        go_wp2_with fail
        refine (H3.out _ g s' hS (by omega)).mono ?_; rintro e v86 ⟨rfl, hS', hU'⟩
        replace hS := hS'
        replace hR := hR.upd hU' (by omega)
        replace hN := hN.upd hU' (by omega)
        have sz86 := hU'.size
        replace hU := hU.trans hU'
        clear hS' hU'
        unfold sumV
        go_wp2_with (refine stop_store 23 (.tmp 22) (.tmp 21) rfl ?_)
        refine ⟨?_⟩
        have hth : v86.there gh 35 ((c.1).map byteV).toArray.size := Blk.there hN 35 _ (by rw [Seal.St.cells_length sv sv1 sv2]; simp [hz32])
        refine wpList_store_mid rfl 23 (.tmp 22) (.tmp 21) rfl gh 35 _ (by rfl) (by rfl) hth (size32.trans (by simp [hz32])) (by simp [byteV, Value.oneCell']) ?_
        simp only [Act.put, List.setIfInBounds_toArray, List.set_cons_zero, List.set_cons_succ]
        clear hth
        replace hS := hS.farCs (show _ ≠ gh by omega) ((c.1).map byteV).toArray.toList 35
        replace hR := hR.farCs (show _ ≠ gh by omega) ((c.1).map byteV).toArray.toList 35
        replace hN := hN.putMac sv1 c.1 (by simp [hz32, sv2])
        replace hU : Upd _ w1 (v86.setCells gh 35 ((c.1).map byteV).toArray.toList) := upd_cells (show w1.heap.size ≤ gh by omega) _ _ _ hU
        generalize (v86.setCells gh 35 ((c.1).map byteV).toArray.toList) = v87 at *
        rw [← Hv.out] at hN
        go_wp2_with fail
        refine (rfEnd_calls g s' _ _ hS (by omega)).mono ?_; rw [he]; rintro e v88 ⟨rfl, zz, hzz⟩
        have ed : Ext v87 v88 := by rw [hzz]; exact (Ext.refl _).drewN _
        clear hzz
        replace hS := hS.ext ed
        replace hR := hR.ext ed
        replace hN := hN.ext ed
        replace hU := hU.ext ed
        clear ed
        have hX : Ext w v88 := hEB.upd hU (Nat.le_of_lt hgw)
        have hsz := Seal.size_st Seal.zS (by rfl) (by rfl)
        have hcl := Seal.St.cells_length Seal.zS (by rfl) (by rfl)
        have hone := all_oneCell_toArray (Seal.St.one Seal.zS)
        have Hcl := Lib.hid hcl; clear hcl
        go_wp2_with (refine stop_store 29 (.tmp 2) (.tmp 30) rfl ?_)
        refine ⟨?_⟩
        refine wpList_store_row rfl 29 (.tmp 2) (.tmp 30) rfl w.heap.size Seal.zS.cells.toArray (by rfl) (by rfl) 29 _ hR hsz (by simp only [List.size_toArray] <;> (try (rw [Hcl.out] <;> (try rfl)))) hone ?_
        simp only [Act.put, List.setIfInBounds_toArray, List.set_cons_zero, List.set_cons_succ]
        go_wp2_with fail
        (try simp only [Exit.inBlock, Exit.then])
        refine bodyPost_ret (res_two rfl _ _ w.heap.size 29 Seal.zS.cells.toArray _ rfl (Blk.row hR Seal.zS.cells.toArray) Tryd.underlying29 rfl hsz) rfl ?_
        exact ⟨rfl, hX.row (Nat.le_refl _) _⟩
    · skip
      unfold Seal.St.v
      go_enter Tryd.func27, Tryd.ntmps27
      go_wp2_with fail
      change Calls _ _ _ (w.alloc (.cells Seal.zS.cells.toArray 29)) _
      generalize (w.alloc (.cells Seal.zS.cells.toArray 29)) = w0 at *
      refine (begin_calls s 84 _ hs).mono ?_; rintro e w1 ⟨g, s', rfl, hgB, hS, hs', e1⟩
      have hRl := hR.lt
      replace hR := hR.ext e1
      have hEB := hE.trans e1
      have hU : Upd g w1 w1 := Upd.refl _ _
      have hgl := hS.lt
      have hgw : w.heap.size < g := by omega
      clear e1 hE
      go_wp2_with fail
      refine (H1.out _ g s' hS (by omega)).mono ?_; rintro e v1 ⟨rfl, hS', hU'⟩
      replace hS := hS'
      replace hR := hR.upd hU' (by omega)
      have sz1 := hU'.size
      replace hU := hU.trans hU'
      clear hS' hU'
      go_wp2_with fail
      refine (HR.out _).mono ?_; rintro e v2 ⟨rfl, e3⟩
      replace hS := hS.ext e3
      replace hR := hR.ext e3
      have sz3 := e3.size
      replace hU := hU.ext e3
      clear e3
      unfold Seal.Fz.v at *
      go_wp2_with (refine stop_store 27 (.tmp 5) (.tmp 14) rfl ?_)
      refine ⟨?_⟩
      change wpList _ _ _ _ _ (v2.alloc (.cells (⟨0, 0, List.replicate 32 0⟩ : Fz).cells.toArray 27))
      have hN0 := Blk.new v2 27 (⟨0, 0, List.replicate 32 0⟩ : Fz).cells.toArray
      have ea := (Ext.refl v2).alloc (.cells (⟨0, 0, List.replicate 32 0⟩ : Fz).cells.toArray 27)
      have gs5 := hS.lt
      replace hS := hS.ext ea
      have gb_hR5 := hR.lt
      replace hR := hR.ext ea
      replace hU := hU.ext ea
      clear ea
      have hUs5 := hU.size
      obtain ⟨g5, g5e⟩ : ∃ g5, g5 = v2.heap.size := ⟨_, rfl⟩
      try rw [← g5e]
      rw [← g5e] at hN0
      have g5b : v2.heap.size ≤ g5 := by omega
      have g5c : g5 ≤ v2.heap.size := by omega
      clear g5e
      generalize v2.alloc (.cells (⟨0, 0, List.replicate 32 0⟩ : Fz).cells.toArray 27) = v4' at *
      refine wpList_store_row rfl 27 (.tmp 5) (.tmp 14) rfl g5 f.cells.toArray (by rfl) (by rfl) 27 _ hN0 (Seal.size_fz f f1) (by simp only [List.size_toArray]; rw [Seal.Fz.cells_length f f1]; rfl) (all_oneCell_toArray (Seal.Fz.one f)) ?_
      simp only [Act.put, List.setIfInBounds_toArray, List.set_cons_zero, List.set_cons_succ]
      have hN : FzAt (v4'.setRow g5 f.cells.toArray) g5 f := Blk.row hN0 _
      replace hS := hS.rowF (show _ ≠ g5 by omega) f.cells.toArray
      replace hR := hR.rowF (show _ ≠ g5 by omega) f.cells.toArray
      replace hU := hU.rowNew (show w1.heap.size ≤ g5 by omega) f.cells.toArray
      clear hN0
      generalize v4'.setRow g5 f.cells.toArray = v4 at *
      go_wp2_with fail
      have hgf := hN.lt
      have hrr := hR.lt
      have hss := hS.lt
      refine region_keepP (fun k => k ≠ g) 5 (Plan.run [0, 1] (.two 2 4 (Plan.run [3, 4] .nil) (Plan.run [2, 3] .nil))) (by kernel_rfl) (by kernel_rfl) ?_; simp only [Plan.run, List.drop_succ_cons, List.drop_zero, List.drop_nil]
      refine planH_row (by simp only [List.getElem?_toArray, List.getElem?_cons_zero, List.getElem?_cons_succ]; rfl) (by rfl) (by rfl) 27 (.tmp 5) rfl g5 (by rfl) _ _ _ hN (by show g5 ≠ g; omega) Tryd.underlying27 rfl (Seal.size_fz f f1) ?_
      simp only [Act.put, List.setIfInBounds_toArray, List.set_cons_zero, List.set_cons_succ]
      iterate 1 (first | (refine plan_quiet (by simp only [List.getElem?_toArray, List.getElem?_cons_zero, List.getElem?_cons_succ]; rfl) (by rfl) (by rfl) (fun K hK => ?_); go_big_quiet_op; refine hK _ ?_; clear hK K) | (refine plan_skip (by simp only [List.getElem?_toArray, List.getElem?_cons_zero, List.getElem?_cons_succ]; rfl) (by rfl) ?_; simp only [Act.put, List.setIfInBounds_toArray, List.set_cons_zero, List.set_cons_succ]))
      refine plan_two ?_ ?_
      · skip
        (refine plan_loud (by simp only [List.getElem?_toArray, List.getElem?_cons_zero, List.getElem?_cons_succ]; rfl) (by rfl) (by rfl) (fun K E hK => ?_); go_big_op)
        refine (H2.out v4.drew g s' hS.drew' (by omega)).mono ?_; rintro e v90 ⟨rfl, hS', hU'⟩
        have hk1 : Keep (fun k => k ≠ g) v4 v90 := (Keep.refl _ v4).drew.trans (Keep.of_upd hU' (by simp))
        refine hK _ _ (held_of hk1) ?_; clear hK K E
        refine plan_build (by simp only [List.getElem?_toArray, List.getElem?_cons_zero, List.getElem?_cons_succ]; rfl) (by rfl) (by rfl) 29 _ rfl _ (by rw [Array.toList_map]; rfl) _ hbu ?_
        simp only [Act.put, List.setIfInBounds_toArray, List.set_cons_zero, List.set_cons_succ]
        refine plan_one ?_
        (refine plan_loud (by simp only [List.getElem?_toArray, List.getElem?_cons_zero, List.getElem?_cons_succ]; rfl) (by rfl) (by rfl) (fun K E hK => ?_); go_big_op)
        refine hK _ _ (held_of (hk1.alloc _)) ?_; clear hK K E
        refine plan_nil ?_
        change wpList _ _ _ _ _ (v90.alloc (.cells Seal.zS.cells.toArray 29))
        replace hS := hS'
        replace hR := (hR.drew').upd hU' (by omega)
        replace hU := hU.drew.trans hU'
        have sz90 := hU'.size
        clear hU' hS'
        have hN0 := Blk.new v90 29 Seal.zS.cells.toArray
        have ea := (Ext.refl v90).alloc (.cells Seal.zS.cells.toArray 29)
        have l1 := hS.lt
        have l2 := hR.lt
        have l3 := hU.size
        replace hS := hS.ext ea
        replace hR := hR.ext ea
        replace hU := hU.ext ea
        obtain ⟨gh, ghe⟩ : ∃ gh, gh = v90.heap.size := ⟨_, rfl⟩
        try rw [← ghe]
        rw [← ghe] at hN0
        have ghb : v90.heap.size ≤ gh := by omega
        clear ghe ea
        generalize v90.alloc (.cells Seal.zS.cells.toArray 29) = v91 at *
        refine wpList_store_row rfl 29 (.tmp 7) (.tmp 19) rfl gh sv.cells.toArray (by rfl) (by rfl) 29 _ hN0 (Seal.size_st sv sv1 sv2) (by simp only [List.size_toArray]; rw [Seal.St.cells_length sv sv1 sv2]; rfl) (all_oneCell_toArray (Seal.St.one sv)) ?_
        simp only [Act.put, List.setIfInBounds_toArray, List.set_cons_zero, List.set_cons_succ]
        clear hN
        have hN : StAt (v91.setRow gh sv.cells.toArray) gh sv := Blk.row hN0 _
        replace hS := hS.rowF (show _ ≠ gh by omega) sv.cells.toArray
        replace hR := hR.rowF (show _ ≠ gh by omega) sv.cells.toArray
        replace hU := hU.rowNew (show w1.heap.size ≤ gh by omega) sv.cells.toArray
        clear hN0
        generalize v91.setRow gh sv.cells.toArray = v92 at *
        go_wp2_with fail
        refine (H3.out _ g s' hS (by omega)).mono ?_; rintro e v46 ⟨rfl, hS', hU'⟩
        replace hS := hS'
        replace hR := hR.upd hU' (by omega)
        replace hN := hN.upd hU' (by omega)
        have sz46 := hU'.size
        replace hU := hU.trans hU'
        clear hS' hU'
        unfold sumV
        go_wp2_with (refine stop_store 23 (.tmp 22) (.tmp 21) rfl ?_)
        refine ⟨?_⟩
        have hth : v46.there gh 35 ((c.1).map byteV).toArray.size := Blk.there hN 35 _ (by rw [Seal.St.cells_length sv sv1 sv2]; simp [hz32])
        refine wpList_store_mid rfl 23 (.tmp 22) (.tmp 21) rfl gh 35 _ (by rfl) (by rfl) hth (size32.trans (by simp [hz32])) (by simp [byteV, Value.oneCell']) ?_
        simp only [Act.put, List.setIfInBounds_toArray, List.set_cons_zero, List.set_cons_succ]
        clear hth
        replace hS := hS.farCs (show _ ≠ gh by omega) ((c.1).map byteV).toArray.toList 35
        replace hR := hR.farCs (show _ ≠ gh by omega) ((c.1).map byteV).toArray.toList 35
        replace hN := hN.putMac sv1 c.1 (by simp [hz32, sv2])
        replace hU : Upd _ w1 (v46.setCells gh 35 ((c.1).map byteV).toArray.toList) := upd_cells (show w1.heap.size ≤ gh by omega) _ _ _ hU
        generalize (v46.setCells gh 35 ((c.1).map byteV).toArray.toList) = v47 at *
        rw [← Hv.out] at hN
        go_wp2_with fail
        refine (rfEnd_calls g s' _ _ hS (by omega)).mono ?_; rw [he]; rintro e v48 ⟨rfl, zz, hzz⟩
        have ed : Ext v47 v48 := by rw [hzz]; exact (Ext.refl _).drewN _
        clear hzz
        replace hS := hS.ext ed
        replace hR := hR.ext ed
        replace hN := hN.ext ed
        replace hU := hU.ext ed
        clear ed
        have hX : Ext w v48 := hEB.upd hU (Nat.le_of_lt hgw)
        have hsz := Seal.size_st Seal.zS (by rfl) (by rfl)
        have hcl := Seal.St.cells_length Seal.zS (by rfl) (by rfl)
        have hone := all_oneCell_toArray (Seal.St.one Seal.zS)
        have Hcl := Lib.hid hcl; clear hcl
        go_wp2_with (refine stop_store 29 (.tmp 2) (.tmp 30) rfl ?_)
        refine ⟨?_⟩
        refine wpList_store_row rfl 29 (.tmp 2) (.tmp 30) rfl w.heap.size Seal.zS.cells.toArray (by rfl) (by rfl) 29 _ hR hsz (by simp only [List.size_toArray] <;> (try (rw [Hcl.out] <;> (try rfl)))) hone ?_
        simp only [Act.put, List.setIfInBounds_toArray, List.set_cons_zero, List.set_cons_succ]
        go_wp2_with fail
        (try simp only [Exit.inBlock, Exit.then])
        refine bodyPost_ret (res_two rfl _ _ w.heap.size 29 Seal.zS.cells.toArray _ rfl (Blk.row hR Seal.zS.cells.toArray) Tryd.underlying29 rfl hsz) rfl ?_
        exact ⟨rfl, hX.row (Nat.le_refl _) _⟩
      · skip
        (refine plan_loud (by simp only [List.getElem?_toArray, List.getElem?_cons_zero, List.getElem?_cons_succ]; rfl) (by rfl) (by rfl) (fun K E hK => ?_); go_big_op)
        have hk1 : Keep (fun k => k ≠ g) v4 (v4.drew.alloc (.cells Seal.zS.cells.toArray 29)) := (Keep.refl _ v4).drew.alloc _
        refine hK _ _ (held_of hk1) ?_; clear hK K E
        change wpPlan _ _ _ _ _ _ _ (v4.drew.alloc (.cells Seal.zS.cells.toArray 29))
        have hN0 : Blk (v4.drew.alloc (.cells Seal.zS.cells.toArray 29)) v4.heap.size 29 Seal.zS.cells.toArray := Blk.new v4.drew _ _
        have ea : Ext v4 (v4.drew.alloc (.cells Seal.zS.cells.toArray 29)) := ((Ext.refl v4).drew).alloc _
        have l3 := hU.size
        replace hS := hS.ext ea
        replace hR := hR.ext ea
        replace hU := hU.ext ea
        obtain ⟨gh, ghe⟩ : ∃ gh, gh = v4.heap.size := ⟨_, rfl⟩
        try rw [show v4.drew.heap.size = gh from ghe.symm]
        try rw [← ghe]
        rw [← ghe] at hN0
        have ghb : v4.heap.size ≤ gh := by omega
        clear ghe ea
        generalize v4.drew.alloc (.cells Seal.zS.cells.toArray 29) = v90 at *
        refine plan_one ?_
        (refine plan_loud (by simp only [List.getElem?_toArray, List.getElem?_cons_zero, List.getElem?_cons_succ]; rfl) (by rfl) (by rfl) (fun K E hK => ?_); go_big_op)
        refine (H2.out _ g s' hS (by omega)).mono ?_; rintro e v91 ⟨rfl, hS', hU'⟩
        refine hK _ _ (held_of (hk1.trans (Keep.of_upd hU' (by simp)))) ?_; clear hK K E
        refine plan_build (by simp only [List.getElem?_toArray, List.getElem?_cons_zero, List.getElem?_cons_succ]; rfl) (by rfl) (by rfl) 29 _ rfl _ (by rw [Array.toList_map]; rfl) _ hbu ?_
        simp only [Act.put, List.setIfInBounds_toArray, List.set_cons_zero, List.set_cons_succ]
        refine plan_nil ?_
        replace hS := hS'
        replace hR := hR.upd hU' (by omega)
        replace hN0 := Blk.grown hN0 hU' (by simp; omega)
        replace hU := hU.trans hU'
        clear hU' hS' 
        refine wpList_store_row rfl 29 (.tmp 7) (.tmp 19) rfl gh sv.cells.toArray (by rfl) (by rfl) 29 _ hN0 (Seal.size_st sv sv1 sv2) (by simp only [List.size_toArray]; rw [Seal.St.cells_length sv sv1 sv2]; rfl) (all_oneCell_toArray (Seal.St.one sv)) ?_
        simp only [Act.put, List.setIfInBounds_toArray, List.set_cons_zero, List.set_cons_succ]
        clear hN
        have hN : StAt (v91.setRow gh sv.cells.toArray) gh sv := Blk.row hN0 _
        replace hS := hS.rowF (show _ ≠ gh by omega) sv.cells.toArray
        replace hR := hR.rowF (show _ ≠ gh by omega) sv.cells.toArray
        replace hU := hU.rowNew (show w1.heap.size ≤ gh by omega) sv.cells.toArray
        clear hN0
        generalize v91.setRow gh sv.cells.toArray = v92 at *
        go_wp2_with fail
        refine (H3.out _ g s' hS (by omega)).mono ?_; rintro e v86 ⟨rfl, hS', hU'⟩
        replace hS := hS'
        replace hR := hR.upd hU' (by omega)
        replace hN := hN.upd hU' (by omega)
        have sz86 := hU'.size
        replace hU := hU.trans hU'
        clear hS' hU'
        unfold sumV
        go_wp2_with (refine stop_store 23 (.tmp 22) (.tmp 21) rfl ?_)
        refine ⟨?_⟩
        have hth : v86.there gh 35 ((c.1).map byteV).toArray.size := Blk.there hN 35 _ (by rw [Seal.St.cells_length sv sv1 sv2]; simp [hz32])
        refine wpList_store_mid rfl 23 (.tmp 22) (.tmp 21) rfl gh 35 _ (by rfl) (by rfl) hth (size32.trans (by simp [hz32])) (by simp [byteV, Value.oneCell']) ?_
        simp only [Act.put, List.setIfInBounds_toArray, List.set_cons_zero, List.set_cons_succ]
        clear hth
        replace hS := hS.farCs (show _ ≠ gh by omega) ((c.1).map byteV).toArray.toList 35
        replace hR := hR.farCs (show _ ≠ gh by omega) ((c.1).map byteV).toArray.toList 35
        replace hN := hN.putMac sv1 c.1 (by simp [hz32, sv2])
        replace hU : Upd _ w1 (v86.setCells gh 35 ((c.1).map byteV).toArray.toList) := upd_cells (show w1.heap.size ≤ gh by omega) _ _ _ hU
        generalize (v86.setCells gh 35 ((c.1).map byteV).toArray.toList) = v87 at *
        rw [← Hv.out] at hN
        go_wp2_with fail
        refine (rfEnd_calls g s' _ _ hS (by omega)).mono ?_; rw [he]; rintro e v88 ⟨rfl, zz, hzz⟩
        have ed : Ext v87 v88 := by rw [hzz]; exact (Ext.refl _).drewN _
        clear hzz
        replace hS := hS.ext ed
        replace hR := hR.ext ed
        replace hN := hN.ext ed
        replace hU := hU.ext ed
        clear ed
        have hX : Ext w v88 := hEB.upd hU (Nat.le_of_lt hgw)
        have hsz := Seal.size_st Seal.zS (by rfl) (by rfl)
        have hcl := Seal.St.cells_length Seal.zS (by rfl) (by rfl)
        have hone := all_oneCell_toArray (Seal.St.one Seal.zS)
        have Hcl := Lib.hid hcl; clear hcl
        go_wp2_with (refine stop_store 29 (.tmp 2) (.tmp 30) rfl ?_)
        refine ⟨?_⟩
        refine wpList_store_row rfl 29 (.tmp 2) (.tmp 30) rfl w.heap.size Seal.zS.cells.toArray (by rfl) (by rfl) 29 _ hR hsz (by simp only [List.size_toArray] <;> (try (rw [Hcl.out] <;> (try rfl)))) hone ?_
        simp only [Act.put, List.setIfInBounds_toArray, List.set_cons_zero, List.set_cons_succ]
        go_wp2_with fail
        (try simp only [Exit.inBlock, Exit.then])
        refine bodyPost_ret (res_two rfl _ _ w.heap.size 29 Seal.zS.cells.toArray _ rfl (Blk.row hR Seal.zS.cells.toArray) Tryd.underlying29 rfl hsz) rfl ?_
        exact ⟨rfl, hX.row (Nat.le_refl _) _⟩
  · simp only [Option.getD_none, show Seal.errOf (none : Option St) = 10 from rfl]
    subst hfe
    unfold Seal.St.v
    go_enter Tryd.func27, Tryd.ntmps27
    go_wp2_with fail
    change Calls _ _ _ (w.alloc (.cells Seal.zS.cells.toArray 29)) _
    generalize (w.alloc (.cells Seal.zS.cells.toArray 29)) = w0 at *
    refine (begin_calls s 84 _ hs).mono ?_; rintro e w1 ⟨g, s', rfl, hgB, hS, hs', e1⟩
    have hRl := hR.lt
    replace hR := hR.ext e1
    have hEB := hE.trans e1
    have hU : Upd g w1 w1 := Upd.refl _ _
    have hgl := hS.lt
    have hgw : w.heap.size < g := by omega
    clear e1 hE
    go_wp2_with fail
    refine (H1.out _ g s' hS (by omega)).mono ?_; rintro e v1 ⟨rfl, hS', hU'⟩
    replace hS := hS'
    replace hR := hR.upd hU' (by omega)
    have sz1 := hU'.size
    replace hU := hU.trans hU'
    clear hS' hU'
    go_wp2_with fail
    refine (HR.out _).mono ?_; rintro e v2 ⟨rfl, e3⟩
    replace hS := hS.ext e3
    replace hR := hR.ext e3
    have sz3 := e3.size
    replace hU := hU.ext e3
    clear e3
    unfold Seal.Fz.v at *
    go_wp2_with (refine stop_store 27 (.tmp 5) (.tmp 14) rfl ?_)
    refine ⟨?_⟩
    change wpList _ _ _ _ _ (v2.alloc (.cells (⟨0, 0, List.replicate 32 0⟩ : Fz).cells.toArray 27))
    have hN0 := Blk.new v2 27 (⟨0, 0, List.replicate 32 0⟩ : Fz).cells.toArray
    have ea := (Ext.refl v2).alloc (.cells (⟨0, 0, List.replicate 32 0⟩ : Fz).cells.toArray 27)
    have gs5 := hS.lt
    replace hS := hS.ext ea
    have gb_hR5 := hR.lt
    replace hR := hR.ext ea
    replace hU := hU.ext ea
    clear ea
    have hUs5 := hU.size
    obtain ⟨g5, g5e⟩ : ∃ g5, g5 = v2.heap.size := ⟨_, rfl⟩
    try rw [← g5e]
    rw [← g5e] at hN0
    have g5b : v2.heap.size ≤ g5 := by omega
    have g5c : g5 ≤ v2.heap.size := by omega
    clear g5e
    generalize v2.alloc (.cells (⟨0, 0, List.replicate 32 0⟩ : Fz).cells.toArray 27) = v4' at *
    refine wpList_store_row rfl 27 (.tmp 5) (.tmp 14) rfl g5 f.cells.toArray (by rfl) (by rfl) 27 _ hN0 (Seal.size_fz f f1) (by simp only [List.size_toArray]; rw [Seal.Fz.cells_length f f1]; rfl) (all_oneCell_toArray (Seal.Fz.one f)) ?_
    simp only [Act.put, List.setIfInBounds_toArray, List.set_cons_zero, List.set_cons_succ]
    have hN : FzAt (v4'.setRow g5 f.cells.toArray) g5 f := Blk.row hN0 _
    replace hS := hS.rowF (show _ ≠ g5 by omega) f.cells.toArray
    replace hR := hR.rowF (show _ ≠ g5 by omega) f.cells.toArray
    replace hU := hU.rowNew (show w1.heap.size ≤ g5 by omega) f.cells.toArray
    clear hN0
    generalize v4'.setRow g5 f.cells.toArray = v4 at *
    go_wp2_with fail
    have hgf := hN.lt
    have hrr := hR.lt
    have hss := hS.lt
    refine region_keepP (fun k => k ≠ g) 5 (Plan.run [0, 1] (.two 2 4 (Plan.run [3, 4] .nil) (Plan.run [2, 3] .nil))) (by kernel_rfl) (by kernel_rfl) ?_; simp only [Plan.run, List.drop_succ_cons, List.drop_zero, List.drop_nil]
    refine planH_row (by simp only [List.getElem?_toArray, List.getElem?_cons_zero, List.getElem?_cons_succ]; rfl) (by rfl) (by rfl) 27 (.tmp 5) rfl g5 (by rfl) _ _ _ hN (by show g5 ≠ g; omega) Tryd.underlying27 rfl (Seal.size_fz f f1) ?_
    simp only [Act.put, List.setIfInBounds_toArray, List.set_cons_zero, List.set_cons_succ]
    iterate 1 (first | (refine plan_quiet (by simp only [List.getElem?_toArray, List.getElem?_cons_zero, List.getElem?_cons_succ]; rfl) (by rfl) (by rfl) (fun K hK => ?_); go_big_quiet_op; refine hK _ ?_; clear hK K) | (refine plan_skip (by simp only [List.getElem?_toArray, List.getElem?_cons_zero, List.getElem?_cons_succ]; rfl) (by rfl) ?_; simp only [Act.put, List.setIfInBounds_toArray, List.set_cons_zero, List.set_cons_succ]))
    refine plan_two ?_ ?_
    · skip
      (refine plan_loud (by simp only [List.getElem?_toArray, List.getElem?_cons_zero, List.getElem?_cons_succ]; rfl) (by rfl) (by rfl) (fun K E hK => ?_); go_big_op)
      refine (H2.out v4.drew g s' hS.drew' (by omega)).mono ?_; rintro e v90 ⟨rfl, hS', hU'⟩
      have hk1 : Keep (fun k => k ≠ g) v4 v90 := (Keep.refl _ v4).drew.trans (Keep.of_upd hU' (by simp))
      refine hK _ _ (held_of hk1) ?_; clear hK K E
      refine plan_build (by simp only [List.getElem?_toArray, List.getElem?_cons_zero, List.getElem?_cons_succ]; rfl) (by rfl) (by rfl) 29 _ rfl _ (by rw [Array.toList_map]; rfl) _ hbu ?_
      simp only [Act.put, List.setIfInBounds_toArray, List.set_cons_zero, List.set_cons_succ]
      refine plan_one ?_
      (refine plan_loud (by simp only [List.getElem?_toArray, List.getElem?_cons_zero, List.getElem?_cons_succ]; rfl) (by rfl) (by rfl) (fun K E hK => ?_); go_big_op)
      refine hK _ _ (held_of (hk1.alloc _)) ?_; clear hK K E
      refine plan_nil ?_
      change wpList _ _ _ _ _ (v90.alloc (.cells Seal.zS.cells.toArray 29))
      replace hS := hS'
      replace hR := (hR.drew').upd hU' (by omega)
      replace hU := hU.drew.trans hU'
      have sz90 := hU'.size
      clear hU' hS'
      have hN0 := Blk.new v90 29 Seal.zS.cells.toArray
      have ea := (Ext.refl v90).alloc (.cells Seal.zS.cells.toArray 29)
      have l1 := hS.lt
      have l2 := hR.lt
      have l3 := hU.size
      replace hS := hS.ext ea
      replace hR := hR.ext ea
      replace hU := hU.ext ea
      obtain ⟨gh, ghe⟩ : ∃ gh, gh = v90.heap.size := ⟨_, rfl⟩
      try rw [← ghe]
      rw [← ghe] at hN0
      have ghb : v90.heap.size ≤ gh := by omega
      clear ghe ea
      generalize v90.alloc (.cells Seal.zS.cells.toArray 29) = v91 at *
      refine wpList_store_row rfl 29 (.tmp 7) (.tmp 19) rfl gh sv.cells.toArray (by rfl) (by rfl) 29 _ hN0 (Seal.size_st sv sv1 sv2) (by simp only [List.size_toArray]; rw [Seal.St.cells_length sv sv1 sv2]; rfl) (all_oneCell_toArray (Seal.St.one sv)) ?_
      simp only [Act.put, List.setIfInBounds_toArray, List.set_cons_zero, List.set_cons_succ]
      clear hN
      have hN : StAt (v91.setRow gh sv.cells.toArray) gh sv := Blk.row hN0 _
      replace hS := hS.rowF (show _ ≠ gh by omega) sv.cells.toArray
      replace hR := hR.rowF (show _ ≠ gh by omega) sv.cells.toArray
      replace hU := hU.rowNew (show w1.heap.size ≤ gh by omega) sv.cells.toArray
      clear hN0
      generalize v91.setRow gh sv.cells.toArray = v92 at *
      go_wp2_with fail
      refine (H3.out _ g s' hS (by omega)).mono ?_; rintro e v46 ⟨rfl, hS', hU'⟩
      replace hS := hS'
      replace hR := hR.upd hU' (by omega)
      replace hN := hN.upd hU' (by omega)
      have sz46 := hU'.size
      replace hU := hU.trans hU'
      clear hS' hU'
      unfold sumV
      go_wp2_with (refine stop_store 23 (.tmp 22) (.tmp 21) rfl ?_)
      refine ⟨?_⟩
      have hth : v46.there gh 35 ((c.1).map byteV).toArray.size := Blk.there hN 35 _ (by rw [Seal.St.cells_length sv sv1 sv2]; simp [hz32])
      refine wpList_store_mid rfl 23 (.tmp 22) (.tmp 21) rfl gh 35 _ (by rfl) (by rfl) hth (size32.trans (by simp [hz32])) (by simp [byteV, Value.oneCell']) ?_
      simp only [Act.put, List.setIfInBounds_toArray, List.set_cons_zero, List.set_cons_succ]
      clear hth
      replace hS := hS.farCs (show _ ≠ gh by omega) ((c.1).map byteV).toArray.toList 35
      replace hR := hR.farCs (show _ ≠ gh by omega) ((c.1).map byteV).toArray.toList 35
      replace hN := hN.putMac sv1 c.1 (by simp [hz32, sv2])
      replace hU : Upd _ w1 (v46.setCells gh 35 ((c.1).map byteV).toArray.toList) := upd_cells (show w1.heap.size ≤ gh by omega) _ _ _ hU
      generalize (v46.setCells gh 35 ((c.1).map byteV).toArray.toList) = v47 at *
      rw [← Hv.out] at hN
      go_wp2_with fail
      refine (rfEnd_calls g s' _ _ hS (by omega)).mono ?_; rw [he]; rintro e v48 ⟨rfl, zz, hzz⟩
      have ed : Ext v47 v48 := by rw [hzz]; exact (Ext.refl _).drewN _
      clear hzz
      replace hS := hS.ext ed
      replace hR := hR.ext ed
      replace hN := hN.ext ed
      replace hU := hU.ext ed
      clear ed
      have hX : Ext w v48 := hEB.upd hU (Nat.le_of_lt hgw)
      have hsz := Seal.size_st Seal.zS (by rfl) (by rfl)
      have hcl := Seal.St.cells_length Seal.zS (by rfl) (by rfl)
      have hone := all_oneCell_toArray (Seal.St.one Seal.zS)
      have Hcl := Lib.hid hcl; clear hcl
      go_wp2_with (refine stop_store 29 (.tmp 2) (.tmp 30) rfl ?_)
      refine ⟨?_⟩
      refine wpList_store_row rfl 29 (.tmp 2) (.tmp 30) rfl w.heap.size Seal.zS.cells.toArray (by rfl) (by rfl) 29 _ hR hsz (by simp only [List.size_toArray] <;> (try (rw [Hcl.out] <;> (try rfl)))) hone ?_
      simp only [Act.put, List.setIfInBounds_toArray, List.set_cons_zero, List.set_cons_succ]
      go_wp2_with fail
      (try simp only [Exit.inBlock, Exit.then])
      refine bodyPost_ret (res_two rfl _ _ w.heap.size 29 Seal.zS.cells.toArray _ rfl (Blk.row hR Seal.zS.cells.toArray) Tryd.underlying29 rfl hsz) rfl ?_
      exact ⟨rfl, hX.row (Nat.le_refl _) _⟩
    · skip
      (refine plan_loud (by simp only [List.getElem?_toArray, List.getElem?_cons_zero, List.getElem?_cons_succ]; rfl) (by rfl) (by rfl) (fun K E hK => ?_); go_big_op)
      have hk1 : Keep (fun k => k ≠ g) v4 (v4.drew.alloc (.cells Seal.zS.cells.toArray 29)) := (Keep.refl _ v4).drew.alloc _
      refine hK _ _ (held_of hk1) ?_; clear hK K E
      change wpPlan _ _ _ _ _ _ _ (v4.drew.alloc (.cells Seal.zS.cells.toArray 29))
      have hN0 : Blk (v4.drew.alloc (.cells Seal.zS.cells.toArray 29)) v4.heap.size 29 Seal.zS.cells.toArray := Blk.new v4.drew _ _
      have ea : Ext v4 (v4.drew.alloc (.cells Seal.zS.cells.toArray 29)) := ((Ext.refl v4).drew).alloc _
      have l3 := hU.size
      replace hS := hS.ext ea
      replace hR := hR.ext ea
      replace hU := hU.ext ea
      obtain ⟨gh, ghe⟩ : ∃ gh, gh = v4.heap.size := ⟨_, rfl⟩
      try rw [show v4.drew.heap.size = gh from ghe.symm]
      try rw [← ghe]
      rw [← ghe] at hN0
      have ghb : v4.heap.size ≤ gh := by omega
      clear ghe ea
      generalize v4.drew.alloc (.cells Seal.zS.cells.toArray 29) = v90 at *
      refine plan_one ?_
      (refine plan_loud (by simp only [List.getElem?_toArray, List.getElem?_cons_zero, List.getElem?_cons_succ]; rfl) (by rfl) (by rfl) (fun K E hK => ?_); go_big_op)
      refine (H2.out _ g s' hS (by omega)).mono ?_; rintro e v91 ⟨rfl, hS', hU'⟩
      refine hK _ _ (held_of (hk1.trans (Keep.of_upd hU' (by simp)))) ?_; clear hK K E
      refine plan_build (by simp only [List.getElem?_toArray, List.getElem?_cons_zero, List.getElem?_cons_succ]; rfl) (by rfl) (by rfl) 29 _ rfl _ (by rw [Array.toList_map]; rfl) _ hbu ?_
      simp only [Act.put, List.setIfInBounds_toArray, List.set_cons_zero, List.set_cons_succ]
      refine plan_nil ?_
      replace hS := hS'
      replace hR := hR.upd hU' (by omega)
      replace hN0 := Blk.grown hN0 hU' (by simp; omega)
      replace hU := hU.trans hU'
      clear hU' hS' 
      refine wpList_store_row rfl 29 (.tmp 7) (.tmp 19) rfl gh sv.cells.toArray (by rfl) (by rfl) 29 _ hN0 (Seal.size_st sv sv1 sv2) (by simp only [List.size_toArray]; rw [Seal.St.cells_length sv sv1 sv2]; rfl) (all_oneCell_toArray (Seal.St.one sv)) ?_
      simp only [Act.put, List.setIfInBounds_toArray, List.set_cons_zero, List.set_cons_succ]
      clear hN
      have hN : StAt (v91.setRow gh sv.cells.toArray) gh sv := Blk.row hN0 _
      replace hS := hS.rowF (show _ ≠ gh by omega) sv.cells.toArray
      replace hR := hR.rowF (show _ ≠ gh by omega) sv.cells.toArray
      replace hU := hU.rowNew (show w1.heap.size ≤ gh by omega) sv.cells.toArray
      clear hN0
      generalize v91.setRow gh sv.cells.toArray = v92 at *
      go_wp2_with fail
      refine (H3.out _ g s' hS (by omega)).mono ?_; rintro e v86 ⟨rfl, hS', hU'⟩
      replace hS := hS'
      replace hR := hR.upd hU' (by omega)
      replace hN := hN.upd hU' (by omega)
      have sz86 := hU'.size
      replace hU := hU.trans hU'
      clear hS' hU'
      unfold sumV
      go_wp2_with (refine stop_store 23 (.tmp 22) (.tmp 21) rfl ?_)
      refine ⟨?_⟩
      have hth : v86.there gh 35 ((c.1).map byteV).toArray.size := Blk.there hN 35 _ (by rw [Seal.St.cells_length sv sv1 sv2]; simp [hz32])
      refine wpList_store_mid rfl 23 (.tmp 22) (.tmp 21) rfl gh 35 _ (by rfl) (by rfl) hth (size32.trans (by simp [hz32])) (by simp [byteV, Value.oneCell']) ?_
      simp only [Act.put, List.setIfInBounds_toArray, List.set_cons_zero, List.set_cons_succ]
      clear hth
      replace hS := hS.farCs (show _ ≠ gh by omega) ((c.1).map byteV).toArray.toList 35
      replace hR := hR.farCs (show _ ≠ gh by omega) ((c.1).map byteV).toArray.toList 35
      replace hN := hN.putMac sv1 c.1 (by simp [hz32, sv2])
      replace hU : Upd _ w1 (v86.setCells gh 35 ((c.1).map byteV).toArray.toList) := upd_cells (show w1.heap.size ≤ gh by omega) _ _ _ hU
      generalize (v86.setCells gh 35 ((c.1).map byteV).toArray.toList) = v87 at *
      rw [← Hv.out] at hN
      go_wp2_with fail
      refine (rfEnd_calls g s' _ _ hS (by omega)).mono ?_; rw [he]; rintro e v88 ⟨rfl, zz, hzz⟩
      have ed : Ext v87 v88 := by rw [hzz]; exact (Ext.refl _).drewN _
      clear hzz
      replace hS := hS.ext ed
      replace hR := hR.ext ed
      replace hN := hN.ext ed
      replace hU := hU.ext ed
      clear ed
      have hX : Ext w v88 := hEB.upd hU (Nat.le_of_lt hgw)
      have hsz := Seal.size_st Seal.zS (by rfl) (by rfl)
      have hcl := Seal.St.cells_length Seal.zS (by rfl) (by rfl)
      have hone := all_oneCell_toArray (Seal.St.one Seal.zS)
      have Hcl := Lib.hid hcl; clear hcl
      go_wp2_with (refine stop_store 29 (.tmp 2) (.tmp 30) rfl ?_)
      refine ⟨?_⟩
      refine wpList_store_row rfl 29 (.tmp 2) (.tmp 30) rfl w.heap.size Seal.zS.cells.toArray (by rfl) (by rfl) 29 _ hR hsz (by simp only [List.size_toArray] <;> (try (rw [Hcl.out] <;> (try rfl)))) hone ?_
      simp only [Act.put, List.setIfInBounds_toArray, List.set_cons_zero, List.set_cons_succ]
      go_wp2_with fail
      (try simp only [Exit.inBlock, Exit.then])
      refine bodyPost_ret (res_two rfl _ _ w.heap.size 29 Seal.zS.cells.toArray _ rfl (Blk.row hR Seal.zS.cells.toArray) Tryd.underlying29 rfl hsz) rfl ?_
      exact ⟨rfl, hX.row (Nat.le_refl _) _⟩

end Go.Proofs.YtcgnjdkennkheaaDoor
