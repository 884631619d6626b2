/-
  The walks of seal's Head, Stone.
-/
import Derived.Test.YtcgnjdkennkheaaDoorSeal3
set_option linter.unusedVariables false
set_option maxRecDepth 100000
set_option linter.unusedSimpArgs false
namespace Go.Proofs.YtcgnjdkennkheaaDoor
open Go.RowKit
open Seal (Fz Hd St)
attribute [local go_sem] bs_size bs_toList2 bs_append bs_extract_end bs_extract_begin bs_get wrap64_b grow_cell grow_frozen


set_option maxHeartbeats 2000000 in
theorem Head_calls (key : List UInt8) (hk : key.length ≤ 4611686018427387904) (size clock : Int) (r : List UInt8) (hr : r.length = 32) (w : World) (KW : Keys w) : Calls Tryd.prog 11 #[.string (bs key), .int .i64 size, sumV r, .int .i64 clock] w fun e w' => e = .returned (Seal.Hd.sign key size r clock).v ∧ Ext w w' := by
  have hB0 : ArrB ((w.alloc (.cells (r.map byteV).toArray 23)).alloc (.cells (⟨0, List.replicate 32 0, 0, List.replicate 32 0⟩ : Hd).cells.toArray 25)) w.heap.size 23 r := by
    have := Blk.new w 23 (r.map byteV).toArray
    exact Blk.alloc (this) _
  have hB1 : HdAt ((w.alloc (.cells (r.map byteV).toArray 23)).alloc (.cells (⟨0, List.replicate 32 0, 0, List.replicate 32 0⟩ : Hd).cells.toArray 25)) (w.heap.size + 1) (⟨0, List.replicate 32 0, 0, List.replicate 32 0⟩ : Hd) := by
    have := Blk.new (w.alloc (.cells (r.map byteV).toArray 23)) 25 (⟨0, List.replicate 32 0, 0, List.replicate 32 0⟩ : Hd).cells.toArray
    rw [alloc_size] at this
    exact this
  have hE0 : Ext w ((w.alloc (.cells (r.map byteV).toArray 23)).alloc (.cells (⟨0, List.replicate 32 0, 0, List.replicate 32 0⟩ : Hd).cells.toArray 25)) := ((Ext.refl w).alloc _).alloc _
  obtain ⟨h, hh⟩ : ∃ h : Hd, h = (⟨size, r, clock, List.replicate 32 0⟩ : Hd) := ⟨_, rfl⟩
  have h1 : h.root.length = 32 := by rw [hh]; exact hr
  have h2 : h.mac.length = 32 := by rw [hh]; simp
  have hbu := built_hd3 size r hr clock
  rw [← hh] at hbu
  have hcc : h.cells = ([Value.int .i64 size] ++ (hcells r ++ [Value.int .i64 clock])) ++ (hcells (List.replicate 32 0) ++ []) := by rw [hh]; simp [Seal.Hd.cells]
  have hsl := Seal.Hd.saysB_length h h1
  have hoc := Seal.Hd.outE_cases h
  obtain ⟨z, hz⟩ : ∃ z, z = Seal.signB key h.saysB h.outE := ⟨_, rfl⟩
  have hz32 : z.length = 32 := by rw [hz]; exact Seal.signB_length _ _ _
  have hs : Seal.Hd.sign key size r clock = (⟨size, r, clock, z⟩ : Hd) := by rw [hz, hh]; rfl
  have hcz : (⟨size, r, clock, z⟩ : Hd).cells = ([Value.int .i64 size] ++ (hcells r ++ [Value.int .i64 clock])) ++ (hcells z ++ []) := by simp [Seal.Hd.cells]
  have h1' := hr; have h2' := hz32
  have hsz := Seal.size_hd (⟨size, r, clock, z⟩ : Hd) h1' h2'
  have hcl := Seal.Hd.cells_length (⟨size, r, clock, z⟩ : Hd) h1' h2'
  have hone := all_oneCell_toArray (Seal.Hd.one (⟨size, r, clock, z⟩ : Hd))
  rw [hs]
  have Hz := Lib.hid hz; have Hcc := Lib.hid hcc; have Hcz := Lib.hid hcz; have Hcl := Lib.hid hcl
  clear hh hz hs hcc hcz hcl
  unfold sumV Seal.Hd.v
  go_enter Tryd.func11, Tryd.ntmps11
  go_wp2_with (refine stop_load 23 (.tmp 6) rfl ?_)
  refine ⟨?_⟩
  change wpList _ _ _ _ _ ((w.alloc (.cells (r.map byteV).toArray 23)).alloc (.cells (⟨0, List.replicate 32 0, 0, List.replicate 32 0⟩ : Hd).cells.toArray 25))
  generalize ((w.alloc (.cells (r.map byteV).toArray 23)).alloc (.cells (⟨0, List.replicate 32 0, 0, List.replicate 32 0⟩ : Hd).cells.toArray 25)) = w0 at *
  refine wpList_load_row rfl 23 (.tmp 6) rfl w.heap.size (by rfl) 23 _ (0, 0) _ hB0 Tryd.underlying23 rfl (size32.trans (by simp [hr])) ?_
  simp only [Act.put, List.setIfInBounds_toArray, List.set_cons_zero, List.set_cons_succ]
  go_wp2_with (refine stop_at 15 rfl ?_)
  refine ⟨?_⟩
  refine wpList_build_to rfl 25 _ rfl _ (by rw [Array.toList_map]; rfl) _ hbu ?_
  simp only [Act.put, List.setIfInBounds_toArray, List.set_cons_zero, List.set_cons_succ]
  go_wp2_with (refine stop_store 25 (.tmp 9) (.tmp 15) rfl ?_)
  refine ⟨?_⟩
  have hN0 := Blk.new w0 25 (⟨0, List.replicate 32 0, 0, List.replicate 32 0⟩ : Hd).cells.toArray
  have hR0 := HdAt.ext hB1 ((Ext.refl w0).alloc (.cells (⟨0, List.replicate 32 0, 0, List.replicate 32 0⟩ : Hd).cells.toArray 25))
  have hE1 := hE0.alloc (.cells (⟨0, List.replicate 32 0, 0, List.replicate 32 0⟩ : Hd).cells.toArray 25)
  have hgl : w.heap.size + 1 < w0.heap.size := Blk.lt hB1
  change wpList _ _ _ _ _ (w0.alloc (.cells (⟨0, List.replicate 32 0, 0, List.replicate 32 0⟩ : Hd).cells.toArray 25))
  generalize w0.alloc (.cells (⟨0, List.replicate 32 0, 0, List.replicate 32 0⟩ : Hd).cells.toArray 25) = w1 at *
  generalize w0.heap.size = gh at *
  refine wpList_store_row rfl 25 (.tmp 9) (.tmp 15) rfl gh _ (by rfl) (by rfl) 25 _ hN0 (Seal.size_hd h h1 h2) (by simp only [List.size_toArray]; rw [Seal.Hd.cells_length h h1 h2]; rfl) (all_oneCell_toArray h.one) ?_
  simp only [Act.put, List.setIfInBounds_toArray, List.set_cons_zero, List.set_cons_succ]
  have hN : HdAt (w1.setRow gh h.cells.toArray) gh h := Blk.row hN0 _
  have hR1 : HdAt (w1.setRow gh h.cells.toArray) (w.heap.size + 1) (⟨0, List.replicate 32 0, 0, List.replicate 32 0⟩ : Hd) := Blk.rowFar hR0 (by omega) _
  have hE2 : Ext w (w1.setRow gh h.cells.toArray) := hE1.row (by omega) _
  clear hN0 hR0 hE1 hB0 hB1 hE0
  generalize w1.setRow gh h.cells.toArray = w2 at *
  clear w0 w1
  go_wp2_with (refine stop_load 25 (.tmp 9) rfl ?_)
  refine ⟨?_⟩
  refine wpList_load_row rfl 25 (.tmp 9) rfl gh (by rfl) 25 _ (0, 0) _ hN Tryd.underlying25 rfl (Seal.size_hd h h1 h2) ?_
  simp only [Act.put, List.setIfInBounds_toArray, List.set_cons_zero, List.set_cons_succ]
  go_wp2_with fail
  change Calls _ _ #[h.v] _ _
  refine (headSays_calls h h1 _).mono ?_; rintro e w3 ⟨rfl, e3⟩
  replace hN := hN.ext e3
  replace hR1 := hR1.ext e3
  replace hE2 := hE2.trans e3
  clear e3
  go_wp2_with fail
  refine (signed_calls key h.saysB h.outE hoc hk (by omega) _ (KW.ext hE2)).mono ?_; rw [← Hz.out]; rintro e w4 ⟨rfl, e4⟩
  replace hN := hN.ext e4
  replace hR1 := hR1.ext e4
  replace hE2 := hE2.trans e4
  clear e4
  have hth : w4.there gh 34 (z.map byteV).toArray.size := Blk.there hN 34 _ (by rw [Seal.Hd.cells_length h h1 h2]; simp [hz32])
  unfold sumV
  go_wp2_with (refine stop_store 23 (.tmp 25) (.tmp 24) rfl ?_)
  refine ⟨?_⟩
  refine wpList_store_mid rfl 23 (.tmp 25) (.tmp 24) rfl gh 34 _ (by rfl) (by rfl) hth (size32.trans (by simp [hz32])) (by simp [byteV, Value.oneCell']) ?_
  simp only [Act.put, List.setIfInBounds_toArray, List.set_cons_zero, List.set_cons_succ]
  have hM : HdAt (w4.setCells gh 34 (z.map byteV).toArray.toList) gh (⟨size, r, clock, z⟩ : Hd) := by
    have := hN
    unfold HdAt at this
    rw [Hcc.out] at this
    unfold HdAt
    rw [Hcz.out]
    exact Blk.mid this _ 34 (by simp [hcells_length, hr]) (by simp [hcells_length, hz32])
  have hR2 : HdAt (w4.setCells gh 34 (z.map byteV).toArray.toList) (w.heap.size + 1) (⟨0, List.replicate 32 0, 0, List.replicate 32 0⟩ : Hd) := Blk.farCells (by omega) _ _ _ hR1
  have hE4 : Ext w (w4.setCells gh 34 (z.map byteV).toArray.toList) := ext_setCells (by omega) _ _ _ hE2
  clear hN hR1 hE2 hth
  generalize w4.setCells gh 34 (z.map byteV).toArray.toList = w5 at *
  have hcl := Hcl.out
  go_wp2_with (refine stop_load 25 (.tmp 9) rfl ?_)
  refine ⟨?_⟩
  refine wpList_load_row rfl 25 (.tmp 9) rfl gh (by rfl) 25 _ (0, 0) _ hM Tryd.underlying25 rfl (hsz) ?_
  simp only [Act.put, List.setIfInBounds_toArray, List.set_cons_zero, List.set_cons_succ]
  go_wp2_with (refine stop_store 25 (.tmp 8) (.tmp 26) rfl ?_)
  refine ⟨?_⟩
  refine wpList_store_row rfl 25 (.tmp 8) (.tmp 26) rfl (w.heap.size + 1) _ (by rfl) (by rfl) 25 _ hR2 hsz (by simp only [List.size_toArray]; rw [hcl]; rfl) hone ?_
  simp only [Act.put, List.setIfInBounds_toArray, List.set_cons_zero, List.set_cons_succ]
  go_wp2_with fail
  (try simp only [Exit.inBlock, Exit.then])
  exact bodyPost_ret (results_cell_row rfl _ _ (w.heap.size + 1) 25 _ (0, 0) _ rfl (Blk.row hR2 _) Tryd.underlying25 rfl hsz) rfl ⟨rfl, hE4.row (by omega) _⟩

set_option maxHeartbeats 2000000 in
theorem Stone_calls (key : List UInt8) (hk : key.length ≤ 4611686018427387904) (f : Fz) (hr : f.root.length = 32) (t : Int) (w : World) (KW : Keys w) : Calls Tryd.prog 12 #[.string (bs key), f.v, .int .i64 t] w fun e w' => e = .returned (Seal.St.sign key f t).v ∧ Ext w w' := by
  have hB0 : FzAt ((w.alloc (.cells f.cells.toArray 27)).alloc (.cells (⟨⟨0, 0, List.replicate 32 0⟩, 0, List.replicate 32 0⟩ : St).cells.toArray 29)) w.heap.size f := by
    have := Blk.new w 27 f.cells.toArray
    exact Blk.alloc (this) _
  have hB1 : StAt ((w.alloc (.cells f.cells.toArray 27)).alloc (.cells (⟨⟨0, 0, List.replicate 32 0⟩, 0, List.replicate 32 0⟩ : St).cells.toArray 29)) (w.heap.size + 1) (⟨⟨0, 0, List.replicate 32 0⟩, 0, List.replicate 32 0⟩ : St) := by
    have := Blk.new (w.alloc (.cells f.cells.toArray 27)) 29 (⟨⟨0, 0, List.replicate 32 0⟩, 0, List.replicate 32 0⟩ : St).cells.toArray
    rw [alloc_size] at this
    exact this
  have hE0 : Ext w ((w.alloc (.cells f.cells.toArray 27)).alloc (.cells (⟨⟨0, 0, List.replicate 32 0⟩, 0, List.replicate 32 0⟩ : St).cells.toArray 29)) := ((Ext.refl w).alloc _).alloc _
  obtain ⟨h, hh⟩ : ∃ h : St, h = (⟨f, t, List.replicate 32 0⟩ : St) := ⟨_, rfl⟩
  have h1 : h.fz.root.length = 32 := by rw [hh]; exact hr
  have h2 : h.mac.length = 32 := by rw [hh]; simp
  have hbu := built_st2 f hr t
  rw [← hh] at hbu
  have hcc : h.cells = (f.cells ++ [Value.int .i64 t]) ++ (hcells (List.replicate 32 0) ++ []) := by rw [hh]; simp [Seal.St.cells]
  have hsl := Seal.St.saysB_length h h1
  have hoc := Seal.St.outE_cases h
  obtain ⟨z, hz⟩ : ∃ z, z = Seal.signB key h.saysB h.outE := ⟨_, rfl⟩
  have hz32 : z.length = 32 := by rw [hz]; exact Seal.signB_length _ _ _
  have hs : Seal.St.sign key f t = (⟨f, t, z⟩ : St) := by rw [hz, hh]; rfl
  have hcz : (⟨f, t, z⟩ : St).cells = (f.cells ++ [Value.int .i64 t]) ++ (hcells z ++ []) := by simp [Seal.St.cells]
  have h1' := hr; have h2' := hz32
  have hsz := Seal.size_st (⟨f, t, z⟩ : St) h1' h2'
  have hcl := Seal.St.cells_length (⟨f, t, z⟩ : St) h1' h2'
  have hone := all_oneCell_toArray (Seal.St.one (⟨f, t, z⟩ : St))
  rw [hs]
  have Hz := Lib.hid hz; have Hcc := Lib.hid hcc; have Hcz := Lib.hid hcz; have Hcl := Lib.hid hcl
  clear hh hz hs hcc hcz hcl
  unfold Seal.Fz.v Seal.St.v
  go_enter Tryd.func12, Tryd.ntmps12
  go_wp2_with (refine stop_load 27 (.tmp 4) rfl ?_)
  refine ⟨?_⟩
  change wpList _ _ _ _ _ ((w.alloc (.cells f.cells.toArray 27)).alloc (.cells (⟨⟨0, 0, List.replicate 32 0⟩, 0, List.replicate 32 0⟩ : St).cells.toArray 29))
  generalize ((w.alloc (.cells f.cells.toArray 27)).alloc (.cells (⟨⟨0, 0, List.replicate 32 0⟩, 0, List.replicate 32 0⟩ : St).cells.toArray 29)) = w0 at *
  refine wpList_load_row rfl 27 (.tmp 4) rfl w.heap.size (by rfl) 27 _ (0, 0) _ hB0 Tryd.underlying27 rfl (Seal.size_fz f hr) ?_
  simp only [Act.put, List.setIfInBounds_toArray, List.set_cons_zero, List.set_cons_succ]
  go_wp2_with (refine stop_at 12 rfl ?_)
  refine ⟨?_⟩
  refine wpList_build_to rfl 29 _ rfl _ (by rw [Array.toList_map]; rfl) _ hbu ?_
  simp only [Act.put, List.setIfInBounds_toArray, List.set_cons_zero, List.set_cons_succ]
  go_wp2_with (refine stop_store 29 (.tmp 7) (.tmp 12) rfl ?_)
  refine ⟨?_⟩
  have hN0 := Blk.new w0 29 (⟨⟨0, 0, List.replicate 32 0⟩, 0, List.replicate 32 0⟩ : St).cells.toArray
  have hR0 := StAt.ext hB1 ((Ext.refl w0).alloc (.cells (⟨⟨0, 0, List.replicate 32 0⟩, 0, List.replicate 32 0⟩ : St).cells.toArray 29))
  have hE1 := hE0.alloc (.cells (⟨⟨0, 0, List.replicate 32 0⟩, 0, List.replicate 32 0⟩ : St).cells.toArray 29)
  have hgl : w.heap.size + 1 < w0.heap.size := Blk.lt hB1
  change wpList _ _ _ _ _ (w0.alloc (.cells (⟨⟨0, 0, List.replicate 32 0⟩, 0, List.replicate 32 0⟩ : St).cells.toArray 29))
  generalize w0.alloc (.cells (⟨⟨0, 0, List.replicate 32 0⟩, 0, List.replicate 32 0⟩ : St).cells.toArray 29) = w1 at *
  generalize w0.heap.size = gh at *
  refine wpList_store_row rfl 29 (.tmp 7) (.tmp 12) rfl gh _ (by rfl) (by rfl) 29 _ hN0 (Seal.size_st h h1 h2) (by simp only [List.size_toArray]; rw [Seal.St.cells_length h h1 h2]; rfl) (all_oneCell_toArray h.one) ?_
  simp only [Act.put, List.setIfInBounds_toArray, List.set_cons_zero, List.set_cons_succ]
  have hN : StAt (w1.setRow gh h.cells.toArray) gh h := Blk.row hN0 _
  have hR1 : StAt (w1.setRow gh h.cells.toArray) (w.heap.size + 1) (⟨⟨0, 0, List.replicate 32 0⟩, 0, List.replicate 32 0⟩ : St) := Blk.rowFar hR0 (by omega) _
  have hE2 : Ext w (w1.setRow gh h.cells.toArray) := hE1.row (by omega) _
  clear hN0 hR0 hE1 hB0 hB1 hE0
  generalize w1.setRow gh h.cells.toArray = w2 at *
  clear w0 w1
  go_wp2_with (refine stop_load 29 (.tmp 7) rfl ?_)
  refine ⟨?_⟩
  refine wpList_load_row rfl 29 (.tmp 7) rfl gh (by rfl) 29 _ (0, 0) _ hN Tryd.underlying29 rfl (Seal.size_st h h1 h2) ?_
  simp only [Act.put, List.setIfInBounds_toArray, List.set_cons_zero, List.set_cons_succ]
  go_wp2_with fail
  change Calls _ _ #[h.v] _ _
  refine (stoneSays_calls h h1 _).mono ?_; rintro e w3 ⟨rfl, e3⟩
  replace hN := hN.ext e3
  replace hR1 := hR1.ext e3
  replace hE2 := hE2.trans e3
  clear e3
  go_wp2_with fail
  refine (signed_calls key h.saysB h.outE hoc hk (by omega) _ (KW.ext hE2)).mono ?_; rw [← Hz.out]; rintro e w4 ⟨rfl, e4⟩
  replace hN := hN.ext e4
  replace hR1 := hR1.ext e4
  replace hE2 := hE2.trans e4
  clear e4
  have hth : w4.there gh 35 (z.map byteV).toArray.size := Blk.there hN 35 _ (by rw [Seal.St.cells_length h h1 h2]; simp [hz32])
  unfold sumV
  go_wp2_with (refine stop_store 23 (.tmp 22) (.tmp 21) rfl ?_)
  refine ⟨?_⟩
  refine wpList_store_mid rfl 23 (.tmp 22) (.tmp 21) rfl gh 35 _ (by rfl) (by rfl) hth (size32.trans (by simp [hz32])) (by simp [byteV, Value.oneCell']) ?_
  simp only [Act.put, List.setIfInBounds_toArray, List.set_cons_zero, List.set_cons_succ]
  have hM : StAt (w4.setCells gh 35 (z.map byteV).toArray.toList) gh (⟨f, t, z⟩ : St) := by
    have := hN
    unfold StAt at this
    rw [Hcc.out] at this
    unfold StAt
    rw [Hcz.out]
    exact Blk.mid this _ 35 (by simp [Seal.Fz.cells_length _ hr]) (by simp [hcells_length, hz32])
  have hR2 : StAt (w4.setCells gh 35 (z.map byteV).toArray.toList) (w.heap.size + 1) (⟨⟨0, 0, List.replicate 32 0⟩, 0, List.replicate 32 0⟩ : St) := Blk.farCells (by omega) _ _ _ hR1
  have hE4 : Ext w (w4.setCells gh 35 (z.map byteV).toArray.toList) := ext_setCells (by omega) _ _ _ hE2
  clear hN hR1 hE2 hth
  generalize w4.setCells gh 35 (z.map byteV).toArray.toList = w5 at *
  have hcl := Hcl.out
  go_wp2_with (refine stop_load 29 (.tmp 7) rfl ?_)
  refine ⟨?_⟩
  refine wpList_load_row rfl 29 (.tmp 7) rfl gh (by rfl) 29 _ (0, 0) _ hM Tryd.underlying29 rfl (hsz) ?_
  simp only [Act.put, List.setIfInBounds_toArray, List.set_cons_zero, List.set_cons_succ]
  go_wp2_with (refine stop_store 29 (.tmp 6) (.tmp 23) rfl ?_)
  refine ⟨?_⟩
  refine wpList_store_row rfl 29 (.tmp 6) (.tmp 23) rfl (w.heap.size + 1) _ (by rfl) (by rfl) 29 _ hR2 hsz (by simp only [List.size_toArray]; rw [hcl]; rfl) hone ?_
  simp only [Act.put, List.setIfInBounds_toArray, List.set_cons_zero, List.set_cons_succ]
  go_wp2_with fail
  (try simp only [Exit.inBlock, Exit.then])
  exact bodyPost_ret (results_cell_row rfl _ _ (w.heap.size + 1) 29 _ (0, 0) _ rfl (Blk.row hR2 _) Tryd.underlying29 rfl hsz) rfl ⟨rfl, hE4.row (by omega) _⟩

end Go.Proofs.YtcgnjdkennkheaaDoor
