/-
  The chapter's examples (awake) and short of law 16.
-/
import Derived.Test.YtcgnjdkennkheaaDoorSeal5
set_option linter.unusedVariables false
set_option maxRecDepth 100000
set_option linter.unusedSimpArgs false
namespace Go.Proofs.YtcgnjdkennkheaaDoor
open Go.RowKit
open Seal (Fz Hd St)
attribute [local go_sem] bs_size bs_toList2 bs_append bs_extract_end bs_extract_begin bs_get wrap64_b grow_cell grow_frozen

theorem HdAt.clock {w : World} {g : Nat} {f : Hd} (h : HdAt w g f) (hr : f.root.length = 32) (c : Int) : HdAt (w.setCell ⟨g, 33, none⟩ (.int .i64 c)) g ⟨f.size, f.root, c, f.mac⟩ := by
  have h' := h
  unfold HdAt Seal.Hd.cells at h'
  rw [app3] at h'
  have := Blk.mid h' [.int .i64 c] 33 (by simp [hcells_length, hr]) rfl
  unfold HdAt Seal.Hd.cells
  rw [app3]
  exact this
theorem short16_calls (l : List UInt8) (n : Nat) (w : World) (hl : l.length ≤ 9223372036854775807) (hn : n ≤ 9223372036854775807) :
    Calls Tryd.prog 10 #[.string (bs l), .int .i64 n] w fun e w' => e = .returned (.string (bs (l.take n))) ∧ w = w' := by
  by_cases h : n < l.length
  · have hI : (n : Int) < (l.length : Int) := by omega
    go_enter Tryd.func10, Tryd.ntmps10
    go_wp2_with fail
    go_ret
    exact ⟨rfl, rfl⟩
  · have hI : ¬ (n : Int) < (l.length : Int) := by omega
    go_enter Tryd.func10, Tryd.ntmps10
    go_wp2_with fail
    go_ret
    exact ⟨by rw [List.take_of_length_le (by omega)]; rfl, rfl⟩
def keyS : List UInt8 := [107, 101, 121]
def hdT : Hd := Seal.Hd.sign keyS 3 (zerosB 32) 9
theorem hdT_mac : hdT.mac.length = 32 := by
  have h : hdT.mac = Seal.signB keyS (Hd.saysB ⟨3, zerosB 32, 9, List.replicate 32 0⟩) (Hd.outE ⟨3, zerosB 32, 9, List.replicate 32 0⟩) := rfl
  rw [h]
  exact Seal.signB_length _ _ _
theorem hdT_root : hdT.root.length = 32 := rfl
theorem hdT_right : hdT.rightB keyS = true := by decide +kernel
theorem hdT_not : Hd.rightB keyS ⟨hdT.size, hdT.root, 10, hdT.mac⟩ = false := by decide +kernel
theorem fzT_out : (⟨1, 2, List.replicate 32 0⟩ : Fz).outB = 70 :: 1 :: 1 :: 1 :: 2 :: 1 :: 32 :: zerosB 32 := by decide +kernel
theorem fzT_err : (⟨1, 2, List.replicate 32 0⟩ : Fz).outE = 0 := by decide +kernel

set_option maxHeartbeats 2000000 in
theorem awake16_calls (w : World) (KW : Keys w) : Calls Tryd.prog 9 #[] w fun e w' => e = .returned (.bool true) ∧ Ext w w' := by
  obtain ⟨i0, hi, hz0, hz1, hz2⟩ := info_parts info_u8
  have hbu := built_fz2 1 2
  have ho := fzT_out
  have he := fzT_err
  obtain ⟨h, hh⟩ : ∃ h, h = hdT := ⟨_, rfl⟩
  have h1 : h.root.length = 32 := by rw [hh]; exact hdT_root
  have h2 : h.mac.length = 32 := by rw [hh]; exact hdT_mac
  have hr := hdT_right
  have hn := hdT_not
  rw [← hh] at hr hn
  have hs : Seal.Hd.sign keyS 3 (zerosB 32) 9 = h := hh.symm
  have hkl : keyS.length ≤ 4611686018427387904 := by decide
  clear hh
  obtain ⟨z, hz⟩ : ∃ z, z = zerosB 32 := ⟨_, rfl⟩
  have hzl : z.length = 32 := by rw [hz]; simp [zerosB]
  rw [← hz] at ho
  have Hz := Lib.hid hz; clear hz
  go_enter Tryd.func9, Tryd.ntmps9
  go_wp2_with (refine stop_at 6 rfl ?_)
  refine ⟨?_⟩
  refine wpList_build_to rfl 27 _ rfl _ (by rw [Array.toList_map]; rfl) _ hbu ?_
  simp only [Act.put, List.setIfInBounds_toArray, List.set_cons_zero, List.set_cons_succ]
  go_wp2_with fail
  change Calls _ _ #[Fz.v ⟨1, 2, List.replicate 32 0⟩] _ _
  refine (FreezeBytes_calls _ (by simp) _).mono ?_; rw [ho, he]; rintro e w1 ⟨rfl, e1⟩
  go_wp2_with fail
  change Calls _ _ #[.string (bs keyS), .int .i64 3, sumV (zerosB 32), .int .i64 9] _ _
  refine (Head_calls keyS hkl 3 9 (zerosB 32) (by simp [zerosB]) _ (KW.ext e1)).mono ?_; rw [hs]; rintro e w2 ⟨rfl, e2⟩
  have hE2 := e1.trans e2
  unfold Seal.Hd.v
  go_wp2_with (refine stop_store 25 (.tmp 3) (.tmp 11) rfl ?_)
  refine ⟨?_⟩
  change wpList _ _ _ _ _ (w2.alloc (.cells (⟨0, List.replicate 32 0, 0, List.replicate 32 0⟩ : Hd).cells.toArray 25))
  have hA0 := Blk.new w2 25 (⟨0, List.replicate 32 0, 0, List.replicate 32 0⟩ : Hd).cells.toArray
  have e3a := (Ext.refl w2).alloc (.cells (⟨0, List.replicate 32 0, 0, List.replicate 32 0⟩ : Hd).cells.toArray 25)
  have gal : w2.heap.size < (w2.alloc (.cells (⟨0, List.replicate 32 0, 0, List.replicate 32 0⟩ : Hd).cells.toArray 25)).heap.size := Blk.lt hA0
  obtain ⟨ga, gae⟩ : ∃ ga, ga = w2.heap.size := ⟨_, rfl⟩
  have gab : w2.heap.size ≤ ga := by omega
  rw [← gae] at hA0 gal
  try rw [← gae]
  generalize w2.alloc (.cells (⟨0, List.replicate 32 0, 0, List.replicate 32 0⟩ : Hd).cells.toArray 25) = w2' at *
  refine wpList_store_row rfl 25 (.tmp 3) (.tmp 11) rfl ga h.cells.toArray (by rfl) (by rfl) 25 _ hA0 (Seal.size_hd h h1 h2) (by simp only [List.size_toArray]; rw [Seal.Hd.cells_length h h1 h2]; rfl) (all_oneCell_toArray (Seal.Hd.one h)) ?_
  simp only [Act.put, List.setIfInBounds_toArray, List.set_cons_zero, List.set_cons_succ]
  have hA : HdAt (w2'.setRow ga h.cells.toArray) ga h := Blk.row hA0 _
  have e3 : Ext w2 (w2'.setRow ga h.cells.toArray) := e3a.row gab _
  clear hA0 e3a gal
  generalize w2'.setRow ga h.cells.toArray = w3 at *
  clear w2' gae
  have hE3 := hE2.trans e3
  have hal := Blk.lt hA
  go_wp2_with (refine stop_load 25 (.tmp 3) rfl ?_)
  refine ⟨?_⟩
  refine wpList_load_row rfl 25 (.tmp 3) rfl ga (by rfl) 25 _ (0, 0) _ hA Tryd.underlying25 rfl (Seal.size_hd h h1 h2) ?_
  simp only [Act.put, List.setIfInBounds_toArray, List.set_cons_zero, List.set_cons_succ]
  go_wp2_with (refine stop_store 25 (.tmp 4) (.tmp 12) rfl ?_)
  refine ⟨?_⟩
  change wpList _ _ _ _ _ (w3.alloc (.cells (⟨0, List.replicate 32 0, 0, List.replicate 32 0⟩ : Hd).cells.toArray 25))
  have hB0 := Blk.new w3 25 (⟨0, List.replicate 32 0, 0, List.replicate 32 0⟩ : Hd).cells.toArray
  have e4a := (Ext.refl w3).alloc (.cells (⟨0, List.replicate 32 0, 0, List.replicate 32 0⟩ : Hd).cells.toArray 25)
  have gbl : w3.heap.size < (w3.alloc (.cells (⟨0, List.replicate 32 0, 0, List.replicate 32 0⟩ : Hd).cells.toArray 25)).heap.size := Blk.lt hB0
  obtain ⟨gb, gbe⟩ : ∃ gb, gb = w3.heap.size := ⟨_, rfl⟩
  have gbb : w3.heap.size ≤ gb := by omega
  rw [← gbe] at hB0 gbl
  try rw [← gbe]
  generalize w3.alloc (.cells (⟨0, List.replicate 32 0, 0, List.replicate 32 0⟩ : Hd).cells.toArray 25) = w3' at *
  refine wpList_store_row rfl 25 (.tmp 4) (.tmp 12) rfl gb h.cells.toArray (by rfl) (by rfl) 25 _ hB0 (Seal.size_hd h h1 h2) (by simp only [List.size_toArray]; rw [Seal.Hd.cells_length h h1 h2]; rfl) (all_oneCell_toArray (Seal.Hd.one h)) ?_
  simp only [Act.put, List.setIfInBounds_toArray, List.set_cons_zero, List.set_cons_succ]
  have hB : HdAt (w3'.setRow gb h.cells.toArray) gb h := Blk.row hB0 _
  have e4 : Ext w3 (w3'.setRow gb h.cells.toArray) := e4a.row gbb _
  clear hB0 e4a gbl
  generalize w3'.setRow gb h.cells.toArray = w4 at *
  clear w3' gbe
  have hE4 := hE3.trans e4
  have hA4 := hA.ext e4
  have fzb := Blk.frozen hB 33
  have hbc := hB.c33 h1
  have hbl := Blk.lt hB
  go_wp2_with (first
    | (at_make; refine wpList_make_full _ rfl _ _ 58 rfl (w4.setCell ⟨gb, 33, none⟩ (.int .i64 10)).heap.size 5 i0 (.int .u8 0) 1 Tryd.underlying58 hi hz0 hz1 .i64 .i64 _ _ 32 rfl rfl (by omega) (by omega) (by rw [hz2]; omega) (by unfold maxLen; omega) (Nat.le_refl _) ?_; intro w6 hown6 hgrow6))
  have hB5 := hB.clock h1 10
  have hA5 : HdAt (w4.setCell ⟨gb, 33, none⟩ (.int .i64 10)) ga h := Blk.far hA4 (p := ⟨gb, 33, none⟩) (by show ga ≠ gb; omega) _
  have hE5 : Ext w (w4.setCell ⟨gb, 33, none⟩ (.int .i64 10)) := hE4.setCell (p := ⟨gb, 33, none⟩) (by have := hE3.size; show w.heap.size ≤ gb; omega) _
  rw [made_bytes] at hown6
  have hD6 : Blk w6 (w4.setCell ⟨gb, 33, none⟩ (.int .i64 10)).heap.size 5 ((zerosB 32).map byteV).toArray := blk_of_own hown6 (by omega)
  have e6 : Ext (w4.setCell ⟨gb, 33, none⟩ (.int .i64 10)) w6 := ⟨hgrow6.os, hgrow6.tape, hgrow6.output, hgrow6.size, fun k hk => hgrow6.block k hk (by simp)⟩
  have hA6 := hA5.ext e6
  have hB6 := hB5.ext e6
  have hE6 := hE5.trans e6
  have hszz : (w4.setCell ⟨gb, 33, none⟩ (.int .i64 10)).heap.size = w4.heap.size := by simp [World.setCell]
  rw [hszz] at hD6
  have hconv : (convert 58 9 (.slice (some ⟨w4.heap.size, 0, none⟩) 32 32)).run Tryd.prog w6 = .ok (.string (bs z)) w6 := by
    rw [Hz.out]
    exact conv_bytes w6 _ _ (zerosB 32) 32 32 rfl hD6.rd
  clear hown6 hgrow6 hD6 e6 hB5 hA5 hE5 hA4 hB hE4 hE3 hA
  clear hszz
  have hcs : (ByteArray.mk #[70, 1, 1, 1, 2, 1, 32]) = bs [70, 1, 1, 1, 2, 1, 32] := rfl
  have hov : ¬ (9223372036854775807 < ([70, 1, 1, 1, 2, 1, 32] : List UInt8).length + z.length) := by simp [hzl]
  have hov2 : ¬ (9223372036854775807 < 7 + z.length) := by omega
  have hgsz := Seal.size_hd (⟨h.size, h.root, 10, h.mac⟩ : Hd) h1 h2
  go_wp2_with fail
  rw [hconv]
  go_wp2_with (refine stop_load 25 (.tmp 3) rfl ?_)
  refine ⟨?_⟩
  refine list_wantS (by rfl) (fun K hK => ?_)
  refine wp_load_row 25 (.tmp 3) rfl ga (by rfl) 25 _ (0, 0) _ hA6 Tryd.underlying25 rfl (Seal.size_hd h h1 h2) ?_
  refine hK _ _ ?_; clear hK K
  simp only [Act.put, List.setIfInBounds_toArray, List.set_cons_zero, List.set_cons_succ]
  go_wp2_with fail
  change Calls _ _ #[.string (bs keyS), h.v] _ _
  refine (HeadRight_calls keyS hkl h h1 h2 _ (KW.ext hE6)).mono ?_; rw [hr]; rintro e w7 ⟨rfl, e7⟩
  have hB7 := hB6.ext e7
  have hE7 := hE6.trans e7
  go_wp2_with (refine stop_load 25 (.tmp 4) rfl ?_)
  refine ⟨?_⟩
  refine list_wantS (by rfl) (fun K hK => ?_)
  refine wp_load_row 25 (.tmp 4) rfl gb (by rfl) 25 _ (0, 0) _ hB7 Tryd.underlying25 rfl hgsz ?_
  refine hK _ _ ?_; clear hK K
  simp only [Act.put, List.setIfInBounds_toArray, List.set_cons_zero, List.set_cons_succ]
  go_wp2_with fail
  change Calls _ _ #[.string (bs keyS), Hd.v ⟨h.size, h.root, 10, h.mac⟩] _ _
  refine (HeadRight_calls keyS hkl ⟨h.size, h.root, 10, h.mac⟩ h1 h2 _ (KW.ext hE7)).mono ?_; rw [hn]; rintro e w8 ⟨rfl, e8⟩
  go_wp2_with fail
  go_ret
  exact ⟨rfl, hE7.trans e8⟩

end Go.Proofs.YtcgnjdkennkheaaDoor
