/-
  A region that draws its order, in which calls may write blocks that nobody else reads: the blocks of S stay.
  Reading of layer 16: a hash at a scanner's place (seal.hash).
  The parsers of layer 16 (the closures of seal.ReadFreeze and seal.ReadHead).
  Reading of layer 16: strings.CutPrefix, seal.read, ReadFreeze, ReadHead.
  Reading of layer 16: the parser of stones, seal.read[Stone], seal.ReadStone.
-/
import Derived.Test.YtcgnjdkennkheaaGreatDoorRefPM
import Derived.Test.YtcgnjdkennkheaaGreatDoorUpd
import Derived.Test.YtcgnjdkennkheaaGreatDoorSums
import Derived.Test.YtcgnjdkennkheaaGreatDoorSealM
import Derived.Lib.BufferWrite
import Derived.Lib.SlBuf
set_option linter.unusedVariables false
set_option maxRecDepth 100000
set_option linter.unusedSimpArgs false
set_option linter.unusedSectionVars false
namespace Go.Proofs.YtcgnjdkennkheaaGreatDoor
open Go.RowKit

section
variable {S : Nat → Prop} {w : World} (x : Held S w)
variable {P : Program} {id : Nat} {Q : Exit → Act → World → Prop} {a : Act} {l : List Oper}
end
section
variable {P : Program} {ops : Array Oper} {T : Act → World → Prop} {o : Oper} {rest : List Oper} {a : Act} {w w0 : World} {S : Nat → Prop}
end

end Go.Proofs.YtcgnjdkennkheaaGreatDoor

namespace Go.Proofs.YtcgnjdkennkheaaGreatDoor
open Go.RowKit
open Seal (Fz Hd St)
attribute [local go_sem] bs_size bs_toList2 bs_append bs_extract_end bs_extract_begin bs_get wrap64_b

theorem byteCells_is (l : List UInt8) : Lib.byteCells l = l.map byteV := rfl
theorem text_atmost (x : Oct.Sc) (most : Int) (h : 0 ≤ most) : ((x.text most).1.length : Int) ≤ most := by
  have h1 := Oct.num_le x most h
  have h2 := Oct.num_nonneg x most
  unfold Oct.Sc.text
  split
  · simpa using h
  · unfold Oct.Sc.take
    split
    · simpa using h
    · split
      · simpa using h
      · simp only [List.length_take]
        omega
/-- copy(h[:], t), t of at most 32 bytes, h zero. -/
theorem copy_pad (w : World) (g : Nat) (q : List UInt8) (hq : q.length ≤ 32) (hg : ArrB w g 28 (zerosB 32)) (ty : TypeId) :
    (Builtin.copy_ #[87, 9] ty #[.slice (some ⟨g, 0, none⟩) 32 32, .string (bs q)]).run Tryz.prog w = .ok (goInt q.length) (w.setRow g ((Seal.pad32 q).map byteV).toArray) := by
  have h := Lib.run_copy_row_string (P := Tryz.prog) w 87 9 ty 5 g 0 32 32 (bs q) ((zerosB 32).map byteV).toArray 28 Tryz.underlying87 (by kernel_rfl) hg (by rw [bs_size]; exact hq) (by simp [bs_size, zerosB]; exact hq)
  rw [h, bs_size, bs_toList]
  congr 2
  rw [byteCells_is, Nat.zero_add, List.take_zero, List.nil_append, ← List.map_drop, ← List.map_append]
  congr 2
  unfold Seal.pad32 zerosB
  rw [List.drop_replicate, List.take_append, List.take_of_length_le hq, List.take_replicate]
  congr 2
  omega
theorem FzAt.upd {w w' : World} {b g : Nat} {f : Fz} (h : FzAt w b f) (hU : Upd g w w') (hne : b ≠ g) : FzAt w' b f := Blk.grown h hU (by simpa using hne)
theorem HdAt.upd {w w' : World} {b g : Nat} {f : Hd} (h : HdAt w b f) (hU : Upd g w w') (hne : b ≠ g) : HdAt w' b f := Blk.grown h hU (by simpa using hne)
theorem Keep.row {S : Nat → Prop} {a b : World} (h : Keep S a b) {g : Nat} (hg : ¬ S g) (cs : Array Value) : Keep S a (b.setRow g cs) :=
  h.trans ⟨rfl, rfl, rfl, by simp [World.setRow], fun k hk hs => heap_setRow k (fun e => hg (by rw [← e]; exact hs))⟩
theorem Upd.rowNew {g k : Nat} {a b : World} (h : Upd g a b) (hk : a.heap.size ≤ k) (cs : Array Value) : Upd g a (b.setRow k cs) :=
  ⟨h.os, h.tape, h.output, by simpa [World.setRow] using h.size, fun i hi hne => (heap_setRow i (by omega)).trans (h.block i hi hne)⟩
theorem upd_cells {w : World} {g k : Nat} (hk : w.heap.size ≤ k) : ∀ (vs : List Value) (o : Nat) (w' : World), Upd g w w' → Upd g w (w'.setCells k o vs)
  | [], o, w', h => h
  | v :: vs, o, w', h => upd_cells hk vs (o + 1) _ (h.setCell (p := ⟨k, o, none⟩) (.inr hk) v)
theorem ScAt.far {w : World} {g k : Nat} {x : Oct.Sc} (h : ScAt w g x) (hne : g ≠ k) (o : Nat) (v : Value) : ScAt (w.setCell ⟨k, o, none⟩ v) g x := Blk.far h (p := ⟨k, o, none⟩) hne v

set_option maxHeartbeats 1000000 in
theorem hash_calls (g : Nat) (x : Oct.Sc) (w : World) (h : ScAt w g x) (hl : x.left.length ≤ 9223372036854775807) :
    Calls Tryz.prog 82 #[.pointer (some ⟨g, 0, none⟩)] w fun e w' => e = .returned (sumV (Seal.pad32 (x.text 32).1)) ∧ ScAt w' g (x.text 32).2 ∧ Upd g w w' := by
  have hB0 : ArrB ((w.alloc (.cells ((zerosB 32).map byteV).toArray 28)).alloc (.cells ((zerosB 32).map byteV).toArray 28)) w.heap.size 28 (zerosB 32) := by
    have := Blk.new w 28 ((zerosB 32).map byteV).toArray
    exact Blk.alloc (this) _
  have hB1 : ArrB ((w.alloc (.cells ((zerosB 32).map byteV).toArray 28)).alloc (.cells ((zerosB 32).map byteV).toArray 28)) (w.heap.size + 1) 28 (zerosB 32) := by
    have := Blk.new (w.alloc (.cells ((zerosB 32).map byteV).toArray 28)) 28 ((zerosB 32).map byteV).toArray
    rw [alloc_size] at this
    exact this
  have hE0 : Ext w ((w.alloc (.cells ((zerosB 32).map byteV).toArray 28)).alloc (.cells ((zerosB 32).map byteV).toArray 28)) := ((Ext.refl w).alloc _).alloc _
  have hS := h.ext hE0
  have hgl : g < w.heap.size := Blk.lt h
  have ht := text_atmost x 32 (by omega)
  have HT := fun w hw => ScText_calls g x 32 w hw hl (by omega) (by omega)
  generalize x.text 32 = p at *
  obtain ⟨t, x'⟩ := p
  simp only at ht HT ⊢
  obtain ⟨z, hz⟩ : ∃ z, z = Seal.pad32 t := ⟨_, rfl⟩
  rw [← hz]
  have hz32 : z.length = 32 := by rw [hz]; exact Seal.pad32_length _
  have Hz := Lib.hid hz; have Ht := Lib.hid ht; have HH := Lib.hid HT
  clear hz ht HT
  go_enter Tryz.func82, Tryz.ntmps82
  go_wp2_with fail
  change (Code.region _ _ _).wp _ _ _ ((w.alloc (.cells ((zerosB 32).map byteV).toArray 28)).alloc (.cells ((zerosB 32).map byteV).toArray 28))
  have hwl : w.heap.size < ((w.alloc (.cells ((zerosB 32).map byteV).toArray 28)).alloc (.cells ((zerosB 32).map byteV).toArray 28)).heap.size := Blk.lt hB0
  generalize ((w.alloc (.cells ((zerosB 32).map byteV).toArray 28)).alloc (.cells ((zerosB 32).map byteV).toArray 28)) = w0 at *
  refine region_keep0 (fun k => k ≠ g ∧ k ≠ w.heap.size + 1) (by kernel_rfl) (by kernel_rfl) ?_
  iterate 2 (first | (refine mix_quiet (by rfl) (by rfl) (fun K hK => ?_); go_big_quiet_op; refine hK _ ?_; clear hK K) | (refine mix_skip (by rfl) ?_; simp only [Act.put, List.setIfInBounds_toArray, List.set_cons_zero, List.set_cons_succ]))
  (refine mix_loud (by rfl) (by rfl) (fun K E hK => ?_); go_big_op)
  refine (HH.out w0.drew (Blk.drew hS)).mono ?_; rintro e w1 ⟨rfl, hS1, hU1⟩
  have hk1 : Keep (fun k => k ≠ g ∧ k ≠ w.heap.size + 1) w0 w1 := (Keep.refl _ w0).drew.trans (Keep.of_upd hU1 (by simp))
  refine hK _ _ (held_of hk1) ?_; clear hK K E
  have hA1 : ArrB w1 w.heap.size 28 (zerosB 32) := Blk.grown hB0.drew hU1 (by simp; omega)
  have hC1 : ArrB w1 (w.heap.size + 1) 28 (zerosB 32) := Blk.grown hB1.drew hU1 (by simp; omega)
  refine mix_loud (by rfl) (by rfl) (fun K E hK => ?_)
  refine Lib.wp_copy_run _ (.tmp 4) (.tmp 6) 87 9 rfl _ _ rfl rfl (copy_pad w1 (w.heap.size + 1) t (by have := Ht.out; omega) hC1 _) ?_
  rw [← Hz.out]
  refine hK _ _ (held_of (hk1.row (by simp) _)) ?_; clear hK K E
  simp only [Act.put, List.setIfInBounds_toArray, List.set_cons_zero, List.set_cons_succ]
  refine mix_nil ?_
  have hC2 : ArrB (w1.setRow (w.heap.size + 1) (z.map byteV).toArray) (w.heap.size + 1) 28 z := Blk.row hC1 _
  have hA2 : ArrB (w1.setRow (w.heap.size + 1) (z.map byteV).toArray) w.heap.size 28 (zerosB 32) := Blk.rowFar hA1 (by omega) _
  have hS2 : ScAt (w1.setRow (w.heap.size + 1) (z.map byteV).toArray) g x' := Blk.rowFar hS1 (by omega) _
  have hU2 : Upd g w (w1.setRow (w.heap.size + 1) (z.map byteV).toArray) := (((Upd.of_ext hE0).drew).trans hU1).rowNew (by omega) _
  clear hC1 hA1 hS1 hU1 hk1 hS hB0 hB1 hE0
  generalize w1.setRow (w.heap.size + 1) (z.map byteV).toArray = w2 at *
  go_wp2_with (refine stop_load 28 (.tmp 3) rfl ?_)
  refine ⟨?_⟩
  refine wpList_load_row rfl 28 (.tmp 3) rfl (w.heap.size + 1) (by rfl) 28 _ (0, 0) _ hC2 Tryz.underlying28 rfl (size32.trans (by simp [hz32])) ?_
  simp only [Act.put, List.setIfInBounds_toArray, List.set_cons_zero, List.set_cons_succ]
  go_wp2_with (refine stop_store 28 (.tmp 2) (.tmp 8) rfl ?_)
  refine ⟨?_⟩
  refine wpList_store_row rfl 28 (.tmp 2) (.tmp 8) rfl w.heap.size (z.map byteV).toArray (by rfl) (by rfl) 28 _ hA2 (size32.trans (by simp [hz32])) (by simp [hz32, zerosB]) (by simp [byteV, Value.oneCell']) ?_
  simp only [Act.put, List.setIfInBounds_toArray, List.set_cons_zero, List.set_cons_succ]
  go_wp2_with fail
  (try simp only [Exit.inBlock, Exit.then])
  exact bodyPost_ret (results_cell_row rfl _ _ w.heap.size 28 _ (0, 0) _ rfl (Blk.row hA2 (z.map byteV).toArray) Tryz.underlying28 rfl (size32.trans (by simp [hz32]))) rfl ⟨rfl, Blk.rowFar hS2 (by omega) _, hU2.rowNew (by omega) _⟩

end Go.Proofs.YtcgnjdkennkheaaGreatDoor

namespace Go.Proofs.YtcgnjdkennkheaaGreatDoor
open Go.RowKit
open Seal (Fz Hd St)
attribute [local go_sem] bs_size bs_toList2 bs_append bs_extract_end bs_extract_begin bs_get wrap64_b

theorem FzAt.cnt {w : World} {g : Nat} {f : Fz} (h : FzAt w g f) (c : Int) : FzAt (w.setCell ⟨g, 1, none⟩ (.int .i64 c)) g ⟨f.win, c, f.root⟩ := by
  have := Blk.mid (pre := [.int .i64 f.win]) (old := [.int .i64 f.cnt]) (post := hcells f.root ++ []) h [.int .i64 c] 1 rfl rfl
  exact this
theorem FzAt.put {w : World} {g : Nat} {f : Fz} (h : FzAt w g f) (r : List UInt8) (hl : f.root.length = r.length) : FzAt (w.setCells g 2 (r.map byteV).toArray.toList) g ⟨f.win, f.cnt, r⟩ :=
  Blk.mid (pre := [.int .i64 f.win, .int .i64 f.cnt]) (old := hcells f.root) (post := []) h _ 2 rfl (by simp [hcells_length, hl])
theorem HdAt.putRoot {w : World} {g : Nat} {f : Hd} (h : HdAt w g f) (r : List UInt8) (hl : f.root.length = r.length) : HdAt (w.setCells g 1 (r.map byteV).toArray.toList) g ⟨f.size, r, f.clock, f.mac⟩ :=
  Blk.mid (pre := [.int .i64 f.size]) (old := hcells f.root) (post := [Value.int .i64 f.clock] ++ (hcells f.mac ++ [])) h _ 1 rfl (by simp [hcells_length, hl])
theorem HdAt.clk {w : World} {g : Nat} {f : Hd} (h : HdAt w g f) (hr : f.root.length = 32) (c : Int) : HdAt (w.setCell ⟨g, 33, none⟩ (.int .i64 c)) g ⟨f.size, f.root, c, f.mac⟩ := by
  have h' := h
  unfold HdAt Seal.Hd.cells at h'
  rw [app3] at h'
  have := Blk.mid h' [.int .i64 c] 33 (by simp [hcells_length, hr]) rfl
  unfold HdAt Seal.Hd.cells
  rw [app3]
  exact this
theorem HdAt.putMac {w : World} {g : Nat} {f : Hd} (h : HdAt w g f) (hr : f.root.length = 32) (r : List UInt8) (hl : f.mac.length = r.length) : HdAt (w.setCells g 34 (r.map byteV).toArray.toList) g ⟨f.size, f.root, f.clock, r⟩ := by
  have h' := h
  unfold HdAt Seal.Hd.cells at h'
  rw [app3, ← List.append_assoc] at h'
  have := Blk.mid h' (r.map byteV).toArray.toList 34 (by simp [hcells_length, hr]) (by simp [hcells_length, hl])
  unfold HdAt Seal.Hd.cells
  rw [app3, ← List.append_assoc]
  exact this
theorem ScAt.rowF {w : World} {g k : Nat} {x : Oct.Sc} (h : ScAt w g x) (hne : g ≠ k) (cs : Array Value) : ScAt (w.setRow k cs) g x := Blk.rowFar h hne cs
theorem ScAt.farC {w : World} {g k : Nat} {x : Oct.Sc} (h : ScAt w g x) (hne : g ≠ k) (o : Nat) (v : Value) : ScAt (w.setCell ⟨k, o, none⟩ v) g x := Blk.far h (p := ⟨k, o, none⟩) hne v
theorem ScAt.farCs {w : World} {g k : Nat} {x : Oct.Sc} (h : ScAt w g x) (hne : g ≠ k) (vs : List Value) (o : Nat) : ScAt (w.setCells k o vs) g x := Blk.farCells hne vs o w h
theorem ScAt.lt {w : World} {g : Nat} {x : Oct.Sc} (h : ScAt w g x) : g < w.heap.size := Blk.lt h
theorem FzAt.rowF {w : World} {g k : Nat} {x : Fz} (h : FzAt w g x) (hne : g ≠ k) (cs : Array Value) : FzAt (w.setRow k cs) g x := Blk.rowFar h hne cs
theorem FzAt.farC {w : World} {g k : Nat} {x : Fz} (h : FzAt w g x) (hne : g ≠ k) (o : Nat) (v : Value) : FzAt (w.setCell ⟨k, o, none⟩ v) g x := Blk.far h (p := ⟨k, o, none⟩) hne v
theorem FzAt.farCs {w : World} {g k : Nat} {x : Fz} (h : FzAt w g x) (hne : g ≠ k) (vs : List Value) (o : Nat) : FzAt (w.setCells k o vs) g x := Blk.farCells hne vs o w h
theorem FzAt.lt {w : World} {g : Nat} {x : Fz} (h : FzAt w g x) : g < w.heap.size := Blk.lt h
theorem HdAt.rowF {w : World} {g k : Nat} {x : Hd} (h : HdAt w g x) (hne : g ≠ k) (cs : Array Value) : HdAt (w.setRow k cs) g x := Blk.rowFar h hne cs
theorem HdAt.farC {w : World} {g k : Nat} {x : Hd} (h : HdAt w g x) (hne : g ≠ k) (o : Nat) (v : Value) : HdAt (w.setCell ⟨k, o, none⟩ v) g x := Blk.far h (p := ⟨k, o, none⟩) hne v
theorem HdAt.farCs {w : World} {g k : Nat} {x : Hd} (h : HdAt w g x) (hne : g ≠ k) (vs : List Value) (o : Nat) : HdAt (w.setCells k o vs) g x := Blk.farCells hne vs o w h
theorem HdAt.lt {w : World} {g : Nat} {x : Hd} (h : HdAt w g x) : g < w.heap.size := Blk.lt h
set_option maxHeartbeats 2000000 in
theorem parseFz_calls (g : Nat) (x : Oct.Sc) (w : World) (h : ScAt w g x) (hl : x.left.length ≤ 9223372036854775807) :
    Calls Tryz.prog 81 #[.pointer (some ⟨g, 0, none⟩)] w fun e w' => e = .returned (Fz.parse x).1.v ∧ ScAt w' g (Fz.parse x).2 ∧ Upd g w w' := by
  have hR : FzAt (w.alloc (.cells (⟨0, 0, List.replicate 32 0⟩ : Fz).cells.toArray 30)) w.heap.size (⟨0, 0, List.replicate 32 0⟩ : Fz) := by
    have := Blk.new w 30 (⟨0, 0, List.replicate 32 0⟩ : Fz).cells.toArray
    exact this
  have hE0 : Ext w (w.alloc (.cells (⟨0, 0, List.replicate 32 0⟩ : Fz).cells.toArray 30)) := (Ext.refl w).alloc _
  have hS := h.ext hE0
  have hgl : g < w.heap.size := Blk.lt h
  have hU : Upd g w (w.alloc (.cells (⟨0, 0, List.replicate 32 0⟩ : Fz).cells.toArray 30)) := Upd.of_ext hE0
  have l1 := Oct.num_left_le x 1125899906842624
  have l2 := Oct.num_left_le (x.num 1125899906842624).2 4000
  have HN1 := fun w hw => Num_calls g x 1125899906842624 w hw hl (by omega) (by omega)
  have HN2 := fun w hw => Num_calls g (x.num 1125899906842624).2 4000 w hw (by omega) (by omega) (by omega)
  have HN3 := fun w hw => hash_calls g ((x.num 1125899906842624).2.num 4000).2 w hw (by omega)
  unfold Seal.Fz.parse
  simp only
  generalize x.num 1125899906842624 = a at *
  generalize a.2.num 4000 = b at *
  generalize b.2.text 32 = c at *
  clear l1 l2 hl h
  obtain ⟨z, hz⟩ : ∃ z, z = Seal.pad32 c.1 := ⟨_, rfl⟩
  rw [← hz] at HN3 ⊢
  have hz32 : z.length = 32 := by rw [hz]; exact Seal.pad32_length _
  have hbu := built_fz1 a.1
  have H1 := Lib.hid HN1; have H2 := Lib.hid HN2; have H3 := Lib.hid HN3
  clear HN1 HN2 HN3 hz
  go_enter Tryz.func81, Tryz.ntmps81
  go_wp2_with fail
  change Calls _ _ _ (w.alloc (.cells (⟨0, 0, List.replicate 32 0⟩ : Fz).cells.toArray 30)) _
  have hRl : w.heap.size < (w.alloc (.cells (⟨0, 0, List.replicate 32 0⟩ : Fz).cells.toArray 30)).heap.size := Blk.lt hR
  generalize (w.alloc (.cells (⟨0, 0, List.replicate 32 0⟩ : Fz).cells.toArray 30)) = w0 at *
  refine (H1.out _ hS).mono ?_; rintro e v1 ⟨rfl, hS', hU'⟩
  replace hS := hS'
  replace hR := hR.upd hU' (by omega)
  have sz1 := hU'.size
  replace hU := hU.trans hU'
  clear hS' hU'
  go_wp2_with (refine stop_at 6 rfl ?_)
  refine ⟨?_⟩
  refine wpList_build_to rfl 30 _ rfl _ (by rw [Array.toList_map]; rfl) _ hbu ?_
  simp only [Act.put, List.setIfInBounds_toArray, List.set_cons_zero, List.set_cons_succ]
  go_wp2_with (refine stop_store 30 (.tmp 3) (.tmp 6) rfl ?_)
  refine ⟨?_⟩
  change wpList _ _ _ _ _ (v1.alloc (.cells (⟨0, 0, List.replicate 32 0⟩ : Fz).cells.toArray 30))
  have hN0 := Blk.new v1 30 (⟨0, 0, List.replicate 32 0⟩ : Fz).cells.toArray
  have ea := (Ext.refl v1).alloc (.cells (⟨0, 0, List.replicate 32 0⟩ : Fz).cells.toArray 30)
  have gs3 := hS.lt
  replace hS := hS.ext ea
  have gb_hR3 := hR.lt
  replace hR := hR.ext ea
  replace hU := hU.ext ea
  clear ea
  have hUs3 := hU.size
  obtain ⟨g3, g3e⟩ : ∃ g3, g3 = v1.heap.size := ⟨_, rfl⟩
  try rw [← g3e]
  rw [← g3e] at hN0
  have g3b : v1.heap.size ≤ g3 := by omega
  have g3c : g3 ≤ v1.heap.size := by omega
  clear g3e
  generalize v1.alloc (.cells (⟨0, 0, List.replicate 32 0⟩ : Fz).cells.toArray 30) = v2' at *
  refine wpList_store_row rfl 30 (.tmp 3) (.tmp 6) rfl g3 (⟨a.1, 0, List.replicate 32 0⟩ : Fz).cells.toArray (by rfl) (by rfl) 30 _ hN0 (Seal.size_fz (⟨a.1, 0, List.replicate 32 0⟩ : Fz) (by simp)) (by simp only [List.size_toArray]; rw [Seal.Fz.cells_length (⟨a.1, 0, List.replicate 32 0⟩ : Fz) (by simp)]; rfl) (all_oneCell_toArray (Seal.Fz.one (⟨a.1, 0, List.replicate 32 0⟩ : Fz))) ?_
  simp only [Act.put, List.setIfInBounds_toArray, List.set_cons_zero, List.set_cons_succ]
  have hN : FzAt (v2'.setRow g3 (⟨a.1, 0, List.replicate 32 0⟩ : Fz).cells.toArray) g3 (⟨a.1, 0, List.replicate 32 0⟩ : Fz) := Blk.row hN0 _
  replace hS := hS.rowF (show _ ≠ g3 by omega) (⟨a.1, 0, List.replicate 32 0⟩ : Fz).cells.toArray
  replace hR := hR.rowF (show _ ≠ g3 by omega) (⟨a.1, 0, List.replicate 32 0⟩ : Fz).cells.toArray
  replace hU := hU.rowNew (show w.heap.size ≤ g3 by omega) (⟨a.1, 0, List.replicate 32 0⟩ : Fz).cells.toArray
  clear hN0
  generalize v2'.setRow g3 (⟨a.1, 0, List.replicate 32 0⟩ : Fz).cells.toArray = v2 at *
  go_wp2_with fail
  refine (H2.out _ hS).mono ?_; rintro e v4 ⟨rfl, hS', hU'⟩
  replace hS := hS'
  replace hR := hR.upd hU' (by omega)
  replace hN := hN.upd hU' (by omega)
  have sz4 := hU'.size
  replace hU := hU.trans hU'
  clear hS' hU'
  have fz0 := Blk.frozen hN 1
  have cc0 := hN.c1
  have lt0 := hN.lt
  go_wp2_with fail
  clear fz0 cc0 lt0
  replace hS := hS.farC (show _ ≠ g3 by omega) 1 (.int .i64 b.1)
  replace hR := hR.farC (show _ ≠ g3 by omega) 1 (.int .i64 b.1)
  replace hN := hN.cnt b.1
  replace hU : Upd _ w (v4.setCell ⟨g3, 1, none⟩ (.int .i64 b.1)) := hU.setCell (.inr (show w.heap.size ≤ g3 by omega)) _
  generalize (v4.setCell ⟨g3, 1, none⟩ (.int .i64 b.1)) = v5 at *
  refine (H3.out _ hS).mono ?_; rintro e v6 ⟨rfl, hS', hU'⟩
  replace hS := hS'
  replace hR := hR.upd hU' (by omega)
  replace hN := hN.upd hU' (by omega)
  have sz6 := hU'.size
  replace hU := hU.trans hU'
  clear hS' hU'
  unfold sumV
  go_wp2_with (refine stop_store 28 (.tmp 12) (.tmp 11) rfl ?_)
  refine ⟨?_⟩
  have hth : v6.there g3 2 ((z).map byteV).toArray.size := Blk.there hN 2 _ (by rw [Seal.Fz.cells_length _ (by simp)]; simp [hz32])
  refine wpList_store_mid rfl 28 (.tmp 12) (.tmp 11) rfl g3 2 _ (by rfl) (by rfl) hth (size32.trans (by simp [hz32])) (by simp [byteV, Value.oneCell']) ?_
  simp only [Act.put, List.setIfInBounds_toArray, List.set_cons_zero, List.set_cons_succ]
  clear hth
  replace hS := hS.farCs (show _ ≠ g3 by omega) ((z).map byteV).toArray.toList 2
  replace hR := hR.farCs (show _ ≠ g3 by omega) ((z).map byteV).toArray.toList 2
  replace hN := hN.put z (by simp [hz32])
  replace hU : Upd _ w (v6.setCells g3 2 ((z).map byteV).toArray.toList) := upd_cells (show w.heap.size ≤ g3 by omega) _ _ _ hU
  generalize (v6.setCells g3 2 ((z).map byteV).toArray.toList) = v7 at *
  have hsz := Seal.size_fz (⟨a.1, b.1, z⟩ : Fz) hz32
  have hcl := Seal.Fz.cells_length (⟨a.1, b.1, z⟩ : Fz) hz32
  have hone := all_oneCell_toArray (Seal.Fz.one (⟨a.1, b.1, z⟩ : Fz))
  have Hcl := Lib.hid hcl; clear hcl
  go_wp2_with (refine stop_load 30 (.tmp 3) rfl ?_)
  refine ⟨?_⟩
  refine wpList_load_row rfl 30 (.tmp 3) rfl g3 (by rfl) 30 _ (0, 0) _ hN Tryz.underlying30 rfl (hsz) ?_
  simp only [Act.put, List.setIfInBounds_toArray, List.set_cons_zero, List.set_cons_succ]
  go_wp2_with (refine stop_store 30 (.tmp 2) (.tmp 13) rfl ?_)
  refine ⟨?_⟩
  refine wpList_store_row rfl 30 (.tmp 2) (.tmp 13) rfl w.heap.size (⟨a.1, b.1, z⟩ : Fz).cells.toArray (by rfl) (by rfl) 30 _ hR hsz (by simp only [List.size_toArray]; rw [Hcl.out]; rfl) hone ?_
  simp only [Act.put, List.setIfInBounds_toArray, List.set_cons_zero, List.set_cons_succ]
  go_wp2_with fail
  (try simp only [Exit.inBlock, Exit.then])
  exact bodyPost_ret (results_cell_row rfl _ _ w.heap.size 30 _ (0, 0) _ rfl (Blk.row hR (⟨a.1, b.1, z⟩ : Fz).cells.toArray) Tryz.underlying30 rfl hsz) rfl ⟨rfl, hS.rowF (show _ ≠ w.heap.size by omega) _, hU.rowNew (show w.heap.size ≤ w.heap.size by omega) _⟩

set_option maxHeartbeats 2000000 in
theorem parseHd_calls (g : Nat) (x : Oct.Sc) (w : World) (h : ScAt w g x) (hl : x.left.length ≤ 9223372036854775807) :
    Calls Tryz.prog 86 #[.pointer (some ⟨g, 0, none⟩)] w fun e w' => e = .returned (Hd.parse x).1.v ∧ ScAt w' g (Hd.parse x).2 ∧ Upd g w w' := by
  have hR : HdAt (w.alloc (.cells (⟨0, List.replicate 32 0, 0, List.replicate 32 0⟩ : Hd).cells.toArray 32)) w.heap.size (⟨0, List.replicate 32 0, 0, List.replicate 32 0⟩ : Hd) := by
    have := Blk.new w 32 (⟨0, List.replicate 32 0, 0, List.replicate 32 0⟩ : Hd).cells.toArray
    exact this
  have hE0 : Ext w (w.alloc (.cells (⟨0, List.replicate 32 0, 0, List.replicate 32 0⟩ : Hd).cells.toArray 32)) := (Ext.refl w).alloc _
  have hS := h.ext hE0
  have hgl : g < w.heap.size := Blk.lt h
  have hU : Upd g w (w.alloc (.cells (⟨0, List.replicate 32 0, 0, List.replicate 32 0⟩ : Hd).cells.toArray 32)) := Upd.of_ext hE0
  have l1 := Oct.num_left_le x 1099511627776
  have l2 := Oct.text_left_le (x.num 1099511627776).2 32
  have l3 := Oct.num_left_le ((x.num 1099511627776).2.text 32).2 1125899906842624
  have HN1 := fun w hw => Num_calls g x 1099511627776 w hw hl (by omega) (by omega)
  have HN2 := fun w hw => hash_calls g (x.num 1099511627776).2 w hw (by omega)
  have HN3 := fun w hw => Num_calls g ((x.num 1099511627776).2.text 32).2 1125899906842624 w hw (by omega) (by omega) (by omega)
  have HN4 := fun w hw => hash_calls g (((x.num 1099511627776).2.text 32).2.num 1125899906842624).2 w hw (by omega)
  unfold Seal.Hd.parse
  simp only
  generalize x.num 1099511627776 = a at *
  generalize a.2.text 32 = b at *
  generalize b.2.num 1125899906842624 = c at *
  generalize c.2.text 32 = d at *
  clear l1 l2 l3 hl h
  obtain ⟨z, hz⟩ : ∃ z, z = Seal.pad32 b.1 := ⟨_, rfl⟩
  obtain ⟨y, hy⟩ : ∃ y, y = Seal.pad32 d.1 := ⟨_, rfl⟩
  rw [← hz] at HN2 ⊢
  rw [← hy] at HN4 ⊢
  have hz32 : z.length = 32 := by rw [hz]; exact Seal.pad32_length _
  have hy32 : y.length = 32 := by rw [hy]; exact Seal.pad32_length _
  have hbu := built_hd1 a.1
  have H1 := Lib.hid HN1; have H2 := Lib.hid HN2; have H3 := Lib.hid HN3; have H4 := Lib.hid HN4
  clear HN1 HN2 HN3 HN4 hz hy
  go_enter Tryz.func86, Tryz.ntmps86
  go_wp2_with fail
  change Calls _ _ _ (w.alloc (.cells (⟨0, List.replicate 32 0, 0, List.replicate 32 0⟩ : Hd).cells.toArray 32)) _
  have hRl : w.heap.size < (w.alloc (.cells (⟨0, List.replicate 32 0, 0, List.replicate 32 0⟩ : Hd).cells.toArray 32)).heap.size := Blk.lt hR
  generalize (w.alloc (.cells (⟨0, List.replicate 32 0, 0, List.replicate 32 0⟩ : Hd).cells.toArray 32)) = w0 at *
  refine (H1.out _ hS).mono ?_; rintro e v1 ⟨rfl, hS', hU'⟩
  replace hS := hS'
  replace hR := hR.upd hU' (by omega)
  have sz1 := hU'.size
  replace hU := hU.trans hU'
  clear hS' hU'
  go_wp2_with (refine stop_at 6 rfl ?_)
  refine ⟨?_⟩
  refine wpList_build_to rfl 32 _ rfl _ (by rw [Array.toList_map]; rfl) _ hbu ?_
  simp only [Act.put, List.setIfInBounds_toArray, List.set_cons_zero, List.set_cons_succ]
  go_wp2_with (refine stop_store 32 (.tmp 3) (.tmp 6) rfl ?_)
  refine ⟨?_⟩
  change wpList _ _ _ _ _ (v1.alloc (.cells (⟨0, List.replicate 32 0, 0, List.replicate 32 0⟩ : Hd).cells.toArray 32))
  have hN0 := Blk.new v1 32 (⟨0, List.replicate 32 0, 0, List.replicate 32 0⟩ : Hd).cells.toArray
  have ea := (Ext.refl v1).alloc (.cells (⟨0, List.replicate 32 0, 0, List.replicate 32 0⟩ : Hd).cells.toArray 32)
  have gs3 := hS.lt
  replace hS := hS.ext ea
  have gb_hR3 := hR.lt
  replace hR := hR.ext ea
  replace hU := hU.ext ea
  clear ea
  have hUs3 := hU.size
  obtain ⟨g3, g3e⟩ : ∃ g3, g3 = v1.heap.size := ⟨_, rfl⟩
  try rw [← g3e]
  rw [← g3e] at hN0
  have g3b : v1.heap.size ≤ g3 := by omega
  have g3c : g3 ≤ v1.heap.size := by omega
  clear g3e
  generalize v1.alloc (.cells (⟨0, List.replicate 32 0, 0, List.replicate 32 0⟩ : Hd).cells.toArray 32) = v2' at *
  refine wpList_store_row rfl 32 (.tmp 3) (.tmp 6) rfl g3 (⟨a.1, List.replicate 32 0, 0, List.replicate 32 0⟩ : Hd).cells.toArray (by rfl) (by rfl) 32 _ hN0 (Seal.size_hd (⟨a.1, List.replicate 32 0, 0, List.replicate 32 0⟩ : Hd) (by simp) (by simp)) (by simp only [List.size_toArray]; rw [Seal.Hd.cells_length (⟨a.1, List.replicate 32 0, 0, List.replicate 32 0⟩ : Hd) (by simp) (by simp)]; rfl) (all_oneCell_toArray (Seal.Hd.one (⟨a.1, List.replicate 32 0, 0, List.replicate 32 0⟩ : Hd))) ?_
  simp only [Act.put, List.setIfInBounds_toArray, List.set_cons_zero, List.set_cons_succ]
  have hN : HdAt (v2'.setRow g3 (⟨a.1, List.replicate 32 0, 0, List.replicate 32 0⟩ : Hd).cells.toArray) g3 (⟨a.1, List.replicate 32 0, 0, List.replicate 32 0⟩ : Hd) := Blk.row hN0 _
  replace hS := hS.rowF (show _ ≠ g3 by omega) (⟨a.1, List.replicate 32 0, 0, List.replicate 32 0⟩ : Hd).cells.toArray
  replace hR := hR.rowF (show _ ≠ g3 by omega) (⟨a.1, List.replicate 32 0, 0, List.replicate 32 0⟩ : Hd).cells.toArray
  replace hU := hU.rowNew (show w.heap.size ≤ g3 by omega) (⟨a.1, List.replicate 32 0, 0, List.replicate 32 0⟩ : Hd).cells.toArray
  clear hN0
  generalize v2'.setRow g3 (⟨a.1, List.replicate 32 0, 0, List.replicate 32 0⟩ : Hd).cells.toArray = v2 at *
  go_wp2_with fail
  refine (H2.out _ hS).mono ?_; rintro e v4 ⟨rfl, hS', hU'⟩
  replace hS := hS'
  replace hR := hR.upd hU' (by omega)
  replace hN := hN.upd hU' (by omega)
  have sz4 := hU'.size
  replace hU := hU.trans hU'
  clear hS' hU'
  unfold sumV
  go_wp2_with (refine stop_store 28 (.tmp 9) (.tmp 8) rfl ?_)
  refine ⟨?_⟩
  have hth : v4.there g3 1 ((z).map byteV).toArray.size := Blk.there hN 1 _ (by rw [Seal.Hd.cells_length _ (by simp) (by simp)]; simp [hz32])
  refine wpList_store_mid rfl 28 (.tmp 9) (.tmp 8) rfl g3 1 _ (by rfl) (by rfl) hth (size32.trans (by simp [hz32])) (by simp [byteV, Value.oneCell']) ?_
  simp only [Act.put, List.setIfInBounds_toArray, List.set_cons_zero, List.set_cons_succ]
  clear hth
  replace hS := hS.farCs (show _ ≠ g3 by omega) ((z).map byteV).toArray.toList 1
  replace hR := hR.farCs (show _ ≠ g3 by omega) ((z).map byteV).toArray.toList 1
  replace hN := hN.putRoot z (by simp [hz32])
  replace hU : Upd _ w (v4.setCells g3 1 ((z).map byteV).toArray.toList) := upd_cells (show w.heap.size ≤ g3 by omega) _ _ _ hU
  generalize (v4.setCells g3 1 ((z).map byteV).toArray.toList) = v5 at *
  go_wp2_with fail
  refine (H3.out _ hS).mono ?_; rintro e v6 ⟨rfl, hS', hU'⟩
  replace hS := hS'
  replace hR := hR.upd hU' (by omega)
  replace hN := hN.upd hU' (by omega)
  have sz6 := hU'.size
  replace hU := hU.trans hU'
  clear hS' hU'
  have fz0 := Blk.frozen hN 33
  have cc0 := hN.c33 hz32
  have lt0 := hN.lt
  go_wp2_with fail
  clear fz0 cc0 lt0
  replace hS := hS.farC (show _ ≠ g3 by omega) 33 (.int .i64 c.1)
  replace hR := hR.farC (show _ ≠ g3 by omega) 33 (.int .i64 c.1)
  replace hN := hN.clk hz32 c.1
  replace hU : Upd _ w (v6.setCell ⟨g3, 33, none⟩ (.int .i64 c.1)) := hU.setCell (.inr (show w.heap.size ≤ g3 by omega)) _
  generalize (v6.setCell ⟨g3, 33, none⟩ (.int .i64 c.1)) = v7 at *
  refine (H4.out _ hS).mono ?_; rintro e v8 ⟨rfl, hS', hU'⟩
  replace hS := hS'
  replace hR := hR.upd hU' (by omega)
  replace hN := hN.upd hU' (by omega)
  have sz8 := hU'.size
  replace hU := hU.trans hU'
  clear hS' hU'
  unfold sumV
  go_wp2_with (refine stop_store 28 (.tmp 15) (.tmp 14) rfl ?_)
  refine ⟨?_⟩
  have hth : v8.there g3 34 ((y).map byteV).toArray.size := Blk.there hN 34 _ (by rw [Seal.Hd.cells_length _ hz32 (by simp)]; simp [hy32])
  refine wpList_store_mid rfl 28 (.tmp 15) (.tmp 14) rfl g3 34 _ (by rfl) (by rfl) hth (size32.trans (by simp [hy32])) (by simp [byteV, Value.oneCell']) ?_
  simp only [Act.put, List.setIfInBounds_toArray, List.set_cons_zero, List.set_cons_succ]
  clear hth
  replace hS := hS.farCs (show _ ≠ g3 by omega) ((y).map byteV).toArray.toList 34
  replace hR := hR.farCs (show _ ≠ g3 by omega) ((y).map byteV).toArray.toList 34
  replace hN := hN.putMac hz32 y (by simp [hy32])
  replace hU : Upd _ w (v8.setCells g3 34 ((y).map byteV).toArray.toList) := upd_cells (show w.heap.size ≤ g3 by omega) _ _ _ hU
  generalize (v8.setCells g3 34 ((y).map byteV).toArray.toList) = v9 at *
  have hsz := Seal.size_hd (⟨a.1, z, c.1, y⟩ : Hd) hz32 hy32
  have hcl := Seal.Hd.cells_length (⟨a.1, z, c.1, y⟩ : Hd) hz32 hy32
  have hone := all_oneCell_toArray (Seal.Hd.one (⟨a.1, z, c.1, y⟩ : Hd))
  have Hcl := Lib.hid hcl; clear hcl
  go_wp2_with (refine stop_load 32 (.tmp 3) rfl ?_)
  refine ⟨?_⟩
  refine wpList_load_row rfl 32 (.tmp 3) rfl g3 (by rfl) 32 _ (0, 0) _ hN Tryz.underlying32 rfl (hsz) ?_
  simp only [Act.put, List.setIfInBounds_toArray, List.set_cons_zero, List.set_cons_succ]
  go_wp2_with (refine stop_store 32 (.tmp 2) (.tmp 16) rfl ?_)
  refine ⟨?_⟩
  refine wpList_store_row rfl 32 (.tmp 2) (.tmp 16) rfl w.heap.size (⟨a.1, z, c.1, y⟩ : Hd).cells.toArray (by rfl) (by rfl) 32 _ hR hsz (by simp only [List.size_toArray]; rw [Hcl.out]; rfl) hone ?_
  simp only [Act.put, List.setIfInBounds_toArray, List.set_cons_zero, List.set_cons_succ]
  go_wp2_with fail
  (try simp only [Exit.inBlock, Exit.then])
  exact bodyPost_ret (results_cell_row rfl _ _ w.heap.size 32 _ (0, 0) _ rfl (Blk.row hR (⟨a.1, z, c.1, y⟩ : Hd).cells.toArray) Tryz.underlying32 rfl hsz) rfl ⟨rfl, hS.rowF (show _ ≠ w.heap.size by omega) _, hU.rowNew (show w.heap.size ≤ w.heap.size by omega) _⟩

end Go.Proofs.YtcgnjdkennkheaaGreatDoor

namespace Go.Proofs.YtcgnjdkennkheaaGreatDoor
open Go.RowKit
open Seal (Fz Hd St)
attribute [local go_sem] bs_size bs_toList2 bs_append bs_extract_end bs_extract_begin bs_get wrap64_b

theorem cutLite_yes (c : UInt8) (r : List UInt8) (w : World) (hr : r.length ≤ 1099511627776) : Calls Tryz.prog 114 #[.string (bs (c :: r)), .string (bs [c])] w fun e w' => e = .returned (.tuple #[.string (bs r), .bool true]) ∧ w = w' := by
  have h := Tryz.stringslite_HasPrefix (bs (c :: r)) (bs [c]) w
  have hp : Lib.hasPrefix (bs (c :: r)).data.toList (bs [c]).data.toList = true := by rw [bs_toList, bs_toList]; simp [Lib.hasPrefix]
  rw [hp] at h
  have H := Lib.hid h; clear h hp
  go_enter Tryz.func114, Tryz.ntmps114
  go_wp2_with fail
  refine H.out.mono ?_; rintro e w1 ⟨rfl, rfl⟩
  go_wp2_with fail
  go_ret2
  have hx : (bs (c :: r)).extract 1 (r.length + 1) = bs r := by
    have := bs_extract_end (c :: r) 1
    simpa using this
  exact ⟨by simp [hx], rfl⟩
theorem cutLite_no (c : UInt8) (s : List UInt8) (hs : s.head? ≠ some c) (w : World) : Calls Tryz.prog 114 #[.string (bs s), .string (bs [c])] w fun e w' => e = .returned (.tuple #[.string (bs s), .bool false]) ∧ w = w' := by
  have h := Tryz.stringslite_HasPrefix (bs s) (bs [c]) w
  have hp : Lib.hasPrefix (bs s).data.toList (bs [c]).data.toList = false := by
    rw [bs_toList, bs_toList]
    cases s with
    | nil => rfl
    | cons d r =>
      have : c ≠ d := fun e => hs (by rw [e]; rfl)
      show (c == d && _) = false
      rw [beq_eq_false_iff_ne.2 this]
      rfl
  rw [hp] at h
  have H := Lib.hid h; clear h hp
  go_enter Tryz.func114, Tryz.ntmps114
  go_wp2_with fail
  refine H.out.mono ?_; rintro e w1 ⟨rfl, rfl⟩
  go_wp2_with fail
  go_ret2
  exact ⟨rfl, rfl⟩
theorem cut_yes (c : UInt8) (r : List UInt8) (w : World) (hr : r.length ≤ 1099511627776) : Calls Tryz.prog 99 #[.string (bs (c :: r)), .string (bs [c])] w fun e w' => e = .returned (.tuple #[.string (bs r), .bool true]) ∧ w = w' := by
  go_enter Tryz.func99, Tryz.ntmps99
  go_wp2_with fail
  refine (cutLite_yes c r _ hr).mono ?_; rintro e w1 ⟨rfl, rfl⟩
  go_wp2_with fail
  go_ret2
  exact ⟨rfl, rfl⟩
theorem cut_no (c : UInt8) (s : List UInt8) (hs : s.head? ≠ some c) (w : World) : Calls Tryz.prog 99 #[.string (bs s), .string (bs [c])] w fun e w' => e = .returned (.tuple #[.string (bs s), .bool false]) ∧ w = w' := by
  go_enter Tryz.func99, Tryz.ntmps99
  go_wp2_with fail
  refine (cutLite_no c s hs _).mono ?_; rintro e w1 ⟨rfl, rfl⟩
  go_wp2_with fail
  go_ret2
  exact ⟨rfl, rfl⟩
theorem Read_new (s : List UInt8) (w : World) :
    Calls Tryz.prog 37 #[.string (bs s)] w fun e w' => ∃ g, e = .returned (.pointer (some ⟨g, 0, none⟩)) ∧ w.heap.size ≤ g ∧ ScAt w' g ⟨s, false⟩ ∧ Ext w w' :=
  (Read_calls s w).mono fun e w' ⟨he, hw⟩ => ⟨w.heap.size, he, Nat.le_refl _, by subst hw; exact Read_at s w, by subst hw; exact (Ext.refl w).alloc _⟩
theorem res_two {P : Program} {fn : Func} {p u : Tmp} {ty : TypeId} (h : fn.results = #[.cell p ty, .tmp u]) (tmps : Array Value) (w : World) (g : Nat) (t : TypeId) (cs : Array Value) (d : TypeDesc)
    (hp : tmps.getD p undef = .pointer (some ⟨g, 0, none⟩)) (hg : Blk w g t cs)
    (hu : P.underlying ty = some d) (hd : (match d with | .struct _ | .array _ _ => true | _ => false) = true) (hi : (P.info? ty).map (·.size) = some cs.size) :
    (results fn tmps).run P w = .ok (.tuple #[.agg cs, tmps.getD u undef]) w := by
  have hp' : tmps[p]?.getD undef = .pointer (some ⟨g, 0, none⟩) := by simpa using hp
  simp [results, h, hp', asAddr, run_loadVar_row w g t ty cs (0, 0) d hg hu hd hi]
namespace Seal
def zF : Fz := ⟨0, 0, List.replicate 32 0⟩
def zH : Hd := ⟨0, List.replicate 32 0, 0, List.replicate 32 0⟩
def zS : St := ⟨⟨0, 0, List.replicate 32 0⟩, 0, List.replicate 32 0⟩
def errOf {α : Type} (o : Option α) : Int := if o.isSome then 0 else 10
theorem Fz.parse_len (x : Oct.Sc) : (Fz.parse x).1.root.length = 32 := pad32_length _
theorem Hd.parse_len (x : Oct.Sc) : (Hd.parse x).1.root.length = 32 ∧ (Hd.parse x).1.mac.length = 32 := ⟨pad32_length _, pad32_length _⟩
theorem Fz.read_head (s : List UInt8) (h : s.head? ≠ some 70) : Fz.read s = none := by
  unfold Fz.read
  split
  · exact absurd rfl h
  · rfl
theorem Hd.read_head (s : List UInt8) (h : s.head? ≠ some 72) : Hd.read s = none := by
  unfold Hd.read
  split
  · exact absurd rfl h
  · rfl
theorem St.read_head (s : List UInt8) (h : s.head? ≠ some 84) : St.read s = none := by
  unfold St.read
  split
  · exact absurd rfl h
  · rfl
theorem Fz.read_good (r : List UInt8) (h : (Fz.parse ⟨r, false⟩).1.may) (h2 : (Fz.parse ⟨r, false⟩).1.bytes = 70 :: r) : Fz.read (70 :: r) = some (Fz.parse ⟨r, false⟩).1 := if_pos ⟨h, h2⟩
theorem Fz.read_bad (r : List UInt8) (h : ¬ ((Fz.parse ⟨r, false⟩).1.may ∧ (Fz.parse ⟨r, false⟩).1.bytes = 70 :: r)) : Fz.read (70 :: r) = none := if_neg h
theorem Hd.read_good (r : List UInt8) (h : (Hd.parse ⟨r, false⟩).1.may) (h2 : (Hd.parse ⟨r, false⟩).1.bytes = 72 :: r) : Hd.read (72 :: r) = some (Hd.parse ⟨r, false⟩).1 := if_pos ⟨h, h2⟩
theorem Hd.read_bad (r : List UInt8) (h : ¬ ((Hd.parse ⟨r, false⟩).1.may ∧ (Hd.parse ⟨r, false⟩).1.bytes = 72 :: r)) : Hd.read (72 :: r) = none := if_neg h
theorem St.read_good (r : List UInt8) (h : (St.parse ⟨r, false⟩).1.may) (h2 : (St.parse ⟨r, false⟩).1.bytes = 84 :: r) : St.read (84 :: r) = some (St.parse ⟨r, false⟩).1 := if_pos ⟨h, h2⟩
theorem St.read_bad (r : List UInt8) (h : ¬ ((St.parse ⟨r, false⟩).1.may ∧ (St.parse ⟨r, false⟩).1.bytes = 84 :: r)) : St.read (84 :: r) = none := if_neg h
end Seal

set_option maxHeartbeats 4000000 in
theorem readFz_in (s : List UInt8) (hs : s.length ≤ 1099511627776) (w : World) :
    Calls Tryz.prog 80 #[.string (bs s), .string (bs [70]), (Value.func (.func 81) #[] #[]), (Value.func (.func 32) #[] #[])] w fun e w' => e = .returned (.tuple #[((Seal.Fz.read s).getD Seal.zF).v, .int .i64 (Seal.errOf (Seal.Fz.read s))]) ∧ Ext w w' := by
  have hR : FzAt ((w.alloc (.cells Seal.zF.cells.toArray 30)).alloc (.cells Seal.zF.cells.toArray 30)) w.heap.size Seal.zF := by
    have := Blk.new w 30 Seal.zF.cells.toArray
    exact Blk.alloc (this) _
  have hO : FzAt ((w.alloc (.cells Seal.zF.cells.toArray 30)).alloc (.cells Seal.zF.cells.toArray 30)) (w.heap.size + 1) Seal.zF := by
    have := Blk.new (w.alloc (.cells Seal.zF.cells.toArray 30)) 30 Seal.zF.cells.toArray
    rw [alloc_size] at this
    exact this
  have hE : Ext w ((w.alloc (.cells Seal.zF.cells.toArray 30)).alloc (.cells Seal.zF.cells.toArray 30)) := ((Ext.refl w).alloc _).alloc _
  by_cases hc : s.head? = some 70
  · obtain ⟨r, rfl⟩ : ∃ r, s = 70 :: r := by
      cases s with
      | nil => cases hc
      | cons d r => injection hc with hc; exact ⟨r, by rw [hc]⟩
    clear hc
    have hgood := Seal.Fz.read_good r
    have hbad := Seal.Fz.read_bad r
    generalize hp : (Seal.Fz.parse ⟨r, false⟩).1 = p at hgood hbad
    have p1 : p.root.length = 32 := by rw [← hp]; exact Seal.Fz.parse_len _
    have Hp := Lib.hid hp; clear hp
    by_cases hm : p.may
    · have hoo : p.outB = p.bytes ∧ p.outE = 0 := ⟨(Seal.Fz.out_ok p hm).1, (Seal.Fz.out_ok p hm).2⟩
      by_cases hb : p.bytes = 70 :: r
      · have hrd := hgood hm hb
        have hv : (Seal.Fz.read (70 :: r)).getD Seal.zF = p := by rw [hrd]; rfl
        have he : Seal.errOf (Seal.Fz.read (70 :: r)) = 0 := by rw [hrd]; rfl
        rw [hv, he]
        rw [hb] at hoo
        have Ho := Lib.hid hoo
        clear hgood hbad hm hb hrd hv he hoo
        unfold Seal.Fz.v
        go_enter Tryz.func80, Tryz.ntmps80
        go_wp2_with fail
        change Calls _ _ _ ((w.alloc (.cells Seal.zF.cells.toArray 30)).alloc (.cells Seal.zF.cells.toArray 30)) _
        generalize ((w.alloc (.cells Seal.zF.cells.toArray 30)).alloc (.cells Seal.zF.cells.toArray 30)) = w0 at *
        refine (cut_yes 70 r _ (by simp at hs; omega)).mono ?_; rintro e w1 ⟨rfl, rfl⟩
        go_wp2_with fail
        refine (Read_new r _).mono ?_; rintro e v0 ⟨gs, rfl, hgs, hS, e0⟩
        have hRl := hR.lt
        have hOl := hO.lt
        replace hR := hR.ext e0
        replace hO := hO.ext e0
        replace hE := hE.trans e0
        clear e0
        have hwg : w.heap.size + 1 < gs := by omega
        go_wp2_with fail
        refine (parseFz_calls gs ⟨r, false⟩ _ hS (by simp at hs; show r.length ≤ _; omega)).mono ?_; rw [Hp.out]; rintro e v00 ⟨rfl, -, hU⟩
        replace hR := hR.upd hU (by omega)
        replace hO := hO.upd hU (by omega)
        replace hE := hE.upd hU (by omega)
        clear hU hS
        unfold Seal.Fz.v
        go_wp2_with (refine stop_store 30 (.tmp 13) (.tmp 28) rfl ?_)
        refine ⟨?_⟩
        change wpList _ _ _ _ _ (v00.alloc (.cells (⟨0, 0, List.replicate 32 0⟩ : Fz).cells.toArray 30))
        have hN0 := Blk.new v00 30 (⟨0, 0, List.replicate 32 0⟩ : Fz).cells.toArray
        have e2a := (Ext.refl v00).alloc (.cells (⟨0, 0, List.replicate 32 0⟩ : Fz).cells.toArray 30)
        have g3l : v00.heap.size < (v00.alloc (.cells (⟨0, 0, List.replicate 32 0⟩ : Fz).cells.toArray 30)).heap.size := Blk.lt hN0
        obtain ⟨g3, g3e⟩ : ∃ g3, g3 = v00.heap.size := ⟨_, rfl⟩
        have g3b : v00.heap.size ≤ g3 := by omega
        rw [← g3e] at hN0 g3l
        try rw [← g3e]
        generalize v00.alloc (.cells (⟨0, 0, List.replicate 32 0⟩ : Fz).cells.toArray 30) = v1' at *
        refine wpList_store_row rfl 30 (.tmp 13) (.tmp 28) rfl g3 p.cells.toArray (by rfl) (by rfl) 30 _ hN0 (Seal.size_fz p p1) (by simp only [List.size_toArray]; rw [Seal.Fz.cells_length p p1]; rfl) (all_oneCell_toArray (Seal.Fz.one p)) ?_
        simp only [Act.put, List.setIfInBounds_toArray, List.set_cons_zero, List.set_cons_succ]
        have hN : FzAt (v1'.setRow g3 p.cells.toArray) g3 p := Blk.row hN0 _
        have e2 : Ext v00 (v1'.setRow g3 p.cells.toArray) := e2a.row g3b _
        clear hN0 e2a g3l
        generalize v1'.setRow g3 p.cells.toArray = v1 at *
        clear v1' g3e
        replace hR := hR.ext e2
        replace hO := hO.ext e2
        replace hE := hE.trans e2
        clear e2
        go_wp2_with (refine stop_load 30 (.tmp 13) rfl ?_)
        refine ⟨?_⟩
        refine wpList_load_row rfl 30 (.tmp 13) rfl g3 (by rfl) 30 _ (0, 0) _ hN Tryz.underlying30 rfl (Seal.size_fz p p1) ?_
        simp only [Act.put, List.setIfInBounds_toArray, List.set_cons_zero, List.set_cons_succ]
        go_wp2_with fail
        change Calls _ _ #[p.v] _ _
        refine (FreezeBytes_calls p p1 _).mono ?_; rw [Ho.out.1, Ho.out.2]; rintro e v54 ⟨rfl, e55⟩
        replace hR := hR.ext e55
        replace hO := hO.ext e55
        replace hN := hN.ext e55
        replace hE := hE.trans e55
        clear e55
        have bb : ((70 :: r : List UInt8) == 70 :: r) = true := by simp
        have hsz := Seal.size_fz p p1
        have hcl := Seal.Fz.cells_length p p1
        have hone := all_oneCell_toArray (Seal.Fz.one p)
        have Hcl := Lib.hid hcl; clear hcl
        go_wp2_with (refine stop_load 30 (.tmp 13) rfl ?_)
        refine ⟨?_⟩
        refine wpList_load_row rfl 30 (.tmp 13) rfl g3 (by rfl) 30 _ (0, 0) _ hN Tryz.underlying30 rfl (hsz) ?_
        simp only [Act.put, List.setIfInBounds_toArray, List.set_cons_zero, List.set_cons_succ]
        go_wp2_with (refine stop_store 30 (.tmp 8) (.tmp 43) rfl ?_)
        refine ⟨?_⟩
        refine wpList_store_row rfl 30 (.tmp 8) (.tmp 43) rfl w.heap.size p.cells.toArray (by rfl) (by rfl) 30 _ hR hsz (by simp only [List.size_toArray] <;> (try (rw [Hcl.out] <;> (try rfl)))) hone ?_
        simp only [Act.put, List.setIfInBounds_toArray, List.set_cons_zero, List.set_cons_succ]
        go_wp2_with fail
        (try simp only [Exit.inBlock, Exit.then])
        refine bodyPost_ret (res_two rfl _ _ w.heap.size 30 p.cells.toArray _ rfl (Blk.row hR p.cells.toArray) Tryz.underlying30 rfl hsz) rfl ?_
        exact ⟨rfl, hE.row (Nat.le_refl _) _⟩
      · have hrd := hbad (fun h => hb h.2)
        have hv : (Seal.Fz.read (70 :: r)).getD Seal.zF = Seal.zF := by rw [hrd]; rfl
        have he : Seal.errOf (Seal.Fz.read (70 :: r)) = 10 := by rw [hrd]; rfl
        rw [hv, he]
        have Ho := Lib.hid hoo
        have bb : (p.bytes == 70 :: r) = false := by rw [beq_eq_false_iff_ne]; exact hb
        generalize p.bytes = pb at *
        clear hgood hbad hm hb hrd hv he hoo
        unfold Seal.Fz.v
        go_enter Tryz.func80, Tryz.ntmps80
        go_wp2_with fail
        change Calls _ _ _ ((w.alloc (.cells Seal.zF.cells.toArray 30)).alloc (.cells Seal.zF.cells.toArray 30)) _
        generalize ((w.alloc (.cells Seal.zF.cells.toArray 30)).alloc (.cells Seal.zF.cells.toArray 30)) = w0 at *
        refine (cut_yes 70 r _ (by simp at hs; omega)).mono ?_; rintro e w1 ⟨rfl, rfl⟩
        go_wp2_with fail
        refine (Read_new r _).mono ?_; rintro e v0 ⟨gs, rfl, hgs, hS, e0⟩
        have hRl := hR.lt
        have hOl := hO.lt
        replace hR := hR.ext e0
        replace hO := hO.ext e0
        replace hE := hE.trans e0
        clear e0
        have hwg : w.heap.size + 1 < gs := by omega
        go_wp2_with fail
        refine (parseFz_calls gs ⟨r, false⟩ _ hS (by simp at hs; show r.length ≤ _; omega)).mono ?_; rw [Hp.out]; rintro e v00 ⟨rfl, -, hU⟩
        replace hR := hR.upd hU (by omega)
        replace hO := hO.upd hU (by omega)
        replace hE := hE.upd hU (by omega)
        clear hU hS
        unfold Seal.Fz.v
        go_wp2_with (refine stop_store 30 (.tmp 13) (.tmp 28) rfl ?_)
        refine ⟨?_⟩
        change wpList _ _ _ _ _ (v00.alloc (.cells (⟨0, 0, List.replicate 32 0⟩ : Fz).cells.toArray 30))
        have hN0 := Blk.new v00 30 (⟨0, 0, List.replicate 32 0⟩ : Fz).cells.toArray
        have e2a := (Ext.refl v00).alloc (.cells (⟨0, 0, List.replicate 32 0⟩ : Fz).cells.toArray 30)
        have g3l : v00.heap.size < (v00.alloc (.cells (⟨0, 0, List.replicate 32 0⟩ : Fz).cells.toArray 30)).heap.size := Blk.lt hN0
        obtain ⟨g3, g3e⟩ : ∃ g3, g3 = v00.heap.size := ⟨_, rfl⟩
        have g3b : v00.heap.size ≤ g3 := by omega
        rw [← g3e] at hN0 g3l
        try rw [← g3e]
        generalize v00.alloc (.cells (⟨0, 0, List.replicate 32 0⟩ : Fz).cells.toArray 30) = v1' at *
        refine wpList_store_row rfl 30 (.tmp 13) (.tmp 28) rfl g3 p.cells.toArray (by rfl) (by rfl) 30 _ hN0 (Seal.size_fz p p1) (by simp only [List.size_toArray]; rw [Seal.Fz.cells_length p p1]; rfl) (all_oneCell_toArray (Seal.Fz.one p)) ?_
        simp only [Act.put, List.setIfInBounds_toArray, List.set_cons_zero, List.set_cons_succ]
        have hN : FzAt (v1'.setRow g3 p.cells.toArray) g3 p := Blk.row hN0 _
        have e2 : Ext v00 (v1'.setRow g3 p.cells.toArray) := e2a.row g3b _
        clear hN0 e2a g3l
        generalize v1'.setRow g3 p.cells.toArray = v1 at *
        clear v1' g3e
        replace hR := hR.ext e2
        replace hO := hO.ext e2
        replace hE := hE.trans e2
        clear e2
        go_wp2_with (refine stop_load 30 (.tmp 13) rfl ?_)
        refine ⟨?_⟩
        refine wpList_load_row rfl 30 (.tmp 13) rfl g3 (by rfl) 30 _ (0, 0) _ hN Tryz.underlying30 rfl (Seal.size_fz p p1) ?_
        simp only [Act.put, List.setIfInBounds_toArray, List.set_cons_zero, List.set_cons_succ]
        go_wp2_with fail
        change Calls _ _ #[p.v] _ _
        refine (FreezeBytes_calls p p1 _).mono ?_; rw [Ho.out.1, Ho.out.2]; rintro e v54 ⟨rfl, e55⟩
        replace hR := hR.ext e55
        replace hO := hO.ext e55
        replace hN := hN.ext e55
        replace hE := hE.trans e55
        clear e55

        have hsz := Seal.size_fz Seal.zF (by rfl)
        have hcl := Seal.Fz.cells_length Seal.zF (by rfl)
        have hone := all_oneCell_toArray (Seal.Fz.one Seal.zF)
        have Hcl := Lib.hid hcl; clear hcl
        go_wp2_with (refine stop_load 30 (.tmp 10) rfl ?_)
        refine ⟨?_⟩
        refine wpList_load_row rfl 30 (.tmp 10) rfl (w.heap.size + 1) (by rfl) 30 _ (0, 0) _ hO Tryz.underlying30 rfl (hsz) ?_
        simp only [Act.put, List.setIfInBounds_toArray, List.set_cons_zero, List.set_cons_succ]
        go_wp2_with (refine stop_store 30 (.tmp 8) (.tmp 42) rfl ?_)
        refine ⟨?_⟩
        refine wpList_store_row rfl 30 (.tmp 8) (.tmp 42) rfl w.heap.size Seal.zF.cells.toArray (by rfl) (by rfl) 30 _ hR hsz (by simp only [List.size_toArray] <;> (try (rw [Hcl.out] <;> (try rfl)))) hone ?_
        simp only [Act.put, List.setIfInBounds_toArray, List.set_cons_zero, List.set_cons_succ]
        go_wp2_with fail
        (try simp only [Exit.inBlock, Exit.then])
        refine bodyPost_ret (res_two rfl _ _ w.heap.size 30 Seal.zF.cells.toArray _ rfl (Blk.row hR Seal.zF.cells.toArray) Tryz.underlying30 rfl hsz) rfl ?_
        exact ⟨rfl, hE.row (Nat.le_refl _) _⟩
    · have hoo : p.outB = [] ∧ p.outE = 1 := ⟨(Seal.Fz.out_no p hm).1, (Seal.Fz.out_no p hm).2⟩
      have hrd := hbad (fun h => hm h.1)
      have hv : (Seal.Fz.read (70 :: r)).getD Seal.zF = Seal.zF := by rw [hrd]; rfl
      have he : Seal.errOf (Seal.Fz.read (70 :: r)) = 10 := by rw [hrd]; rfl
      rw [hv, he]
      have Ho := Lib.hid hoo
      clear hgood hbad hm hrd hv he hoo
      unfold Seal.Fz.v
      go_enter Tryz.func80, Tryz.ntmps80
      go_wp2_with fail
      change Calls _ _ _ ((w.alloc (.cells Seal.zF.cells.toArray 30)).alloc (.cells Seal.zF.cells.toArray 30)) _
      generalize ((w.alloc (.cells Seal.zF.cells.toArray 30)).alloc (.cells Seal.zF.cells.toArray 30)) = w0 at *
      refine (cut_yes 70 r _ (by simp at hs; omega)).mono ?_; rintro e w1 ⟨rfl, rfl⟩
      go_wp2_with fail
      refine (Read_new r _).mono ?_; rintro e v0 ⟨gs, rfl, hgs, hS, e0⟩
      have hRl := hR.lt
      have hOl := hO.lt
      replace hR := hR.ext e0
      replace hO := hO.ext e0
      replace hE := hE.trans e0
      clear e0
      have hwg : w.heap.size + 1 < gs := by omega
      go_wp2_with fail
      refine (parseFz_calls gs ⟨r, false⟩ _ hS (by simp at hs; show r.length ≤ _; omega)).mono ?_; rw [Hp.out]; rintro e v00 ⟨rfl, -, hU⟩
      replace hR := hR.upd hU (by omega)
      replace hO := hO.upd hU (by omega)
      replace hE := hE.upd hU (by omega)
      clear hU hS
      unfold Seal.Fz.v
      go_wp2_with (refine stop_store 30 (.tmp 13) (.tmp 28) rfl ?_)
      refine ⟨?_⟩
      change wpList _ _ _ _ _ (v00.alloc (.cells (⟨0, 0, List.replicate 32 0⟩ : Fz).cells.toArray 30))
      have hN0 := Blk.new v00 30 (⟨0, 0, List.replicate 32 0⟩ : Fz).cells.toArray
      have e2a := (Ext.refl v00).alloc (.cells (⟨0, 0, List.replicate 32 0⟩ : Fz).cells.toArray 30)
      have g3l : v00.heap.size < (v00.alloc (.cells (⟨0, 0, List.replicate 32 0⟩ : Fz).cells.toArray 30)).heap.size := Blk.lt hN0
      obtain ⟨g3, g3e⟩ : ∃ g3, g3 = v00.heap.size := ⟨_, rfl⟩
      have g3b : v00.heap.size ≤ g3 := by omega
      rw [← g3e] at hN0 g3l
      try rw [← g3e]
      generalize v00.alloc (.cells (⟨0, 0, List.replicate 32 0⟩ : Fz).cells.toArray 30) = v1' at *
      refine wpList_store_row rfl 30 (.tmp 13) (.tmp 28) rfl g3 p.cells.toArray (by rfl) (by rfl) 30 _ hN0 (Seal.size_fz p p1) (by simp only [List.size_toArray]; rw [Seal.Fz.cells_length p p1]; rfl) (all_oneCell_toArray (Seal.Fz.one p)) ?_
      simp only [Act.put, List.setIfInBounds_toArray, List.set_cons_zero, List.set_cons_succ]
      have hN : FzAt (v1'.setRow g3 p.cells.toArray) g3 p := Blk.row hN0 _
      have e2 : Ext v00 (v1'.setRow g3 p.cells.toArray) := e2a.row g3b _
      clear hN0 e2a g3l
      generalize v1'.setRow g3 p.cells.toArray = v1 at *
      clear v1' g3e
      replace hR := hR.ext e2
      replace hO := hO.ext e2
      replace hE := hE.trans e2
      clear e2
      go_wp2_with (refine stop_load 30 (.tmp 13) rfl ?_)
      refine ⟨?_⟩
      refine wpList_load_row rfl 30 (.tmp 13) rfl g3 (by rfl) 30 _ (0, 0) _ hN Tryz.underlying30 rfl (Seal.size_fz p p1) ?_
      simp only [Act.put, List.setIfInBounds_toArray, List.set_cons_zero, List.set_cons_succ]
      go_wp2_with fail
      change Calls _ _ #[p.v] _ _
      refine (FreezeBytes_calls p p1 _).mono ?_; rw [Ho.out.1, Ho.out.2]; rintro e v54 ⟨rfl, e55⟩
      replace hR := hR.ext e55
      replace hO := hO.ext e55
      replace hN := hN.ext e55
      replace hE := hE.trans e55
      clear e55

      have hsz := Seal.size_fz Seal.zF (by rfl)
      have hcl := Seal.Fz.cells_length Seal.zF (by rfl)
      have hone := all_oneCell_toArray (Seal.Fz.one Seal.zF)
      have Hcl := Lib.hid hcl; clear hcl
      go_wp2_with (refine stop_load 30 (.tmp 10) rfl ?_)
      refine ⟨?_⟩
      refine wpList_load_row rfl 30 (.tmp 10) rfl (w.heap.size + 1) (by rfl) 30 _ (0, 0) _ hO Tryz.underlying30 rfl (hsz) ?_
      simp only [Act.put, List.setIfInBounds_toArray, List.set_cons_zero, List.set_cons_succ]
      go_wp2_with (refine stop_store 30 (.tmp 8) (.tmp 42) rfl ?_)
      refine ⟨?_⟩
      refine wpList_store_row rfl 30 (.tmp 8) (.tmp 42) rfl w.heap.size Seal.zF.cells.toArray (by rfl) (by rfl) 30 _ hR hsz (by simp only [List.size_toArray] <;> (try (rw [Hcl.out] <;> (try rfl)))) hone ?_
      simp only [Act.put, List.setIfInBounds_toArray, List.set_cons_zero, List.set_cons_succ]
      go_wp2_with fail
      (try simp only [Exit.inBlock, Exit.then])
      refine bodyPost_ret (res_two rfl _ _ w.heap.size 30 Seal.zF.cells.toArray _ rfl (Blk.row hR Seal.zF.cells.toArray) Tryz.underlying30 rfl hsz) rfl ?_
      exact ⟨rfl, hE.row (Nat.le_refl _) _⟩
  · have hrd := Seal.Fz.read_head s hc
    have hv : (Seal.Fz.read s).getD Seal.zF = Seal.zF := by rw [hrd]; rfl
    have he : Seal.errOf (Seal.Fz.read s) = 10 := by rw [hrd]; rfl
    rw [hv, he]
    clear hrd hv he
    unfold Seal.Fz.v
    go_enter Tryz.func80, Tryz.ntmps80
    go_wp2_with fail
    change Calls _ _ _ ((w.alloc (.cells Seal.zF.cells.toArray 30)).alloc (.cells Seal.zF.cells.toArray 30)) _
    generalize ((w.alloc (.cells Seal.zF.cells.toArray 30)).alloc (.cells Seal.zF.cells.toArray 30)) = w0 at *
    refine (cut_no 70 s hc _).mono ?_; rintro e w1 ⟨rfl, rfl⟩
    have hsz := Seal.size_fz Seal.zF (by rfl)
    have hcl := Seal.Fz.cells_length Seal.zF (by rfl)
    have hone := all_oneCell_toArray (Seal.Fz.one Seal.zF)
    have Hcl := Lib.hid hcl; clear hcl
    go_wp2_with (refine stop_load 30 (.tmp 10) rfl ?_)
    refine ⟨?_⟩
    refine wpList_load_row rfl 30 (.tmp 10) rfl (w.heap.size + 1) (by rfl) 30 _ (0, 0) _ hO Tryz.underlying30 rfl (hsz) ?_
    simp only [Act.put, List.setIfInBounds_toArray, List.set_cons_zero, List.set_cons_succ]
    go_wp2_with (refine stop_store 30 (.tmp 8) (.tmp 24) rfl ?_)
    refine ⟨?_⟩
    refine wpList_store_row rfl 30 (.tmp 8) (.tmp 24) rfl w.heap.size Seal.zF.cells.toArray (by rfl) (by rfl) 30 _ hR hsz (by simp only [List.size_toArray] <;> (try (rw [Hcl.out] <;> (try rfl)))) hone ?_
    simp only [Act.put, List.setIfInBounds_toArray, List.set_cons_zero, List.set_cons_succ]
    go_wp2_with fail
    (try simp only [Exit.inBlock, Exit.then])
    refine bodyPost_ret (res_two rfl _ _ w.heap.size 30 Seal.zF.cells.toArray _ rfl (Blk.row hR Seal.zF.cells.toArray) Tryz.underlying30 rfl hsz) rfl ?_
    exact ⟨rfl, hE.row (Nat.le_refl _) _⟩

set_option maxHeartbeats 1000000 in
theorem ReadFreeze_calls (s : List UInt8) (hs : s.length ≤ 1099511627776) (w : World) :
    Calls Tryz.prog 40 #[.string (bs s)] w fun e w' => e = .returned (.tuple #[((Seal.Fz.read s).getD Seal.zF).v, .int .i64 (Seal.errOf (Seal.Fz.read s))]) ∧ Ext w w' := by
  have hR : FzAt (w.alloc (.cells Seal.zF.cells.toArray 30)) w.heap.size Seal.zF := by
    have := Blk.new w 30 Seal.zF.cells.toArray
    exact this
  have hE : Ext w (w.alloc (.cells Seal.zF.cells.toArray 30)) := (Ext.refl w).alloc _
  have p1 : (((Seal.Fz.read s).getD Seal.zF) : Fz).root.length = 32 := by
    cases h : Seal.Fz.read s with
    | none => rfl
    | some f => exact ((Seal.Fz.read_iff s f).1 h).2.1
  have hcall := fun w => readFz_in s hs w
  generalize (Seal.Fz.read s).getD Seal.zF = p at *
  generalize Seal.errOf (Seal.Fz.read s) = er at *
  have hsz := Seal.size_fz p p1
  have hcl := Seal.Fz.cells_length p p1
  have hone := all_oneCell_toArray (Seal.Fz.one p)
  have Hcl := Lib.hid hcl; have HC := Lib.hid hcall; clear hcl hcall
  unfold Seal.Fz.v at *
  go_enter Tryz.func40, Tryz.ntmps40
  go_wp2_with fail
  change Calls _ _ _ (w.alloc (.cells Seal.zF.cells.toArray 30)) _
  generalize (w.alloc (.cells Seal.zF.cells.toArray 30)) = w0 at *
  refine (HC.out _).mono ?_; rintro e w1 ⟨rfl, e1⟩
  replace hR := hR.ext e1
  replace hE := hE.trans e1
  go_wp2_with (refine stop_store 30 (.tmp 2) (.tmp 6) rfl ?_)
  refine ⟨?_⟩
  refine wpList_store_row rfl 30 (.tmp 2) (.tmp 6) rfl w.heap.size p.cells.toArray (by rfl) (by rfl) 30 _ hR hsz (by simp only [List.size_toArray] <;> (try (rw [Hcl.out] <;> (try rfl)))) hone ?_
  simp only [Act.put, List.setIfInBounds_toArray, List.set_cons_zero, List.set_cons_succ]
  go_wp2_with fail
  (try simp only [Exit.inBlock, Exit.then])
  refine bodyPost_ret (res_two rfl _ _ w.heap.size 30 p.cells.toArray _ rfl (Blk.row hR p.cells.toArray) Tryz.underlying30 rfl hsz) rfl ?_
  exact ⟨rfl, hE.row (Nat.le_refl _) _⟩

set_option maxHeartbeats 4000000 in
theorem readHd_in (s : List UInt8) (hs : s.length ≤ 1099511627776) (w : World) :
    Calls Tryz.prog 85 #[.string (bs s), .string (bs [72]), (Value.func (.func 86) #[] #[]), (Value.func (.func 33) #[] #[])] w fun e w' => e = .returned (.tuple #[((Seal.Hd.read s).getD Seal.zH).v, .int .i64 (Seal.errOf (Seal.Hd.read s))]) ∧ Ext w w' := by
  have hR : HdAt ((w.alloc (.cells Seal.zH.cells.toArray 32)).alloc (.cells Seal.zH.cells.toArray 32)) w.heap.size Seal.zH := by
    have := Blk.new w 32 Seal.zH.cells.toArray
    exact Blk.alloc (this) _
  have hO : HdAt ((w.alloc (.cells Seal.zH.cells.toArray 32)).alloc (.cells Seal.zH.cells.toArray 32)) (w.heap.size + 1) Seal.zH := by
    have := Blk.new (w.alloc (.cells Seal.zH.cells.toArray 32)) 32 Seal.zH.cells.toArray
    rw [alloc_size] at this
    exact this
  have hE : Ext w ((w.alloc (.cells Seal.zH.cells.toArray 32)).alloc (.cells Seal.zH.cells.toArray 32)) := ((Ext.refl w).alloc _).alloc _
  by_cases hc : s.head? = some 72
  · obtain ⟨r, rfl⟩ : ∃ r, s = 72 :: r := by
      cases s with
      | nil => cases hc
      | cons d r => injection hc with hc; exact ⟨r, by rw [hc]⟩
    clear hc
    have hgood := Seal.Hd.read_good r
    have hbad := Seal.Hd.read_bad r
    generalize hp : (Seal.Hd.parse ⟨r, false⟩).1 = p at hgood hbad
    have p1 : p.root.length = 32 := by rw [← hp]; exact (Seal.Hd.parse_len _).1
    have p2 : p.mac.length = 32 := by rw [← hp]; exact (Seal.Hd.parse_len _).2
    have Hp := Lib.hid hp; clear hp
    by_cases hm : p.may
    · have hoo : p.outB = p.bytes ∧ p.outE = 0 := ⟨(Seal.Hd.out_ok p hm).2.1, (Seal.Hd.out_ok p hm).2.2⟩
      by_cases hb : p.bytes = 72 :: r
      · have hrd := hgood hm hb
        have hv : (Seal.Hd.read (72 :: r)).getD Seal.zH = p := by rw [hrd]; rfl
        have he : Seal.errOf (Seal.Hd.read (72 :: r)) = 0 := by rw [hrd]; rfl
        rw [hv, he]
        rw [hb] at hoo
        have Ho := Lib.hid hoo
        clear hgood hbad hm hb hrd hv he hoo
        unfold Seal.Hd.v
        go_enter Tryz.func85, Tryz.ntmps85
        go_wp2_with fail
        change Calls _ _ _ ((w.alloc (.cells Seal.zH.cells.toArray 32)).alloc (.cells Seal.zH.cells.toArray 32)) _
        generalize ((w.alloc (.cells Seal.zH.cells.toArray 32)).alloc (.cells Seal.zH.cells.toArray 32)) = w0 at *
        refine (cut_yes 72 r _ (by simp at hs; omega)).mono ?_; rintro e w1 ⟨rfl, rfl⟩
        go_wp2_with fail
        refine (Read_new r _).mono ?_; rintro e v0 ⟨gs, rfl, hgs, hS, e0⟩
        have hRl := hR.lt
        have hOl := hO.lt
        replace hR := hR.ext e0
        replace hO := hO.ext e0
        replace hE := hE.trans e0
        clear e0
        have hwg : w.heap.size + 1 < gs := by omega
        go_wp2_with fail
        refine (parseHd_calls gs ⟨r, false⟩ _ hS (by simp at hs; show r.length ≤ _; omega)).mono ?_; rw [Hp.out]; rintro e v00 ⟨rfl, -, hU⟩
        replace hR := hR.upd hU (by omega)
        replace hO := hO.upd hU (by omega)
        replace hE := hE.upd hU (by omega)
        clear hU hS
        unfold Seal.Hd.v
        go_wp2_with (refine stop_store 32 (.tmp 13) (.tmp 28) rfl ?_)
        refine ⟨?_⟩
        change wpList _ _ _ _ _ (v00.alloc (.cells (⟨0, List.replicate 32 0, 0, List.replicate 32 0⟩ : Hd).cells.toArray 32))
        have hN0 := Blk.new v00 32 (⟨0, List.replicate 32 0, 0, List.replicate 32 0⟩ : Hd).cells.toArray
        have e2a := (Ext.refl v00).alloc (.cells (⟨0, List.replicate 32 0, 0, List.replicate 32 0⟩ : Hd).cells.toArray 32)
        have g3l : v00.heap.size < (v00.alloc (.cells (⟨0, List.replicate 32 0, 0, List.replicate 32 0⟩ : Hd).cells.toArray 32)).heap.size := Blk.lt hN0
        obtain ⟨g3, g3e⟩ : ∃ g3, g3 = v00.heap.size := ⟨_, rfl⟩
        have g3b : v00.heap.size ≤ g3 := by omega
        rw [← g3e] at hN0 g3l
        try rw [← g3e]
        generalize v00.alloc (.cells (⟨0, List.replicate 32 0, 0, List.replicate 32 0⟩ : Hd).cells.toArray 32) = v1' at *
        refine wpList_store_row rfl 32 (.tmp 13) (.tmp 28) rfl g3 p.cells.toArray (by rfl) (by rfl) 32 _ hN0 (Seal.size_hd p p1 p2) (by simp only [List.size_toArray]; rw [Seal.Hd.cells_length p p1 p2]; rfl) (all_oneCell_toArray (Seal.Hd.one p)) ?_
        simp only [Act.put, List.setIfInBounds_toArray, List.set_cons_zero, List.set_cons_succ]
        have hN : HdAt (v1'.setRow g3 p.cells.toArray) g3 p := Blk.row hN0 _
        have e2 : Ext v00 (v1'.setRow g3 p.cells.toArray) := e2a.row g3b _
        clear hN0 e2a g3l
        generalize v1'.setRow g3 p.cells.toArray = v1 at *
        clear v1' g3e
        replace hR := hR.ext e2
        replace hO := hO.ext e2
        replace hE := hE.trans e2
        clear e2
        go_wp2_with (refine stop_load 32 (.tmp 13) rfl ?_)
        refine ⟨?_⟩
        refine wpList_load_row rfl 32 (.tmp 13) rfl g3 (by rfl) 32 _ (0, 0) _ hN Tryz.underlying32 rfl (Seal.size_hd p p1 p2) ?_
        simp only [Act.put, List.setIfInBounds_toArray, List.set_cons_zero, List.set_cons_succ]
        go_wp2_with fail
        change Calls _ _ #[p.v] _ _
        refine (HeadBytes_calls p p1 p2 _).mono ?_; rw [Ho.out.1, Ho.out.2]; rintro e v54 ⟨rfl, e55⟩
        replace hR := hR.ext e55
        replace hO := hO.ext e55
        replace hN := hN.ext e55
        replace hE := hE.trans e55
        clear e55
        have bb : ((72 :: r : List UInt8) == 72 :: r) = true := by simp
        have hsz := Seal.size_hd p p1 p2
        have hcl := Seal.Hd.cells_length p p1 p2
        have hone := all_oneCell_toArray (Seal.Hd.one p)
        have Hcl := Lib.hid hcl; clear hcl
        go_wp2_with (refine stop_load 32 (.tmp 13) rfl ?_)
        refine ⟨?_⟩
        refine wpList_load_row rfl 32 (.tmp 13) rfl g3 (by rfl) 32 _ (0, 0) _ hN Tryz.underlying32 rfl (hsz) ?_
        simp only [Act.put, List.setIfInBounds_toArray, List.set_cons_zero, List.set_cons_succ]
        go_wp2_with (refine stop_store 32 (.tmp 8) (.tmp 43) rfl ?_)
        refine ⟨?_⟩
        refine wpList_store_row rfl 32 (.tmp 8) (.tmp 43) rfl w.heap.size p.cells.toArray (by rfl) (by rfl) 32 _ hR hsz (by simp only [List.size_toArray] <;> (try (rw [Hcl.out] <;> (try rfl)))) hone ?_
        simp only [Act.put, List.setIfInBounds_toArray, List.set_cons_zero, List.set_cons_succ]
        go_wp2_with fail
        (try simp only [Exit.inBlock, Exit.then])
        refine bodyPost_ret (res_two rfl _ _ w.heap.size 32 p.cells.toArray _ rfl (Blk.row hR p.cells.toArray) Tryz.underlying32 rfl hsz) rfl ?_
        exact ⟨rfl, hE.row (Nat.le_refl _) _⟩
      · have hrd := hbad (fun h => hb h.2)
        have hv : (Seal.Hd.read (72 :: r)).getD Seal.zH = Seal.zH := by rw [hrd]; rfl
        have he : Seal.errOf (Seal.Hd.read (72 :: r)) = 10 := by rw [hrd]; rfl
        rw [hv, he]
        have Ho := Lib.hid hoo
        have bb : (p.bytes == 72 :: r) = false := by rw [beq_eq_false_iff_ne]; exact hb
        generalize p.bytes = pb at *
        clear hgood hbad hm hb hrd hv he hoo
        unfold Seal.Hd.v
        go_enter Tryz.func85, Tryz.ntmps85
        go_wp2_with fail
        change Calls _ _ _ ((w.alloc (.cells Seal.zH.cells.toArray 32)).alloc (.cells Seal.zH.cells.toArray 32)) _
        generalize ((w.alloc (.cells Seal.zH.cells.toArray 32)).alloc (.cells Seal.zH.cells.toArray 32)) = w0 at *
        refine (cut_yes 72 r _ (by simp at hs; omega)).mono ?_; rintro e w1 ⟨rfl, rfl⟩
        go_wp2_with fail
        refine (Read_new r _).mono ?_; rintro e v0 ⟨gs, rfl, hgs, hS, e0⟩
        have hRl := hR.lt
        have hOl := hO.lt
        replace hR := hR.ext e0
        replace hO := hO.ext e0
        replace hE := hE.trans e0
        clear e0
        have hwg : w.heap.size + 1 < gs := by omega
        go_wp2_with fail
        refine (parseHd_calls gs ⟨r, false⟩ _ hS (by simp at hs; show r.length ≤ _; omega)).mono ?_; rw [Hp.out]; rintro e v00 ⟨rfl, -, hU⟩
        replace hR := hR.upd hU (by omega)
        replace hO := hO.upd hU (by omega)
        replace hE := hE.upd hU (by omega)
        clear hU hS
        unfold Seal.Hd.v
        go_wp2_with (refine stop_store 32 (.tmp 13) (.tmp 28) rfl ?_)
        refine ⟨?_⟩
        change wpList _ _ _ _ _ (v00.alloc (.cells (⟨0, List.replicate 32 0, 0, List.replicate 32 0⟩ : Hd).cells.toArray 32))
        have hN0 := Blk.new v00 32 (⟨0, List.replicate 32 0, 0, List.replicate 32 0⟩ : Hd).cells.toArray
        have e2a := (Ext.refl v00).alloc (.cells (⟨0, List.replicate 32 0, 0, List.replicate 32 0⟩ : Hd).cells.toArray 32)
        have g3l : v00.heap.size < (v00.alloc (.cells (⟨0, List.replicate 32 0, 0, List.replicate 32 0⟩ : Hd).cells.toArray 32)).heap.size := Blk.lt hN0
        obtain ⟨g3, g3e⟩ : ∃ g3, g3 = v00.heap.size := ⟨_, rfl⟩
        have g3b : v00.heap.size ≤ g3 := by omega
        rw [← g3e] at hN0 g3l
        try rw [← g3e]
        generalize v00.alloc (.cells (⟨0, List.replicate 32 0, 0, List.replicate 32 0⟩ : Hd).cells.toArray 32) = v1' at *
        refine wpList_store_row rfl 32 (.tmp 13) (.tmp 28) rfl g3 p.cells.toArray (by rfl) (by rfl) 32 _ hN0 (Seal.size_hd p p1 p2) (by simp only [List.size_toArray]; rw [Seal.Hd.cells_length p p1 p2]; rfl) (all_oneCell_toArray (Seal.Hd.one p)) ?_
        simp only [Act.put, List.setIfInBounds_toArray, List.set_cons_zero, List.set_cons_succ]
        have hN : HdAt (v1'.setRow g3 p.cells.toArray) g3 p := Blk.row hN0 _
        have e2 : Ext v00 (v1'.setRow g3 p.cells.toArray) := e2a.row g3b _
        clear hN0 e2a g3l
        generalize v1'.setRow g3 p.cells.toArray = v1 at *
        clear v1' g3e
        replace hR := hR.ext e2
        replace hO := hO.ext e2
        replace hE := hE.trans e2
        clear e2
        go_wp2_with (refine stop_load 32 (.tmp 13) rfl ?_)
        refine ⟨?_⟩
        refine wpList_load_row rfl 32 (.tmp 13) rfl g3 (by rfl) 32 _ (0, 0) _ hN Tryz.underlying32 rfl (Seal.size_hd p p1 p2) ?_
        simp only [Act.put, List.setIfInBounds_toArray, List.set_cons_zero, List.set_cons_succ]
        go_wp2_with fail
        change Calls _ _ #[p.v] _ _
        refine (HeadBytes_calls p p1 p2 _).mono ?_; rw [Ho.out.1, Ho.out.2]; rintro e v54 ⟨rfl, e55⟩
        replace hR := hR.ext e55
        replace hO := hO.ext e55
        replace hN := hN.ext e55
        replace hE := hE.trans e55
        clear e55

        have hsz := Seal.size_hd Seal.zH (by rfl) (by rfl)
        have hcl := Seal.Hd.cells_length Seal.zH (by rfl) (by rfl)
        have hone := all_oneCell_toArray (Seal.Hd.one Seal.zH)
        have Hcl := Lib.hid hcl; clear hcl
        go_wp2_with (refine stop_load 32 (.tmp 10) rfl ?_)
        refine ⟨?_⟩
        refine wpList_load_row rfl 32 (.tmp 10) rfl (w.heap.size + 1) (by rfl) 32 _ (0, 0) _ hO Tryz.underlying32 rfl (hsz) ?_
        simp only [Act.put, List.setIfInBounds_toArray, List.set_cons_zero, List.set_cons_succ]
        go_wp2_with (refine stop_store 32 (.tmp 8) (.tmp 42) rfl ?_)
        refine ⟨?_⟩
        refine wpList_store_row rfl 32 (.tmp 8) (.tmp 42) rfl w.heap.size Seal.zH.cells.toArray (by rfl) (by rfl) 32 _ hR hsz (by simp only [List.size_toArray] <;> (try (rw [Hcl.out] <;> (try rfl)))) hone ?_
        simp only [Act.put, List.setIfInBounds_toArray, List.set_cons_zero, List.set_cons_succ]
        go_wp2_with fail
        (try simp only [Exit.inBlock, Exit.then])
        refine bodyPost_ret (res_two rfl _ _ w.heap.size 32 Seal.zH.cells.toArray _ rfl (Blk.row hR Seal.zH.cells.toArray) Tryz.underlying32 rfl hsz) rfl ?_
        exact ⟨rfl, hE.row (Nat.le_refl _) _⟩
    · have hoo : p.outB = [] ∧ p.outE = 1 := ⟨(Seal.Hd.out_no p hm).2.1, (Seal.Hd.out_no p hm).2.2⟩
      have hrd := hbad (fun h => hm h.1)
      have hv : (Seal.Hd.read (72 :: r)).getD Seal.zH = Seal.zH := by rw [hrd]; rfl
      have he : Seal.errOf (Seal.Hd.read (72 :: r)) = 10 := by rw [hrd]; rfl
      rw [hv, he]
      have Ho := Lib.hid hoo
      clear hgood hbad hm hrd hv he hoo
      unfold Seal.Hd.v
      go_enter Tryz.func85, Tryz.ntmps85
      go_wp2_with fail
      change Calls _ _ _ ((w.alloc (.cells Seal.zH.cells.toArray 32)).alloc (.cells Seal.zH.cells.toArray 32)) _
      generalize ((w.alloc (.cells Seal.zH.cells.toArray 32)).alloc (.cells Seal.zH.cells.toArray 32)) = w0 at *
      refine (cut_yes 72 r _ (by simp at hs; omega)).mono ?_; rintro e w1 ⟨rfl, rfl⟩
      go_wp2_with fail
      refine (Read_new r _).mono ?_; rintro e v0 ⟨gs, rfl, hgs, hS, e0⟩
      have hRl := hR.lt
      have hOl := hO.lt
      replace hR := hR.ext e0
      replace hO := hO.ext e0
      replace hE := hE.trans e0
      clear e0
      have hwg : w.heap.size + 1 < gs := by omega
      go_wp2_with fail
      refine (parseHd_calls gs ⟨r, false⟩ _ hS (by simp at hs; show r.length ≤ _; omega)).mono ?_; rw [Hp.out]; rintro e v00 ⟨rfl, -, hU⟩
      replace hR := hR.upd hU (by omega)
      replace hO := hO.upd hU (by omega)
      replace hE := hE.upd hU (by omega)
      clear hU hS
      unfold Seal.Hd.v
      go_wp2_with (refine stop_store 32 (.tmp 13) (.tmp 28) rfl ?_)
      refine ⟨?_⟩
      change wpList _ _ _ _ _ (v00.alloc (.cells (⟨0, List.replicate 32 0, 0, List.replicate 32 0⟩ : Hd).cells.toArray 32))
      have hN0 := Blk.new v00 32 (⟨0, List.replicate 32 0, 0, List.replicate 32 0⟩ : Hd).cells.toArray
      have e2a := (Ext.refl v00).alloc (.cells (⟨0, List.replicate 32 0, 0, List.replicate 32 0⟩ : Hd).cells.toArray 32)
      have g3l : v00.heap.size < (v00.alloc (.cells (⟨0, List.replicate 32 0, 0, List.replicate 32 0⟩ : Hd).cells.toArray 32)).heap.size := Blk.lt hN0
      obtain ⟨g3, g3e⟩ : ∃ g3, g3 = v00.heap.size := ⟨_, rfl⟩
      have g3b : v00.heap.size ≤ g3 := by omega
      rw [← g3e] at hN0 g3l
      try rw [← g3e]
      generalize v00.alloc (.cells (⟨0, List.replicate 32 0, 0, List.replicate 32 0⟩ : Hd).cells.toArray 32) = v1' at *
      refine wpList_store_row rfl 32 (.tmp 13) (.tmp 28) rfl g3 p.cells.toArray (by rfl) (by rfl) 32 _ hN0 (Seal.size_hd p p1 p2) (by simp only [List.size_toArray]; rw [Seal.Hd.cells_length p p1 p2]; rfl) (all_oneCell_toArray (Seal.Hd.one p)) ?_
      simp only [Act.put, List.setIfInBounds_toArray, List.set_cons_zero, List.set_cons_succ]
      have hN : HdAt (v1'.setRow g3 p.cells.toArray) g3 p := Blk.row hN0 _
      have e2 : Ext v00 (v1'.setRow g3 p.cells.toArray) := e2a.row g3b _
      clear hN0 e2a g3l
      generalize v1'.setRow g3 p.cells.toArray = v1 at *
      clear v1' g3e
      replace hR := hR.ext e2
      replace hO := hO.ext e2
      replace hE := hE.trans e2
      clear e2
      go_wp2_with (refine stop_load 32 (.tmp 13) rfl ?_)
      refine ⟨?_⟩
      refine wpList_load_row rfl 32 (.tmp 13) rfl g3 (by rfl) 32 _ (0, 0) _ hN Tryz.underlying32 rfl (Seal.size_hd p p1 p2) ?_
      simp only [Act.put, List.setIfInBounds_toArray, List.set_cons_zero, List.set_cons_succ]
      go_wp2_with fail
      change Calls _ _ #[p.v] _ _
      refine (HeadBytes_calls p p1 p2 _).mono ?_; rw [Ho.out.1, Ho.out.2]; rintro e v54 ⟨rfl, e55⟩
      replace hR := hR.ext e55
      replace hO := hO.ext e55
      replace hN := hN.ext e55
      replace hE := hE.trans e55
      clear e55

      have hsz := Seal.size_hd Seal.zH (by rfl) (by rfl)
      have hcl := Seal.Hd.cells_length Seal.zH (by rfl) (by rfl)
      have hone := all_oneCell_toArray (Seal.Hd.one Seal.zH)
      have Hcl := Lib.hid hcl; clear hcl
      go_wp2_with (refine stop_load 32 (.tmp 10) rfl ?_)
      refine ⟨?_⟩
      refine wpList_load_row rfl 32 (.tmp 10) rfl (w.heap.size + 1) (by rfl) 32 _ (0, 0) _ hO Tryz.underlying32 rfl (hsz) ?_
      simp only [Act.put, List.setIfInBounds_toArray, List.set_cons_zero, List.set_cons_succ]
      go_wp2_with (refine stop_store 32 (.tmp 8) (.tmp 42) rfl ?_)
      refine ⟨?_⟩
      refine wpList_store_row rfl 32 (.tmp 8) (.tmp 42) rfl w.heap.size Seal.zH.cells.toArray (by rfl) (by rfl) 32 _ hR hsz (by simp only [List.size_toArray] <;> (try (rw [Hcl.out] <;> (try rfl)))) hone ?_
      simp only [Act.put, List.setIfInBounds_toArray, List.set_cons_zero, List.set_cons_succ]
      go_wp2_with fail
      (try simp only [Exit.inBlock, Exit.then])
      refine bodyPost_ret (res_two rfl _ _ w.heap.size 32 Seal.zH.cells.toArray _ rfl (Blk.row hR Seal.zH.cells.toArray) Tryz.underlying32 rfl hsz) rfl ?_
      exact ⟨rfl, hE.row (Nat.le_refl _) _⟩
  · have hrd := Seal.Hd.read_head s hc
    have hv : (Seal.Hd.read s).getD Seal.zH = Seal.zH := by rw [hrd]; rfl
    have he : Seal.errOf (Seal.Hd.read s) = 10 := by rw [hrd]; rfl
    rw [hv, he]
    clear hrd hv he
    unfold Seal.Hd.v
    go_enter Tryz.func85, Tryz.ntmps85
    go_wp2_with fail
    change Calls _ _ _ ((w.alloc (.cells Seal.zH.cells.toArray 32)).alloc (.cells Seal.zH.cells.toArray 32)) _
    generalize ((w.alloc (.cells Seal.zH.cells.toArray 32)).alloc (.cells Seal.zH.cells.toArray 32)) = w0 at *
    refine (cut_no 72 s hc _).mono ?_; rintro e w1 ⟨rfl, rfl⟩
    have hsz := Seal.size_hd Seal.zH (by rfl) (by rfl)
    have hcl := Seal.Hd.cells_length Seal.zH (by rfl) (by rfl)
    have hone := all_oneCell_toArray (Seal.Hd.one Seal.zH)
    have Hcl := Lib.hid hcl; clear hcl
    go_wp2_with (refine stop_load 32 (.tmp 10) rfl ?_)
    refine ⟨?_⟩
    refine wpList_load_row rfl 32 (.tmp 10) rfl (w.heap.size + 1) (by rfl) 32 _ (0, 0) _ hO Tryz.underlying32 rfl (hsz) ?_
    simp only [Act.put, List.setIfInBounds_toArray, List.set_cons_zero, List.set_cons_succ]
    go_wp2_with (refine stop_store 32 (.tmp 8) (.tmp 24) rfl ?_)
    refine ⟨?_⟩
    refine wpList_store_row rfl 32 (.tmp 8) (.tmp 24) rfl w.heap.size Seal.zH.cells.toArray (by rfl) (by rfl) 32 _ hR hsz (by simp only [List.size_toArray] <;> (try (rw [Hcl.out] <;> (try rfl)))) hone ?_
    simp only [Act.put, List.setIfInBounds_toArray, List.set_cons_zero, List.set_cons_succ]
    go_wp2_with fail
    (try simp only [Exit.inBlock, Exit.then])
    refine bodyPost_ret (res_two rfl _ _ w.heap.size 32 Seal.zH.cells.toArray _ rfl (Blk.row hR Seal.zH.cells.toArray) Tryz.underlying32 rfl hsz) rfl ?_
    exact ⟨rfl, hE.row (Nat.le_refl _) _⟩

set_option maxHeartbeats 1000000 in
theorem ReadHead_calls (s : List UInt8) (hs : s.length ≤ 1099511627776) (w : World) :
    Calls Tryz.prog 43 #[.string (bs s)] w fun e w' => e = .returned (.tuple #[((Seal.Hd.read s).getD Seal.zH).v, .int .i64 (Seal.errOf (Seal.Hd.read s))]) ∧ Ext w w' := by
  have hR : HdAt (w.alloc (.cells Seal.zH.cells.toArray 32)) w.heap.size Seal.zH := by
    have := Blk.new w 32 Seal.zH.cells.toArray
    exact this
  have hE : Ext w (w.alloc (.cells Seal.zH.cells.toArray 32)) := (Ext.refl w).alloc _
  have p1 : (((Seal.Hd.read s).getD Seal.zH) : Hd).root.length = 32 ∧ (((Seal.Hd.read s).getD Seal.zH) : Hd).mac.length = 32 := by
    cases h : Seal.Hd.read s with
    | none => exact ⟨rfl, rfl⟩
    | some f => exact ⟨((Seal.Hd.read_iff s f).1 h).2.1, ((Seal.Hd.read_iff s f).1 h).2.2.1⟩
  have hcall := fun w => readHd_in s hs w
  generalize (Seal.Hd.read s).getD Seal.zH = p at *
  generalize Seal.errOf (Seal.Hd.read s) = er at *
  have hsz := Seal.size_hd p p1.1 p1.2
  have hcl := Seal.Hd.cells_length p p1.1 p1.2
  have hone := all_oneCell_toArray (Seal.Hd.one p)
  have Hcl := Lib.hid hcl; have HC := Lib.hid hcall; clear hcl hcall
  unfold Seal.Hd.v at *
  go_enter Tryz.func43, Tryz.ntmps43
  go_wp2_with fail
  change Calls _ _ _ (w.alloc (.cells Seal.zH.cells.toArray 32)) _
  generalize (w.alloc (.cells Seal.zH.cells.toArray 32)) = w0 at *
  refine (HC.out _).mono ?_; rintro e w1 ⟨rfl, e1⟩
  replace hR := hR.ext e1
  replace hE := hE.trans e1
  go_wp2_with (refine stop_store 32 (.tmp 2) (.tmp 6) rfl ?_)
  refine ⟨?_⟩
  refine wpList_store_row rfl 32 (.tmp 2) (.tmp 6) rfl w.heap.size p.cells.toArray (by rfl) (by rfl) 32 _ hR hsz (by simp only [List.size_toArray] <;> (try (rw [Hcl.out] <;> (try rfl)))) hone ?_
  simp only [Act.put, List.setIfInBounds_toArray, List.set_cons_zero, List.set_cons_succ]
  go_wp2_with fail
  (try simp only [Exit.inBlock, Exit.then])
  refine bodyPost_ret (res_two rfl _ _ w.heap.size 32 p.cells.toArray _ rfl (Blk.row hR p.cells.toArray) Tryz.underlying32 rfl hsz) rfl ?_
  exact ⟨rfl, hE.row (Nat.le_refl _) _⟩

end Go.Proofs.YtcgnjdkennkheaaGreatDoor

namespace Go.Proofs.YtcgnjdkennkheaaGreatDoor
open Go.RowKit
open Seal (Fz Hd St)
attribute [local go_sem] bs_size bs_toList2 bs_append bs_extract_end bs_extract_begin bs_get wrap64_b

section
variable {P : Program} {id : Nat} {Q : Exit → Act → World → Prop} {a : Act} {w : World} {l : List Oper}
theorem region_keepP (S : Nat → Prop) (n : Nat) (p : Plan) (hm : P.follows .mixedOrders = true) (hB : regB loudOp .any l.toArray n p = true)
    (h : wpPlan P l.toArray (fun w' => ∃ x : Held S w, w' = heldW S w x) loudOp (fun a' w' => wpList P l.toArray Q (l.drop n) a' w') p a w.drew) : (Code.region id l.toArray true).wp P Q a w :=
  wp_region_plan (S := fun w' => ∃ x : Held S w, w' = heldW S w x) n p hm hB (held_of (Keep.refl S w).drew) h
end
section
variable {P : Program} {ops : Array Oper} {T : Act → World → Prop} {o : Oper} {r : Plan} {a : Act} {w w0 : World} {S : Nat → Prop} {i : Nat}
theorem planH_row (ho' : ops[i]? = some o) (hl : loudOp o = false) (hw : Region.wanted o (yielded ops a.tmps) = true) (ty : TypeId) (p : Operand) (ho : o.op = .load ty p) (g : Nat) (hx : a.eval p = .pointer (some ⟨g, 0, none⟩))
    (t : TypeId) (cs : Array Value) (d : TypeDesc) (hg : Blk w0 g t cs) (hS : S g) (hu : P.underlying ty = some d) (hd : (match d with | .struct _ | .array _ _ => true | _ => false) = true) (hi : (P.info? ty).map (·.size) = some cs.size)
    (h : wpPlan P ops (fun w' => ∃ x : Held S w0, w' = heldW S w0 x) loudOp T r (a.put o.dst (.agg cs)) w) : wpPlan P ops (fun w' => ∃ x : Held S w0, w' = heldW S w0 x) loudOp T (.one i r) a w := by
  refine plan_quiet ho' hl hw fun K hK => ⟨.agg cs, fun w' hs => ?_, hK _ h⟩
  obtain ⟨x, rfl⟩ := hs
  unfold Oper.quietAt execOp
  simp only [ho, hx, Instr.loadAt, Instr.sureAddr, Sem.run_bind, Sem.run_pure, Result.andThen_ok, run_loadVar_row (heldW S w0 x) g t ty cs (0, 0) d (hg.kept (heldW_keep x) hS) hu hd hi]
  exact ⟨rfl, rfl⟩
theorem plan_build {S : World → Prop} (ho' : ops[i]? = some o) (hl : loudOp o = false) (hw : Region.wanted o (yielded ops a.tmps) = true) (t : TypeId) (parts : Array (Nat × Operand)) (ho : o.op = .build t parts) (vs : List (Nat × Value)) (hv : (parts.map fun (i, x) => (i, a.eval x)).toList = vs) (cells : Array Value) (hb : P.built t vs = some cells)
    (h : wpPlan P ops S loudOp T r (a.put o.dst (.agg cells)) w) : wpPlan P ops S loudOp T (.one i r) a w := by
  refine plan_quiet ho' hl hw fun K hK => ⟨.agg cells, fun w' hs => ?_, hK _ h⟩
  unfold Oper.quietAt execOp
  rw [← hv] at hb
  simp only [ho, Sem.run_bind, run_build w' t _ cells hb, Result.andThen_ok, Sem.run_pure]
  exact ⟨rfl, rfl⟩
end

theorem ScAt.drew' {w : World} {g : Nat} {x : Oct.Sc} (h : ScAt w g x) : ScAt w.drew g x := h
end Go.Proofs.YtcgnjdkennkheaaGreatDoor
