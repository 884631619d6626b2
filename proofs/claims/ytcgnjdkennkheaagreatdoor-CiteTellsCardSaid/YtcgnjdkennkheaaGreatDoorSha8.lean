/-
  The walks of (*sha.Hash).Len, Copy and sha.Of.
-/
import Derived.Test.YtcgnjdkennkheaaGreatDoorSha7
set_option linter.unusedVariables false
set_option maxRecDepth 100000
set_option linter.unusedSimpArgs false
namespace Go.Proofs.YtcgnjdkennkheaaGreatDoor
open Go.RowKit
attribute [local go_sem] bs_size bs_toList2 bs_append bs_extract_end bs_extract_begin bs_get wrap64_b grow_cell grow_frozen

/-- A hash to which all was written, or a new one. -/
def HashOk (w : World) (g : Nat) (all : List UInt8) : Prop := HashAt w g all ∨ (all = [] ∧ HashNew w g)
theorem HashOk.lt {w : World} {g : Nat} {all : List UInt8} (h : HashOk w g all) : g < w.heap.size := h.elim (fun h => Blk.lt h) (fun h => Blk.lt h.2)
theorem HashOk.below {w w' : World} {g B : Nat} {all : List UInt8} (h : HashOk w g all) (hb : Below B w w') (hg : g < B) : HashOk w' g all := h.imp (fun h => Blk.below h hb hg) (fun h => ⟨h.1, Blk.below h.2 hb hg⟩)
theorem HashOk.ext {w w' : World} {g : Nat} {all : List UInt8} (h : HashOk w g all) (hb : Ext w w') : HashOk w' g all := h.below hb h.lt
theorem Write_calls (s all : List UInt8) (g : Nat) (w : World) (K : Keys w) (hg : HashOk w g all) (hg0 : g ≠ 0) (hs : all.length + s.length ≤ 4611686018427387904) :
    Calls Tryz.prog 110 #[.pointer (some ⟨g, 0, none⟩), .string (bs s)] w fun e w' => e = .returned (.int .i64 s.length) ∧ HashAt w' g (all ++ s) ∧ Upd g w w' := by
  rcases hg with hg | ⟨rfl, hg⟩
  · exact Write_begun s all g w K hg hg0 hs
  · exact Write_new s g w K hg hg0 (by simpa using hs)
theorem Sum_calls (all : List UInt8) (g : Nat) (w : World) (K : Keys w) (hg : HashOk w g all) (hs : all.length ≤ 4611686018427387904) :
    Calls Tryz.prog 111 #[.pointer (some ⟨g, 0, none⟩)] w fun e w' => e = .returned (sumV (shaOf all)) ∧ Ext w w' := by
  rcases hg with hg | ⟨rfl, hg⟩
  · exact Sum_begun all g w K hg hs
  · exact Sum_new g w K hg
theorem Keys.lt0 {w : World} (K : Keys w) : 0 < w.heap.size := World.block_lt_of_cell? w _ (K 0 (by omega))
theorem Keys.upd {w w' : World} {g : Nat} (K : Keys w) (h : Upd g w w') (hg : g ≠ 0) : Keys w' := fun i hi => by
  rw [World.cell?_of_block (h.block 0 K.lt0 (fun e => hg (by injection e with e; exact e.symm)))]
  exact K i hi

/-- The texts, one behind the other. -/
def joinB (l : List (List UInt8)) : List UInt8 := l.flatten
theorem joinB_take (l : List (List UInt8)) (k : Nat) (h : k < l.length) : joinB (l.take (k + 1)) = joinB (l.take k) ++ l[k] := by
  unfold joinB
  rw [List.take_succ_eq_append_getElem h, List.flatten_append]
  simp
theorem joinB_le (l : List (List UInt8)) (k : Nat) : (joinB (l.take k)).length ≤ (joinB l).length := by
  unfold joinB
  conv => rhs; rw [← List.take_append_drop k l, List.flatten_append, List.length_append]
  omega

set_option maxRecDepth 100000 in
theorem Of_calls (l : List (List UInt8)) (A : Option Addr) (cap : Nat) (w : World) (K : Keys w) (hA : Rd w w.heap.size A (l.map strV)) (hn : l.length ≤ 9223372036854775807) (hs : (joinB l).length ≤ 4611686018427387904) :
    Calls Tryz.prog 94 #[.slice A l.length cap] w fun e w' => e = .returned (sumV (shaOf (joinB l))) ∧ Ext w w' := by
  go_enter Tryz.func94, Tryz.ntmps94
  go_wp2_with fail
  change Calls _ _ _ (w.alloc (.cells ((zerosB 32).map byteV).toArray 28)) _
  have hR0 : ArrB (w.alloc (.cells ((zerosB 32).map byteV).toArray 28)) w.heap.size 28 (zerosB 32) := Blk.new _ _ _
  have hE0 := (Ext.refl w).alloc (.cells ((zerosB 32).map byteV).toArray 28)
  generalize w.alloc (.cells ((zerosB 32).map byteV).toArray 28) = w0 at *
  refine (New_calls _).mono ?_; rintro e w1 ⟨rfl, hN, hE1⟩
  have hgw : w.heap.size < w0.heap.size := hR0.lt
  have hR1 : ArrB w1 w.heap.size 28 (zerosB 32) := Blk.below hR0 hE1 hgw
  have hE2 : Ext w w1 := hE0.trans hE1
  have hH : HashOk w1 w0.heap.size (joinB (l.take 0)) := .inr ⟨rfl, hN⟩
  clear hR0 hE0 hE1 hN
  generalize w0.heap.size = g at *
  clear w0
  have hg0 : g ≠ 0 := by
    have := K.lt0
    omega
  go_wp2_with fail
  go_loopw [9] (fun v wr => ∃ k : Nat, k ≤ l.length ∧ v = .int .i64 (k : Int) ∧ HashOk wr g (joinB (l.take k)) ∧ ArrB wr w.heap.size 28 (zerosB 32) ∧ Ext w wr) (fun v _ => l.length - (intOf v).toNat)
  case atStart => exact ⟨0, by omega, rfl, hH, hR1, hE2⟩
  case round =>
    clear hH hR1 hE2
    obtain ⟨k, hk, rfl, hH, hR, hE⟩ := hrel
    by_cases hlt : k < l.length
    · have hit : (k : Int) < (l.length : Int) := by omega
      obtain ⟨b, off, rfl, hb, hc⟩ := (hA.below hE (Nat.le_refl _)) (map_ne strV hlt)
      have hcell := hc k (strV l[k]) (by simp [hlt])
      clear hc
      unfold strV at hcell
      have hj := joinB_take l k hlt
      have Hj := Lib.hid hj
      have hjl := joinB_le l (k + 1)
      have hjs : (joinB (l.take k)).length + (l[k]).length ≤ 4611686018427387904 := by rw [hj, List.length_append] at hjl; omega
      clear hj hjl
      generalize l[k] = s at *
      generalize joinB (l.take k) = had at *
      go_wp2_with fail
      go_at_call 110
      refine (Write_calls s had g _ (K.ext hE) hH hg0 hjs).mono ?_; rintro e w3 ⟨rfl, hH3, hU⟩
      have hR3 : ArrB w3 w.heap.size 28 (zerosB 32) := Blk.grown hR hU (by intro e; injection e with e; omega)
      have hE3 : Ext w w3 := hE.upd hU (by omega)
      clear hR hE hH hU
      go_wp2_with fail
      go_roundw
      case rel => exact ⟨k + 1, by omega, by go_num, by rw [Hj.out]; exact .inl hH3, hR3, hE3⟩
      case measure => simp [intOf]; omega
    · obtain rfl : k = l.length := by omega
      rw [List.take_length] at hH
      generalize hall : joinB l = all at *
      have Hall := Lib.hid hall; clear hall
      go_wp2_with fail
      go_at_call 111
      refine (Sum_calls all g _ (K.ext hE) hH hs).mono ?_; rintro e w3 ⟨rfl, hE3⟩
      have hR3 : ArrB w3 w.heap.size 28 (zerosB 32) := Blk.below hR hE3 hR.lt
      have hvl : ((shaOf all).map byteV).toArray.size = 32 := by simp [shaOf_length]
      unfold sumV
      have hE4 : Ext w w3 := hE.trans hE3
      clear hR hE hE3 hH
      go_wp2_with (refine stop_store 28 (.tmp 2) (.tmp 18) rfl ?_)
      refine ⟨?_⟩
      refine wpList_store_row rfl 28 (.tmp 2) (.tmp 18) rfl w.heap.size _ (by rfl) (by rfl) 28 _ hR3 (size32.trans (by rw [hvl])) (by rw [hvl]; simp [zerosB]) (by simp [byteV, Value.oneCell']) ?_
      simp only [Act.put, List.setIfInBounds_toArray, List.set_cons_zero, List.set_cons_succ]
      go_wp2_with fail
      exact bodyPost_ret (results_cell_row rfl _ _ w.heap.size 28 _ (0, 0) _ rfl (Blk.row hR3 _) Tryz.underlying28 rfl (size32.trans (by rw [hvl]))) rfl ⟨by rw [Hall.out]; rfl, hE4.row (by omega) _⟩

end Go.Proofs.YtcgnjdkennkheaaGreatDoor
