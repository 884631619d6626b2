/-
  The walk of (*sha.Hash).Sum of a new one.
-/
import Derived.Test.YtcgnjdkennkheaaGreatDoorSha6
set_option linter.unusedVariables false
set_option maxRecDepth 100000
set_option linter.unusedSimpArgs false
namespace Go.Proofs.YtcgnjdkennkheaaGreatDoor
open Go.RowKit
attribute [local go_sem] bs_size bs_toList2 bs_append bs_extract_end bs_extract_begin bs_get wrap64_b grow_cell grow_frozen c128
theorem zset {w : World} {g : Nat} {t : TypeId} {n : Nat} (h : ArrB w g t (zerosB n)) (i : Nat) : ArrB (w.setCell ⟨g, i, none⟩ (.int .u8 0)) g t (zerosB n) := by
  have := h.set i 0
  rw [show (zerosB n).set i 0 = zerosB n from by
    apply List.ext_getElem?
    intro j
    by_cases hj : i = j
    · subst hj
      by_cases hi : i < n
      · rw [List.getElem?_set_self (by simpa [zerosB] using hi)]; simp [zerosB, hi]
      · rw [List.getElem?_eq_none (by simp [zerosB]; omega), List.getElem?_eq_none (by simp [zerosB]; omega)]
    · rw [List.getElem?_set_ne hj]] at this
  exact this
theorem zcell {w : World} {g : Nat} {t : TypeId} {n : Nat} (h : ArrB w g t (zerosB n)) (i : Nat) (hi : i < n) : w.cell? ⟨g, i, none⟩ = some (.int .u8 0) := by
  rw [h.cell i (by simpa [zerosB] using hi)]
  unfold zerosB
  rw [List.getElem_replicate]
  rfl
theorem Rep55 (w : World) : Calls Tryz.prog 122 #[.string ⟨#[0]⟩, .int .i64 55] w fun e w' => e = .returned (.string (bs (List.replicate 55 0))) ∧ Ext w w' := Rep_calls 55 (by omega) w
theorem cnil : (ByteArray.mk #[]) = bs [] := rfl
set_option maxRecDepth 100000 in
set_option maxHeartbeats 1000000 in
theorem Sum_new (g : Nat) (w : World) (KW : Keys w) (hg : HashNew w g) :
    Calls Tryz.prog 111 #[.pointer (some ⟨g, 0, none⟩)] w fun e w' => e = .returned (sumV (shaOf [])) ∧ Ext w w' := by
  have hgl : g < w.heap.size := hg.lt
  go_enter Tryz.func111, Tryz.ntmps111
  go_wp2_with fail
  change Calls _ _ _ (w.alloc (.cells ((zerosB 32).map byteV).toArray 28)) _
  refine (Start_calls _).mono ?_; rintro e w1 ⟨rfl, hE1⟩
  have hR : ArrB w1 w.heap.size 28 (zerosB 32) := Blk.below (Blk.new w _ _) hE1 (by simp)
  have hE2 : Ext w w1 := ((Ext.refl w).alloc _).trans hE1
  have hg1 : HashV w1 g false (zeros 8) [] 0 := Blk.below hg hE2 hgl
  have hlr : w.heap.size < w1.heap.size := hR.lt
  clear hE1 hg
  simp only [start, List.map_cons, List.map_nil, wordV]
  have c0 := Blk.cell hg1 0
  simp only [hashV, List.getElem?_toArray, List.getElem?_cons_zero, List.getElem?_cons_succ] at c0
  have hgl1 : g < w1.heap.size := hg1.lt
  go_wp2_with fail
  have hT5 : Arr (w1.alloc (.cells (start.map wordV).toArray 125)) w1.heap.size 125 start := Blk.new _ _ _
  have hR5 : ArrB (w1.alloc (.cells (start.map wordV).toArray 125)) w.heap.size 28 (zerosB 32) := Blk.alloc hR _
  have hE5 : Ext w (w1.alloc (.cells (start.map wordV).toArray 125)) := hE2.alloc _
  change Code.wp _ _ _ _ ((w1.alloc (.cells (start.map wordV).toArray 125)).alloc (.cells ((zerosB 8).map byteV).toArray 170))
  have hgn5 : w1.heap.size + 1 = (w1.alloc (.cells (start.map wordV).toArray 125)).heap.size := (alloc_size _ _).symm
  rw [hgn5]
  clear hgn5 c0 hg1 hgl1 hE2 hR
  generalize w1.alloc (.cells (start.map wordV).toArray 125) = w5 at *
  generalize hg3 : w1.heap.size = g3 at *
  obtain ⟨st, hst⟩ : ∃ st, st = start := ⟨_, rfl⟩
  have hwl : st.length = 8 := by rw [hst]; rfl
  rw [← hst] at hT5
  have Hst := Lib.hid hst; clear hst hg3
  change Code.wp _ _ _ _ (w5.alloc (.cells ((zerosB 8).map byteV).toArray 170))
  have hl8 : (zerosB 8).length = 8 := rfl
  have hN0 : ArrB (w5.alloc (.cells ((zerosB 8).map byteV).toArray 170)) w5.heap.size 170 (zerosB 8) := Blk.new _ _ _
  have hT0 : Arr (w5.alloc (.cells ((zerosB 8).map byteV).toArray 170)) g3 125 st := Blk.alloc hT5 _
  have hR0 : ArrB (w5.alloc (.cells ((zerosB 8).map byteV).toArray 170)) w.heap.size 28 (zerosB 32) := Blk.alloc hR5 _
  have hE0 : Ext w (w5.alloc (.cells ((zerosB 8).map byteV).toArray 170)) := hE5.alloc _
  have hl3 : g3 < w5.heap.size := hT5.lt
  generalize w5.alloc (.cells ((zerosB 8).map byteV).toArray 170) = w6 at *
  generalize hgn : w5.heap.size = gn at *
  clear hT5 hR5 hE5 hgn
  clear w5
  go_loopw [37] (fun v wr => ∃ i : Nat, i ≤ 8 ∧ v = .int .i64 (i : Int) ∧ ArrB wr gn 170 (zerosB 8) ∧ Arr wr g3 125 st ∧ ArrB wr w.heap.size 28 (zerosB 32) ∧ Ext w wr) (fun v _ => 8 - (intOf v).toNat)
  case atStart => exact ⟨0, by omega, rfl, hN0, hT0, hR0, hE0⟩
  case round =>
    clear hN0 hT0 hR0 hE0
    obtain ⟨wo, rfl⟩ : ∃ wo : World, wo = wr := ⟨_, rfl⟩
    obtain ⟨i, hi, rfl, hN, hT, hR, hE⟩ := hrel
    by_cases hlt : i < 8
    · have hit : (i : Int) < 8 := by omega
      have hcell : wo.cell? ⟨gn, i, none⟩ = some (.int .u8 0) := zcell hN i hlt
      have hfr := Blk.frozen hN i
      have hsh : ((8 * (7 - (i : Int))).toNat) = 8 * (7 - i) := by omega
      have Hsh := Lib.hid hsh; clear hsh
      clear hl8
      go_wp2_with fail
      go_roundw
      case rel => exact ⟨i + 1, by omega, by go_num, zset hN i, Blk.far hT (by simp; omega) _, Blk.far hR (by simp; omega) _, hE.setCell (by simp; omega) _⟩
      case measure => simp [intOf]; omega
    · obtain rfl : i = 8 := by omega
      have d0 := hT.cell 0 (by omega); have d1 := hT.cell 1 (by omega); have d2 := hT.cell 2 (by omega); have d3 := hT.cell 3 (by omega); have d4 := hT.cell 4 (by omega); have d5 := hT.cell 5 (by omega); have d6 := hT.cell 6 (by omega); have d7 := hT.cell 7 (by omega)
      have hgl3 : g3 < wo.heap.size := hT.lt
      have hNl := hN.lt
      obtain ⟨l8, hz8⟩ : ∃ l8, l8 = zerosB 8 := ⟨_, rfl⟩
      rw [← hz8] at hN hl8
      have Hz8 := Lib.hid hz8; clear hz8
      have hconv : ∀ x : More wo, (convert 87 9 (.slice (some ⟨gn, 0, none⟩) 8 8)).run Tryz.prog (grow wo x) = .ok (.string (bs l8)) (grow wo x) := fun x =>
        conv_bytes (grow wo x) _ _ l8 8 8 hl8 (Blk.rd (Blk.grow x hN))
      have Hl8 := Lib.hid hl8; clear hl8
      have hl8' : l8.length ≤ 8 := by have := Hl8.out; omega
      go_wp2_with fail
      refine region_bar0 13 (by kernel_rfl) (by kernel_rfl) (fun x => ?_)
      repeat (first | (refine bar_quiet (by decide +kernel) (by rfl) (by rfl) (fun K hK => ?_); go_big_quiet_op; refine hK _ ?_; clear hK K) | (refine bar_still (by rfl) (by rfl) (fun K hK => ?_); go_big_quiet_op; refine hK _ ?_; clear hK K) | (refine bar_skip (by rfl) ?_; simp only [Act.put, List.setIfInBounds_toArray, List.set_cons_zero, List.set_cons_succ]))
      (refine bar_loud (by rfl) (by rfl) (fun K E hK => ?_); go_big_op)
      go_at_call 122
      refine (Rep55 _).mono ?_; rintro e w3 ⟨rfl, hE3⟩
      obtain ⟨x3, rfl⟩ := more_ext x hE3; clear hE3
      refine hK _ _ ⟨_, rfl⟩ ?_; clear hK K E
      repeat (first | (refine bar_quiet (by decide +kernel) (by rfl) (by rfl) (fun K hK => ?_); go_big_quiet_op; refine hK _ ?_; clear hK K) | (refine bar_still (by rfl) (by rfl) (fun K hK => ?_); go_big_quiet_op; refine hK _ ?_; clear hK K) | (refine bar_skip (by rfl) ?_; simp only [Act.put, List.setIfInBounds_toArray, List.set_cons_zero, List.set_cons_succ]))
      have hp : ([] ++ [128] ++ List.replicate 55 0 ++ l8) = padded [] := by rw [Hz8.out]; decide +kernel
      have h8 : whole (eight st) (padded []) = eight (whole start (padded [])) := by
        rw [eight_eq hwl, eight_eq (whole_length _ _ start_length), Hst.out]
      have H8 := Lib.hid h8; clear h8
      have Hp := Lib.hid hp; clear hp
      (refine bar_loud (by rfl) (by rfl) (fun K E hK => ?_); go_big_op)
      go_at_call 121
      change Calls _ _ #[_, .string (bs [] ++ bs [128] ++ bs (List.replicate 55 0) ++ bs l8)] _ _
      rw [bs_append, bs_append, bs_append, Hp.out]
      refine (blocks_calls (eight st) (padded []) rfl (by have : (padded []).length = 64 := by decide +kernel
                                                          omega) _ ((KW.ext hE).ext (grow_ext x3))).mono ?_
      rintro e w3 ⟨he, hE3⟩
      rw [H8.out] at he
      subst he
      obtain ⟨x4, rfl⟩ := more_ext x3 hE3; clear hE3
      refine hK _ _ ⟨_, rfl⟩ ?_; clear hK K E
      have hnl := whole_length start (padded []) start_length
      have Hnl := Lib.hid hnl; clear hnl
      generalize hnst : whole start (padded []) = nst at *
      have Hnst := Lib.hid hnst; clear hnst
      simp only [eight, List.map_cons, List.map_nil, wordV]
      repeat (first | (refine bar_quiet (by decide +kernel) (by rfl) (by rfl) (fun K hK => ?_); go_big_quiet_op; refine hK _ ?_; clear hK K) | (refine bar_still (by rfl) (by rfl) (fun K hK => ?_); go_big_quiet_op; refine hK _ ?_; clear hK K) | (refine bar_skip (by rfl) ?_; simp only [Act.put, List.setIfInBounds_toArray, List.set_cons_zero, List.set_cons_succ]))
      refine (bar_last (by decide) (by rfl) (by rfl) (fun K E hK => ?_))
      refine wp_store_row 125 (.tmp 3) (.tmp 61) rfl g3 _ (by rfl) (by rfl) 125 _ (Blk.grow x4 hT) (by exact size8) (by simp [hwl]) (by simp [Value.oneCell']) ?_
      refine hK _ _ ?_; clear hK K E
      simp only [Act.put, List.setIfInBounds_toArray, List.set_cons_zero, List.set_cons_succ]
      refine bar_nil ?_
      have hT7 : Arr ((grow wo x4).setRow g3 (((eight nst).map wordV).toArray)) g3 125 (eight nst) := Blk.row (Blk.grow x4 hT) _
      have hR7 : ArrB ((grow wo x4).setRow g3 (((eight nst).map wordV).toArray)) w.heap.size 28 (zerosB 32) := Blk.rowFar (Blk.grow x4 hR) (by omega) _
      have hE7 : Ext w ((grow wo x4).setRow g3 (((eight nst).map wordV).toArray)) := (hE.trans (grow_ext x4)).row (by omega) _
      change Exit.then _ _ _ _ ((grow wo x4).setRow g3 (((eight nst).map wordV).toArray))
      generalize (grow wo x4).setRow g3 (((eight nst).map wordV).toArray) = w7 at *
      clear hT hR hE d0 d1 d2 d3 d4 d5 d6 d7 hconv hN hgl3 hNl x x3 x4
      clear wo
      go_wp2_with fail
      change Code.wp _ _ _ _ (w7.alloc (.cells ((zerosB 32).map byteV).toArray 28))
      have hol := outB_length (eight nst)
      have hO0 : ArrB (w7.alloc (.cells ((zerosB 32).map byteV).toArray 28)) w7.heap.size 28 (fillB (outB (eight nst)) 0) := by
        rw [fillB_zero, hol]
        exact Blk.new _ _ _
      have hT8 : Arr (w7.alloc (.cells ((zerosB 32).map byteV).toArray 28)) g3 125 (eight nst) := Blk.alloc hT7 _
      have hR8 : ArrB (w7.alloc (.cells ((zerosB 32).map byteV).toArray 28)) w.heap.size 28 (zerosB 32) := Blk.alloc hR7 _
      have hE8 : Ext w (w7.alloc (.cells ((zerosB 32).map byteV).toArray 28)) := hE7.alloc _
      have hlo3 : g3 < w7.heap.size := hT7.lt
      generalize w7.alloc (.cells ((zerosB 32).map byteV).toArray 28) = w8 at *
      generalize hgo : w7.heap.size = go at *
      clear hT7 hR7 hE7 hgo
      clear w7
      have hen : (eight nst).length = 8 := rfl
      have Hen := Lib.hid hen; clear hen
      generalize hes : eight nst = est at *
      have Hes := Lib.hid hes; clear hes
      go_loopw [63] (fun v wr => ∃ i : Nat, i ≤ 32 ∧ v = .int .i64 (i : Int) ∧ ArrB wr go 28 (fillB (outB est) i) ∧ Arr wr g3 125 est ∧ ArrB wr w.heap.size 28 (zerosB 32) ∧ Ext w wr) (fun v _ => 32 - (intOf v).toNat)
      case atStart => exact ⟨0, by omega, rfl, hO0, hT8, hR8, hE8⟩
      case round =>
        clear hO0 hT8 hR8 hE8
        obtain ⟨wo, rfl⟩ : ∃ wo : World, wo = wr := ⟨_, rfl⟩
        obtain ⟨i, hi, rfl, hO, hT, hR, hE⟩ := hrel
        by_cases hlt : i < 32
        · have hit : (i : Int) < 32 := by omega
          have hfl := fillB_length (outB est) i (by omega)
          have hcell : wo.cell? ⟨go, i, none⟩ = some (byteV ((fillB (outB est) i).getD i 0)) := by rw [hO.cell i (by omega), List.getD_eq_getElem?_getD, List.getElem?_eq_getElem (by omega)]; rfl
          have hcs := hT.cell (i / 4) (by have := Hen.out; omega)
          have hfr := Blk.frozen hO i
          have h8i : (i : Int) / 4 < 8 := by omega
          have h8n : i / 4 < 8 := by omega
          have Hol := Lib.hid hol; have Hfl := Lib.hid hfl; clear hol hfl
          go_wp2_with fail
          have hv : Value.int .u8 (wat est (i / 4) / 2 ^ (24 - 8 * (i % 4)) % 256) = byteV ((outB est)[i]'(by rw [Hol.out]; exact hlt)) := by
            rw [outB_get _ i hlt]
            exact byteV_mod _
          go_roundw
          case rel =>
            rw [hv]
            exact ⟨i + 1, by omega, by go_num, by rw [fillB_succ _ _ (by rw [Hol.out]; exact hlt)]; exact ArrB.set hO i _, Blk.far hT (by simp; omega) _, Blk.far hR (by simp; omega) _, hE.setCell (by simp; omega) _⟩
          case measure => simp [intOf]; omega
        · obtain rfl : i = 32 := by omega
          rw [show fillB (outB est) 32 = outB est from by rw [← hol]; exact fillB_all _] at hO
          have hvl : ((outB est).map byteV).toArray.size = 32 := by simp [hol]
          go_wp2_with (refine stop_load 28 (.tmp 9) rfl ?_)
          refine ⟨?_⟩
          refine wpList_load_row rfl 28 (.tmp 9) rfl go (by rfl) 28 _ (0, 0) _ hO Tryz.underlying28 rfl (size32.trans (by rw [hvl])) ?_
          refine wpList_store_row rfl 28 (.tmp 2) (.tmp 79) rfl w.heap.size _ (by rfl) (by rfl) 28 _ hR (size32.trans (by rw [hvl])) (by rw [hvl]; simp [zerosB]) (by simp [byteV, Value.oneCell']) ?_
          simp only [Act.put, List.setIfInBounds_toArray, List.set_cons_zero, List.set_cons_succ]
          go_wp2_with fail
          refine bodyPost_ret (results_cell_row rfl _ _ w.heap.size 28 _ (0, 0) _ rfl (Blk.row hR _) Tryz.underlying28 rfl (size32.trans (by rw [hvl]))) rfl ⟨?_, hE.row (by omega) _⟩
          unfold shaOf sumV
          rw [Hnst.out, ← eight_eq Hnl.out, Hes.out]

set_option maxRecDepth 100000 in
set_option maxHeartbeats 1000000 in
theorem Sum_nil (w : World) (KW : Keys w) :
    Calls Tryz.prog 111 #[.pointer none] w fun e w' => e = .returned (sumV (shaOf [])) ∧ Ext w w' := by
  go_enter Tryz.func111, Tryz.ntmps111
  go_wp2_with fail
  change Calls _ _ _ (w.alloc (.cells ((zerosB 32).map byteV).toArray 28)) _
  refine (Start_calls _).mono ?_; rintro e w1 ⟨rfl, hE1⟩
  have hR : ArrB w1 w.heap.size 28 (zerosB 32) := Blk.below (Blk.new w _ _) hE1 (by simp)
  have hE2 : Ext w w1 := ((Ext.refl w).alloc _).trans hE1
  have hlr : w.heap.size < w1.heap.size := hR.lt
  clear hE1
  simp only [start, List.map_cons, List.map_nil, wordV]
  go_wp2_with fail
  have hT5 : Arr (w1.alloc (.cells (start.map wordV).toArray 125)) w1.heap.size 125 start := Blk.new _ _ _
  have hR5 : ArrB (w1.alloc (.cells (start.map wordV).toArray 125)) w.heap.size 28 (zerosB 32) := Blk.alloc hR _
  have hE5 : Ext w (w1.alloc (.cells (start.map wordV).toArray 125)) := hE2.alloc _
  change Code.wp _ _ _ _ ((w1.alloc (.cells (start.map wordV).toArray 125)).alloc (.cells ((zerosB 8).map byteV).toArray 170))
  have hgn5 : w1.heap.size + 1 = (w1.alloc (.cells (start.map wordV).toArray 125)).heap.size := (alloc_size _ _).symm
  rw [hgn5]
  clear hgn5 hE2 hR
  generalize w1.alloc (.cells (start.map wordV).toArray 125) = w5 at *
  generalize hg3 : w1.heap.size = g3 at *
  obtain ⟨st, hst⟩ : ∃ st, st = start := ⟨_, rfl⟩
  have hwl : st.length = 8 := by rw [hst]; rfl
  rw [← hst] at hT5
  have Hst := Lib.hid hst; clear hst hg3
  change Code.wp _ _ _ _ (w5.alloc (.cells ((zerosB 8).map byteV).toArray 170))
  have hl8 : (zerosB 8).length = 8 := rfl
  have hN0 : ArrB (w5.alloc (.cells ((zerosB 8).map byteV).toArray 170)) w5.heap.size 170 (zerosB 8) := Blk.new _ _ _
  have hT0 : Arr (w5.alloc (.cells ((zerosB 8).map byteV).toArray 170)) g3 125 st := Blk.alloc hT5 _
  have hR0 : ArrB (w5.alloc (.cells ((zerosB 8).map byteV).toArray 170)) w.heap.size 28 (zerosB 32) := Blk.alloc hR5 _
  have hE0 : Ext w (w5.alloc (.cells ((zerosB 8).map byteV).toArray 170)) := hE5.alloc _
  have hl3 : g3 < w5.heap.size := hT5.lt
  generalize w5.alloc (.cells ((zerosB 8).map byteV).toArray 170) = w6 at *
  generalize hgn : w5.heap.size = gn at *
  clear hT5 hR5 hE5 hgn
  clear w5
  go_loopw [37] (fun v wr => ∃ i : Nat, i ≤ 8 ∧ v = .int .i64 (i : Int) ∧ ArrB wr gn 170 (zerosB 8) ∧ Arr wr g3 125 st ∧ ArrB wr w.heap.size 28 (zerosB 32) ∧ Ext w wr) (fun v _ => 8 - (intOf v).toNat)
  case atStart => exact ⟨0, by omega, rfl, hN0, hT0, hR0, hE0⟩
  case round =>
    clear hN0 hT0 hR0 hE0
    obtain ⟨wo, rfl⟩ : ∃ wo : World, wo = wr := ⟨_, rfl⟩
    obtain ⟨i, hi, rfl, hN, hT, hR, hE⟩ := hrel
    by_cases hlt : i < 8
    · have hit : (i : Int) < 8 := by omega
      have hcell : wo.cell? ⟨gn, i, none⟩ = some (.int .u8 0) := zcell hN i hlt
      have hfr := Blk.frozen hN i
      have hsh : ((8 * (7 - (i : Int))).toNat) = 8 * (7 - i) := by omega
      have Hsh := Lib.hid hsh; clear hsh
      clear hl8
      go_wp2_with fail
      go_roundw
      case rel => exact ⟨i + 1, by omega, by go_num, zset hN i, Blk.far hT (by simp; omega) _, Blk.far hR (by simp; omega) _, hE.setCell (by simp; omega) _⟩
      case measure => simp [intOf]; omega
    · obtain rfl : i = 8 := by omega
      have d0 := hT.cell 0 (by omega); have d1 := hT.cell 1 (by omega); have d2 := hT.cell 2 (by omega); have d3 := hT.cell 3 (by omega); have d4 := hT.cell 4 (by omega); have d5 := hT.cell 5 (by omega); have d6 := hT.cell 6 (by omega); have d7 := hT.cell 7 (by omega)
      have hgl3 : g3 < wo.heap.size := hT.lt
      have hNl := hN.lt
      obtain ⟨l8, hz8⟩ : ∃ l8, l8 = zerosB 8 := ⟨_, rfl⟩
      rw [← hz8] at hN hl8
      have Hz8 := Lib.hid hz8; clear hz8
      have hconv : ∀ x : More wo, (convert 87 9 (.slice (some ⟨gn, 0, none⟩) 8 8)).run Tryz.prog (grow wo x) = .ok (.string (bs l8)) (grow wo x) := fun x =>
        conv_bytes (grow wo x) _ _ l8 8 8 hl8 (Blk.rd (Blk.grow x hN))
      have Hl8 := Lib.hid hl8; clear hl8
      have hl8' : l8.length ≤ 8 := by have := Hl8.out; omega
      go_wp2_with fail
      refine region_bar0 13 (by kernel_rfl) (by kernel_rfl) (fun x => ?_)
      repeat (first | (refine bar_quiet (by decide +kernel) (by rfl) (by rfl) (fun K hK => ?_); go_big_quiet_op; refine hK _ ?_; clear hK K) | (refine bar_still (by rfl) (by rfl) (fun K hK => ?_); go_big_quiet_op; refine hK _ ?_; clear hK K) | (refine bar_skip (by rfl) ?_; simp only [Act.put, List.setIfInBounds_toArray, List.set_cons_zero, List.set_cons_succ]))
      (refine bar_loud (by rfl) (by rfl) (fun K E hK => ?_); go_big_op)
      go_at_call 122
      refine (Rep55 _).mono ?_; rintro e w3 ⟨rfl, hE3⟩
      obtain ⟨x3, rfl⟩ := more_ext x hE3; clear hE3
      refine hK _ _ ⟨_, rfl⟩ ?_; clear hK K E
      repeat (first | (refine bar_quiet (by decide +kernel) (by rfl) (by rfl) (fun K hK => ?_); go_big_quiet_op; refine hK _ ?_; clear hK K) | (refine bar_still (by rfl) (by rfl) (fun K hK => ?_); go_big_quiet_op; refine hK _ ?_; clear hK K) | (refine bar_skip (by rfl) ?_; simp only [Act.put, List.setIfInBounds_toArray, List.set_cons_zero, List.set_cons_succ]))
      have hp : ([] ++ [128] ++ List.replicate 55 0 ++ l8) = padded [] := by rw [Hz8.out]; decide +kernel
      have h8 : whole (eight st) (padded []) = eight (whole start (padded [])) := by
        rw [eight_eq hwl, eight_eq (whole_length _ _ start_length), Hst.out]
      have H8 := Lib.hid h8; clear h8
      have Hp := Lib.hid hp; clear hp
      (refine bar_loud (by rfl) (by rfl) (fun K E hK => ?_); go_big_op)
      go_at_call 121
      change Calls _ _ #[_, .string (bs [] ++ bs [128] ++ bs (List.replicate 55 0) ++ bs l8)] _ _
      rw [bs_append, bs_append, bs_append, Hp.out]
      refine (blocks_calls (eight st) (padded []) rfl (by have : (padded []).length = 64 := by decide +kernel
                                                          omega) _ ((KW.ext hE).ext (grow_ext x3))).mono ?_
      rintro e w3 ⟨he, hE3⟩
      rw [H8.out] at he
      subst he
      obtain ⟨x4, rfl⟩ := more_ext x3 hE3; clear hE3
      refine hK _ _ ⟨_, rfl⟩ ?_; clear hK K E
      have hnl := whole_length start (padded []) start_length
      have Hnl := Lib.hid hnl; clear hnl
      generalize hnst : whole start (padded []) = nst at *
      have Hnst := Lib.hid hnst; clear hnst
      simp only [eight, List.map_cons, List.map_nil, wordV]
      repeat (first | (refine bar_quiet (by decide +kernel) (by rfl) (by rfl) (fun K hK => ?_); go_big_quiet_op; refine hK _ ?_; clear hK K) | (refine bar_still (by rfl) (by rfl) (fun K hK => ?_); go_big_quiet_op; refine hK _ ?_; clear hK K) | (refine bar_skip (by rfl) ?_; simp only [Act.put, List.setIfInBounds_toArray, List.set_cons_zero, List.set_cons_succ]))
      refine (bar_last (by decide) (by rfl) (by rfl) (fun K E hK => ?_))
      refine wp_store_row 125 (.tmp 3) (.tmp 61) rfl g3 _ (by rfl) (by rfl) 125 _ (Blk.grow x4 hT) (by exact size8) (by simp [hwl]) (by simp [Value.oneCell']) ?_
      refine hK _ _ ?_; clear hK K E
      simp only [Act.put, List.setIfInBounds_toArray, List.set_cons_zero, List.set_cons_succ]
      refine bar_nil ?_
      have hT7 : Arr ((grow wo x4).setRow g3 (((eight nst).map wordV).toArray)) g3 125 (eight nst) := Blk.row (Blk.grow x4 hT) _
      have hR7 : ArrB ((grow wo x4).setRow g3 (((eight nst).map wordV).toArray)) w.heap.size 28 (zerosB 32) := Blk.rowFar (Blk.grow x4 hR) (by omega) _
      have hE7 : Ext w ((grow wo x4).setRow g3 (((eight nst).map wordV).toArray)) := (hE.trans (grow_ext x4)).row (by omega) _
      change Exit.then _ _ _ _ ((grow wo x4).setRow g3 (((eight nst).map wordV).toArray))
      generalize (grow wo x4).setRow g3 (((eight nst).map wordV).toArray) = w7 at *
      clear hT hR hE d0 d1 d2 d3 d4 d5 d6 d7 hconv hN hgl3 hNl x x3 x4
      clear wo
      go_wp2_with fail
      change Code.wp _ _ _ _ (w7.alloc (.cells ((zerosB 32).map byteV).toArray 28))
      have hol := outB_length (eight nst)
      have hO0 : ArrB (w7.alloc (.cells ((zerosB 32).map byteV).toArray 28)) w7.heap.size 28 (fillB (outB (eight nst)) 0) := by
        rw [fillB_zero, hol]
        exact Blk.new _ _ _
      have hT8 : Arr (w7.alloc (.cells ((zerosB 32).map byteV).toArray 28)) g3 125 (eight nst) := Blk.alloc hT7 _
      have hR8 : ArrB (w7.alloc (.cells ((zerosB 32).map byteV).toArray 28)) w.heap.size 28 (zerosB 32) := Blk.alloc hR7 _
      have hE8 : Ext w (w7.alloc (.cells ((zerosB 32).map byteV).toArray 28)) := hE7.alloc _
      have hlo3 : g3 < w7.heap.size := hT7.lt
      generalize w7.alloc (.cells ((zerosB 32).map byteV).toArray 28) = w8 at *
      generalize hgo : w7.heap.size = go at *
      clear hT7 hR7 hE7 hgo
      clear w7
      have hen : (eight nst).length = 8 := rfl
      have Hen := Lib.hid hen; clear hen
      generalize hes : eight nst = est at *
      have Hes := Lib.hid hes; clear hes
      go_loopw [63] (fun v wr => ∃ i : Nat, i ≤ 32 ∧ v = .int .i64 (i : Int) ∧ ArrB wr go 28 (fillB (outB est) i) ∧ Arr wr g3 125 est ∧ ArrB wr w.heap.size 28 (zerosB 32) ∧ Ext w wr) (fun v _ => 32 - (intOf v).toNat)
      case atStart => exact ⟨0, by omega, rfl, hO0, hT8, hR8, hE8⟩
      case round =>
        clear hO0 hT8 hR8 hE8
        obtain ⟨wo, rfl⟩ : ∃ wo : World, wo = wr := ⟨_, rfl⟩
        obtain ⟨i, hi, rfl, hO, hT, hR, hE⟩ := hrel
        by_cases hlt : i < 32
        · have hit : (i : Int) < 32 := by omega
          have hfl := fillB_length (outB est) i (by omega)
          have hcell : wo.cell? ⟨go, i, none⟩ = some (byteV ((fillB (outB est) i).getD i 0)) := by rw [hO.cell i (by omega), List.getD_eq_getElem?_getD, List.getElem?_eq_getElem (by omega)]; rfl
          have hcs := hT.cell (i / 4) (by have := Hen.out; omega)
          have hfr := Blk.frozen hO i
          have h8i : (i : Int) / 4 < 8 := by omega
          have h8n : i / 4 < 8 := by omega
          have Hol := Lib.hid hol; have Hfl := Lib.hid hfl; clear hol hfl
          go_wp2_with fail
          have hv : Value.int .u8 (wat est (i / 4) / 2 ^ (24 - 8 * (i % 4)) % 256) = byteV ((outB est)[i]'(by rw [Hol.out]; exact hlt)) := by
            rw [outB_get _ i hlt]
            exact byteV_mod _
          go_roundw
          case rel =>
            rw [hv]
            exact ⟨i + 1, by omega, by go_num, by rw [fillB_succ _ _ (by rw [Hol.out]; exact hlt)]; exact ArrB.set hO i _, Blk.far hT (by simp; omega) _, Blk.far hR (by simp; omega) _, hE.setCell (by simp; omega) _⟩
          case measure => simp [intOf]; omega
        · obtain rfl : i = 32 := by omega
          rw [show fillB (outB est) 32 = outB est from by rw [← hol]; exact fillB_all _] at hO
          have hvl : ((outB est).map byteV).toArray.size = 32 := by simp [hol]
          go_wp2_with (refine stop_load 28 (.tmp 9) rfl ?_)
          refine ⟨?_⟩
          refine wpList_load_row rfl 28 (.tmp 9) rfl go (by rfl) 28 _ (0, 0) _ hO Tryz.underlying28 rfl (size32.trans (by rw [hvl])) ?_
          refine wpList_store_row rfl 28 (.tmp 2) (.tmp 79) rfl w.heap.size _ (by rfl) (by rfl) 28 _ hR (size32.trans (by rw [hvl])) (by rw [hvl]; simp [zerosB]) (by simp [byteV, Value.oneCell']) ?_
          simp only [Act.put, List.setIfInBounds_toArray, List.set_cons_zero, List.set_cons_succ]
          go_wp2_with fail
          refine bodyPost_ret (results_cell_row rfl _ _ w.heap.size 28 _ (0, 0) _ rfl (Blk.row hR _) Tryz.underlying28 rfl (size32.trans (by rw [hvl]))) rfl ⟨?_, hE.row (by omega) _⟩
          unfold shaOf sumV
          rw [Hnst.out, ← eight_eq Hnl.out, Hes.out]

end Go.Proofs.YtcgnjdkennkheaaGreatDoor
