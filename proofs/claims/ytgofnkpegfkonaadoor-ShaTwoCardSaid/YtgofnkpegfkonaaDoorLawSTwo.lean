/-
  scriniumlaw02.ShaTwo: a text of 64 to 119 bytes is two blocks. No condition.
-/
import Derived.Test.YtgofnkpegfkonaaDoorAwk
import Derived.Test.YtgofnkpegfkonaaDoorOpS
import Derived.Test.YtgofnkpegfkonaaDoorEqA
import Derived.Test.YtgofnkpegfkonaaDoorShaO
import Derived.Test.YtgofnkpegfkonaaDoorMix5
import Derived.Deep.DeepCutAuto
set_option linter.unusedVariables false
set_option linter.unusedSimpArgs false
namespace Go.Proofs.YtgofnkpegfkonaaDoor.shaTwo
open Go.ChangeShapes Go.WideShapes Go.ChangeAt Go.RowKit
attribute [local go_sem] bs_size bs_toList2 bs_append bs_extract_end bs_extract_begin bs_get wrap64_b grow_cell grow_frozen

theorem laidB_tail (a d : List UInt8) (i : Nat) (ha : a.length = 64) (h : i < d.length) (h' : 64 + i < (laidB (a ++ d)).length) : (laidB (a ++ d))[64 + i] = d[i] := by
  rw [laidB_get (a ++ d) (64 + i) (by simp; omega)]
  rw [List.getElem_append_right (by omega)]
  congr 1
  omega
theorem laidB_head (a d : List UInt8) (i : Nat) (h : i < a.length) (h' : i < (laidB (a ++ d)).length) : (laidB (a ++ d))[i] = a[i] := by
  rw [laidB_get (a ++ d) i (by simp; omega)]
  rw [List.getElem_append_left h]

set_option maxRecDepth 100000 in
set_option maxHeartbeats 1000000 in
theorem walk (a s : List UInt8) (ha : a.length = 64) (hs : s.length ≤ 9223372036854775807) (w : World) (K : Keys w) :
    Calls Tryd.prog 5 #[.agg (a.map byteV).toArray, .string (bs s)] w fun e w' => e = .returned (.bool true) ∧ Ext w w' := by
  go_enter Tryd.func5, Tryd.ntmps5
  go_wp2_with fail
  have hA0 : ArrB (w.alloc (.cells (a.map byteV).toArray 30)) w.heap.size 30 a := Blk.new _ _ _
  have hE0 := (Ext.refl w).alloc (.cells (a.map byteV).toArray 30)
  generalize w.alloc (.cells (a.map byteV).toArray 30) = w0 at *
  refine (awake_calls _ (K.ext hE0)).mono ?_; rintro e w1 ⟨rfl, e1⟩
  have hA1 := Blk.below hA0 e1 hA0.lt
  replace e1 := hE0.trans e1
  clear hA0 hE0
  go_wp2_with fail
  refine (short_calls s 55 _ hs (by omega)).mono ?_; rintro e w2 ⟨rfl, rfl⟩
  have hd : (s.take 55).length ≤ 55 := by simp; omega
  generalize s.take 55 = d at *
  clear hs
  have had : (a ++ d).length = 64 + d.length := by simp [ha]
  have hdl := laidB_length (a ++ d)
  rw [had, show (64 + d.length) % 64 = d.length by omega, show 64 + d.length + (64 - d.length) = 128 by omega] at hdl
  go_wp2_with fail
  change Code.wp _ _ _ _ (w1.alloc (.cells ((zerosB 128).map byteV).toArray 36))
  have hB : ArrB (w1.alloc (.cells ((zerosB 128).map byteV).toArray 36)) w1.heap.size 36 (fillB (laidB (a ++ d)) 0) := by
    rw [fillB_zero, hdl]
    exact Blk.new _ _ _
  have hA : ArrB (w1.alloc (.cells ((zerosB 128).map byteV).toArray 36)) w.heap.size 30 a := Blk.alloc hA1 _
  have hE := e1.alloc (.cells ((zerosB 128).map byteV).toArray 36)
  have hlo : w.heap.size < w1.heap.size := hA1.lt
  generalize w1.alloc (.cells ((zerosB 128).map byteV).toArray 36) = w2 at *
  generalize w1.heap.size = gb at *
  clear e1 hA1 w1
  have Hdl := Lib.hid hdl; clear hdl
  have Had := Lib.hid had; clear had
  have Ha := Lib.hid ha; clear ha
  go_loopw [7] (fun v wr => ∃ i : Nat, i ≤ 64 ∧ v = .int .i64 (i : Int) ∧ ArrB wr gb 36 (fillB (laidB (a ++ d)) i) ∧ ArrB wr w.heap.size 30 a ∧ Ext w wr) (fun v _ => 64 - (intOf v).toNat)
  case atStart => exact ⟨0, by omega, rfl, hB, hA, hE⟩
  case round =>
    clear hB hA hE
    obtain ⟨i, hi, rfl, hB, hA, hE⟩ := hrel
    by_cases hlt : i < 64
    · have hit : (i : Int) < 64 := by omega
      have hfl := fillB_length (laidB (a ++ d)) i (by rw [Hdl.out]; omega)
      have hcell : wr.cell? ⟨gb, i, none⟩ = some (byteV ((fillB (laidB (a ++ d)) i).getD i 0)) := by rw [hB.cell i (by have := Hdl.out; omega), List.getD_eq_getElem?_getD, List.getElem?_eq_getElem (by have := Hdl.out; omega)]; rfl
      have hca := hA.cell i (by rw [Ha.out]; exact hlt)
      unfold byteV at hca
      have hfr := Blk.frozen hB i
      have h128 : (i : Int) < 128 := by omega
      have h128n : i < 128 := by omega
      have hgl := hB.lt
      have hgl2 := hA.lt
      have Hfl := Lib.hid hfl; clear hfl
      go_wp2_with fail
      go_roundw
      case rel => exact ⟨i + 1, by omega, by go_num, by rw [fillB_succ _ _ (by rw [Hdl.out]; exact h128n), laidB_head a d i (by rw [Ha.out]; exact hlt)]; exact ArrB.set hB i _, Blk.far hA (by simp; omega) _, hE.setCell (by simp; omega) _⟩
      case measure => simp [intOf]; omega
    · obtain rfl : i = 64 := by omega
      rw [show ((64 : Nat) : Int) = 64 from rfl]
      go_wp2_with fail
      go_loopw [8] (fun v wr => ∃ i : Nat, i ≤ d.length ∧ v = .int .i64 (i : Int) ∧ ArrB wr gb 36 (fillB (laidB (a ++ d)) (64 + i)) ∧ ArrB wr w.heap.size 30 a ∧ Ext w wr) (fun v _ => d.length - (intOf v).toNat)
      case atStart => exact ⟨0, by omega, rfl, hB, hA, hE⟩
      case round =>
        clear hB hA hE
        obtain ⟨i, hi, rfl, hB, hA, hE⟩ := hrel
        by_cases hlt : i < d.length
        · have hit : (i : Int) < (d.length : Int) := by omega
          have hfl := fillB_length (laidB (a ++ d)) (64 + i) (by rw [Hdl.out]; omega)
          have hcell : wr.cell? ⟨gb, 64 + i, none⟩ = some (byteV ((fillB (laidB (a ++ d)) (64 + i)).getD (64 + i) 0)) := by rw [hB.cell (64 + i) (by have := Hdl.out; omega), List.getD_eq_getElem?_getD, List.getElem?_eq_getElem (by have := Hdl.out; omega)]; rfl
          have hfr := Blk.frozen hB (64 + i)
          have h128 : 64 + (i : Int) < 128 := by omega
          have h128n : 64 + i < 128 := by omega
          have hgl := hB.lt
          have Hfl := Lib.hid hfl; clear hfl
          go_wp2_with fail
          go_roundw
          case rel => exact ⟨i + 1, by omega, by go_num, by rw [← Nat.add_assoc, fillB_succ _ _ (by rw [Hdl.out]; exact h128n), laidB_tail a d i Ha.out hlt]; exact ArrB.set hB (64 + i) _, Blk.far hA (by simp; omega) _, hE.setCell (by simp; omega) _⟩
          case measure => simp [intOf]; omega
        · obtain rfl : i = d.length := by omega
          have hfl := fill_laid (a ++ d)
          rw [Had.out] at hfl
          rw [hfl] at hB
          have hL := Hdl.out
          have hcn : wr.cell? ⟨gb, 64 + d.length, none⟩ = some (byteV ((laidB (a ++ d)).getD (64 + d.length) 0)) := by rw [hB.cell _ (by omega), List.getD_eq_getElem?_getD, List.getElem?_eq_getElem (by omega)]; rfl
          have hc62 : wr.cell? ⟨gb, 126, none⟩ = some (byteV ((laidB (a ++ d)).getD 126 0)) := by rw [hB.cell _ (by omega), List.getD_eq_getElem?_getD, List.getElem?_eq_getElem (by omega)]; rfl
          have hc63 : wr.cell? ⟨gb, 127, none⟩ = some (byteV ((laidB (a ++ d)).getD 127 0)) := by rw [hB.cell _ (by omega), List.getD_eq_getElem?_getD, List.getElem?_eq_getElem (by omega)]; rfl
          have hfn := Blk.frozen hB (64 + d.length)
          have hf62 := Blk.frozen hB 126
          have hf63 := Blk.frozen hB 127
          have hn62 : ¬ (64 + d.length = 126) := by omega
          have hn63 : ¬ (64 + d.length = 127) := by omega
          have hgl := hB.lt
          clear hL hfl
          go_wp2_with fail
          have q0 : Value.int .u8 128 = byteV 128 := rfl
          have q1 : Value.int .u8 (8 * (64 + (d.length : Int)) / 256) = byteV (lenHi (64 + d.length)) := by
            unfold lenHi
            rw [← byteV_mod]
            congr 1
            omega
          have q2 : Value.int .u8 (8 * (64 + (d.length : Int)) % 256) = byteV (lenLo (64 + d.length)) := by
            unfold lenLo
            rw [← byteV_mod]
            congr 1
          have hB1 : ArrB (((wr.setCell ⟨gb, 64 + d.length, none⟩ (.int .u8 128)).setCell ⟨gb, 126, none⟩ (.int .u8 (8 * (64 + (d.length : Int)) / 256))).setCell ⟨gb, 127, none⟩ (.int .u8 (8 * (64 + (d.length : Int)) % 256))) gb 36 (padded (a ++ d)) := by
            have hl2 := laid_two (a ++ d) (by rw [Had.out]; omega) (by rw [Had.out]; omega)
            rw [Had.out] at hl2
            rw [q0, q1, q2, ← hl2]
            exact ((hB.set (64 + d.length) 128).set 126 (lenHi (64 + d.length))).set 127 (lenLo (64 + d.length))
          have hA1 : ArrB (((wr.setCell ⟨gb, 64 + d.length, none⟩ (.int .u8 128)).setCell ⟨gb, 126, none⟩ (.int .u8 (8 * (64 + (d.length : Int)) / 256))).setCell ⟨gb, 127, none⟩ (.int .u8 (8 * (64 + (d.length : Int)) % 256))) w.heap.size 30 a := Blk.far (Blk.far (Blk.far hA (by simp; omega) _) (by simp; omega) _) (by simp; omega) _
          have hE1 : Ext w (((wr.setCell ⟨gb, 64 + d.length, none⟩ (.int .u8 128)).setCell ⟨gb, 126, none⟩ (.int .u8 (8 * (64 + (d.length : Int)) / 256))).setCell ⟨gb, 127, none⟩ (.int .u8 (8 * (64 + (d.length : Int)) % 256))) := ((hE.setCell (by simp; omega) _).setCell (by simp; omega) _).setCell (by simp; omega) _
          clear q0 q1 q2 hcn hc62 hc63 hfn hf62 hf63 hn62 hn63 hB hE hA hgl hi hlt
          generalize (((wr.setCell ⟨gb, 64 + d.length, none⟩ (.int .u8 128)).setCell ⟨gb, 126, none⟩ (.int .u8 (8 * (64 + (d.length : Int)) / 256))).setCell ⟨gb, 127, none⟩ (.int .u8 (8 * (64 + (d.length : Int)) % 256))) = w3 at *
          clear wr
          refine (Start_calls _).mono ?_; rintro e w4 ⟨rfl, hd'⟩
          have hB2 := Blk.below hB1 hd' hB1.lt
          have hA2 := Blk.below hA1 hd' hA1.lt
          have hE2 := hE1.trans hd'
          clear hB1 hA1 hE1 hd' w3
          have hlo4 : gb < w4.heap.size := hB2.lt
          simp only [start, List.map_cons, List.map_nil, wordV]
          go_wp2_with fail
          change Code.wp _ _ _ _ (w4.alloc (.cells (start.map wordV).toArray 23))
          have hV : Arr (w4.alloc (.cells (start.map wordV).toArray 23)) w4.heap.size 23 (absorb start (padded (a ++ d)) 0) := Blk.new _ _ _
          have hB : ArrB (w4.alloc (.cells (start.map wordV).toArray 23)) gb 36 (padded (a ++ d)) := Blk.alloc hB2 _
          have hA : ArrB (w4.alloc (.cells (start.map wordV).toArray 23)) w.heap.size 30 a := Blk.alloc hA2 _
          have hE : Ext w (w4.alloc (.cells (start.map wordV).toArray 23)) := hE2.alloc _
          generalize w4.alloc (.cells (start.map wordV).toArray 23) = w5 at *
          generalize w4.heap.size = gv at *
          clear hB2 hA2 hE2 w4
          have hpl : (padded (a ++ d)).length = 128 := padded_two (a ++ d) (by rw [Had.out]; omega) (by rw [Had.out]; omega)
          have hso := sha_two (a ++ d) (by rw [Had.out]; omega) (by rw [Had.out]; omega)
          generalize padded (a ++ d) = P at *
          have Hso := Lib.hid hso; clear hso
          have Hpl := Lib.hid hpl; clear hpl
          go_loopw [11] (fun v wr => ∃ k : Nat, k ≤ 2 ∧ v = .int .i64 (k : Int) ∧ Arr wr gv 23 (absorb start P k) ∧ ArrB wr gb 36 P ∧ ArrB wr w.heap.size 30 a ∧ Ext w wr) (fun v _ => 2 - (intOf v).toNat)
          case atStart => exact ⟨0, by omega, rfl, hV, hB, hA, hE⟩
          case round =>
            clear hV hB hA hE
            obtain ⟨wo, rfl⟩ : ∃ wo : World, wo = wr := ⟨_, rfl⟩
            obtain ⟨k, hk, rfl, hV, hB, hA, hE⟩ := hrel
            by_cases hlt : k < 2
            · have hit : (k : Int) < 2 := by omega
              have hal := absorb_length start P start_length k
              have hsum : absorb start P (k + 1) = step (absorb start P k) (blockOf (P.drop (64 * k))) := rfl
              have Hsum := Lib.hid hsum; clear hsum
              generalize absorb start P k = sk at *
              have Hal := Lib.hid hal; clear hal
              go_wp2_with fail
              change Code.wp _ _ _ _ (wo.alloc (.cells ((zeros 16).map wordV).toArray 24))
              have hW1 : Arr (wo.alloc (.cells ((zeros 16).map wordV).toArray 24)) wo.heap.size 24 (packs (P.drop (64 * k)) 0) := by
                rw [packs_zero]
                exact Blk.new _ _ _
              have hV1 : Arr (wo.alloc (.cells ((zeros 16).map wordV).toArray 24)) gv 23 sk := Blk.alloc hV _
              have hB1 : ArrB (wo.alloc (.cells ((zeros 16).map wordV).toArray 24)) gb 36 P := Blk.alloc hB _
              have hA1 : ArrB (wo.alloc (.cells ((zeros 16).map wordV).toArray 24)) w.heap.size 30 a := Blk.alloc hA _
              have hE1 : Ext w (wo.alloc (.cells ((zeros 16).map wordV).toArray 24)) := hE.alloc _
              have hlv := hV.lt
              generalize wo.alloc (.cells ((zeros 16).map wordV).toArray 24) = w6 at *
              generalize wo.heap.size = gw at *
              clear hV hB hA hE wo
              go_loopw [13] (fun v wr => ∃ i : Nat, i ≤ 64 ∧ v = .int .i64 (i : Int) ∧ Arr wr gw 24 (packs (P.drop (64 * k)) i) ∧ Arr wr gv 23 sk ∧ ArrB wr gb 36 P ∧ ArrB wr w.heap.size 30 a ∧ Ext w wr) (fun v _ => 64 - (intOf v).toNat)
              case atStart => exact ⟨0, by omega, rfl, hW1, hV1, hB1, hA1, hE1⟩
              case round =>
                clear hW1 hV1 hB1 hA1 hE1
                obtain ⟨i, hi, rfl, hW, hV, hB, hA, hE⟩ := hrel
                have hpl := packs_length (P.drop (64 * k)) i
                by_cases hlt' : i < 64
                · have hit' : (i : Int) < 64 := by omega
                  have hdn : i < (P.drop (64 * k)).length := by rw [List.length_drop, Hpl.out]; omega
                  have hcell := hW.cell (i / 4) (by omega)
                  have hfr := Blk.frozen hW (i / 4)
                  have hcb : wr.cell? ⟨gb, 64 * k + i, none⟩ = some (.int .u8 ((P.drop (64 * k))[i].toNat)) := by
                    rw [hB.cell (64 * k + i) (by rw [Hpl.out]; omega), List.getElem_drop]
                    rfl
                  have hgl : gw < wr.heap.size := hW.lt
                  have hgl2 : gb < wr.heap.size := hB.lt
                  have h16 : (i : Int) / 4 < 16 := by omega
                  have h16n : i / 4 < 16 := by omega
                  have h128 : 64 * (k : Int) + (i : Int) < 128 := by omega
                  have h128n : 64 * k + i < 128 := by omega
                  have hpb := packs_bound (P.drop (64 * k)) i hlt'
                  have Hpb := Lib.hid hpb; clear hpb
                  have Hdn := Lib.hid hdn
                  have hps := packs_succ (P.drop (64 * k)) i hlt' hdn
                  generalize (P.drop (64 * k))[i] = c at *
                  have Hps := Lib.hid hps; clear hps
                  go_wp2_with fail
                  refine region_mix 16 (by kernel_rfl) (by kernel_rfl) (fun x => ?_); simp only [List.take_succ_cons, List.take_zero, List.drop_succ_cons, List.drop_zero]
                  repeat (first | (refine mix_quiet (by rfl) (by rfl) (fun K hK => ?_); go_big_quiet_op; refine hK _ ?_; clear hK K) | (refine mix_skip (by rfl) ?_; simp only [Act.put, List.setIfInBounds_toArray, List.set_cons_zero, List.set_cons_succ]))
                  refine mix_nil ?_
                  go_wp2_with fail
                  have hpb := Hpb.out
                  go_roundw
                  case rel =>
                    rw [word_or _ _ hpb.1 hpb.2]
                    exact ⟨i + 1, by omega, by go_num, by rw [Hps.out]; exact Arr.set (Blk.grow x hW) (i / 4) _, Blk.far (Blk.grow x hV) (by simp; omega) _, Blk.far (Blk.grow x hB) (by simp; omega) _, Blk.far (Blk.grow x hA) (by simp; omega) _, (hE.trans (grow_ext x)).setCell (by simp; omega) _⟩
                  case measure => simp [intOf]; omega
                · obtain rfl : i = 64 := by omega
                  change Arr wr gw 24 (blockOf (P.drop (64 * k))) at hW
                  have hbl := blockOf_length (P.drop (64 * k))
                  generalize blockOf (P.drop (64 * k)) = bd at *
                  clear hpl
                  have hal := Hal.out
                  go_wp2_with (refine stop_load 23 (.tmp 10) rfl ?_)
                  refine ⟨?_⟩
                  refine wpList_load_row rfl 23 (.tmp 10) rfl gv (by rfl) 23 _ (0, 0) _ hV Tryd.underlying23 rfl (size8.trans (by simp [hal])) ?_
                  refine wpList_load_row rfl 24 (.tmp 12) rfl gw (by rfl) 24 _ (0, 0) _ hW Tryd.underlying24 rfl (size16.trans (by simp [hbl])) ?_
                  simp only [Act.put, List.setIfInBounds_toArray, List.set_cons_zero, List.set_cons_succ]
                  go_wp2_with fail
                  go_at_call 16
                  (with_reducible refine (Step_calls sk bd hal hbl _ (K.ext hE)).mono ?_); rintro e w7 ⟨rfl, hd'⟩
                  have hV3 : Arr w7 gv 23 sk := Blk.below hV hd' hV.lt
                  have hB3 := Blk.below hB hd' hB.lt
                  have hA3 := Blk.below hA hd' hA.lt
                  have hE3 := hE.trans hd'
                  clear hV hB hA hE hd' hW
                  have hsl2 : (step sk bd).length = 8 := by rw [step_length]; exact hal
                  go_wp2_with (refine stop_store 23 (.tmp 10) (.tmp 82) rfl ?_)
                  refine ⟨?_⟩
                  refine wpList_store_row rfl 23 (.tmp 10) (.tmp 82) rfl gv _ (by rfl) (by rfl) 23 _ hV3 (size8.trans (by simp [hsl2])) (by simp [hal, hsl2]) (by simp [wordV, Value.oneCell']) ?_
                  simp only [Act.put, List.setIfInBounds_toArray, List.set_cons_zero, List.set_cons_succ]
                  have hV5 : Arr (w7.setRow gv ((step sk bd).map wordV).toArray) gv 23 (step sk bd) := Blk.row hV3 _
                  have hB5 := Blk.rowFar hB3 (show gb ≠ gv by omega) ((step sk bd).map wordV).toArray
                  have hA5 := Blk.rowFar hA3 (show w.heap.size ≠ gv by omega) ((step sk bd).map wordV).toArray
                  have hE5 : Ext w (w7.setRow gv ((step sk bd).map wordV).toArray) := hE3.row (by omega) _
                  generalize w7.setRow gv ((step sk bd).map wordV).toArray = w8 at *
                  clear hV3 hB3 hA3 hE3
                  go_wp2_with fail
                  go_roundw
                  case rel => exact ⟨k + 1, by omega, by go_num, by rw [Hsum.out]; exact hV5, hB5, hA5, hE5⟩
                  case measure => simp [intOf]; omega
            · obtain rfl : k = 2 := by omega
              have hsl := absorb_length start P start_length 2
              generalize absorb start P 2 = v at *
              have hconv : (convert 37 9 (.slice (some ⟨w.heap.size, 0, none⟩) 64 64)).run Tryd.prog wo = .ok (.string (bs a)) wo := conv_bytes wo _ _ a 64 64 Ha.out (Blk.rd hA)
              have hj : joinB [a, d] = a ++ d := by simp [joinB]
              have hRd : Rd (wo.alloc (.cells #[.string (bs a), .string (bs d)] 9)) (wo.alloc (.cells #[.string (bs a), .string (bs d)] 9)).heap.size (some ⟨wo.heap.size, 0, none⟩) ([a, d].map strV) := Blk.rd (Blk.new wo _ _)
              have hgla := hA.lt
              go_wp2_with fail
              refine (Of_calls [a, d] _ 2 _ (K.ext (hE.alloc _)) hRd (by simp) (by rw [hj, Had.out]; omega)).mono ?_; rw [hj]; rintro e w5 ⟨rfl, hd'⟩
              replace hV := Blk.below (Blk.alloc hV _) hd' (by have := hV.lt; simp; omega)
              replace hE := (hE.alloc _).trans hd'
              clear hRd hj hd' hconv hB hA hgla
              rw [Hso.out]
              have hol := outB_length v
              have hvl : ((outB v).map byteV).toArray.size = 32 := by simp [hol]
              unfold sumV
              go_wp2_with (refine stop_store 33 (.tmp 14) (.tmp 87) rfl ?_)
              refine ⟨?_⟩
              change wpList _ _ _ _ _ (w5.alloc (.cells ((zerosB 32).map byteV).toArray 33))
              refine wpList_store_row rfl 33 (.tmp 14) (.tmp 87) rfl w5.heap.size _ (by rfl) (by rfl) 33 _ (Blk.new w5 _ _) (size32.trans (by rw [hvl])) (by rw [hvl]; rfl) (by simp [byteV, Value.oneCell']) ?_
              simp only [Act.put, List.setIfInBounds_toArray, List.set_cons_zero, List.set_cons_succ]
              have hX : ArrB ((w5.alloc (.cells ((zerosB 32).map byteV).toArray 33)).setRow w5.heap.size ((outB v).map byteV).toArray) w5.heap.size 33 (outB v) := Blk.row (Blk.new w5 _ _) _
              have hV6 : Arr ((w5.alloc (.cells ((zerosB 32).map byteV).toArray 33)).setRow w5.heap.size ((outB v).map byteV).toArray) gv 23 v := Blk.rowFar (Blk.alloc hV _) (by have := hV.lt; omega) _
              have hE6 : Ext w ((w5.alloc (.cells ((zerosB 32).map byteV).toArray 33)).setRow w5.heap.size ((outB v).map byteV).toArray) := (hE.alloc _).row hE.size _
              clear hV hE
              generalize (w5.alloc (.cells ((zerosB 32).map byteV).toArray 33)).setRow w5.heap.size ((outB v).map byteV).toArray = w6 at *
              generalize w5.heap.size = gx at *
              clear w5
              have Hol := Lib.hid hol; clear hol hvl
              have Hsl := Lib.hid hsl; clear hsl
              go_wp2_with fail
              go_loopw [15] (fun q wr => ∃ i : Nat, i ≤ 32 ∧ q = .int .i64 (i : Int) ∧ ArrB wr gx 33 (outB v) ∧ Arr wr gv 23 v ∧ Ext w wr) (fun q _ => 32 - (intOf q).toNat)
              case atStart => exact ⟨0, by omega, rfl, hX, hV6, hE6⟩
              case round =>
                clear hX hV6 hE6
                obtain ⟨wo, rfl⟩ : ∃ wo : World, wo = wr := ⟨_, rfl⟩
                obtain ⟨i, hi, rfl, hX, hV, hE⟩ := hrel
                by_cases hlt : i < 32
                · have hit : (i : Int) < 32 := by omega
                  have hcell : wo.cell? ⟨gx, i, none⟩ = some (.int .u8 (wat v (i / 4) / 2 ^ (24 - 8 * (i % 4)) % 256)) := by
                    rw [hX.cell i (by rw [Hol.out]; exact hlt), outB_get _ i hlt, byteV_mod]
                  have hcs := hV.cell (i / 4) (by rw [Hsl.out]; omega)
                  have h8i : (i : Int) / 4 < 8 := by omega
                  have h8n : i / 4 < 8 := by omega
                  have hgl := hX.lt
                  have hgl2 := hV.lt
                  go_wp2_with fail
                  refine region_mix0 (by kernel_rfl) (by kernel_rfl) (fun x => ?_)
                  repeat (first | (refine mix_quiet (by rfl) (by rfl) (fun K hK => ?_); go_big_quiet_op; refine hK _ ?_; clear hK K) | (refine mix_skip (by rfl) ?_; simp only [Act.put, List.setIfInBounds_toArray, List.set_cons_zero, List.set_cons_succ]))
                  refine mix_nil ?_
                  go_wp2_with fail
                  go_roundw
                  case rel => exact ⟨i + 1, by omega, by go_num, Blk.grow x hX, Blk.grow x hV, hE.trans (grow_ext x)⟩
                  case measure => simp [intOf]; omega
                · obtain rfl : i = 32 := by omega
                  go_wp2_with fail
                  go_ret
                  exact ⟨rfl, hE⟩

set_option maxRecDepth 100000 in
theorem contract (H : Type) (enc : TypeId × Value → H) (W : World) (base : Nat) (args : Array Value) (ds gs : List (DataW H)) (before : List MemPlace)
    (hval0 : ∀ (j : Nat) t v, Tryd.f5.params[j]? = some t → args[j]? = some v → Value.okWide Tryd.prog W .any base t v)
    (hW : DataW.Whole enc Tryd.prog Tryd.f5.params.toList Rows.shaTwoSpec.vars false W args.toList ds gs before) (hL : laidMetH Tryd.prog Rows.shaTwoRow.laid W) :
    Calls Tryd.prog 5 args W fun e W' => ∃ v, e = .returned v ∧ Rows.shaTwoSpec.post enc Tryd.prog Tryd.f5 false true false false W args v W' := by
  have K : Keys W := keys_of hL
  have hval : ∀ (j : Nat) t v, Tryd.f5.params[j]? = some t → args[j]? = some v → Value.okWide Tryd.prog W .any base t v := hval0
  have hW' := hW
  obtain ⟨p, q, hA0, hV, rfl, hfz, hnd⟩ := hW
  have hA : DataW.TrodAll enc Tryd.prog W 0 (fun _ => true) true Tryd.f5.params.toList args.toList ds p := hA0
  rw [Tryd.params5] at hA hval
  obtain ⟨v0, vs0, d0, ds0, p0, q0, hargs, rfl, rfl, hx0, r0⟩ := trodAll_cons hA
  obtain ⟨v1, vs1, d1, ds1, p1, q1, rfl, rfl, rfl, hx1, r1⟩ := trodAll_cons r0
  obtain ⟨rfl, rfl, rfl⟩ := trodAll_nil r1
  obtain rfl : args = #[v0, v1] := by cases args; simp_all
  obtain ⟨rfl, rfl⟩ := trodVars_none hV
  obtain ⟨a, rfl, ha⟩ := op_b64 (hval 0 30 v0 rfl rfl) (tr_of hx0)
  obtain ⟨s, rfl, hs⟩ := op_str (hval 1 9 v1 rfl rfl) (tr_of hx1)
  refine (walk a s ha hs W K).mono fun e W' ⟨he, hg⟩ => ?_
  subst he
  exact ⟨_, rfl, law_post hW' rfl rfl (by kernel_rfl) rfl rfl rfl hg⟩

theorem laid_met (os : Os) : laidMet Tryd.prog Rows.shaTwoRow.laid ((keysWorld os).forCall (fun _ _ => 0) ⟨#[], #[.agg (Array.replicate 64 (.int .u8 0)), .string .empty], []⟩).memory :=
  laidMet_of_run' 8 (by kernel_rfl) (by kernel_rfl)
theorem reads (os : Os) {H : Type} (enc : TypeId × Value → H) : ∃ x, DataW.whole enc Tryd.prog ((keysWorld os).forCall (fun _ _ => 0) ⟨#[], #[.agg (Array.replicate 64 (.int .u8 0)), .string .empty], []⟩).memory Tryd.f5.params.toList Rows.shaTwoSpec.vars false (#[.agg (Array.replicate 64 (.int .u8 0)), .string .empty] : Array Value).toList 8 = some x :=
  Option.isSome_iff_exists.1 (by kernel_rfl)
set_option maxRecDepth 100000 in
theorem lifted (os : Os) (started : os.Started) (H : Type) (enc : TypeId × Value → H) (F : Stop.Interp) :
    ReturnsInHanded {} Tryd.checked os 5 .any ((OpenSpec.ofChange Rows.shaTwoSpec).preRow enc Tryd.prog Tryd.f5 Rows.shaTwoRow.domain false Rows.shaTwoRow.laid) (((OpenSpec.ofChange Rows.shaTwoSpec).at F).post enc Tryd.prog Tryd.f5 false true false false) := by
  obtain ⟨x, hx⟩ := reads os enc
  refine returnsInHanded_of_row (C := Tryd.checked) (s := OpenSpec.ofChange Rows.shaTwoSpec) own_ started (by kernel_rfl) Tryd.func5
    (witness_row_at (enc := enc) (C := Tryd.checked) false (keysWorld os) #[.agg (Array.replicate 64 (.int .u8 0)), .string .empty] rfl (by kernel_rfl) (by kernel_rfl) (by kernel_rfl)
      (OpenSpec.preRow_of_cond 8 hx rfl (fun k hk => by cases hk) (by kernel_rfl) (laid_met os))) ?_
  intro W base args ds gs before hval hW _ _ _ hL _ _
  exact contract H enc W base args ds gs before hval hW hL

theorem said : Rows.ShaTwoSaid :=
  OpenClaim.holds_of_cond 5 Tryd.f5 rfl rfl rfl rfl rfl rfl rfl ⟨rfl, rfl, rfl, rfl, rfl⟩ rfl rfl rfl rfl rfl (by kernel_rfl) Tryd.func5 (by kernel_rfl)
    (of_decide_eq_true (by kernel_rfl)) (by unfold Func.isWrapper; first | (rw [if_pos (by decide +kernel)]; kernel_rfl) | (rw [if_neg (by decide +kernel)]; exact ⟨rfl, rfl⟩))
    (fun os started H enc _ F => by rw [OpenClaim.pre_eq_preRow]; exact lifted os started H enc F)
theorem plain (f : FuncId) (fn : Func) (hf : Tryd.pinned.checked.prog.funcNamed "scrinium/scriniumlaw02.ShaTwo" = some f) (hfn : Tryd.pinned.checked.prog.funcs[f]? = some fn) :
    false = Tryd.pinned.checked.prog.looks [] ∧ ∀ (j : Nat) t, fn.params[j]? = some t → Tryd.pinned.checked.prog.wantsStandIn t = false := by
  obtain rfl : f = 5 := Option.some.inj ((show Tryd.prog.funcNamed "scrinium/scriniumlaw02.ShaTwo" = some 5 by kernel_rfl).symm.trans hf) |>.symm
  obtain rfl : fn = Tryd.f5 := (Option.some.inj (Tryd.func5.symm.trans hfn)).symm
  refine ⟨by kernel_rfl, fun j t ht => ?_⟩
  rw [Tryd.params5] at ht
  have hm : t ∈ ([30, 9] : List TypeId) := by simpa using Array.mem_of_getElem? ht
  have hall : (([30, 9] : List TypeId).all fun u => !Tryd.prog.wantsStandIn u) = true := by kernel_rfl
  exact (show Tryd.prog.wantsStandIn t = false by simpa using List.all_eq_true.1 hall t hm)
theorem proved : Rows.ShaTwoCardSaid :=
  Claim7.holds_tied_plain_at .later [] _ _ _ _ said (fun _ h => by cases h) (by kernel_rfl) (fun _ h => by cases h) shaTwo_row_tie rfl ⟨rfl, rfl⟩ (by kernel_rfl) rfl plain (by kernel_rfl)

end Go.Proofs.YtgofnkpegfkonaaDoor.shaTwo
