/-
  scriniumlaw02.ShaOne: a text of at most 55 bytes is one block. No condition.
-/
import Derived.Test.YtgofnkpegfkonaaDoorAwk
import Derived.Test.YtgofnkpegfkonaaDoorOpS
import Derived.Test.YtgofnkpegfkonaaDoorEqA
import Derived.Test.YtgofnkpegfkonaaDoorShaO
import Derived.Test.YtgofnkpegfkonaaDoorMix5
import Derived.Deep.DeepCutAuto
set_option linter.unusedVariables false
set_option linter.unusedSimpArgs false
namespace Go.Proofs.YtgofnkpegfkonaaDoor.shaOne
open Go.ChangeShapes Go.WideShapes Go.ChangeAt Go.RowKit
attribute [local go_sem] bs_size bs_toList2 bs_append bs_extract_end bs_extract_begin bs_get wrap64_b grow_cell grow_frozen

theorem size64B : (Tryd.prog.info? 30).map (·.size) = some 64 := by kernel_rfl

set_option maxRecDepth 100000 in
set_option maxHeartbeats 1000000 in
theorem walk (s : List UInt8) (hs : s.length ≤ 9223372036854775807) (w : World) (K : Keys w) :
    Calls Tryd.prog 4 #[.string (bs s)] w fun e w' => e = .returned (.bool true) ∧ Ext w w' := by
  go_enter Tryd.func4, Tryd.ntmps4
  go_wp2_with fail
  refine (awake_calls _ K).mono ?_; rintro e w1 ⟨rfl, e1⟩
  go_wp2_with fail
  refine (short_calls s 55 _ hs (by omega)).mono ?_; rintro e w2 ⟨rfl, rfl⟩
  have hd : (s.take 55).length ≤ 55 := by simp; omega
  generalize s.take 55 = d at *
  clear hs
  have hdl := laidB_length d
  rw [show d.length % 64 = d.length from Nat.mod_eq_of_lt (by omega), show d.length + (64 - d.length) = 64 by omega] at hdl
  go_wp2_with fail
  change Code.wp _ _ _ _ (w1.alloc (.cells ((zerosB 64).map byteV).toArray 30))
  have hB : ArrB (w1.alloc (.cells ((zerosB 64).map byteV).toArray 30)) w1.heap.size 30 (fillB (laidB d) 0) := by
    rw [fillB_zero, hdl]
    exact Blk.new _ _ _
  have hE := e1.alloc (.cells ((zerosB 64).map byteV).toArray 30)
  have hlo := e1.size
  generalize w1.alloc (.cells ((zerosB 64).map byteV).toArray 30) = w2 at *
  generalize w1.heap.size = gb at *
  clear e1 w1
  have Hdl := Lib.hid hdl; clear hdl
  go_loopw [5] (fun v wr => ∃ i : Nat, i ≤ d.length ∧ v = .int .i64 (i : Int) ∧ ArrB wr gb 30 (fillB (laidB d) i) ∧ Ext w wr) (fun v _ => d.length - (intOf v).toNat)
  case atStart => exact ⟨0, by omega, rfl, hB, hE⟩
  case round =>
    clear hB hE
    obtain ⟨i, hi, rfl, hB, hE⟩ := hrel
    by_cases hlt : i < d.length
    · have hit : (i : Int) < (d.length : Int) := by omega
      have hfl := fillB_length (laidB d) i (by rw [Hdl.out]; omega)
      have hcell : wr.cell? ⟨gb, i, none⟩ = some (byteV ((fillB (laidB d) i).getD i 0)) := by rw [hB.cell i (by have := Hdl.out; omega), List.getD_eq_getElem?_getD, List.getElem?_eq_getElem (by have := Hdl.out; omega)]; rfl
      have hfr := Blk.frozen hB i
      have h64 : (i : Int) < 64 := by omega
      have h64n : i < 64 := by omega
      have hgl := hB.lt
      have Hfl := Lib.hid hfl; clear hfl
      go_wp2_with fail
      go_roundw
      case rel => exact ⟨i + 1, by omega, by go_num, by rw [fillB_succ _ _ (by rw [Hdl.out]; exact h64n), laidB_get d i hlt]; exact ArrB.set hB i _, hE.setCell (by simp; omega) _⟩
      case measure => simp [intOf]; omega
    · obtain rfl : i = d.length := by omega
      rw [fill_laid] at hB
      have hL := Hdl.out
      have hcn : wr.cell? ⟨gb, d.length, none⟩ = some (byteV ((laidB d).getD d.length 0)) := by rw [hB.cell _ (by omega), List.getD_eq_getElem?_getD, List.getElem?_eq_getElem (by omega)]; rfl
      have hc62 : wr.cell? ⟨gb, 62, none⟩ = some (byteV ((laidB d).getD 62 0)) := by rw [hB.cell _ (by omega), List.getD_eq_getElem?_getD, List.getElem?_eq_getElem (by omega)]; rfl
      have hc63 : wr.cell? ⟨gb, 63, none⟩ = some (byteV ((laidB d).getD 63 0)) := by rw [hB.cell _ (by omega), List.getD_eq_getElem?_getD, List.getElem?_eq_getElem (by omega)]; rfl
      have hfn := Blk.frozen hB d.length
      have hf62 := Blk.frozen hB 62
      have hf63 := Blk.frozen hB 63
      have hn62 : ¬ (d.length = 62) := by omega
      have hn63 : ¬ (d.length = 63) := by omega
      have hgl := hB.lt
      clear hL
      go_wp2_with fail
      have q0 : Value.int .u8 128 = byteV 128 := rfl
      have q1 : Value.int .u8 (8 * (d.length : Int) / 256) = byteV (lenHi d.length) := by
        unfold lenHi
        rw [← byteV_mod]
        congr 1
        omega
      have q2 : Value.int .u8 (8 * (d.length : Int) % 256) = byteV (lenLo d.length) := by
        unfold lenLo
        rw [← byteV_mod]
        congr 1
      have hB1 : ArrB (((wr.setCell ⟨gb, d.length, none⟩ (.int .u8 128)).setCell ⟨gb, 62, none⟩ (.int .u8 (8 * (d.length : Int) / 256))).setCell ⟨gb, 63, none⟩ (.int .u8 (8 * (d.length : Int) % 256))) gb 30 (padded d) := by
        rw [q0, q1, q2, ← laid_one d hd]
        exact ((hB.set d.length 128).set 62 (lenHi d.length)).set 63 (lenLo d.length)
      have hE1 : Ext w (((wr.setCell ⟨gb, d.length, none⟩ (.int .u8 128)).setCell ⟨gb, 62, none⟩ (.int .u8 (8 * (d.length : Int) / 256))).setCell ⟨gb, 63, none⟩ (.int .u8 (8 * (d.length : Int) % 256))) := ((hE.setCell (by simp; omega) _).setCell (by simp; omega) _).setCell (by simp; omega) _
      change Code.wp _ _ _ _ ((((wr.setCell ⟨gb, d.length, none⟩ (.int .u8 128)).setCell ⟨gb, 62, none⟩ (.int .u8 (8 * (d.length : Int) / 256))).setCell ⟨gb, 63, none⟩ (.int .u8 (8 * (d.length : Int) % 256))).alloc (.cells ((zeros 16).map wordV).toArray 24))
      have hsz : (((wr.setCell ⟨gb, d.length, none⟩ (.int .u8 128)).setCell ⟨gb, 62, none⟩ (.int .u8 (8 * (d.length : Int) / 256))).setCell ⟨gb, 63, none⟩ (.int .u8 (8 * (d.length : Int) % 256))).heap.size = wr.heap.size := by simp
      rw [← hsz]
      clear q0 q1 q2 hcn hc62 hc63 hfn hf62 hf63 hn62 hn63 hB hE
      generalize ((wr.setCell ⟨gb, d.length, none⟩ (.int .u8 128)).setCell ⟨gb, 62, none⟩ (.int .u8 (8 * (d.length : Int) / 256))).setCell ⟨gb, 63, none⟩ (.int .u8 (8 * (d.length : Int) % 256)) = w3 at *
      clear hsz hgl hi hlt wr
      have hpl : (padded d).length = 64 := padded_one d hd
      have hso := sha_one d hd
      have Hso := Lib.hid hso; clear hso
      generalize hP : padded d = P at *
      have HP := Lib.hid hP; clear hP
      have hW : Arr (w3.alloc (.cells ((zeros 16).map wordV).toArray 24)) w3.heap.size 24 (packs P 0) := by
        rw [packs_zero]
        exact Blk.new _ _ _
      have hB : ArrB (w3.alloc (.cells ((zeros 16).map wordV).toArray 24)) gb 30 P := Blk.alloc hB1 _
      have hE : Ext w (w3.alloc (.cells ((zeros 16).map wordV).toArray 24)) := hE1.alloc _
      have hlw : gb < w3.heap.size := hB1.lt
      generalize w3.alloc (.cells ((zeros 16).map wordV).toArray 24) = w4 at *
      generalize w3.heap.size = gw at *
      clear hB1 hE1 w3
      have Hpl := Lib.hid hpl; clear hpl
      go_loopw [8] (fun v wr => ∃ i : Nat, i ≤ 64 ∧ v = .int .i64 (i : Int) ∧ Arr wr gw 24 (packs P i) ∧ ArrB wr gb 30 P ∧ Ext w wr) (fun v _ => 64 - (intOf v).toNat)
      case atStart => exact ⟨0, by omega, rfl, hW, hB, hE⟩
      case round =>
        clear hW hB hE
        obtain ⟨i, hi, rfl, hW, hB, hE⟩ := hrel
        have hpl := packs_length P i
        by_cases hlt : i < 64
        · have hit : (i : Int) < 64 := by omega
          have hdn : i < P.length := by rw [Hpl.out]; exact hlt
          have hcell := hW.cell (i / 4) (by omega)
          have hfr := Blk.frozen hW (i / 4)
          have hcb := hB.cell i hdn
          unfold byteV at hcb
          have hgl : gw < wr.heap.size := hW.lt
          have hgl2 : gb < wr.heap.size := hB.lt
          have h16 : (i : Int) / 4 < 16 := by omega
          have h16n : i / 4 < 16 := by omega
          go_wp2_with fail
          refine region_mix 13 (by kernel_rfl) (by kernel_rfl) (fun x => ?_); simp only [List.take_succ_cons, List.take_zero, List.drop_succ_cons, List.drop_zero]
          repeat (first | (refine mix_quiet (by rfl) (by rfl) (fun K hK => ?_); go_big_quiet_op; refine hK _ ?_; clear hK K) | (refine mix_skip (by rfl) ?_; simp only [Act.put, List.setIfInBounds_toArray, List.set_cons_zero, List.set_cons_succ]))
          refine mix_nil ?_
          go_wp2_with fail
          have hpb := packs_bound P i hlt
          go_roundw
          case rel =>
            rw [word_or _ _ hpb.1 hpb.2]
            exact ⟨i + 1, by omega, by go_num, by rw [packs_succ P i hlt hdn]; exact Arr.set (Blk.grow x hW) (i / 4) _, Blk.far (Blk.grow x hB) (by simp; omega) _, (hE.trans (grow_ext x)).setCell (by simp; omega) _⟩
          case measure => simp [intOf]; omega
        · obtain rfl : i = 64 := by omega
          change Arr wr gw 24 (blockOf P) at hW
          have hbl := blockOf_length P
          generalize blockOf P = bd at *
          clear hpl
          have hKs : ∀ x : More wr, Keys (grow wr x) := fun x => K.ext (hE.trans (grow_ext x))
          have hsl : (step start bd).length = 8 := step_length _ _
          go_upto_region 17 with fail
          go_cut [9] (fun s9 wx => ∃ g : Nat, s9 = .pointer (some ⟨g, 0, none⟩) ∧ Arr wx g 23 (step start bd) ∧ Ext w wx)
          case first =>
            refine region_plan 4 (.two 0 3 (.one 1 (.two 2 3 (.one 3 .nil) (.one 2 .nil))) (.one 0 (.one 1 (.one 2 .nil)))) (by kernel_rfl) (by kernel_rfl) (fun x => ?_); simp only [Plan.run, List.drop_succ_cons, List.drop_zero, List.drop_nil]
            refine plan_two ?_ ?_
            · (refine plan_loud (by simp only [List.getElem?_toArray, List.getElem?_cons_zero, List.getElem?_cons_succ]; rfl) (by rfl) (by rfl) (fun K E hK => ?_); go_big_op)
              refine (Start_calls _).mono ?_; rintro e w5 ⟨rfl, hd'⟩
              obtain ⟨x1, rfl⟩ := more_ext _ hd'; clear hd'
              refine hK _ _ ⟨_, rfl⟩ ?_; clear hK K E
              refine plan_row (by simp only [List.getElem?_toArray, List.getElem?_cons_zero, List.getElem?_cons_succ]; rfl) (by rfl) (by rfl) 24 (.tmp 7) rfl gw (by rfl) _ _ _ hW Tryd.underlying24 rfl (size16.trans (by simp [hbl])) ?_
              simp only [Act.put, List.setIfInBounds_toArray, List.set_cons_zero, List.set_cons_succ]
              refine plan_two ?_ ?_
              · (refine plan_loud (by simp only [List.getElem?_toArray, List.getElem?_cons_zero, List.getElem?_cons_succ]; rfl) (by rfl) (by rfl) (fun K E hK => ?_); go_big_op)
                refine (Step_calls start bd rfl hbl _ (hKs _)).mono ?_; rintro e w5 ⟨rfl, hd'⟩
                obtain ⟨x1, rfl⟩ := more_ext _ hd'; clear hd'
                refine hK _ _ ⟨_, rfl⟩ ?_; clear hK K E
                refine plan_one ?_
                (refine plan_loud (by simp only [List.getElem?_toArray, List.getElem?_cons_zero, List.getElem?_cons_succ]; rfl) (by rfl) (by rfl) (fun K E hK => ?_); go_big_op)
                refine hK _ _ (more_of ((grow_ext _).alloc _)) ?_; clear hK K E
                refine plan_nil ?_
                have hV : Arr ((grow wr x1).alloc (.cells ((zeros 8).map wordV).toArray 23)) (grow wr x1).heap.size 23 (zeros 8) := Blk.new _ _ _
                change wpList _ _ _ _ _ ((grow wr x1).alloc (.cells ((zeros 8).map wordV).toArray 23))
                refine wpList_store_row rfl 23 (.tmp 9) (.tmp 58) rfl (grow wr x1).heap.size _ (by rfl) (by rfl) 23 _ hV (size8.trans (by simp [hsl])) (by simp [hsl, zeros]) (by simp [wordV, Value.oneCell']) ?_
                simp only [Act.put, List.setIfInBounds_toArray, List.set_cons_zero, List.set_cons_succ]
                go_wp2_with fail
                go_meet
                exact ⟨_, rfl, Blk.row hV _, Ext.row ((hE.trans (grow_ext x1)).alloc _) (by have := (hE.trans (grow_ext x1)).size; omega) _⟩
              · (refine plan_loud (by simp only [List.getElem?_toArray, List.getElem?_cons_zero, List.getElem?_cons_succ]; rfl) (by rfl) (by rfl) (fun K E hK => ?_); go_big_op)
                refine hK _ _ (more_of ((grow_ext _).alloc _)) ?_; clear hK K E
                refine plan_one ?_
                (refine plan_loud (by simp only [List.getElem?_toArray, List.getElem?_cons_zero, List.getElem?_cons_succ]; rfl) (by rfl) (by rfl) (fun K E hK => ?_); go_big_op)
                change Calls _ _ _ ((grow wr x1).alloc (.cells ((zeros 8).map wordV).toArray 23)) _
                have hV : Arr ((grow wr x1).alloc (.cells ((zeros 8).map wordV).toArray 23)) (grow wr x1).heap.size 23 (zeros 8) := Blk.new _ _ _
                refine (Step_calls start bd rfl hbl _ ((hKs _).ext ((Ext.refl _).alloc _))).mono ?_; rintro e w5 ⟨rfl, hd'⟩
                replace hV := Blk.below hV hd' hV.lt
                obtain ⟨x2, rfl⟩ := more_of (((grow_ext _).alloc _).trans hd'); clear hd'
                refine hK _ _ ⟨_, rfl⟩ ?_; clear hK K E
                refine plan_nil ?_
                refine wpList_store_row rfl 23 (.tmp 9) (.tmp 58) rfl (grow wr x1).heap.size _ (by rfl) (by rfl) 23 _ hV (size8.trans (by simp [hsl])) (by simp [hsl, zeros]) (by simp [wordV, Value.oneCell']) ?_
                simp only [Act.put, List.setIfInBounds_toArray, List.set_cons_zero, List.set_cons_succ]
                go_wp2_with fail
                go_meet
                exact ⟨_, rfl, Blk.row hV _, Ext.row (hE.trans (grow_ext x2)) (by have := (hE.trans (grow_ext x1)).size; omega) _⟩
            · (refine plan_loud (by simp only [List.getElem?_toArray, List.getElem?_cons_zero, List.getElem?_cons_succ]; rfl) (by rfl) (by rfl) (fun K E hK => ?_); go_big_op)
              refine hK _ _ (more_of ((grow_ext x).alloc _)) ?_; clear hK K E
              refine plan_one ?_
              (refine plan_loud (by simp only [List.getElem?_toArray, List.getElem?_cons_zero, List.getElem?_cons_succ]; rfl) (by rfl) (by rfl) (fun K E hK => ?_); go_big_op)
              change Calls _ _ _ ((grow wr x).alloc (.cells ((zeros 8).map wordV).toArray 23)) _
              have hV : Arr ((grow wr x).alloc (.cells ((zeros 8).map wordV).toArray 23)) (grow wr x).heap.size 23 (zeros 8) := Blk.new _ _ _
              have x1 := x
              refine (Start_calls _).mono ?_; rintro e w5 ⟨rfl, hd'⟩
              replace hV := Blk.below hV hd' hV.lt
              obtain ⟨x2, rfl⟩ := more_of (((grow_ext _).alloc _).trans hd'); clear hd'
              refine hK _ _ ⟨_, rfl⟩ ?_; clear hK K E
              refine plan_row (by simp only [List.getElem?_toArray, List.getElem?_cons_zero, List.getElem?_cons_succ]; rfl) (by rfl) (by rfl) 24 (.tmp 7) rfl gw (by rfl) _ _ _ hW Tryd.underlying24 rfl (size16.trans (by simp [hbl])) ?_
              simp only [Act.put, List.setIfInBounds_toArray, List.set_cons_zero, List.set_cons_succ]
              refine plan_one ?_
              (refine plan_loud (by simp only [List.getElem?_toArray, List.getElem?_cons_zero, List.getElem?_cons_succ]; rfl) (by rfl) (by rfl) (fun K E hK => ?_); go_big_op)
              refine (Step_calls start bd rfl hbl _ (hKs _)).mono ?_; rintro e w5 ⟨rfl, hd'⟩
              replace hV := Blk.below hV hd' hV.lt
              obtain ⟨x3, rfl⟩ := more_ext _ hd'; clear hd'
              refine hK _ _ ⟨_, rfl⟩ ?_; clear hK K E
              refine plan_nil ?_
              refine wpList_store_row rfl 23 (.tmp 9) (.tmp 58) rfl (grow wr x).heap.size _ (by rfl) (by rfl) 23 _ hV (size8.trans (by simp [hsl])) (by simp [hsl, zeros]) (by simp [wordV, Value.oneCell']) ?_
              simp only [Act.put, List.setIfInBounds_toArray, List.set_cons_zero, List.set_cons_succ]
              go_wp2_with fail
              go_meet
              exact ⟨_, rfl, Blk.row hV _, Ext.row (hE.trans (grow_ext x3)) (by have := (hE.trans (grow_ext x)).size; omega) _⟩
          case rest =>
            clear hKs hW hbl hlw hB hE
            obtain ⟨gv, rfl, hV, hE⟩ := hcut
            generalize step start bd = v at *
            have hj : joinB [d] = d := by simp [joinB]
            have hRd : Rd (wc.alloc (.cells #[.string (bs d)] 9)) (wc.alloc (.cells #[.string (bs d)] 9)).heap.size (some ⟨wc.heap.size, 0, none⟩) ([d].map strV) := Blk.rd (Blk.new wc _ _)
            go_wp2_with fail
            refine (Of_calls [d] _ 1 _ (K.ext (hE.alloc _)) hRd (by simp) (by rw [hj]; omega)).mono ?_; rw [hj]; rintro e w5 ⟨rfl, hd'⟩
            replace hV := Blk.below (Blk.alloc hV _) hd' (by have := hV.lt; simp; omega)
            replace hE := (hE.alloc _).trans hd'
            clear hRd hj hd'
            rw [Hso.out]
            have hol := outB_length v
            have hvl : ((outB v).map byteV).toArray.size = 32 := by simp [hol]
            unfold sumV
            go_wp2_with (refine stop_store 33 (.tmp 10) (.tmp 61) rfl ?_)
            refine ⟨?_⟩
            change wpList _ _ _ _ _ (w5.alloc (.cells ((zerosB 32).map byteV).toArray 33))
            refine wpList_store_row rfl 33 (.tmp 10) (.tmp 61) rfl w5.heap.size _ (by rfl) (by rfl) 33 _ (Blk.new w5 _ _) (size32.trans (by rw [hvl])) (by rw [hvl]; rfl) (by simp [byteV, Value.oneCell']) ?_
            simp only [Act.put, List.setIfInBounds_toArray, List.set_cons_zero, List.set_cons_succ]
            have hX : ArrB ((w5.alloc (.cells ((zerosB 32).map byteV).toArray 33)).setRow w5.heap.size ((outB v).map byteV).toArray) w5.heap.size 33 (outB v) := Blk.row (Blk.new w5 _ _) _
            have hV6 : Arr ((w5.alloc (.cells ((zerosB 32).map byteV).toArray 33)).setRow w5.heap.size ((outB v).map byteV).toArray) gv 23 v := Blk.rowFar (Blk.alloc hV _) (by have := hV.lt; omega) _
            have hE6 : Ext w ((w5.alloc (.cells ((zerosB 32).map byteV).toArray 33)).setRow w5.heap.size ((outB v).map byteV).toArray) := (hE.alloc _).row hE.size _
            clear hV hE
            generalize (w5.alloc (.cells ((zerosB 32).map byteV).toArray 33)).setRow w5.heap.size ((outB v).map byteV).toArray = w6 at *
            generalize w5.heap.size = gx at *
            clear w5
            have Hol := Lib.hid hol; clear hol hvl
            have Hsl := Lib.hid hsl; clear hsl
            go_wp2_with fail
            go_loopw [11] (fun q wr => ∃ i : Nat, i ≤ 32 ∧ q = .int .i64 (i : Int) ∧ ArrB wr gx 33 (outB v) ∧ Arr wr gv 23 v ∧ Ext w wr) (fun q _ => 32 - (intOf q).toNat)
            case atStart => exact ⟨0, by omega, rfl, hX, hV6, hE6⟩
            case round =>
              clear hX hV6 hE6
              obtain ⟨wo, rfl⟩ : ∃ wo : World, wo = wr := ⟨_, rfl⟩
              obtain ⟨i, hi, rfl, hX, hV, hE⟩ := hrel
              by_cases hlt : i < 32
              · have hit : (i : Int) < 32 := by omega
                have hcell : wo.cell? ⟨gx, i, none⟩ = some (.int .u8 (wat v (i / 4) / 2 ^ (24 - 8 * (i % 4)) % 256)) := by
                  rw [hX.cell i (by rw [Hol.out]; exact hlt), outB_get _ i hlt, byteV_mod]
                have hcs := hV.cell (i / 4) (by rw [Hsl.out]; omega)
                have h8i : (i : Int) / 4 < 8 := by omega
                have h8n : i / 4 < 8 := by omega
                have hgl := hX.lt
                have hgl2 := hV.lt
                go_wp2_with fail
                refine region_mix0 (by kernel_rfl) (by kernel_rfl) (fun x => ?_)
                repeat (first | (refine mix_quiet (by rfl) (by rfl) (fun K hK => ?_); go_big_quiet_op; refine hK _ ?_; clear hK K) | (refine mix_skip (by rfl) ?_; simp only [Act.put, List.setIfInBounds_toArray, List.set_cons_zero, List.set_cons_succ]))
                refine mix_nil ?_
                go_wp2_with fail
                go_roundw
                case rel => exact ⟨i + 1, by omega, by go_num, Blk.grow x hX, Blk.grow x hV, hE.trans (grow_ext x)⟩
                case measure => simp [intOf]; omega
              · obtain rfl : i = 32 := by omega
                go_wp2_with fail
                go_ret
                exact ⟨rfl, hE⟩

set_option maxRecDepth 100000 in
theorem contract (H : Type) (enc : TypeId × Value → H) (W : World) (base : Nat) (args : Array Value) (ds gs : List (DataW H)) (before : List MemPlace)
    (hval0 : ∀ (j : Nat) t v, Tryd.f4.params[j]? = some t → args[j]? = some v → Value.okWide Tryd.prog W .any base t v)
    (hW : DataW.Whole enc Tryd.prog Tryd.f4.params.toList Rows.shaOneSpec.vars false W args.toList ds gs before) (hL : laidMetH Tryd.prog Rows.shaOneRow.laid W) :
    Calls Tryd.prog 4 args W fun e W' => ∃ v, e = .returned v ∧ Rows.shaOneSpec.post enc Tryd.prog Tryd.f4 false true false false W args v W' := by
  have K : Keys W := keys_of hL
  have hval : ∀ (j : Nat) t v, Tryd.f4.params[j]? = some t → args[j]? = some v → Value.okWide Tryd.prog W .any base t v := hval0
  have hW' := hW
  obtain ⟨p, q, hA0, hV, rfl, hfz, hnd⟩ := hW
  have hA : DataW.TrodAll enc Tryd.prog W 0 (fun _ => true) true Tryd.f4.params.toList args.toList ds p := hA0
  rw [Tryd.params4] at hA hval
  obtain ⟨v0, vs0, d0, ds0, p0, q0, hargs, rfl, rfl, hx0, r0⟩ := trodAll_cons hA
  obtain ⟨rfl, rfl, rfl⟩ := trodAll_nil r0
  obtain rfl : args = #[v0] := by cases args; simp_all
  obtain ⟨rfl, rfl⟩ := trodVars_none hV
  obtain ⟨s, rfl, hs⟩ := op_str (hval 0 9 v0 rfl rfl) (tr_of hx0)
  refine (walk s hs W K).mono fun e W' ⟨he, hg⟩ => ?_
  subst he
  exact ⟨_, rfl, law_post hW' rfl rfl (by kernel_rfl) rfl rfl rfl hg⟩

theorem laid_met (os : Os) : laidMet Tryd.prog Rows.shaOneRow.laid ((keysWorld os).forCall (fun _ _ => 0) ⟨#[], #[.string .empty], []⟩).memory :=
  laidMet_of_run' 8 (by kernel_rfl) (by kernel_rfl)
theorem reads (os : Os) {H : Type} (enc : TypeId × Value → H) : ∃ x, DataW.whole enc Tryd.prog ((keysWorld os).forCall (fun _ _ => 0) ⟨#[], #[.string .empty], []⟩).memory Tryd.f4.params.toList Rows.shaOneSpec.vars false (#[.string .empty] : Array Value).toList 8 = some x :=
  Option.isSome_iff_exists.1 (by kernel_rfl)
set_option maxRecDepth 100000 in
theorem lifted (os : Os) (started : os.Started) (H : Type) (enc : TypeId × Value → H) (F : Stop.Interp) :
    ReturnsInHanded {} Tryd.checked os 4 .any ((OpenSpec.ofChange Rows.shaOneSpec).preRow enc Tryd.prog Tryd.f4 Rows.shaOneRow.domain false Rows.shaOneRow.laid) (((OpenSpec.ofChange Rows.shaOneSpec).at F).post enc Tryd.prog Tryd.f4 false true false false) := by
  obtain ⟨x, hx⟩ := reads os enc
  refine returnsInHanded_of_row (C := Tryd.checked) (s := OpenSpec.ofChange Rows.shaOneSpec) own_ started (by kernel_rfl) Tryd.func4
    (witness_row_at (enc := enc) (C := Tryd.checked) false (keysWorld os) #[.string .empty] rfl (by kernel_rfl) (by kernel_rfl) (by kernel_rfl)
      (OpenSpec.preRow_of_cond 8 hx rfl (fun k hk => by cases hk) (by kernel_rfl) (laid_met os))) ?_
  intro W base args ds gs before hval hW _ _ _ hL _ _
  exact contract H enc W base args ds gs before hval hW hL

theorem said : Rows.ShaOneSaid :=
  OpenClaim.holds_of_cond 4 Tryd.f4 rfl rfl rfl rfl rfl rfl rfl ⟨rfl, rfl, rfl, rfl, rfl⟩ rfl rfl rfl rfl rfl (by kernel_rfl) Tryd.func4 (by kernel_rfl)
    (of_decide_eq_true (by kernel_rfl)) (by unfold Func.isWrapper; first | (rw [if_pos (by decide +kernel)]; kernel_rfl) | (rw [if_neg (by decide +kernel)]; exact ⟨rfl, rfl⟩))
    (fun os started H enc _ F => by rw [OpenClaim.pre_eq_preRow]; exact lifted os started H enc F)
theorem plain (f : FuncId) (fn : Func) (hf : Tryd.pinned.checked.prog.funcNamed "scrinium/scriniumlaw02.ShaOne" = some f) (hfn : Tryd.pinned.checked.prog.funcs[f]? = some fn) :
    false = Tryd.pinned.checked.prog.looks [] ∧ ∀ (j : Nat) t, fn.params[j]? = some t → Tryd.pinned.checked.prog.wantsStandIn t = false := by
  obtain rfl : f = 4 := Option.some.inj ((show Tryd.prog.funcNamed "scrinium/scriniumlaw02.ShaOne" = some 4 by kernel_rfl).symm.trans hf) |>.symm
  obtain rfl : fn = Tryd.f4 := (Option.some.inj (Tryd.func4.symm.trans hfn)).symm
  refine ⟨by kernel_rfl, fun j t ht => ?_⟩
  rw [Tryd.params4] at ht
  have hm : t ∈ ([9] : List TypeId) := by simpa using Array.mem_of_getElem? ht
  have hall : (([9] : List TypeId).all fun u => !Tryd.prog.wantsStandIn u) = true := by kernel_rfl
  exact (show Tryd.prog.wantsStandIn t = false by simpa using List.all_eq_true.1 hall t hm)
theorem proved : Rows.ShaOneCardSaid :=
  Claim7.holds_tied_plain_at .later [] _ _ _ _ said (fun _ h => by cases h) (by kernel_rfl) (fun _ h => by cases h) shaOne_row_tie rfl ⟨rfl, rfl⟩ (by kernel_rfl) rfl plain (by kernel_rfl)

end Go.Proofs.YtgofnkpegfkonaaDoor.shaOne
