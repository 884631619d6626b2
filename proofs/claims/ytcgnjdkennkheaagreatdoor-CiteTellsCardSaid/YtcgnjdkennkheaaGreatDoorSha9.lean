/-
  The walk of scriniumref02.Of.
-/
import Derived.Test.YtcgnjdkennkheaaGreatDoorSha8
import Derived.Test.YtcgnjdkennkheaaGreatDoorSha3
set_option linter.unusedVariables false
set_option maxRecDepth 100000
set_option linter.unusedSimpArgs false
namespace Go.Proofs.YtcgnjdkennkheaaGreatDoor
open Go.RowKit
attribute [local go_sem] bs_size bs_toList2 bs_append bs_extract_end bs_extract_begin bs_get wrap64_b grow_cell grow_frozen c128

theorem c0B : (ByteArray.mk #[0]) = bs [0] := rfl
attribute [local go_sem] c0B
theorem word_add (x : Int) (c : UInt8) (h0 : 0 ≤ x) (h1 : x < 16777216) : (x * 256 + (c.toNat : Int)) % 4294967296 = x * 256 + (c.toNat : Int) := by
  have hc : c.toNat < 256 := c.toNat_lt
  omega
def padN (n : Nat) : Nat := (119 - n % 64) % 64
def midB (s : List UInt8) (j : Nat) : List UInt8 := s ++ 128 :: List.replicate j 0
theorem midB_succ (s : List UInt8) (j : Nat) : midB s (j + 1) = midB s j ++ [0] := by
  unfold midB
  rw [List.replicate_succ', List.append_assoc]
  rfl
theorem midB_length (s : List UInt8) (j : Nat) : (midB s j).length = s.length + 1 + j := by simp [midB]; omega
theorem padded_mid (s : List UInt8) : padded s = midB s (padN s.length) ++ len8 s.length := by
  unfold padded midB padN
  simp

set_option maxRecDepth 100000 in
set_option maxHeartbeats 1000000 in
theorem refOf_calls (s : List UInt8) (w : World) (hs : s.length ≤ 4611686018427387904) :
    Calls Tryz.prog 56 #[.string (bs s)] w fun e w' => e = .returned (sumV (shaOf s)) ∧ Ext w w' := by
  go_enter Tryz.func56, Tryz.ntmps56
  go_wp2_with fail
  change Code.wp _ _ _ _ (w.alloc (.cells ((zerosB 32).map byteV).toArray 28))
  have hR0 : ArrB (w.alloc (.cells ((zerosB 32).map byteV).toArray 28)) w.heap.size 28 (zerosB 32) := Blk.new _ _ _
  have hE0 := (Ext.refl w).alloc (.cells ((zerosB 32).map byteV).toArray 28)
  generalize w.alloc (.cells ((zerosB 32).map byteV).toArray 28) = w0 at *
  have hgw : w.heap.size < w0.heap.size := hR0.lt
  go_loop [3] (fun v => ∃ j : Nat, j ≤ padN s.length ∧ v = .string (bs (midB s j))) (fun v => s.length + 65 - strN v)
  case atStart => exact ⟨0, by omega, rfl⟩
  case round =>
    obtain ⟨j, hj, rfl⟩ := hrel
    have hml := midB_length s j
    have hms := midB_succ s j
    have Hms := Lib.hid hms; clear hms
    by_cases hlt : j < padN s.length
    · have hb : (((midB s j).length : Int) % 64 != 56) = true := by rw [bne_iff_ne]; unfold padN at hlt; omega
      have hmax : (midB s j).length ≤ 9223372036854775000 := by unfold padN at hj; omega
      have hpn : j + 1 ≤ 63 := by unfold padN at hlt; omega
      have Hml := Lib.hid hml; clear hml
      generalize midB s j = t at *
      go_wp2_with fail
      go_round
      case rel => exact ⟨j + 1, by omega, by rw [Hms.out]⟩
      case measure => have := Hml.out; simp only [strN, bs_size, List.length_append, List.length_singleton]; omega
    · obtain rfl : j = padN s.length := by omega
      have hb : (((midB s (padN s.length)).length : Int) % 64 != 56) = false := by rw [bne_eq_false_iff_eq]; have hpe : padN s.length = (119 - s.length % 64) % 64 := rfl; omega
      have hp63 : padN s.length ≤ 63 := by unfold padN; omega
      have hmax : (midB s (padN s.length)).length ≤ 9223372036854774000 := by omega
      have hpm := padded_mid s
      have Hpm := Lib.hid hpm; have Hml := Lib.hid hml; clear hpm hml Hms
      generalize midB s (padN s.length) = t at *
      have hu : IntKind.u64.wrap (s.length : Int) = s.length := u64_eq rfl (by omega) (by omega)
      have hsI : (0 : Int) ≤ (s.length : Int) := by omega
      go_wp2_with fail
      trace "A"
      have hl8 := len8_length (s.length : Int)
      go_loopw [3, 5] (fun v i wr => ∃ k : Nat, k ≤ 8 ∧ i = .int .i64 (7 - (k : Int)) ∧ v = .string (bs (t ++ (len8 s.length).take k)) ∧ ArrB wr w.heap.size 28 (zerosB 32) ∧ Ext w wr) (fun _ i _ => (intOf i + 1).toNat)
      case atStart => exact ⟨0, by omega, rfl, by simp, hR0, hE0⟩
      case round =>
        clear hR0 hE0
        obtain ⟨k, hk, rfl, rfl, hR, hE⟩ := hrel
        by_cases hlt : k < 8
        · have hit : (k : Int) < 8 := by omega
          have hcc : (0 : Int) ≤ 7 - (k : Int) := by omega
          have htk : ((len8 s.length).take k).length ≤ 8 := by simp; omega
          have h0 : 0 ≤ IntKind.u64.wrap ((s.length : Int) * 8) / 2 ^ (8 * (7 - k)) % 256 := Int.emod_nonneg _ (by omega)
          have h1 : IntKind.u64.wrap ((s.length : Int) * 8) / 2 ^ (8 * (7 - k)) % 256 < 256 := Int.emod_lt_of_pos _ (by omega)
          have hconv := conv_one wr _ h0 h1
          obtain ⟨c8, hc8, ht8⟩ : ∃ c8, UInt8.ofNat (IntKind.u64.wrap ((s.length : Int) * 8) / 2 ^ (8 * (7 - k)) % 256).toNat = c8 ∧ (len8 s.length).take (k + 1) = (len8 s.length).take k ++ [c8] :=
            ⟨_, rfl, by rw [List.take_succ_eq_append_getElem (by rw [hl8]; exact hlt), len8_get _ k hlt]; rfl⟩
          rw [hc8] at hconv
          have Ht8 := Lib.hid ht8; clear ht8 h0 h1 hc8
          have Hl8 := Lib.hid hl8; clear hl8
          go_wp2_with fail
          go_roundw
          case rel => exact ⟨k + 1, by omega, by congr 1; omega, by rw [Ht8.out], Blk.alloc hR _, hE.alloc _⟩
          case measure => simp only [intOf]; omega
        · obtain rfl : k = 8 := by omega
          rw [show (7 : Int) - ((8 : Nat) : Int) = -1 from rfl]
          rw [show (len8 s.length).take 8 = len8 s.length from by rw [← hl8]; exact List.take_length, ← Hpm.out]
          have hplm := padded_length s
          have hpl2 : (padded s).length ≤ 9223372036854775000 := by rw [Hpm.out, List.length_append, hl8]; omega
          clear Hpm Hml hl8 hb hmax
          go_wp2_with fail
          go_at_call 91
          refine (refStart_calls _).mono ?_; rintro e w3 ⟨rfl, hE3⟩
          have hR3 : ArrB w3 w.heap.size 28 (zerosB 32) := Blk.below hR hE3 hR.lt
          have hE4 : Ext w w3 := hE.trans hE3
          have hlr3 := hR3.lt
          clear hR hE hE3
          simp only [start, List.map_cons, List.map_nil, wordV]
          go_wp2_with fail
          change Code.wp _ _ _ _ (w3.alloc (.cells (start.map wordV).toArray 125))
          have hT5 : Arr (w3.alloc (.cells (start.map wordV).toArray 125)) w3.heap.size 125 (absorb start (padded s) 0) := Blk.new _ _ _
          have hR5 : ArrB (w3.alloc (.cells (start.map wordV).toArray 125)) w.heap.size 28 (zerosB 32) := Blk.alloc hR3 _
          have hE5 : Ext w (w3.alloc (.cells (start.map wordV).toArray 125)) := hE4.alloc _
          generalize w3.alloc (.cells (start.map wordV).toArray 125) = w5 at *
          generalize hg6 : w3.heap.size = g6 at *
          clear hR3 hE4 hg6
          clear w3
          trace "D"
          go_loopw [7] (fun v wr => ∃ k : Nat, 64 * k ≤ (padded s).length ∧ v = .int .i64 ((64 * k : Nat) : Int) ∧ Arr wr g6 125 (absorb start (padded s) k) ∧ ArrB wr w.heap.size 28 (zerosB 32) ∧ Ext w wr) (fun v _ => (padded s).length - (intOf v).toNat)
          case atStart => exact ⟨0, by omega, rfl, hT5, hR5, hE5⟩
          case round =>
            clear hT5 hR5 hE5
            obtain ⟨wo, rfl⟩ : ∃ wo : World, wo = wr := ⟨_, rfl⟩
            obtain ⟨k, hk, rfl, hT, hR, hE⟩ := hrel
            have hal := absorb_length start (padded s) start_length k
            have hsum : absorb start (padded s) (k + 1) = step (absorb start (padded s) k) (blockOf ((padded s).drop (64 * k))) := rfl
            by_cases hlt : 64 * k < (padded s).length
            · have hk64 : 64 * k + 64 ≤ (padded s).length := by omega
              generalize hq : 64 * k = q at *
              have Hq := Lib.hid hq; clear hq
              have hit : (q : Int) < ((padded s).length : Int) := by omega
              have Hsum := Lib.hid hsum; clear hsum hplm
              have hdl : ((padded s).drop (q)).length = (padded s).length - q := by simp
              have hd64 : 64 ≤ ((padded s).drop (q)).length := by omega
              have hdg : ∀ i, i < 64 → ∀ (h : q + i < (padded s).length) (h' : i < ((padded s).drop (q)).length), (padded s)[q + i] = ((padded s).drop (q))[i] := fun i _ h h' => by simp
              have Hdg := Lib.hid hdg; clear hdg hdl
              generalize (padded s).drop (q) = d at *
              generalize padded s = T at *
              generalize hsk : absorb start T k = sk at *
              have Hsk := Lib.hid hsk; clear hsk
              go_wp2_with fail
              change Code.wp _ _ _ _ (wo.alloc (.cells ((zeros 16).map wordV).toArray 127))
              have hB0 : Arr (wo.alloc (.cells ((zeros 16).map wordV).toArray 127)) wo.heap.size 127 (packs d 0) := by
                rw [packs_zero]
                exact Blk.new _ _ _
              have hT0 : Arr (wo.alloc (.cells ((zeros 16).map wordV).toArray 127)) g6 125 sk := Blk.alloc hT _
              have hR0 : ArrB (wo.alloc (.cells ((zeros 16).map wordV).toArray 127)) w.heap.size 28 (zerosB 32) := Blk.alloc hR _
              have hE0 : Ext w (wo.alloc (.cells ((zeros 16).map wordV).toArray 127)) := hE.alloc _
              have hlo : g6 < wo.heap.size := hT.lt
              generalize wo.alloc (.cells ((zeros 16).map wordV).toArray 127) = w1 at *
              generalize hgb : wo.heap.size = gb at *
              clear hT hR hE hgb
              clear wo
              go_loopw [9] (fun v wr => ∃ i : Nat, i ≤ 64 ∧ v = .int .i64 (i : Int) ∧ Arr wr gb 127 (packs d i) ∧ Arr wr g6 125 sk ∧ ArrB wr w.heap.size 28 (zerosB 32) ∧ Ext w wr) (fun v _ => 64 - (intOf v).toNat)
              case atStart => exact ⟨0, by omega, rfl, hB0, hT0, hR0, hE0⟩
              case round =>
                clear hB0 hT0 hR0 hE0
                obtain ⟨i, hi, rfl, hB, hT, hR, hE⟩ := hrel
                have hpl := packs_length d i
                by_cases hlt64 : i < 64
                · have hit' : (i : Int) < 64 := by omega
                  have hdn : i < d.length := by omega
                  have hTn : q + i < T.length := by omega
                  have hTi : (q : Int) + (i : Int) < (T.length : Int) := by omega
                  have hq0 : (0 : Int) ≤ (q : Int) + (i : Int) := by omega
                  have hcell := hB.cell (i / 4) (by omega)
                  have hfr := Blk.frozen hB (i / 4)
                  have hgl : gb < wr.heap.size := hB.lt
                  have h16 : (i : Int) / 4 < 16 := by omega
                  have h16n : i / 4 < 16 := by omega
                  have hpb := packs_bound d i hlt64
                  have Hpb := Lib.hid hpb; clear hpb
                  have hgi := Hdg.out i hlt64 hTn hdn
                  have Hgi := Lib.hid hgi; clear hgi
                  go_wp2_with fail
                  refine region_mix 15 (by kernel_rfl) (by kernel_rfl) (fun x => ?_); simp only [List.take_succ_cons, List.take_zero, List.drop_succ_cons, List.drop_zero]
                  repeat (first | (refine mix_quiet (by rfl) (by rfl) (fun K hK => ?_); go_big_quiet_op; refine hK _ ?_; clear hK K) | (refine mix_skip (by rfl) ?_; simp only [Act.put, List.setIfInBounds_toArray, List.set_cons_zero, List.set_cons_succ]))
                  refine mix_nil ?_
                  go_wp2_with fail
                  have hpb := Hpb.out
                  go_roundw
                  case rel =>
                    rw [word_add _ _ hpb.1 hpb.2, Hgi.out]
                    exact ⟨i + 1, by omega, by go_num, by rw [packs_succ d i hlt64 hdn]; exact Arr.set (Blk.grow x hB) (i / 4) _, Blk.far (Blk.grow x hT) (by simp; omega) _, Blk.far (Blk.grow x hR) (by simp; omega) _, (hE.trans (grow_ext x)).setCell (by simp; omega) _⟩
                  case measure => simp [intOf]; omega
                · obtain rfl : i = 64 := by omega
                  change Arr wr gb 127 (blockOf d) at hB
                  have hbl := blockOf_length d
                  generalize blockOf d = bd at *
                  clear hpl
                  go_wp2_with (refine stop_load 125 (.tmp 6) rfl ?_)
                  refine ⟨?_⟩
                  refine wpList_load_row rfl 125 (.tmp 6) rfl g6 (by rfl) 125 _ (0, 0) _ hT Tryz.underlying125 rfl (size8.trans (by simp [hal])) ?_
                  refine wpList_load_row rfl 127 (.tmp 8) rfl gb (by rfl) 127 _ (0, 0) _ hB Tryz.underlying127 rfl (size16.trans (by simp [hbl])) ?_
                  simp only [Act.put, List.setIfInBounds_toArray, List.set_cons_zero, List.set_cons_succ]
                  go_wp2_with fail
                  go_at_call 92
                  (with_reducible refine (refStep_calls sk bd hal hbl _).mono ?_); rintro e w3 ⟨rfl, hE3⟩
                  have hT3 : Arr w3 g6 125 sk := Blk.below hT hE3 hT.lt
                  have hR3 : ArrB w3 w.heap.size 28 (zerosB 32) := Blk.below hR hE3 hR.lt
                  have hE4 : Ext w w3 := hE.trans hE3
                  clear hT hR hE hE3 hB
                  have hsl2 : (step sk bd).length = 8 := by rw [step_length]; exact hal
                  go_wp2_with (refine stop_store 125 (.tmp 6) (.tmp 66) rfl ?_)
                  refine ⟨?_⟩
                  refine wpList_store_row rfl 125 (.tmp 6) (.tmp 66) rfl g6 _ (by rfl) (by rfl) 125 _ hT3 (size8.trans (by simp [hsl2])) (by simp [hal, hsl2]) (by simp [wordV, Value.oneCell']) ?_
                  simp only [Act.put, List.setIfInBounds_toArray, List.set_cons_zero, List.set_cons_succ]
                  have hT5 : Arr (w3.setRow g6 ((step sk bd).map wordV).toArray) g6 125 (step sk bd) := Blk.row hT3 _
                  have hR5 : ArrB (w3.setRow g6 ((step sk bd).map wordV).toArray) w.heap.size 28 (zerosB 32) := Blk.rowFar hR3 (by omega) _
                  have hE5 : Ext w (w3.setRow g6 ((step sk bd).map wordV).toArray) := hE4.row (by omega) _
                  generalize w3.setRow g6 ((step sk bd).map wordV).toArray = w5 at *
                  clear hT3 hR3 hE4
                  go_wp2_with fail
                  have hq := Hq.out
                  go_roundw
                  case rel => exact ⟨k + 1, by omega, by congr 1; omega, by rw [Hsum.out]; exact hT5, hR5, hE5⟩
                  case measure => simp only [intOf]; omega
            · have hke : (padded s).length / 64 = k := by omega
              have hk64 : ¬ ((64 * k : Nat) : Int) < ((padded s).length : Int) := by omega
              have hwh : absorb start (padded s) k = whole start (padded s) := by unfold whole; rw [hke]
              rw [hwh] at hT hal
              clear hwh hsum hke
              generalize hq : 64 * k = q at *
              have Hq := Lib.hid hq; clear hq hplm
              generalize hT' : padded s = T at *
              have HT := Lib.hid hT'; clear hT'
              generalize hnst : whole start T = est at *
              have Hest := Lib.hid hnst; clear hnst
              have hlt' : ¬ (q : Int) < (T.length : Int) := hk64
              go_wp2_with fail
              change Code.wp _ _ _ _ (wo.alloc (.cells ((zerosB 32).map byteV).toArray 28))
              have hol := outB_length est
              have hO0 : ArrB (wo.alloc (.cells ((zerosB 32).map byteV).toArray 28)) wo.heap.size 28 (fillB (outB est) 0) := by
                rw [fillB_zero, hol]
                exact Blk.new _ _ _
              have hT8 : Arr (wo.alloc (.cells ((zerosB 32).map byteV).toArray 28)) g6 125 est := Blk.alloc hT _
              have hR8 : ArrB (wo.alloc (.cells ((zerosB 32).map byteV).toArray 28)) w.heap.size 28 (zerosB 32) := Blk.alloc hR _
              have hE8 : Ext w (wo.alloc (.cells ((zerosB 32).map byteV).toArray 28)) := hE.alloc _
              have hlo3 : g6 < wo.heap.size := hT.lt
              generalize wo.alloc (.cells ((zerosB 32).map byteV).toArray 28) = w8 at *
              generalize hgo : wo.heap.size = go at *
              clear hT hR hE hgo
              clear wo
              have Hen := Lib.hid hal; clear hal
              go_loopw [11] (fun v wr => ∃ i : Nat, i ≤ 32 ∧ v = .int .i64 (i : Int) ∧ ArrB wr go 28 (fillB (outB est) i) ∧ Arr wr g6 125 est ∧ ArrB wr w.heap.size 28 (zerosB 32) ∧ Ext w wr) (fun v _ => 32 - (intOf v).toNat)
              case atStart => exact ⟨0, by omega, rfl, hO0, hT8, hR8, hE8⟩
              case round =>
                clear hO0 hT8 hR8 hE8
                obtain ⟨wo, rfl⟩ : ∃ wo : World, wo = wr := ⟨_, rfl⟩
                obtain ⟨i, hi, rfl, hO, hT, hR, hE⟩ := hrel
                by_cases hlt : i < 32
                · have hit : (i : Int) < 32 := by omega
                  have hfl := fillB_length (outB est) i (by omega)
                  have hcell : wo.cell? ⟨go, i, none⟩ = some (byteV ((fillB (outB est) i).getD i 0)) := by rw [hO.cell i (by omega), List.getD_eq_getElem?_getD, List.getElem?_eq_getElem (by omega)]; rfl
                  have hcs := hT.cell (i / 4) (by have := Hen.out; omega)
                  have hfr := Blk.frozen hO i
                  have h8i : (i : Int) / 4 < 8 := by omega
                  have h8n : i / 4 < 8 := by omega
                  have Hol := Lib.hid hol; have Hfl := Lib.hid hfl; clear hol hfl
                  go_wp2_with fail
                  have hv : Value.int .u8 (wat est (i / 4) / 2 ^ (24 - 8 * (i % 4)) % 256) = byteV ((outB est)[i]'(by rw [Hol.out]; exact hlt)) := by
                    rw [outB_get _ i hlt]
                    exact byteV_mod _
                  go_roundw
                  case rel =>
                    rw [hv]
                    exact ⟨i + 1, by omega, by go_num, by rw [fillB_succ _ _ (by rw [Hol.out]; exact hlt)]; exact ArrB.set hO i _, Blk.far hT (by simp; omega) _, Blk.far hR (by simp; omega) _, hE.setCell (by simp; omega) _⟩
                  case measure => simp [intOf]; omega
                · obtain rfl : i = 32 := by omega
                  rw [show fillB (outB est) 32 = outB est from by rw [← hol]; exact fillB_all _] at hO
                  have hvl : ((outB est).map byteV).toArray.size = 32 := by simp [hol]
                  go_wp2_with (refine stop_load 28 (.tmp 10) rfl ?_)
                  refine ⟨?_⟩
                  refine wpList_load_row rfl 28 (.tmp 10) rfl go (by rfl) 28 _ (0, 0) _ hO Tryz.underlying28 rfl (size32.trans (by rw [hvl])) ?_
                  refine wpList_store_row rfl 28 (.tmp 2) (.tmp 84) rfl w.heap.size _ (by rfl) (by rfl) 28 _ hR (size32.trans (by rw [hvl])) (by rw [hvl]; simp [zerosB]) (by simp [byteV, Value.oneCell']) ?_
                  simp only [Act.put, List.setIfInBounds_toArray, List.set_cons_zero, List.set_cons_succ]
                  go_wp2_with fail
                  refine bodyPost_ret (results_cell_row rfl _ _ w.heap.size 28 _ (0, 0) _ rfl (Blk.row hR _) Tryz.underlying28 rfl (size32.trans (by rw [hvl]))) rfl ⟨?_, hE.row (by omega) _⟩
                  unfold shaOf sumV
                  rw [HT.out, Hest.out]

end Go.Proofs.YtcgnjdkennkheaaGreatDoor
