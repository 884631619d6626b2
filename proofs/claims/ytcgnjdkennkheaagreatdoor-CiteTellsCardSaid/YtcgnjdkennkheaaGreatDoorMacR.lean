/-
  The walks of scriniumref03.Pad, xor and Of.
-/
import Derived.Test.YtcgnjdkennkheaaGreatDoorMacP
import Derived.Test.YtcgnjdkennkheaaGreatDoorHex
import Derived.Test.YtcgnjdkennkheaaGreatDoorMix5
set_option linter.unusedVariables false
set_option maxRecDepth 100000
set_option linter.unusedSimpArgs false
namespace Go.Proofs.YtcgnjdkennkheaaGreatDoor
open Go.RowKit
attribute [local go_sem] bs_size bs_toList2 bs_append bs_extract_end bs_extract_begin bs_get wrap64_b grow_cell grow_frozen

theorem cZr : (ByteArray.mk #[0]) = bs [0] := rfl
theorem zerosB_succ (j : Nat) : zerosB j ++ [0] = zerosB (j + 1) := by unfold zerosB; rw [List.replicate_succ']
set_option maxRecDepth 100000 in
set_option maxHeartbeats 1000000 in
theorem refPad_calls (key : List UInt8) (hk : key.length ≤ 4611686018427387904) (w : World) :
    Calls Tryz.prog 67 #[.string (bs key)] w fun e w' => e = .returned (.string (bs (padB key))) ∧ Ext w w' := by
  obtain ⟨pad, hpad⟩ : ∃ pad, pad = padB key := ⟨_, rfl⟩
  have hpd : pad = keyB key ++ zerosB (64 - (keyB key).length) := hpad
  rw [← hpad]
  have hkl := keyB_length key
  have Hpd := Lib.hid hpd
  clear hpad hpd
  by_cases h : 64 < key.length
  · have h1 : (64 : Int) < (key.length : Int) := by omega
    have hkk := keyB_long key h
    go_enter Tryz.func67, Tryz.ntmps67
    have Hkk := Lib.hid hkk; clear hkk
    go_wp2_with fail
    refine (refOf_calls key _ (by omega)).mono ?_; rintro e w1 ⟨he, e1⟩
    rw [← Hkk.out] at he
    have hdl : (keyB key).length = 32 := by rw [Hkk.out]; exact shaOf_length _
    subst he
    generalize keyB key = d at *
    go_wp2_with fail
    refine (refBytes_calls d hdl _).mono ?_; rintro e w2 ⟨rfl, e2⟩
    have hE : Ext w w2 := e1.trans e2
    have hdl : d.length ≤ 64 := by omega
    have hd0 : bs d = bs (d ++ zerosB 0) := by simp [zerosB]
    clear e1 e2 Hkk
    go_wp2_with fail
    clear hd0
    go_loop [0] (fun v => ∃ j : Nat, j ≤ 64 - d.length ∧ v = .string (bs (d ++ zerosB j))) (fun v => 64 - strN v)
    case atStart => exact ⟨0, by omega, rfl⟩
    case round =>
      obtain ⟨j, hj, rfl⟩ := hrel
      have hml : (d ++ zerosB j).length = d.length + j := by simp [zerosB]
      have hsj : d ++ zerosB (j + 1) = (d ++ zerosB j) ++ [0] := by rw [← zerosB_succ, List.append_assoc]
      have Hsj := Lib.hid hsj; clear hsj
      by_cases hlt : j < 64 - d.length
      · have hmm : (d ++ zerosB j).length < 64 := by omega
        have hmI : ((d ++ zerosB j).length : Int) < 64 := by omega
        have Hml := Lib.hid hml; clear hml
        generalize d ++ zerosB j = t at *
        go_wp2_with fail
        simp only [cZr]
        go_round
        case rel => exact ⟨j + 1, by omega, by rw [Hsj.out]; try rw [bs_append]⟩
        case measure => have := Hml.out; simp only [strN, bs_size, bs_append, List.length_append, List.length_singleton]; omega
      · obtain rfl : j = 64 - d.length := by omega
        have hmm : ¬ ((d ++ zerosB (64 - d.length)).length : Int) < 64 := by omega
        rw [← Hpd.out] at *
        clear hml
        go_wp2_with fail
        go_ret
        exact ⟨rfl, hE⟩
  · have h1 : ¬ (64 : Int) < (key.length : Int) := by omega
    have hkk := keyB_short key h
    rw [hkk] at Hpd hkl
    have hd0 : bs key = bs (key ++ zerosB 0) := by simp [zerosB]
    clear hkk h
    go_enter Tryz.func67, Tryz.ntmps67
    have Hd0 := Lib.hid hd0; clear hd0
    go_wp2_with fail
    rw [Hd0.out]
    clear Hd0
    go_loop [0] (fun v => ∃ j : Nat, j ≤ 64 - key.length ∧ v = .string (bs (key ++ zerosB j))) (fun v => 64 - strN v)
    case atStart => exact ⟨0, by omega, rfl⟩
    case round =>
      obtain ⟨j, hj, rfl⟩ := hrel
      have hml : (key ++ zerosB j).length = key.length + j := by simp [zerosB]
      have hsj : key ++ zerosB (j + 1) = (key ++ zerosB j) ++ [0] := by rw [← zerosB_succ, List.append_assoc]
      have Hsj := Lib.hid hsj; clear hsj
      by_cases hlt : j < 64 - key.length
      · have hmm : (key ++ zerosB j).length < 64 := by omega
        have hmI : ((key ++ zerosB j).length : Int) < 64 := by omega
        have Hml := Lib.hid hml; clear hml
        generalize key ++ zerosB j = t at *
        go_wp2_with fail
        simp only [cZr]
        go_round
        case rel => exact ⟨j + 1, by omega, by rw [Hsj.out]; try rw [bs_append]⟩
        case measure => have := Hml.out; simp only [strN, bs_size, bs_append, List.length_append, List.length_singleton]; omega
      · obtain rfl : j = 64 - key.length := by omega
        have hmm : ¬ ((key ++ zerosB (64 - key.length)).length : Int) < 64 := by omega
        rw [← Hpd.out] at *
        clear hml
        go_wp2_with fail
        go_ret
        exact ⟨rfl, Ext.refl _⟩

set_option maxRecDepth 100000 in
set_option maxHeartbeats 1000000 in
theorem xor_calls (s : List UInt8) (hs : s.length = 64) (c : UInt8) (w : World) :
    Calls Tryz.prog 68 #[.string (bs s), .int .u8 c.toNat] w fun e w' => e = .returned (.string (bs (xorB s c))) ∧ Ext w w' := by
  obtain ⟨i0, hi, hz0, hz1, hz2⟩ := info_parts info_u8
  have hzl : (xorB s c).length = 64 := by rw [xorB_length]; exact hs
  obtain ⟨z, hz⟩ : ∃ z, z = xorB s c := ⟨_, rfl⟩
  have hget : ∀ i, (h : i < 64) → (h' : i < z.length) → z[i] = s[i]'(by omega) ^^^ c := fun i h h' => by subst hz; exact xorB_get s c i _
  rw [← hz] at hzl ⊢
  have Hget := Lib.hid hget; have Hs := Lib.hid hs
  have hsI : (s.length : Int) = 64 := by omega
  clear hget hz
  go_enter Tryz.func68, Tryz.ntmps68
  have Hzl := Lib.hid hzl; clear hzl
  go_wp2_with (at_make; refine wpList_make_full _ rfl _ _ 87 rfl w.heap.size 5 i0 (.int .u8 0) 1 Tryz.underlying87 hi hz0 hz1 .i64 .i64 _ _ 64 rfl rfl (by omega) (by omega) (by rw [hz2]; omega) (by unfold maxLen; omega) (Nat.le_refl _) ?_; intro w2 hown2 hgrow2)
  rw [made_bytes] at hown2
  have hB2 : ArrB w2 w.heap.size 5 (fillB z 0) := by
    rw [fillB_zero, Hzl.out]
    exact blk_of_own hown2 (by omega)
  have hE2 : Ext w w2 := ⟨hgrow2.os, hgrow2.tape, hgrow2.output, hgrow2.size, fun k hk => hgrow2.block k hk (by simp)⟩
  clear hown2 hgrow2
  go_loopw [6] (fun v wr => ∃ i : Nat, i ≤ 64 ∧ v = .int .i64 (i : Int) ∧ ArrB wr w.heap.size 5 (fillB z i) ∧ Ext w wr) (fun v _ => 64 - (intOf v).toNat)
  case atStart => exact ⟨0, by omega, rfl, hB2, hE2⟩
  case round =>
    clear hB2 hE2
    obtain ⟨i, hi', rfl, hB, hE⟩ := hrel
    by_cases hlt : i < 64
    · have hit : (i : Int) < 64 := by omega
      have hfl := fillB_length z i (by rw [Hzl.out]; omega)
      have hcell : wr.cell? ⟨w.heap.size, i, none⟩ = some (byteV ((fillB z i).getD i 0)) := by rw [hB.cell i (by have := Hzl.out; omega), List.getD_eq_getElem?_getD, List.getElem?_eq_getElem (by have := Hzl.out; omega)]; rfl
      have hfr := Blk.frozen hB i
      have hgl := hB.lt
      have his : i < s.length := by omega
      have hfs := fillB_succ z i (by rw [Hzl.out]; exact hlt)
      rw [Hget.out i hlt (by rw [Hzl.out]; exact hlt)] at hfs
      have Hfs := Lib.hid hfs; have Hfl := Lib.hid hfl; clear hfs hfl
      go_wp2_with fail
      go_roundw
      case rel =>
        rw [byte_xor]
        exact ⟨i + 1, by omega, by go_num, by rw [Hfs.out]; exact ArrB.set hB i _, hE.setCell (by simp) _⟩
      case measure => simp [intOf]; omega
    · obtain rfl : i = 64 := by omega
      rw [show fillB z 64 = z from by have := fillB_all z; rwa [Hzl.out] at this] at hB
      have hconv : (convert 87 9 (.slice (some ⟨w.heap.size, 0, none⟩) 64 64)).run Tryz.prog wr = .ok (.string (bs z)) wr := conv_bytes wr _ _ z 64 64 Hzl.out (Blk.rd hB)
      go_wp2_with fail
      go_ret
      exact ⟨rfl, hE⟩

theorem xor54 (s : List UInt8) (hs : s.length = 64) (w : World) : Calls Tryz.prog 68 #[.string (bs s), .int .u8 54] w fun e w' => e = .returned (.string (bs (xorB s 54))) ∧ Ext w w' := xor_calls s hs 54 w
theorem xor92 (s : List UInt8) (hs : s.length = 64) (w : World) : Calls Tryz.prog 68 #[.string (bs s), .int .u8 92] w fun e w' => e = .returned (.string (bs (xorB s 92))) ∧ Ext w w' := xor_calls s hs 92 w

set_option maxRecDepth 100000 in
set_option maxHeartbeats 1000000 in
theorem refMac_calls (key s : List UInt8) (hk : key.length ≤ 4611686018427387904) (hs : s.length ≤ 4611686018427380000) (w : World) :
    Calls Tryz.prog 31 #[.string (bs key), .string (bs s)] w fun e w' => e = .returned (sumV (macOf key s)) ∧ Ext w w' := by
  obtain ⟨mac, hmac⟩ : ∃ mac, mac = macOf key s := ⟨_, rfl⟩
  rw [← hmac]
  have hmac2 : mac = shaOf (xorB (padB key) 92 ++ shaOf (xorB (padB key) 54 ++ s)) := hmac
  have Hmac := Lib.hid hmac2; clear hmac hmac2
  have hpl := padB_length key
  have Hpl := Lib.hid hpl; clear hpl
  go_enter Tryz.func31, Tryz.ntmps31
  go_wp2_with fail
  change Calls _ _ _ (w.alloc (.cells ((zerosB 32).map byteV).toArray 28)) _
  have hR0 : ArrB (w.alloc (.cells ((zerosB 32).map byteV).toArray 28)) w.heap.size 28 (zerosB 32) := Blk.new _ _ _
  have hE0 := (Ext.refl w).alloc (.cells ((zerosB 32).map byteV).toArray 28)
  generalize w.alloc (.cells ((zerosB 32).map byteV).toArray 28) = w0 at *
  refine (refPad_calls key hk _).mono ?_; rintro e w1 ⟨rfl, e1⟩
  go_wp2_with fail
  refine (xor54 (padB key) Hpl.out _).mono ?_; rintro e w2 ⟨rfl, e2⟩
  have hxi : (xorB (padB key) 54).length = 64 := by rw [xorB_length]; exact Hpl.out
  generalize xorB (padB key) 54 = xi at *
  have hxl : (xi ++ s).length ≤ 4611686018427387904 := by rw [List.length_append]; omega
  have hxb : ¬ (9223372036854775807 < xi.length + s.length) := by omega
  have hxl2 : xi.length + s.length ≤ 4611686018427387904 := by omega
  have Hxi := Lib.hid hxi; clear hxi
  go_wp2_with fail
  refine (refOf_calls (xi ++ s) _ hxl).mono ?_; rintro e w3 ⟨rfl, e3⟩
  have hdl := shaOf_length (xi ++ s)
  generalize shaOf (xi ++ s) = d at *
  have hE3 : Ext w0 w3 := (e1.trans e2).trans e3
  have hR3 := Blk.below hR0 hE3 hR0.lt
  replace hE3 := hE0.trans hE3
  clear hR0 hE0 e1 e2 e3 hxl hxb hxl2
  have hdz : (d.map byteV).toArray.size = 32 := by simp [hdl]
  unfold sumV
  go_wp2_with (refine stop_store 28 (.tmp 6) (.tmp 13) rfl ?_)
  refine ⟨?_⟩
  change wpList _ _ _ _ _ (w3.alloc (.cells ((zerosB 32).map byteV).toArray 28))
  refine wpList_store_row rfl 28 (.tmp 6) (.tmp 13) rfl w3.heap.size _ (by rfl) (by rfl) 28 _ (Blk.new w3 _ _) (size32.trans (by rw [hdz])) (by rw [hdz]; rfl) (by simp [byteV, Value.oneCell']) ?_
  simp only [Act.put, List.setIfInBounds_toArray, List.set_cons_zero, List.set_cons_succ]
  have hD4 : ArrB ((w3.alloc (.cells ((zerosB 32).map byteV).toArray 28)).setRow w3.heap.size (d.map byteV).toArray) w3.heap.size 28 d := Blk.row (Blk.new w3 _ _) _
  have hR4 := Blk.rowFar (Blk.alloc hR3 (.cells ((zerosB 32).map byteV).toArray 28)) (show w.heap.size ≠ w3.heap.size by have := hR3.lt; omega) (d.map byteV).toArray
  have hE4 : Ext w ((w3.alloc (.cells ((zerosB 32).map byteV).toArray 28)).setRow w3.heap.size (d.map byteV).toArray) := (hE3.alloc _).row hE3.size _
  clear hR3 hE3
  generalize (w3.alloc (.cells ((zerosB 32).map byteV).toArray 28)).setRow w3.heap.size (d.map byteV).toArray = w4 at *
  generalize w3.heap.size = gd at *
  go_wp2_with fail
  refine region_mix 6 (by kernel_rfl) (by kernel_rfl) (fun x => ?_); simp only [List.take_succ_cons, List.take_zero, List.drop_succ_cons, List.drop_zero]
  repeat (first | (refine mix_quiet (by rfl) (by rfl) (fun K hK => ?_); go_big_quiet_op; refine hK _ ?_; clear hK K) | (refine mix_skip (by rfl) ?_; simp only [Act.put, List.setIfInBounds_toArray, List.set_cons_zero, List.set_cons_succ]))
  (refine mix_loud (by rfl) (by rfl) (fun K E hK => ?_); go_big_op)
  refine (xor92 (padB key) Hpl.out _).mono ?_; rintro e w5 ⟨rfl, e5⟩
  obtain ⟨x5, rfl⟩ := more_ext _ e5
  refine hK _ _ ⟨_, rfl⟩ ?_; clear hK K E
  have hxo : (xorB (padB key) 92).length = 64 := by rw [xorB_length]; exact Hpl.out
  generalize xorB (padB key) 92 = xo at *
  refine mix_row (by rfl) (by rfl) 28 (.tmp 6) rfl gd (by rfl) _ _ _ hD4 Tryz.underlying28 rfl (size32.trans (by simp [hdl])) ?_
  simp only [Act.put, List.setIfInBounds_toArray, List.set_cons_zero, List.set_cons_succ]
  (refine mix_loud (by rfl) (by rfl) (fun K E hK => ?_); go_big_op)
  refine (refBytes_calls d hdl _).mono ?_; rintro e w6 ⟨rfl, e6⟩
  obtain ⟨x6, rfl⟩ := more_ext _ e6
  refine hK _ _ ⟨_, rfl⟩ ?_; clear hK K E
  have hxb : ¬ (9223372036854775807 < xo.length + d.length) := by omega
  have hxl : (xo ++ d).length ≤ 4611686018427387904 := by rw [List.length_append]; omega
  have Hxo := Lib.hid hxo; have Hdl := Lib.hid hdl; clear hxo hdl
  repeat (first | (refine mix_quiet (by rfl) (by rfl) (fun K hK => ?_); go_big_quiet_op; refine hK _ ?_; clear hK K) | (refine mix_skip (by rfl) ?_; simp only [Act.put, List.setIfInBounds_toArray, List.set_cons_zero, List.set_cons_succ]))
  (refine mix_loud (by rfl) (by rfl) (fun K E hK => ?_); go_big_op)
  refine (refOf_calls (xo ++ d) _ hxl).mono ?_; rintro e w7 ⟨rfl, e7⟩
  obtain ⟨x7, rfl⟩ := more_ext _ e7
  refine hK _ _ ⟨_, rfl⟩ ?_; clear hK K E
  rw [← Hmac.out]
  have hml : (mac.map byteV).toArray.size = 32 := by rw [Hmac.out]; simp [shaOf_length]
  have hR7 := Blk.grow x7 hR4
  have hE7 := hE4.trans (grow_ext x7)
  unfold sumV
  refine mix_nil ?_
  refine wpList_store_row rfl 28 (.tmp 4) (.tmp 19) rfl w.heap.size _ (by rfl) (by rfl) 28 _ hR7 (size32.trans (by rw [hml])) (by rw [hml]; simp [zerosB]) (by simp [byteV, Value.oneCell']) ?_
  simp only [Act.put, List.setIfInBounds_toArray, List.set_cons_zero, List.set_cons_succ]
  go_wp2_with fail
  exact bodyPost_ret (results_cell_row rfl _ _ w.heap.size 28 _ (0, 0) _ rfl (Blk.row hR7 _) Tryz.underlying28 rfl (size32.trans (by rw [hml]))) rfl ⟨rfl, hE7.row (Nat.le_refl _) _⟩

end Go.Proofs.YtcgnjdkennkheaaGreatDoor
