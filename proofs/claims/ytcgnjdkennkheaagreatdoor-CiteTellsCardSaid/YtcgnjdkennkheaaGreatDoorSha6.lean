/-
  The walks of (*sha.Hash).Sum, New, Len, Of.
-/
import Derived.Test.YtcgnjdkennkheaaGreatDoorSha5
import Derived.Test.YtcgnjdkennkheaaGreatDoorShelf
set_option linter.unusedVariables false
set_option maxRecDepth 100000
set_option linter.unusedSimpArgs false
namespace Go.Proofs.YtcgnjdkennkheaaGreatDoor
open Go.RowKit
attribute [local go_sem] bs_size bs_toList2 bs_append bs_extract_end bs_extract_begin bs_get wrap64_b grow_cell grow_frozen

/-- An array of bytes at block g. -/
def ArrB (w : World) (g : Nat) (t : TypeId) (l : List UInt8) : Prop := Blk w g t (l.map byteV).toArray
theorem ArrB.set {w : World} {g : Nat} {t : TypeId} {l : List UInt8} (h : ArrB w g t l) (i : Nat) (c : UInt8) : ArrB (w.setCell ⟨g, i, none⟩ (byteV c)) g t (l.set i c) := by
  have := Blk.set_ h i (byteV c)
  simpa [ArrB, List.map_set] using this
theorem ArrB.cell {w : World} {g : Nat} {t : TypeId} {l : List UInt8} (h : ArrB w g t l) (i : Nat) (hi : i < l.length) : w.cell? ⟨g, i, none⟩ = some (byteV l[i]) := by
  rw [Blk.cell h i]
  simp [hi]
def zerosB (n : Nat) : List UInt8 := List.replicate n 0
/-- The first i of l, then zeros. -/
def fillB (l : List UInt8) (i : Nat) : List UInt8 := l.take i ++ zerosB (l.length - i)
theorem fillB_zero (l : List UInt8) : fillB l 0 = zerosB l.length := by simp [fillB]
theorem fillB_all (l : List UInt8) : fillB l l.length = l := by simp [fillB, zerosB]
theorem fillB_length (l : List UInt8) (i : Nat) (h : i ≤ l.length) : (fillB l i).length = l.length := by simp [fillB, zerosB]; omega
theorem fillB_succ (l : List UInt8) (i : Nat) (h : i < l.length) : fillB l (i + 1) = (fillB l i).set i l[i] := by
  unfold fillB zerosB
  apply List.ext_getElem?
  intro j
  have hl : (l.take i).length = i := by simp; omega
  have hl' : (l.take (i + 1)).length = i + 1 := by simp; omega
  by_cases hj : j = i
  · subst hj
    rw [List.getElem?_set_self (by simp; omega), List.getElem?_append_left (by simp; omega)]
    simp [List.getElem?_take, h]
  · rw [List.getElem?_set_ne (by omega)]
    rcases Nat.lt_or_ge j i with h' | h'
    · rw [List.getElem?_append_left (by omega), List.getElem?_append_left (by simp; omega)]
      simp [List.getElem?_take, h', show j < i + 1 from by omega]
    · rw [List.getElem?_append_right (by omega), List.getElem?_append_right (by simp; omega)]
      simp only [List.getElem?_replicate, List.length_take]
      by_cases h64 : j < l.length
      · rw [if_pos (by omega), if_pos (by omega)]
      · rw [if_neg (by omega), if_neg (by omega)]
theorem size32 : (Tryz.prog.info? 28).map (·.size) = some 32 := by kernel_rfl
def sumV (l : List UInt8) : Value := .agg (l.map byteV).toArray
theorem len8_length (n : Int) : (len8 n).length = 8 := by simp [len8]
theorem len8_get (n : Int) (i : Nat) (hi : i < 8) : (len8 n)[i]'(by rw [len8_length]; exact hi) = UInt8.ofNat ((n * 8 % 18446744073709551616) / 2 ^ (8 * (7 - i)) % 256).toNat := by simp [len8]
theorem byteV_mod (x : Int) : Value.int .u8 (x % 256) = byteV (UInt8.ofNat (x % 256).toNat) := by
  unfold byteV
  have h0 : 0 ≤ x % 256 := Int.emod_nonneg _ (by omega)
  have h1 : x % 256 < 256 := Int.emod_lt_of_pos _ (by omega)
  congr 1
  rw [UInt8.toNat_ofNat', Nat.mod_eq_of_lt (by omega)]
  omega

theorem outB_get (st : List Int) (i : Nat) (hi : i < 32) : (outB st)[i]'(by rw [outB_length]; exact hi) = UInt8.ofNat (wat st (i / 4) / 2 ^ (24 - 8 * (i % 4)) % 256).toNat := by simp [outB]
theorem c128 : (ByteArray.mk #[128]) = bs [128] := rfl
theorem rep0 (n : Nat) : Lib.repeatL [0] n = List.replicate n (0 : UInt8) := by
  induction n with
  | zero => rfl
  | succ n ih => simp [Lib.repeatL, ih, List.replicate_succ]
theorem Rep_calls (n : Nat) (hn : n ≤ 1000000) (w : World) : Calls Tryz.prog 122 #[.string ⟨#[0]⟩, .int .i64 (n : Int)] w fun e w' => e = .returned (.string (bs (List.replicate n 0))) ∧ Ext w w' :=
  (Tryz.strings_Repeat ⟨#[0]⟩ n w (by omega) (by show 1 * n ≤ _; omega)).mono fun e w' ⟨he, hw⟩ => ⟨by rw [he]; show Ending.returned (.string ⟨(Lib.repeatL [0] n).toArray⟩) = _; rw [rep0]; rfl, hw⟩
attribute [local go_sem] c128
theorem New_calls (w : World) : Calls Tryz.prog 109 #[] w fun e w' => e = .returned (.pointer (some ⟨w.heap.size, 0, none⟩)) ∧ HashNew w' w.heap.size ∧ Ext w w' := by
  go_enter Tryz.func109, Tryz.ntmps109
  go_wp2
  go_ret
  exact ⟨rfl, Blk.new w _ _, (Ext.refl w).alloc _⟩

set_option maxRecDepth 100000 in
set_option maxHeartbeats 1000000 in
theorem Sum_begun (all : List UInt8) (g : Nat) (w : World) (KW : Keys w) (hg : HashAt w g all) (hs : all.length ≤ 4611686018427387904) :
    Calls Tryz.prog 111 #[.pointer (some ⟨g, 0, none⟩)] w fun e w' => e = .returned (sumV (shaOf all)) ∧ Ext w w' := by
  unfold HashAt at hg
  have hgl : g < w.heap.size := hg.lt
  go_enter Tryz.func111, Tryz.ntmps111
  go_wp2_with fail
  change Calls _ _ _ (w.alloc (.cells ((zerosB 32).map byteV).toArray 28)) _
  refine (Start_calls _).mono ?_; rintro e w1 ⟨rfl, hE1⟩
  have hR : ArrB w1 w.heap.size 28 (zerosB 32) := Blk.below (Blk.new w _ _) hE1 (by simp)
  have hE2 : Ext w w1 := ((Ext.refl w).alloc _).trans hE1
  have hg1 : HashV w1 g true (whole start all) (left all) all.length := Blk.below hg hE2 hgl
  have hlr : w.heap.size < w1.heap.size := hR.lt
  clear hE1 hg
  simp only [start, List.map_cons, List.map_nil, wordV]
  have hc := fun i => Blk.cell hg1 i
  have c0 := hc 0; have c1 := hc 1; have c2 := hc 2; have c3 := hc 3; have c4 := hc 4; have c5 := hc 5; have c6 := hc 6; have c7 := hc 7; have c8 := hc 8; have c9 := hc 9; have c10 := hc 10
  simp only [hashV, List.getElem?_toArray, List.getElem?_cons_zero, List.getElem?_cons_succ] at c0 c1 c2 c3 c4 c5 c6 c7 c8 c9 c10
  clear hc
  have hgl1 : g < w1.heap.size := hg1.lt
  go_wp2_with fail
  change Code.wp _ _ _ _ (w1.alloc (.cells (start.map wordV).toArray 125))
  have hT : Arr (w1.alloc (.cells (start.map wordV).toArray 125)) w1.heap.size 125 start := Blk.new _ _ _
  have hR2 : ArrB (w1.alloc (.cells (start.map wordV).toArray 125)) w.heap.size 28 (zerosB 32) := Blk.alloc hR _
  have hg2 : HashV (w1.alloc (.cells (start.map wordV).toArray 125)) g true (whole start all) (left all) all.length := Blk.alloc hg1 _
  have hE3 : Ext w (w1.alloc (.cells (start.map wordV).toArray 125)) := hE2.alloc _
  have hE12 : Ext w1 (w1.alloc (.cells (start.map wordV).toArray 125)) := (Ext.refl w1).alloc _
  generalize w1.alloc (.cells (start.map wordV).toArray 125) = w2 at *
  obtain ⟨g3, hg3⟩ : ∃ g3, g3 = w1.heap.size := ⟨_, rfl⟩
  rw [← hg3] at hT hlr ⊢
  have hg3l : w1.heap.size ≤ g3 := by omega
  clear hR hg3 hg2
  have hu : IntKind.u64.wrap (all.length : Int) = all.length := u64_eq rfl (by omega) (by omega)
  refine region_at0 w1 hE12 (by kernel_rfl) (by kernel_rfl) ?_
  repeat (first | (refine mix_quiet (by rfl) (by rfl) (fun K hK => ?_); go_big_quiet_op; refine hK _ ?_; clear hK K) | (refine mix_skip (by rfl) ?_; simp only [Act.put, List.setIfInBounds_toArray, List.set_cons_zero, List.set_cons_succ]))
  refine (mix_loud (by rfl) (by rfl) (fun K E hK => ?_))
  refine wp_store_row 125 (.tmp 3) (.tmp 23) rfl g3 _ (by rfl) (by rfl) 125 _ (Blk.drew hT) (by exact size8) (by simp [start]) (by simp [Value.oneCell']) ?_
  refine hK _ _ (more_of (hE12.drew.row hg3l _)) ?_; clear hK K E
  simp only [Act.put, List.setIfInBounds_toArray, List.set_cons_zero, List.set_cons_succ]
  repeat (first | (refine mix_quiet (by rfl) (by rfl) (fun K hK => ?_); go_big_quiet_op; refine hK _ ?_; clear hK K) | (refine mix_skip (by rfl) ?_; simp only [Act.put, List.setIfInBounds_toArray, List.set_cons_zero, List.set_cons_succ]))
  refine mix_nil ?_
  have hT5 : Arr ((w2.drew).setRow g3 #[.int .u32 (wat (whole start all) 0), .int .u32 (wat (whole start all) 1), .int .u32 (wat (whole start all) 2), .int .u32 (wat (whole start all) 3), .int .u32 (wat (whole start all) 4), .int .u32 (wat (whole start all) 5), .int .u32 (wat (whole start all) 6), .int .u32 (wat (whole start all) 7)]) g3 125 (eight (whole start all)) := Blk.row (Blk.drew hT) _
  have hR5 : ArrB ((w2.drew).setRow g3 #[.int .u32 (wat (whole start all) 0), .int .u32 (wat (whole start all) 1), .int .u32 (wat (whole start all) 2), .int .u32 (wat (whole start all) 3), .int .u32 (wat (whole start all) 4), .int .u32 (wat (whole start all) 5), .int .u32 (wat (whole start all) 6), .int .u32 (wat (whole start all) 7)]) w.heap.size 28 (zerosB 32) := Blk.rowFar (Blk.drew hR2) (by omega) _
  have hE5 : Ext w ((w2.drew).setRow g3 #[.int .u32 (wat (whole start all) 0), .int .u32 (wat (whole start all) 1), .int .u32 (wat (whole start all) 2), .int .u32 (wat (whole start all) 3), .int .u32 (wat (whole start all) 4), .int .u32 (wat (whole start all) 5), .int .u32 (wat (whole start all) 6), .int .u32 (wat (whole start all) 7)]) := hE3.drew.row (by omega) _
  generalize (w2.drew).setRow g3 #[.int .u32 (wat (whole start all) 0), .int .u32 (wat (whole start all) 1), .int .u32 (wat (whole start all) 2), .int .u32 (wat (whole start all) 3), .int .u32 (wat (whole start all) 4), .int .u32 (wat (whole start all) 5), .int .u32 (wat (whole start all) 6), .int .u32 (wat (whole start all) 7)] = w5 at *
  clear hT hR2 hE3 hE12 hg1 hE2 c0 c1 c2 c3 c4 c5 c6 c7 c8 c9 c10 hgl1 hu hg3l
  clear w2 w1
  rw [eight_eq (whole_length _ _ start_length)] at hT5
  have hll := left_length all
  have hr63 : (left all).length ≤ 63 := by omega
  have Hll := Lib.hid hll; clear hll
  have hwl := whole_length start all start_length
  have hpad : whole (whole start all) (left all ++ ([128] ++ List.replicate ((119 - (left all).length) % 64) 0 ++ len8 all.length)) = whole start (padded all) := by
    rw [whole_append]
    congr 1
    unfold padded
    rw [Hll.out]
    simp [List.append_assoc]
  have Hpad := Lib.hid hpad; clear hpad
  generalize whole start all = st at *
  generalize left all = rest at *
  have hnp0 : (119 - (rest.length : Int)) % 64 = (((119 - rest.length) % 64 : Nat) : Int) := by omega
  go_wp2_with fail
  rw [hnp0]
  clear hnp0
  generalize hnp : (119 - rest.length) % 64 = np at *
  have Hnp := Lib.hid hnp; clear hnp
  change Code.wp _ _ _ _ (w5.alloc (.cells ((zerosB 8).map byteV).toArray 170))
  have hl8 := len8_length (all.length : Int)
  have hN0 : ArrB (w5.alloc (.cells ((zerosB 8).map byteV).toArray 170)) w5.heap.size 170 (fillB (len8 all.length) 0) := by
    rw [fillB_zero, hl8]
    exact Blk.new _ _ _
  have hT0 : Arr (w5.alloc (.cells ((zerosB 8).map byteV).toArray 170)) g3 125 st := Blk.alloc hT5 _
  have hR0 : ArrB (w5.alloc (.cells ((zerosB 8).map byteV).toArray 170)) w.heap.size 28 (zerosB 32) := Blk.alloc hR5 _
  have hE0 : Ext w (w5.alloc (.cells ((zerosB 8).map byteV).toArray 170)) := hE5.alloc _
  have hl3 : g3 < w5.heap.size := hT5.lt
  generalize w5.alloc (.cells ((zerosB 8).map byteV).toArray 170) = w6 at *
  generalize hgn : w5.heap.size = gn at *
  clear hT5 hR5 hE5 hgn
  clear w5
  have hsI : (0 : Int) ≤ (all.length : Int) := by omega
  go_loopw [37] (fun v wr => ∃ i : Nat, i ≤ 8 ∧ v = .int .i64 (i : Int) ∧ ArrB wr gn 170 (fillB (len8 all.length) i) ∧ Arr wr g3 125 st ∧ ArrB wr w.heap.size 28 (zerosB 32) ∧ Ext w wr) (fun v _ => 8 - (intOf v).toNat)
  case atStart => exact ⟨0, by omega, rfl, hN0, hT0, hR0, hE0⟩
  case round =>
    clear hN0 hT0 hR0 hE0
    obtain ⟨wo, rfl⟩ : ∃ wo : World, wo = wr := ⟨_, rfl⟩
    obtain ⟨i, hi, rfl, hN, hT, hR, hE⟩ := hrel
    by_cases hlt : i < 8
    · have hit : (i : Int) < 8 := by omega
      have hfl := fillB_length (len8 all.length) i (by omega)
      have hcell : wo.cell? ⟨gn, i, none⟩ = some (byteV ((fillB (len8 all.length) i).getD i 0)) := by rw [hN.cell i (by omega), List.getD_eq_getElem?_getD, List.getElem?_eq_getElem (by omega)]; rfl
      have hfr := Blk.frozen hN i
      have hsh : ((8 * (7 - (i : Int))).toNat) = 8 * (7 - i) := by omega
      have Hsh := Lib.hid hsh; clear hsh
      have Hl8 := Lib.hid hl8; have Hfl := Lib.hid hfl; clear hl8 hfl
      go_wp2_with fail
      have hv : Value.int .u8 (IntKind.u64.wrap ((all.length : Int) * 8) / 2 ^ (8 * (7 - i)) % 256) = byteV ((len8 all.length)[i]'(by rw [Hl8.out]; exact hlt)) := by
        rw [len8_get _ i hlt]
        exact byteV_mod _
      go_roundw
      case rel =>
        rw [hv]
        exact ⟨i + 1, by omega, by go_num, by rw [fillB_succ _ _ (by rw [Hl8.out]; exact hlt)]; exact ArrB.set hN i _, Blk.far hT (by simp; omega) _, Blk.far hR (by simp; omega) _, hE.setCell (by simp; omega) _⟩
      case measure => simp [intOf]; omega
    · obtain rfl : i = 8 := by omega
      rw [show fillB (len8 all.length) 8 = len8 all.length from by rw [← hl8]; exact fillB_all _] at hN
      have d0 := hT.cell 0 (by omega); have d1 := hT.cell 1 (by omega); have d2 := hT.cell 2 (by omega); have d3 := hT.cell 3 (by omega); have d4 := hT.cell 4 (by omega); have d5 := hT.cell 5 (by omega); have d6 := hT.cell 6 (by omega); have d7 := hT.cell 7 (by omega)
      have hgl3 : g3 < wo.heap.size := hT.lt
      have hNl := hN.lt
      have hconv : ∀ x : More wo, (convert 87 9 (.slice (some ⟨gn, 0, none⟩) 8 8)).run Tryz.prog (grow wo x) = .ok (.string (bs (len8 all.length))) (grow wo x) := fun x =>
        conv_bytes (grow wo x) _ _ (len8 all.length) 8 8 hl8 (Blk.rd (Blk.grow x hN))
      have hnp : np ≤ 63 := by have := Hnp.out; omega
      have Hl8 := Lib.hid hl8; clear hl8
      generalize len8 (all.length : Int) = l8 at *
      have hl8' : l8.length ≤ 8 := by have := Hl8.out; omega
      go_wp2_with fail
      refine region_bar0 13 (by kernel_rfl) (by kernel_rfl) (fun x => ?_)
      repeat (first | (refine bar_quiet (by decide +kernel) (by rfl) (by rfl) (fun K hK => ?_); go_big_quiet_op; refine hK _ ?_; clear hK K) | (refine bar_still (by rfl) (by rfl) (fun K hK => ?_); go_big_quiet_op; refine hK _ ?_; clear hK K) | (refine bar_skip (by rfl) ?_; simp only [Act.put, List.setIfInBounds_toArray, List.set_cons_zero, List.set_cons_succ]))
      (refine bar_loud (by rfl) (by rfl) (fun K E hK => ?_); go_big_op)
      go_at_call 122
      refine (Rep_calls np (by omega) _).mono ?_; rintro e w3 ⟨rfl, hE3⟩
      obtain ⟨x3, rfl⟩ := more_ext x hE3; clear hE3
      refine hK _ _ ⟨_, rfl⟩ ?_; clear hK K E
      repeat (first | (refine bar_quiet (by decide +kernel) (by rfl) (by rfl) (fun K hK => ?_); go_big_quiet_op; refine hK _ ?_; clear hK K) | (refine bar_still (by rfl) (by rfl) (fun K hK => ?_); go_big_quiet_op; refine hK _ ?_; clear hK K) | (refine bar_skip (by rfl) ?_; simp only [Act.put, List.setIfInBounds_toArray, List.set_cons_zero, List.set_cons_succ]))
      have h8 : whole (eight st) (rest ++ 128 :: (List.replicate np 0 ++ l8)) = eight (whole start (padded all)) := by
        rw [eight_eq hwl, eight_eq (whole_length _ _ start_length), ← Hpad.out]
        simp [List.append_assoc]
      have H8 := Lib.hid h8; clear h8
      (refine bar_loud (by rfl) (by rfl) (fun K E hK => ?_); go_big_op)
      go_at_call 121
      refine (blocks_calls (eight st) (rest ++ 128 :: (List.replicate np 0 ++ l8)) rfl (by simp; omega) _ ((KW.ext hE).ext (grow_ext x3))).mono ?_
      rintro e w3 ⟨he, hE3⟩
      rw [H8.out] at he
      subst he
      obtain ⟨x4, rfl⟩ := more_ext x3 hE3; clear hE3
      refine hK _ _ ⟨_, rfl⟩ ?_; clear hK K E
      have hnl := whole_length start (padded all) start_length
      have Hnl := Lib.hid hnl; clear hnl
      generalize hnst : whole start (padded all) = nst at *
      have Hnst := Lib.hid hnst; clear hnst
      simp only [eight, List.map_cons, List.map_nil, wordV]
      repeat (first | (refine bar_quiet (by decide +kernel) (by rfl) (by rfl) (fun K hK => ?_); go_big_quiet_op; refine hK _ ?_; clear hK K) | (refine bar_still (by rfl) (by rfl) (fun K hK => ?_); go_big_quiet_op; refine hK _ ?_; clear hK K) | (refine bar_skip (by rfl) ?_; simp only [Act.put, List.setIfInBounds_toArray, List.set_cons_zero, List.set_cons_succ]))
      refine (bar_last (by decide) (by rfl) (by rfl) (fun K E hK => ?_))
      refine wp_store_row 125 (.tmp 3) (.tmp 61) rfl g3 _ (by rfl) (by rfl) 125 _ (Blk.grow x4 hT) (by exact size8) (by simp [hwl]) (by simp [Value.oneCell']) ?_
      refine hK _ _ ?_; clear hK K E
      simp only [Act.put, List.setIfInBounds_toArray, List.set_cons_zero, List.set_cons_succ]
      refine bar_nil ?_
      have hT7 : Arr ((grow wo x4).setRow g3 (((eight nst).map wordV).toArray)) g3 125 (eight nst) := Blk.row (Blk.grow x4 hT) _
      have hR7 : ArrB ((grow wo x4).setRow g3 (((eight nst).map wordV).toArray)) w.heap.size 28 (zerosB 32) := Blk.rowFar (Blk.grow x4 hR) (by omega) _
      have hE7 : Ext w ((grow wo x4).setRow g3 (((eight nst).map wordV).toArray)) := (hE.trans (grow_ext x4)).row (by omega) _
      change Exit.then _ _ _ _ ((grow wo x4).setRow g3 (((eight nst).map wordV).toArray))
      generalize (grow wo x4).setRow g3 (((eight nst).map wordV).toArray) = w7 at *
      clear hT hR hE d0 d1 d2 d3 d4 d5 d6 d7 hconv hN hgl3 hNl x x3 x4
      clear wo
      go_wp2_with fail
      change Code.wp _ _ _ _ (w7.alloc (.cells ((zerosB 32).map byteV).toArray 28))
      have hol := outB_length (eight nst)
      have hO0 : ArrB (w7.alloc (.cells ((zerosB 32).map byteV).toArray 28)) w7.heap.size 28 (fillB (outB (eight nst)) 0) := by
        rw [fillB_zero, hol]
        exact Blk.new _ _ _
      have hT8 : Arr (w7.alloc (.cells ((zerosB 32).map byteV).toArray 28)) g3 125 (eight nst) := Blk.alloc hT7 _
      have hR8 : ArrB (w7.alloc (.cells ((zerosB 32).map byteV).toArray 28)) w.heap.size 28 (zerosB 32) := Blk.alloc hR7 _
      have hE8 : Ext w (w7.alloc (.cells ((zerosB 32).map byteV).toArray 28)) := hE7.alloc _
      have hlo3 : g3 < w7.heap.size := hT7.lt
      generalize w7.alloc (.cells ((zerosB 32).map byteV).toArray 28) = w8 at *
      generalize hgo : w7.heap.size = go at *
      clear hT7 hR7 hE7 hgo
      clear w7
      have hen : (eight nst).length = 8 := rfl
      have Hen := Lib.hid hen; clear hen
      generalize hes : eight nst = est at *
      have Hes := Lib.hid hes; clear hes
      go_loopw [63] (fun v wr => ∃ i : Nat, i ≤ 32 ∧ v = .int .i64 (i : Int) ∧ ArrB wr go 28 (fillB (outB est) i) ∧ Arr wr g3 125 est ∧ ArrB wr w.heap.size 28 (zerosB 32) ∧ Ext w wr) (fun v _ => 32 - (intOf v).toNat)
      case atStart => exact ⟨0, by omega, rfl, hO0, hT8, hR8, hE8⟩
      case round =>
        clear hO0 hT8 hR8 hE8
        obtain ⟨wo, rfl⟩ : ∃ wo : World, wo = wr := ⟨_, rfl⟩
        obtain ⟨i, hi, rfl, hO, hT, hR, hE⟩ := hrel
        by_cases hlt : i < 32
        · have hit : (i : Int) < 32 := by omega
          have hfl := fillB_length (outB est) i (by omega)
          have hcell : wo.cell? ⟨go, i, none⟩ = some (byteV ((fillB (outB est) i).getD i 0)) := by rw [hO.cell i (by omega), List.getD_eq_getElem?_getD, List.getElem?_eq_getElem (by omega)]; rfl
          have hcs := hT.cell (i / 4) (by have := Hen.out; omega)
          have hfr := Blk.frozen hO i
          have h8i : (i : Int) / 4 < 8 := by omega
          have h8n : i / 4 < 8 := by omega
          have Hol := Lib.hid hol; have Hfl := Lib.hid hfl; clear hol hfl
          go_wp2_with fail
          have hv : Value.int .u8 (wat est (i / 4) / 2 ^ (24 - 8 * (i % 4)) % 256) = byteV ((outB est)[i]'(by rw [Hol.out]; exact hlt)) := by
            rw [outB_get _ i hlt]
            exact byteV_mod _
          go_roundw
          case rel =>
            rw [hv]
            exact ⟨i + 1, by omega, by go_num, by rw [fillB_succ _ _ (by rw [Hol.out]; exact hlt)]; exact ArrB.set hO i _, Blk.far hT (by simp; omega) _, Blk.far hR (by simp; omega) _, hE.setCell (by simp; omega) _⟩
          case measure => simp [intOf]; omega
        · obtain rfl : i = 32 := by omega
          rw [show fillB (outB est) 32 = outB est from by rw [← hol]; exact fillB_all _] at hO
          have hvl : ((outB est).map byteV).toArray.size = 32 := by simp [hol]
          go_wp2_with (refine stop_load 28 (.tmp 9) rfl ?_)
          refine ⟨?_⟩
          refine wpList_load_row rfl 28 (.tmp 9) rfl go (by rfl) 28 _ (0, 0) _ hO Tryz.underlying28 rfl (size32.trans (by rw [hvl])) ?_
          refine wpList_store_row rfl 28 (.tmp 2) (.tmp 79) rfl w.heap.size _ (by rfl) (by rfl) 28 _ hR (size32.trans (by rw [hvl])) (by rw [hvl]; simp [zerosB]) (by simp [byteV, Value.oneCell']) ?_
          simp only [Act.put, List.setIfInBounds_toArray, List.set_cons_zero, List.set_cons_succ]
          go_wp2_with fail
          refine bodyPost_ret (results_cell_row rfl _ _ w.heap.size 28 _ (0, 0) _ rfl (Blk.row hR _) Tryz.underlying28 rfl (size32.trans (by rw [hvl]))) rfl ⟨?_, hE.row (by omega) _⟩
          unfold shaOf sumV
          rw [Hnst.out, ← eight_eq Hnl.out, Hes.out]

end Go.Proofs.YtcgnjdkennkheaaGreatDoor
