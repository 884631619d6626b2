/-
  The walks of (*mac.Maker).Right and Name; mac.Of and mac.Right.
-/
import Derived.Test.YtcgnjdkennkheaaGreatDoorMac2
set_option linter.unusedVariables false
set_option maxRecDepth 100000
set_option linter.unusedSimpArgs false
namespace Go.Proofs.YtcgnjdkennkheaaGreatDoor
open Go.RowKit
attribute [local go_sem] bs_size bs_toList2 bs_append bs_extract_end bs_extract_begin bs_get wrap64_b grow_cell grow_frozen

theorem MakerNew.ext {w w' : World} {m : Nat} (h : MakerNew w m) (e : Ext w w') : MakerNew w' m := Blk.below h e (Blk.lt h)
theorem unlike_bool (a b : List UInt8) (ha : a.length = 32) (hb : b.length = 32) : (((unlikeB a b 32).toNat : Int) == 0) = decide (b = a) := by
  rw [← unlikeB_eq a b ha hb, Bool.eq_iff_iff, beq_iff_eq, decide_eq_true_eq]
  constructor
  · intro h
    apply UInt8.toNat_inj.1
    have : (unlikeB a b 32).toNat = 0 := by omega
    rw [this]; rfl
  · intro h; rw [h]; rfl

set_option maxRecDepth 100000 in
theorem MRight_nil (x : List UInt8) (hx : x.length = 32) (A : Option Addr) (n cap : Nat) (w : World) : Calls Tryz.prog 105 #[.pointer none, sumV x, .slice A n cap] w fun e w' => e = .returned (.bool false) ∧ Ext w w' := by
  unfold sumV
  go_enter Tryz.func105, Tryz.ntmps105
  go_wp2_with fail
  go_ret
  exact ⟨rfl, (Ext.refl w).alloc _⟩

set_option maxRecDepth 100000 in
set_option maxHeartbeats 1000000 in
theorem MRight_ok (x : List UInt8) (hx : x.length = 32) (l : List (List UInt8)) (A : Option Addr) (cap m : Nat) (w : World) (KW : Keys w) (key : List UInt8) (hM0 : MakerOk w m key) (hA : Rd w w.heap.size A (l.map strV)) (hn : l.length ≤ 9223372036854775807) (hs : (joinB l).length ≤ 4611686018427380000) :
    Calls Tryz.prog 105 #[.pointer (some ⟨m, 0, none⟩), sumV x, .slice A l.length cap] w fun e w' => e = .returned (.bool (decide (x = macOf key (joinB l)))) ∧ Ext w w' := by
  obtain ⟨mac, hmac⟩ : ∃ mac, mac = macOf key (joinB l) := ⟨_, rfl⟩
  rw [← hmac]
  have Hmac := Lib.hid hmac; clear hmac
  obtain ⟨ok, hok⟩ : ∃ ok, ok = decide (x = mac) := ⟨_, rfl⟩
  rw [← hok]
  have Hok := Lib.hid hok; clear hok
  unfold sumV
  go_enter Tryz.func105, Tryz.ntmps105
  go_wp2_with fail
  have hB0 : ArrB (w.alloc (.cells (x.map byteV).toArray 28)) w.heap.size 28 x := Blk.new _ _ _
  have hE0 := (Ext.refl w).alloc (.cells (x.map byteV).toArray 28)
  have hM1 := hM0.ext hE0
  have hA1 := (hA.below hE0 (Nat.le_refl _)).more hE0.size
  generalize w.alloc (.cells (x.map byteV).toArray 28) = w0 at *
  refine ((fun l A cap m w KW hM => MSum_ok l A cap m w KW key hM) l A cap m _ (KW.ext hE0) hM1 hA1 hn hs).mono ?_; rintro e w1 ⟨rfl, e1⟩
  have hB1 := Blk.below hB0 e1 hB0.lt
  have hE1 := hE0.trans e1
  have hlb := hB1.lt
  rw [← Hmac.out]
  have hml : mac.length = 32 := by rw [Hmac.out]; exact macOf_length _ _
  have hmz : (mac.map byteV).toArray.size = 32 := by simp [hml]
  clear hA hA1 hM0 hM1 hB0 hE0 e1
  clear Hmac
  unfold sumV
  go_wp2_with (refine stop_store 28 (.tmp 7) (.tmp 14) rfl ?_)
  refine ⟨?_⟩
  change wpList _ _ _ _ _ (w1.alloc (.cells ((zerosB 32).map byteV).toArray 28))
  refine wpList_store_row rfl 28 (.tmp 7) (.tmp 14) rfl w1.heap.size _ (by rfl) (by rfl) 28 _ (Blk.new w1 _ _) (size32.trans (by rw [hmz])) (by rw [hmz]; rfl) (by simp [byteV, Value.oneCell']) ?_
  simp only [Act.put, List.setIfInBounds_toArray, List.set_cons_zero, List.set_cons_succ]
  have hT2 : ArrB ((w1.alloc (.cells ((zerosB 32).map byteV).toArray 28)).setRow w1.heap.size (mac.map byteV).toArray) w1.heap.size 28 mac := Blk.row (Blk.new w1 _ _) _
  have hB2 : ArrB ((w1.alloc (.cells ((zerosB 32).map byteV).toArray 28)).setRow w1.heap.size (mac.map byteV).toArray) w.heap.size 28 x := Blk.rowFar (Blk.alloc hB1 _) (by omega) _
  have hE2 : Ext w ((w1.alloc (.cells ((zerosB 32).map byteV).toArray 28)).setRow w1.heap.size (mac.map byteV).toArray) := (hE1.alloc _).row hE1.size _
  clear hB1 hE1
  generalize (w1.alloc (.cells ((zerosB 32).map byteV).toArray 28)).setRow w1.heap.size (mac.map byteV).toArray = w2 at *
  generalize w1.heap.size = gt at *
  clear w1
  have Hx := Lib.hid hx; have Hml := Lib.hid hml; clear hx hml hmz
  go_wp2_with fail
  go_loopw [8, 15] (fun u v wr => ∃ i : Nat, i ≤ 32 ∧ v = .int .i64 (i : Int) ∧ u = .int .u8 ((unlikeB mac x i).toNat : Int) ∧ ArrB wr gt 28 mac ∧ ArrB wr w.heap.size 28 x ∧ Ext w wr) (fun _ v _ => 32 - (intOf v).toNat)
  case atStart => exact ⟨0, by omega, rfl, rfl, hT2, hB2, hE2⟩
  case round =>
    clear hT2 hB2 hE2
    obtain ⟨wo, rfl⟩ : ∃ wo : World, wo = wr := ⟨_, rfl⟩
    obtain ⟨i, hi, rfl, rfl, hT, hB, hE⟩ := hrel
    by_cases hlt : i < 32
    · have hit : (i : Int) < 32 := by omega
      have hct : wo.cell? ⟨gt, i, none⟩ = some (.int .u8 ((mac.getD i 0).toNat : Int)) := by
        rw [hT.cell i (by rw [Hml.out]; exact hlt), List.getD_eq_getElem?_getD, List.getElem?_eq_getElem (by rw [Hml.out]; exact hlt)]; rfl
      have hcx : wo.cell? ⟨w.heap.size, i, none⟩ = some (.int .u8 ((x.getD i 0).toNat : Int)) := by
        rw [hB.cell i (by rw [Hx.out]; exact hlt), List.getD_eq_getElem?_getD, List.getElem?_eq_getElem (by rw [Hx.out]; exact hlt)]; rfl
      have hlt1 := hT.lt
      have hlt2 := hB.lt
      have hu : unlikeB mac x (i + 1) = unlikeB mac x i ||| (mac.getD i 0 ^^^ x.getD i 0) := rfl
      have Hu := Lib.hid hu; clear hu
      generalize mac.getD i 0 = a at *
      generalize x.getD i 0 = b at *
      generalize unlikeB mac x i = u at *
      go_wp2_with fail
      refine region_mix0 (by kernel_rfl) (by kernel_rfl) (fun x => ?_)
      repeat (first | (refine mix_quiet (by rfl) (by rfl) (fun K hK => ?_); go_big_quiet_op; refine hK _ ?_; clear hK K) | (refine mix_skip (by rfl) ?_; simp only [Act.put, List.setIfInBounds_toArray, List.set_cons_zero, List.set_cons_succ]))
      refine mix_nil ?_
      go_wp2_with fail
      go_roundw
      case rel =>
        rw [byte_xor, byte_or]
        exact ⟨i + 1, by omega, by go_num, by rw [Hu.out], Blk.grow _ hT, Blk.grow _ hB, hE.trans (grow_ext _)⟩
      case measure => simp [intOf]; omega
    · obtain rfl : i = 32 := by omega
      have hub := unlike_bool mac x Hml.out Hx.out
      rw [← Hok.out] at hub
      generalize unlikeB mac x 32 = u at *
      go_wp2_with fail
      go_ret
      exact ⟨rfl, hE⟩

set_option maxRecDepth 100000 in
set_option maxHeartbeats 1000000 in
theorem MRight_new (x : List UInt8) (hx : x.length = 32) (l : List (List UInt8)) (A : Option Addr) (cap m : Nat) (w : World) (KW : Keys w) (hM0 : MakerNew w m) (hA : Rd w w.heap.size A (l.map strV)) (hn : l.length ≤ 9223372036854775807) (hs : (joinB l).length ≤ 4611686018427380000) :
    Calls Tryz.prog 105 #[.pointer (some ⟨m, 0, none⟩), sumV x, .slice A l.length cap] w fun e w' => e = .returned (.bool (decide (x = macOf [] (joinB l)))) ∧ Ext w w' := by
  obtain ⟨mac, hmac⟩ : ∃ mac, mac = macOf [] (joinB l) := ⟨_, rfl⟩
  rw [← hmac]
  have Hmac := Lib.hid hmac; clear hmac
  obtain ⟨ok, hok⟩ : ∃ ok, ok = decide (x = mac) := ⟨_, rfl⟩
  rw [← hok]
  have Hok := Lib.hid hok; clear hok
  unfold sumV
  go_enter Tryz.func105, Tryz.ntmps105
  go_wp2_with fail
  have hB0 : ArrB (w.alloc (.cells (x.map byteV).toArray 28)) w.heap.size 28 x := Blk.new _ _ _
  have hE0 := (Ext.refl w).alloc (.cells (x.map byteV).toArray 28)
  have hM1 := hM0.ext hE0
  have hA1 := (hA.below hE0 (Nat.le_refl _)).more hE0.size
  generalize w.alloc (.cells (x.map byteV).toArray 28) = w0 at *
  refine (MSum_new l A cap m _ (KW.ext hE0) hM1 hA1 hn hs).mono ?_; rintro e w1 ⟨rfl, e1⟩
  have hB1 := Blk.below hB0 e1 hB0.lt
  have hE1 := hE0.trans e1
  have hlb := hB1.lt
  rw [← Hmac.out]
  have hml : mac.length = 32 := by rw [Hmac.out]; exact macOf_length _ _
  have hmz : (mac.map byteV).toArray.size = 32 := by simp [hml]
  clear hA hA1 hM0 hM1 hB0 hE0 e1
  clear Hmac
  unfold sumV
  go_wp2_with (refine stop_store 28 (.tmp 7) (.tmp 14) rfl ?_)
  refine ⟨?_⟩
  change wpList _ _ _ _ _ (w1.alloc (.cells ((zerosB 32).map byteV).toArray 28))
  refine wpList_store_row rfl 28 (.tmp 7) (.tmp 14) rfl w1.heap.size _ (by rfl) (by rfl) 28 _ (Blk.new w1 _ _) (size32.trans (by rw [hmz])) (by rw [hmz]; rfl) (by simp [byteV, Value.oneCell']) ?_
  simp only [Act.put, List.setIfInBounds_toArray, List.set_cons_zero, List.set_cons_succ]
  have hT2 : ArrB ((w1.alloc (.cells ((zerosB 32).map byteV).toArray 28)).setRow w1.heap.size (mac.map byteV).toArray) w1.heap.size 28 mac := Blk.row (Blk.new w1 _ _) _
  have hB2 : ArrB ((w1.alloc (.cells ((zerosB 32).map byteV).toArray 28)).setRow w1.heap.size (mac.map byteV).toArray) w.heap.size 28 x := Blk.rowFar (Blk.alloc hB1 _) (by omega) _
  have hE2 : Ext w ((w1.alloc (.cells ((zerosB 32).map byteV).toArray 28)).setRow w1.heap.size (mac.map byteV).toArray) := (hE1.alloc _).row hE1.size _
  clear hB1 hE1
  generalize (w1.alloc (.cells ((zerosB 32).map byteV).toArray 28)).setRow w1.heap.size (mac.map byteV).toArray = w2 at *
  generalize w1.heap.size = gt at *
  clear w1
  have Hx := Lib.hid hx; have Hml := Lib.hid hml; clear hx hml hmz
  go_wp2_with fail
  go_loopw [8, 15] (fun u v wr => ∃ i : Nat, i ≤ 32 ∧ v = .int .i64 (i : Int) ∧ u = .int .u8 ((unlikeB mac x i).toNat : Int) ∧ ArrB wr gt 28 mac ∧ ArrB wr w.heap.size 28 x ∧ Ext w wr) (fun _ v _ => 32 - (intOf v).toNat)
  case atStart => exact ⟨0, by omega, rfl, rfl, hT2, hB2, hE2⟩
  case round =>
    clear hT2 hB2 hE2
    obtain ⟨wo, rfl⟩ : ∃ wo : World, wo = wr := ⟨_, rfl⟩
    obtain ⟨i, hi, rfl, rfl, hT, hB, hE⟩ := hrel
    by_cases hlt : i < 32
    · have hit : (i : Int) < 32 := by omega
      have hct : wo.cell? ⟨gt, i, none⟩ = some (.int .u8 ((mac.getD i 0).toNat : Int)) := by
        rw [hT.cell i (by rw [Hml.out]; exact hlt), List.getD_eq_getElem?_getD, List.getElem?_eq_getElem (by rw [Hml.out]; exact hlt)]; rfl
      have hcx : wo.cell? ⟨w.heap.size, i, none⟩ = some (.int .u8 ((x.getD i 0).toNat : Int)) := by
        rw [hB.cell i (by rw [Hx.out]; exact hlt), List.getD_eq_getElem?_getD, List.getElem?_eq_getElem (by rw [Hx.out]; exact hlt)]; rfl
      have hlt1 := hT.lt
      have hlt2 := hB.lt
      have hu : unlikeB mac x (i + 1) = unlikeB mac x i ||| (mac.getD i 0 ^^^ x.getD i 0) := rfl
      have Hu := Lib.hid hu; clear hu
      generalize mac.getD i 0 = a at *
      generalize x.getD i 0 = b at *
      generalize unlikeB mac x i = u at *
      go_wp2_with fail
      refine region_mix0 (by kernel_rfl) (by kernel_rfl) (fun x => ?_)
      repeat (first | (refine mix_quiet (by rfl) (by rfl) (fun K hK => ?_); go_big_quiet_op; refine hK _ ?_; clear hK K) | (refine mix_skip (by rfl) ?_; simp only [Act.put, List.setIfInBounds_toArray, List.set_cons_zero, List.set_cons_succ]))
      refine mix_nil ?_
      go_wp2_with fail
      go_roundw
      case rel =>
        rw [byte_xor, byte_or]
        exact ⟨i + 1, by omega, by go_num, by rw [Hu.out], Blk.grow _ hT, Blk.grow _ hB, hE.trans (grow_ext _)⟩
      case measure => simp [intOf]; omega
    · obtain rfl : i = 32 := by omega
      have hub := unlike_bool mac x Hml.out Hx.out
      rw [← Hok.out] at hub
      generalize unlikeB mac x 32 = u at *
      go_wp2_with fail
      go_ret
      exact ⟨rfl, hE⟩

set_option maxRecDepth 100000 in
set_option maxHeartbeats 1000000 in
theorem MacRight_calls (key z : List UInt8) (hk : key.length ≤ 4611686018427387904) (hx : z.length = 32) (l : List (List UInt8)) (A : Option Addr) (cap : Nat) (w : World) (KW : Keys w) (hA : Rd w w.heap.size A (l.map strV)) (hn : l.length ≤ 9223372036854775807) (hs : (joinB l).length ≤ 4611686018427380000) :
    Calls Tryz.prog 88 #[.string (bs key), sumV z, .slice A l.length cap] w fun e w' => e = .returned (.bool (decide (z = macOf key (joinB l)))) ∧ Ext w w' := by
  obtain ⟨ok, hok⟩ : ∃ ok, ok = decide (z = macOf key (joinB l)) := ⟨_, rfl⟩
  rw [← hok]
  have Hok := Lib.hid hok; clear hok
  unfold sumV
  go_enter Tryz.func88, Tryz.ntmps88
  go_wp2_with fail
  have hB0 : ArrB (w.alloc (.cells (z.map byteV).toArray 28)) w.heap.size 28 z := Blk.new _ _ _
  have hE0 := (Ext.refl w).alloc (.cells (z.map byteV).toArray 28)
  generalize w.alloc (.cells (z.map byteV).toArray 28) = w0 at *
  have hA1 : ∀ y : More w0, Rd (grow w0 y) (grow w0 y).heap.size A (l.map strV) := fun y => ((hA.below (hE0.trans (grow_ext y)) (Nat.le_refl _)).more (hE0.trans (grow_ext y)).size)
  refine region_mix0 (by kernel_rfl) (by kernel_rfl) (fun x => ?_)
  repeat (first | (refine mix_quiet (by rfl) (by rfl) (fun K hK => ?_); go_big_quiet_op; refine hK _ ?_; clear hK K) | (refine mix_skip (by rfl) ?_; simp only [Act.put, List.setIfInBounds_toArray, List.set_cons_zero, List.set_cons_succ]))
  (refine mix_loud (by rfl) (by rfl) (fun K E hK => ?_); go_big_op)
  refine (MNew_calls key hk _ (KW.ext (hE0.trans (grow_ext _)))).mono ?_; rintro e w1 ⟨m, rfl, hgm, hM, e1⟩
  obtain ⟨x1, rfl⟩ := more_ext _ e1
  refine hK _ _ ⟨_, rfl⟩ ?_; clear hK K E
  refine mix_row (by rfl) (by rfl) 28 (.tmp 4) rfl w.heap.size (by rfl) _ _ _ hB0 Tryz.underlying28 rfl (size32.trans (by simp [hx])) ?_
  simp only [Act.put, List.setIfInBounds_toArray, List.set_cons_zero, List.set_cons_succ]
  repeat (first | (refine mix_quiet (by rfl) (by rfl) (fun K hK => ?_); go_big_quiet_op; refine hK _ ?_; clear hK K) | (refine mix_skip (by rfl) ?_; simp only [Act.put, List.setIfInBounds_toArray, List.set_cons_zero, List.set_cons_succ]))
  (refine mix_loud (by rfl) (by rfl) (fun K E hK => ?_); go_big_op)
  refine (MRight_ok z hx l A cap m _ (KW.ext (hE0.trans (grow_ext _))) key hM (hA1 _) hn hs).mono ?_; rintro e w2 ⟨rfl, e2⟩
  rw [← Hok.out]
  obtain ⟨x2, rfl⟩ := more_ext _ e2
  refine hK _ _ ⟨_, rfl⟩ ?_; clear hK K E
  repeat (first | (refine mix_quiet (by rfl) (by rfl) (fun K hK => ?_); go_big_quiet_op; refine hK _ ?_; clear hK K) | (refine mix_skip (by rfl) ?_; simp only [Act.put, List.setIfInBounds_toArray, List.set_cons_zero, List.set_cons_succ]))
  refine mix_nil ?_
  go_wp2_with fail
  go_ret
  exact ⟨rfl, hE0.trans (grow_ext _)⟩

end Go.Proofs.YtcgnjdkennkheaaGreatDoor
