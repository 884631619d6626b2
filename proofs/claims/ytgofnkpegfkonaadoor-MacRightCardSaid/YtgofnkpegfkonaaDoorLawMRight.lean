/-
  scriniumlaw03.MacRight: a sum is right just if it is the one that the key makes. No condition.
-/
import Derived.Test.YtgofnkpegfkonaaDoorMacA
import Derived.Test.YtgofnkpegfkonaaDoorFew2
import Derived.Deep.DeepCutAuto
set_option linter.unusedVariables false
set_option linter.unusedSimpArgs false
namespace Go.Proofs.YtgofnkpegfkonaaDoor.macRight
open Go.ChangeShapes Go.WideShapes Go.ChangeAt Go.RowKit
attribute [local go_sem] bs_size bs_toList2 bs_append bs_extract_end bs_extract_begin bs_get wrap64_b grow_cell grow_frozen

theorem turned_length (a b : List UInt8) (h : a.length = b.length) : (List.zipWith (· ^^^ ·) a b).length = a.length := by simp [h]
theorem turned_get (a b : List UInt8) (i : Nat) (ha : i < a.length) (hb : i < b.length) : (List.zipWith (· ^^^ ·) a b)[i]'(by simp; omega) = a[i] ^^^ b[i] := by simp
/-- The first i of a turned by b. -/
def turnTo (a b : List UInt8) (i : Nat) : List UInt8 := (List.zipWith (· ^^^ ·) a b).take i ++ a.drop i
theorem turnTo_zero (a b : List UInt8) : turnTo a b 0 = a := by simp [turnTo]
theorem turnTo_length (a b : List UInt8) (h : a.length = b.length) (i : Nat) : (turnTo a b i).length = a.length := by simp [turnTo, h]; omega
theorem turnTo_get (a b : List UInt8) (h : a.length = b.length) (i : Nat) (hi : i < a.length) : (turnTo a b i)[i]'(by rw [turnTo_length _ _ h]; exact hi) = a[i] := by
  unfold turnTo
  rw [List.getElem_append_right (by simp; omega)]
  simp only [List.getElem_drop, List.length_take, List.length_zipWith]
  congr 1
  omega
theorem turnTo_succ (a b : List UInt8) (h : a.length = b.length) (i : Nat) (hi : i < a.length) : turnTo a b (i + 1) = (turnTo a b i).set i (a[i] ^^^ b[i]'(by omega)) := by
  unfold turnTo
  have hl : ((List.zipWith (· ^^^ ·) a b).take i).length = i := by simp; omega
  rw [List.set_append_right _ _ (by omega), List.drop_eq_getElem_cons hi, hl, Nat.sub_self, List.set_cons_zero, List.take_succ_eq_append_getElem (by simp; omega), turned_get a b i hi (by omega), List.append_assoc]
  rfl


set_option maxRecDepth 100000 in
set_option maxHeartbeats 2000000 in
theorem walk (key s t : List UInt8) (hk0 : key.length ≤ 9223372036854775807) (hs0 : s.length ≤ 9223372036854775807) (ht : t.length = 32) (w : World) (KW : Keys w) :
    Calls Tryd.prog 12 #[.string (bs key), .string (bs s), sumV t] w fun e w' => e = .returned (.bool true) ∧ Ext w w' := by
  unfold sumV
  go_enter Tryd.func12, Tryd.ntmps12
  go_wp2_with fail
  have hX0 := Blk.new w 33 (t.map byteV).toArray
  have hE0 := (Ext.refl w).alloc (.cells (t.map byteV).toArray 33)
  generalize w.alloc (.cells (t.map byteV).toArray 33) = w0 at *
  refine (awake03_calls _ (KW.ext hE0)).mono ?_; rintro e w1 ⟨rfl, e1⟩
  go_wp2_with fail
  refine (short03_calls key 100 _ hk0 (by omega)).mono ?_; rintro e w2 ⟨rfl, rfl⟩
  have hk : (key.take 100).length ≤ 100 := by simp; omega
  generalize key.take 100 = key at *
  go_wp2_with fail
  refine (short03_calls s 200 _ hs0 (by omega)).mono ?_; rintro e w2 ⟨rfl, rfl⟩
  have hs : (s.take 200).length ≤ 200 := by simp; omega
  generalize s.take 200 = s at *
  clear hk0 hs0
  have hj : joinB [s] = s := by simp [joinB]
  have hT1 := Blk.below hX0 e1 hX0.lt
  have hE1 := hE0.trans e1
  have hRd : Rd (w1.alloc (.cells #[.string (bs s)] 9)) (w1.alloc (.cells #[.string (bs s)] 9)).heap.size (some ⟨w1.heap.size, 0, none⟩) ([s].map strV) := Blk.rd (Blk.new w1 _ _)
  clear hX0 hE0 e1
  go_wp2_with fail
  refine (MOf_calls key (by omega) [s] _ 1 _ (KW.ext (hE1.alloc _)) hRd (by simp) (by rw [hj]; omega)).mono ?_; rw [hj]; rintro e w2 ⟨rfl, e2⟩
  have hT2 := Blk.below (Blk.alloc hT1 (.cells #[.string (bs s)] 9)) e2 (Blk.alloc hT1 (.cells #[.string (bs s)] 9)).lt
  have hE2 := (hE1.alloc (.cells #[.string (bs s)] 9)).trans e2
  have hml := macOf_length key s
  obtain ⟨mac, hmac⟩ : ∃ mac, mac = macOf key s := ⟨_, rfl⟩
  rw [← hmac] at hml ⊢
  have Hmac := Lib.hid hmac
  clear hT1 hE1 e2 hmac hRd
  have hmz : (mac.map byteV).toArray.size = 32 := by simp [hml]
  unfold sumV
  go_wp2_with (refine stop_store 33 (.tmp 8) (.tmp 19) rfl ?_)
  refine ⟨?_⟩
  change wpList _ _ _ _ _ (w2.alloc (.cells ((zerosB 32).map byteV).toArray 33))
  refine wpList_store_row rfl 33 (.tmp 8) (.tmp 19) rfl w2.heap.size _ (by rfl) (by rfl) 33 _ (Blk.new w2 _ _) (size32.trans (by rw [hmz])) (by rw [hmz]; rfl) (by simp [byteV, Value.oneCell']) ?_
  simp only [Act.put, List.setIfInBounds_toArray, List.set_cons_zero, List.set_cons_succ]
  have hX := Blk.row (Blk.new w2 33 ((zerosB 32).map byteV).toArray) (mac.map byteV).toArray
  have hT := Blk.rowFar (Blk.alloc hT2 (.cells ((zerosB 32).map byteV).toArray 33)) (show w.heap.size ≠ w2.heap.size by have := hT2.lt; omega) (mac.map byteV).toArray
  have hE : Ext w ((w2.alloc (.cells ((zerosB 32).map byteV).toArray 33)).setRow w2.heap.size (mac.map byteV).toArray) := (hE2.alloc _).row hE2.size _
  clear hT2 hE2
  generalize (w2.alloc (.cells ((zerosB 32).map byteV).toArray 33)).setRow w2.heap.size (mac.map byteV).toArray = w3 at *
  generalize w2.heap.size = gx at *
  go_wp2_with (refine stop_load 33 (.tmp 8) rfl ?_)
  refine ⟨?_⟩
  refine wpList_load_row rfl 33 (.tmp 8) rfl gx (by rfl) 33 _ (0, 0) _ hX Tryd.underlying33 rfl (size32.trans (by rw [hmz])) ?_
  simp only [Act.put, List.setIfInBounds_toArray, List.set_cons_zero, List.set_cons_succ]
  go_wp2_with (refine stop_store 33 (.tmp 9) (.tmp 20) rfl ?_)
  refine ⟨?_⟩
  change wpList _ _ _ _ _ (w3.alloc (.cells ((zerosB 32).map byteV).toArray 33))
  refine wpList_store_row rfl 33 (.tmp 9) (.tmp 20) rfl w3.heap.size _ (by rfl) (by rfl) 33 _ (Blk.new w3 _ _) (size32.trans (by rw [hmz])) (by rw [hmz]; rfl) (by simp [byteV, Value.oneCell']) ?_
  simp only [Act.put, List.setIfInBounds_toArray, List.set_cons_zero, List.set_cons_succ]
  have hY4 : ArrB ((w3.alloc (.cells ((zerosB 32).map byteV).toArray 33)).setRow w3.heap.size (mac.map byteV).toArray) w3.heap.size 33 (turnTo mac t 0) := by
    rw [turnTo_zero]
    exact Blk.row (Blk.new w3 _ _) _
  have hX4 : ArrB ((w3.alloc (.cells ((zerosB 32).map byteV).toArray 33)).setRow w3.heap.size (mac.map byteV).toArray) gx 33 mac := Blk.rowFar (Blk.alloc hX (.cells ((zerosB 32).map byteV).toArray 33)) (show gx ≠ w3.heap.size by have := hX.lt; omega) (mac.map byteV).toArray
  have hT4 : ArrB ((w3.alloc (.cells ((zerosB 32).map byteV).toArray 33)).setRow w3.heap.size (mac.map byteV).toArray) w.heap.size 33 t := Blk.rowFar (Blk.alloc hT (.cells ((zerosB 32).map byteV).toArray 33)) (show w.heap.size ≠ w3.heap.size by have := hT.lt; omega) (mac.map byteV).toArray
  have hE4 : Ext w ((w3.alloc (.cells ((zerosB 32).map byteV).toArray 33)).setRow w3.heap.size (mac.map byteV).toArray) := (hE.alloc _).row hE.size _
  have hgx : gx < w3.heap.size := Blk.lt hX
  have hgt : w.heap.size < w3.heap.size := Blk.lt hT
  clear hX hT hE
  generalize (w3.alloc (.cells ((zerosB 32).map byteV).toArray 33)).setRow w3.heap.size (mac.map byteV).toArray = w4 at *
  generalize w3.heap.size = gy at *
  have hmt : mac.length = t.length := by omega
  have Hmt := Lib.hid hmt; have Hml := Lib.hid hml; have Ht := Lib.hid ht
  clear hmt hml ht hmz
  go_wp2_with fail
  go_loopw [10] (fun v wr => ∃ i : Nat, i ≤ 32 ∧ v = .int .i64 (i : Int) ∧ ArrB wr gy 33 (turnTo mac t i) ∧ ArrB wr gx 33 mac ∧ ArrB wr w.heap.size 33 t ∧ Ext w wr) (fun v _ => 32 - (intOf v).toNat)
  case atStart => exact ⟨0, by omega, rfl, hY4, hX4, hT4, hE4⟩
  case round =>
    clear hY4 hX4 hT4 hE4
    obtain ⟨i, hi, rfl, hY, hX, hT, hE⟩ := hrel
    by_cases hlt : i < 32
    · have hit : (i : Int) < 32 := by omega
      have hil : i < mac.length := by rw [Hml.out]; exact hlt
      have hit2 : i < t.length := by rw [Ht.out]; exact hlt
      have hcy : wr.cell? ⟨gy, i, none⟩ = some (.int .u8 (mac[i].toNat : Int)) := by
        rw [hY.cell i (by rw [turnTo_length _ _ Hmt.out]; exact hil), turnTo_get _ _ Hmt.out i hil]; rfl
      have hct : wr.cell? ⟨w.heap.size, i, none⟩ = some (.int .u8 (t[i].toNat : Int)) := hT.cell i hit2
      have hs1 := turnTo_succ mac t Hmt.out i hil
      have hfr := Blk.frozen hY i
      have hgl := hY.lt
      have hgl2 := hT.lt
      have Hs1 := Lib.hid hs1; clear hs1
      generalize mac[i] = a at *
      generalize t[i] = b at *
      go_wp2_with fail
      refine region_mix 9 (by kernel_rfl) (by kernel_rfl) (fun x => ?_); simp only [List.take_succ_cons, List.take_zero, List.drop_succ_cons, List.drop_zero]
      repeat (first | (refine mix_quiet (by rfl) (by rfl) (fun K hK => ?_); go_big_quiet_op; refine hK _ ?_; clear hK K) | (refine mix_skip (by rfl) ?_; simp only [Act.put, List.setIfInBounds_toArray, List.set_cons_zero, List.set_cons_succ]))
      refine mix_nil ?_
      go_wp2_with fail
      go_roundw
      case rel =>
        rw [byte_xor]
        exact ⟨i + 1, by omega, by go_num, by rw [Hs1.out]; exact ArrB.set (Blk.grow x hY) i _, Blk.far (Blk.grow x hX) (by simp; omega) _, Blk.far (Blk.grow x hT) (by simp; omega) _, (hE.trans (grow_ext x)).setCell (by simp; omega) _⟩
      case measure => simp [intOf]; omega
    · obtain rfl : i = 32 := by omega
      have hml := Hml.out
      have hzl : (turnTo mac t 32).length = 32 := by rw [turnTo_length _ _ Hmt.out]; exact hml
      generalize turnTo mac t 32 = z at *
      have hKs : ∀ x : More wr, Keys (grow wr x) := fun x => KW.ext (hE.trans (grow_ext x))
      have hgw := guard_sum
      have heq1 := fun w : World => eq_sum z mac hzl hml w
      clear hT
      go_wp2_with fail
      refine region_plan 20 (Plan.run [0, 1, 2, 3, 4, 5, 6, 7, 8, 9, 10, 11, 14, 15, 16, 12, 13, 17, 18, 19] .nil) (by kernel_rfl) (by kernel_rfl) (fun y0 => ?_); simp only [Plan.run, List.drop_succ_cons, List.drop_zero, List.drop_nil]
      iterate 3 (first | (refine plan_quiet (by simp only [List.getElem?_toArray, List.getElem?_cons_zero, List.getElem?_cons_succ]; rfl) (by rfl) (by rfl) (fun K hK => ?_); go_big_quiet_op; refine hK _ ?_; clear hK K) | (refine plan_skip (by simp only [List.getElem?_toArray, List.getElem?_cons_zero, List.getElem?_cons_succ]; rfl) (by rfl) ?_; simp only [Act.put, List.setIfInBounds_toArray, List.set_cons_zero, List.set_cons_succ]))
      refine plan_row (by simp only [List.getElem?_toArray, List.getElem?_cons_zero, List.getElem?_cons_succ]; rfl) (by rfl) (by rfl) 33 (.tmp 8) rfl gx (by rfl) _ _ _ hX Tryd.underlying33 rfl (size32.trans (by simp [hml])) ?_
      simp only [Act.put, List.setIfInBounds_toArray, List.set_cons_zero, List.set_cons_succ]
      iterate 1 (first | (refine plan_quiet (by simp only [List.getElem?_toArray, List.getElem?_cons_zero, List.getElem?_cons_succ]; rfl) (by rfl) (by rfl) (fun K hK => ?_); go_big_quiet_op; refine hK _ ?_; clear hK K) | (refine plan_skip (by simp only [List.getElem?_toArray, List.getElem?_cons_zero, List.getElem?_cons_succ]; rfl) (by rfl) ?_; simp only [Act.put, List.setIfInBounds_toArray, List.set_cons_zero, List.set_cons_succ]))
      refine plan_one ?_
      (refine plan_loud (by simp only [List.getElem?_toArray, List.getElem?_cons_zero, List.getElem?_cons_succ]; rfl) (by rfl) (by rfl) (fun K E hK => ?_); go_big_op)
      obtain ⟨y1, hy1⟩ := more_of ((grow_ext y0).alloc (.cells #[.string (bs s)] 9))
      have h5 : Rd ((grow wr y0).alloc (.cells #[.string (bs s)] 9)) ((grow wr y0).alloc (.cells #[.string (bs s)] 9)).heap.size (some ⟨(grow wr y0).heap.size, 0, none⟩) ([s].map strV) := Blk.rd (Blk.new _ _ _)
      rw [hy1] at h5 ⊢
      clear hy1; generalize (grow wr y0).heap.size = g5 at *
      refine hK _ _ ⟨_, rfl⟩ ?_; clear hK K E
      refine plan_one ?_
      (refine plan_loud (by simp only [List.getElem?_toArray, List.getElem?_cons_zero, List.getElem?_cons_succ]; rfl) (by rfl) (by rfl) (fun K E hK => ?_); go_big_op)
      change Calls _ _ #[_, sumV mac, _] _ _
      refine (MacRight_calls key mac (by omega) hml [s] _ 1 (grow wr y1) (hKs _) h5 (by simp) (by rw [hj]; omega)).mono ?_; rw [hj, ← Hmac.out, show decide (mac = mac) = true from by simp]; rintro e w3 ⟨rfl, hd⟩
      obtain ⟨y2, rfl⟩ := more_ext y1 hd; clear hd
      refine hK _ _ ⟨_, rfl⟩ ?_; clear hK K E
      clear h5
      iterate 3 (first | (refine plan_quiet (by simp only [List.getElem?_toArray, List.getElem?_cons_zero, List.getElem?_cons_succ]; rfl) (by rfl) (by rfl) (fun K hK => ?_); go_big_quiet_op; refine hK _ ?_; clear hK K) | (refine plan_skip (by simp only [List.getElem?_toArray, List.getElem?_cons_zero, List.getElem?_cons_succ]; rfl) (by rfl) ?_; simp only [Act.put, List.setIfInBounds_toArray, List.set_cons_zero, List.set_cons_succ]))
      refine plan_row (by simp only [List.getElem?_toArray, List.getElem?_cons_zero, List.getElem?_cons_succ]; rfl) (by rfl) (by rfl) 33 (.tmp 9) rfl gy (by rfl) _ _ _ hY Tryd.underlying33 rfl (size32.trans (by simp [hzl])) ?_
      simp only [Act.put, List.setIfInBounds_toArray, List.set_cons_zero, List.set_cons_succ]
      iterate 1 (first | (refine plan_quiet (by simp only [List.getElem?_toArray, List.getElem?_cons_zero, List.getElem?_cons_succ]; rfl) (by rfl) (by rfl) (fun K hK => ?_); go_big_quiet_op; refine hK _ ?_; clear hK K) | (refine plan_skip (by simp only [List.getElem?_toArray, List.getElem?_cons_zero, List.getElem?_cons_succ]; rfl) (by rfl) ?_; simp only [Act.put, List.setIfInBounds_toArray, List.set_cons_zero, List.set_cons_succ]))
      refine plan_row (by simp only [List.getElem?_toArray, List.getElem?_cons_zero, List.getElem?_cons_succ]; rfl) (by rfl) (by rfl) 33 (.tmp 9) rfl gy (by rfl) _ _ _ hY Tryd.underlying33 rfl (size32.trans (by simp [hzl])) ?_
      simp only [Act.put, List.setIfInBounds_toArray, List.set_cons_zero, List.set_cons_succ]
      refine plan_row (by simp only [List.getElem?_toArray, List.getElem?_cons_zero, List.getElem?_cons_succ]; rfl) (by rfl) (by rfl) 33 (.tmp 8) rfl gx (by rfl) _ _ _ hX Tryd.underlying33 rfl (size32.trans (by simp [hml])) ?_
      simp only [Act.put, List.setIfInBounds_toArray, List.set_cons_zero, List.set_cons_succ]
      iterate 1 (first | (refine plan_quiet (by simp only [List.getElem?_toArray, List.getElem?_cons_zero, List.getElem?_cons_succ]; rfl) (by rfl) (by rfl) (fun K hK => ?_); go_big_quiet_op; refine hK _ ?_; clear hK K) | (refine plan_skip (by simp only [List.getElem?_toArray, List.getElem?_cons_zero, List.getElem?_cons_succ]; rfl) (by rfl) ?_; simp only [Act.put, List.setIfInBounds_toArray, List.set_cons_zero, List.set_cons_succ]))
      refine plan_one ?_
      (refine plan_loud (by simp only [List.getElem?_toArray, List.getElem?_cons_zero, List.getElem?_cons_succ]; rfl) (by rfl) (by rfl) (fun K E hK => ?_); go_big_op)
      obtain ⟨y3, hy3⟩ := more_of ((grow_ext y2).alloc (.cells #[.string (bs s)] 9))
      have h12 : Rd ((grow wr y2).alloc (.cells #[.string (bs s)] 9)) ((grow wr y2).alloc (.cells #[.string (bs s)] 9)).heap.size (some ⟨(grow wr y2).heap.size, 0, none⟩) ([s].map strV) := Blk.rd (Blk.new _ _ _)
      rw [hy3] at h12 ⊢
      clear hy3; generalize (grow wr y2).heap.size = g12 at *
      refine hK _ _ ⟨_, rfl⟩ ?_; clear hK K E
      refine plan_one ?_
      (refine plan_loud (by simp only [List.getElem?_toArray, List.getElem?_cons_zero, List.getElem?_cons_succ]; rfl) (by rfl) (by rfl) (fun K E hK => ?_); go_big_op)
      change Calls _ _ #[_, sumV z, _] _ _
      refine (MacRight_calls key z (by omega) hzl [s] _ 1 (grow wr y3) (hKs _) h12 (by simp) (by rw [hj]; omega)).mono ?_; rw [hj, ← Hmac.out]; rintro e w3 ⟨rfl, hd⟩
      obtain ⟨y4, rfl⟩ := more_ext y3 hd; clear hd
      refine hK _ _ ⟨_, rfl⟩ ?_; clear hK K E
      clear h12
      iterate 3 (first | (refine plan_quiet (by simp only [List.getElem?_toArray, List.getElem?_cons_zero, List.getElem?_cons_succ]; rfl) (by rfl) (by rfl) (fun K hK => ?_); go_big_quiet_op; refine hK _ ?_; clear hK K) | (refine plan_skip (by simp only [List.getElem?_toArray, List.getElem?_cons_zero, List.getElem?_cons_succ]; rfl) (by rfl) ?_; simp only [Act.put, List.setIfInBounds_toArray, List.set_cons_zero, List.set_cons_succ]))
      refine plan_nil ?_
      go_wp2_with fail
      go_ret
      exact ⟨by simp, hE.trans (grow_ext _)⟩

set_option maxRecDepth 100000 in
theorem contract (H : Type) (enc : TypeId × Value → H) (W : World) (base : Nat) (args : Array Value) (ds gs : List (DataW H)) (before : List MemPlace)
    (hval0 : ∀ (j : Nat) t v, Tryd.f12.params[j]? = some t → args[j]? = some v → Value.okWide Tryd.prog W .any base t v)
    (hW : DataW.Whole enc Tryd.prog Tryd.f12.params.toList Rows.macRightSpec.vars false W args.toList ds gs before) (hL : laidMetH Tryd.prog Rows.macRightRow.laid W) :
    Calls Tryd.prog 12 args W fun e W' => ∃ v, e = .returned v ∧ Rows.macRightSpec.post enc Tryd.prog Tryd.f12 false true false false W args v W' := by
  have K : Keys W := keys_of hL
  have hval : ∀ (j : Nat) t v, Tryd.f12.params[j]? = some t → args[j]? = some v → Value.okWide Tryd.prog W .any base t v := hval0
  have hW' := hW
  obtain ⟨p, q, hA0, hV, rfl, hfz, hnd⟩ := hW
  have hA : DataW.TrodAll enc Tryd.prog W 0 (fun _ => true) true Tryd.f12.params.toList args.toList ds p := hA0
  rw [Tryd.params12] at hA hval
  obtain ⟨v0, vs0, d0, ds0, p0, q0, hargs, rfl, rfl, hx0, r0⟩ := trodAll_cons hA
  obtain ⟨v1, vs1, d1, ds1, p1, q1, rfl, rfl, rfl, hx1, r1⟩ := trodAll_cons r0
  obtain ⟨v2, vs2, d2, ds2, p2, q2, rfl, rfl, rfl, hx2, r2⟩ := trodAll_cons r1
  obtain ⟨rfl, rfl, rfl⟩ := trodAll_nil r2
  obtain rfl : args = #[v0, v1, v2] := by cases args; simp_all
  obtain ⟨rfl, rfl⟩ := trodVars_none hV
  obtain ⟨key, rfl, hkey⟩ := op_str (hval 0 9 v0 rfl rfl) (tr_of hx0)
  obtain ⟨s, rfl, hs⟩ := op_str (hval 1 9 v1 rfl rfl) (tr_of hx1)
  obtain ⟨t, rfl, ht⟩ := op_sum (hval 2 33 v2 rfl rfl) (tr_of hx2)
  refine (walk key s t hkey hs ht W K).mono fun e W' ⟨he, hg⟩ => ?_
  subst he
  exact ⟨_, rfl, law_post hW' rfl rfl (by kernel_rfl) rfl rfl rfl hg⟩

theorem laid_met (os : Os) : laidMet Tryd.prog Rows.macRightRow.laid ((keysWorld os).forCall (fun _ _ => 0) ⟨#[], #[.string .empty, .string .empty, .agg #[.int .u8 0, .int .u8 0, .int .u8 0, .int .u8 0, .int .u8 0, .int .u8 0, .int .u8 0, .int .u8 0, .int .u8 0, .int .u8 0, .int .u8 0, .int .u8 0, .int .u8 0, .int .u8 0, .int .u8 0, .int .u8 0, .int .u8 0, .int .u8 0, .int .u8 0, .int .u8 0, .int .u8 0, .int .u8 0, .int .u8 0, .int .u8 0, .int .u8 0, .int .u8 0, .int .u8 0, .int .u8 0, .int .u8 0, .int .u8 0, .int .u8 0, .int .u8 0]], []⟩).memory :=
  laidMet_of_run' 8 (by kernel_rfl) (by kernel_rfl)
theorem reads (os : Os) {H : Type} (enc : TypeId × Value → H) : ∃ x, DataW.whole enc Tryd.prog ((keysWorld os).forCall (fun _ _ => 0) ⟨#[], #[.string .empty, .string .empty, .agg #[.int .u8 0, .int .u8 0, .int .u8 0, .int .u8 0, .int .u8 0, .int .u8 0, .int .u8 0, .int .u8 0, .int .u8 0, .int .u8 0, .int .u8 0, .int .u8 0, .int .u8 0, .int .u8 0, .int .u8 0, .int .u8 0, .int .u8 0, .int .u8 0, .int .u8 0, .int .u8 0, .int .u8 0, .int .u8 0, .int .u8 0, .int .u8 0, .int .u8 0, .int .u8 0, .int .u8 0, .int .u8 0, .int .u8 0, .int .u8 0, .int .u8 0, .int .u8 0]], []⟩).memory Tryd.f12.params.toList Rows.macRightSpec.vars false (#[.string .empty, .string .empty, .agg #[.int .u8 0, .int .u8 0, .int .u8 0, .int .u8 0, .int .u8 0, .int .u8 0, .int .u8 0, .int .u8 0, .int .u8 0, .int .u8 0, .int .u8 0, .int .u8 0, .int .u8 0, .int .u8 0, .int .u8 0, .int .u8 0, .int .u8 0, .int .u8 0, .int .u8 0, .int .u8 0, .int .u8 0, .int .u8 0, .int .u8 0, .int .u8 0, .int .u8 0, .int .u8 0, .int .u8 0, .int .u8 0, .int .u8 0, .int .u8 0, .int .u8 0, .int .u8 0]] : Array Value).toList 8 = some x :=
  Option.isSome_iff_exists.1 (by kernel_rfl)
set_option maxRecDepth 100000 in
theorem lifted (os : Os) (started : os.Started) (H : Type) (enc : TypeId × Value → H) (F : Stop.Interp) :
    ReturnsInHanded {} Tryd.checked os 12 .any ((OpenSpec.ofChange Rows.macRightSpec).preRow enc Tryd.prog Tryd.f12 Rows.macRightRow.domain false Rows.macRightRow.laid) (((OpenSpec.ofChange Rows.macRightSpec).at F).post enc Tryd.prog Tryd.f12 false true false false) := by
  obtain ⟨x, hx⟩ := reads os enc
  refine returnsInHanded_of_row (C := Tryd.checked) (s := OpenSpec.ofChange Rows.macRightSpec) own_ started (by kernel_rfl) Tryd.func12
    (witness_row_at (enc := enc) (C := Tryd.checked) false (keysWorld os) #[.string .empty, .string .empty, .agg #[.int .u8 0, .int .u8 0, .int .u8 0, .int .u8 0, .int .u8 0, .int .u8 0, .int .u8 0, .int .u8 0, .int .u8 0, .int .u8 0, .int .u8 0, .int .u8 0, .int .u8 0, .int .u8 0, .int .u8 0, .int .u8 0, .int .u8 0, .int .u8 0, .int .u8 0, .int .u8 0, .int .u8 0, .int .u8 0, .int .u8 0, .int .u8 0, .int .u8 0, .int .u8 0, .int .u8 0, .int .u8 0, .int .u8 0, .int .u8 0, .int .u8 0, .int .u8 0]] rfl (by kernel_rfl) (by kernel_rfl) (by kernel_rfl)
      (OpenSpec.preRow_of_cond 8 hx rfl (fun k hk => by cases hk) (by kernel_rfl) (laid_met os))) ?_
  intro W base args ds gs before hval hW _ _ _ hL _ _
  exact contract H enc W base args ds gs before hval hW hL

theorem said : Rows.MacRightSaid :=
  OpenClaim.holds_of_cond 12 Tryd.f12 rfl rfl rfl rfl rfl rfl rfl ⟨rfl, rfl, rfl, rfl, rfl⟩ rfl rfl rfl rfl rfl (by kernel_rfl) Tryd.func12 (by kernel_rfl)
    (of_decide_eq_true (by kernel_rfl)) (by unfold Func.isWrapper; first | (rw [if_pos (by decide +kernel)]; kernel_rfl) | (rw [if_neg (by decide +kernel)]; exact ⟨rfl, rfl⟩))
    (fun os started H enc _ F => by rw [OpenClaim.pre_eq_preRow]; exact lifted os started H enc F)
theorem plain (f : FuncId) (fn : Func) (hf : Tryd.pinned.checked.prog.funcNamed "scrinium/scriniumlaw03.MacRight" = some f) (hfn : Tryd.pinned.checked.prog.funcs[f]? = some fn) :
    false = Tryd.pinned.checked.prog.looks [] ∧ ∀ (j : Nat) t, fn.params[j]? = some t → Tryd.pinned.checked.prog.wantsStandIn t = false := by
  obtain rfl : f = 12 := Option.some.inj ((show Tryd.prog.funcNamed "scrinium/scriniumlaw03.MacRight" = some 12 by kernel_rfl).symm.trans hf) |>.symm
  obtain rfl : fn = Tryd.f12 := (Option.some.inj (Tryd.func12.symm.trans hfn)).symm
  refine ⟨by kernel_rfl, fun j t ht => ?_⟩
  rw [Tryd.params12] at ht
  have hm : t ∈ ([9, 9, 33] : List TypeId) := by simpa using Array.mem_of_getElem? ht
  have hall : (([9, 9, 33] : List TypeId).all fun u => !Tryd.prog.wantsStandIn u) = true := by kernel_rfl
  exact (show Tryd.prog.wantsStandIn t = false by simpa using List.all_eq_true.1 hall t hm)
theorem proved : Rows.MacRightCardSaid :=
  Claim7.holds_tied_plain_at .later [] _ _ _ _ said (fun _ h => by cases h) (by kernel_rfl) (fun _ h => by cases h) macRight_row_tie rfl ⟨rfl, rfl⟩ (by kernel_rfl) rfl plain (by kernel_rfl)

end Go.Proofs.YtgofnkpegfkonaaDoor.macRight
