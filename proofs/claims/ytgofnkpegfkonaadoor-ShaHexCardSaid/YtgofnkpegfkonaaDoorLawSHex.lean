/-
  scriniumlaw02.ShaHex: the digits of a hash are those of its bytes, two each; no two hashes have the same. No condition.
-/
import Derived.Test.YtgofnkpegfkonaaDoorAwk
import Derived.Test.YtgofnkpegfkonaaDoorOpS
import Derived.Test.YtgofnkpegfkonaaDoorEqA
import Derived.Test.YtgofnkpegfkonaaDoorHexL
set_option linter.unusedVariables false
set_option linter.unusedSimpArgs false
namespace Go.Proofs.YtgofnkpegfkonaaDoor.shaHex
open Go.ChangeShapes Go.WideShapes Go.ChangeAt Go.RowKit
attribute [local go_sem] bs_size bs_toList2 bs_append bs_extract_end bs_extract_begin bs_get wrap64_b grow_cell grow_frozen

set_option maxRecDepth 100000 in
set_option maxHeartbeats 1000000 in
theorem walk (a b : List UInt8) (ha : a.length = 32) (hb : b.length = 32) (w : World) (K : Keys w) :
    Calls Tryd.prog 7 #[sumV a, sumV b] w fun e w' => e = .returned (.bool true) ∧ Ext w w' := by
  unfold sumV
  go_enter Tryd.func7, Tryd.ntmps7
  go_wp2_with fail
  have hA : ArrB ((w.alloc (.cells (a.map byteV).toArray 33)).alloc (.cells (b.map byteV).toArray 33)) w.heap.size 33 a := Blk.alloc (Blk.new w _ _) _
  have hB : ArrB ((w.alloc (.cells (a.map byteV).toArray 33)).alloc (.cells (b.map byteV).toArray 33)) (w.heap.size + 1) 33 b := by
    have := Blk.new (w.alloc (.cells (a.map byteV).toArray 33)) 33 (b.map byteV).toArray
    rw [alloc_size] at this
    exact this
  have hE := ((Ext.refl w).alloc (.cells (a.map byteV).toArray 33)).alloc (.cells (b.map byteV).toArray 33)
  generalize (w.alloc (.cells (a.map byteV).toArray 33)).alloc (.cells (b.map byteV).toArray 33) = w0 at *
  refine (awake_calls _ (K.ext hE)).mono ?_; rintro e w1 ⟨rfl, e1⟩
  have hA1 := Blk.below hA e1 hA.lt
  have hB1 := Blk.below hB e1 hB.lt
  have hE1 := hE.trans e1
  clear hE e1 hA hB w0
  go_wp2_with (refine stop_load 33 (.tmp 2) rfl ?_)
  refine ⟨?_⟩
  refine wpList_load_row rfl 33 (.tmp 2) rfl w.heap.size (by rfl) 33 _ (0, 0) _ hA1 Tryd.underlying33 rfl (size32.trans (by simp [ha])) ?_
  simp only [Act.put, List.setIfInBounds_toArray, List.set_cons_zero, List.set_cons_succ]
  go_wp2_with fail
  go_at_call 23
  refine (Hex_calls a ha _).mono ?_; rintro e w2 ⟨rfl, e1⟩
  have hA2 := Blk.below hA1 e1 hA1.lt
  have hB2 := Blk.below hB1 e1 hB1.lt
  have hE2 := hE1.trans e1
  clear hE1 e1 hA1 hB1 w1
  go_wp2_with (refine stop_load 33 (.tmp 3) rfl ?_)
  refine ⟨?_⟩
  refine wpList_load_row rfl 33 (.tmp 3) rfl (w.heap.size + 1) (by rfl) 33 _ (0, 0) _ hB2 Tryd.underlying33 rfl (size32.trans (by simp [hb])) ?_
  simp only [Act.put, List.setIfInBounds_toArray, List.set_cons_zero, List.set_cons_succ]
  go_wp2_with fail
  go_at_call 23
  refine (Hex_calls b hb _).mono ?_; rintro e w3 ⟨rfl, e1⟩
  have hA3 := Blk.below hA2 e1 hA2.lt
  have hB3 := Blk.below hB2 e1 hB2.lt
  have hE3 := hE2.trans e1
  clear hE2 e1 hA2 hB2 w2
  have hla : (hexOf a).length = 64 := by rw [hexOf_length, ha]
  have hlb : (hexOf b).length = 64 := by rw [hexOf_length, hb]
  go_wp2_with fail
  have hAr : ArrB w3 w.heap.size 33 a := hA3
  have hKs : ∀ x : More w3, Keys (grow w3 x) := fun x => K.ext (hE3.trans (grow_ext x))
  go_loopw [8] (fun v wr => ∃ i : Nat, i ≤ 64 ∧ v = .int .i64 (i : Int) ∧ wr = w3) (fun v _ => 64 - (intOf v).toNat)
  case atStart => exact ⟨0, by omega, rfl, rfl⟩
  case round =>
    obtain ⟨i, hi, rfl, rfl⟩ := hrel
    by_cases hlt : i < 64
    · have hx := hexOf_at a i (by omega) (by omega)
      have hn := nib_lt (a[i / 2]'(by omega)) i
      have hcell := hAr.cell (i / 2) (by omega)
      unfold byteV at hcell
      have hbt := (a[i / 2]'(by omega)).toNat_lt
      have hit : (i : Int) < 64 := by omega
      have hit2 : (i : Int) / 2 < 32 := by omega
      have hid : (i : Int) < (((hexOf a).length : Nat) : Int) := by omega
      have hidn : i < (hexOf a).length := by omega
      unfold nib at hx hn
      generalize a[i / 2]'(by omega) = b' at *
      clear hA3 hB3 hE3 hKs hAr
      by_cases hp : i % 2 = 1
      · simp only [hp, if_true] at hx hn
        have hp' : ((i : Int) % 2) = 1 := by omega
        by_cases h10 : b'.toNat % 16 < 10
        · simp only [h10, if_true] at hx
          have h1 : (48 : Int) ≤ ((hexOf a)[i].toNat : Int) := by omega
          have h2 : ((hexOf a)[i].toNat : Int) ≤ 57 := by omega
          have h3 : ((hexOf a)[i].toNat : Int) - 48 = (b'.toNat : Int) % 16 := by omega
          clear hx hn
          go_wp2_with fail
          go_roundw
          case rel => exact ⟨i + 1, by omega, by go_num, trivial⟩
          case measure => simp [intOf]; omega
        · simp only [h10, if_false] at hx
          have h1 : (48 : Int) ≤ ((hexOf a)[i].toNat : Int) := by omega
          have h2 : ¬ ((hexOf a)[i].toNat : Int) ≤ 57 := by omega
          have h4 : (97 : Int) ≤ ((hexOf a)[i].toNat : Int) := by omega
          have h5 : ((hexOf a)[i].toNat : Int) ≤ 102 := by omega
          have h3 : ((hexOf a)[i].toNat : Int) - 97 + 10 = (b'.toNat : Int) % 16 := by omega
          clear hx hn
          go_wp2_with fail
          go_roundw
          case rel => exact ⟨i + 1, by omega, by go_num, trivial⟩
          case measure => simp [intOf]; omega
      · simp only [hp, if_false] at hx hn
        have hp' : ¬ ((i : Int) % 2) = 1 := by omega
        by_cases h10 : b'.toNat / 16 < 10
        · simp only [h10, if_true] at hx
          have h1 : (48 : Int) ≤ ((hexOf a)[i].toNat : Int) := by omega
          have h2 : ((hexOf a)[i].toNat : Int) ≤ 57 := by omega
          have h3 : ((hexOf a)[i].toNat : Int) - 48 = (b'.toNat : Int) / 16 := by omega
          clear hx hn
          go_wp2_with fail
          go_roundw
          case rel => exact ⟨i + 1, by omega, by go_num, trivial⟩
          case measure => simp [intOf]; omega
        · simp only [h10, if_false] at hx
          have h1 : (48 : Int) ≤ ((hexOf a)[i].toNat : Int) := by omega
          have h2 : ¬ ((hexOf a)[i].toNat : Int) ≤ 57 := by omega
          have h4 : (97 : Int) ≤ ((hexOf a)[i].toNat : Int) := by omega
          have h5 : ((hexOf a)[i].toNat : Int) ≤ 102 := by omega
          have h3 : ((hexOf a)[i].toNat : Int) - 97 + 10 = (b'.toNat : Int) / 16 := by omega
          clear hx hn
          go_wp2_with fail
          go_roundw
          case rel => exact ⟨i + 1, by omega, by go_num, trivial⟩
          case measure => simp [intOf]; omega
    · obtain rfl : i = 64 := by omega
      go_wp2_with fail
      by_cases hab : a = b
      · subst hab
        have heq : ∀ w : World, (Op.equalIn 10000 33 (.agg (a.map byteV).toArray) (.agg (a.map byteV).toArray)).run Tryd.prog w = .ok true w := fun w => (eq_sum a a ha ha w).trans (by simp)
        have hgw := guard_sum
        refine region_mix0 (by kernel_rfl) (by kernel_rfl) (fun x => ?_)
        iterate 5 (first | (refine mix_quiet (by rfl) (by rfl) (fun K hK => ?_); go_big_quiet_op; refine hK _ ?_; clear hK K) | (refine mix_skip (by rfl) ?_; simp only [Act.put, List.setIfInBounds_toArray, List.set_cons_zero, List.set_cons_succ]))
        refine mix_row (by rfl) (by rfl) 33 (.tmp 2) rfl (w.heap.size) (by rfl) _ _ _ hA3 Tryd.underlying33 rfl (size32.trans (by simp [ha])) ?_
        simp only [Act.put, List.setIfInBounds_toArray, List.set_cons_zero, List.set_cons_succ]
        refine mix_row (by rfl) (by rfl) 33 (.tmp 3) rfl (w.heap.size + 1) (by rfl) _ _ _ hB3 Tryd.underlying33 rfl (size32.trans (by simp [ha])) ?_
        simp only [Act.put, List.setIfInBounds_toArray, List.set_cons_zero, List.set_cons_succ]
        iterate 4 (first | (refine mix_quiet (by rfl) (by rfl) (fun K hK => ?_); go_big_quiet_op; refine hK _ ?_; clear hK K) | (refine mix_skip (by rfl) ?_; simp only [Act.put, List.setIfInBounds_toArray, List.set_cons_zero, List.set_cons_succ]))
        refine mix_row (by rfl) (by rfl) 33 (.tmp 2) rfl (w.heap.size) (by rfl) _ _ _ hA3 Tryd.underlying33 rfl (size32.trans (by simp [ha])) ?_
        simp only [Act.put, List.setIfInBounds_toArray, List.set_cons_zero, List.set_cons_succ]
        (refine mix_loud (by rfl) (by rfl) (fun K E hK => ?_); go_big_op)
        refine (Bytes_calls a ha _).mono ?_
        rintro e w3 ⟨rfl, hd'⟩
        obtain ⟨x', rfl⟩ := more_ext _ hd'
        refine hK _ _ ⟨_, rfl⟩ ?_; clear hK K E
        refine mix_row (by rfl) (by rfl) 33 (.tmp 3) rfl (w.heap.size + 1) (by rfl) _ _ _ hB3 Tryd.underlying33 rfl (size32.trans (by simp [ha])) ?_
        simp only [Act.put, List.setIfInBounds_toArray, List.set_cons_zero, List.set_cons_succ]
        (refine mix_loud (by rfl) (by rfl) (fun K E hK => ?_); go_big_op)
        refine (Bytes_calls a ha _).mono ?_
        rintro e w3 ⟨rfl, hd'⟩
        obtain ⟨x', rfl⟩ := more_ext _ hd'
        refine hK _ _ ⟨_, rfl⟩ ?_; clear hK K E
        iterate 1 (first | (refine mix_quiet (by rfl) (by rfl) (fun K hK => ?_); go_big_quiet_op; refine hK _ ?_; clear hK K) | (refine mix_skip (by rfl) ?_; simp only [Act.put, List.setIfInBounds_toArray, List.set_cons_zero, List.set_cons_succ]))
        refine mix_row (by rfl) (by rfl) 33 (.tmp 2) rfl (w.heap.size) (by rfl) _ _ _ hA3 Tryd.underlying33 rfl (size32.trans (by simp [ha])) ?_
        simp only [Act.put, List.setIfInBounds_toArray, List.set_cons_zero, List.set_cons_succ]
        refine mix_row (by rfl) (by rfl) 33 (.tmp 3) rfl (w.heap.size + 1) (by rfl) _ _ _ hB3 Tryd.underlying33 rfl (size32.trans (by simp [ha])) ?_
        simp only [Act.put, List.setIfInBounds_toArray, List.set_cons_zero, List.set_cons_succ]
        repeat (first | (refine mix_quiet (by rfl) (by rfl) (fun K hK => ?_); go_big_quiet_op; refine hK _ ?_; clear hK K) | (refine mix_skip (by rfl) ?_; simp only [Act.put, List.setIfInBounds_toArray, List.set_cons_zero, List.set_cons_succ]))
        refine mix_nil ?_
        go_wp2_with fail
        go_ret
        exact ⟨rfl, hE3.trans (grow_ext _)⟩
      · have heq : ∀ w : World, (Op.equalIn 10000 33 (.agg (a.map byteV).toArray) (.agg (b.map byteV).toArray)).run Tryd.prog w = .ok false w := fun w => (eq_sum a b ha hb w).trans (by simp [hab])
        have hs2 : ¬ hexOf a = hexOf b := fun e => hab (hexOf_inj _ _ e)
        have hb1 : (a == b) = false := by simpa using hab
        have hb2 : (hexOf a == hexOf b) = false := by simpa using hs2
        have hgw := guard_sum
        refine region_mix0 (by kernel_rfl) (by kernel_rfl) (fun x => ?_)
        iterate 5 (first | (refine mix_quiet (by rfl) (by rfl) (fun K hK => ?_); go_big_quiet_op; refine hK _ ?_; clear hK K) | (refine mix_skip (by rfl) ?_; simp only [Act.put, List.setIfInBounds_toArray, List.set_cons_zero, List.set_cons_succ]))
        refine mix_row (by rfl) (by rfl) 33 (.tmp 2) rfl (w.heap.size) (by rfl) _ _ _ hA3 Tryd.underlying33 rfl (size32.trans (by simp [ha])) ?_
        simp only [Act.put, List.setIfInBounds_toArray, List.set_cons_zero, List.set_cons_succ]
        refine mix_row (by rfl) (by rfl) 33 (.tmp 3) rfl (w.heap.size + 1) (by rfl) _ _ _ hB3 Tryd.underlying33 rfl (size32.trans (by simp [hb])) ?_
        simp only [Act.put, List.setIfInBounds_toArray, List.set_cons_zero, List.set_cons_succ]
        iterate 4 (first | (refine mix_quiet (by rfl) (by rfl) (fun K hK => ?_); go_big_quiet_op; refine hK _ ?_; clear hK K) | (refine mix_skip (by rfl) ?_; simp only [Act.put, List.setIfInBounds_toArray, List.set_cons_zero, List.set_cons_succ]))
        refine mix_row (by rfl) (by rfl) 33 (.tmp 2) rfl (w.heap.size) (by rfl) _ _ _ hA3 Tryd.underlying33 rfl (size32.trans (by simp [ha])) ?_
        simp only [Act.put, List.setIfInBounds_toArray, List.set_cons_zero, List.set_cons_succ]
        (refine mix_loud (by rfl) (by rfl) (fun K E hK => ?_); go_big_op)
        refine (Bytes_calls a ha _).mono ?_
        rintro e w3 ⟨rfl, hd'⟩
        obtain ⟨x', rfl⟩ := more_ext _ hd'
        refine hK _ _ ⟨_, rfl⟩ ?_; clear hK K E
        refine mix_row (by rfl) (by rfl) 33 (.tmp 3) rfl (w.heap.size + 1) (by rfl) _ _ _ hB3 Tryd.underlying33 rfl (size32.trans (by simp [hb])) ?_
        simp only [Act.put, List.setIfInBounds_toArray, List.set_cons_zero, List.set_cons_succ]
        (refine mix_loud (by rfl) (by rfl) (fun K E hK => ?_); go_big_op)
        refine (Bytes_calls b hb _).mono ?_
        rintro e w3 ⟨rfl, hd'⟩
        obtain ⟨x', rfl⟩ := more_ext _ hd'
        refine hK _ _ ⟨_, rfl⟩ ?_; clear hK K E
        iterate 1 (first | (refine mix_quiet (by rfl) (by rfl) (fun K hK => ?_); go_big_quiet_op; refine hK _ ?_; clear hK K) | (refine mix_skip (by rfl) ?_; simp only [Act.put, List.setIfInBounds_toArray, List.set_cons_zero, List.set_cons_succ]))
        refine mix_row (by rfl) (by rfl) 33 (.tmp 2) rfl (w.heap.size) (by rfl) _ _ _ hA3 Tryd.underlying33 rfl (size32.trans (by simp [ha])) ?_
        simp only [Act.put, List.setIfInBounds_toArray, List.set_cons_zero, List.set_cons_succ]
        refine mix_row (by rfl) (by rfl) 33 (.tmp 3) rfl (w.heap.size + 1) (by rfl) _ _ _ hB3 Tryd.underlying33 rfl (size32.trans (by simp [hb])) ?_
        simp only [Act.put, List.setIfInBounds_toArray, List.set_cons_zero, List.set_cons_succ]
        repeat (first | (refine mix_quiet (by rfl) (by rfl) (fun K hK => ?_); go_big_quiet_op; refine hK _ ?_; clear hK K) | (refine mix_skip (by rfl) ?_; simp only [Act.put, List.setIfInBounds_toArray, List.set_cons_zero, List.set_cons_succ]))
        refine mix_nil ?_
        go_wp2_with fail
        go_ret
        exact ⟨rfl, hE3.trans (grow_ext _)⟩

set_option maxRecDepth 100000 in
theorem contract (H : Type) (enc : TypeId × Value → H) (W : World) (base : Nat) (args : Array Value) (ds gs : List (DataW H)) (before : List MemPlace)
    (hval0 : ∀ (j : Nat) t v, Tryd.f7.params[j]? = some t → args[j]? = some v → Value.okWide Tryd.prog W .any base t v)
    (hW : DataW.Whole enc Tryd.prog Tryd.f7.params.toList Rows.shaHexSpec.vars false W args.toList ds gs before) (hL : laidMetH Tryd.prog Rows.shaHexRow.laid W) :
    Calls Tryd.prog 7 args W fun e W' => ∃ v, e = .returned v ∧ Rows.shaHexSpec.post enc Tryd.prog Tryd.f7 false true false false W args v W' := by
  have K : Keys W := keys_of hL
  have hval : ∀ (j : Nat) t v, Tryd.f7.params[j]? = some t → args[j]? = some v → Value.okWide Tryd.prog W .any base t v := hval0
  have hW' := hW
  obtain ⟨p, q, hA0, hV, rfl, hfz, hnd⟩ := hW
  have hA : DataW.TrodAll enc Tryd.prog W 0 (fun _ => true) true Tryd.f7.params.toList args.toList ds p := hA0
  rw [Tryd.params7] at hA hval
  obtain ⟨v0, vs0, d0, ds0, p0, q0, hargs, rfl, rfl, hx0, r0⟩ := trodAll_cons hA
  obtain ⟨v1, vs1, d1, ds1, p1, q1, rfl, rfl, rfl, hx1, r1⟩ := trodAll_cons r0
  obtain ⟨rfl, rfl, rfl⟩ := trodAll_nil r1
  obtain rfl : args = #[v0, v1] := by cases args; simp_all
  obtain ⟨rfl, rfl⟩ := trodVars_none hV
  obtain ⟨a, rfl, ha⟩ := op_sum (hval 0 33 v0 rfl rfl) (tr_of hx0)
  obtain ⟨b, rfl, hb⟩ := op_sum (hval 1 33 v1 rfl rfl) (tr_of hx1)
  refine (walk a b ha hb W K).mono fun e W' ⟨he, hg⟩ => ?_
  subst he
  exact ⟨_, rfl, law_post hW' rfl rfl (by kernel_rfl) rfl rfl rfl hg⟩

theorem laid_met (os : Os) : laidMet Tryd.prog Rows.shaHexRow.laid ((keysWorld os).forCall (fun _ _ => 0) ⟨#[], #[.agg #[.int .u8 0, .int .u8 0, .int .u8 0, .int .u8 0, .int .u8 0, .int .u8 0, .int .u8 0, .int .u8 0, .int .u8 0, .int .u8 0, .int .u8 0, .int .u8 0, .int .u8 0, .int .u8 0, .int .u8 0, .int .u8 0, .int .u8 0, .int .u8 0, .int .u8 0, .int .u8 0, .int .u8 0, .int .u8 0, .int .u8 0, .int .u8 0, .int .u8 0, .int .u8 0, .int .u8 0, .int .u8 0, .int .u8 0, .int .u8 0, .int .u8 0, .int .u8 0], .agg #[.int .u8 0, .int .u8 0, .int .u8 0, .int .u8 0, .int .u8 0, .int .u8 0, .int .u8 0, .int .u8 0, .int .u8 0, .int .u8 0, .int .u8 0, .int .u8 0, .int .u8 0, .int .u8 0, .int .u8 0, .int .u8 0, .int .u8 0, .int .u8 0, .int .u8 0, .int .u8 0, .int .u8 0, .int .u8 0, .int .u8 0, .int .u8 0, .int .u8 0, .int .u8 0, .int .u8 0, .int .u8 0, .int .u8 0, .int .u8 0, .int .u8 0, .int .u8 0]], []⟩).memory :=
  laidMet_of_run' 8 (by kernel_rfl) (by kernel_rfl)
theorem reads (os : Os) {H : Type} (enc : TypeId × Value → H) : ∃ x, DataW.whole enc Tryd.prog ((keysWorld os).forCall (fun _ _ => 0) ⟨#[], #[.agg #[.int .u8 0, .int .u8 0, .int .u8 0, .int .u8 0, .int .u8 0, .int .u8 0, .int .u8 0, .int .u8 0, .int .u8 0, .int .u8 0, .int .u8 0, .int .u8 0, .int .u8 0, .int .u8 0, .int .u8 0, .int .u8 0, .int .u8 0, .int .u8 0, .int .u8 0, .int .u8 0, .int .u8 0, .int .u8 0, .int .u8 0, .int .u8 0, .int .u8 0, .int .u8 0, .int .u8 0, .int .u8 0, .int .u8 0, .int .u8 0, .int .u8 0, .int .u8 0], .agg #[.int .u8 0, .int .u8 0, .int .u8 0, .int .u8 0, .int .u8 0, .int .u8 0, .int .u8 0, .int .u8 0, .int .u8 0, .int .u8 0, .int .u8 0, .int .u8 0, .int .u8 0, .int .u8 0, .int .u8 0, .int .u8 0, .int .u8 0, .int .u8 0, .int .u8 0, .int .u8 0, .int .u8 0, .int .u8 0, .int .u8 0, .int .u8 0, .int .u8 0, .int .u8 0, .int .u8 0, .int .u8 0, .int .u8 0, .int .u8 0, .int .u8 0, .int .u8 0]], []⟩).memory Tryd.f7.params.toList Rows.shaHexSpec.vars false (#[.agg #[.int .u8 0, .int .u8 0, .int .u8 0, .int .u8 0, .int .u8 0, .int .u8 0, .int .u8 0, .int .u8 0, .int .u8 0, .int .u8 0, .int .u8 0, .int .u8 0, .int .u8 0, .int .u8 0, .int .u8 0, .int .u8 0, .int .u8 0, .int .u8 0, .int .u8 0, .int .u8 0, .int .u8 0, .int .u8 0, .int .u8 0, .int .u8 0, .int .u8 0, .int .u8 0, .int .u8 0, .int .u8 0, .int .u8 0, .int .u8 0, .int .u8 0, .int .u8 0], .agg #[.int .u8 0, .int .u8 0, .int .u8 0, .int .u8 0, .int .u8 0, .int .u8 0, .int .u8 0, .int .u8 0, .int .u8 0, .int .u8 0, .int .u8 0, .int .u8 0, .int .u8 0, .int .u8 0, .int .u8 0, .int .u8 0, .int .u8 0, .int .u8 0, .int .u8 0, .int .u8 0, .int .u8 0, .int .u8 0, .int .u8 0, .int .u8 0, .int .u8 0, .int .u8 0, .int .u8 0, .int .u8 0, .int .u8 0, .int .u8 0, .int .u8 0, .int .u8 0]] : Array Value).toList 8 = some x :=
  Option.isSome_iff_exists.1 (by kernel_rfl)
set_option maxRecDepth 100000 in
theorem lifted (os : Os) (started : os.Started) (H : Type) (enc : TypeId × Value → H) (F : Stop.Interp) :
    ReturnsInHanded {} Tryd.checked os 7 .any ((OpenSpec.ofChange Rows.shaHexSpec).preRow enc Tryd.prog Tryd.f7 Rows.shaHexRow.domain false Rows.shaHexRow.laid) (((OpenSpec.ofChange Rows.shaHexSpec).at F).post enc Tryd.prog Tryd.f7 false true false false) := by
  obtain ⟨x, hx⟩ := reads os enc
  refine returnsInHanded_of_row (C := Tryd.checked) (s := OpenSpec.ofChange Rows.shaHexSpec) own_ started (by kernel_rfl) Tryd.func7
    (witness_row_at (enc := enc) (C := Tryd.checked) false (keysWorld os) #[.agg #[.int .u8 0, .int .u8 0, .int .u8 0, .int .u8 0, .int .u8 0, .int .u8 0, .int .u8 0, .int .u8 0, .int .u8 0, .int .u8 0, .int .u8 0, .int .u8 0, .int .u8 0, .int .u8 0, .int .u8 0, .int .u8 0, .int .u8 0, .int .u8 0, .int .u8 0, .int .u8 0, .int .u8 0, .int .u8 0, .int .u8 0, .int .u8 0, .int .u8 0, .int .u8 0, .int .u8 0, .int .u8 0, .int .u8 0, .int .u8 0, .int .u8 0, .int .u8 0], .agg #[.int .u8 0, .int .u8 0, .int .u8 0, .int .u8 0, .int .u8 0, .int .u8 0, .int .u8 0, .int .u8 0, .int .u8 0, .int .u8 0, .int .u8 0, .int .u8 0, .int .u8 0, .int .u8 0, .int .u8 0, .int .u8 0, .int .u8 0, .int .u8 0, .int .u8 0, .int .u8 0, .int .u8 0, .int .u8 0, .int .u8 0, .int .u8 0, .int .u8 0, .int .u8 0, .int .u8 0, .int .u8 0, .int .u8 0, .int .u8 0, .int .u8 0, .int .u8 0]] rfl (by kernel_rfl) (by kernel_rfl) (by kernel_rfl)
      (OpenSpec.preRow_of_cond 8 hx rfl (fun k hk => by cases hk) (by kernel_rfl) (laid_met os))) ?_
  intro W base args ds gs before hval hW _ _ _ hL _ _
  exact contract H enc W base args ds gs before hval hW hL

theorem said : Rows.ShaHexSaid :=
  OpenClaim.holds_of_cond 7 Tryd.f7 rfl rfl rfl rfl rfl rfl rfl ⟨rfl, rfl, rfl, rfl, rfl⟩ rfl rfl rfl rfl rfl (by kernel_rfl) Tryd.func7 (by kernel_rfl)
    (of_decide_eq_true (by kernel_rfl)) (by unfold Func.isWrapper; first | (rw [if_pos (by decide +kernel)]; kernel_rfl) | (rw [if_neg (by decide +kernel)]; exact ⟨rfl, rfl⟩))
    (fun os started H enc _ F => by rw [OpenClaim.pre_eq_preRow]; exact lifted os started H enc F)
theorem plain (f : FuncId) (fn : Func) (hf : Tryd.pinned.checked.prog.funcNamed "scrinium/scriniumlaw02.ShaHex" = some f) (hfn : Tryd.pinned.checked.prog.funcs[f]? = some fn) :
    false = Tryd.pinned.checked.prog.looks [] ∧ ∀ (j : Nat) t, fn.params[j]? = some t → Tryd.pinned.checked.prog.wantsStandIn t = false := by
  obtain rfl : f = 7 := Option.some.inj ((show Tryd.prog.funcNamed "scrinium/scriniumlaw02.ShaHex" = some 7 by kernel_rfl).symm.trans hf) |>.symm
  obtain rfl : fn = Tryd.f7 := (Option.some.inj (Tryd.func7.symm.trans hfn)).symm
  refine ⟨by kernel_rfl, fun j t ht => ?_⟩
  rw [Tryd.params7] at ht
  have hm : t ∈ ([33, 33] : List TypeId) := by simpa using Array.mem_of_getElem? ht
  have hall : (([33, 33] : List TypeId).all fun u => !Tryd.prog.wantsStandIn u) = true := by kernel_rfl
  exact (show Tryd.prog.wantsStandIn t = false by simpa using List.all_eq_true.1 hall t hm)
theorem proved : Rows.ShaHexCardSaid :=
  Claim7.holds_tied_plain_at .later [] _ _ _ _ said (fun _ h => by cases h) (by kernel_rfl) (fun _ h => by cases h) shaHex_row_tie rfl ⟨rfl, rfl⟩ (by kernel_rfl) rfl plain (by kernel_rfl)

end Go.Proofs.YtgofnkpegfkonaaDoor.shaHex
