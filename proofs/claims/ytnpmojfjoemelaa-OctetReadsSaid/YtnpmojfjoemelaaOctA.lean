/-
  The walk of layer 1's awake.
-/
import Derived.Test.YtnpmojfjoemelaaOct2
set_option linter.unusedVariables false
set_option linter.unusedSimpArgs false
namespace Go.Proofs.Ytnpmojfjoemelaa
open Go.RowKit
attribute [local go_sem] bs_size bs_toList2 bs_append bs_extract_end bs_extract_begin bs_get wrap64_b

theorem awake_long : Oct.Sc.long ⟨[2, 0, 7], false⟩ = (0, ⟨[], true⟩) := rfl
theorem awake_put0 : Oct.put 0 = [0] := by decide
theorem awake_put258 : Oct.put 258 = [2, 1, 2] := by decide
theorem awake_text : Oct.text [97, 98] = [1, 2, 97, 98] := by decide

set_option maxHeartbeats 1000000 in
theorem awake_calls (w : World) : Calls Try.prog 16 #[] w fun e w' => e = .returned (.bool true) ∧ Ext w w' := by
  have hS := Read_at [2, 0, 7] w
  go_enter Try.func16, Try.ntmps16
  go_wp2_with fail
  refine (Read_calls [2, 0, 7] _).mono ?_; rintro e w1 ⟨rfl, rfl⟩
  go_wp2_with fail
  refine (Long_calls w.heap.size _ _ hS (by simp)).mono ?_; rintro e w2 ⟨rfl, h2, hu2⟩
  rw [awake_long] at h2 ⊢
  have hE2 : Ext w w2 := ((Ext.refl w).alloc _).upd hu2 (Nat.le_refl _)
  go_wp2_with fail
  refine (Put_calls _ _ (by omega) (by omega)).mono ?_; rintro e w3 ⟨rfl, h3⟩
  rw [show Oct.put (Int.toNat 0) = [0] from awake_put0]
  go_wp2_with fail
  refine (Put_calls _ _ (by omega) (by omega)).mono ?_; rintro e w4 ⟨rfl, h4⟩
  rw [show Oct.put (Int.toNat 258) = [2, 1, 2] from awake_put258]
  go_wp2_with fail
  refine (Text_calls [97, 98] _ (by simp)).mono ?_; rintro e w5 ⟨rfl, h5⟩
  rw [awake_text]
  go_wp2_with fail
  refine (End_calls w.heap.size _ _ (Blk.below h2 (h3.trans (h4.trans h5)) h2.lt)).mono ?_; rintro e w6 ⟨rfl, rfl⟩
  go_wp2_with fail
  go_ret
  exact ⟨rfl, hE2.trans (h3.trans (h4.trans h5))⟩

end Go.Proofs.Ytnpmojfjoemelaa
