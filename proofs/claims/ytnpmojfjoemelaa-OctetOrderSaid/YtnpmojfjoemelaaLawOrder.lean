/-
  scriniumlaw01.OctetOrder: of two numbers the bytes are in the order of the numbers. No condition.
-/
import Derived.Test.YtnpmojfjoemelaaOpen
import Derived.Test.YtnpmojfjoemelaaOct2
import Derived.Test.YtnpmojfjoemelaaOctL
import Derived.Test.YtnpmojfjoemelaaOctA
set_option linter.unusedVariables false
set_option linter.unusedSimpArgs false
namespace Go.Proofs.Ytnpmojfjoemelaa.octetOrder
open Go.ChangeShapes Go.WideShapes Go.ChangeAt Go.RowKit
attribute [local go_sem] bs_size bs_toList2 bs_append bs_extract_end bs_extract_begin bs_get wrap64_b

set_option maxHeartbeats 1000000 in
theorem walk (a b : Nat) (ha : a ≤ 18446744073709551615) (hb : b ≤ 18446744073709551615) (w : World) :
    Calls Try.prog 3 #[.int .u64 a, .int .u64 b] w fun e w' => e = .returned (.bool true) ∧ Ext w w' := by
  have hless := Oct.less_put a b (Nat.lt_succ_of_le ha) (Nat.lt_succ_of_le hb)
  have hpl := Oct.put_length a
  have hn := Oct.need_le a
  go_enter Try.func3, Try.ntmps3
  go_wp2_with fail
  refine (awake_calls _).mono ?_; rintro e w1 ⟨rfl, h1⟩
  go_wp2_with fail
  refine (Put_calls _ _ (by omega) (by omega)).mono ?_; rintro e w2 ⟨rfl, h2⟩
  rw [Int.toNat_natCast]
  go_wp2_with fail
  refine (Put_calls _ _ (by omega) (by omega)).mono ?_; rintro e w3 ⟨rfl, h3⟩
  rw [Int.toNat_natCast]
  go_wp2_with fail
  refine (Size_calls _ _ (by omega) (by omega)).mono ?_; rintro e w4 ⟨rfl, rfl⟩
  rw [Int.toNat_natCast]
  go_wp2_with fail
  refine (Put_calls _ _ (by omega) (by omega)).mono ?_; rintro e w5 ⟨rfl, h5⟩
  rw [Int.toNat_natCast]
  go_wp2_with fail
  refine (Size_calls _ _ (by omega) (by omega)).mono ?_; rintro e w6 ⟨rfl, rfl⟩
  rw [Int.toNat_natCast]
  go_wp2_with fail
  refine (Size_calls _ _ (by omega) (by omega)).mono ?_; rintro e w7 ⟨rfl, rfl⟩
  rw [Int.toNat_natCast]
  go_wp2_with fail
  go_ret
  exact ⟨ret_bool (by simp; omega), h1.trans (h2.trans (h3.trans h5))⟩

set_option maxRecDepth 100000 in
theorem lifted (os : Os) (started : os.Started) (H : Type) (enc : TypeId × Value → H) :
    ReturnsInHanded {} Try.checked os 3 .any (Rows.octetOrderSpec.pre6 enc Try.prog Try.f3 Rows.octetOrderRow.domain false) (Rows.octetOrderSpec.post enc Try.prog Try.f3 false true false false) := by
  refine returnsInHanded_of_change (C := Try.checked) own_ started (by kernel_rfl) Try.func3
    (ChangeSpec.witness6 (enc := enc) (C := Try.checked) false ⟨#[], #[.int .u64 0, .int .u64 0], []⟩ 8 (by kernel_rfl) (by kernel_rfl) (by kernel_rfl) (by kernel_rfl)) ?_
  intro W base args ds gs before hval0 hW hcnd _
  have hval : ∀ (j : Nat) t v, Try.f3.params[j]? = some t → args[j]? = some v → Value.okWide Try.prog W .any base t v := hval0
  have hW' := hW
  obtain ⟨p, q, hA0, hV, rfl, hfz, hnd⟩ := hW
  have hA : DataW.TrodAll enc Try.prog W 0 (fun _ => true) true Try.f3.params.toList args.toList ds p := hA0
  rw [Try.params3] at hA hval
  obtain ⟨v0, vs0, d0, ds0, p0, q0, hargs, rfl, rfl, hx0, r0⟩ := trodAll_cons hA
  obtain ⟨v1, vs1, d1, ds1, p1, q1, rfl, rfl, rfl, hx1, r1⟩ := trodAll_cons r0
  obtain ⟨rfl, rfl, rfl⟩ := trodAll_nil r1
  obtain rfl : args = #[v0, v1] := by cases args; simp_all
  obtain ⟨rfl, rfl⟩ := trodVars_none hV
  obtain ⟨a, rfl, ha⟩ := op_u64 (hval 0 22 v0 rfl rfl) (tr_of hx0)
  obtain ⟨b, rfl, hb⟩ := op_u64 (hval 1 22 v1 rfl rfl) (tr_of hx1)
  refine (walk a b ha hb W).mono fun e W' ⟨he, hg⟩ => ?_
  subst he
  exact ⟨_, rfl, law_post hW' rfl rfl (by kernel_rfl) rfl rfl rfl hg⟩

theorem over : Rows.octetOrderRow.holds Try.pinned (OpenSpec.ofChange Rows.octetOrderSpec) :=
  OpenClaim.holds_of_wide 3 Try.f3 rfl rfl rfl rfl rfl rfl rfl ⟨rfl, rfl, rfl, rfl, rfl⟩ rfl rfl rfl rfl rfl (by kernel_rfl) Try.func3 (by kernel_rfl)
    (of_decide_eq_true (by kernel_rfl)) (by unfold Func.isWrapper; first | (rw [if_pos (by decide +kernel)]; kernel_rfl) | (rw [if_neg (by decide +kernel)]; exact ⟨rfl, rfl⟩))
    (fun os started H enc _ => lifted os started H enc)

theorem proved : Rows.OctetOrderSaid := over

end Go.Proofs.Ytnpmojfjoemelaa.octetOrder
