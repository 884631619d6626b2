/-
  scriniumlaw01.OctetNums: a number is read as one that is not above a bound just if it isn't; then it is that number. No condition.
-/
import Derived.Test.YtnpmojfjoemelaaOpen
import Derived.Test.YtnpmojfjoemelaaOct2
import Derived.Test.YtnpmojfjoemelaaOctL
import Derived.Test.YtnpmojfjoemelaaOctA
set_option linter.unusedVariables false
set_option linter.unusedSimpArgs false
namespace Go.Proofs.Ytnpmojfjoemelaa.octetNums
open Go.ChangeShapes Go.WideShapes Go.ChangeAt Go.RowKit
attribute [local go_sem] bs_size bs_toList2 bs_append bs_extract_end bs_extract_begin bs_get wrap64_b

theorem long_ (n : Nat) (h : n ≤ 18446744073709551615) : Oct.Sc.long ⟨Oct.put n, false⟩ = (n, ⟨[], false⟩) := by
  have := Oct.long_put n (Nat.lt_succ_of_le h) []
  rwa [List.append_nil] at this

set_option maxHeartbeats 1000000 in
theorem walk (n : Nat) (most : Int) (hn : n ≤ 18446744073709551615) (h0 : -9223372036854775808 ≤ most) (h1 : most ≤ 9223372036854775807) (w : World) :
    Calls Try.prog 6 #[.int .u64 n, .int .i64 most] w fun e w' => e = .returned (.bool true) ∧ Ext w w' := by
  have hl := long_ n hn
  have hpl := Oct.put_length n
  have hnl := Oct.need_le n
  by_cases hc : most < 0 ∨ most < (n : Int)
  · have hnum : Oct.Sc.num ⟨Oct.put n, false⟩ most = (0, ⟨[], true⟩) := by simp [Oct.Sc.num, hl, hc, Oct.Sc.bad]
    have HN := Lib.hid hnum
    clear hnum hl
    rcases (show most < 0 ∨ (0 ≤ most ∧ most < (n : Int)) from by omega) with hm | ⟨hm0, hm1⟩
    all_goals
      go_enter Try.func6, Try.ntmps6
      go_wp2_with fail
      refine (awake_calls _).mono ?_; rintro e w1 ⟨rfl, e1⟩
      go_wp2_with fail
      refine (Put_calls _ _ (by omega) (by omega)).mono ?_; rintro e w2 ⟨rfl, e2⟩
      rw [Int.toNat_natCast]
      go_wp2_with fail
      have hS := Read_at (Oct.put n) w2
      refine (Read_calls _ _).mono ?_; rintro e w3 ⟨rfl, rfl⟩
      go_wp2_with fail
      refine (Num_calls w2.heap.size _ most _ hS (by simp; omega) h0 h1).mono ?_; rintro e w4 ⟨rfl, h4, hu4⟩
      rw [HN.out] at h4 ⊢
      go_wp2_with fail
      refine (Sound_calls w2.heap.size _ _ h4).mono ?_; rintro e w5 ⟨rfl, rfl⟩
      go_wp2_with fail
      refine (End_calls w2.heap.size _ _ h4).mono ?_; rintro e w5 ⟨rfl, rfl⟩
      go_wp2_with fail
      go_ret
      exact ⟨rfl, ((e1.trans e2).alloc _).upd hu4 (Nat.le_trans e1.size e2.size)⟩
  · have hnum : Oct.Sc.num ⟨Oct.put n, false⟩ most = ((n : Int), ⟨[], false⟩) := by simp [Oct.Sc.num, hl, hc]
    have HN := Lib.hid hnum
    clear hnum hl
    have hm0 : 0 ≤ most := by omega
    have hm1 : (n : Int) ≤ most := by omega
    go_enter Try.func6, Try.ntmps6
    go_wp2_with fail
    refine (awake_calls _).mono ?_; rintro e w1 ⟨rfl, e1⟩
    go_wp2_with fail
    refine (Put_calls _ _ (by omega) (by omega)).mono ?_; rintro e w2 ⟨rfl, e2⟩
    rw [Int.toNat_natCast]
    go_wp2_with fail
    have hS := Read_at (Oct.put n) w2
    refine (Read_calls _ _).mono ?_; rintro e w3 ⟨rfl, rfl⟩
    go_wp2_with fail
    refine (Num_calls w2.heap.size _ most _ hS (by simp; omega) h0 h1).mono ?_; rintro e w4 ⟨rfl, h4, hu4⟩
    rw [HN.out] at h4 ⊢
    go_wp2_with fail
    refine (Sound_calls w2.heap.size _ _ h4).mono ?_; rintro e w5 ⟨rfl, rfl⟩
    go_wp2_with fail
    refine (End_calls w2.heap.size _ _ h4).mono ?_; rintro e w5 ⟨rfl, rfl⟩
    go_wp2_with fail
    go_ret
    exact ⟨rfl, ((e1.trans e2).alloc _).upd hu4 (Nat.le_trans e1.size e2.size)⟩

set_option maxRecDepth 100000 in
theorem lifted (os : Os) (started : os.Started) (H : Type) (enc : TypeId × Value → H) :
    ReturnsInHanded {} Try.checked os 6 .any (Rows.octetNumsSpec.pre6 enc Try.prog Try.f6 Rows.octetNumsRow.domain false) (Rows.octetNumsSpec.post enc Try.prog Try.f6 false true false false) := by
  refine returnsInHanded_of_change (C := Try.checked) own_ started (by kernel_rfl) Try.func6
    (ChangeSpec.witness6 (enc := enc) (C := Try.checked) false ⟨#[], #[.int .u64 0, .int .i64 0], []⟩ 8 (by kernel_rfl) (by kernel_rfl) (by kernel_rfl) (by kernel_rfl)) ?_
  intro W base args ds gs before hval0 hW hcnd _
  have hval : ∀ (j : Nat) t v, Try.f6.params[j]? = some t → args[j]? = some v → Value.okWide Try.prog W .any base t v := hval0
  have hW' := hW
  obtain ⟨p, q, hA0, hV, rfl, hfz, hnd⟩ := hW
  have hA : DataW.TrodAll enc Try.prog W 0 (fun _ => true) true Try.f6.params.toList args.toList ds p := hA0
  rw [Try.params6] at hA hval
  obtain ⟨v0, vs0, d0, ds0, p0, q0, hargs, rfl, rfl, hx0, r0⟩ := trodAll_cons hA
  obtain ⟨v1, vs1, d1, ds1, p1, q1, rfl, rfl, rfl, hx1, r1⟩ := trodAll_cons r0
  obtain ⟨rfl, rfl, rfl⟩ := trodAll_nil r1
  obtain rfl : args = #[v0, v1] := by cases args; simp_all
  obtain ⟨rfl, rfl⟩ := trodVars_none hV
  obtain ⟨n, rfl, hn⟩ := op_u64 (hval 0 22 v0 rfl rfl) (tr_of hx0)
  obtain ⟨most, rfl, hmost0, hmost1⟩ := op_int (hval 1 3 v1 rfl rfl) (tr_of hx1)
  refine (walk n most hn hmost0 hmost1 W).mono fun e W' ⟨he, hg⟩ => ?_
  subst he
  exact ⟨_, rfl, law_post hW' rfl rfl (by kernel_rfl) rfl rfl rfl hg⟩

theorem over : Rows.octetNumsRow.holds Try.pinned (OpenSpec.ofChange Rows.octetNumsSpec) :=
  OpenClaim.holds_of_wide 6 Try.f6 rfl rfl rfl rfl rfl rfl rfl ⟨rfl, rfl, rfl, rfl, rfl⟩ rfl rfl rfl rfl rfl (by kernel_rfl) Try.func6 (by kernel_rfl)
    (of_decide_eq_true (by kernel_rfl)) (by unfold Func.isWrapper; first | (rw [if_pos (by decide +kernel)]; kernel_rfl) | (rw [if_neg (by decide +kernel)]; exact ⟨rfl, rfl⟩))
    (fun os started H enc _ => lifted os started H enc)

theorem proved : Rows.OctetNumsSaid := over

end Go.Proofs.Ytnpmojfjoemelaa.octetNums
