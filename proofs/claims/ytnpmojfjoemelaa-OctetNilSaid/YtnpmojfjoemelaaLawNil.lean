/-
  scriniumlaw01.OctetNil: of no scanner nothing comes; a zero one has nothing. No condition.
-/
import Derived.Test.YtnpmojfjoemelaaOpen
import Derived.Test.YtnpmojfjoemelaaOctA
set_option linter.unusedVariables false
set_option linter.unusedSimpArgs false
namespace Go.Proofs.Ytnpmojfjoemelaa.octetNil
open Go.ChangeShapes Go.WideShapes Go.ChangeAt Go.RowKit
attribute [local go_sem] bs_size bs_toList2 bs_append bs_extract_end bs_extract_begin bs_get wrap64_b

set_option maxHeartbeats 400000 in
theorem take_nil (n : Int) (w : World) : Calls Try.prog 59 #[.pointer none, .int .i64 n] w fun e w' => e = .returned (.tuple #[.string (bs []), .bool false]) ∧ w = w' := by
  go_enter Try.func59, Try.ntmps59
  go_wp2
  go_ret2
  exact ⟨rfl, rfl⟩
set_option maxHeartbeats 400000 in
theorem Long_nil (w : World) : Calls Try.prog 36 #[.pointer none] w fun e w' => e = .returned (.int .u64 0) ∧ w = w' := by
  go_enter Try.func36, Try.ntmps36
  go_wp2_with (go_at_call 59; refine (take_nil 1 _).mono ?_; rintro e w' ⟨rfl, rfl⟩)
  go_ret
  exact ⟨rfl, rfl⟩
set_option maxHeartbeats 400000 in
theorem Num_nil (most : Int) (w : World) (h0 : -9223372036854775808 ≤ most) (h1 : most ≤ 9223372036854775807) : Calls Try.prog 25 #[.pointer none, .int .i64 most] w fun e w' => e = .returned (.int .i64 0) ∧ w = w' := by
  rcases (show most < 0 ∨ 0 ≤ most from by omega) with h | h
  · go_enter Try.func25, Try.ntmps25
    go_wp2_with (first | (go_at_call 36; refine (Long_nil _).mono ?_; rintro e w' ⟨rfl, rfl⟩) | (go_at_call 59; refine (take_nil _ _).mono ?_; rintro e w' ⟨rfl, rfl⟩))
    go_ret
    exact ⟨rfl, rfl⟩
  · go_enter Try.func25, Try.ntmps25
    go_wp2_with (first | (go_at_call 36; refine (Long_nil _).mono ?_; rintro e w' ⟨rfl, rfl⟩) | (go_at_call 59; refine (take_nil _ _).mono ?_; rintro e w' ⟨rfl, rfl⟩))
    go_ret
    exact ⟨rfl, rfl⟩
set_option maxHeartbeats 400000 in
theorem Sound_nil (w : World) : Calls Try.prog 26 #[.pointer none] w fun e w' => e = .returned (.bool false) ∧ w = w' := by
  go_enter Try.func26, Try.ntmps26
  go_wp2
  go_ret
  exact ⟨rfl, rfl⟩
set_option maxHeartbeats 400000 in
theorem Left_nil (w : World) : Calls Try.prog 43 #[.pointer none] w fun e w' => e = .returned (.int .i64 0) ∧ w = w' := by
  go_enter Try.func43, Try.ntmps43
  go_wp2_with (go_at_call 26; refine (Sound_nil _).mono ?_; rintro e w' ⟨rfl, rfl⟩)
  go_ret
  exact ⟨rfl, rfl⟩
set_option maxHeartbeats 400000 in
theorem End_nil (w : World) : Calls Try.prog 27 #[.pointer none] w fun e w' => e = .returned (.int .i64 10) ∧ w = w' := by
  go_enter Try.func27, Try.ntmps27
  go_wp2_with (go_at_call 26; refine (Sound_nil _).mono ?_; rintro e w' ⟨rfl, rfl⟩)
  go_ret
  exact ⟨rfl, rfl⟩
set_option maxHeartbeats 400000 in
theorem Text_nil (most : Int) (w : World) (h0 : -9223372036854775808 ≤ most) (h1 : most ≤ 9223372036854775807) : Calls Try.prog 39 #[.pointer none, .int .i64 most] w fun e w' => e = .returned (.string (bs [])) ∧ w = w' := by
  go_enter Try.func39, Try.ntmps39
  go_wp2_with (first | (go_at_call 25; refine (Num_nil _ _ h0 h1).mono ?_; rintro e w' ⟨rfl, rfl⟩) | (go_at_call 26; refine (Sound_nil _).mono ?_; rintro e w' ⟨rfl, rfl⟩))
  go_ret
  exact ⟨rfl, rfl⟩
set_option maxHeartbeats 400000 in
theorem List_nil (most : Int) (w : World) (h0 : -9223372036854775808 ≤ most) (h1 : most ≤ 9223372036854775807) : Calls Try.prog 41 #[.pointer none, .int .i64 most] w fun e w' => e = .returned (.slice none 0 0) ∧ Ext w w' := by
  go_enter Try.func41, Try.ntmps41
  go_wp2
  go_step3
  go_wp2_with (go_at_call 25; refine (Num_nil _ _ h0 h1).mono ?_; rintro e w' ⟨rfl, rfl⟩)
  go_step3
  go_wp2_with fail
  go_loop [13] (fun i => i = .int .i64 0) (fun _ => 0)
  case atStart => rfl
  case round =>
    subst hrel
    go_wp2_with (go_at_call 26; refine (Sound_nil _).mono ?_; rintro e w' ⟨rfl, rfl⟩)
    rw [Exit.noGoto_ret]
    go_ret
    exact ⟨rfl, ((Ext.refl _).alloc _).alloc _⟩

set_option maxHeartbeats 2000000 in
theorem walk (most : Int) (h0 : -9223372036854775808 ≤ most) (h1 : most ≤ 9223372036854775807) (w : World) :
    Calls Try.prog 10 #[.int .i64 most] w fun e w' => e = .returned (.bool true) ∧ Ext w w' := by
  have hS := Read_at [] w
  go_enter Try.func10, Try.ntmps10
  go_wp2_with fail
  refine (awake_calls _).mono ?_; rintro e w1 ⟨rfl, e1⟩
  go_wp2_with fail
  (with_reducible refine (Long_nil _).mono ?_); rintro e w2 ⟨rfl, rfl⟩
  go_wp2_with fail
  (with_reducible refine (Num_nil _ _ h0 h1).mono ?_); rintro e w2 ⟨rfl, rfl⟩
  go_wp2_with fail
  (with_reducible refine (Text_nil _ _ h0 h1).mono ?_); rintro e w2 ⟨rfl, rfl⟩
  go_wp2_with fail
  (with_reducible refine (List_nil _ _ h0 h1).mono ?_); rintro e w2 ⟨rfl, e2⟩
  go_wp2_with fail
  (with_reducible refine (Left_nil _).mono ?_); rintro e w3 ⟨rfl, rfl⟩
  go_wp2_with fail
  (with_reducible refine (Sound_nil _).mono ?_); rintro e w3 ⟨rfl, rfl⟩
  go_wp2_with fail
  (with_reducible refine (End_nil _).mono ?_); rintro e w3 ⟨rfl, rfl⟩
  go_wp2_with fail
  have hS2 : ScAt w2 w.heap.size ⟨[], false⟩ := (hS.ext e1).ext e2
  (with_reducible refine (Sound_calls w.heap.size _ _ hS2).mono ?_); rintro e w3 ⟨rfl, rfl⟩
  go_wp2_with fail
  (with_reducible refine (End_calls w.heap.size _ _ hS2).mono ?_); rintro e w3 ⟨rfl, rfl⟩
  go_wp2_with fail
  (with_reducible refine (Long_calls w.heap.size _ _ hS2 (by simp)).mono ?_); rintro e w3 ⟨rfl, h3, u3⟩
  rw [show Oct.Sc.long ⟨[], false⟩ = (0, ⟨[], true⟩) from rfl] at h3 ⊢
  go_wp2_with fail
  (with_reducible refine (Sound_calls w.heap.size _ _ h3).mono ?_); rintro e w4 ⟨rfl, rfl⟩
  go_wp2_with fail
  go_ret
  exact ⟨rfl, ((((Ext.refl w).alloc _).trans e1).trans e2).upd u3 (Nat.le_refl _)⟩

set_option maxRecDepth 100000 in
theorem lifted (os : Os) (started : os.Started) (H : Type) (enc : TypeId × Value → H) :
    ReturnsInHanded {} Try.checked os 10 .any (Rows.octetNilSpec.pre6 enc Try.prog Try.f10 Rows.octetNilRow.domain false) (Rows.octetNilSpec.post enc Try.prog Try.f10 false true false false) := by
  refine returnsInHanded_of_change (C := Try.checked) own_ started (by kernel_rfl) Try.func10
    (ChangeSpec.witness6 (enc := enc) (C := Try.checked) false ⟨#[], #[.int .i64 0], []⟩ 8 (by kernel_rfl) (by kernel_rfl) (by kernel_rfl) (by kernel_rfl)) ?_
  intro W base args ds gs before hval0 hW hcnd _
  have hval : ∀ (j : Nat) t v, Try.f10.params[j]? = some t → args[j]? = some v → Value.okWide Try.prog W .any base t v := hval0
  have hW' := hW
  obtain ⟨p, q, hA0, hV, rfl, hfz, hnd⟩ := hW
  have hA : DataW.TrodAll enc Try.prog W 0 (fun _ => true) true Try.f10.params.toList args.toList ds p := hA0
  rw [Try.params10] at hA hval
  obtain ⟨v0, vs0, d0, ds0, p0, q0, hargs, rfl, rfl, hx0, r0⟩ := trodAll_cons hA
  obtain ⟨rfl, rfl, rfl⟩ := trodAll_nil r0
  obtain rfl : args = #[v0] := by cases args; simp_all
  obtain ⟨rfl, rfl⟩ := trodVars_none hV
  obtain ⟨most, rfl, hmost0, hmost1⟩ := op_int (hval 0 3 v0 rfl rfl) (tr_of hx0)
  refine (walk most hmost0 hmost1 W).mono fun e W' ⟨he, hg⟩ => ?_
  subst he
  exact ⟨_, rfl, law_post hW' rfl rfl (by kernel_rfl) rfl rfl rfl hg⟩

theorem over : Rows.octetNilRow.holds Try.pinned (OpenSpec.ofChange Rows.octetNilSpec) :=
  OpenClaim.holds_of_wide 10 Try.f10 rfl rfl rfl rfl rfl rfl rfl ⟨rfl, rfl, rfl, rfl, rfl⟩ rfl rfl rfl rfl rfl (by kernel_rfl) Try.func10 (by kernel_rfl)
    (of_decide_eq_true (by kernel_rfl)) (by unfold Func.isWrapper; first | (rw [if_pos (by decide +kernel)]; kernel_rfl) | (rw [if_neg (by decide +kernel)]; exact ⟨rfl, rfl⟩))
    (fun os started H enc _ => lifted os started H enc)

theorem proved : Rows.OctetNilSaid := over

end Go.Proofs.Ytnpmojfjoemelaa.octetNil
