/-
  scriniumlaw11.FrontReads: any bytes are read as the front that they are, or refused, as the document says; its root is that of its peaks. No condition.
-/
import Derived.Test.YtlcimlencoaiiaaDoorFrontM
import Derived.Test.YtlcimlencoaiiaaDoorOpL
import Derived.Test.YtlcimlencoaiiaaDoorEqA
import Derived.Test.YtlcimlencoaiiaaDoorLaw
import Derived.Deep.DeepCutAuto
set_option linter.unusedVariables false
set_option maxRecDepth 100000
set_option linter.unusedSimpArgs false
namespace Go.Proofs.YtlcimlencoaiiaaDoor.frontReads
open Go.ChangeShapes Go.WideShapes Go.ChangeAt Go.RowKit
attribute [local go_sem] bs_size bs_toList2 bs_append bs_extract_end bs_extract_begin bs_get wrap64_b grow_cell grow_frozen cZZ


theorem ones_pos (n : Nat) (h : 0 < n) : 0 < Tree.ones n := by
  induction n using Nat.strongRecOn with
  | ind n ih =>
    rw [Tree.ones_step n h]
    by_cases h2 : n % 2 = 1
    · omega
    · have := ih (n / 2) (by omega) (by omega)
      omega

set_option maxHeartbeats 2000000 in
theorem walk (s : List UInt8) (hs : s.length ≤ 9223372036854775807) (w : World) (KW : Keys w) :
    Calls Tryd.prog 14 #[.string (bs s)] w fun e w' => e = .returned (.bool true) ∧ Ext w w' := by
  go_enter Tryd.func14, Tryd.ntmps14
  go_wp2_with fail
  refine (awake11_calls _ KW).mono ?_; rintro e w1 ⟨rfl, e1⟩
  have K1 := KW.ext e1
  by_cases hlong : 600 < s.length
  · have hlI : (600 : Int) < (s.length : Int) := by omega
    have hs2 : (s.take 600).length ≤ 600 := by rw [List.length_take]; omega
    go_wp2_with fail
    generalize s.take 600 = z at *
    clear hlI hlong hs
    cases hr : frRead z with
    | none =>
      have H1 := frRead_calls z (by omega) w1
      have H2 := fun w : World => refFrRead_calls z (by omega) w
      rw [hr] at H1
      simp only [hr] at H2
      have H1' := Lib.hid H1; have H2' := Lib.hid H2
      clear H1 H2 hr
      refine H1'.out.mono ?_; rintro e w2 ⟨rfl, e2⟩
      go_wp2_with fail
      refine (H2'.out _).mono ?_; rintro e w3 ⟨rfl, e3⟩
      go_wp2_with fail
      go_ret
      exact ⟨rfl, (e1.trans e2).trans e3⟩
    | some nl =>
      obtain ⟨n, l⟩ := nl
      obtain ⟨hz, hln, hall, hn40⟩ := frRead_back z n l hr
      have H1 := frRead_calls z (by omega) w1
      have H2 := fun w : World => refFrRead_calls z (by omega) w
      rw [hr] at H1
      simp only [hr] at H2
      have H1' := Lib.hid H1; have H2' := Lib.hid H2
      have Hz := Lib.hid hz
      have h64 := ones_le64 n (by omega)
      have hl64 : l.length ≤ 64 := by omega
      have hnl : n = 0 ↔ l = [] := by
        constructor
        · intro h0
          subst h0
          exact List.eq_nil_of_length_eq_zero hln
        · intro h0
          rw [h0] at hln
          rcases Nat.eq_zero_or_pos n with h1 | h1
          · exact h1
          · exact absurd hln.symm (by have := ones_pos n h1; simp; omega)
      have Hnl := Lib.hid hnl
      clear H1 H2 hr hz hln h64 hnl
      have hjl := joinS_length l hall
      obtain ⟨y, hy⟩ : ∃ y, y = joinS l := ⟨_, rfl⟩
      rw [← hy] at hjl
      have Hy := Lib.hid hy
      clear hy
      refine H1'.out.mono ?_; rintro e w2 ⟨g, rfl, hg, hF, e2⟩
      go_wp2_with fail
      refine (H2'.out _).mono ?_; rintro e w3 ⟨v, rfl, hO, e3⟩
      have hF3 := hF.ext e3
      have hE3 := (e1.trans e2).trans e3
      have hS3 := hO.owns.sl
      obtain ⟨A, c, hv⟩ := own_slice hO.1
      subst hv
      clear hF e2 e3 hO hg
      go_wp2_with fail
      refine (frPeaks_calls g n l hall (by omega) _ hF3).mono ?_; rintro e w4 ⟨v4, rfl, hO4, e4⟩
      have hP4 := hO4.owns.sl
      obtain ⟨A4, c4, hv4⟩ := own_slice hO4.1
      subst hv4
      have hF4 := hF3.ext e4
      have hS4 := hS3.ext e4
      have hE4 := hE3.trans e4
      clear hF3 hS3 hE3 e4 hO4
      go_wp2_with fail
      refine (Same_calls _ _ l l hall hall _ hP4 hS4).mono ?_; rintro e w5 ⟨rfl, e5⟩
      rw [decide_eq_true rfl]
      have hF5 := hF4.ext e5
      have hS5 := hS4.ext e5
      have hE5 := hE4.trans e5
      clear hF4 hS4 hE4 e5 hP4
      have hgw := guard_sum
      have heq1 := fun w : World => eq_sum y y hjl hjl w
      go_wp2_with fail
      refine (frSize_calls g n l _ hF5).mono ?_; rintro e w6 ⟨rfl, rfl⟩
      go_wp2_with fail
      refine (frBytes_calls g n l hall hn40 (by omega) _ hF5).mono ?_; rw [← Hz.out]; rintro e w6 ⟨rfl, e6⟩
      have hF6 := hF5.ext e6
      have hS6 := hS5.ext e6
      have hE6 := hE5.trans e6
      clear hF5 hS5 hE5 e6
      go_wp2_with fail
      refine (frRoot_calls g n l hall Hnl.out (by omega) _ (KW.ext hE6) hF6).mono ?_; rw [← Hy.out]; rintro e w7 ⟨rfl, e7⟩
      unfold sumV
      have hS7 := hS6.ext e7
      have hE7 := hE6.trans e7
      clear hF6 hS6 hE6 e7
      go_wp2_with fail
      refine (refFrRoot_calls _ l hall (by omega) _ hS7).mono ?_; rw [← Hy.out]; rintro e w8 ⟨rfl, e8⟩
      unfold sumV
      go_wp2_with fail
      go_ret
      exact ⟨rfl, hE7.trans e8⟩
  · have hlI : ¬ (600 : Int) < (s.length : Int) := by omega
    have hs2 : s.length ≤ 600 := by omega
    go_wp2_with fail
    obtain ⟨z, rfl⟩ : ∃ z, z = s := ⟨_, rfl⟩
    clear hlI hlong hs
    cases hr : frRead z with
    | none =>
      have H1 := frRead_calls z (by omega) w1
      have H2 := fun w : World => refFrRead_calls z (by omega) w
      rw [hr] at H1
      simp only [hr] at H2
      have H1' := Lib.hid H1; have H2' := Lib.hid H2
      clear H1 H2 hr
      refine H1'.out.mono ?_; rintro e w2 ⟨rfl, e2⟩
      go_wp2_with fail
      refine (H2'.out _).mono ?_; rintro e w3 ⟨rfl, e3⟩
      go_wp2_with fail
      go_ret
      exact ⟨rfl, (e1.trans e2).trans e3⟩
    | some nl =>
      obtain ⟨n, l⟩ := nl
      obtain ⟨hz, hln, hall, hn40⟩ := frRead_back z n l hr
      have H1 := frRead_calls z (by omega) w1
      have H2 := fun w : World => refFrRead_calls z (by omega) w
      rw [hr] at H1
      simp only [hr] at H2
      have H1' := Lib.hid H1; have H2' := Lib.hid H2
      have Hz := Lib.hid hz
      have h64 := ones_le64 n (by omega)
      have hl64 : l.length ≤ 64 := by omega
      have hnl : n = 0 ↔ l = [] := by
        constructor
        · intro h0
          subst h0
          exact List.eq_nil_of_length_eq_zero hln
        · intro h0
          rw [h0] at hln
          rcases Nat.eq_zero_or_pos n with h1 | h1
          · exact h1
          · exact absurd hln.symm (by have := ones_pos n h1; simp; omega)
      have Hnl := Lib.hid hnl
      clear H1 H2 hr hz hln h64 hnl
      have hjl := joinS_length l hall
      obtain ⟨y, hy⟩ : ∃ y, y = joinS l := ⟨_, rfl⟩
      rw [← hy] at hjl
      have Hy := Lib.hid hy
      clear hy
      refine H1'.out.mono ?_; rintro e w2 ⟨g, rfl, hg, hF, e2⟩
      go_wp2_with fail
      refine (H2'.out _).mono ?_; rintro e w3 ⟨v, rfl, hO, e3⟩
      have hF3 := hF.ext e3
      have hE3 := (e1.trans e2).trans e3
      have hS3 := hO.owns.sl
      obtain ⟨A, c, hv⟩ := own_slice hO.1
      subst hv
      clear hF e2 e3 hO hg
      go_wp2_with fail
      refine (frPeaks_calls g n l hall (by omega) _ hF3).mono ?_; rintro e w4 ⟨v4, rfl, hO4, e4⟩
      have hP4 := hO4.owns.sl
      obtain ⟨A4, c4, hv4⟩ := own_slice hO4.1
      subst hv4
      have hF4 := hF3.ext e4
      have hS4 := hS3.ext e4
      have hE4 := hE3.trans e4
      clear hF3 hS3 hE3 e4 hO4
      go_wp2_with fail
      refine (Same_calls _ _ l l hall hall _ hP4 hS4).mono ?_; rintro e w5 ⟨rfl, e5⟩
      rw [decide_eq_true rfl]
      have hF5 := hF4.ext e5
      have hS5 := hS4.ext e5
      have hE5 := hE4.trans e5
      clear hF4 hS4 hE4 e5 hP4
      have hgw := guard_sum
      have heq1 := fun w : World => eq_sum y y hjl hjl w
      go_wp2_with fail
      refine (frSize_calls g n l _ hF5).mono ?_; rintro e w6 ⟨rfl, rfl⟩
      go_wp2_with fail
      refine (frBytes_calls g n l hall hn40 (by omega) _ hF5).mono ?_; rw [← Hz.out]; rintro e w6 ⟨rfl, e6⟩
      have hF6 := hF5.ext e6
      have hS6 := hS5.ext e6
      have hE6 := hE5.trans e6
      clear hF5 hS5 hE5 e6
      go_wp2_with fail
      refine (frRoot_calls g n l hall Hnl.out (by omega) _ (KW.ext hE6) hF6).mono ?_; rw [← Hy.out]; rintro e w7 ⟨rfl, e7⟩
      unfold sumV
      have hS7 := hS6.ext e7
      have hE7 := hE6.trans e7
      clear hF6 hS6 hE6 e7
      go_wp2_with fail
      refine (refFrRoot_calls _ l hall (by omega) _ hS7).mono ?_; rw [← Hy.out]; rintro e w8 ⟨rfl, e8⟩
      unfold sumV
      go_wp2_with fail
      go_ret
      exact ⟨rfl, hE7.trans e8⟩

set_option maxRecDepth 100000 in
theorem contract (H : Type) (enc : TypeId × Value → H) (W : World) (base : Nat) (args : Array Value) (ds gs : List (DataW H)) (before : List MemPlace)
    (hval0 : ∀ (j : Nat) t v, Tryd.f14.params[j]? = some t → args[j]? = some v → Value.okWide Tryd.prog W .any base t v)
    (hW : DataW.Whole enc Tryd.prog Tryd.f14.params.toList Rows.frontReadsSpec.vars false W args.toList ds gs before) (hL : laidMetH Tryd.prog Rows.frontReadsRow.laid W) :
    Calls Tryd.prog 14 args W fun e W' => ∃ v, e = .returned v ∧ Rows.frontReadsSpec.post enc Tryd.prog Tryd.f14 false true false false W args v W' := by
  have K : Keys W := keys_of hL
  have hval : ∀ (j : Nat) t v, Tryd.f14.params[j]? = some t → args[j]? = some v → Value.okWide Tryd.prog W .any base t v := hval0
  have hW' := hW
  obtain ⟨p, q, hA0, hV, rfl, hfz, hnd⟩ := hW
  have hA : DataW.TrodAll enc Tryd.prog W 0 (fun _ => true) true Tryd.f14.params.toList args.toList ds p := hA0
  rw [Tryd.params14] at hA hval
  obtain ⟨v0, vs0, d0, ds0, p0, q0, hargs, rfl, rfl, hx0, r0⟩ := trodAll_cons hA
  obtain ⟨rfl, rfl, rfl⟩ := trodAll_nil r0
  obtain rfl : args = #[v0] := by cases args; simp_all
  obtain ⟨rfl, rfl⟩ := trodVars_none hV
  obtain ⟨s, rfl, hs⟩ := op_str (hval 0 9 v0 rfl rfl) (tr_of hx0)
  refine (walk s hs W K).mono fun e W' ⟨he, hg⟩ => ?_
  subst he
  exact ⟨_, rfl, law_post hW' rfl rfl (by kernel_rfl) rfl rfl rfl hg⟩

theorem laid_met (os : Os) : laidMet Tryd.prog Rows.frontReadsRow.laid ((keysWorld os).forCall (fun _ _ => 0) ⟨#[], #[.string .empty], []⟩).memory :=
  laidMet_of_run' 8 (by kernel_rfl) (by kernel_rfl)
theorem reads (os : Os) {H : Type} (enc : TypeId × Value → H) : ∃ x, DataW.whole enc Tryd.prog ((keysWorld os).forCall (fun _ _ => 0) ⟨#[], #[.string .empty], []⟩).memory Tryd.f14.params.toList Rows.frontReadsSpec.vars false (#[.string .empty] : Array Value).toList 8 = some x :=
  Option.isSome_iff_exists.1 (by kernel_rfl)
set_option maxRecDepth 100000 in
theorem lifted (os : Os) (started : os.Started) (H : Type) (enc : TypeId × Value → H) (F : Stop.Interp) :
    ReturnsInHanded {} Tryd.checked os 14 .any ((OpenSpec.ofChange Rows.frontReadsSpec).preRow enc Tryd.prog Tryd.f14 Rows.frontReadsRow.domain false Rows.frontReadsRow.laid) (((OpenSpec.ofChange Rows.frontReadsSpec).at F).post enc Tryd.prog Tryd.f14 false true false false) := by
  obtain ⟨x, hx⟩ := reads os enc
  refine returnsInHanded_of_row (C := Tryd.checked) (s := OpenSpec.ofChange Rows.frontReadsSpec) own_ started (by kernel_rfl) Tryd.func14
    (witness_row_at (enc := enc) (C := Tryd.checked) false (keysWorld os) #[.string .empty] rfl (by kernel_rfl) (by kernel_rfl) (by kernel_rfl)
      (OpenSpec.preRow_of_cond 8 hx rfl (fun k hk => by cases hk) (by kernel_rfl) (laid_met os))) ?_
  intro W base args ds gs before hval hW _ _ _ hL _ _
  exact contract H enc W base args ds gs before hval hW hL

theorem said : Rows.FrontReadsSaid :=
  OpenClaim.holds_of_cond 14 Tryd.f14 rfl rfl rfl rfl rfl rfl rfl ⟨rfl, rfl, rfl, rfl, rfl⟩ rfl rfl rfl rfl rfl (by kernel_rfl) Tryd.func14 (by kernel_rfl)
    (of_decide_eq_true (by kernel_rfl)) (by unfold Func.isWrapper; first | (rw [if_pos (by decide +kernel)]; kernel_rfl) | (rw [if_neg (by decide +kernel)]; exact ⟨rfl, rfl⟩))
    (fun os started H enc _ F => by rw [OpenClaim.pre_eq_preRow]; exact lifted os started H enc F)
theorem plain (f : FuncId) (fn : Func) (hf : Tryd.pinned.checked.prog.funcNamed "scrinium/scriniumlaw11.FrontReads" = some f) (hfn : Tryd.pinned.checked.prog.funcs[f]? = some fn) :
    false = Tryd.pinned.checked.prog.looks [] ∧ ∀ (j : Nat) t, fn.params[j]? = some t → Tryd.pinned.checked.prog.wantsStandIn t = false := by
  obtain rfl : f = 14 := Option.some.inj ((show Tryd.prog.funcNamed "scrinium/scriniumlaw11.FrontReads" = some 14 by kernel_rfl).symm.trans hf) |>.symm
  obtain rfl : fn = Tryd.f14 := (Option.some.inj (Tryd.func14.symm.trans hfn)).symm
  refine ⟨by kernel_rfl, fun j t ht => ?_⟩
  rw [Tryd.params14] at ht
  have hm : t ∈ ([9] : List TypeId) := by simpa using Array.mem_of_getElem? ht
  have hall : (([9] : List TypeId).all fun u => !Tryd.prog.wantsStandIn u) = true := by kernel_rfl
  exact (show Tryd.prog.wantsStandIn t = false by simpa using List.all_eq_true.1 hall t hm)
theorem proved : Rows.FrontReadsCardSaid :=
  Claim7.holds_tied_plain_at .later [] _ _ _ _ said (fun _ h => by cases h) (by kernel_rfl) (fun _ h => by cases h) frontReads_row_tie rfl ⟨rfl, rfl⟩ (by kernel_rfl) rfl plain (by kernel_rfl)

end Go.Proofs.YtlcimlencoaiiaaDoor.frontReads
