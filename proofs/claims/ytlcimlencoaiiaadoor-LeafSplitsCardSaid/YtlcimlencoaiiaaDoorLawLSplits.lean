/-
  scriniumlaw09.LeafSplits: the part that is split off is a power of two, less than all, and at least half. No condition.
-/
import Derived.Test.YtlcimlencoaiiaaDoorLeafA
import Derived.Test.YtlcimlencoaiiaaDoorOpL
import Derived.Test.YtlcimlencoaiiaaDoorEqA
import Derived.Test.YtlcimlencoaiiaaDoorLaw
import Derived.Deep.DeepCutAuto
set_option linter.unusedVariables false
set_option maxRecDepth 100000
set_option linter.unusedSimpArgs false
namespace Go.Proofs.YtlcimlencoaiiaaDoor.leafSplits
open Go.ChangeShapes Go.WideShapes Go.ChangeAt Go.RowKit
attribute [local go_sem] bs_size bs_toList2 bs_append bs_extract_end bs_extract_begin bs_get wrap64_b grow_cell grow_frozen

theorem pow_and (k : Nat) (h : k < 63) : bits BinOp.and IntKind.i64 ((2 ^ k : Nat) : Int) (((2 ^ k : Nat) : Int) - 1) = 0 := by
  have : ∀ k : Fin 63, bits BinOp.and IntKind.i64 ((2 ^ k.val : Nat) : Int) (((2 ^ k.val : Nat) : Int) - 1) = 0 := by decide +kernel
  exact this ⟨k, h⟩
theorem split_pow (n : Nat) (h : 2 ≤ n) (h1 : n ≤ 9223372036854775807) : ∃ k, k < 63 ∧ Tree.split n = 2 ^ k := by
  unfold Tree.split
  rw [if_neg (by omega)]
  refine ⟨_, ?_, rfl⟩
  rw [Nat.log2_lt (by omega)]
  omega


set_option maxHeartbeats 1000000 in
theorem walk (n : Int) (h0 : -9223372036854775808 ≤ n) (h1 : n ≤ 9223372036854775807) (w : World) (KW : Keys w) :
    Calls Tryd.prog 9 #[.int .i64 n] w fun e w' => e = .returned (.bool true) ∧ Ext w w' := by
  by_cases hlt : n < 2
  · have hs : splitI n = 0 := if_pos hlt
    have Hs := Lib.hid hs; clear hs
    go_enter Tryd.func9, Tryd.ntmps9
    go_wp2_with fail
    refine (awake09_calls _ KW).mono ?_; rintro e w1 ⟨rfl, e1⟩
    go_wp2_with fail
    refine (Split_calls n h0 h1 _).mono ?_; rintro e w2 ⟨he, rfl⟩
    rw [Hs.out] at he
    subst he
    go_wp2_with fail
    go_ret
    exact ⟨rfl, e1⟩
  · obtain ⟨m, rfl⟩ : ∃ m : Nat, n = (m : Int) := ⟨n.toNat, by omega⟩
    have hs := splitI_nat m (by omega)
    have hp := Tree.split_pos m (by omega)
    have hl := Tree.split_lt m (by omega)
    have hh := Tree.split_half m (by omega)
    obtain ⟨k, hk, hk2⟩ := split_pow m (by omega) (by omega)
    have hand := pow_and k hk
    rw [← hk2] at hand
    clear hk2 hk
    have Hs := Lib.hid hs; clear hs
    generalize Tree.split m = q at *
    have hpI : (0 : Int) < (q : Int) := by omega
    have hlI : (q : Int) < (m : Int) := by omega
    have hhI : (m : Int) - (q : Int) ≤ (q : Int) := by omega
    go_enter Tryd.func9, Tryd.ntmps9
    go_wp2_with fail
    refine (awake09_calls _ KW).mono ?_; rintro e w1 ⟨rfl, e1⟩
    go_wp2_with fail
    refine (Split_calls (m : Int) h0 h1 _).mono ?_; rintro e w2 ⟨he, rfl⟩
    rw [Hs.out] at he
    subst he
    go_wp2_with fail
    go_ret
    exact ⟨by simp [hpI, hlI, hhI], e1⟩

set_option maxRecDepth 100000 in
theorem contract (H : Type) (enc : TypeId × Value → H) (W : World) (base : Nat) (args : Array Value) (ds gs : List (DataW H)) (before : List MemPlace)
    (hval0 : ∀ (j : Nat) t v, Tryd.f9.params[j]? = some t → args[j]? = some v → Value.okWide Tryd.prog W .any base t v)
    (hW : DataW.Whole enc Tryd.prog Tryd.f9.params.toList Rows.leafSplitsSpec.vars false W args.toList ds gs before) (hL : laidMetH Tryd.prog Rows.leafSplitsRow.laid W) :
    Calls Tryd.prog 9 args W fun e W' => ∃ v, e = .returned v ∧ Rows.leafSplitsSpec.post enc Tryd.prog Tryd.f9 false true false false W args v W' := by
  have K : Keys W := keys_of hL
  have hval : ∀ (j : Nat) t v, Tryd.f9.params[j]? = some t → args[j]? = some v → Value.okWide Tryd.prog W .any base t v := hval0
  have hW' := hW
  obtain ⟨p, q, hA0, hV, rfl, hfz, hnd⟩ := hW
  have hA : DataW.TrodAll enc Tryd.prog W 0 (fun _ => true) true Tryd.f9.params.toList args.toList ds p := hA0
  rw [Tryd.params9] at hA hval
  obtain ⟨v0, vs0, d0, ds0, p0, q0, hargs, rfl, rfl, hx0, r0⟩ := trodAll_cons hA
  obtain ⟨rfl, rfl, rfl⟩ := trodAll_nil r0
  obtain rfl : args = #[v0] := by cases args; simp_all
  obtain ⟨rfl, rfl⟩ := trodVars_none hV
  obtain ⟨n, rfl, hn0, hn1⟩ := op_int (hval 0 3 v0 rfl rfl) (tr_of hx0)
  refine (walk n hn0 hn1 W K).mono fun e W' ⟨he, hg⟩ => ?_
  subst he
  exact ⟨_, rfl, law_post hW' rfl rfl (by kernel_rfl) rfl rfl rfl hg⟩

theorem laid_met (os : Os) : laidMet Tryd.prog Rows.leafSplitsRow.laid ((keysWorld os).forCall (fun _ _ => 0) ⟨#[], #[.int .i64 0], []⟩).memory :=
  laidMet_of_run' 8 (by kernel_rfl) (by kernel_rfl)
theorem reads (os : Os) {H : Type} (enc : TypeId × Value → H) : ∃ x, DataW.whole enc Tryd.prog ((keysWorld os).forCall (fun _ _ => 0) ⟨#[], #[.int .i64 0], []⟩).memory Tryd.f9.params.toList Rows.leafSplitsSpec.vars false (#[.int .i64 0] : Array Value).toList 8 = some x :=
  Option.isSome_iff_exists.1 (by kernel_rfl)
set_option maxRecDepth 100000 in
theorem lifted (os : Os) (started : os.Started) (H : Type) (enc : TypeId × Value → H) (F : Stop.Interp) :
    ReturnsInHanded {} Tryd.checked os 9 .any ((OpenSpec.ofChange Rows.leafSplitsSpec).preRow enc Tryd.prog Tryd.f9 Rows.leafSplitsRow.domain false Rows.leafSplitsRow.laid) (((OpenSpec.ofChange Rows.leafSplitsSpec).at F).post enc Tryd.prog Tryd.f9 false true false false) := by
  obtain ⟨x, hx⟩ := reads os enc
  refine returnsInHanded_of_row (C := Tryd.checked) (s := OpenSpec.ofChange Rows.leafSplitsSpec) own_ started (by kernel_rfl) Tryd.func9
    (witness_row_at (enc := enc) (C := Tryd.checked) false (keysWorld os) #[.int .i64 0] rfl (by kernel_rfl) (by kernel_rfl) (by kernel_rfl)
      (OpenSpec.preRow_of_cond 8 hx rfl (fun k hk => by cases hk) (by kernel_rfl) (laid_met os))) ?_
  intro W base args ds gs before hval hW _ _ _ hL _ _
  exact contract H enc W base args ds gs before hval hW hL

theorem said : Rows.LeafSplitsSaid :=
  OpenClaim.holds_of_cond 9 Tryd.f9 rfl rfl rfl rfl rfl rfl rfl ⟨rfl, rfl, rfl, rfl, rfl⟩ rfl rfl rfl rfl rfl (by kernel_rfl) Tryd.func9 (by kernel_rfl)
    (of_decide_eq_true (by kernel_rfl)) (by unfold Func.isWrapper; first | (rw [if_pos (by decide +kernel)]; kernel_rfl) | (rw [if_neg (by decide +kernel)]; exact ⟨rfl, rfl⟩))
    (fun os started H enc _ F => by rw [OpenClaim.pre_eq_preRow]; exact lifted os started H enc F)
theorem plain (f : FuncId) (fn : Func) (hf : Tryd.pinned.checked.prog.funcNamed "scrinium/scriniumlaw09.LeafSplits" = some f) (hfn : Tryd.pinned.checked.prog.funcs[f]? = some fn) :
    false = Tryd.pinned.checked.prog.looks [] ∧ ∀ (j : Nat) t, fn.params[j]? = some t → Tryd.pinned.checked.prog.wantsStandIn t = false := by
  obtain rfl : f = 9 := Option.some.inj ((show Tryd.prog.funcNamed "scrinium/scriniumlaw09.LeafSplits" = some 9 by kernel_rfl).symm.trans hf) |>.symm
  obtain rfl : fn = Tryd.f9 := (Option.some.inj (Tryd.func9.symm.trans hfn)).symm
  refine ⟨by kernel_rfl, fun j t ht => ?_⟩
  rw [Tryd.params9] at ht
  have hm : t ∈ ([3] : List TypeId) := by simpa using Array.mem_of_getElem? ht
  have hall : (([3] : List TypeId).all fun u => !Tryd.prog.wantsStandIn u) = true := by kernel_rfl
  exact (show Tryd.prog.wantsStandIn t = false by simpa using List.all_eq_true.1 hall t hm)
theorem proved : Rows.LeafSplitsCardSaid :=
  Claim7.holds_tied_plain_at .later [] _ _ _ _ said (fun _ h => by cases h) (by kernel_rfl) (fun _ h => by cases h) leafSplits_row_tie rfl ⟨rfl, rfl⟩ (by kernel_rfl) rfl plain (by kernel_rfl)

end Go.Proofs.YtlcimlencoaiiaaDoor.leafSplits
