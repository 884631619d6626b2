/-
  scriniumlaw09.LeafRoots: roots are as the document says. No condition.
-/
import Derived.Test.YtlcimlencoaiiaaDoorLeafA
import Derived.Test.YtlcimlencoaiiaaDoorOpL
import Derived.Test.YtlcimlencoaiiaaDoorEqA
import Derived.Test.YtlcimlencoaiiaaDoorLaw
import Derived.Deep.DeepCutAuto
set_option linter.unusedVariables false
set_option maxRecDepth 100000
set_option linter.unusedSimpArgs false
namespace Go.Proofs.YtlcimlencoaiiaaDoor.leafRoots
open Go.ChangeShapes Go.WideShapes Go.ChangeAt Go.RowKit
attribute [local go_sem] bs_size bs_toList2 bs_append bs_extract_end bs_extract_begin bs_get wrap64_b grow_cell grow_frozen


set_option maxHeartbeats 2000000 in
theorem walk (n : Int) (v : Value) (l : List (List UInt8)) (h0 : -9223372036854775808 ≤ n) (h1 : n ≤ 9223372036854775807) (hl : AllH l) (w : World) (KW : Keys w) (h : SlS w w.heap.size v l) :
    Calls Tryd.prog 8 #[.int .i64 n, v] w fun e w' => e = .returned (.bool true) ∧ Ext w w' := by
  go_enter Tryd.func8, Tryd.ntmps8
  go_wp2_with fail
  refine (awake09_calls _ KW).mono ?_; rintro e w1 ⟨rfl, e1⟩
  go_wp2_with fail
  refine (few09_calls v l hl _ (h.ext e1)).mono ?_; rintro e w2 ⟨v', rfl, hS, rfl⟩
  have hm := hl.take 20
  have hml : (l.take 20).length ≤ 20 := by simp; omega
  generalize l.take 20 = m at *
  have hgw := guard_sum
  have heq1 := fun w : World => eq_sum (rootS m) (rootS m) (rootS_length _ hm) (rootS_length _ hm) w
  go_wp2_with fail
  refine (Split_calls n h0 h1 _).mono ?_; rintro e w2 ⟨rfl, rfl⟩
  go_wp2_with fail
  refine (refSplit_calls n h0 h1 _).mono ?_; rintro e w2 ⟨rfl, rfl⟩
  go_wp2_with fail
  refine (Root_calls v' m hm (by omega) _ (KW.ext e1) hS).mono ?_; rintro e w2 ⟨rfl, e2⟩
  unfold sumV
  go_wp2_with fail
  refine (refRoot_calls v' m hm _ (hS.ext e2)).mono ?_; rintro e w3 ⟨rfl, e3⟩
  unfold sumV
  go_wp2_with fail
  go_ret
  exact ⟨rfl, (e1.trans e2).trans e3⟩

set_option maxRecDepth 100000 in
theorem contract (H : Type) (enc : TypeId × Value → H) (W : World) (base : Nat) (args : Array Value) (ds gs : List (DataW H)) (before : List MemPlace)
    (hval0 : ∀ (j : Nat) t v, Tryd.f8.params[j]? = some t → args[j]? = some v → Value.okWide Tryd.prog W .any base t v)
    (hW : DataW.Whole enc Tryd.prog Tryd.f8.params.toList Rows.leafRootsSpec.vars false W args.toList ds gs before) (hL : laidMetH Tryd.prog Rows.leafRootsRow.laid W) :
    Calls Tryd.prog 8 args W fun e W' => ∃ v, e = .returned v ∧ Rows.leafRootsSpec.post enc Tryd.prog Tryd.f8 false true false false W args v W' := by
  have K : Keys W := keys_of hL
  have hval : ∀ (j : Nat) t v, Tryd.f8.params[j]? = some t → args[j]? = some v → Value.okWide Tryd.prog W .any base t v := hval0
  have hW' := hW
  obtain ⟨p, q, hA0, hV, rfl, hfz, hnd⟩ := hW
  have hA : DataW.TrodAll enc Tryd.prog W 0 (fun _ => true) true Tryd.f8.params.toList args.toList ds p := hA0
  rw [Tryd.params8] at hA hval
  obtain ⟨v0, vs0, d0, ds0, p0, q0, hargs, rfl, rfl, hx0, r0⟩ := trodAll_cons hA
  obtain ⟨v1, vs1, d1, ds1, p1, q1, rfl, rfl, rfl, hx1, r1⟩ := trodAll_cons r0
  obtain ⟨rfl, rfl, rfl⟩ := trodAll_nil r1
  obtain rfl : args = #[v0, v1] := by cases args; simp_all
  obtain ⟨rfl, rfl⟩ := trodVars_none hV
  obtain ⟨n, rfl, hn0, hn1⟩ := op_int (hval 0 3 v0 rfl rfl) (tr_of hx0)
  obtain ⟨l, hls, hla⟩ := op_sls (hval 1 29 v1 rfl rfl) (tr_of hx1)
  refine (walk n v1 l hn0 hn1 hla W K hls).mono fun e W' ⟨he, hg⟩ => ?_
  subst he
  exact ⟨_, rfl, law_post hW' rfl rfl (by kernel_rfl) rfl rfl rfl hg⟩

theorem laid_met (os : Os) : laidMet Tryd.prog Rows.leafRootsRow.laid ((keysWorld os).forCall (fun _ _ => 0) ⟨#[], #[.int .i64 0, .slice none 0 0], []⟩).memory :=
  laidMet_of_run' 8 (by kernel_rfl) (by kernel_rfl)
theorem reads (os : Os) {H : Type} (enc : TypeId × Value → H) : ∃ x, DataW.whole enc Tryd.prog ((keysWorld os).forCall (fun _ _ => 0) ⟨#[], #[.int .i64 0, .slice none 0 0], []⟩).memory Tryd.f8.params.toList Rows.leafRootsSpec.vars false (#[.int .i64 0, .slice none 0 0] : Array Value).toList 8 = some x :=
  Option.isSome_iff_exists.1 (by kernel_rfl)
set_option maxRecDepth 100000 in
theorem lifted (os : Os) (started : os.Started) (H : Type) (enc : TypeId × Value → H) (F : Stop.Interp) :
    ReturnsInHanded {} Tryd.checked os 8 .any ((OpenSpec.ofChange Rows.leafRootsSpec).preRow enc Tryd.prog Tryd.f8 Rows.leafRootsRow.domain false Rows.leafRootsRow.laid) (((OpenSpec.ofChange Rows.leafRootsSpec).at F).post enc Tryd.prog Tryd.f8 false true false false) := by
  obtain ⟨x, hx⟩ := reads os enc
  refine returnsInHanded_of_row (C := Tryd.checked) (s := OpenSpec.ofChange Rows.leafRootsSpec) own_ started (by kernel_rfl) Tryd.func8
    (witness_row_at (enc := enc) (C := Tryd.checked) false (keysWorld os) #[.int .i64 0, .slice none 0 0] rfl (by kernel_rfl) (by kernel_rfl) (by kernel_rfl)
      (OpenSpec.preRow_of_cond 8 hx rfl (fun k hk => by cases hk) (by kernel_rfl) (laid_met os))) ?_
  intro W base args ds gs before hval hW _ _ _ hL _ _
  exact contract H enc W base args ds gs before hval hW hL

theorem said : Rows.LeafRootsSaid :=
  OpenClaim.holds_of_cond 8 Tryd.f8 rfl rfl rfl rfl rfl rfl rfl ⟨rfl, rfl, rfl, rfl, rfl⟩ rfl rfl rfl rfl rfl (by kernel_rfl) Tryd.func8 (by kernel_rfl)
    (of_decide_eq_true (by kernel_rfl)) (by unfold Func.isWrapper; first | (rw [if_pos (by decide +kernel)]; kernel_rfl) | (rw [if_neg (by decide +kernel)]; exact ⟨rfl, rfl⟩))
    (fun os started H enc _ F => by rw [OpenClaim.pre_eq_preRow]; exact lifted os started H enc F)
theorem plain (f : FuncId) (fn : Func) (hf : Tryd.pinned.checked.prog.funcNamed "scrinium/scriniumlaw09.LeafRoots" = some f) (hfn : Tryd.pinned.checked.prog.funcs[f]? = some fn) :
    false = Tryd.pinned.checked.prog.looks [] ∧ ∀ (j : Nat) t, fn.params[j]? = some t → Tryd.pinned.checked.prog.wantsStandIn t = false := by
  obtain rfl : f = 8 := Option.some.inj ((show Tryd.prog.funcNamed "scrinium/scriniumlaw09.LeafRoots" = some 8 by kernel_rfl).symm.trans hf) |>.symm
  obtain rfl : fn = Tryd.f8 := (Option.some.inj (Tryd.func8.symm.trans hfn)).symm
  refine ⟨by kernel_rfl, fun j t ht => ?_⟩
  rw [Tryd.params8] at ht
  have hm : t ∈ ([3, 29] : List TypeId) := by simpa using Array.mem_of_getElem? ht
  have hall : (([3, 29] : List TypeId).all fun u => !Tryd.prog.wantsStandIn u) = true := by kernel_rfl
  exact (show Tryd.prog.wantsStandIn t = false by simpa using List.all_eq_true.1 hall t hm)
theorem proved : Rows.LeafRootsCardSaid :=
  Claim7.holds_tied_plain_at .later [] _ _ _ _ said (fun _ h => by cases h) (by kernel_rfl) (fun _ h => by cases h) leafRoots_row_tie rfl ⟨rfl, rfl⟩ (by kernel_rfl) rfl plain (by kernel_rfl)

end Go.Proofs.YtlcimlencoaiiaaDoor.leafRoots
