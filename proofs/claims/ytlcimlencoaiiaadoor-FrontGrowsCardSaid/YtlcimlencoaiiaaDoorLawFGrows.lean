/-
  scriniumlaw11.FrontGrows: a front has, leaf by leaf, the root and the peaks of all, and the bytes that the document says. No condition.
-/
import Derived.Test.YtlcimlencoaiiaaDoorFrontM
import Derived.Test.YtlcimlencoaiiaaDoorOpL
import Derived.Test.YtlcimlencoaiiaaDoorEqA
import Derived.Test.YtlcimlencoaiiaaDoorLaw
import Derived.Deep.DeepCutAuto
set_option linter.unusedVariables false
set_option maxRecDepth 100000
set_option linter.unusedSimpArgs false
namespace Go.Proofs.YtlcimlencoaiiaaDoor.frontGrows
open Go.ChangeShapes Go.WideShapes Go.ChangeAt Go.RowKit
attribute [local go_sem] bs_size bs_toList2 bs_append bs_extract_end bs_extract_begin bs_get wrap64_b grow_cell grow_frozen cZZ


theorem cut_sls {w : World} {A : Option Addr} {cap k : Nat} {m : List (List UInt8)} (hm : AllH m) (h : SlS w w.heap.size (.slice A m.length cap) m) (hk : k ≤ m.length) : k ≤ cap ∧ SlS w w.heap.size (.slice A k cap) (m.take k) := by
  obtain ⟨A', cap', hv, hA, hc, hc63, hr⟩ := h
  injection hv with x1 _ x3
  subst x1 x3
  refine ⟨by omega, ?_⟩
  rcases hA with ⟨h1, h2, h3⟩ | ⟨b, off, rfl⟩
  · subst h2
    obtain rfl : k = 0 := by simpa using hk
    exact ⟨A, cap, rfl, .inl ⟨h1, rfl, h3⟩, Nat.zero_le _, hc63, Rd.nil⟩
  · exact sls_take hm hc hc63 hr k hk

set_option maxHeartbeats 2000000 in
theorem walk (v : Value) (l : List (List UInt8)) (hl : AllH l) (w : World) (KW : Keys w) (h : SlS w w.heap.size v l) :
    Calls Tryd.prog 11 #[v] w fun e w' => e = .returned (.bool true) ∧ Ext w w' := by
  go_enter Tryd.func11, Tryd.ntmps11
  go_wp2_with fail
  refine (awake11_calls _ KW).mono ?_; rintro e w1 ⟨rfl, e1⟩
  go_wp2_with fail
  refine (few11_calls v l hl _ (h.ext e1)).mono ?_; rintro e w2 ⟨v', rfl, hS, rfl⟩
  have hm := hl.take 20
  have hml : (l.take 20).length ≤ 20 := by simp; omega
  generalize l.take 20 = m at *
  go_wp2_with fail
  refine (frNew_calls _).mono ?_; rintro e w2 ⟨rfl, hF, e2⟩
  have hF0 := FrT.new hF
  have hS2 := hS.ext e2
  have hE2 := e1.trans e2
  have K2 := KW.ext hE2
  obtain ⟨A, cap, hv, _⟩ := id hS
  subst hv
  have hg0 : w1.heap.size ≠ 0 := by have := (KW.ext e1).lt0; omega
  have hz2 : w1.heap.size < w2.heap.size := hF0.lt
  have hS1 := hS
  clear hF hS hS2
  obtain ⟨g, hg⟩ : ∃ g, g = w1.heap.size := ⟨_, rfl⟩
  have hgE : w.heap.size ≤ g := by rw [hg]; exact e1.size
  have hg1 : w1.heap.size ≤ g := by omega
  rw [← hg] at hF0 hg0 hz2 ⊢
  clear hg
  go_wp2_with fail
  go_loopw [6, 7, 8] (fun s6 _ _ wr => ∃ k : Nat, k ≤ m.length + 1 ∧ s6 = .int .i64 (k : Int) ∧ FrT wr g (m.take k) ∧ Upd g w2 wr) (fun s6 _ _ _ => m.length + 1 - (intOf s6).toNat)
  case atStart => exact ⟨0, Nat.zero_le _, rfl, hF0, Upd.refl _ _⟩
  case round =>
    obtain ⟨wo, rfl⟩ : ∃ wo : World, wo = wr := ⟨_, rfl⟩
    obtain ⟨k, hk, rfl, hFo, hU⟩ := hrel
    have hEo : Ext w wo := hE2.upd hU hgE
    have hX1 : Ext w1 wo := e2.upd hU hg1
    by_cases hkm : k ≤ m.length
    · have hkI : (k : Int) ≤ (m.length : Int) := by omega
      have hSo : SlS wo wo.heap.size (.slice A m.length cap) m := hS1.ext hX1
      obtain ⟨hkc, hSk⟩ := cut_sls hm hSo hkm
      have hkcI : (k : Int) ≤ (cap : Int) := by omega
      have Ko := KW.ext hEo
      have Hk := Lib.hid (show (m.take k).length = k by rw [List.length_take]; omega)
      have hmk := hm.take k
      have hpall := peaks_all _ (m.take k) rfl hmk
      go_wp2_with fail
      refine (refFrPeaks_calls _ (m.take k) hmk (by rw [Hk.out]; omega) _ hSk).mono ?_; rintro e w3 ⟨v3, rfl, hO3, e3⟩
      have hP3 := hO3.sl
      obtain ⟨A3, c3, hv3, _⟩ := id hO3
      subst hv3
      have hF3 := hFo.ext e3
      have hE3 := hEo.trans e3
      have hU3 := hU.ext e3
      clear hO3
      go_wp2_with fail
      refine (frtPeaks_calls g (m.take k) hmk (by rw [Hk.out]; omega) _ hF3).mono ?_; rintro e w4 ⟨v4, rfl, hO4, e4⟩
      have hP4 := hO4.owns.sl
      obtain ⟨A4, c4, hv4⟩ := own_slice hO4.1
      subst hv4
      have hP34 := hP3.ext e4
      have hF4 := hF3.ext e4
      have hE4 := hE3.trans e4
      have hU4 := hU3.ext e4
      clear hO4 hP3 hF3 hE3 hU3 hFo
      go_wp2_with fail
      refine (Same_calls _ _ (peaksS (m.take k)) (peaksS (m.take k)) hpall hpall _ hP4 hP34).mono ?_; rintro e w7 ⟨rfl, e7⟩
      rw [decide_eq_true rfl]
      have hP7 := hP34.ext e7
      have hF7 := hF4.ext e7
      have hE7 := hE4.trans e7
      have hU7 := hU4.ext e7
      have hX7 : Ext wo w7 := (e3.trans e4).trans e7
      have hS7 := hSk.ext hX7
      clear hP4 hP34 hF4 hE4 hU4 e3 e4 e7 hSk
      obtain ⟨z, hz⟩ : ∃ z, z = rootS (m.take k) := ⟨_, rfl⟩
      have hzl : z.length = 32 := by rw [hz]; exact rootS_length _ hmk
      obtain ⟨bb, hb⟩ : ∃ b, b = Oct.put k ++ Oct.list (peaksS (m.take k)) := ⟨_, rfl⟩
      have Hz := Lib.hid hz; have Hb := Lib.hid hb
      clear hz hb
      have hFs : ∀ y : More w7, FrT (grow w7 y) g (m.take k) := fun y => hF7.ext (grow_ext y)
      have hSs : ∀ y : More w7, SlS (grow w7 y) (grow w7 y).heap.size (.slice A k cap) (m.take k) := fun y => hS7.ext (grow_ext y)
      have hPs : ∀ y : More w7, SlS (grow w7 y) (grow w7 y).heap.size (.slice A3 (peaksS (m.take k)).length c3) (peaksS (m.take k)) := fun y => hP7.ext (grow_ext y)
      have hKs : ∀ y : More w7, Keys (grow w7 y) := fun y => KW.ext (hE7.trans (grow_ext y))
      have hgw := guard_sum
      have heq1 := fun w : World => eq_sum z z hzl hzl w
      go_wp2_with fail
      refine region_plan 25 (Plan.run [0, 1, 2, 3, 5, 4, 6, 7, 8, 9, 11, 12, 13, 10, 14, 15, 16, 17, 18, 20, 21, 19, 22, 23, 24] .nil) (by kernel_rfl) (by kernel_rfl) (fun y0 => ?_); simp only [Plan.run, List.drop_succ_cons, List.drop_zero, List.drop_nil]
      iterate 5 (first | (refine plan_quiet (by simp only [List.getElem?_toArray, List.getElem?_cons_zero, List.getElem?_cons_succ]; rfl) (by rfl) (by rfl) (fun K hK => ?_); go_big_quiet_op; refine hK _ ?_; clear hK K) | (refine plan_skip (by simp only [List.getElem?_toArray, List.getElem?_cons_zero, List.getElem?_cons_succ]; rfl) (by rfl) ?_; simp only [Act.put, List.setIfInBounds_toArray, List.set_cons_zero, List.set_cons_succ]))
      refine plan_one ?_
      (refine plan_loud (by simp only [List.getElem?_toArray, List.getElem?_cons_zero, List.getElem?_cons_succ]; rfl) (by rfl) (by rfl) (fun K E hK => ?_); go_big_op)
      refine (frtSize_calls g (m.take k) (grow w7 y0) (hFs _)).mono ?_; rw [Hk.out]; rintro e w3 ⟨rfl, rfl⟩
      refine hK _ _ ⟨_, rfl⟩ ?_; clear hK K E
      iterate 7 (first | (refine plan_quiet (by simp only [List.getElem?_toArray, List.getElem?_cons_zero, List.getElem?_cons_succ]; rfl) (by rfl) (by rfl) (fun K hK => ?_); go_big_quiet_op; refine hK _ ?_; clear hK K) | (refine plan_skip (by simp only [List.getElem?_toArray, List.getElem?_cons_zero, List.getElem?_cons_succ]; rfl) (by rfl) ?_; simp only [Act.put, List.setIfInBounds_toArray, List.set_cons_zero, List.set_cons_succ]))
      refine plan_one ?_
      (refine plan_loud (by simp only [List.getElem?_toArray, List.getElem?_cons_zero, List.getElem?_cons_succ]; rfl) (by rfl) (by rfl) (fun K E hK => ?_); go_big_op)
      refine (frtRoot_calls g (m.take k) (hm.take k) (by rw [Hk.out]; omega) (grow w7 y0) (hKs _) (hFs _)).mono ?_; rw [← Hz.out]; unfold sumV; rintro e w3 ⟨rfl, hd⟩
      obtain ⟨y2, rfl⟩ := more_ext y0 hd; clear hd
      refine hK _ _ ⟨_, rfl⟩ ?_; clear hK K E
      refine plan_one ?_
      (refine plan_loud (by simp only [List.getElem?_toArray, List.getElem?_cons_zero, List.getElem?_cons_succ]; rfl) (by rfl) (by rfl) (fun K E hK => ?_); go_big_op)
      refine (refRoot_calls (.slice A k cap) (m.take k) (hm.take k) (grow w7 y2) (hSs _)).mono ?_; rw [← Hz.out]; unfold sumV; rintro e w3 ⟨rfl, hd⟩
      obtain ⟨y3, rfl⟩ := more_ext y2 hd; clear hd
      refine hK _ _ ⟨_, rfl⟩ ?_; clear hK K E
      iterate 6 (first | (refine plan_quiet (by simp only [List.getElem?_toArray, List.getElem?_cons_zero, List.getElem?_cons_succ]; rfl) (by rfl) (by rfl) (fun K hK => ?_); go_big_quiet_op; refine hK _ ?_; clear hK K) | (refine plan_skip (by simp only [List.getElem?_toArray, List.getElem?_cons_zero, List.getElem?_cons_succ]; rfl) (by rfl) ?_; simp only [Act.put, List.setIfInBounds_toArray, List.set_cons_zero, List.set_cons_succ]))
      refine plan_one ?_
      (refine plan_loud (by simp only [List.getElem?_toArray, List.getElem?_cons_zero, List.getElem?_cons_succ]; rfl) (by rfl) (by rfl) (fun K E hK => ?_); go_big_op)
      refine (frtBytes_calls g (m.take k) (hm.take k) (by rw [Hk.out]; omega) (grow w7 y3) (hFs _)).mono ?_; rw [Hk.out, ← Hb.out]; rintro e w3 ⟨rfl, hd⟩
      obtain ⟨y4, rfl⟩ := more_ext y3 hd; clear hd
      refine hK _ _ ⟨_, rfl⟩ ?_; clear hK K E
      refine plan_one ?_
      (refine plan_loud (by simp only [List.getElem?_toArray, List.getElem?_cons_zero, List.getElem?_cons_succ]; rfl) (by rfl) (by rfl) (fun K E hK => ?_); go_big_op)
      refine (refFrBytes_calls k _ (peaksS (m.take k)) (peaks_all _ _ rfl (hm.take k)) (by omega) (by have := peaks_le (m.take k) (by rw [Hk.out]; omega); omega) (grow w7 y4) (hPs _)).mono ?_; rw [← Hb.out]; rintro e w3 ⟨rfl, hd⟩
      obtain ⟨y5, rfl⟩ := more_ext y4 hd; clear hd
      refine hK _ _ ⟨_, rfl⟩ ?_; clear hK K E
      iterate 2 (first | (refine plan_quiet (by simp only [List.getElem?_toArray, List.getElem?_cons_zero, List.getElem?_cons_succ]; rfl) (by rfl) (by rfl) (fun K hK => ?_); go_big_quiet_op; refine hK _ ?_; clear hK K) | (refine plan_skip (by simp only [List.getElem?_toArray, List.getElem?_cons_zero, List.getElem?_cons_succ]; rfl) (by rfl) ?_; simp only [Act.put, List.setIfInBounds_toArray, List.set_cons_zero, List.set_cons_succ]))
      refine plan_nil ?_
      have hF8 := hF7.ext (grow_ext y5)
      have hU8 := hU7.ext (grow_ext y5)
      clear hFs hSs hPs hKs
      have hE8 : Ext w (grow w7 y5) := hE7.trans (grow_ext y5)
      have hX8 : Ext w1 (grow w7 y5) := hX1.trans (hX7.trans (grow_ext y5))
      generalize grow w7 y5 = w8 at *
      have K8 := KW.ext hE8
      have hS8 := hS1.ext hX8
      clear hF7 hE7 hU7 hS7 hP7 heq1 hgw
      by_cases hlt : k < m.length
      · have hltI : (k : Int) < (m.length : Int) := by omega
        obtain ⟨A', cap', hv', hA', hc', hc63', hr'⟩ := hS8
        injection hv' with x1 _ x3
        subst x1 x3
        rcases hA' with ⟨_, h2, _⟩ | ⟨b, off, rfl⟩
        · rw [h2] at hlt; simp at hlt
        obtain ⟨hbl, hm8⟩ := rds_at hr' hm hlt
        have hq := hm.get k hlt
        have HT := Lib.hid (List.take_succ_eq_append_getElem hlt)
        have hb0 : ((k : Int) + 1 != (k : Int) + 1) = false := by simp
        generalize m[k] = q at *
        go_wp2_with (refine stop_load 23 (.tmp 62) rfl ?_)
        refine ⟨?_⟩
        refine list_want (by rfl) (fun K hK => ?_)
        refine wp_load_mid 23 (.tmp 62) rfl b (off + k * 32) (by rfl) (hcells q) _ hm8 Tryd.underlying23 rfl (size32l _ hq) ?_
        refine hK _ _ ?_; clear hK K
        simp only [Act.put, List.setIfInBounds_toArray, List.set_cons_zero, List.set_cons_succ]
        unfold hcells
        go_wp2_with fail
        change Calls _ _ #[_, sumV q] _ _
        refine (frtAdd_calls g (m.take k) q hmk hq (by rw [Hk.out]; omega) _ K8 hF8).mono ?_; rw [Hk.out]; rintro e w9 ⟨rfl, hF9, hU9⟩
        rw [← HT.out] at hF9
        have hU := hU8.trans hU9
        clear hm8 hr' hF8 hU8 hU9
        go_wp2_with fail
        go_roundw
        case rel => exact ⟨k + 1, by omega, by go_num, hF9, hU⟩
        case measure => simp [intOf]; omega
      · have hltI : ¬ (k : Int) < (m.length : Int) := by omega
        have HT : Hid (m.take (k + 1) = m.take k) := Lib.hid (by rw [List.take_of_length_le (by omega), List.take_of_length_le (by omega)])
        clear hS8
        go_wp2_with fail
        go_roundw
        case rel => exact ⟨k + 1, by omega, by go_num, by rw [HT.out]; exact hF8, hU8⟩
        case measure => simp [intOf]; omega
    · have hkI : ¬ (k : Int) ≤ (m.length : Int) := by omega
      go_wp2_with fail
      go_ret
      exact ⟨rfl, hEo⟩

set_option maxRecDepth 100000 in
theorem contract (H : Type) (enc : TypeId × Value → H) (W : World) (base : Nat) (args : Array Value) (ds gs : List (DataW H)) (before : List MemPlace)
    (hval0 : ∀ (j : Nat) t v, Tryd.f11.params[j]? = some t → args[j]? = some v → Value.okWide Tryd.prog W .any base t v)
    (hW : DataW.Whole enc Tryd.prog Tryd.f11.params.toList Rows.frontGrowsSpec.vars false W args.toList ds gs before) (hL : laidMetH Tryd.prog Rows.frontGrowsRow.laid W) :
    Calls Tryd.prog 11 args W fun e W' => ∃ v, e = .returned v ∧ Rows.frontGrowsSpec.post enc Tryd.prog Tryd.f11 false true false false W args v W' := by
  have K : Keys W := keys_of hL
  have hval : ∀ (j : Nat) t v, Tryd.f11.params[j]? = some t → args[j]? = some v → Value.okWide Tryd.prog W .any base t v := hval0
  have hW' := hW
  obtain ⟨p, q, hA0, hV, rfl, hfz, hnd⟩ := hW
  have hA : DataW.TrodAll enc Tryd.prog W 0 (fun _ => true) true Tryd.f11.params.toList args.toList ds p := hA0
  rw [Tryd.params11] at hA hval
  obtain ⟨v0, vs0, d0, ds0, p0, q0, hargs, rfl, rfl, hx0, r0⟩ := trodAll_cons hA
  obtain ⟨rfl, rfl, rfl⟩ := trodAll_nil r0
  obtain rfl : args = #[v0] := by cases args; simp_all
  obtain ⟨rfl, rfl⟩ := trodVars_none hV
  obtain ⟨l, hls, hla⟩ := op_sls (hval 0 29 v0 rfl rfl) (tr_of hx0)
  refine (walk v0 l hla W K hls).mono fun e W' ⟨he, hg⟩ => ?_
  subst he
  exact ⟨_, rfl, law_post hW' rfl rfl (by kernel_rfl) rfl rfl rfl hg⟩

theorem laid_met (os : Os) : laidMet Tryd.prog Rows.frontGrowsRow.laid ((keysWorld os).forCall (fun _ _ => 0) ⟨#[], #[.slice none 0 0], []⟩).memory :=
  laidMet_of_run' 8 (by kernel_rfl) (by kernel_rfl)
theorem reads (os : Os) {H : Type} (enc : TypeId × Value → H) : ∃ x, DataW.whole enc Tryd.prog ((keysWorld os).forCall (fun _ _ => 0) ⟨#[], #[.slice none 0 0], []⟩).memory Tryd.f11.params.toList Rows.frontGrowsSpec.vars false (#[.slice none 0 0] : Array Value).toList 8 = some x :=
  Option.isSome_iff_exists.1 (by kernel_rfl)
set_option maxRecDepth 100000 in
theorem lifted (os : Os) (started : os.Started) (H : Type) (enc : TypeId × Value → H) (F : Stop.Interp) :
    ReturnsInHanded {} Tryd.checked os 11 .any ((OpenSpec.ofChange Rows.frontGrowsSpec).preRow enc Tryd.prog Tryd.f11 Rows.frontGrowsRow.domain false Rows.frontGrowsRow.laid) (((OpenSpec.ofChange Rows.frontGrowsSpec).at F).post enc Tryd.prog Tryd.f11 false true false false) := by
  obtain ⟨x, hx⟩ := reads os enc
  refine returnsInHanded_of_row (C := Tryd.checked) (s := OpenSpec.ofChange Rows.frontGrowsSpec) own_ started (by kernel_rfl) Tryd.func11
    (witness_row_at (enc := enc) (C := Tryd.checked) false (keysWorld os) #[.slice none 0 0] rfl (by kernel_rfl) (by kernel_rfl) (by kernel_rfl)
      (OpenSpec.preRow_of_cond 8 hx rfl (fun k hk => by cases hk) (by kernel_rfl) (laid_met os))) ?_
  intro W base args ds gs before hval hW _ _ _ hL _ _
  exact contract H enc W base args ds gs before hval hW hL

theorem said : Rows.FrontGrowsSaid :=
  OpenClaim.holds_of_cond 11 Tryd.f11 rfl rfl rfl rfl rfl rfl rfl ⟨rfl, rfl, rfl, rfl, rfl⟩ rfl rfl rfl rfl rfl (by kernel_rfl) Tryd.func11 (by kernel_rfl)
    (of_decide_eq_true (by kernel_rfl)) (by unfold Func.isWrapper; first | (rw [if_pos (by decide +kernel)]; kernel_rfl) | (rw [if_neg (by decide +kernel)]; exact ⟨rfl, rfl⟩))
    (fun os started H enc _ F => by rw [OpenClaim.pre_eq_preRow]; exact lifted os started H enc F)
theorem plain (f : FuncId) (fn : Func) (hf : Tryd.pinned.checked.prog.funcNamed "scrinium/scriniumlaw11.FrontGrows" = some f) (hfn : Tryd.pinned.checked.prog.funcs[f]? = some fn) :
    false = Tryd.pinned.checked.prog.looks [] ∧ ∀ (j : Nat) t, fn.params[j]? = some t → Tryd.pinned.checked.prog.wantsStandIn t = false := by
  obtain rfl : f = 11 := Option.some.inj ((show Tryd.prog.funcNamed "scrinium/scriniumlaw11.FrontGrows" = some 11 by kernel_rfl).symm.trans hf) |>.symm
  obtain rfl : fn = Tryd.f11 := (Option.some.inj (Tryd.func11.symm.trans hfn)).symm
  refine ⟨by kernel_rfl, fun j t ht => ?_⟩
  rw [Tryd.params11] at ht
  have hm : t ∈ ([29] : List TypeId) := by simpa using Array.mem_of_getElem? ht
  have hall : (([29] : List TypeId).all fun u => !Tryd.prog.wantsStandIn u) = true := by kernel_rfl
  exact (show Tryd.prog.wantsStandIn t = false by simpa using List.all_eq_true.1 hall t hm)
theorem proved : Rows.FrontGrowsCardSaid :=
  Claim7.holds_tied_plain_at .later [] _ _ _ _ said (fun _ h => by cases h) (by kernel_rfl) (fun _ h => by cases h) frontGrows_row_tie rfl ⟨rfl, rfl⟩ (by kernel_rfl) rfl plain (by kernel_rfl)

end Go.Proofs.YtlcimlencoaiiaaDoor.frontGrows
