/-
  scriniumlaw12.ProofTrees: no condition.
-/
import Derived.Test.YtfpipdopgepelaaDoorRefPath
import Derived.Test.YtfpipdopgepelaaDoorOpQ
import Derived.Test.YtfpipdopgepelaaDoorEqA
import Derived.Test.YtfpipdopgepelaaDoorLaw
import Derived.Deep.DeepCutAuto
set_option linter.unusedVariables false
set_option maxRecDepth 100000
set_option linter.unusedSimpArgs false
namespace Go.Proofs.YtfpipdopgepelaaDoor.proofTrees
open Go.ChangeShapes Go.WideShapes Go.ChangeAt Go.RowKit
attribute [local go_sem] bs_size bs_toList2 bs_append bs_extract_end bs_extract_begin bs_get wrap64_b grow_cell grow_frozen

/-! ### Plain law -/
theorem goes_links (l : List (List UInt8)) (k : Nat) (h1 : 1 ≤ k) (hk : k ≤ l.length) (h : l.length ≤ 1099511627776) : goesB (rootS (l.take k)) (k : Int) (rootS l) (l.length : Int) (linksS l k true) = true := by
  obtain ⟨i1, i2⟩ := Way.linksF_both nodeB emptyB l.length l k true (Nat.le_refl _) h1 hk
  have hlong : Way.linksI (k : Int) (l.length : Int) = ((linksS l k true).length : Int) := by
    unfold Way.linksI
    rw [if_neg (by omega), i1]
    unfold Way.needL
    simp only [Int.toNat_natCast, Bool.true_and]
    split <;> simp
  have hb : bothP (rootS (l.take k)) (k : Int) (l.length : Int) (linksS l k true) = ((rootS (l.take k), rootS l), true) := by
    have h2 : bothP (rootS (l.take k)) (k : Int) (l.length : Int) (linksS l k true) = _ := if_pos hlong
    rw [h2, Int.toNat_natCast, Int.toNat_natCast, i2]
  unfold goesB
  rw [hb]
  simp

/-! ### The walk -/
set_option maxHeartbeats 4000000 in
theorem walk (v : Value) (l : List (List UInt8)) (n : Int) (hl : AllH l) (hn0 : -9223372036854775808 ≤ n) (hn1 : n ≤ 9223372036854775807) (w : World) (KW : Keys w) (h : SlS w w.heap.size v l) :
    Calls Tryd.prog 6 #[v, .int .i64 n] w fun e w' => e = .returned (.bool true) ∧ Ext w w' := by
  go_enter Tryd.func6, Tryd.ntmps6
  go_wp2_with fail
  refine (awake12_calls _ KW).mono ?_; rintro e w1 ⟨rfl, e1⟩
  go_wp2_with fail
  refine (few12_calls _ l hl 20 (by omega) _ (h.ext e1)).mono ?_; rintro e w2 ⟨v', rfl, hS, rfl⟩
  have hm := hl.take 20
  have hml : (l.take 20).length ≤ 20 := by simp; omega
  generalize l.take 20 = m at *
  have hS0 := hS
  have K1 := KW.ext e1
  clear KW h
  obtain ⟨A, cap, rfl, hA, hc, hc63, hr⟩ := hS
  by_cases h0 : m.length = 0
  · have hb : ((m.length : Int) == 0) = true := by rw [beq_iff_eq]; omega
    have H0 := Lib.hid h0
    clear h0
    go_wp2_with fail
    go_ret
    exact ⟨rfl, e1⟩
  · have hb : ((m.length : Int) == 0) = false := by rw [beq_eq_false_iff_ne]; omega
    rcases hA with ⟨_, hl1, _⟩ | ⟨b, off, rfl⟩
    · rw [hl1] at h0; simp at h0
    obtain ⟨r, hr'⟩ : ∃ r, r = n.tmod (m.length : Int) := ⟨_, rfl⟩
    have hr1 : r < (m.length : Int) := by rw [hr']; exact Int.tmod_lt_of_pos n (by omega)
    have hr0 : -(m.length : Int) < r := by
      have := Int.lt_tmod_of_pos n (show (0 : Int) < (m.length : Int) by omega)
      omega
    replace hr' := hr'.symm
    by_cases hneg : r < 0
    · obtain ⟨k, hk⟩ : ∃ k : Nat, -r = (k : Int) := ⟨(-r).toNat, by omega⟩
      have hkm : k + 1 ≤ m.length := by omega
      have hkI : (k : Int) < (m.length : Int) := by omega
      go_wp2_with fail
      clear hr' hneg hk
      have HG := Lib.hid (goes_links m (k + 1) (by omega) (by omega) (by omega))
      have hpl : (linksS m (k + 1) true).length ≤ m.length + 1 := linksF_le m.length m (k + 1) true
      have hpa := linksF_all m.length m (k + 1) true hm
      have hkc : ((k + 1 : Nat) : Int) ≤ (cap : Int) := by omega
      rw [show (k : Int) + 1 = ((k + 1 : Nat) : Int) from rfl]
      refine (refLinks_calls _ m (k + 1) (by omega) (by omega) hkm hm _ hS0).mono ?_; rintro e w3 ⟨v3, rfl, hP, e3⟩
      have hS3 := hS0.ext e3
      have E3 := e1.trans e3
      have K3 := K1.ext e3
      have hT3 : SlS w3 w3.heap.size (.slice (some ⟨b, off, none⟩) (k + 1) cap) (m.take (k + 1)) := (sls_take hm hc hc63 (hr.below e3 (Nat.le_refl _)) (k + 1) (by omega)).more e3.size
      obtain ⟨Ap, cp, hv3, _⟩ := id hP
      subst hv3
      have htl := rootS_length _ (hm.take (k + 1))
      obtain ⟨z, hz⟩ : ∃ z, z = rootS (m.take (k + 1)) := ⟨_, rfl⟩
      rw [← hz] at htl
      have Hz := Lib.hid hz
      clear hS0 hz
      have HG := Lib.hid (show goesB (rootS (m.take (k + 1))) ((k : Int) + 1) (rootS m) (m.length : Int) (linksS m (k + 1) true) = true from HG.out)
      have hkc2 : (k : Int) + 1 ≤ (cap : Int) := by omega
      go_wp2_with fail
      refine (refRoot_calls _ (m.take (k + 1)) (hm.take (k + 1)) _ hT3).mono ?_; rw [← Hz.out]; rintro e u1 ⟨rfl, k1⟩
      go_wp2_with fail
      refine (refRoot_calls _ m hm _ (hS3.ext k1)).mono ?_; rintro e u2 ⟨rfl, k2⟩
      have k2 := k1.trans k2
      go_wp2_with fail
      refine (Goes_sls z (rootS m) htl (rootS_length _ hm) ((k : Int) + 1) (m.length : Int) (by omega) _ (linksS m (k + 1) true) hpa (by omega) _ (K3.ext k2) (hP.ext k2)).mono ?_; rw [Hz.out, HG.out]; rintro e u3 ⟨rfl, k3⟩
      go_wp2_with fail
      go_ret
      exact ⟨rfl, E3.trans (k2.trans k3)⟩
    · obtain ⟨k, hk⟩ : ∃ k : Nat, r = (k : Int) := ⟨r.toNat, by omega⟩
      have hkm : k + 1 ≤ m.length := by omega
      have hkI : (k : Int) < (m.length : Int) := by omega
      subst hk
      have hneg2 : ¬ (k : Int) < 0 := by omega
      go_wp2_with fail
      clear hr' hneg hneg2
      have HG := Lib.hid (goes_links m (k + 1) (by omega) (by omega) (by omega))
      have hpl : (linksS m (k + 1) true).length ≤ m.length + 1 := linksF_le m.length m (k + 1) true
      have hpa := linksF_all m.length m (k + 1) true hm
      have hkc : ((k + 1 : Nat) : Int) ≤ (cap : Int) := by omega
      rw [show (k : Int) + 1 = ((k + 1 : Nat) : Int) from rfl]
      refine (refLinks_calls _ m (k + 1) (by omega) (by omega) hkm hm _ hS0).mono ?_; rintro e w3 ⟨v3, rfl, hP, e3⟩
      have hS3 := hS0.ext e3
      have E3 := e1.trans e3
      have K3 := K1.ext e3
      have hT3 : SlS w3 w3.heap.size (.slice (some ⟨b, off, none⟩) (k + 1) cap) (m.take (k + 1)) := (sls_take hm hc hc63 (hr.below e3 (Nat.le_refl _)) (k + 1) (by omega)).more e3.size
      obtain ⟨Ap, cp, hv3, _⟩ := id hP
      subst hv3
      have htl := rootS_length _ (hm.take (k + 1))
      obtain ⟨z, hz⟩ : ∃ z, z = rootS (m.take (k + 1)) := ⟨_, rfl⟩
      rw [← hz] at htl
      have Hz := Lib.hid hz
      clear hS0 hz
      have HG := Lib.hid (show goesB (rootS (m.take (k + 1))) ((k : Int) + 1) (rootS m) (m.length : Int) (linksS m (k + 1) true) = true from HG.out)
      have hkc2 : (k : Int) + 1 ≤ (cap : Int) := by omega
      go_wp2_with fail
      refine (refRoot_calls _ (m.take (k + 1)) (hm.take (k + 1)) _ hT3).mono ?_; rw [← Hz.out]; rintro e u1 ⟨rfl, k1⟩
      go_wp2_with fail
      refine (refRoot_calls _ m hm _ (hS3.ext k1)).mono ?_; rintro e u2 ⟨rfl, k2⟩
      have k2 := k1.trans k2
      go_wp2_with fail
      refine (Goes_sls z (rootS m) htl (rootS_length _ hm) ((k : Int) + 1) (m.length : Int) (by omega) _ (linksS m (k + 1) true) hpa (by omega) _ (K3.ext k2) (hP.ext k2)).mono ?_; rw [Hz.out, HG.out]; rintro e u3 ⟨rfl, k3⟩
      go_wp2_with fail
      go_ret
      exact ⟨rfl, E3.trans (k2.trans k3)⟩

set_option maxRecDepth 100000 in
theorem contract (H : Type) (enc : TypeId × Value → H) (W : World) (base : Nat) (args : Array Value) (ds gs : List (DataW H)) (before : List MemPlace)
    (hval0 : ∀ (j : Nat) t v, Tryd.f6.params[j]? = some t → args[j]? = some v → Value.okWide Tryd.prog W .any base t v)
    (hW : DataW.Whole enc Tryd.prog Tryd.f6.params.toList Rows.proofTreesSpec.vars false W args.toList ds gs before) (hL : laidMetH Tryd.prog Rows.proofTreesRow.laid W) :
    Calls Tryd.prog 6 args W fun e W' => ∃ v, e = .returned v ∧ Rows.proofTreesSpec.post enc Tryd.prog Tryd.f6 false true false false W args v W' := by
  have K : Keys W := keys_of hL
  have hval : ∀ (j : Nat) t v, Tryd.f6.params[j]? = some t → args[j]? = some v → Value.okWide Tryd.prog W .any base t v := hval0
  have hW' := hW
  obtain ⟨p, q, hA0, hV, rfl, hfz, hnd⟩ := hW
  have hA : DataW.TrodAll enc Tryd.prog W 0 (fun _ => true) true Tryd.f6.params.toList args.toList ds p := hA0
  rw [Tryd.params6] at hA hval
  obtain ⟨v0, vs0, d0, ds0, p0, q0, hargs, rfl, rfl, hx0, r0⟩ := trodAll_cons hA
  obtain ⟨v1, vs1, d1, ds1, p1, q1, rfl, rfl, rfl, hx1, r1⟩ := trodAll_cons r0
  obtain ⟨rfl, rfl, rfl⟩ := trodAll_nil r1
  obtain rfl : args = #[v0, v1] := by cases args; simp_all
  obtain ⟨rfl, rfl⟩ := trodVars_none hV
  obtain ⟨l, hls, hla⟩ := op_sls (hval 0 25 v0 rfl rfl) (tr_of hx0)
  obtain ⟨n, rfl, hn0, hn1⟩ := op_int (hval 1 3 v1 rfl rfl) (tr_of hx1)
  refine (walk v0 l n hla hn0 hn1 W K hls).mono fun e W' ⟨he, hg⟩ => ?_
  subst he
  exact ⟨_, rfl, law_post hW' rfl rfl (by kernel_rfl) rfl rfl rfl hg⟩

theorem laid_met (os : Os) : laidMet Tryd.prog Rows.proofTreesRow.laid ((keysWorld os).forCall (fun _ _ => 0) ⟨#[], #[.slice none 0 0, .int .i64 0], []⟩).memory :=
  laidMet_of_run' 8 (by kernel_rfl) (by kernel_rfl)
theorem reads (os : Os) {H : Type} (enc : TypeId × Value → H) : ∃ x, DataW.whole enc Tryd.prog ((keysWorld os).forCall (fun _ _ => 0) ⟨#[], #[.slice none 0 0, .int .i64 0], []⟩).memory Tryd.f6.params.toList Rows.proofTreesSpec.vars false (#[.slice none 0 0, .int .i64 0] : Array Value).toList 8 = some x :=
  Option.isSome_iff_exists.1 (by kernel_rfl)
set_option maxRecDepth 100000 in
theorem lifted (os : Os) (started : os.Started) (H : Type) (enc : TypeId × Value → H) (F : Stop.Interp) :
    ReturnsInHanded {} Tryd.checked os 6 .any ((OpenSpec.ofChange Rows.proofTreesSpec).preRow enc Tryd.prog Tryd.f6 Rows.proofTreesRow.domain false Rows.proofTreesRow.laid) (((OpenSpec.ofChange Rows.proofTreesSpec).at F).post enc Tryd.prog Tryd.f6 false true false false) := by
  obtain ⟨x, hx⟩ := reads os enc
  refine returnsInHanded_of_row (C := Tryd.checked) (s := OpenSpec.ofChange Rows.proofTreesSpec) own_ started (by kernel_rfl) Tryd.func6
    (witness_row_at (enc := enc) (C := Tryd.checked) false (keysWorld os) #[.slice none 0 0, .int .i64 0] rfl (by kernel_rfl) (by kernel_rfl) (by kernel_rfl)
      (OpenSpec.preRow_of_cond 8 hx rfl (fun k hk => by cases hk) (by kernel_rfl) (laid_met os))) ?_
  intro W base args ds gs before hval hW _ _ _ hL _ _
  exact contract H enc W base args ds gs before hval hW hL

theorem said : Rows.ProofTreesSaid :=
  OpenClaim.holds_of_cond 6 Tryd.f6 rfl rfl rfl rfl rfl rfl rfl ⟨rfl, rfl, rfl, rfl, rfl⟩ rfl rfl rfl rfl rfl (by kernel_rfl) Tryd.func6 (by kernel_rfl)
    (of_decide_eq_true (by kernel_rfl)) (by unfold Func.isWrapper; first | (rw [if_pos (by decide +kernel)]; kernel_rfl) | (rw [if_neg (by decide +kernel)]; exact ⟨rfl, rfl⟩))
    (fun os started H enc _ F => by rw [OpenClaim.pre_eq_preRow]; exact lifted os started H enc F)
theorem plain (f : FuncId) (fn : Func) (hf : Tryd.pinned.checked.prog.funcNamed "scrinium/scriniumlaw12.ProofTrees" = some f) (hfn : Tryd.pinned.checked.prog.funcs[f]? = some fn) :
    false = Tryd.pinned.checked.prog.looks [] ∧ ∀ (j : Nat) t, fn.params[j]? = some t → Tryd.pinned.checked.prog.wantsStandIn t = false := by
  obtain rfl : f = 6 := Option.some.inj ((show Tryd.prog.funcNamed "scrinium/scriniumlaw12.ProofTrees" = some 6 by kernel_rfl).symm.trans hf) |>.symm
  obtain rfl : fn = Tryd.f6 := (Option.some.inj (Tryd.func6.symm.trans hfn)).symm
  refine ⟨by kernel_rfl, fun j t ht => ?_⟩
  rw [Tryd.params6] at ht
  have hm : t ∈ ([25, 3] : List TypeId) := by simpa using Array.mem_of_getElem? ht
  have hall : (([25, 3] : List TypeId).all fun u => !Tryd.prog.wantsStandIn u) = true := by kernel_rfl
  exact (show Tryd.prog.wantsStandIn t = false by simpa using List.all_eq_true.1 hall t hm)
theorem proved : Rows.ProofTreesCardSaid :=
  Claim7.holds_tied_plain_at .later [] _ _ _ _ said (fun _ h => by cases h) (by kernel_rfl) (fun _ h => by cases h) proofTrees_row_tie rfl ⟨rfl, rfl⟩ (by kernel_rfl) rfl plain (by kernel_rfl)

end Go.Proofs.YtfpipdopgepelaaDoor.proofTrees
