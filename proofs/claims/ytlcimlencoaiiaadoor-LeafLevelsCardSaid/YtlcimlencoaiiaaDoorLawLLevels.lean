/-
  scriniumlaw09.LeafLevels: leaf.Levels and the document's Levels give the same rows, and the rows given are the caller's own. No condition.
-/
import Derived.Test.YtlcimlencoaiiaaDoorLeafD
import Derived.Test.YtlcimlencoaiiaaDoorOpL
import Derived.Test.YtlcimlencoaiiaaDoorEqA
import Derived.Test.YtlcimlencoaiiaaDoorLaw
import Derived.Deep.DeepCutAuto
set_option linter.unusedVariables false
set_option maxRecDepth 100000
set_option linter.unusedSimpArgs false
namespace Go.Proofs.YtlcimlencoaiiaaDoor.leafLevels
open Go.ChangeShapes Go.WideShapes Go.ChangeAt Go.RowKit
attribute [local go_sem] bs_size bs_toList2 bs_append bs_extract_end bs_extract_begin bs_get wrap64_b grow_cell grow_frozen

set_option maxHeartbeats 4000000 in
theorem walk (v : Value) (l : List (List UInt8)) (hl : AllH l) (w : World) (KW : Keys w) (h : SlS w w.heap.size v l) :
    Calls Tryd.prog 4 #[v] w fun e w' => e = .returned (.bool true) ∧ Ext w w' := by
  go_enter Tryd.func4, Tryd.ntmps4
  go_wp2_with fail
  refine (awake09_calls _ KW).mono ?_; rintro e w1 ⟨rfl, e1⟩
  go_wp2_with fail
  refine (few09_calls v l hl _ (h.ext e1)).mono ?_; rintro e w2 ⟨v', rfl, hS, rfl⟩
  have hm := hl.take 20
  have hml : (l.take 20).length ≤ 20 := by simp; omega
  generalize l.take 20 = m at *
  go_wp2_with (refine stop_dst 17 rfl ?_)
  refine ⟨?_⟩
  refine append_sls rfl (.tmp 15) (.tmp 16) rfl _ m rfl rfl hm (by omega) hS w1.heap.size (Nat.le_refl _) fun v0 w3 hO e2 => ?_
  obtain ⟨A0, c0, rfl⟩ := own_slice hO
  simp only [Act.put, List.setIfInBounds_toArray, List.set_cons_zero, List.set_cons_succ]
  go_wp2_with fail
  refine (LevelsSep_calls v' m hm (by omega) _ (KW.ext (e1.trans e2)) (hS.ext e2)).mono ?_; rintro e w4 ⟨va, vs, rfl, houtA, hRA, hSep, e3⟩
  go_wp2_with fail
  refine (refLevels_calls v' m hm (by omega) _ ((hS.ext e2).ext e3)).mono ?_; rintro e w5 ⟨vb, us, rfl, houtB, hRB, e4⟩
  have hsz0 : w.heap.size ≤ w3.heap.size := (e1.trans e2).size
  have hE := ((e1.trans e2).trans e3).trans e4
  have hE34 := e3.trans e4
  have hb35 := hE34.size
  have hMk : SlS w5 w3.heap.size v' m := (hS.ext e2).below hE34 (Nat.le_refl _)
  have hHk : SlS w5 w3.heap.size (.slice A0 m.length c0) m := (OwnS.of_own hO).sl.below hE34 (Nat.le_refl _)
  have hRA5 := hRA.ext e4
  have houtA5 := owns_ext houtA e4
  have hvl : vs.length = Tree.depth m.length + 1 := by rw [hRA.length, levS_length]
  have hul : us.length = Tree.depth m.length + 1 := by rw [hRB.length, levS_length]
  have hdm := depth_le m.length
  obtain ⟨Aa, ca, rfl⟩ := own_slice houtA
  obtain ⟨Ab, cb, rfl⟩ := own_slice houtB
  obtain ⟨bo, oo, rfl, hbo, hcs⟩ := Rd.of_own houtA5 (by rintro rfl; simp at hvl)
  obtain ⟨bp, op, rfl, hbp, hcp⟩ := Rd.of_own houtB (by rintro rfl; simp at hul)
  have hlow : ∀ i g, g < w3.heap.size → Safe vs i g := fun i g hg => Safe.low hRA i g hg
  have hhigh : ∀ i g, w4.heap.size ≤ g → Safe vs i g := fun i g hg => Safe.high hRA i g hg
  have hbos : ∀ i, Safe vs i bo := Safe.outer hRA5 houtA5 (by decide)
  have hbps : ∀ i, Safe vs i bp := Safe.outer hRA5 houtB (by decide)
  have hls : ∀ i (r : List (List UInt8)), (levS m)[i]? = some r → AllH r ∧ r.length ≤ 20 := fun i r hr => by
    obtain ⟨h1, rfl⟩ := List.getElem?_eq_some_iff.1 hr
    rw [levS_get]
    have := row_bound m i
    exact ⟨row_all m hm i, by omega⟩
  have Hls := Lib.hid hls; have Hlow := Lib.hid hlow; have Hhigh := Lib.hid hhigh; have Hbos := Lib.hid hbos; have Hbps := Lib.hid hbps
  have Hcs := Lib.hid hcs; have Hcp := Lib.hid hcp; have HMk := Lib.hid hMk; have HHk := Lib.hid hHk; have Hvl := Lib.hid hvl; have Hul := Lib.hid hul
  rw [hvl, hul]
  clear hls hlow hhigh hbos hbps hcs hcp hMk hHk hS hO houtA houtA5 houtB hRA e1 e2 e3 e4 hE34 h hvl hul
  generalize Tree.depth m.length = d at *
  go_wp2_with fail
  go_loopw [8] (fun s8 wr => ∃ i : Nat, i ≤ d + 1 ∧ s8 = .int .i64 (i : Int) ∧ Keep (Safe vs i) w5 wr) (fun s8 _ => d + 1 - (intOf s8).toNat)
  case atStart => exact ⟨0, by omega, rfl, Keep.refl _ _⟩
  case round =>
    obtain ⟨wo, rfl⟩ : ∃ wo : World, wo = wr := ⟨_, rfl⟩
    obtain ⟨i, hi, rfl, hkp⟩ := hrel
    by_cases hlt : i < d + 1
    · have hit : (i : Int) < (d : Int) + 1 := by omega
      obtain ⟨va, hva⟩ : ∃ va, vs[i]? = some va := ⟨_, List.getElem?_eq_getElem (by rw [Hvl.out]; exact hlt)⟩
      obtain ⟨vb, hvb⟩ : ∃ vb, us[i]? = some vb := ⟨_, List.getElem?_eq_getElem (by rw [Hul.out]; exact hlt)⟩
      obtain ⟨r, hr, hOa⟩ := hRA5.at hva
      obtain ⟨r', hr', hOb⟩ := hRB.at hvb
      obtain rfl : r = r' := by rw [hr] at hr'; injection hr'
      obtain ⟨hrall, hr20⟩ := Hls.out i r hr
      have hsz := hkp.size
      have hca := hkp.cell hbo (Hbos.out i) (Hcs.out i va hva)
      have hcb := hkp.cell hbp (Hbps.out i) (Hcp.out i vb hvb)
      have hOa := hOa.keep hkp (fun _ => Safe.sep hSep hva)
      have hOb := hOb.keep hkp (fun hne => Hhigh.out i _ (hOb.block hne).1)
      obtain ⟨Av, cv, rfl, hAv⟩ := hOa
      have hOa : OwnS wo w3.heap.size (.slice Av r.length cv) r := ⟨Av, cv, rfl, hAv⟩
      obtain ⟨Au, cu, rfl, hAu⟩ := hOb
      have hOb : OwnS wo w4.heap.size (.slice Au r.length cu) r := ⟨Au, cu, rfl, hAu⟩
      have hbo1 : bo < wo.heap.size := by omega
      have hbp1 : bp < wo.heap.size := by omega
      have hS1 : ∀ x : More wo, SlS (grow wo x) (grow wo x).heap.size (.slice Av r.length cv) r := fun x => (hOa.ext (grow_ext x)).sl
      have hS2 : ∀ x : More wo, SlS (grow wo x) (grow wo x).heap.size (.slice Au r.length cu) r := fun x => (hOb.ext (grow_ext x)).sl
      clear hAv hAu hr hr'
      go_wp2_with fail
      refine region_mix 9 (by kernel_rfl) (by kernel_rfl) (fun x => ?_); simp only [List.take_succ_cons, List.take_zero, List.drop_succ_cons, List.drop_zero]
      repeat (first | (refine mix_quiet (by rfl) (by rfl) (fun K hK => ?_); go_big_quiet_op; refine hK _ ?_; clear hK K) | (refine mix_skip (by rfl) ?_; simp only [Act.put, List.setIfInBounds_toArray, List.set_cons_zero, List.set_cons_succ]))
      (refine mix_loud (by rfl) (by rfl) (fun K E hK => ?_); go_big_op)
      refine (Same_calls _ _ r r hrall hrall _ (hS1 _) (hS2 _)).mono ?_; rw [show decide (r = r) = true from by simp]; rintro e w6 ⟨rfl, hd'⟩
      obtain ⟨x', rfl⟩ := more_ext _ hd'
      refine hK _ _ ⟨_, rfl⟩ ?_; clear hK K E hd'
      refine mix_nil ?_
      have hOa := hOa.ext (grow_ext x')
      have hkp2 : Keep (Safe vs i) w5 (grow wo x') := hkp.trans (Keep.of_ext (grow_ext x'))
      clear hS1 hS2 hOb hkp hsz hca hcb hbo1 hbp1
      generalize grow wo x' = w7 at *
      have hth0 : ∀ g, Av = some ⟨g, 0, none⟩ → r ≠ [] → w7.there g 0 (r.length * 32) := fun g hg hne => by
        obtain ⟨g', hg', ht⟩ := hOa.there hne
        rw [hg] at hg'
        injection hg' with hg'
        injection hg' with hg'
        rw [hg']
        exact ht
      have hAg : r ≠ [] → ∃ g, Av = some ⟨g, 0, none⟩ := fun hne => by
        obtain ⟨g', hg', _⟩ := hOa.there hne
        exact ⟨g', hg'⟩
      have Hva := Lib.hid hva
      clear hva hvb
      go_wp2_with fail
      go_loopw [10] (fun s10 wr => ∃ k : Nat, k ≤ r.length ∧ s10 = .int .i64 (k : Int) ∧ Keep (Safe vs (i + 1)) w5 wr ∧ ∀ g, Av = some ⟨g, 0, none⟩ → r ≠ [] → wr.there g 0 (r.length * 32)) (fun s10 _ => r.length - (intOf s10).toNat)
      case atStart => exact ⟨0, by omega, rfl, hkp2.mono (fun k _ hk => hk.mono (by omega)), hth0⟩
      case round =>
        clear hth0 hkp2 hOa
        obtain ⟨wq, rfl⟩ : ∃ wq : World, wq = wr := ⟨_, rfl⟩
        obtain ⟨k, hk, rfl, hkp3, hth⟩ := hrel
        have hca := hkp3.cell hbo (Hbos.out (i + 1)) (Hcs.out i _ Hva.out)
        by_cases hlk : k < r.length
        · have hkt : (k : Int) < (r.length : Int) := by omega
          have hne : r ≠ [] := by rintro rfl; simp at hlk
          obtain ⟨g, rfl⟩ := hAg hne
          have ht := hth g rfl hne
          have hts : wq.there g (k * 32) 32 := fun j hj => by
            have := ht (k * 32 + j) (by omega)
            rw [Nat.zero_add] at this
            exact this
          have hns : ¬ Safe vs (i + 1) g := Safe.not Hva.out (by simp [slLen]; omega)
          go_wp2_with (refine stop_store 23 (.tmp 59) (.tmp 58) rfl ?_)
          refine ⟨?_⟩
          refine wpList_store_mid rfl 23 (.tmp 59) (.tmp 58) rfl g (k * 32) _ (by rfl) rfl hts (by rfl) (by decide +kernel) ?_
          generalize hcc : Array.toList _ = cc
          have hkp4 : Keep (Safe vs (i + 1)) w5 (wq.setCells g (k * 32) cc) := setCells_keep hns _ _ _ hkp3
          have hth4 : (wq.setCells g (k * 32) cc).there g 0 (r.length * 32) := World.there_setCells ht _ _ _
          clear hcc
          generalize wq.setCells g (k * 32) cc = w8 at *
          simp only [Act.put, List.setIfInBounds_toArray, List.set_cons_zero, List.set_cons_succ]
          go_wp2_with fail
          go_roundw
          case rel => exact ⟨k + 1, by omega, by go_num, hkp4, fun g' hg' _ => by injection hg' with hg'; injection hg' with hg'; rw [← hg']; exact hth4⟩
          case measure => simp [intOf]; omega
        · obtain rfl : k = r.length := by omega
          go_wp2_with fail
          go_roundw
          case rel => exact ⟨i + 1, by omega, by go_num, hkp3⟩
          case measure => simp [intOf]; omega
    · obtain rfl : i = d + 1 := by omega
      have hsz := hkp.size
      have hM9 := (HMk.out.keep hkp hb35 (fun k hk => Hlow.out _ k hk)).more (show w3.heap.size ≤ wo.heap.size by omega)
      have hH9 := (HHk.out.keep hkp hb35 (fun k hk => Hlow.out _ k hk)).more (show w3.heap.size ≤ wo.heap.size by omega)
      have hE9 : Ext w wo := Keep.ext ((Keep.of_ext hE).trans (hkp.mono (fun k _ hk => Hlow.out _ k (by omega))))
      clear hkp hRA5 hRB hSep
      go_wp2_with fail
      refine (Same_calls _ _ m m hm hm _ hM9 hH9).mono ?_; rw [show decide (m = m) = true from by simp]; rintro e w9 ⟨rfl, e9⟩
      go_wp2_with fail
      go_ret
      exact ⟨rfl, hE9.trans e9⟩

set_option maxRecDepth 100000 in
theorem contract (H : Type) (enc : TypeId × Value → H) (W : World) (base : Nat) (args : Array Value) (ds gs : List (DataW H)) (before : List MemPlace)
    (hval0 : ∀ (j : Nat) t v, Tryd.f4.params[j]? = some t → args[j]? = some v → Value.okWide Tryd.prog W .any base t v)
    (hW : DataW.Whole enc Tryd.prog Tryd.f4.params.toList Rows.leafLevelsSpec.vars false W args.toList ds gs before) (hL : laidMetH Tryd.prog Rows.leafLevelsRow.laid W) :
    Calls Tryd.prog 4 args W fun e W' => ∃ v, e = .returned v ∧ Rows.leafLevelsSpec.post enc Tryd.prog Tryd.f4 false true false false W args v W' := by
  have K : Keys W := keys_of hL
  have hval : ∀ (j : Nat) t v, Tryd.f4.params[j]? = some t → args[j]? = some v → Value.okWide Tryd.prog W .any base t v := hval0
  have hW' := hW
  obtain ⟨p, q, hA0, hV, rfl, hfz, hnd⟩ := hW
  have hA : DataW.TrodAll enc Tryd.prog W 0 (fun _ => true) true Tryd.f4.params.toList args.toList ds p := hA0
  rw [Tryd.params4] at hA hval
  obtain ⟨v0, vs0, d0, ds0, p0, q0, hargs, rfl, rfl, hx0, r0⟩ := trodAll_cons hA
  obtain ⟨rfl, rfl, rfl⟩ := trodAll_nil r0
  obtain rfl : args = #[v0] := by cases args; simp_all
  obtain ⟨rfl, rfl⟩ := trodVars_none hV
  obtain ⟨l, hls, hla⟩ := op_sls (hval 0 29 v0 rfl rfl) (tr_of hx0)
  refine (walk v0 l hla W K hls).mono fun e W' ⟨he, hg⟩ => ?_
  subst he
  exact ⟨_, rfl, law_post hW' rfl rfl (by kernel_rfl) rfl rfl rfl hg⟩

theorem laid_met (os : Os) : laidMet Tryd.prog Rows.leafLevelsRow.laid ((keysWorld os).forCall (fun _ _ => 0) ⟨#[], #[.slice none 0 0], []⟩).memory :=
  laidMet_of_run' 8 (by kernel_rfl) (by kernel_rfl)
theorem reads (os : Os) {H : Type} (enc : TypeId × Value → H) : ∃ x, DataW.whole enc Tryd.prog ((keysWorld os).forCall (fun _ _ => 0) ⟨#[], #[.slice none 0 0], []⟩).memory Tryd.f4.params.toList Rows.leafLevelsSpec.vars false (#[.slice none 0 0] : Array Value).toList 8 = some x :=
  Option.isSome_iff_exists.1 (by kernel_rfl)
set_option maxRecDepth 100000 in
theorem lifted (os : Os) (started : os.Started) (H : Type) (enc : TypeId × Value → H) (F : Stop.Interp) :
    ReturnsInHanded {} Tryd.checked os 4 .any ((OpenSpec.ofChange Rows.leafLevelsSpec).preRow enc Tryd.prog Tryd.f4 Rows.leafLevelsRow.domain false Rows.leafLevelsRow.laid) (((OpenSpec.ofChange Rows.leafLevelsSpec).at F).post enc Tryd.prog Tryd.f4 false true false false) := by
  obtain ⟨x, hx⟩ := reads os enc
  refine returnsInHanded_of_row (C := Tryd.checked) (s := OpenSpec.ofChange Rows.leafLevelsSpec) own_ started (by kernel_rfl) Tryd.func4
    (witness_row_at (enc := enc) (C := Tryd.checked) false (keysWorld os) #[.slice none 0 0] rfl (by kernel_rfl) (by kernel_rfl) (by kernel_rfl)
      (OpenSpec.preRow_of_cond 8 hx rfl (fun k hk => by cases hk) (by kernel_rfl) (laid_met os))) ?_
  intro W base args ds gs before hval hW _ _ _ hL _ _
  exact contract H enc W base args ds gs before hval hW hL

theorem said : Rows.LeafLevelsSaid :=
  OpenClaim.holds_of_cond 4 Tryd.f4 rfl rfl rfl rfl rfl rfl rfl ⟨rfl, rfl, rfl, rfl, rfl⟩ rfl rfl rfl rfl rfl (by kernel_rfl) Tryd.func4 (by kernel_rfl)
    (of_decide_eq_true (by kernel_rfl)) (by unfold Func.isWrapper; first | (rw [if_pos (by decide +kernel)]; kernel_rfl) | (rw [if_neg (by decide +kernel)]; exact ⟨rfl, rfl⟩))
    (fun os started H enc _ F => by rw [OpenClaim.pre_eq_preRow]; exact lifted os started H enc F)
theorem plain (f : FuncId) (fn : Func) (hf : Tryd.pinned.checked.prog.funcNamed "scrinium/scriniumlaw09.LeafLevels" = some f) (hfn : Tryd.pinned.checked.prog.funcs[f]? = some fn) :
    false = Tryd.pinned.checked.prog.looks [] ∧ ∀ (j : Nat) t, fn.params[j]? = some t → Tryd.pinned.checked.prog.wantsStandIn t = false := by
  obtain rfl : f = 4 := Option.some.inj ((show Tryd.prog.funcNamed "scrinium/scriniumlaw09.LeafLevels" = some 4 by kernel_rfl).symm.trans hf) |>.symm
  obtain rfl : fn = Tryd.f4 := (Option.some.inj (Tryd.func4.symm.trans hfn)).symm
  refine ⟨by kernel_rfl, fun j t ht => ?_⟩
  rw [Tryd.params4] at ht
  have hm : t ∈ ([29] : List TypeId) := by simpa using Array.mem_of_getElem? ht
  have hall : (([29] : List TypeId).all fun u => !Tryd.prog.wantsStandIn u) = true := by kernel_rfl
  exact (show Tryd.prog.wantsStandIn t = false by simpa using List.all_eq_true.1 hall t hm)
theorem proved : Rows.LeafLevelsCardSaid :=
  Claim7.holds_tied_plain_at .later [] _ _ _ _ said (fun _ h => by cases h) (by kernel_rfl) (fun _ h => by cases h) leafLevels_row_tie rfl ⟨rfl, rfl⟩ (by kernel_rfl) rfl plain (by kernel_rfl)

end Go.Proofs.YtlcimlencoaiiaaDoor.leafLevels
