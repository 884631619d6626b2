/-
  scriniumlaw09.LeafCounts: each row has half as many as the one ahead, rounded up, down to one. No condition.
-/
import Derived.Test.YtlcimlencoaiiaaDoorLeafA
import Derived.Test.YtlcimlencoaiiaaDoorOpL
import Derived.Test.YtlcimlencoaiiaaDoorEqA
import Derived.Test.YtlcimlencoaiiaaDoorLaw
import Derived.Deep.DeepCutAuto
set_option linter.unusedVariables false
set_option maxRecDepth 100000
set_option linter.unusedSimpArgs false
namespace Go.Proofs.YtlcimlencoaiiaaDoor.leafCounts
open Go.ChangeShapes Go.WideShapes Go.ChangeAt Go.RowKit
attribute [local go_sem] bs_size bs_toList2 bs_append bs_extract_end bs_extract_begin bs_get wrap64_b grow_cell grow_frozen

theorem row_depth (l : List (List UInt8)) : ∀ i, i ≤ Tree.depth l.length → i + Tree.depth (Tree.row nodeB l i).length = Tree.depth l.length
  | 0, _ => by simp [Tree.row]
  | i + 1, h => by
    have ih := row_depth l i (by omega)
    have h2 : 2 ≤ (Tree.row nodeB l i).length := by
      rcases Nat.lt_or_ge (Tree.row nodeB l i).length 2 with h2 | h2
      · rw [Tree.depth_lt _ h2] at ih; omega
      · exact h2
    rw [Tree.depth_ge _ h2] at ih
    rw [Tree.row_length]
    omega
theorem row_more (l : List (List UInt8)) (i : Nat) (h : i < Tree.depth l.length) : 2 ≤ (Tree.row nodeB l i).length := by
  have ih := row_depth l i (by omega)
  rcases Nat.lt_or_ge (Tree.row nodeB l i).length 2 with h2 | h2
  · rw [Tree.depth_lt _ h2] at ih; omega
  · exact h2
theorem row_end (l : List (List UInt8)) : (Tree.row nodeB l (Tree.depth l.length)).length ≤ 1 := by
  have ih := row_depth l (Tree.depth l.length) (Nat.le_refl _)
  rcases Nat.lt_or_ge (Tree.row nodeB l (Tree.depth l.length)).length 2 with h2 | h2
  · omega
  · rw [Tree.depth_ge _ h2] at ih; omega


set_option maxHeartbeats 1000000 in
theorem walk (v : Value) (l : List (List UInt8)) (hl : AllH l) (w : World) (KW : Keys w) (h : SlS w w.heap.size v l) :
    Calls Tryd.prog 6 #[v] w fun e w' => e = .returned (.bool true) ∧ Ext w w' := by
  go_enter Tryd.func6, Tryd.ntmps6
  go_wp2_with fail
  refine (awake09_calls _ KW).mono ?_; rintro e w1 ⟨rfl, e1⟩
  go_wp2_with fail
  refine (few09_calls v l hl _ (h.ext e1)).mono ?_; rintro e w2 ⟨v', rfl, hS, rfl⟩
  have hm := hl.take 20
  have hml : (l.take 20).length ≤ 20 := by simp; omega
  generalize l.take 20 = m at *
  go_wp2_with fail
  refine (Levels_calls v' m hm (by omega) _ (KW.ext e1) hS).mono ?_; rintro e w2 ⟨vo, vs, rfl, hout, hRs, e2⟩
  have hE := e1.trans e2
  have hLl := levS_length m
  have hvl : vs.length = Tree.depth m.length + 1 := by rw [hRs.length, hLl]
  have hdm := depth_le m.length
  obtain ⟨Ao, co, rfl⟩ := own_slice hout
  obtain ⟨b, off, rfl, hb, hcs⟩ := Rd.of_own hout (by rintro rfl; simp at hvl)
  have hcell : ∀ i, i ≤ Tree.depth m.length → ∃ A c, w2.cell? ⟨b, off + i, none⟩ = some (.slice A (Tree.row nodeB m i).length c) := by
    intro i hi
    obtain ⟨A, c, h1, _⟩ := hRs.own i (by omega) (by omega)
    rw [levS_get] at h1
    exact ⟨A, c, hcs i _ (by rw [List.getElem?_eq_getElem (by omega), h1])⟩
  have hmore := row_more m
  have hend := row_end m
  have Hcell := Lib.hid hcell; have Hmore := Lib.hid hmore; have Hend := Lib.hid hend
  obtain ⟨A', c', rfl, _⟩ := hS
  rw [hvl] at *
  clear hcell hmore hend hcs hout hRs hLl hvl e1 e2 h
  generalize hd : Tree.depth m.length = d at *
  clear hd
  go_wp2_with fail
  go_loopw [6, 7] (fun s6 s7 wr => ∃ i : Nat, i ≤ d + 1 ∧ s7 = .int .i64 (i : Int) ∧ s6 = .int .i64 ((Tree.row nodeB m i).length : Int) ∧ wr = w2) (fun _ s7 _ => d + 1 - (intOf s7).toNat)
  case atStart => exact ⟨0, by omega, rfl, rfl, rfl⟩
  case round =>
    obtain ⟨i, hi, rfl, rfl, rfl⟩ := hrel
    have hrl := Tree.row_length nodeB m i
    have Hrl := Lib.hid hrl
    clear hrl
    by_cases hlt : i < d + 1
    · obtain ⟨Ai, ci, hci⟩ := Hcell.out i (by omega)
      have hit : (i : Int) < (d : Int) + 1 := by omega
      have hbd : (Tree.row nodeB m i).length ≤ 20 := by have := row_bound m i; omega
      rcases (show i < d ∨ i = d from by omega) with hid | rfl
      · have h2 := Hmore.out i hid
        have h3 : (i : Int) + 1 < (d : Int) + 1 := by omega
        have h4 : ¬ ((Tree.row nodeB m i).length : Int) < 2 := by omega
        have h5 : ((i : Int) + 1 == (d : Int) + 1) = false := by rw [beq_eq_false_iff_ne]; omega
        have h6 : ((i : Int) == (d : Int)) = false := by rw [beq_eq_false_iff_ne]; omega
        have h7 : ¬ (i : Int) = (d : Int) := by omega
        generalize (Tree.row nodeB m i).length = q at *
        go_wp2_with fail
        go_roundw
        case rel => exact ⟨i + 1, by omega, by go_num, by rw [Hrl.out]; congr 1, trivial⟩
        case measure => simp [intOf] <;> omega
      · have h2 := Hend.out
        have h3 : ¬ (i : Int) + 1 < (i : Int) + 1 := by omega
        have h4 : ¬ (1 : Int) < ((Tree.row nodeB m i).length : Int) := by omega
        generalize (Tree.row nodeB m i).length = q at *
        go_wp2_with fail
        go_roundw
        case rel => exact ⟨i + 1, by omega, by go_num, by rw [Hrl.out]; congr 1, trivial⟩
        case measure => simp [intOf] <;> omega
    · obtain rfl : i = d + 1 := by omega
      go_wp2_with fail
      go_ret
      exact ⟨by simp; try omega, hE⟩

set_option maxRecDepth 100000 in
theorem contract (H : Type) (enc : TypeId × Value → H) (W : World) (base : Nat) (args : Array Value) (ds gs : List (DataW H)) (before : List MemPlace)
    (hval0 : ∀ (j : Nat) t v, Tryd.f6.params[j]? = some t → args[j]? = some v → Value.okWide Tryd.prog W .any base t v)
    (hW : DataW.Whole enc Tryd.prog Tryd.f6.params.toList Rows.leafCountsSpec.vars false W args.toList ds gs before) (hL : laidMetH Tryd.prog Rows.leafCountsRow.laid W) :
    Calls Tryd.prog 6 args W fun e W' => ∃ v, e = .returned v ∧ Rows.leafCountsSpec.post enc Tryd.prog Tryd.f6 false true false false W args v W' := by
  have K : Keys W := keys_of hL
  have hval : ∀ (j : Nat) t v, Tryd.f6.params[j]? = some t → args[j]? = some v → Value.okWide Tryd.prog W .any base t v := hval0
  have hW' := hW
  obtain ⟨p, q, hA0, hV, rfl, hfz, hnd⟩ := hW
  have hA : DataW.TrodAll enc Tryd.prog W 0 (fun _ => true) true Tryd.f6.params.toList args.toList ds p := hA0
  rw [Tryd.params6] at hA hval
  obtain ⟨v0, vs0, d0, ds0, p0, q0, hargs, rfl, rfl, hx0, r0⟩ := trodAll_cons hA
  obtain ⟨rfl, rfl, rfl⟩ := trodAll_nil r0
  obtain rfl : args = #[v0] := by cases args; simp_all
  obtain ⟨rfl, rfl⟩ := trodVars_none hV
  obtain ⟨l, hls, hla⟩ := op_sls (hval 0 29 v0 rfl rfl) (tr_of hx0)
  refine (walk v0 l hla W K hls).mono fun e W' ⟨he, hg⟩ => ?_
  subst he
  exact ⟨_, rfl, law_post hW' rfl rfl (by kernel_rfl) rfl rfl rfl hg⟩

theorem laid_met (os : Os) : laidMet Tryd.prog Rows.leafCountsRow.laid ((keysWorld os).forCall (fun _ _ => 0) ⟨#[], #[.slice none 0 0], []⟩).memory :=
  laidMet_of_run' 8 (by kernel_rfl) (by kernel_rfl)
theorem reads (os : Os) {H : Type} (enc : TypeId × Value → H) : ∃ x, DataW.whole enc Tryd.prog ((keysWorld os).forCall (fun _ _ => 0) ⟨#[], #[.slice none 0 0], []⟩).memory Tryd.f6.params.toList Rows.leafCountsSpec.vars false (#[.slice none 0 0] : Array Value).toList 8 = some x :=
  Option.isSome_iff_exists.1 (by kernel_rfl)
set_option maxRecDepth 100000 in
theorem lifted (os : Os) (started : os.Started) (H : Type) (enc : TypeId × Value → H) (F : Stop.Interp) :
    ReturnsInHanded {} Tryd.checked os 6 .any ((OpenSpec.ofChange Rows.leafCountsSpec).preRow enc Tryd.prog Tryd.f6 Rows.leafCountsRow.domain false Rows.leafCountsRow.laid) (((OpenSpec.ofChange Rows.leafCountsSpec).at F).post enc Tryd.prog Tryd.f6 false true false false) := by
  obtain ⟨x, hx⟩ := reads os enc
  refine returnsInHanded_of_row (C := Tryd.checked) (s := OpenSpec.ofChange Rows.leafCountsSpec) own_ started (by kernel_rfl) Tryd.func6
    (witness_row_at (enc := enc) (C := Tryd.checked) false (keysWorld os) #[.slice none 0 0] rfl (by kernel_rfl) (by kernel_rfl) (by kernel_rfl)
      (OpenSpec.preRow_of_cond 8 hx rfl (fun k hk => by cases hk) (by kernel_rfl) (laid_met os))) ?_
  intro W base args ds gs before hval hW _ _ _ hL _ _
  exact contract H enc W base args ds gs before hval hW hL

theorem said : Rows.LeafCountsSaid :=
  OpenClaim.holds_of_cond 6 Tryd.f6 rfl rfl rfl rfl rfl rfl rfl ⟨rfl, rfl, rfl, rfl, rfl⟩ rfl rfl rfl rfl rfl (by kernel_rfl) Tryd.func6 (by kernel_rfl)
    (of_decide_eq_true (by kernel_rfl)) (by unfold Func.isWrapper; first | (rw [if_pos (by decide +kernel)]; kernel_rfl) | (rw [if_neg (by decide +kernel)]; exact ⟨rfl, rfl⟩))
    (fun os started H enc _ F => by rw [OpenClaim.pre_eq_preRow]; exact lifted os started H enc F)
theorem plain (f : FuncId) (fn : Func) (hf : Tryd.pinned.checked.prog.funcNamed "scrinium/scriniumlaw09.LeafCounts" = some f) (hfn : Tryd.pinned.checked.prog.funcs[f]? = some fn) :
    false = Tryd.pinned.checked.prog.looks [] ∧ ∀ (j : Nat) t, fn.params[j]? = some t → Tryd.pinned.checked.prog.wantsStandIn t = false := by
  obtain rfl : f = 6 := Option.some.inj ((show Tryd.prog.funcNamed "scrinium/scriniumlaw09.LeafCounts" = some 6 by kernel_rfl).symm.trans hf) |>.symm
  obtain rfl : fn = Tryd.f6 := (Option.some.inj (Tryd.func6.symm.trans hfn)).symm
  refine ⟨by kernel_rfl, fun j t ht => ?_⟩
  rw [Tryd.params6] at ht
  have hm : t ∈ ([29] : List TypeId) := by simpa using Array.mem_of_getElem? ht
  have hall : (([29] : List TypeId).all fun u => !Tryd.prog.wantsStandIn u) = true := by kernel_rfl
  exact (show Tryd.prog.wantsStandIn t = false by simpa using List.all_eq_true.1 hall t hm)
theorem proved : Rows.LeafCountsCardSaid :=
  Claim7.holds_tied_plain_at .later [] _ _ _ _ said (fun _ h => by cases h) (by kernel_rfl) (fun _ h => by cases h) leafCounts_row_tie rfl ⟨rfl, rfl⟩ (by kernel_rfl) rfl plain (by kernel_rfl)

end Go.Proofs.YtlcimlencoaiiaaDoor.leafCounts
