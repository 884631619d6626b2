/-
  scriniumlaw13.TwinWays: no condition.
-/
import Derived.Test.YtfpipdopgepelaaDoorTwinM
import Derived.Test.YtfpipdopgepelaaDoorOpQ
import Derived.Test.YtfpipdopgepelaaDoorEqA
import Derived.Test.YtfpipdopgepelaaDoorLaw
import Derived.Deep.DeepCutAuto
set_option linter.unusedVariables false
set_option maxRecDepth 100000
set_option linter.unusedSimpArgs false
namespace Go.Proofs.YtfpipdopgepelaaDoor.twinWays
open Go.ChangeShapes Go.WideShapes Go.ChangeAt Go.RowKit
attribute [local go_sem] bs_size bs_toList2 bs_append bs_extract_end bs_extract_begin bs_get wrap64_b grow_cell grow_frozen

/-! ### Plain law -/
theorem way_last (x : List UInt8) (T : List Bool) (l : List (List UInt8)) (k : Nat) (h : T.length = l.length) (hk : l.length = k + 1) : ∃ s, wayS x T l = wayS x (T.take k) (l.take k) ++ [s] ∧ (wayS x (T.take k) (l.take k)).length = k ∧ shaOf s = Way.foldW nodeB x T l := by
  have h1 := way_take x T l k (by omega) (by omega)
  have h2 := foldW_take x T l k (by omega) (by omega)
  rw [List.take_of_length_le (by omega), List.take_of_length_le (by omega)] at h1 h2
  rw [turn_sha] at h2
  exact ⟨_, h1, by rw [way_len _ _ _ (by rw [List.length_take, List.length_take]; omega), List.length_take]; omega, h2.symm⟩
theorem ways_tell (m n : Int) (x : List UInt8) (hx : x.length = 32) (l : List (List UInt8)) (hl : AllH l) : (wayP m n x l).length = 0 ∨ ∃ (k : Nat) (s : List UInt8), (wayP m n x l).length = k + 1 ∧ (wayP m n x l)[k]? = some s ∧ (foldP x m n l).2 = true ∧ shaOf s = (foldP x m n l).1 ∧ s.length = 65 := by
  by_cases hlg : Way.longI m n = (l.length : Int)
  · have hw : wayP m n x l = _ := if_pos hlg
    have hf : foldP x m n l = _ := if_pos hlg
    have hT : (Way.turnsI m n).length = l.length := by have := Way.turnsI_length m n (by omega); omega
    rw [hw, hf, way_len _ _ _ hT]
    cases hk : l.length with
    | zero => exact .inl rfl
    | succ k =>
      obtain ⟨s, h1, h2, h3⟩ := way_last x (Way.turnsI m n) l k hT hk
      have hs := wayS_bound (Way.turnsI m n) l x hx hl s (by rw [h1]; simp)
      exact .inr ⟨k, s, rfl, by rw [h1, List.getElem?_append_right (by omega), h2]; simp, rfl, h3, hs⟩
  · have hw : wayP m n x l = _ := if_neg hlg
    rw [hw]
    exact .inl rfl

theorem wayP_len (m n : Int) (x : List UInt8) (l : List (List UInt8)) : (wayP m n x l).length ≤ l.length := by
  by_cases hlg : Way.longI m n = (l.length : Int)
  · have hw : wayP m n x l = _ := if_pos hlg
    have hT : (Way.turnsI m n).length = l.length := by have := Way.turnsI_length m n (by omega); omega
    rw [hw, way_len _ _ _ hT]
    exact Nat.le_refl _
  · have hw : wayP m n x l = _ := if_neg hlg
    rw [hw]
    exact Nat.zero_le _

/-! ### The walk -/
set_option maxHeartbeats 8000000 in
theorem walk (m n : Int) (hmm : -9223372036854775808 ≤ m ∧ m ≤ 9223372036854775807) (hn : -9223372036854775808 ≤ n ∧ n ≤ 9223372036854775807) (a : List UInt8) (ha : a.length = 32) (c : Value) (l : List (List UInt8)) (w : World) (KW : Keys w) (hS : SlS w w.heap.size c l) (hl : AllH l) :
    Calls Tryd.prog 12 #[.agg #[.int .i64 m, .int .i64 n], sumV a, c] w fun e w' => e = .returned (.bool true) ∧ Ext w w' := by
  have hfold := fold_sum a ha
  have hgw := guard_sum
  unfold sumV
  go_enter Tryd.func12, Tryd.ntmps12
  go_wp2_with fail
  have hM : Blk ((w.alloc (.cells #[.int .i64 m, .int .i64 n] 24)).alloc (.cells (a.map byteV).toArray 23)) w.heap.size 24 #[.int .i64 m, .int .i64 n] := Blk.alloc (Blk.new _ _ _) _
  have hX : ArrB ((w.alloc (.cells #[.int .i64 m, .int .i64 n] 24)).alloc (.cells (a.map byteV).toArray 23)) (w.heap.size + 1) 23 a := by
    have := Blk.new (w.alloc (.cells #[.int .i64 m, .int .i64 n] 24)) 23 (a.map byteV).toArray
    rw [alloc_size] at this
    exact this
  have hE : Ext w ((w.alloc (.cells #[.int .i64 m, .int .i64 n] 24)).alloc (.cells (a.map byteV).toArray 23)) := ((Ext.refl w).alloc _).alloc _
  generalize ((w.alloc (.cells #[.int .i64 m, .int .i64 n] 24)).alloc (.cells (a.map byteV).toArray 23)) = w1 at *
  refine (awake13_calls _ (KW.ext hE)).mono ?_; rintro e v2 ⟨rfl, e1⟩
  replace hX := Blk.below hX e1 (Blk.lt hX)
  replace hM := Blk.below hM e1 (Blk.lt hM)
  replace hE := hE.trans e1
  clear e1
  have c0 : v2.cell? ⟨w.heap.size, 0, none⟩ = some (.int .i64 m) := Blk.cell hM 0
  have c1 : v2.cell? ⟨w.heap.size, 1, none⟩ = some (.int .i64 n) := Blk.cell hM 1
  have hMl := Blk.lt hM
  have hS4 : SlS v2 v2.heap.size c l := hS.ext hE
  obtain ⟨Ac, lc, cc, rfl⟩ : ∃ A k cap, c = .slice A k cap := by
    obtain ⟨A, cap, h1, _⟩ := hS4
    exact ⟨A, _, cap, h1⟩
  go_wp2_with fail
  refine (few13_calls _ l hl _ hS4).mono ?_; rintro e w5 ⟨v', rfl, hF, rfl⟩
  have hfl : AllH (l.take 50) := AllH.take hl 50
  have hf5 : (l.take 50).length ≤ 50 := by rw [List.length_take]; omega
  generalize l.take 50 = f at *
  obtain ⟨Af, cf, rfl, hF2⟩ := hF
  have hF : SlS v2 v2.heap.size (.slice Af f.length cf) f := ⟨Af, cf, rfl, hF2⟩
  clear hF2 hS hS4
  have htell := ways_tell m n a ha f hfl
  have hyl := foldP_length a ha m n f
  have hWl := wayP_len m n a f
  obtain ⟨W, hW⟩ : ∃ W, W = wayP m n a f := ⟨_, rfl⟩
  obtain ⟨P, hP⟩ : ∃ P, P = foldP a m n f := ⟨_, rfl⟩
  rw [← hW, ← hP] at htell
  rw [← hW] at hWl
  rw [← hP] at hyl
  have HW := Lib.hid hW
  have HP := Lib.hid hP
  clear hW hP
  obtain ⟨y, is⟩ := P
  have hy : y.length = 32 := hyl
  dsimp only at htell
  clear hyl
  have HTell := Lib.hid htell
  clear htell
  go_wp2_with (refine stop_load 23 (.tmp 4) rfl ?_)
  refine ⟨?_⟩
  refine wpList_load_row rfl 23 (.tmp 4) rfl (w.heap.size + 1) (by rfl) 23 _ (0, 0) _ hX Tryd.underlying23 rfl (size32.trans (by simp [ha])) ?_
  simp only [Act.put, List.setIfInBounds_toArray, List.set_cons_zero, List.set_cons_succ]
  go_wp2_with fail
  change Calls _ _ #[_, _, sumV a, _] _ _
  refine (Way_calls m n hn.2 a ha _ f hfl (by omega) _ (KW.ext hE) hF).mono ?_; rw [← HW.out]; rintro e va ⟨v9, rfl, hO9, e3⟩
  replace hX := Blk.below hX e3 (Blk.lt hX)
  replace hM := Blk.below hM e3 (Blk.lt hM)
  replace hF := hF.ext e3
  replace hE := hE.trans e3
  replace c0 : va.cell? ⟨w.heap.size, 0, none⟩ = some (.int .i64 m) := Blk.cell hM 0
  replace c1 : va.cell? ⟨w.heap.size, 1, none⟩ = some (.int .i64 n) := Blk.cell hM 1
  replace hMl := Blk.lt hM
  clear e3
  obtain ⟨A9, c9, rfl, hr9⟩ := ownT_rd hO9
  clear hO9
  go_wp2_with (refine stop_load 23 (.tmp 4) rfl ?_)
  refine ⟨?_⟩
  refine wpList_load_row rfl 23 (.tmp 4) rfl (w.heap.size + 1) (by rfl) 23 _ (0, 0) _ hX Tryd.underlying23 rfl (size32.trans (by simp [ha])) ?_
  simp only [Act.put, List.setIfInBounds_toArray, List.set_cons_zero, List.set_cons_succ]
  go_wp2_with fail
  change Calls _ _ #[_, _, sumV a, _] _ _
  refine (refWay_calls m n a ha _ f hfl (by omega) _ hF).mono ?_; rw [← HW.out]; rintro e vb ⟨v10, rfl, hO10, e4⟩
  replace hX := Blk.below hX e4 (Blk.lt hX)
  replace hM := Blk.below hM e4 (Blk.lt hM)
  replace hF := hF.ext e4
  replace hr9 := (hr9.below e4 (Nat.le_refl _)).more e4.size
  replace hE := hE.trans e4
  replace c0 : vb.cell? ⟨w.heap.size, 0, none⟩ = some (.int .i64 m) := Blk.cell hM 0
  replace c1 : vb.cell? ⟨w.heap.size, 1, none⟩ = some (.int .i64 n) := Blk.cell hM 1
  replace hMl := Blk.lt hM
  clear e4
  obtain ⟨A10, c10, rfl, hr10⟩ := ownT_rd hO10
  clear hO10
  have hbl : ((W.length : Int) != (W.length : Int)) = false := by simp
  go_wp2_with fail
  go_loopw [11] (fun si wr => ∃ k : Nat, k ≤ W.length ∧ si = .int .i64 (k : Int) ∧ Ext vb wr) (fun si _ => W.length - (intOf si).toNat)
  case atStart => exact ⟨0, Nat.zero_le _, rfl, Ext.refl _⟩
  case round =>
    obtain ⟨wo, rfl⟩ : ∃ wo : World, wo = wr := ⟨_, rfl⟩
    obtain ⟨k, hk, rfl, eo⟩ := hrel
    by_cases hlt : k < W.length
    · have hlI : (k : Int) < (W.length : Int) := by omega
      obtain ⟨b1, o1, rfl, hb1, hm1⟩ := (hr9.below eo (Nat.le_refl _)) (map_ne strV hlt)
      obtain ⟨b2, o2, rfl, hb2, hm2⟩ := (hr10.below eo (Nat.le_refl _)) (map_ne strV hlt)
      have q1 : wo.cell? ⟨b1, o1 + k, none⟩ = some (.string (bs W[k])) := hm1 k (strV W[k]) (by simp [hlt])
      have q2 : wo.cell? ⟨b2, o2 + k, none⟩ = some (.string (bs W[k])) := hm2 k (strV W[k]) (by simp [hlt])
      have hb1o : b1 < wo.heap.size := Nat.lt_of_lt_of_le hb1 eo.size
      have hb2o : b2 < wo.heap.size := Nat.lt_of_lt_of_le hb2 eo.size
      have hbb : (W[k] == W[k]) = true := by simp
      clear hm1 hm2
      generalize W[k] = s at *
      go_wp2_with fail
      refine region_mix0 (by kernel_rfl) (by kernel_rfl) (fun y0 => ?_)
      repeat (first | (refine mix_quiet (by rfl) (by rfl) (fun K hK => ?_); go_big_quiet_op; refine hK _ ?_; clear hK K) | (refine mix_skip (by rfl) ?_; simp only [Act.put, List.setIfInBounds_toArray, List.set_cons_zero, List.set_cons_succ]))
      refine mix_nil ?_
      go_wp2_with fail
      go_roundw
      case rel => exact ⟨k + 1, by omega, by go_num, eo.trans (grow_ext _)⟩
      case measure => simp [intOf]; omega
    · obtain rfl : k = W.length := by omega
      have hlI : ¬ (W.length : Int) < (W.length : Int) := by omega
      replace hX := Blk.below hX eo (Blk.lt hX)
      replace hM := Blk.below hM eo (Blk.lt hM)
      replace hF := hF.ext eo
      replace hr9 := (hr9.below eo (Nat.le_refl _)).more eo.size
      replace hr10 := (hr10.below eo (Nat.le_refl _)).more eo.size
      replace hE := hE.trans eo
      replace c0 : wo.cell? ⟨w.heap.size, 0, none⟩ = some (.int .i64 m) := Blk.cell hM 0
      replace c1 : wo.cell? ⟨w.heap.size, 1, none⟩ = some (.int .i64 n) := Blk.cell hM 1
      replace hMl := Blk.lt hM
      clear eo
      go_wp2_with (refine stop_load 23 (.tmp 4) rfl ?_)
      refine ⟨?_⟩
      refine wpList_load_row rfl 23 (.tmp 4) rfl (w.heap.size + 1) (by rfl) 23 _ (0, 0) _ hX Tryd.underlying23 rfl (size32.trans (by simp [ha])) ?_
      simp only [Act.put, List.setIfInBounds_toArray, List.set_cons_zero, List.set_cons_succ]
      go_wp2_with fail
      change Calls _ _ #[sumV a, _, _, _] _ _
      refine (refFold_sls a ha m n _ f hfl (by omega) _ hF).mono ?_; rw [← HP.out]; rintro e v6 ⟨rfl, e5⟩
      replace hX := Blk.below hX e5 (Blk.lt hX)
      replace hM := Blk.below hM e5 (Blk.lt hM)
      replace hF := hF.ext e5
      replace hr9 := (hr9.below e5 (Nat.le_refl _)).more e5.size
      replace hr10 := (hr10.below e5 (Nat.le_refl _)).more e5.size
      replace hE := hE.trans e5
      replace c0 : v6.cell? ⟨w.heap.size, 0, none⟩ = some (.int .i64 m) := Blk.cell hM 0
      replace c1 : v6.cell? ⟨w.heap.size, 1, none⟩ = some (.int .i64 n) := Blk.cell hM 1
      replace hMl := Blk.lt hM
      clear e5
      try unfold sumV
      go_wp2_with (refine stop_store 23 (.tmp 12) (.tmp 59) rfl ?_)
      refine ⟨?_⟩
      change wpList _ _ _ _ _ (v6.alloc (.cells ((zerosB 32).map byteV).toArray 23))
      have hY0 : ArrB (v6.alloc (.cells ((zerosB 32).map byteV).toArray 23)) v6.heap.size 23 (zerosB 32) := Blk.new _ _ _
      refine wpList_store_row rfl 23 (.tmp 12) (.tmp 59) rfl v6.heap.size ((y).map byteV).toArray (by rfl) (by rfl) 23 _ hY0 (size32.trans (by simp [hy])) (by simp [hy, zerosB]) (by simp [byteV, Value.oneCell']) ?_
      simp only [Act.put, List.setIfInBounds_toArray, List.set_cons_zero, List.set_cons_succ]
      have hY : ArrB ((v6.alloc (.cells ((zerosB 32).map byteV).toArray 23)).setRow v6.heap.size ((y).map byteV).toArray) v6.heap.size 23 (y) := Blk.row hY0 _
      have e8 : Ext v6 ((v6.alloc (.cells ((zerosB 32).map byteV).toArray 23)).setRow v6.heap.size ((y).map byteV).toArray) := ((Ext.refl v6).alloc _).row (Nat.le_refl _) _
      clear hY0
      generalize (v6.alloc (.cells ((zerosB 32).map byteV).toArray 23)).setRow v6.heap.size ((y).map byteV).toArray = v7 at *
      have g9l := Blk.lt hY
      obtain ⟨g9, g9e⟩ : ∃ g9, g9 = v6.heap.size := ⟨_, rfl⟩
      rw [← g9e] at hY g9l
      try rw [← g9e]
      have g9b : v6.heap.size ≤ g9 := by omega
      replace hX := Blk.below hX e8 (Blk.lt hX)
      replace hM := Blk.below hM e8 (Blk.lt hM)
      replace hF := hF.ext e8
      replace hr9 := (hr9.below e8 (Nat.le_refl _)).more e8.size
      replace hr10 := (hr10.below e8 (Nat.le_refl _)).more e8.size
      replace hE := hE.trans e8
      replace c0 : v7.cell? ⟨w.heap.size, 0, none⟩ = some (.int .i64 m) := Blk.cell hM 0
      replace c1 : v7.cell? ⟨w.heap.size, 1, none⟩ = some (.int .i64 n) := Blk.cell hM 1
      replace hMl := Blk.lt hM
      clear e8
      clear g9e
      have K0 : Ext v7 v7.drew := (Ext.refl v7).drew
      rcases HTell.out with h0 | ⟨k, s, hk1, hks, his, hsy, hs65⟩
      · have hb0 : ((W.length : Int) == 0) = true := by rw [beq_iff_eq]; omega
        clear h0
        go_wp2_with fail
        refine region_keep0 (fun _ => True) (by kernel_rfl) (by kernel_rfl) ?_
        repeat (first | (refine mix_quiet (by rfl) (by rfl) (fun K hK => ?_); go_big_quiet_op; refine hK _ ?_; clear hK K) | (refine mix_skip (by rfl) ?_; simp only [Act.put, List.setIfInBounds_toArray, List.set_cons_zero, List.set_cons_succ]))
        refine mix_nil ?_
        go_wp2_with fail
        go_ret
        exact ⟨rfl, hE.trans K0⟩
      · have hb0 : ((k + 1 : Nat) : Int) = (k : Int) + 1 := rfl
        have hb1 : (((k : Int) + 1) == 0) = false := by rw [beq_eq_false_iff_ne]; omega
        have his2 : is = true := his
        subst his2
        obtain ⟨b1, o1, rfl, hb1', hm1⟩ := hr9 (map_ne strV (k := k) (by omega))
        have hq1 : v7.cell? ⟨b1, o1 + k, none⟩ = some (.string (bs s)) := hm1 k (strV s) (by rw [List.getElem?_map, hks]; rfl)
        have qs : ∀ x : Held (fun _ => True) v7, (heldW _ v7 x).cell? ⟨b1, o1 + k, none⟩ = some (.string (bs s)) := fun x => (World.cell?_of_block ((heldW_keep x).block _ hb1' trivial)).trans hq1
        have hkw : k + 1 ≤ f.length := by rw [← hk1]; exact hWl
        rw [hk1]
        clear hm1 hq1 hr9 hr10 hk1 hks his
        have heq := fun w : World => eq_sum (shaOf s) y (shaOf_length s) hy w
        have dh : decide (shaOf s = y) = true := decide_eq_true hsy
        rw [dh] at heq
        have hkI : (k : Int) < (k : Int) + 1 := by omega
        have hk50 : k ≤ 50 := by have := hkw; omega
        clear dh hsy
        go_wp2_with fail
        refine region_keep0 (fun _ => True) (by kernel_rfl) (by kernel_rfl) ?_
        iterate 14 (first | (refine mix_quiet (by rfl) (by rfl) (fun K hK => ?_); go_big_quiet_op; refine hK _ ?_; clear hK K) | (refine mix_skip (by rfl) ?_; simp only [Act.put, List.setIfInBounds_toArray, List.set_cons_zero, List.set_cons_succ]))
        (refine mix_loud (by rfl) (by rfl) (fun K E hK => ?_); go_big_op)
        refine (refOf_calls s _ (by omega)).mono ?_; rintro e u1 ⟨rfl, K1⟩
        have K1 := K0.trans K1
        refine hK _ _ (held_of (Keep.of_ext K1)) ?_; clear hK K E
        refine held_row (by rfl) (by rfl) 23 (.tmp 12) rfl g9 (by rfl) 23 _ _ hY trivial Tryd.underlying23 rfl (size32.trans (by simp [hy])) ?_
        simp only [Act.put, List.setIfInBounds_toArray, List.set_cons_zero, List.set_cons_succ]
        unfold sumV
        repeat (first | (refine mix_quiet (by rfl) (by rfl) (fun K hK => ?_); go_big_quiet_op; refine hK _ ?_; clear hK K) | (refine mix_skip (by rfl) ?_; simp only [Act.put, List.setIfInBounds_toArray, List.set_cons_zero, List.set_cons_succ]))
        refine mix_nil ?_
        go_wp2_with fail
        go_ret
        exact ⟨rfl, hE.trans K1⟩

set_option maxRecDepth 100000 in
theorem contract (H : Type) (enc : TypeId × Value → H) (W : World) (base : Nat) (args : Array Value) (ds gs : List (DataW H)) (before : List MemPlace)
    (hval0 : ∀ (j : Nat) t v, Tryd.f12.params[j]? = some t → args[j]? = some v → Value.okWide Tryd.prog W .any base t v)
    (hW : DataW.Whole enc Tryd.prog Tryd.f12.params.toList Rows.twinWaysSpec.vars false W args.toList ds gs before) (hL : laidMetH Tryd.prog Rows.twinWaysRow.laid W) :
    Calls Tryd.prog 12 args W fun e W' => ∃ v, e = .returned v ∧ Rows.twinWaysSpec.post enc Tryd.prog Tryd.f12 false true false false W args v W' := by
  have K : Keys W := keys_of hL
  have hval : ∀ (j : Nat) t v, Tryd.f12.params[j]? = some t → args[j]? = some v → Value.okWide Tryd.prog W .any base t v := hval0
  have hW' := hW
  obtain ⟨p, q, hA0, hV, rfl, hfz, hnd⟩ := hW
  have hA : DataW.TrodAll enc Tryd.prog W 0 (fun _ => true) true Tryd.f12.params.toList args.toList ds p := hA0
  rw [Tryd.params12] at hA hval
  obtain ⟨v0, vs0, d0, ds0, p0, q0, hargs, rfl, rfl, hx0, r0⟩ := trodAll_cons hA
  obtain ⟨v1, vs1, d1, ds1, p1, q1, rfl, rfl, rfl, hx1, r1⟩ := trodAll_cons r0
  obtain ⟨v2, vs2, d2, ds2, p2, q2, rfl, rfl, rfl, hx2, r2⟩ := trodAll_cons r1
  obtain ⟨rfl, rfl, rfl⟩ := trodAll_nil r2
  obtain rfl : args = #[v0, v1, v2] := by cases args; simp_all
  obtain ⟨rfl, rfl⟩ := trodVars_none hV
  obtain ⟨b1, b2, rfl, hb1, hb2⟩ := op_i2 (hval 0 24 v0 rfl rfl) (tr_of hx0)
  obtain ⟨a, rfl, ha⟩ := op_sum (hval 1 23 v1 rfl rfl) (tr_of hx1)
  obtain ⟨z, hzs, hza⟩ := op_sls (hval 2 25 v2 rfl rfl) (tr_of hx2)
  refine (walk b1 b2 hb1 hb2 a ha _ z W K hzs hza).mono fun e W' ⟨he, hg⟩ => ?_
  subst he
  exact ⟨_, rfl, law_post hW' rfl rfl (by kernel_rfl) rfl rfl rfl hg⟩

theorem laid_met (os : Os) : laidMet Tryd.prog Rows.twinWaysRow.laid ((keysWorld os).forCall (fun _ _ => 0) ⟨#[], #[.agg #[.int .i64 0, .int .i64 0], .agg #[.int .u8 0, .int .u8 0, .int .u8 0, .int .u8 0, .int .u8 0, .int .u8 0, .int .u8 0, .int .u8 0, .int .u8 0, .int .u8 0, .int .u8 0, .int .u8 0, .int .u8 0, .int .u8 0, .int .u8 0, .int .u8 0, .int .u8 0, .int .u8 0, .int .u8 0, .int .u8 0, .int .u8 0, .int .u8 0, .int .u8 0, .int .u8 0, .int .u8 0, .int .u8 0, .int .u8 0, .int .u8 0, .int .u8 0, .int .u8 0, .int .u8 0, .int .u8 0], .slice none 0 0], []⟩).memory :=
  laidMet_of_run' 8 (by kernel_rfl) (by kernel_rfl)
theorem reads (os : Os) {H : Type} (enc : TypeId × Value → H) : ∃ x, DataW.whole enc Tryd.prog ((keysWorld os).forCall (fun _ _ => 0) ⟨#[], #[.agg #[.int .i64 0, .int .i64 0], .agg #[.int .u8 0, .int .u8 0, .int .u8 0, .int .u8 0, .int .u8 0, .int .u8 0, .int .u8 0, .int .u8 0, .int .u8 0, .int .u8 0, .int .u8 0, .int .u8 0, .int .u8 0, .int .u8 0, .int .u8 0, .int .u8 0, .int .u8 0, .int .u8 0, .int .u8 0, .int .u8 0, .int .u8 0, .int .u8 0, .int .u8 0, .int .u8 0, .int .u8 0, .int .u8 0, .int .u8 0, .int .u8 0, .int .u8 0, .int .u8 0, .int .u8 0, .int .u8 0], .slice none 0 0], []⟩).memory Tryd.f12.params.toList Rows.twinWaysSpec.vars false (#[.agg #[.int .i64 0, .int .i64 0], .agg #[.int .u8 0, .int .u8 0, .int .u8 0, .int .u8 0, .int .u8 0, .int .u8 0, .int .u8 0, .int .u8 0, .int .u8 0, .int .u8 0, .int .u8 0, .int .u8 0, .int .u8 0, .int .u8 0, .int .u8 0, .int .u8 0, .int .u8 0, .int .u8 0, .int .u8 0, .int .u8 0, .int .u8 0, .int .u8 0, .int .u8 0, .int .u8 0, .int .u8 0, .int .u8 0, .int .u8 0, .int .u8 0, .int .u8 0, .int .u8 0, .int .u8 0, .int .u8 0], .slice none 0 0] : Array Value).toList 8 = some x :=
  Option.isSome_iff_exists.1 (by kernel_rfl)
set_option maxRecDepth 100000 in
theorem lifted (os : Os) (started : os.Started) (H : Type) (enc : TypeId × Value → H) (F : Stop.Interp) :
    ReturnsInHanded {} Tryd.checked os 12 .any ((OpenSpec.ofChange Rows.twinWaysSpec).preRow enc Tryd.prog Tryd.f12 Rows.twinWaysRow.domain false Rows.twinWaysRow.laid) (((OpenSpec.ofChange Rows.twinWaysSpec).at F).post enc Tryd.prog Tryd.f12 false true false false) := by
  obtain ⟨x, hx⟩ := reads os enc
  refine returnsInHanded_of_row (C := Tryd.checked) (s := OpenSpec.ofChange Rows.twinWaysSpec) own_ started (by kernel_rfl) Tryd.func12
    (witness_row_at (enc := enc) (C := Tryd.checked) false (keysWorld os) #[.agg #[.int .i64 0, .int .i64 0], .agg #[.int .u8 0, .int .u8 0, .int .u8 0, .int .u8 0, .int .u8 0, .int .u8 0, .int .u8 0, .int .u8 0, .int .u8 0, .int .u8 0, .int .u8 0, .int .u8 0, .int .u8 0, .int .u8 0, .int .u8 0, .int .u8 0, .int .u8 0, .int .u8 0, .int .u8 0, .int .u8 0, .int .u8 0, .int .u8 0, .int .u8 0, .int .u8 0, .int .u8 0, .int .u8 0, .int .u8 0, .int .u8 0, .int .u8 0, .int .u8 0, .int .u8 0, .int .u8 0], .slice none 0 0] rfl (by kernel_rfl) (by kernel_rfl) (by kernel_rfl)
      (OpenSpec.preRow_of_cond 8 hx rfl (fun k hk => by cases hk) (by kernel_rfl) (laid_met os))) ?_
  intro W base args ds gs before hval hW _ _ _ hL _ _
  exact contract H enc W base args ds gs before hval hW hL

theorem said : Rows.TwinWaysSaid :=
  OpenClaim.holds_of_cond 12 Tryd.f12 rfl rfl rfl rfl rfl rfl rfl ⟨rfl, rfl, rfl, rfl, rfl⟩ rfl rfl rfl rfl rfl (by kernel_rfl) Tryd.func12 (by kernel_rfl)
    (of_decide_eq_true (by kernel_rfl)) (by unfold Func.isWrapper; first | (rw [if_pos (by decide +kernel)]; kernel_rfl) | (rw [if_neg (by decide +kernel)]; exact ⟨rfl, rfl⟩))
    (fun os started H enc _ F => by rw [OpenClaim.pre_eq_preRow]; exact lifted os started H enc F)
theorem plain (f : FuncId) (fn : Func) (hf : Tryd.pinned.checked.prog.funcNamed "scrinium/scriniumlaw13.TwinWays" = some f) (hfn : Tryd.pinned.checked.prog.funcs[f]? = some fn) :
    false = Tryd.pinned.checked.prog.looks [] ∧ ∀ (j : Nat) t, fn.params[j]? = some t → Tryd.pinned.checked.prog.wantsStandIn t = false := by
  obtain rfl : f = 12 := Option.some.inj ((show Tryd.prog.funcNamed "scrinium/scriniumlaw13.TwinWays" = some 12 by kernel_rfl).symm.trans hf) |>.symm
  obtain rfl : fn = Tryd.f12 := (Option.some.inj (Tryd.func12.symm.trans hfn)).symm
  refine ⟨by kernel_rfl, fun j t ht => ?_⟩
  rw [Tryd.params12] at ht
  have hm : t ∈ ([24, 23, 25] : List TypeId) := by simpa using Array.mem_of_getElem? ht
  have hall : (([24, 23, 25] : List TypeId).all fun u => !Tryd.prog.wantsStandIn u) = true := by kernel_rfl
  exact (show Tryd.prog.wantsStandIn t = false by simpa using List.all_eq_true.1 hall t hm)
theorem proved : Rows.TwinWaysCardSaid :=
  Claim7.holds_tied_plain_at .later [] _ _ _ _ said (fun _ h => by cases h) (by kernel_rfl) (fun _ h => by cases h) twinWays_row_tie rfl ⟨rfl, rfl⟩ (by kernel_rfl) rfl plain (by kernel_rfl)

end Go.Proofs.YtfpipdopgepelaaDoor.twinWays
