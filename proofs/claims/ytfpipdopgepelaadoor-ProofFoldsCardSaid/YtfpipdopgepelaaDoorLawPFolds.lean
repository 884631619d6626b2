/-
  scriniumlaw12.ProofFolds: no condition.
-/
import Derived.Test.YtfpipdopgepelaaDoorRefGoes
import Derived.Test.YtfpipdopgepelaaDoorOpQ
import Derived.Test.YtfpipdopgepelaaDoorEqA
import Derived.Test.YtfpipdopgepelaaDoorLaw
import Derived.Test.YtfpipdopgepelaaDoorSls12
import Derived.Deep.DeepCutAuto
set_option linter.unusedVariables false
set_option maxRecDepth 100000
set_option linter.unusedSimpArgs false
namespace Go.Proofs.YtfpipdopgepelaaDoor.proofFolds
open Go.ChangeShapes Go.WideShapes Go.ChangeAt Go.RowKit
attribute [local go_sem] bs_size bs_toList2 bs_append bs_extract_end bs_extract_begin bs_get wrap64_b grow_cell grow_frozen

/-! ### The walk -/
set_option maxHeartbeats 4000000 in
theorem walk (a : List UInt8) (ha : a.length = 32) (m n : Int) (hmm : -9223372036854775808 ≤ m ∧ m ≤ 9223372036854775807) (hn : -9223372036854775808 ≤ n ∧ n ≤ 9223372036854775807) (c : Value) (l : List (List UInt8)) (w : World) (KW : Keys w) (hS : SlS w w.heap.size c l) (hl : AllH l) :
    Calls Tryd.prog 3 #[sumV a, .agg #[.int .i64 m, .int .i64 n], c] w fun e w' => e = .returned (.bool true) ∧ Ext w w' := by
  have hfold := fold_sum a ha
  have hgw := guard_sum
  unfold sumV
  go_enter Tryd.func3, Tryd.ntmps3
  go_wp2_with fail
  have hX : ArrB ((w.alloc (.cells (a.map byteV).toArray 23)).alloc (.cells #[.int .i64 m, .int .i64 n] 24)) w.heap.size 23 a := Blk.alloc (Blk.new _ _ _) _
  have hM : Blk ((w.alloc (.cells (a.map byteV).toArray 23)).alloc (.cells #[.int .i64 m, .int .i64 n] 24)) (w.heap.size + 1) 24 #[.int .i64 m, .int .i64 n] := by
    have := Blk.new (w.alloc (.cells (a.map byteV).toArray 23)) 24 #[.int .i64 m, .int .i64 n]
    rw [alloc_size] at this
    exact this
  have hE : Ext w ((w.alloc (.cells (a.map byteV).toArray 23)).alloc (.cells #[.int .i64 m, .int .i64 n] 24)) := ((Ext.refl w).alloc _).alloc _
  generalize (w.alloc (.cells (a.map byteV).toArray 23)).alloc (.cells #[.int .i64 m, .int .i64 n] 24) = w1 at *
  refine (awake12_calls _ (KW.ext hE)).mono ?_; rintro e v2 ⟨rfl, e1⟩
  have hX := Blk.below hX e1 (Blk.lt hX)
  have hM := Blk.below hM e1 (Blk.lt hM)
  have hE := hE.trans e1
  clear e1
  have c0 : v2.cell? ⟨w.heap.size + 1, 0, none⟩ = some (.int .i64 m) := Blk.cell hM 0
  have c1 : v2.cell? ⟨w.heap.size + 1, 1, none⟩ = some (.int .i64 n) := Blk.cell hM 1
  have hS4 : SlS v2 v2.heap.size c l := hS.ext hE
  obtain ⟨Ac, lc, cc, rfl⟩ : ∃ A k cap, c = .slice A k cap := by
    obtain ⟨A, cap, h1, _⟩ := hS4
    exact ⟨A, _, cap, h1⟩
  go_wp2_with fail
  refine (few12_calls _ l hl 50 (by omega) _ hS4).mono ?_; rintro e w5 ⟨v', rfl, hF, rfl⟩
  have hfl : AllH (l.take 50) := AllH.take hl 50
  have hf5 : (l.take 50).length ≤ 50 := by rw [List.length_take]; omega
  generalize l.take 50 = f at *
  obtain ⟨Af, cf, rfl, hF2⟩ := hF
  have hF : SlS v2 v2.heap.size (.slice Af f.length cf) f := ⟨Af, cf, rfl, hF2⟩
  clear hF2 hS hS4
  have hp1 := foldP_length a ha m n f
  have hp2 := bothP_length a ha m n f hfl
  obtain ⟨P, hP⟩ : ∃ P, P = foldP a m n f := ⟨_, rfl⟩
  obtain ⟨Q, hQ⟩ : ∃ Q, Q = bothP a m n f := ⟨_, rfl⟩
  rw [← hP] at hp1
  rw [← hQ] at hp2
  have HP := Lib.hid hP
  have HQ := Lib.hid hQ
  clear hP hQ
  obtain ⟨x, i⟩ := P
  obtain ⟨⟨y, z⟩, k⟩ := Q
  obtain ⟨hy, hz⟩ := hp2
  have hx : x.length = 32 := hp1
  dsimp only at hy hz
  clear hp1
  have heqx := fun w : World => eq_sum x x hx hx w
  have heqy := fun w : World => eq_sum y y hy hy w
  have heqz := fun w : World => eq_sum z z hz hz w
  have dx : decide (x = x) = true := decide_eq_true rfl
  have dy : decide (y = y) = true := decide_eq_true rfl
  have dz : decide (z = z) = true := decide_eq_true rfl
  rw [dx] at heqx
  rw [dy] at heqy
  rw [dz] at heqz
  clear dx dy dz
  go_wp2_with (refine stop_load 23 (.tmp 3) rfl ?_)
  refine ⟨?_⟩
  refine wpList_load_row rfl 23 (.tmp 3) rfl w.heap.size (by rfl) 23 _ (0, 0) _ hX Tryd.underlying23 rfl (size32.trans (by simp [ha])) ?_
  simp only [Act.put, List.setIfInBounds_toArray, List.set_cons_zero, List.set_cons_succ]
  go_wp2_with fail
  change Calls _ _ #[sumV a, _, _, _] _ _
  refine (Fold_sls a ha m n hn.2 _ f hfl (by omega) _ (KW.ext hE) hF).mono ?_; rw [← HP.out]; rintro e v4 ⟨rfl, e3⟩
  have hX := Blk.below hX e3 (Blk.lt hX)
  have hM := Blk.below hM e3 (Blk.lt hM)
  have hF := hF.ext e3
  have hE := hE.trans e3
  have c0 : v4.cell? ⟨w.heap.size + 1, 0, none⟩ = some (.int .i64 m) := Blk.cell hM 0
  have c1 : v4.cell? ⟨w.heap.size + 1, 1, none⟩ = some (.int .i64 n) := Blk.cell hM 1
  clear e3
  unfold sumV
  go_wp2_with (refine stop_store 23 (.tmp 9) (.tmp 30) rfl ?_)
  refine ⟨?_⟩
  change wpList _ _ _ _ _ (v4.alloc (.cells ((zerosB 32).map byteV).toArray 23))
  have hA0 : ArrB (v4.alloc (.cells ((zerosB 32).map byteV).toArray 23)) v4.heap.size 23 (zerosB 32) := Blk.new _ _ _
  refine wpList_store_row rfl 23 (.tmp 9) (.tmp 30) rfl v4.heap.size ((x).map byteV).toArray (by rfl) (by rfl) 23 _ hA0 (size32.trans (by simp [hx])) (by simp [hx, zerosB]) (by simp [byteV, Value.oneCell']) ?_
  simp only [Act.put, List.setIfInBounds_toArray, List.set_cons_zero, List.set_cons_succ]
  have hA : ArrB ((v4.alloc (.cells ((zerosB 32).map byteV).toArray 23)).setRow v4.heap.size ((x).map byteV).toArray) v4.heap.size 23 (x) := Blk.row hA0 _
  have e6 : Ext v4 ((v4.alloc (.cells ((zerosB 32).map byteV).toArray 23)).setRow v4.heap.size ((x).map byteV).toArray) := ((Ext.refl v4).alloc _).row (Nat.le_refl _) _
  clear hA0
  generalize (v4.alloc (.cells ((zerosB 32).map byteV).toArray 23)).setRow v4.heap.size ((x).map byteV).toArray = v5 at *
  have g7l := Blk.lt hA
  obtain ⟨g7, g7e⟩ : ∃ g7, g7 = v4.heap.size := ⟨_, rfl⟩
  rw [← g7e] at hA g7l
  try rw [← g7e]
  have hX := Blk.below hX e6 (Blk.lt hX)
  have hM := Blk.below hM e6 (Blk.lt hM)
  have hF := hF.ext e6
  have hE := hE.trans e6
  have c0 : v5.cell? ⟨w.heap.size + 1, 0, none⟩ = some (.int .i64 m) := Blk.cell hM 0
  have c1 : v5.cell? ⟨w.heap.size + 1, 1, none⟩ = some (.int .i64 n) := Blk.cell hM 1
  clear e6
  clear g7e
  go_wp2_with (refine stop_load 23 (.tmp 3) rfl ?_)
  refine ⟨?_⟩
  refine wpList_load_row rfl 23 (.tmp 3) rfl w.heap.size (by rfl) 23 _ (0, 0) _ hX Tryd.underlying23 rfl (size32.trans (by simp [ha])) ?_
  simp only [Act.put, List.setIfInBounds_toArray, List.set_cons_zero, List.set_cons_succ]
  go_wp2_with fail
  change Calls _ _ #[sumV a, _, _, _] _ _
  refine (refFold_sls a ha m n _ f hfl (by omega) _ hF).mono ?_; rw [← HP.out]; rintro e v9 ⟨rfl, e8⟩
  have hX := Blk.below hX e8 (Blk.lt hX)
  have hM := Blk.below hM e8 (Blk.lt hM)
  have hF := hF.ext e8
  have hA := Blk.below hA e8 (Blk.lt hA)
  have hE := hE.trans e8
  have c0 : v9.cell? ⟨w.heap.size + 1, 0, none⟩ = some (.int .i64 m) := Blk.cell hM 0
  have c1 : v9.cell? ⟨w.heap.size + 1, 1, none⟩ = some (.int .i64 n) := Blk.cell hM 1
  clear e8
  unfold sumV
  go_wp2_with (refine stop_store 23 (.tmp 11) (.tmp 40) rfl ?_)
  refine ⟨?_⟩
  change wpList _ _ _ _ _ (v9.alloc (.cells ((zerosB 32).map byteV).toArray 23))
  have hB0 : ArrB (v9.alloc (.cells ((zerosB 32).map byteV).toArray 23)) v9.heap.size 23 (zerosB 32) := Blk.new _ _ _
  refine wpList_store_row rfl 23 (.tmp 11) (.tmp 40) rfl v9.heap.size ((x).map byteV).toArray (by rfl) (by rfl) 23 _ hB0 (size32.trans (by simp [hx])) (by simp [hx, zerosB]) (by simp [byteV, Value.oneCell']) ?_
  simp only [Act.put, List.setIfInBounds_toArray, List.set_cons_zero, List.set_cons_succ]
  have hB : ArrB ((v9.alloc (.cells ((zerosB 32).map byteV).toArray 23)).setRow v9.heap.size ((x).map byteV).toArray) v9.heap.size 23 (x) := Blk.row hB0 _
  have e11 : Ext v9 ((v9.alloc (.cells ((zerosB 32).map byteV).toArray 23)).setRow v9.heap.size ((x).map byteV).toArray) := ((Ext.refl v9).alloc _).row (Nat.le_refl _) _
  clear hB0
  generalize (v9.alloc (.cells ((zerosB 32).map byteV).toArray 23)).setRow v9.heap.size ((x).map byteV).toArray = v10 at *
  have g12l := Blk.lt hB
  obtain ⟨g12, g12e⟩ : ∃ g12, g12 = v9.heap.size := ⟨_, rfl⟩
  rw [← g12e] at hB g12l
  try rw [← g12e]
  have hX := Blk.below hX e11 (Blk.lt hX)
  have hM := Blk.below hM e11 (Blk.lt hM)
  have hF := hF.ext e11
  have hA := Blk.below hA e11 (Blk.lt hA)
  have hE := hE.trans e11
  have c0 : v10.cell? ⟨w.heap.size + 1, 0, none⟩ = some (.int .i64 m) := Blk.cell hM 0
  have c1 : v10.cell? ⟨w.heap.size + 1, 1, none⟩ = some (.int .i64 n) := Blk.cell hM 1
  clear e11
  clear g12e
  go_wp2_with (refine stop_load 23 (.tmp 3) rfl ?_)
  refine ⟨?_⟩
  refine wpList_load_row rfl 23 (.tmp 3) rfl w.heap.size (by rfl) 23 _ (0, 0) _ hX Tryd.underlying23 rfl (size32.trans (by simp [ha])) ?_
  simp only [Act.put, List.setIfInBounds_toArray, List.set_cons_zero, List.set_cons_succ]
  go_wp2_with fail
  change Calls _ _ #[sumV a, _, _, _] _ _
  refine (Both_sls a ha m n hn.2 _ f hfl (by omega) _ (KW.ext hE) hF).mono ?_; rw [← HQ.out]; rintro e v14 ⟨rfl, e13⟩
  have hX := Blk.below hX e13 (Blk.lt hX)
  have hM := Blk.below hM e13 (Blk.lt hM)
  have hF := hF.ext e13
  have hA := Blk.below hA e13 (Blk.lt hA)
  have hB := Blk.below hB e13 (Blk.lt hB)
  have hE := hE.trans e13
  have c0 : v14.cell? ⟨w.heap.size + 1, 0, none⟩ = some (.int .i64 m) := Blk.cell hM 0
  have c1 : v14.cell? ⟨w.heap.size + 1, 1, none⟩ = some (.int .i64 n) := Blk.cell hM 1
  clear e13
  unfold sumV
  go_wp2_with (refine stop_store 23 (.tmp 13) (.tmp 50) rfl ?_)
  refine ⟨?_⟩
  change wpList _ _ _ _ _ (twoW v14)
  refine wpList_store_row rfl 23 (.tmp 13) (.tmp 50) rfl v14.heap.size ((y).map byteV).toArray (by rfl) (by rfl) 23 _ (twoW_facts v14).1 (size32.trans (by simp [hy])) (by simp [hy, zerosB]) (by simp [byteV, Value.oneCell']) ?_
  simp only [Act.put, List.setIfInBounds_toArray, List.set_cons_zero, List.set_cons_succ]
  obtain ⟨hC, hD0, hD, e16⟩ := two_rows v14 y z
  go_wp2_with (refine stop_store 23 (.tmp 14) (.tmp 51) rfl ?_)
  refine ⟨?_⟩
  refine wpList_store_row rfl 23 (.tmp 14) (.tmp 51) rfl (v14.heap.size + 1) ((z).map byteV).toArray (by rfl) (by rfl) 23 _ hD0 (size32.trans (by simp [hz])) (by simp [hz, zerosB]) (by simp [byteV, Value.oneCell']) ?_
  simp only [Act.put, List.setIfInBounds_toArray, List.set_cons_zero, List.set_cons_succ]
  clear hD0
  obtain ⟨g17, g17e⟩ : ∃ g17, g17 = v14.heap.size := ⟨_, rfl⟩
  rw [← g17e] at hC hD e16 ⊢
  generalize ((twoW v14).setRow g17 ((y).map byteV).toArray).setRow (g17 + 1) ((z).map byteV).toArray = v15 at *
  have hX := Blk.below hX e16 (Blk.lt hX)
  have hM := Blk.below hM e16 (Blk.lt hM)
  have hF := hF.ext e16
  have hA := Blk.below hA e16 (Blk.lt hA)
  have hB := Blk.below hB e16 (Blk.lt hB)
  have hE := hE.trans e16
  have c0 : v15.cell? ⟨w.heap.size + 1, 0, none⟩ = some (.int .i64 m) := Blk.cell hM 0
  have c1 : v15.cell? ⟨w.heap.size + 1, 1, none⟩ = some (.int .i64 n) := Blk.cell hM 1
  clear e16
  clear g17e
  go_wp2_with (refine stop_load 23 (.tmp 3) rfl ?_)
  refine ⟨?_⟩
  refine wpList_load_row rfl 23 (.tmp 3) rfl w.heap.size (by rfl) 23 _ (0, 0) _ hX Tryd.underlying23 rfl (size32.trans (by simp [ha])) ?_
  simp only [Act.put, List.setIfInBounds_toArray, List.set_cons_zero, List.set_cons_succ]
  go_wp2_with fail
  change Calls _ _ #[sumV a, _, _, _] _ _
  refine (refBoth_sls a ha m n _ f hfl (by omega) _ hF).mono ?_; rw [← HQ.out]; rintro e v19 ⟨rfl, e18⟩
  have hX := Blk.below hX e18 (Blk.lt hX)
  have hM := Blk.below hM e18 (Blk.lt hM)
  have hF := hF.ext e18
  have hA := Blk.below hA e18 (Blk.lt hA)
  have hB := Blk.below hB e18 (Blk.lt hB)
  have hC := Blk.below hC e18 (Blk.lt hC)
  have hD := Blk.below hD e18 (Blk.lt hD)
  have hE := hE.trans e18
  have c0 : v19.cell? ⟨w.heap.size + 1, 0, none⟩ = some (.int .i64 m) := Blk.cell hM 0
  have c1 : v19.cell? ⟨w.heap.size + 1, 1, none⟩ = some (.int .i64 n) := Blk.cell hM 1
  clear e18
  unfold sumV
  go_wp2_with (refine stop_store 23 (.tmp 16) (.tmp 61) rfl ?_)
  refine ⟨?_⟩
  change wpList _ _ _ _ _ (twoW v19)
  refine wpList_store_row rfl 23 (.tmp 16) (.tmp 61) rfl v19.heap.size ((y).map byteV).toArray (by rfl) (by rfl) 23 _ (twoW_facts v19).1 (size32.trans (by simp [hy])) (by simp [hy, zerosB]) (by simp [byteV, Value.oneCell']) ?_
  simp only [Act.put, List.setIfInBounds_toArray, List.set_cons_zero, List.set_cons_succ]
  obtain ⟨hG, hH0, hH, e21⟩ := two_rows v19 y z
  go_wp2_with (refine stop_store 23 (.tmp 17) (.tmp 62) rfl ?_)
  refine ⟨?_⟩
  refine wpList_store_row rfl 23 (.tmp 17) (.tmp 62) rfl (v19.heap.size + 1) ((z).map byteV).toArray (by rfl) (by rfl) 23 _ hH0 (size32.trans (by simp [hz])) (by simp [hz, zerosB]) (by simp [byteV, Value.oneCell']) ?_
  simp only [Act.put, List.setIfInBounds_toArray, List.set_cons_zero, List.set_cons_succ]
  clear hH0
  obtain ⟨g22, g22e⟩ : ∃ g22, g22 = v19.heap.size := ⟨_, rfl⟩
  rw [← g22e] at hG hH e21 ⊢
  generalize ((twoW v19).setRow g22 ((y).map byteV).toArray).setRow (g22 + 1) ((z).map byteV).toArray = v20 at *
  have hX := Blk.below hX e21 (Blk.lt hX)
  have hM := Blk.below hM e21 (Blk.lt hM)
  have hF := hF.ext e21
  have hA := Blk.below hA e21 (Blk.lt hA)
  have hB := Blk.below hB e21 (Blk.lt hB)
  have hC := Blk.below hC e21 (Blk.lt hC)
  have hD := Blk.below hD e21 (Blk.lt hD)
  have hE := hE.trans e21
  have c0 : v20.cell? ⟨w.heap.size + 1, 0, none⟩ = some (.int .i64 m) := Blk.cell hM 0
  have c1 : v20.cell? ⟨w.heap.size + 1, 1, none⟩ = some (.int .i64 n) := Blk.cell hM 1
  clear e21
  clear g22e
  cases i <;> cases k
  all_goals
    go_wp2_with (refine stop_load 23 (.tmp 9) rfl ?_)
    refine ⟨?_⟩
    refine list_want (by rfl) (fun K hK => ?_)
    refine wp_load_row 23 (.tmp 9) rfl g7 (by rfl) 23 _ (0, 0) _ hA Tryd.underlying23 rfl (size32.trans (by simp [hx])) ?_
    refine hK _ _ ?_; clear hK K
    simp only [Act.put, List.setIfInBounds_toArray, List.set_cons_zero, List.set_cons_succ]
    go_wp2_with (refine stop_load 23 (.tmp 11) rfl ?_)
    refine ⟨?_⟩
    refine list_want (by rfl) (fun K hK => ?_)
    refine wp_load_row 23 (.tmp 11) rfl g12 (by rfl) 23 _ (0, 0) _ hB Tryd.underlying23 rfl (size32.trans (by simp [hx])) ?_
    refine hK _ _ ?_; clear hK K
    simp only [Act.put, List.setIfInBounds_toArray, List.set_cons_zero, List.set_cons_succ]
    go_wp2_with (refine stop_load 23 (.tmp 13) rfl ?_)
    refine ⟨?_⟩
    refine list_want (by rfl) (fun K hK => ?_)
    refine wp_load_row 23 (.tmp 13) rfl g17 (by rfl) 23 _ (0, 0) _ hC Tryd.underlying23 rfl (size32.trans (by simp [hy])) ?_
    refine hK _ _ ?_; clear hK K
    simp only [Act.put, List.setIfInBounds_toArray, List.set_cons_zero, List.set_cons_succ]
    go_wp2_with (refine stop_load 23 (.tmp 16) rfl ?_)
    refine ⟨?_⟩
    refine list_want (by rfl) (fun K hK => ?_)
    refine wp_load_row 23 (.tmp 16) rfl g22 (by rfl) 23 _ (0, 0) _ hG Tryd.underlying23 rfl (size32.trans (by simp [hy])) ?_
    refine hK _ _ ?_; clear hK K
    simp only [Act.put, List.setIfInBounds_toArray, List.set_cons_zero, List.set_cons_succ]
    go_wp2_with (refine stop_load 23 (.tmp 14) rfl ?_)
    refine ⟨?_⟩
    refine list_want (by rfl) (fun K hK => ?_)
    refine wp_load_row 23 (.tmp 14) rfl (g17 + 1) (by rfl) 23 _ (0, 0) _ hD Tryd.underlying23 rfl (size32.trans (by simp [hz])) ?_
    refine hK _ _ ?_; clear hK K
    simp only [Act.put, List.setIfInBounds_toArray, List.set_cons_zero, List.set_cons_succ]
    go_wp2_with (refine stop_load 23 (.tmp 17) rfl ?_)
    refine ⟨?_⟩
    refine list_want (by rfl) (fun K hK => ?_)
    refine wp_load_row 23 (.tmp 17) rfl (g22 + 1) (by rfl) 23 _ (0, 0) _ hH Tryd.underlying23 rfl (size32.trans (by simp [hz])) ?_
    refine hK _ _ ?_; clear hK K
    simp only [Act.put, List.setIfInBounds_toArray, List.set_cons_zero, List.set_cons_succ]
    go_wp2_with fail
    go_ret
    exact ⟨rfl, hE⟩

set_option maxRecDepth 100000 in
theorem contract (H : Type) (enc : TypeId × Value → H) (W : World) (base : Nat) (args : Array Value) (ds gs : List (DataW H)) (before : List MemPlace)
    (hval0 : ∀ (j : Nat) t v, Tryd.f3.params[j]? = some t → args[j]? = some v → Value.okWide Tryd.prog W .any base t v)
    (hW : DataW.Whole enc Tryd.prog Tryd.f3.params.toList Rows.proofFoldsSpec.vars false W args.toList ds gs before) (hL : laidMetH Tryd.prog Rows.proofFoldsRow.laid W) :
    Calls Tryd.prog 3 args W fun e W' => ∃ v, e = .returned v ∧ Rows.proofFoldsSpec.post enc Tryd.prog Tryd.f3 false true false false W args v W' := by
  have K : Keys W := keys_of hL
  have hval : ∀ (j : Nat) t v, Tryd.f3.params[j]? = some t → args[j]? = some v → Value.okWide Tryd.prog W .any base t v := hval0
  have hW' := hW
  obtain ⟨p, q, hA0, hV, rfl, hfz, hnd⟩ := hW
  have hA : DataW.TrodAll enc Tryd.prog W 0 (fun _ => true) true Tryd.f3.params.toList args.toList ds p := hA0
  rw [Tryd.params3] at hA hval
  obtain ⟨v0, vs0, d0, ds0, p0, q0, hargs, rfl, rfl, hx0, r0⟩ := trodAll_cons hA
  obtain ⟨v1, vs1, d1, ds1, p1, q1, rfl, rfl, rfl, hx1, r1⟩ := trodAll_cons r0
  obtain ⟨v2, vs2, d2, ds2, p2, q2, rfl, rfl, rfl, hx2, r2⟩ := trodAll_cons r1
  obtain ⟨rfl, rfl, rfl⟩ := trodAll_nil r2
  obtain rfl : args = #[v0, v1, v2] := by cases args; simp_all
  obtain ⟨rfl, rfl⟩ := trodVars_none hV
  obtain ⟨a, rfl, ha⟩ := op_sum (hval 0 23 v0 rfl rfl) (tr_of hx0)
  obtain ⟨b1, b2, rfl, hb1, hb2⟩ := op_i2 (hval 1 24 v1 rfl rfl) (tr_of hx1)
  obtain ⟨r, hrs, hra⟩ := op_sls (hval 2 25 v2 rfl rfl) (tr_of hx2)
  refine (walk a ha b1 b2 hb1 hb2 _ r W K hrs hra).mono fun e W' ⟨he, hg⟩ => ?_
  subst he
  exact ⟨_, rfl, law_post hW' rfl rfl (by kernel_rfl) rfl rfl rfl hg⟩

theorem laid_met (os : Os) : laidMet Tryd.prog Rows.proofFoldsRow.laid ((keysWorld os).forCall (fun _ _ => 0) ⟨#[], #[.agg #[.int .u8 0, .int .u8 0, .int .u8 0, .int .u8 0, .int .u8 0, .int .u8 0, .int .u8 0, .int .u8 0, .int .u8 0, .int .u8 0, .int .u8 0, .int .u8 0, .int .u8 0, .int .u8 0, .int .u8 0, .int .u8 0, .int .u8 0, .int .u8 0, .int .u8 0, .int .u8 0, .int .u8 0, .int .u8 0, .int .u8 0, .int .u8 0, .int .u8 0, .int .u8 0, .int .u8 0, .int .u8 0, .int .u8 0, .int .u8 0, .int .u8 0, .int .u8 0], .agg #[.int .i64 0, .int .i64 0], .slice none 0 0], []⟩).memory :=
  laidMet_of_run' 8 (by kernel_rfl) (by kernel_rfl)
theorem reads (os : Os) {H : Type} (enc : TypeId × Value → H) : ∃ x, DataW.whole enc Tryd.prog ((keysWorld os).forCall (fun _ _ => 0) ⟨#[], #[.agg #[.int .u8 0, .int .u8 0, .int .u8 0, .int .u8 0, .int .u8 0, .int .u8 0, .int .u8 0, .int .u8 0, .int .u8 0, .int .u8 0, .int .u8 0, .int .u8 0, .int .u8 0, .int .u8 0, .int .u8 0, .int .u8 0, .int .u8 0, .int .u8 0, .int .u8 0, .int .u8 0, .int .u8 0, .int .u8 0, .int .u8 0, .int .u8 0, .int .u8 0, .int .u8 0, .int .u8 0, .int .u8 0, .int .u8 0, .int .u8 0, .int .u8 0, .int .u8 0], .agg #[.int .i64 0, .int .i64 0], .slice none 0 0], []⟩).memory Tryd.f3.params.toList Rows.proofFoldsSpec.vars false (#[.agg #[.int .u8 0, .int .u8 0, .int .u8 0, .int .u8 0, .int .u8 0, .int .u8 0, .int .u8 0, .int .u8 0, .int .u8 0, .int .u8 0, .int .u8 0, .int .u8 0, .int .u8 0, .int .u8 0, .int .u8 0, .int .u8 0, .int .u8 0, .int .u8 0, .int .u8 0, .int .u8 0, .int .u8 0, .int .u8 0, .int .u8 0, .int .u8 0, .int .u8 0, .int .u8 0, .int .u8 0, .int .u8 0, .int .u8 0, .int .u8 0, .int .u8 0, .int .u8 0], .agg #[.int .i64 0, .int .i64 0], .slice none 0 0] : Array Value).toList 8 = some x :=
  Option.isSome_iff_exists.1 (by kernel_rfl)
set_option maxRecDepth 100000 in
theorem lifted (os : Os) (started : os.Started) (H : Type) (enc : TypeId × Value → H) (F : Stop.Interp) :
    ReturnsInHanded {} Tryd.checked os 3 .any ((OpenSpec.ofChange Rows.proofFoldsSpec).preRow enc Tryd.prog Tryd.f3 Rows.proofFoldsRow.domain false Rows.proofFoldsRow.laid) (((OpenSpec.ofChange Rows.proofFoldsSpec).at F).post enc Tryd.prog Tryd.f3 false true false false) := by
  obtain ⟨x, hx⟩ := reads os enc
  refine returnsInHanded_of_row (C := Tryd.checked) (s := OpenSpec.ofChange Rows.proofFoldsSpec) own_ started (by kernel_rfl) Tryd.func3
    (witness_row_at (enc := enc) (C := Tryd.checked) false (keysWorld os) #[.agg #[.int .u8 0, .int .u8 0, .int .u8 0, .int .u8 0, .int .u8 0, .int .u8 0, .int .u8 0, .int .u8 0, .int .u8 0, .int .u8 0, .int .u8 0, .int .u8 0, .int .u8 0, .int .u8 0, .int .u8 0, .int .u8 0, .int .u8 0, .int .u8 0, .int .u8 0, .int .u8 0, .int .u8 0, .int .u8 0, .int .u8 0, .int .u8 0, .int .u8 0, .int .u8 0, .int .u8 0, .int .u8 0, .int .u8 0, .int .u8 0, .int .u8 0, .int .u8 0], .agg #[.int .i64 0, .int .i64 0], .slice none 0 0] rfl (by kernel_rfl) (by kernel_rfl) (by kernel_rfl)
      (OpenSpec.preRow_of_cond 8 hx rfl (fun k hk => by cases hk) (by kernel_rfl) (laid_met os))) ?_
  intro W base args ds gs before hval hW _ _ _ hL _ _
  exact contract H enc W base args ds gs before hval hW hL

theorem said : Rows.ProofFoldsSaid :=
  OpenClaim.holds_of_cond 3 Tryd.f3 rfl rfl rfl rfl rfl rfl rfl ⟨rfl, rfl, rfl, rfl, rfl⟩ rfl rfl rfl rfl rfl (by kernel_rfl) Tryd.func3 (by kernel_rfl)
    (of_decide_eq_true (by kernel_rfl)) (by unfold Func.isWrapper; first | (rw [if_pos (by decide +kernel)]; kernel_rfl) | (rw [if_neg (by decide +kernel)]; exact ⟨rfl, rfl⟩))
    (fun os started H enc _ F => by rw [OpenClaim.pre_eq_preRow]; exact lifted os started H enc F)
theorem plain (f : FuncId) (fn : Func) (hf : Tryd.pinned.checked.prog.funcNamed "scrinium/scriniumlaw12.ProofFolds" = some f) (hfn : Tryd.pinned.checked.prog.funcs[f]? = some fn) :
    false = Tryd.pinned.checked.prog.looks [] ∧ ∀ (j : Nat) t, fn.params[j]? = some t → Tryd.pinned.checked.prog.wantsStandIn t = false := by
  obtain rfl : f = 3 := Option.some.inj ((show Tryd.prog.funcNamed "scrinium/scriniumlaw12.ProofFolds" = some 3 by kernel_rfl).symm.trans hf) |>.symm
  obtain rfl : fn = Tryd.f3 := (Option.some.inj (Tryd.func3.symm.trans hfn)).symm
  refine ⟨by kernel_rfl, fun j t ht => ?_⟩
  rw [Tryd.params3] at ht
  have hm : t ∈ ([23, 24, 25] : List TypeId) := by simpa using Array.mem_of_getElem? ht
  have hall : (([23, 24, 25] : List TypeId).all fun u => !Tryd.prog.wantsStandIn u) = true := by kernel_rfl
  exact (show Tryd.prog.wantsStandIn t = false by simpa using List.all_eq_true.1 hall t hm)
theorem proved : Rows.ProofFoldsCardSaid :=
  Claim7.holds_tied_plain_at .later [] _ _ _ _ said (fun _ h => by cases h) (by kernel_rfl) (fun _ h => by cases h) proofFolds_row_tie rfl ⟨rfl, rfl⟩ (by kernel_rfl) rfl plain (by kernel_rfl)

end Go.Proofs.YtfpipdopgepelaaDoor.proofFolds
