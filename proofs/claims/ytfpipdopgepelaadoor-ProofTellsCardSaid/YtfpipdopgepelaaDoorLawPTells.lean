/-
  scriniumlaw12.ProofTells: no condition.
-/
import Derived.Test.YtfpipdopgepelaaDoorSls12
import Derived.Test.YtfpipdopgepelaaDoorOpQ
import Derived.Test.YtfpipdopgepelaaDoorEqA
import Derived.Test.YtfpipdopgepelaaDoorLaw
import Derived.Deep.DeepCutAuto
set_option linter.unusedVariables false
set_option maxRecDepth 100000
set_option linter.unusedSimpArgs false
namespace Go.Proofs.YtfpipdopgepelaaDoor.proofTells
open Go.ChangeShapes Go.WideShapes Go.ChangeAt Go.RowKit
attribute [local go_sem] bs_size bs_toList2 bs_append bs_extract_end bs_extract_begin bs_get wrap64_b grow_cell grow_frozen

theorem blk_mid {w : World} {g : Nat} {t : TypeId} {l : List (List UInt8)} (h : Blk w g t (flatS l).toArray) (hl : AllH l) (k : Nat) (hk : k < l.length) : w.rangeAt g (k * 32) (hcells l[k]) := fun j v hv => by
  rw [Blk.cell h]
  have := flatS_get l hl k hk j v hv
  simpa using this

/-! ### The walk -/
set_option maxHeartbeats 8000000 in
theorem walk (a b c : List UInt8) (ha : a.length = 32) (hb : b.length = 32) (hc : c.length = 32) (m n : Int) (hmm : -9223372036854775808 ≤ m ∧ m ≤ 9223372036854775807) (hn : -9223372036854775808 ≤ n ∧ n ≤ 9223372036854775807) (cv : Value) (l : List (List UInt8)) (w : World) (KW : Keys w) (hS : SlS w w.heap.size cv l) (hl : AllH l) :
    Calls Tryd.prog 4 #[.agg (flatS [a, b, c]).toArray, .agg #[.int .i64 m, .int .i64 n], cv] w fun e w' => e = .returned (.bool true) ∧ Ext w w' := by
  have hgw := guard_sum
  have hall : AllH [a, b, c] := AllH.cons ha (AllH.cons hb (AllH.cons hc AllH.nil))
  go_enter Tryd.func4, Tryd.ntmps4
  go_wp2_with fail
  have hX : Blk ((w.alloc (.cells (flatS [a, b, c]).toArray 33)).alloc (.cells #[.int .i64 m, .int .i64 n] 24)) w.heap.size 33 (flatS [a, b, c]).toArray := Blk.alloc (Blk.new _ _ _) _
  have hM : Blk ((w.alloc (.cells (flatS [a, b, c]).toArray 33)).alloc (.cells #[.int .i64 m, .int .i64 n] 24)) (w.heap.size + 1) 24 #[.int .i64 m, .int .i64 n] := by
    have := Blk.new (w.alloc (.cells (flatS [a, b, c]).toArray 33)) 24 #[.int .i64 m, .int .i64 n]
    rw [alloc_size] at this
    exact this
  have hE : Ext w ((w.alloc (.cells (flatS [a, b, c]).toArray 33)).alloc (.cells #[.int .i64 m, .int .i64 n] 24)) := ((Ext.refl w).alloc _).alloc _
  generalize (w.alloc (.cells (flatS [a, b, c]).toArray 33)).alloc (.cells #[.int .i64 m, .int .i64 n] 24) = w1 at *
  refine (awake12_calls _ (KW.ext hE)).mono ?_; rintro e v2 ⟨rfl, e1⟩
  replace hX := Blk.below hX e1 (Blk.lt hX)
  replace hM := Blk.below hM e1 (Blk.lt hM)
  replace hE := hE.trans e1
  clear e1
  have c0 : v2.cell? ⟨w.heap.size + 1, 0, none⟩ = some (.int .i64 m) := Blk.cell hM 0
  have c1 : v2.cell? ⟨w.heap.size + 1, 1, none⟩ = some (.int .i64 n) := Blk.cell hM 1
  have hm0 : v2.rangeAt w.heap.size 0 (hcells a) := blk_mid hX hall 0 (by simp)
  have hm1 : v2.rangeAt w.heap.size 32 (hcells b) := blk_mid hX hall 1 (by simp)
  have hm2 : v2.rangeAt w.heap.size 64 (hcells c) := blk_mid hX hall 2 (by simp)
  have hS4 : SlS v2 v2.heap.size cv l := hS.ext hE
  obtain ⟨Ac, lc, cc, rfl⟩ : ∃ A k cap, cv = .slice A k cap := by
    obtain ⟨A, cap, h1, _⟩ := hS4
    exact ⟨A, _, cap, h1⟩
  go_wp2_with fail
  refine (few12_calls _ l hl 50 (by omega) _ hS4).mono ?_; rintro e w5 ⟨v', rfl, hF, rfl⟩
  have hfl : AllH (l.take 50) := AllH.take hl 50
  have hf5 : (l.take 50).length ≤ 50 := by rw [List.length_take]; omega
  generalize l.take 50 = f at *
  obtain ⟨Af, cf, rfl, hF2⟩ := hF
  have hF : SlS v2 v2.heap.size (.slice Af f.length cf) f := ⟨Af, cf, rfl, hF2⟩
  clear hF2 hS hS4
  have hp1 := foldP_length b hb m n f
  have hp2 := bothP_length b hb m n f hfl
  have hR1 : rightB a b m n f = ((foldP b m n f).2 && decide ((foldP b m n f).1 = a)) := rfl
  have hR2 : rightB (foldP b m n f).1 b m n f = (foldP b m n f).2 := by unfold rightB; simp
  obtain ⟨P, hP⟩ : ∃ P, P = foldP b m n f := ⟨_, rfl⟩
  obtain ⟨Q, hQ⟩ : ∃ Q, Q = bothP b m n f := ⟨_, rfl⟩
  rw [← hP] at hp1 hR1 hR2
  rw [← hQ] at hp2
  have HP := Lib.hid hP
  have HQ := Lib.hid hQ
  clear hP hQ
  obtain ⟨p, i⟩ := P
  obtain ⟨⟨y, z⟩, k⟩ := Q
  obtain ⟨hy, hz⟩ := hp2
  have hp : p.length = 32 := hp1
  dsimp only at hy hz hR1 hR2
  clear hp1
  obtain ⟨d, hd⟩ : ∃ d, d = decide (p = a) := ⟨_, rfl⟩
  rw [← hd] at hR1
  have heqp := fun w : World => eq_sum p a hp ha w
  rw [← hd] at heqp
  clear hd
  have HR1 := Lib.hid hR1
  have HR2 := Lib.hid hR2
  clear hR1 hR2
  obtain ⟨G1, hG1⟩ : ∃ G1, G1 = goesB b m c n f := ⟨_, rfl⟩
  obtain ⟨G2, hG2⟩ : ∃ G2, G2 = goesB b m z n f := ⟨_, rfl⟩
  have HG1 := Lib.hid hG1
  have HG2 := Lib.hid hG2
  clear hG1 hG2
  go_wp2_with (refine stop_load 23 (.tmp 20) rfl ?_)
  refine ⟨?_⟩
  refine wpList_load_mid rfl 23 (.tmp 20) rfl w.heap.size (32) (by rfl) (hcells b) _ hm1 Tryd.underlying23 rfl (size32l _ hb) ?_
  simp only [Act.put, List.setIfInBounds_toArray, List.set_cons_zero, List.set_cons_succ]
  unfold hcells
  go_wp2_with fail
  change Calls _ _ #[sumV b, _, _, _] _ _
  refine (refFold_sls b hb m n _ f hfl (by omega) _ hF).mono ?_; rw [← HP.out]; rintro e v4 ⟨rfl, e3⟩
  replace hX := Blk.below hX e3 (Blk.lt hX)
  replace hM := Blk.below hM e3 (Blk.lt hM)
  replace hF := hF.ext e3
  replace hE := hE.trans e3
  replace c0 : v4.cell? ⟨w.heap.size + 1, 0, none⟩ = some (.int .i64 m) := Blk.cell hM 0
  replace c1 : v4.cell? ⟨w.heap.size + 1, 1, none⟩ = some (.int .i64 n) := Blk.cell hM 1
  replace hm0 : v4.rangeAt w.heap.size 0 (hcells a) := blk_mid hX hall 0 (by simp)
  replace hm1 : v4.rangeAt w.heap.size 32 (hcells b) := blk_mid hX hall 1 (by simp)
  replace hm2 : v4.rangeAt w.heap.size 64 (hcells c) := blk_mid hX hall 2 (by simp)
  clear e3
  unfold sumV
  go_wp2_with (refine stop_store 23 (.tmp 9) (.tmp 28) rfl ?_)
  refine ⟨?_⟩
  change wpList _ _ _ _ _ (v4.alloc (.cells ((zerosB 32).map byteV).toArray 23))
  have hA0 : ArrB (v4.alloc (.cells ((zerosB 32).map byteV).toArray 23)) v4.heap.size 23 (zerosB 32) := Blk.new _ _ _
  refine wpList_store_row rfl 23 (.tmp 9) (.tmp 28) rfl v4.heap.size ((p).map byteV).toArray (by rfl) (by rfl) 23 _ hA0 (size32.trans (by simp [hp])) (by simp [hp, zerosB]) (by simp [byteV, Value.oneCell']) ?_
  simp only [Act.put, List.setIfInBounds_toArray, List.set_cons_zero, List.set_cons_succ]
  have hA : ArrB ((v4.alloc (.cells ((zerosB 32).map byteV).toArray 23)).setRow v4.heap.size ((p).map byteV).toArray) v4.heap.size 23 (p) := Blk.row hA0 _
  have e6 : Ext v4 ((v4.alloc (.cells ((zerosB 32).map byteV).toArray 23)).setRow v4.heap.size ((p).map byteV).toArray) := ((Ext.refl v4).alloc _).row (Nat.le_refl _) _
  clear hA0
  generalize (v4.alloc (.cells ((zerosB 32).map byteV).toArray 23)).setRow v4.heap.size ((p).map byteV).toArray = v5 at *
  have g7l := Blk.lt hA
  obtain ⟨g7, g7e⟩ : ∃ g7, g7 = v4.heap.size := ⟨_, rfl⟩
  rw [← g7e] at hA g7l
  try rw [← g7e]
  replace hX := Blk.below hX e6 (Blk.lt hX)
  replace hM := Blk.below hM e6 (Blk.lt hM)
  replace hF := hF.ext e6
  replace hE := hE.trans e6
  replace c0 : v5.cell? ⟨w.heap.size + 1, 0, none⟩ = some (.int .i64 m) := Blk.cell hM 0
  replace c1 : v5.cell? ⟨w.heap.size + 1, 1, none⟩ = some (.int .i64 n) := Blk.cell hM 1
  replace hm0 : v5.rangeAt w.heap.size 0 (hcells a) := blk_mid hX hall 0 (by simp)
  replace hm1 : v5.rangeAt w.heap.size 32 (hcells b) := blk_mid hX hall 1 (by simp)
  replace hm2 : v5.rangeAt w.heap.size 64 (hcells c) := blk_mid hX hall 2 (by simp)
  clear e6
  clear g7e
  go_wp2_with (refine stop_load 23 (.tmp 31) rfl ?_)
  refine ⟨?_⟩
  refine wpList_load_mid rfl 23 (.tmp 31) rfl w.heap.size (32) (by rfl) (hcells b) _ hm1 Tryd.underlying23 rfl (size32l _ hb) ?_
  simp only [Act.put, List.setIfInBounds_toArray, List.set_cons_zero, List.set_cons_succ]
  unfold hcells
  go_wp2_with fail
  change Calls _ _ #[sumV b, _, _, _] _ _
  refine (refBoth_sls b hb m n _ f hfl (by omega) _ hF).mono ?_; rw [← HQ.out]; rintro e v9 ⟨rfl, e8⟩
  replace hX := Blk.below hX e8 (Blk.lt hX)
  replace hM := Blk.below hM e8 (Blk.lt hM)
  replace hF := hF.ext e8
  replace hA := Blk.below hA e8 (Blk.lt hA)
  replace hE := hE.trans e8
  replace c0 : v9.cell? ⟨w.heap.size + 1, 0, none⟩ = some (.int .i64 m) := Blk.cell hM 0
  replace c1 : v9.cell? ⟨w.heap.size + 1, 1, none⟩ = some (.int .i64 n) := Blk.cell hM 1
  replace hm0 : v9.rangeAt w.heap.size 0 (hcells a) := blk_mid hX hall 0 (by simp)
  replace hm1 : v9.rangeAt w.heap.size 32 (hcells b) := blk_mid hX hall 1 (by simp)
  replace hm2 : v9.rangeAt w.heap.size 64 (hcells c) := blk_mid hX hall 2 (by simp)
  clear e8
  unfold sumV
  go_wp2_with (refine stop_store 23 (.tmp 11) (.tmp 39) rfl ?_)
  refine ⟨?_⟩
  change wpList _ _ _ _ _ (twoW v9)
  refine wpList_store_row rfl 23 (.tmp 11) (.tmp 39) rfl v9.heap.size ((y).map byteV).toArray (by rfl) (by rfl) 23 _ (twoW_facts v9).1 (size32.trans (by simp [hy])) (by simp [hy, zerosB]) (by simp [byteV, Value.oneCell']) ?_
  simp only [Act.put, List.setIfInBounds_toArray, List.set_cons_zero, List.set_cons_succ]
  obtain ⟨hY, hZ0, hZ, e11⟩ := two_rows v9 y z
  go_wp2_with (refine stop_store 23 (.tmp 12) (.tmp 40) rfl ?_)
  refine ⟨?_⟩
  refine wpList_store_row rfl 23 (.tmp 12) (.tmp 40) rfl (v9.heap.size + 1) ((z).map byteV).toArray (by rfl) (by rfl) 23 _ hZ0 (size32.trans (by simp [hz])) (by simp [hz, zerosB]) (by simp [byteV, Value.oneCell']) ?_
  simp only [Act.put, List.setIfInBounds_toArray, List.set_cons_zero, List.set_cons_succ]
  clear hZ0
  obtain ⟨g12, g12e⟩ : ∃ g12, g12 = v9.heap.size := ⟨_, rfl⟩
  rw [← g12e] at hY hZ e11 ⊢
  generalize ((twoW v9).setRow g12 ((y).map byteV).toArray).setRow (g12 + 1) ((z).map byteV).toArray = v10 at *
  replace hX := Blk.below hX e11 (Blk.lt hX)
  replace hM := Blk.below hM e11 (Blk.lt hM)
  replace hF := hF.ext e11
  replace hA := Blk.below hA e11 (Blk.lt hA)
  replace hE := hE.trans e11
  replace c0 : v10.cell? ⟨w.heap.size + 1, 0, none⟩ = some (.int .i64 m) := Blk.cell hM 0
  replace c1 : v10.cell? ⟨w.heap.size + 1, 1, none⟩ = some (.int .i64 n) := Blk.cell hM 1
  replace hm0 : v10.rangeAt w.heap.size 0 (hcells a) := blk_mid hX hall 0 (by simp)
  replace hm1 : v10.rangeAt w.heap.size 32 (hcells b) := blk_mid hX hall 1 (by simp)
  replace hm2 : v10.rangeAt w.heap.size 64 (hcells c) := blk_mid hX hall 2 (by simp)
  clear e11
  clear g12e
  go_wp2_with (refine stop_load 23 (.tmp 42) rfl ?_)
  refine ⟨?_⟩
  refine wpList_load_mid rfl 23 (.tmp 42) rfl w.heap.size (0) (by rfl) (hcells a) _ hm0 Tryd.underlying23 rfl (size32l _ ha) ?_
  simp only [Act.put, List.setIfInBounds_toArray, List.set_cons_zero, List.set_cons_succ]
  unfold hcells
  go_wp2_with (refine stop_load 23 (.tmp 44) rfl ?_)
  refine ⟨?_⟩
  refine wpList_load_mid rfl 23 (.tmp 44) rfl w.heap.size (32) (by rfl) (hcells b) _ hm1 Tryd.underlying23 rfl (size32l _ hb) ?_
  simp only [Act.put, List.setIfInBounds_toArray, List.set_cons_zero, List.set_cons_succ]
  unfold hcells
  go_wp2_with fail
  change Calls _ _ #[sumV a, sumV b, _, _, _] _ _
  refine (Right_sls a b ha hb m n hn.2 _ f hfl (by omega) _ (KW.ext hE) hF).mono ?_; rw [HR1.out]; rintro e v14 ⟨rfl, e13⟩
  replace hX := Blk.below hX e13 (Blk.lt hX)
  replace hM := Blk.below hM e13 (Blk.lt hM)
  replace hF := hF.ext e13
  replace hA := Blk.below hA e13 (Blk.lt hA)
  replace hY := Blk.below hY e13 (Blk.lt hY)
  replace hZ := Blk.below hZ e13 (Blk.lt hZ)
  replace hE := hE.trans e13
  replace c0 : v14.cell? ⟨w.heap.size + 1, 0, none⟩ = some (.int .i64 m) := Blk.cell hM 0
  replace c1 : v14.cell? ⟨w.heap.size + 1, 1, none⟩ = some (.int .i64 n) := Blk.cell hM 1
  replace hm0 : v14.rangeAt w.heap.size 0 (hcells a) := blk_mid hX hall 0 (by simp)
  replace hm1 : v14.rangeAt w.heap.size 32 (hcells b) := blk_mid hX hall 1 (by simp)
  replace hm2 : v14.rangeAt w.heap.size 64 (hcells c) := blk_mid hX hall 2 (by simp)
  clear e13
  cases k
  · cases i
    · skip
      go_wp2_with (refine stop_dst 61 rfl ?_)
      refine ⟨?_⟩
      refine list_want (by rfl) (fun K hK => ?_)
      refine wp_load_row 23 (.tmp 9) rfl g7 (by rfl) 23 _ (0, 0) _ hA Tryd.underlying23 rfl (size32.trans (by simp [hp])) ?_
      refine hK _ _ ?_; clear hK K
      simp only [Act.put, List.setIfInBounds_toArray, List.set_cons_zero, List.set_cons_succ]
      go_wp2_with (refine stop_load 23 (.tmp 62) rfl ?_)
      refine ⟨?_⟩
      refine list_want (by rfl) (fun K hK => ?_)
      refine wp_load_mid 23 (.tmp 62) rfl w.heap.size (32) (by rfl) (hcells b) _ hm1 Tryd.underlying23 rfl (size32l _ hb) ?_
      refine hK _ _ ?_; clear hK K
      simp only [Act.put, List.setIfInBounds_toArray, List.set_cons_zero, List.set_cons_succ]
      unfold hcells
      go_wp2_with fail
      change Calls _ _ #[sumV p, sumV b, _, _, _] _ _
      refine (Right_sls p b hp hb m n hn.2 _ f hfl (by omega) _ (KW.ext hE) hF).mono ?_; rw [HR2.out]; rintro e v16 ⟨rfl, e15⟩
      replace hX := Blk.below hX e15 (Blk.lt hX)
      replace hM := Blk.below hM e15 (Blk.lt hM)
      replace hF := hF.ext e15
      replace hA := Blk.below hA e15 (Blk.lt hA)
      replace hY := Blk.below hY e15 (Blk.lt hY)
      replace hZ := Blk.below hZ e15 (Blk.lt hZ)
      replace hE := hE.trans e15
      replace c0 : v16.cell? ⟨w.heap.size + 1, 0, none⟩ = some (.int .i64 m) := Blk.cell hM 0
      replace c1 : v16.cell? ⟨w.heap.size + 1, 1, none⟩ = some (.int .i64 n) := Blk.cell hM 1
      replace hm0 : v16.rangeAt w.heap.size 0 (hcells a) := blk_mid hX hall 0 (by simp)
      replace hm1 : v16.rangeAt w.heap.size 32 (hcells b) := blk_mid hX hall 1 (by simp)
      replace hm2 : v16.rangeAt w.heap.size 64 (hcells c) := blk_mid hX hall 2 (by simp)
      clear e15
      go_wp2_with fail
      have q0 : ∀ x : Held (fun _ => True) v16, (heldW _ v16 x).cell? ⟨w.heap.size + 1, 0, none⟩ = some (.int .i64 m) := fun x => (World.cell?_of_block ((heldW_keep x).block _ (Blk.lt hM) trivial)).trans c0
      have q1 : ∀ x : Held (fun _ => True) v16, (heldW _ v16 x).cell? ⟨w.heap.size + 1, 1, none⟩ = some (.int .i64 n) := fun x => (World.cell?_of_block ((heldW_keep x).block _ (Blk.lt hM) trivial)).trans c1
      refine region_keep0 (fun _ => True) (by kernel_rfl) (by kernel_rfl) ?_
      have K0 : Ext v16 v16.drew := (Ext.refl v16).drew
      iterate 1 (first | (refine mix_quiet (by rfl) (by rfl) (fun K hK => ?_); go_big_quiet_op; refine hK _ ?_; clear hK K) | (refine mix_skip (by rfl) ?_; simp only [Act.put, List.setIfInBounds_toArray, List.set_cons_zero, List.set_cons_succ]))
      refine held_mid (by rfl) (by rfl) 23 (.tmp 73) rfl w.heap.size 32 (by rfl) (hcells b) _ hm1 (Blk.lt hX) trivial Tryd.underlying23 rfl (size32l _ hb) ?_
      simp only [Act.put, List.setIfInBounds_toArray, List.set_cons_zero, List.set_cons_succ]
      iterate 3 (first | (refine mix_quiet (by rfl) (by rfl) (fun K hK => ?_); go_big_quiet_op; refine hK _ ?_; clear hK K) | (refine mix_skip (by rfl) ?_; simp only [Act.put, List.setIfInBounds_toArray, List.set_cons_zero, List.set_cons_succ]))
      refine held_mid (by rfl) (by rfl) 23 (.tmp 77) rfl w.heap.size 64 (by rfl) (hcells c) _ hm2 (Blk.lt hX) trivial Tryd.underlying23 rfl (size32l _ hc) ?_
      simp only [Act.put, List.setIfInBounds_toArray, List.set_cons_zero, List.set_cons_succ]
      iterate 3 (first | (refine mix_quiet (by rfl) (by rfl) (fun K hK => ?_); go_big_quiet_op; refine hK _ ?_; clear hK K) | (refine mix_skip (by rfl) ?_; simp only [Act.put, List.setIfInBounds_toArray, List.set_cons_zero, List.set_cons_succ]))
      try unfold hcells
      (refine mix_loud (by rfl) (by rfl) (fun K E hK => ?_); go_big_op)
      change Calls _ _ #[sumV b, _, sumV c, _, _] _ _
      refine (Goes_sls b c hb hc m n hn.2 _ f hfl (by omega) _ (KW.ext (hE.trans K0)) (hF.ext K0)).mono ?_; rw [← HG1.out]; rintro e u1 ⟨rfl, K1⟩
      have K1 := K0.trans K1
      refine hK _ _ (held_of (Keep.of_ext K1)) ?_; clear hK K E
      iterate 1 (first | (refine mix_quiet (by rfl) (by rfl) (fun K hK => ?_); go_big_quiet_op; refine hK _ ?_; clear hK K) | (refine mix_skip (by rfl) ?_; simp only [Act.put, List.setIfInBounds_toArray, List.set_cons_zero, List.set_cons_succ]))
      refine held_mid (by rfl) (by rfl) 23 (.tmp 83) rfl w.heap.size 32 (by rfl) (hcells b) _ hm1 (Blk.lt hX) trivial Tryd.underlying23 rfl (size32l _ hb) ?_
      simp only [Act.put, List.setIfInBounds_toArray, List.set_cons_zero, List.set_cons_succ]
      iterate 3 (first | (refine mix_quiet (by rfl) (by rfl) (fun K hK => ?_); go_big_quiet_op; refine hK _ ?_; clear hK K) | (refine mix_skip (by rfl) ?_; simp only [Act.put, List.setIfInBounds_toArray, List.set_cons_zero, List.set_cons_succ]))
      refine held_mid (by rfl) (by rfl) 23 (.tmp 87) rfl w.heap.size 64 (by rfl) (hcells c) _ hm2 (Blk.lt hX) trivial Tryd.underlying23 rfl (size32l _ hc) ?_
      simp only [Act.put, List.setIfInBounds_toArray, List.set_cons_zero, List.set_cons_succ]
      iterate 3 (first | (refine mix_quiet (by rfl) (by rfl) (fun K hK => ?_); go_big_quiet_op; refine hK _ ?_; clear hK K) | (refine mix_skip (by rfl) ?_; simp only [Act.put, List.setIfInBounds_toArray, List.set_cons_zero, List.set_cons_succ]))
      try unfold hcells
      (refine mix_loud (by rfl) (by rfl) (fun K E hK => ?_); go_big_op)
      change Calls _ _ #[sumV b, _, sumV c, _, _] _ _
      refine (refGoes_sls b c hb hc m n _ f hfl (by omega) _ (hF.ext K1)).mono ?_; rw [← HG1.out]; rintro e u2 ⟨rfl, K2⟩
      have K2 := K1.trans K2
      refine hK _ _ (held_of (Keep.of_ext K2)) ?_; clear hK K E
      repeat (first | (refine mix_quiet (by rfl) (by rfl) (fun K hK => ?_); go_big_quiet_op; refine hK _ ?_; clear hK K) | (refine mix_skip (by rfl) ?_; simp only [Act.put, List.setIfInBounds_toArray, List.set_cons_zero, List.set_cons_succ]))
      refine mix_nil ?_
      have hE := hE.trans K2
      go_wp2_with fail
      go_ret
      exact ⟨rfl, hE⟩
    · cases d
      · skip
        dsimp only [Bool.and_true, Bool.true_and, Bool.and_false]
        go_wp2_with (refine stop_load 23 (.tmp 9) rfl ?_)
        refine ⟨?_⟩
        refine list_want (by rfl) (fun K hK => ?_)
        refine wp_load_row 23 (.tmp 9) rfl g7 (by rfl) 23 _ (0, 0) _ hA Tryd.underlying23 rfl (size32.trans (by simp [hp])) ?_
        refine hK _ _ ?_; clear hK K
        simp only [Act.put, List.setIfInBounds_toArray, List.set_cons_zero, List.set_cons_succ]
        go_wp2_with (refine stop_load 23 (.tmp 55) rfl ?_)
        refine ⟨?_⟩
        refine list_want (by rfl) (fun K hK => ?_)
        refine wp_load_mid 23 (.tmp 55) rfl w.heap.size (0) (by rfl) (hcells a) _ hm0 Tryd.underlying23 rfl (size32l _ ha) ?_
        refine hK _ _ ?_; clear hK K
        simp only [Act.put, List.setIfInBounds_toArray, List.set_cons_zero, List.set_cons_succ]
        unfold hcells
        go_wp2_with (refine stop_dst 61 rfl ?_)
        refine ⟨?_⟩
        refine list_want (by rfl) (fun K hK => ?_)
        refine wp_load_row 23 (.tmp 9) rfl g7 (by rfl) 23 _ (0, 0) _ hA Tryd.underlying23 rfl (size32.trans (by simp [hp])) ?_
        refine hK _ _ ?_; clear hK K
        simp only [Act.put, List.setIfInBounds_toArray, List.set_cons_zero, List.set_cons_succ]
        go_wp2_with (refine stop_load 23 (.tmp 62) rfl ?_)
        refine ⟨?_⟩
        refine list_want (by rfl) (fun K hK => ?_)
        refine wp_load_mid 23 (.tmp 62) rfl w.heap.size (32) (by rfl) (hcells b) _ hm1 Tryd.underlying23 rfl (size32l _ hb) ?_
        refine hK _ _ ?_; clear hK K
        simp only [Act.put, List.setIfInBounds_toArray, List.set_cons_zero, List.set_cons_succ]
        unfold hcells
        go_wp2_with fail
        change Calls _ _ #[sumV p, sumV b, _, _, _] _ _
        refine (Right_sls p b hp hb m n hn.2 _ f hfl (by omega) _ (KW.ext hE) hF).mono ?_; rw [HR2.out]; rintro e v16 ⟨rfl, e15⟩
        replace hX := Blk.below hX e15 (Blk.lt hX)
        replace hM := Blk.below hM e15 (Blk.lt hM)
        replace hF := hF.ext e15
        replace hA := Blk.below hA e15 (Blk.lt hA)
        replace hY := Blk.below hY e15 (Blk.lt hY)
        replace hZ := Blk.below hZ e15 (Blk.lt hZ)
        replace hE := hE.trans e15
        replace c0 : v16.cell? ⟨w.heap.size + 1, 0, none⟩ = some (.int .i64 m) := Blk.cell hM 0
        replace c1 : v16.cell? ⟨w.heap.size + 1, 1, none⟩ = some (.int .i64 n) := Blk.cell hM 1
        replace hm0 : v16.rangeAt w.heap.size 0 (hcells a) := blk_mid hX hall 0 (by simp)
        replace hm1 : v16.rangeAt w.heap.size 32 (hcells b) := blk_mid hX hall 1 (by simp)
        replace hm2 : v16.rangeAt w.heap.size 64 (hcells c) := blk_mid hX hall 2 (by simp)
        clear e15
        go_wp2_with fail
        have q0 : ∀ x : Held (fun _ => True) v16, (heldW _ v16 x).cell? ⟨w.heap.size + 1, 0, none⟩ = some (.int .i64 m) := fun x => (World.cell?_of_block ((heldW_keep x).block _ (Blk.lt hM) trivial)).trans c0
        have q1 : ∀ x : Held (fun _ => True) v16, (heldW _ v16 x).cell? ⟨w.heap.size + 1, 1, none⟩ = some (.int .i64 n) := fun x => (World.cell?_of_block ((heldW_keep x).block _ (Blk.lt hM) trivial)).trans c1
        refine region_keep0 (fun _ => True) (by kernel_rfl) (by kernel_rfl) ?_
        have K0 : Ext v16 v16.drew := (Ext.refl v16).drew
        iterate 1 (first | (refine mix_quiet (by rfl) (by rfl) (fun K hK => ?_); go_big_quiet_op; refine hK _ ?_; clear hK K) | (refine mix_skip (by rfl) ?_; simp only [Act.put, List.setIfInBounds_toArray, List.set_cons_zero, List.set_cons_succ]))
        refine held_mid (by rfl) (by rfl) 23 (.tmp 73) rfl w.heap.size 32 (by rfl) (hcells b) _ hm1 (Blk.lt hX) trivial Tryd.underlying23 rfl (size32l _ hb) ?_
        simp only [Act.put, List.setIfInBounds_toArray, List.set_cons_zero, List.set_cons_succ]
        iterate 3 (first | (refine mix_quiet (by rfl) (by rfl) (fun K hK => ?_); go_big_quiet_op; refine hK _ ?_; clear hK K) | (refine mix_skip (by rfl) ?_; simp only [Act.put, List.setIfInBounds_toArray, List.set_cons_zero, List.set_cons_succ]))
        refine held_mid (by rfl) (by rfl) 23 (.tmp 77) rfl w.heap.size 64 (by rfl) (hcells c) _ hm2 (Blk.lt hX) trivial Tryd.underlying23 rfl (size32l _ hc) ?_
        simp only [Act.put, List.setIfInBounds_toArray, List.set_cons_zero, List.set_cons_succ]
        iterate 3 (first | (refine mix_quiet (by rfl) (by rfl) (fun K hK => ?_); go_big_quiet_op; refine hK _ ?_; clear hK K) | (refine mix_skip (by rfl) ?_; simp only [Act.put, List.setIfInBounds_toArray, List.set_cons_zero, List.set_cons_succ]))
        try unfold hcells
        (refine mix_loud (by rfl) (by rfl) (fun K E hK => ?_); go_big_op)
        change Calls _ _ #[sumV b, _, sumV c, _, _] _ _
        refine (Goes_sls b c hb hc m n hn.2 _ f hfl (by omega) _ (KW.ext (hE.trans K0)) (hF.ext K0)).mono ?_; rw [← HG1.out]; rintro e u1 ⟨rfl, K1⟩
        have K1 := K0.trans K1
        refine hK _ _ (held_of (Keep.of_ext K1)) ?_; clear hK K E
        iterate 1 (first | (refine mix_quiet (by rfl) (by rfl) (fun K hK => ?_); go_big_quiet_op; refine hK _ ?_; clear hK K) | (refine mix_skip (by rfl) ?_; simp only [Act.put, List.setIfInBounds_toArray, List.set_cons_zero, List.set_cons_succ]))
        refine held_mid (by rfl) (by rfl) 23 (.tmp 83) rfl w.heap.size 32 (by rfl) (hcells b) _ hm1 (Blk.lt hX) trivial Tryd.underlying23 rfl (size32l _ hb) ?_
        simp only [Act.put, List.setIfInBounds_toArray, List.set_cons_zero, List.set_cons_succ]
        iterate 3 (first | (refine mix_quiet (by rfl) (by rfl) (fun K hK => ?_); go_big_quiet_op; refine hK _ ?_; clear hK K) | (refine mix_skip (by rfl) ?_; simp only [Act.put, List.setIfInBounds_toArray, List.set_cons_zero, List.set_cons_succ]))
        refine held_mid (by rfl) (by rfl) 23 (.tmp 87) rfl w.heap.size 64 (by rfl) (hcells c) _ hm2 (Blk.lt hX) trivial Tryd.underlying23 rfl (size32l _ hc) ?_
        simp only [Act.put, List.setIfInBounds_toArray, List.set_cons_zero, List.set_cons_succ]
        iterate 3 (first | (refine mix_quiet (by rfl) (by rfl) (fun K hK => ?_); go_big_quiet_op; refine hK _ ?_; clear hK K) | (refine mix_skip (by rfl) ?_; simp only [Act.put, List.setIfInBounds_toArray, List.set_cons_zero, List.set_cons_succ]))
        try unfold hcells
        (refine mix_loud (by rfl) (by rfl) (fun K E hK => ?_); go_big_op)
        change Calls _ _ #[sumV b, _, sumV c, _, _] _ _
        refine (refGoes_sls b c hb hc m n _ f hfl (by omega) _ (hF.ext K1)).mono ?_; rw [← HG1.out]; rintro e u2 ⟨rfl, K2⟩
        have K2 := K1.trans K2
        refine hK _ _ (held_of (Keep.of_ext K2)) ?_; clear hK K E
        repeat (first | (refine mix_quiet (by rfl) (by rfl) (fun K hK => ?_); go_big_quiet_op; refine hK _ ?_; clear hK K) | (refine mix_skip (by rfl) ?_; simp only [Act.put, List.setIfInBounds_toArray, List.set_cons_zero, List.set_cons_succ]))
        refine mix_nil ?_
        have hE := hE.trans K2
        go_wp2_with fail
        go_ret
        exact ⟨rfl, hE⟩
      · skip
        dsimp only [Bool.and_true, Bool.true_and, Bool.and_false]
        go_wp2_with (refine stop_load 23 (.tmp 9) rfl ?_)
        refine ⟨?_⟩
        refine list_want (by rfl) (fun K hK => ?_)
        refine wp_load_row 23 (.tmp 9) rfl g7 (by rfl) 23 _ (0, 0) _ hA Tryd.underlying23 rfl (size32.trans (by simp [hp])) ?_
        refine hK _ _ ?_; clear hK K
        simp only [Act.put, List.setIfInBounds_toArray, List.set_cons_zero, List.set_cons_succ]
        go_wp2_with (refine stop_load 23 (.tmp 55) rfl ?_)
        refine ⟨?_⟩
        refine list_want (by rfl) (fun K hK => ?_)
        refine wp_load_mid 23 (.tmp 55) rfl w.heap.size (0) (by rfl) (hcells a) _ hm0 Tryd.underlying23 rfl (size32l _ ha) ?_
        refine hK _ _ ?_; clear hK K
        simp only [Act.put, List.setIfInBounds_toArray, List.set_cons_zero, List.set_cons_succ]
        unfold hcells
        go_wp2_with (refine stop_dst 61 rfl ?_)
        refine ⟨?_⟩
        refine list_want (by rfl) (fun K hK => ?_)
        refine wp_load_row 23 (.tmp 9) rfl g7 (by rfl) 23 _ (0, 0) _ hA Tryd.underlying23 rfl (size32.trans (by simp [hp])) ?_
        refine hK _ _ ?_; clear hK K
        simp only [Act.put, List.setIfInBounds_toArray, List.set_cons_zero, List.set_cons_succ]
        go_wp2_with (refine stop_load 23 (.tmp 62) rfl ?_)
        refine ⟨?_⟩
        refine list_want (by rfl) (fun K hK => ?_)
        refine wp_load_mid 23 (.tmp 62) rfl w.heap.size (32) (by rfl) (hcells b) _ hm1 Tryd.underlying23 rfl (size32l _ hb) ?_
        refine hK _ _ ?_; clear hK K
        simp only [Act.put, List.setIfInBounds_toArray, List.set_cons_zero, List.set_cons_succ]
        unfold hcells
        go_wp2_with fail
        change Calls _ _ #[sumV p, sumV b, _, _, _] _ _
        refine (Right_sls p b hp hb m n hn.2 _ f hfl (by omega) _ (KW.ext hE) hF).mono ?_; rw [HR2.out]; rintro e v16 ⟨rfl, e15⟩
        replace hX := Blk.below hX e15 (Blk.lt hX)
        replace hM := Blk.below hM e15 (Blk.lt hM)
        replace hF := hF.ext e15
        replace hA := Blk.below hA e15 (Blk.lt hA)
        replace hY := Blk.below hY e15 (Blk.lt hY)
        replace hZ := Blk.below hZ e15 (Blk.lt hZ)
        replace hE := hE.trans e15
        replace c0 : v16.cell? ⟨w.heap.size + 1, 0, none⟩ = some (.int .i64 m) := Blk.cell hM 0
        replace c1 : v16.cell? ⟨w.heap.size + 1, 1, none⟩ = some (.int .i64 n) := Blk.cell hM 1
        replace hm0 : v16.rangeAt w.heap.size 0 (hcells a) := blk_mid hX hall 0 (by simp)
        replace hm1 : v16.rangeAt w.heap.size 32 (hcells b) := blk_mid hX hall 1 (by simp)
        replace hm2 : v16.rangeAt w.heap.size 64 (hcells c) := blk_mid hX hall 2 (by simp)
        clear e15
        go_wp2_with fail
        have q0 : ∀ x : Held (fun _ => True) v16, (heldW _ v16 x).cell? ⟨w.heap.size + 1, 0, none⟩ = some (.int .i64 m) := fun x => (World.cell?_of_block ((heldW_keep x).block _ (Blk.lt hM) trivial)).trans c0
        have q1 : ∀ x : Held (fun _ => True) v16, (heldW _ v16 x).cell? ⟨w.heap.size + 1, 1, none⟩ = some (.int .i64 n) := fun x => (World.cell?_of_block ((heldW_keep x).block _ (Blk.lt hM) trivial)).trans c1
        refine region_keep0 (fun _ => True) (by kernel_rfl) (by kernel_rfl) ?_
        have K0 : Ext v16 v16.drew := (Ext.refl v16).drew
        iterate 1 (first | (refine mix_quiet (by rfl) (by rfl) (fun K hK => ?_); go_big_quiet_op; refine hK _ ?_; clear hK K) | (refine mix_skip (by rfl) ?_; simp only [Act.put, List.setIfInBounds_toArray, List.set_cons_zero, List.set_cons_succ]))
        refine held_mid (by rfl) (by rfl) 23 (.tmp 73) rfl w.heap.size 32 (by rfl) (hcells b) _ hm1 (Blk.lt hX) trivial Tryd.underlying23 rfl (size32l _ hb) ?_
        simp only [Act.put, List.setIfInBounds_toArray, List.set_cons_zero, List.set_cons_succ]
        iterate 3 (first | (refine mix_quiet (by rfl) (by rfl) (fun K hK => ?_); go_big_quiet_op; refine hK _ ?_; clear hK K) | (refine mix_skip (by rfl) ?_; simp only [Act.put, List.setIfInBounds_toArray, List.set_cons_zero, List.set_cons_succ]))
        refine held_mid (by rfl) (by rfl) 23 (.tmp 77) rfl w.heap.size 64 (by rfl) (hcells c) _ hm2 (Blk.lt hX) trivial Tryd.underlying23 rfl (size32l _ hc) ?_
        simp only [Act.put, List.setIfInBounds_toArray, List.set_cons_zero, List.set_cons_succ]
        iterate 3 (first | (refine mix_quiet (by rfl) (by rfl) (fun K hK => ?_); go_big_quiet_op; refine hK _ ?_; clear hK K) | (refine mix_skip (by rfl) ?_; simp only [Act.put, List.setIfInBounds_toArray, List.set_cons_zero, List.set_cons_succ]))
        try unfold hcells
        (refine mix_loud (by rfl) (by rfl) (fun K E hK => ?_); go_big_op)
        change Calls _ _ #[sumV b, _, sumV c, _, _] _ _
        refine (Goes_sls b c hb hc m n hn.2 _ f hfl (by omega) _ (KW.ext (hE.trans K0)) (hF.ext K0)).mono ?_; rw [← HG1.out]; rintro e u1 ⟨rfl, K1⟩
        have K1 := K0.trans K1
        refine hK _ _ (held_of (Keep.of_ext K1)) ?_; clear hK K E
        iterate 1 (first | (refine mix_quiet (by rfl) (by rfl) (fun K hK => ?_); go_big_quiet_op; refine hK _ ?_; clear hK K) | (refine mix_skip (by rfl) ?_; simp only [Act.put, List.setIfInBounds_toArray, List.set_cons_zero, List.set_cons_succ]))
        refine held_mid (by rfl) (by rfl) 23 (.tmp 83) rfl w.heap.size 32 (by rfl) (hcells b) _ hm1 (Blk.lt hX) trivial Tryd.underlying23 rfl (size32l _ hb) ?_
        simp only [Act.put, List.setIfInBounds_toArray, List.set_cons_zero, List.set_cons_succ]
        iterate 3 (first | (refine mix_quiet (by rfl) (by rfl) (fun K hK => ?_); go_big_quiet_op; refine hK _ ?_; clear hK K) | (refine mix_skip (by rfl) ?_; simp only [Act.put, List.setIfInBounds_toArray, List.set_cons_zero, List.set_cons_succ]))
        refine held_mid (by rfl) (by rfl) 23 (.tmp 87) rfl w.heap.size 64 (by rfl) (hcells c) _ hm2 (Blk.lt hX) trivial Tryd.underlying23 rfl (size32l _ hc) ?_
        simp only [Act.put, List.setIfInBounds_toArray, List.set_cons_zero, List.set_cons_succ]
        iterate 3 (first | (refine mix_quiet (by rfl) (by rfl) (fun K hK => ?_); go_big_quiet_op; refine hK _ ?_; clear hK K) | (refine mix_skip (by rfl) ?_; simp only [Act.put, List.setIfInBounds_toArray, List.set_cons_zero, List.set_cons_succ]))
        try unfold hcells
        (refine mix_loud (by rfl) (by rfl) (fun K E hK => ?_); go_big_op)
        change Calls _ _ #[sumV b, _, sumV c, _, _] _ _
        refine (refGoes_sls b c hb hc m n _ f hfl (by omega) _ (hF.ext K1)).mono ?_; rw [← HG1.out]; rintro e u2 ⟨rfl, K2⟩
        have K2 := K1.trans K2
        refine hK _ _ (held_of (Keep.of_ext K2)) ?_; clear hK K E
        repeat (first | (refine mix_quiet (by rfl) (by rfl) (fun K hK => ?_); go_big_quiet_op; refine hK _ ?_; clear hK K) | (refine mix_skip (by rfl) ?_; simp only [Act.put, List.setIfInBounds_toArray, List.set_cons_zero, List.set_cons_succ]))
        refine mix_nil ?_
        have hE := hE.trans K2
        go_wp2_with fail
        go_ret
        exact ⟨rfl, hE⟩
  · cases i
    · skip
      go_wp2_with (refine stop_dst 61 rfl ?_)
      refine ⟨?_⟩
      refine list_want (by rfl) (fun K hK => ?_)
      refine wp_load_row 23 (.tmp 9) rfl g7 (by rfl) 23 _ (0, 0) _ hA Tryd.underlying23 rfl (size32.trans (by simp [hp])) ?_
      refine hK _ _ ?_; clear hK K
      simp only [Act.put, List.setIfInBounds_toArray, List.set_cons_zero, List.set_cons_succ]
      go_wp2_with (refine stop_load 23 (.tmp 62) rfl ?_)
      refine ⟨?_⟩
      refine list_want (by rfl) (fun K hK => ?_)
      refine wp_load_mid 23 (.tmp 62) rfl w.heap.size (32) (by rfl) (hcells b) _ hm1 Tryd.underlying23 rfl (size32l _ hb) ?_
      refine hK _ _ ?_; clear hK K
      simp only [Act.put, List.setIfInBounds_toArray, List.set_cons_zero, List.set_cons_succ]
      unfold hcells
      go_wp2_with fail
      change Calls _ _ #[sumV p, sumV b, _, _, _] _ _
      refine (Right_sls p b hp hb m n hn.2 _ f hfl (by omega) _ (KW.ext hE) hF).mono ?_; rw [HR2.out]; rintro e v16 ⟨rfl, e15⟩
      replace hX := Blk.below hX e15 (Blk.lt hX)
      replace hM := Blk.below hM e15 (Blk.lt hM)
      replace hF := hF.ext e15
      replace hA := Blk.below hA e15 (Blk.lt hA)
      replace hY := Blk.below hY e15 (Blk.lt hY)
      replace hZ := Blk.below hZ e15 (Blk.lt hZ)
      replace hE := hE.trans e15
      replace c0 : v16.cell? ⟨w.heap.size + 1, 0, none⟩ = some (.int .i64 m) := Blk.cell hM 0
      replace c1 : v16.cell? ⟨w.heap.size + 1, 1, none⟩ = some (.int .i64 n) := Blk.cell hM 1
      replace hm0 : v16.rangeAt w.heap.size 0 (hcells a) := blk_mid hX hall 0 (by simp)
      replace hm1 : v16.rangeAt w.heap.size 32 (hcells b) := blk_mid hX hall 1 (by simp)
      replace hm2 : v16.rangeAt w.heap.size 64 (hcells c) := blk_mid hX hall 2 (by simp)
      clear e15
      go_wp2_with fail
      have q0 : ∀ x : Held (fun _ => True) v16, (heldW _ v16 x).cell? ⟨w.heap.size + 1, 0, none⟩ = some (.int .i64 m) := fun x => (World.cell?_of_block ((heldW_keep x).block _ (Blk.lt hM) trivial)).trans c0
      have q1 : ∀ x : Held (fun _ => True) v16, (heldW _ v16 x).cell? ⟨w.heap.size + 1, 1, none⟩ = some (.int .i64 n) := fun x => (World.cell?_of_block ((heldW_keep x).block _ (Blk.lt hM) trivial)).trans c1
      refine region_keep0 (fun _ => True) (by kernel_rfl) (by kernel_rfl) ?_
      have K0 : Ext v16 v16.drew := (Ext.refl v16).drew
      iterate 1 (first | (refine mix_quiet (by rfl) (by rfl) (fun K hK => ?_); go_big_quiet_op; refine hK _ ?_; clear hK K) | (refine mix_skip (by rfl) ?_; simp only [Act.put, List.setIfInBounds_toArray, List.set_cons_zero, List.set_cons_succ]))
      refine held_mid (by rfl) (by rfl) 23 (.tmp 73) rfl w.heap.size 32 (by rfl) (hcells b) _ hm1 (Blk.lt hX) trivial Tryd.underlying23 rfl (size32l _ hb) ?_
      simp only [Act.put, List.setIfInBounds_toArray, List.set_cons_zero, List.set_cons_succ]
      iterate 3 (first | (refine mix_quiet (by rfl) (by rfl) (fun K hK => ?_); go_big_quiet_op; refine hK _ ?_; clear hK K) | (refine mix_skip (by rfl) ?_; simp only [Act.put, List.setIfInBounds_toArray, List.set_cons_zero, List.set_cons_succ]))
      refine held_mid (by rfl) (by rfl) 23 (.tmp 77) rfl w.heap.size 64 (by rfl) (hcells c) _ hm2 (Blk.lt hX) trivial Tryd.underlying23 rfl (size32l _ hc) ?_
      simp only [Act.put, List.setIfInBounds_toArray, List.set_cons_zero, List.set_cons_succ]
      iterate 3 (first | (refine mix_quiet (by rfl) (by rfl) (fun K hK => ?_); go_big_quiet_op; refine hK _ ?_; clear hK K) | (refine mix_skip (by rfl) ?_; simp only [Act.put, List.setIfInBounds_toArray, List.set_cons_zero, List.set_cons_succ]))
      try unfold hcells
      (refine mix_loud (by rfl) (by rfl) (fun K E hK => ?_); go_big_op)
      change Calls _ _ #[sumV b, _, sumV c, _, _] _ _
      refine (Goes_sls b c hb hc m n hn.2 _ f hfl (by omega) _ (KW.ext (hE.trans K0)) (hF.ext K0)).mono ?_; rw [← HG1.out]; rintro e u1 ⟨rfl, K1⟩
      have K1 := K0.trans K1
      refine hK _ _ (held_of (Keep.of_ext K1)) ?_; clear hK K E
      iterate 1 (first | (refine mix_quiet (by rfl) (by rfl) (fun K hK => ?_); go_big_quiet_op; refine hK _ ?_; clear hK K) | (refine mix_skip (by rfl) ?_; simp only [Act.put, List.setIfInBounds_toArray, List.set_cons_zero, List.set_cons_succ]))
      refine held_mid (by rfl) (by rfl) 23 (.tmp 83) rfl w.heap.size 32 (by rfl) (hcells b) _ hm1 (Blk.lt hX) trivial Tryd.underlying23 rfl (size32l _ hb) ?_
      simp only [Act.put, List.setIfInBounds_toArray, List.set_cons_zero, List.set_cons_succ]
      iterate 3 (first | (refine mix_quiet (by rfl) (by rfl) (fun K hK => ?_); go_big_quiet_op; refine hK _ ?_; clear hK K) | (refine mix_skip (by rfl) ?_; simp only [Act.put, List.setIfInBounds_toArray, List.set_cons_zero, List.set_cons_succ]))
      refine held_mid (by rfl) (by rfl) 23 (.tmp 87) rfl w.heap.size 64 (by rfl) (hcells c) _ hm2 (Blk.lt hX) trivial Tryd.underlying23 rfl (size32l _ hc) ?_
      simp only [Act.put, List.setIfInBounds_toArray, List.set_cons_zero, List.set_cons_succ]
      iterate 3 (first | (refine mix_quiet (by rfl) (by rfl) (fun K hK => ?_); go_big_quiet_op; refine hK _ ?_; clear hK K) | (refine mix_skip (by rfl) ?_; simp only [Act.put, List.setIfInBounds_toArray, List.set_cons_zero, List.set_cons_succ]))
      try unfold hcells
      (refine mix_loud (by rfl) (by rfl) (fun K E hK => ?_); go_big_op)
      change Calls _ _ #[sumV b, _, sumV c, _, _] _ _
      refine (refGoes_sls b c hb hc m n _ f hfl (by omega) _ (hF.ext K1)).mono ?_; rw [← HG1.out]; rintro e u2 ⟨rfl, K2⟩
      have K2 := K1.trans K2
      refine hK _ _ (held_of (Keep.of_ext K2)) ?_; clear hK K E
      iterate 6 (first | (refine mix_quiet (by rfl) (by rfl) (fun K hK => ?_); go_big_quiet_op; refine hK _ ?_; clear hK K) | (refine mix_skip (by rfl) ?_; simp only [Act.put, List.setIfInBounds_toArray, List.set_cons_zero, List.set_cons_succ]))
      refine held_mid (by rfl) (by rfl) 23 (.tmp 98) rfl w.heap.size 32 (by rfl) (hcells b) _ hm1 (Blk.lt hX) trivial Tryd.underlying23 rfl (size32l _ hb) ?_
      simp only [Act.put, List.setIfInBounds_toArray, List.set_cons_zero, List.set_cons_succ]
      iterate 2 (first | (refine mix_quiet (by rfl) (by rfl) (fun K hK => ?_); go_big_quiet_op; refine hK _ ?_; clear hK K) | (refine mix_skip (by rfl) ?_; simp only [Act.put, List.setIfInBounds_toArray, List.set_cons_zero, List.set_cons_succ]))
      refine held_row (by rfl) (by rfl) 23 (.tmp 12) rfl (g12 + 1) (by rfl) 23 _ _ hZ trivial Tryd.underlying23 rfl (size32.trans (by simp [hz])) ?_
      simp only [Act.put, List.setIfInBounds_toArray, List.set_cons_zero, List.set_cons_succ]
      iterate 3 (first | (refine mix_quiet (by rfl) (by rfl) (fun K hK => ?_); go_big_quiet_op; refine hK _ ?_; clear hK K) | (refine mix_skip (by rfl) ?_; simp only [Act.put, List.setIfInBounds_toArray, List.set_cons_zero, List.set_cons_succ]))
      try unfold hcells
      (refine mix_loud (by rfl) (by rfl) (fun K E hK => ?_); go_big_op)
      change Calls _ _ #[sumV b, _, sumV z, _, _] _ _
      refine (Goes_sls b z hb hz m n hn.2 _ f hfl (by omega) _ (KW.ext (hE.trans K2)) (hF.ext K2)).mono ?_; rw [← HG2.out]; rintro e u3 ⟨rfl, K3⟩
      have K3 := K2.trans K3
      refine hK _ _ (held_of (Keep.of_ext K3)) ?_; clear hK K E
      iterate 1 (first | (refine mix_quiet (by rfl) (by rfl) (fun K hK => ?_); go_big_quiet_op; refine hK _ ?_; clear hK K) | (refine mix_skip (by rfl) ?_; simp only [Act.put, List.setIfInBounds_toArray, List.set_cons_zero, List.set_cons_succ]))
      refine held_mid (by rfl) (by rfl) 23 (.tmp 107) rfl w.heap.size 32 (by rfl) (hcells b) _ hm1 (Blk.lt hX) trivial Tryd.underlying23 rfl (size32l _ hb) ?_
      simp only [Act.put, List.setIfInBounds_toArray, List.set_cons_zero, List.set_cons_succ]
      iterate 2 (first | (refine mix_quiet (by rfl) (by rfl) (fun K hK => ?_); go_big_quiet_op; refine hK _ ?_; clear hK K) | (refine mix_skip (by rfl) ?_; simp only [Act.put, List.setIfInBounds_toArray, List.set_cons_zero, List.set_cons_succ]))
      refine held_row (by rfl) (by rfl) 23 (.tmp 12) rfl (g12 + 1) (by rfl) 23 _ _ hZ trivial Tryd.underlying23 rfl (size32.trans (by simp [hz])) ?_
      simp only [Act.put, List.setIfInBounds_toArray, List.set_cons_zero, List.set_cons_succ]
      iterate 3 (first | (refine mix_quiet (by rfl) (by rfl) (fun K hK => ?_); go_big_quiet_op; refine hK _ ?_; clear hK K) | (refine mix_skip (by rfl) ?_; simp only [Act.put, List.setIfInBounds_toArray, List.set_cons_zero, List.set_cons_succ]))
      try unfold hcells
      (refine mix_loud (by rfl) (by rfl) (fun K E hK => ?_); go_big_op)
      change Calls _ _ #[sumV b, _, sumV z, _, _] _ _
      refine (refGoes_sls b z hb hz m n _ f hfl (by omega) _ (hF.ext K3)).mono ?_; rw [← HG2.out]; rintro e u4 ⟨rfl, K4⟩
      have K4 := K3.trans K4
      refine hK _ _ (held_of (Keep.of_ext K4)) ?_; clear hK K E
      repeat (first | (refine mix_quiet (by rfl) (by rfl) (fun K hK => ?_); go_big_quiet_op; refine hK _ ?_; clear hK K) | (refine mix_skip (by rfl) ?_; simp only [Act.put, List.setIfInBounds_toArray, List.set_cons_zero, List.set_cons_succ]))
      refine mix_nil ?_
      have hE := hE.trans K4
      go_wp2_with fail
      go_ret
      exact ⟨rfl, hE⟩
    · cases d
      · skip
        dsimp only [Bool.and_true, Bool.true_and, Bool.and_false]
        go_wp2_with (refine stop_load 23 (.tmp 9) rfl ?_)
        refine ⟨?_⟩
        refine list_want (by rfl) (fun K hK => ?_)
        refine wp_load_row 23 (.tmp 9) rfl g7 (by rfl) 23 _ (0, 0) _ hA Tryd.underlying23 rfl (size32.trans (by simp [hp])) ?_
        refine hK _ _ ?_; clear hK K
        simp only [Act.put, List.setIfInBounds_toArray, List.set_cons_zero, List.set_cons_succ]
        go_wp2_with (refine stop_load 23 (.tmp 55) rfl ?_)
        refine ⟨?_⟩
        refine list_want (by rfl) (fun K hK => ?_)
        refine wp_load_mid 23 (.tmp 55) rfl w.heap.size (0) (by rfl) (hcells a) _ hm0 Tryd.underlying23 rfl (size32l _ ha) ?_
        refine hK _ _ ?_; clear hK K
        simp only [Act.put, List.setIfInBounds_toArray, List.set_cons_zero, List.set_cons_succ]
        unfold hcells
        go_wp2_with (refine stop_dst 61 rfl ?_)
        refine ⟨?_⟩
        refine list_want (by rfl) (fun K hK => ?_)
        refine wp_load_row 23 (.tmp 9) rfl g7 (by rfl) 23 _ (0, 0) _ hA Tryd.underlying23 rfl (size32.trans (by simp [hp])) ?_
        refine hK _ _ ?_; clear hK K
        simp only [Act.put, List.setIfInBounds_toArray, List.set_cons_zero, List.set_cons_succ]
        go_wp2_with (refine stop_load 23 (.tmp 62) rfl ?_)
        refine ⟨?_⟩
        refine list_want (by rfl) (fun K hK => ?_)
        refine wp_load_mid 23 (.tmp 62) rfl w.heap.size (32) (by rfl) (hcells b) _ hm1 Tryd.underlying23 rfl (size32l _ hb) ?_
        refine hK _ _ ?_; clear hK K
        simp only [Act.put, List.setIfInBounds_toArray, List.set_cons_zero, List.set_cons_succ]
        unfold hcells
        go_wp2_with fail
        change Calls _ _ #[sumV p, sumV b, _, _, _] _ _
        refine (Right_sls p b hp hb m n hn.2 _ f hfl (by omega) _ (KW.ext hE) hF).mono ?_; rw [HR2.out]; rintro e v16 ⟨rfl, e15⟩
        replace hX := Blk.below hX e15 (Blk.lt hX)
        replace hM := Blk.below hM e15 (Blk.lt hM)
        replace hF := hF.ext e15
        replace hA := Blk.below hA e15 (Blk.lt hA)
        replace hY := Blk.below hY e15 (Blk.lt hY)
        replace hZ := Blk.below hZ e15 (Blk.lt hZ)
        replace hE := hE.trans e15
        replace c0 : v16.cell? ⟨w.heap.size + 1, 0, none⟩ = some (.int .i64 m) := Blk.cell hM 0
        replace c1 : v16.cell? ⟨w.heap.size + 1, 1, none⟩ = some (.int .i64 n) := Blk.cell hM 1
        replace hm0 : v16.rangeAt w.heap.size 0 (hcells a) := blk_mid hX hall 0 (by simp)
        replace hm1 : v16.rangeAt w.heap.size 32 (hcells b) := blk_mid hX hall 1 (by simp)
        replace hm2 : v16.rangeAt w.heap.size 64 (hcells c) := blk_mid hX hall 2 (by simp)
        clear e15
        go_wp2_with fail
        have q0 : ∀ x : Held (fun _ => True) v16, (heldW _ v16 x).cell? ⟨w.heap.size + 1, 0, none⟩ = some (.int .i64 m) := fun x => (World.cell?_of_block ((heldW_keep x).block _ (Blk.lt hM) trivial)).trans c0
        have q1 : ∀ x : Held (fun _ => True) v16, (heldW _ v16 x).cell? ⟨w.heap.size + 1, 1, none⟩ = some (.int .i64 n) := fun x => (World.cell?_of_block ((heldW_keep x).block _ (Blk.lt hM) trivial)).trans c1
        refine region_keep0 (fun _ => True) (by kernel_rfl) (by kernel_rfl) ?_
        have K0 : Ext v16 v16.drew := (Ext.refl v16).drew
        iterate 1 (first | (refine mix_quiet (by rfl) (by rfl) (fun K hK => ?_); go_big_quiet_op; refine hK _ ?_; clear hK K) | (refine mix_skip (by rfl) ?_; simp only [Act.put, List.setIfInBounds_toArray, List.set_cons_zero, List.set_cons_succ]))
        refine held_mid (by rfl) (by rfl) 23 (.tmp 73) rfl w.heap.size 32 (by rfl) (hcells b) _ hm1 (Blk.lt hX) trivial Tryd.underlying23 rfl (size32l _ hb) ?_
        simp only [Act.put, List.setIfInBounds_toArray, List.set_cons_zero, List.set_cons_succ]
        iterate 3 (first | (refine mix_quiet (by rfl) (by rfl) (fun K hK => ?_); go_big_quiet_op; refine hK _ ?_; clear hK K) | (refine mix_skip (by rfl) ?_; simp only [Act.put, List.setIfInBounds_toArray, List.set_cons_zero, List.set_cons_succ]))
        refine held_mid (by rfl) (by rfl) 23 (.tmp 77) rfl w.heap.size 64 (by rfl) (hcells c) _ hm2 (Blk.lt hX) trivial Tryd.underlying23 rfl (size32l _ hc) ?_
        simp only [Act.put, List.setIfInBounds_toArray, List.set_cons_zero, List.set_cons_succ]
        iterate 3 (first | (refine mix_quiet (by rfl) (by rfl) (fun K hK => ?_); go_big_quiet_op; refine hK _ ?_; clear hK K) | (refine mix_skip (by rfl) ?_; simp only [Act.put, List.setIfInBounds_toArray, List.set_cons_zero, List.set_cons_succ]))
        try unfold hcells
        (refine mix_loud (by rfl) (by rfl) (fun K E hK => ?_); go_big_op)
        change Calls _ _ #[sumV b, _, sumV c, _, _] _ _
        refine (Goes_sls b c hb hc m n hn.2 _ f hfl (by omega) _ (KW.ext (hE.trans K0)) (hF.ext K0)).mono ?_; rw [← HG1.out]; rintro e u1 ⟨rfl, K1⟩
        have K1 := K0.trans K1
        refine hK _ _ (held_of (Keep.of_ext K1)) ?_; clear hK K E
        iterate 1 (first | (refine mix_quiet (by rfl) (by rfl) (fun K hK => ?_); go_big_quiet_op; refine hK _ ?_; clear hK K) | (refine mix_skip (by rfl) ?_; simp only [Act.put, List.setIfInBounds_toArray, List.set_cons_zero, List.set_cons_succ]))
        refine held_mid (by rfl) (by rfl) 23 (.tmp 83) rfl w.heap.size 32 (by rfl) (hcells b) _ hm1 (Blk.lt hX) trivial Tryd.underlying23 rfl (size32l _ hb) ?_
        simp only [Act.put, List.setIfInBounds_toArray, List.set_cons_zero, List.set_cons_succ]
        iterate 3 (first | (refine mix_quiet (by rfl) (by rfl) (fun K hK => ?_); go_big_quiet_op; refine hK _ ?_; clear hK K) | (refine mix_skip (by rfl) ?_; simp only [Act.put, List.setIfInBounds_toArray, List.set_cons_zero, List.set_cons_succ]))
        refine held_mid (by rfl) (by rfl) 23 (.tmp 87) rfl w.heap.size 64 (by rfl) (hcells c) _ hm2 (Blk.lt hX) trivial Tryd.underlying23 rfl (size32l _ hc) ?_
        simp only [Act.put, List.setIfInBounds_toArray, List.set_cons_zero, List.set_cons_succ]
        iterate 3 (first | (refine mix_quiet (by rfl) (by rfl) (fun K hK => ?_); go_big_quiet_op; refine hK _ ?_; clear hK K) | (refine mix_skip (by rfl) ?_; simp only [Act.put, List.setIfInBounds_toArray, List.set_cons_zero, List.set_cons_succ]))
        try unfold hcells
        (refine mix_loud (by rfl) (by rfl) (fun K E hK => ?_); go_big_op)
        change Calls _ _ #[sumV b, _, sumV c, _, _] _ _
        refine (refGoes_sls b c hb hc m n _ f hfl (by omega) _ (hF.ext K1)).mono ?_; rw [← HG1.out]; rintro e u2 ⟨rfl, K2⟩
        have K2 := K1.trans K2
        refine hK _ _ (held_of (Keep.of_ext K2)) ?_; clear hK K E
        iterate 6 (first | (refine mix_quiet (by rfl) (by rfl) (fun K hK => ?_); go_big_quiet_op; refine hK _ ?_; clear hK K) | (refine mix_skip (by rfl) ?_; simp only [Act.put, List.setIfInBounds_toArray, List.set_cons_zero, List.set_cons_succ]))
        refine held_mid (by rfl) (by rfl) 23 (.tmp 98) rfl w.heap.size 32 (by rfl) (hcells b) _ hm1 (Blk.lt hX) trivial Tryd.underlying23 rfl (size32l _ hb) ?_
        simp only [Act.put, List.setIfInBounds_toArray, List.set_cons_zero, List.set_cons_succ]
        iterate 2 (first | (refine mix_quiet (by rfl) (by rfl) (fun K hK => ?_); go_big_quiet_op; refine hK _ ?_; clear hK K) | (refine mix_skip (by rfl) ?_; simp only [Act.put, List.setIfInBounds_toArray, List.set_cons_zero, List.set_cons_succ]))
        refine held_row (by rfl) (by rfl) 23 (.tmp 12) rfl (g12 + 1) (by rfl) 23 _ _ hZ trivial Tryd.underlying23 rfl (size32.trans (by simp [hz])) ?_
        simp only [Act.put, List.setIfInBounds_toArray, List.set_cons_zero, List.set_cons_succ]
        iterate 3 (first | (refine mix_quiet (by rfl) (by rfl) (fun K hK => ?_); go_big_quiet_op; refine hK _ ?_; clear hK K) | (refine mix_skip (by rfl) ?_; simp only [Act.put, List.setIfInBounds_toArray, List.set_cons_zero, List.set_cons_succ]))
        try unfold hcells
        (refine mix_loud (by rfl) (by rfl) (fun K E hK => ?_); go_big_op)
        change Calls _ _ #[sumV b, _, sumV z, _, _] _ _
        refine (Goes_sls b z hb hz m n hn.2 _ f hfl (by omega) _ (KW.ext (hE.trans K2)) (hF.ext K2)).mono ?_; rw [← HG2.out]; rintro e u3 ⟨rfl, K3⟩
        have K3 := K2.trans K3
        refine hK _ _ (held_of (Keep.of_ext K3)) ?_; clear hK K E
        iterate 1 (first | (refine mix_quiet (by rfl) (by rfl) (fun K hK => ?_); go_big_quiet_op; refine hK _ ?_; clear hK K) | (refine mix_skip (by rfl) ?_; simp only [Act.put, List.setIfInBounds_toArray, List.set_cons_zero, List.set_cons_succ]))
        refine held_mid (by rfl) (by rfl) 23 (.tmp 107) rfl w.heap.size 32 (by rfl) (hcells b) _ hm1 (Blk.lt hX) trivial Tryd.underlying23 rfl (size32l _ hb) ?_
        simp only [Act.put, List.setIfInBounds_toArray, List.set_cons_zero, List.set_cons_succ]
        iterate 2 (first | (refine mix_quiet (by rfl) (by rfl) (fun K hK => ?_); go_big_quiet_op; refine hK _ ?_; clear hK K) | (refine mix_skip (by rfl) ?_; simp only [Act.put, List.setIfInBounds_toArray, List.set_cons_zero, List.set_cons_succ]))
        refine held_row (by rfl) (by rfl) 23 (.tmp 12) rfl (g12 + 1) (by rfl) 23 _ _ hZ trivial Tryd.underlying23 rfl (size32.trans (by simp [hz])) ?_
        simp only [Act.put, List.setIfInBounds_toArray, List.set_cons_zero, List.set_cons_succ]
        iterate 3 (first | (refine mix_quiet (by rfl) (by rfl) (fun K hK => ?_); go_big_quiet_op; refine hK _ ?_; clear hK K) | (refine mix_skip (by rfl) ?_; simp only [Act.put, List.setIfInBounds_toArray, List.set_cons_zero, List.set_cons_succ]))
        try unfold hcells
        (refine mix_loud (by rfl) (by rfl) (fun K E hK => ?_); go_big_op)
        change Calls _ _ #[sumV b, _, sumV z, _, _] _ _
        refine (refGoes_sls b z hb hz m n _ f hfl (by omega) _ (hF.ext K3)).mono ?_; rw [← HG2.out]; rintro e u4 ⟨rfl, K4⟩
        have K4 := K3.trans K4
        refine hK _ _ (held_of (Keep.of_ext K4)) ?_; clear hK K E
        repeat (first | (refine mix_quiet (by rfl) (by rfl) (fun K hK => ?_); go_big_quiet_op; refine hK _ ?_; clear hK K) | (refine mix_skip (by rfl) ?_; simp only [Act.put, List.setIfInBounds_toArray, List.set_cons_zero, List.set_cons_succ]))
        refine mix_nil ?_
        have hE := hE.trans K4
        go_wp2_with fail
        go_ret
        exact ⟨rfl, hE⟩
      · skip
        dsimp only [Bool.and_true, Bool.true_and, Bool.and_false]
        go_wp2_with (refine stop_load 23 (.tmp 9) rfl ?_)
        refine ⟨?_⟩
        refine list_want (by rfl) (fun K hK => ?_)
        refine wp_load_row 23 (.tmp 9) rfl g7 (by rfl) 23 _ (0, 0) _ hA Tryd.underlying23 rfl (size32.trans (by simp [hp])) ?_
        refine hK _ _ ?_; clear hK K
        simp only [Act.put, List.setIfInBounds_toArray, List.set_cons_zero, List.set_cons_succ]
        go_wp2_with (refine stop_load 23 (.tmp 55) rfl ?_)
        refine ⟨?_⟩
        refine list_want (by rfl) (fun K hK => ?_)
        refine wp_load_mid 23 (.tmp 55) rfl w.heap.size (0) (by rfl) (hcells a) _ hm0 Tryd.underlying23 rfl (size32l _ ha) ?_
        refine hK _ _ ?_; clear hK K
        simp only [Act.put, List.setIfInBounds_toArray, List.set_cons_zero, List.set_cons_succ]
        unfold hcells
        go_wp2_with (refine stop_dst 61 rfl ?_)
        refine ⟨?_⟩
        refine list_want (by rfl) (fun K hK => ?_)
        refine wp_load_row 23 (.tmp 9) rfl g7 (by rfl) 23 _ (0, 0) _ hA Tryd.underlying23 rfl (size32.trans (by simp [hp])) ?_
        refine hK _ _ ?_; clear hK K
        simp only [Act.put, List.setIfInBounds_toArray, List.set_cons_zero, List.set_cons_succ]
        go_wp2_with (refine stop_load 23 (.tmp 62) rfl ?_)
        refine ⟨?_⟩
        refine list_want (by rfl) (fun K hK => ?_)
        refine wp_load_mid 23 (.tmp 62) rfl w.heap.size (32) (by rfl) (hcells b) _ hm1 Tryd.underlying23 rfl (size32l _ hb) ?_
        refine hK _ _ ?_; clear hK K
        simp only [Act.put, List.setIfInBounds_toArray, List.set_cons_zero, List.set_cons_succ]
        unfold hcells
        go_wp2_with fail
        change Calls _ _ #[sumV p, sumV b, _, _, _] _ _
        refine (Right_sls p b hp hb m n hn.2 _ f hfl (by omega) _ (KW.ext hE) hF).mono ?_; rw [HR2.out]; rintro e v16 ⟨rfl, e15⟩
        replace hX := Blk.below hX e15 (Blk.lt hX)
        replace hM := Blk.below hM e15 (Blk.lt hM)
        replace hF := hF.ext e15
        replace hA := Blk.below hA e15 (Blk.lt hA)
        replace hY := Blk.below hY e15 (Blk.lt hY)
        replace hZ := Blk.below hZ e15 (Blk.lt hZ)
        replace hE := hE.trans e15
        replace c0 : v16.cell? ⟨w.heap.size + 1, 0, none⟩ = some (.int .i64 m) := Blk.cell hM 0
        replace c1 : v16.cell? ⟨w.heap.size + 1, 1, none⟩ = some (.int .i64 n) := Blk.cell hM 1
        replace hm0 : v16.rangeAt w.heap.size 0 (hcells a) := blk_mid hX hall 0 (by simp)
        replace hm1 : v16.rangeAt w.heap.size 32 (hcells b) := blk_mid hX hall 1 (by simp)
        replace hm2 : v16.rangeAt w.heap.size 64 (hcells c) := blk_mid hX hall 2 (by simp)
        clear e15
        go_wp2_with fail
        have q0 : ∀ x : Held (fun _ => True) v16, (heldW _ v16 x).cell? ⟨w.heap.size + 1, 0, none⟩ = some (.int .i64 m) := fun x => (World.cell?_of_block ((heldW_keep x).block _ (Blk.lt hM) trivial)).trans c0
        have q1 : ∀ x : Held (fun _ => True) v16, (heldW _ v16 x).cell? ⟨w.heap.size + 1, 1, none⟩ = some (.int .i64 n) := fun x => (World.cell?_of_block ((heldW_keep x).block _ (Blk.lt hM) trivial)).trans c1
        refine region_keep0 (fun _ => True) (by kernel_rfl) (by kernel_rfl) ?_
        have K0 : Ext v16 v16.drew := (Ext.refl v16).drew
        iterate 1 (first | (refine mix_quiet (by rfl) (by rfl) (fun K hK => ?_); go_big_quiet_op; refine hK _ ?_; clear hK K) | (refine mix_skip (by rfl) ?_; simp only [Act.put, List.setIfInBounds_toArray, List.set_cons_zero, List.set_cons_succ]))
        refine held_mid (by rfl) (by rfl) 23 (.tmp 73) rfl w.heap.size 32 (by rfl) (hcells b) _ hm1 (Blk.lt hX) trivial Tryd.underlying23 rfl (size32l _ hb) ?_
        simp only [Act.put, List.setIfInBounds_toArray, List.set_cons_zero, List.set_cons_succ]
        iterate 3 (first | (refine mix_quiet (by rfl) (by rfl) (fun K hK => ?_); go_big_quiet_op; refine hK _ ?_; clear hK K) | (refine mix_skip (by rfl) ?_; simp only [Act.put, List.setIfInBounds_toArray, List.set_cons_zero, List.set_cons_succ]))
        refine held_mid (by rfl) (by rfl) 23 (.tmp 77) rfl w.heap.size 64 (by rfl) (hcells c) _ hm2 (Blk.lt hX) trivial Tryd.underlying23 rfl (size32l _ hc) ?_
        simp only [Act.put, List.setIfInBounds_toArray, List.set_cons_zero, List.set_cons_succ]
        iterate 3 (first | (refine mix_quiet (by rfl) (by rfl) (fun K hK => ?_); go_big_quiet_op; refine hK _ ?_; clear hK K) | (refine mix_skip (by rfl) ?_; simp only [Act.put, List.setIfInBounds_toArray, List.set_cons_zero, List.set_cons_succ]))
        try unfold hcells
        (refine mix_loud (by rfl) (by rfl) (fun K E hK => ?_); go_big_op)
        change Calls _ _ #[sumV b, _, sumV c, _, _] _ _
        refine (Goes_sls b c hb hc m n hn.2 _ f hfl (by omega) _ (KW.ext (hE.trans K0)) (hF.ext K0)).mono ?_; rw [← HG1.out]; rintro e u1 ⟨rfl, K1⟩
        have K1 := K0.trans K1
        refine hK _ _ (held_of (Keep.of_ext K1)) ?_; clear hK K E
        iterate 1 (first | (refine mix_quiet (by rfl) (by rfl) (fun K hK => ?_); go_big_quiet_op; refine hK _ ?_; clear hK K) | (refine mix_skip (by rfl) ?_; simp only [Act.put, List.setIfInBounds_toArray, List.set_cons_zero, List.set_cons_succ]))
        refine held_mid (by rfl) (by rfl) 23 (.tmp 83) rfl w.heap.size 32 (by rfl) (hcells b) _ hm1 (Blk.lt hX) trivial Tryd.underlying23 rfl (size32l _ hb) ?_
        simp only [Act.put, List.setIfInBounds_toArray, List.set_cons_zero, List.set_cons_succ]
        iterate 3 (first | (refine mix_quiet (by rfl) (by rfl) (fun K hK => ?_); go_big_quiet_op; refine hK _ ?_; clear hK K) | (refine mix_skip (by rfl) ?_; simp only [Act.put, List.setIfInBounds_toArray, List.set_cons_zero, List.set_cons_succ]))
        refine held_mid (by rfl) (by rfl) 23 (.tmp 87) rfl w.heap.size 64 (by rfl) (hcells c) _ hm2 (Blk.lt hX) trivial Tryd.underlying23 rfl (size32l _ hc) ?_
        simp only [Act.put, List.setIfInBounds_toArray, List.set_cons_zero, List.set_cons_succ]
        iterate 3 (first | (refine mix_quiet (by rfl) (by rfl) (fun K hK => ?_); go_big_quiet_op; refine hK _ ?_; clear hK K) | (refine mix_skip (by rfl) ?_; simp only [Act.put, List.setIfInBounds_toArray, List.set_cons_zero, List.set_cons_succ]))
        try unfold hcells
        (refine mix_loud (by rfl) (by rfl) (fun K E hK => ?_); go_big_op)
        change Calls _ _ #[sumV b, _, sumV c, _, _] _ _
        refine (refGoes_sls b c hb hc m n _ f hfl (by omega) _ (hF.ext K1)).mono ?_; rw [← HG1.out]; rintro e u2 ⟨rfl, K2⟩
        have K2 := K1.trans K2
        refine hK _ _ (held_of (Keep.of_ext K2)) ?_; clear hK K E
        iterate 6 (first | (refine mix_quiet (by rfl) (by rfl) (fun K hK => ?_); go_big_quiet_op; refine hK _ ?_; clear hK K) | (refine mix_skip (by rfl) ?_; simp only [Act.put, List.setIfInBounds_toArray, List.set_cons_zero, List.set_cons_succ]))
        refine held_mid (by rfl) (by rfl) 23 (.tmp 98) rfl w.heap.size 32 (by rfl) (hcells b) _ hm1 (Blk.lt hX) trivial Tryd.underlying23 rfl (size32l _ hb) ?_
        simp only [Act.put, List.setIfInBounds_toArray, List.set_cons_zero, List.set_cons_succ]
        iterate 2 (first | (refine mix_quiet (by rfl) (by rfl) (fun K hK => ?_); go_big_quiet_op; refine hK _ ?_; clear hK K) | (refine mix_skip (by rfl) ?_; simp only [Act.put, List.setIfInBounds_toArray, List.set_cons_zero, List.set_cons_succ]))
        refine held_row (by rfl) (by rfl) 23 (.tmp 12) rfl (g12 + 1) (by rfl) 23 _ _ hZ trivial Tryd.underlying23 rfl (size32.trans (by simp [hz])) ?_
        simp only [Act.put, List.setIfInBounds_toArray, List.set_cons_zero, List.set_cons_succ]
        iterate 3 (first | (refine mix_quiet (by rfl) (by rfl) (fun K hK => ?_); go_big_quiet_op; refine hK _ ?_; clear hK K) | (refine mix_skip (by rfl) ?_; simp only [Act.put, List.setIfInBounds_toArray, List.set_cons_zero, List.set_cons_succ]))
        try unfold hcells
        (refine mix_loud (by rfl) (by rfl) (fun K E hK => ?_); go_big_op)
        change Calls _ _ #[sumV b, _, sumV z, _, _] _ _
        refine (Goes_sls b z hb hz m n hn.2 _ f hfl (by omega) _ (KW.ext (hE.trans K2)) (hF.ext K2)).mono ?_; rw [← HG2.out]; rintro e u3 ⟨rfl, K3⟩
        have K3 := K2.trans K3
        refine hK _ _ (held_of (Keep.of_ext K3)) ?_; clear hK K E
        iterate 1 (first | (refine mix_quiet (by rfl) (by rfl) (fun K hK => ?_); go_big_quiet_op; refine hK _ ?_; clear hK K) | (refine mix_skip (by rfl) ?_; simp only [Act.put, List.setIfInBounds_toArray, List.set_cons_zero, List.set_cons_succ]))
        refine held_mid (by rfl) (by rfl) 23 (.tmp 107) rfl w.heap.size 32 (by rfl) (hcells b) _ hm1 (Blk.lt hX) trivial Tryd.underlying23 rfl (size32l _ hb) ?_
        simp only [Act.put, List.setIfInBounds_toArray, List.set_cons_zero, List.set_cons_succ]
        iterate 2 (first | (refine mix_quiet (by rfl) (by rfl) (fun K hK => ?_); go_big_quiet_op; refine hK _ ?_; clear hK K) | (refine mix_skip (by rfl) ?_; simp only [Act.put, List.setIfInBounds_toArray, List.set_cons_zero, List.set_cons_succ]))
        refine held_row (by rfl) (by rfl) 23 (.tmp 12) rfl (g12 + 1) (by rfl) 23 _ _ hZ trivial Tryd.underlying23 rfl (size32.trans (by simp [hz])) ?_
        simp only [Act.put, List.setIfInBounds_toArray, List.set_cons_zero, List.set_cons_succ]
        iterate 3 (first | (refine mix_quiet (by rfl) (by rfl) (fun K hK => ?_); go_big_quiet_op; refine hK _ ?_; clear hK K) | (refine mix_skip (by rfl) ?_; simp only [Act.put, List.setIfInBounds_toArray, List.set_cons_zero, List.set_cons_succ]))
        try unfold hcells
        (refine mix_loud (by rfl) (by rfl) (fun K E hK => ?_); go_big_op)
        change Calls _ _ #[sumV b, _, sumV z, _, _] _ _
        refine (refGoes_sls b z hb hz m n _ f hfl (by omega) _ (hF.ext K3)).mono ?_; rw [← HG2.out]; rintro e u4 ⟨rfl, K4⟩
        have K4 := K3.trans K4
        refine hK _ _ (held_of (Keep.of_ext K4)) ?_; clear hK K E
        repeat (first | (refine mix_quiet (by rfl) (by rfl) (fun K hK => ?_); go_big_quiet_op; refine hK _ ?_; clear hK K) | (refine mix_skip (by rfl) ?_; simp only [Act.put, List.setIfInBounds_toArray, List.set_cons_zero, List.set_cons_succ]))
        refine mix_nil ?_
        have hE := hE.trans K4
        go_wp2_with fail
        go_ret
        exact ⟨rfl, hE⟩

set_option maxRecDepth 100000 in
theorem contract (H : Type) (enc : TypeId × Value → H) (W : World) (base : Nat) (args : Array Value) (ds gs : List (DataW H)) (before : List MemPlace)
    (hval0 : ∀ (j : Nat) t v, Tryd.f4.params[j]? = some t → args[j]? = some v → Value.okWide Tryd.prog W .any base t v)
    (hW : DataW.Whole enc Tryd.prog Tryd.f4.params.toList Rows.proofTellsSpec.vars false W args.toList ds gs before) (hL : laidMetH Tryd.prog Rows.proofTellsRow.laid W) :
    Calls Tryd.prog 4 args W fun e W' => ∃ v, e = .returned v ∧ Rows.proofTellsSpec.post enc Tryd.prog Tryd.f4 false true false false W args v W' := by
  have K : Keys W := keys_of hL
  have hval : ∀ (j : Nat) t v, Tryd.f4.params[j]? = some t → args[j]? = some v → Value.okWide Tryd.prog W .any base t v := hval0
  have hW' := hW
  obtain ⟨p, q, hA0, hV, rfl, hfz, hnd⟩ := hW
  have hA : DataW.TrodAll enc Tryd.prog W 0 (fun _ => true) true Tryd.f4.params.toList args.toList ds p := hA0
  rw [Tryd.params4] at hA hval
  obtain ⟨v0, vs0, d0, ds0, p0, q0, hargs, rfl, rfl, hx0, r0⟩ := trodAll_cons hA
  obtain ⟨v1, vs1, d1, ds1, p1, q1, rfl, rfl, rfl, hx1, r1⟩ := trodAll_cons r0
  obtain ⟨v2, vs2, d2, ds2, p2, q2, rfl, rfl, rfl, hx2, r2⟩ := trodAll_cons r1
  obtain ⟨rfl, rfl, rfl⟩ := trodAll_nil r2
  obtain rfl : args = #[v0, v1, v2] := by cases args; simp_all
  obtain ⟨rfl, rfl⟩ := trodVars_none hV
  obtain ⟨a1, a2, a3, rfl, ha1, ha2, ha3⟩ := op_sum3 (hval 0 33 v0 rfl rfl) (tr_of hx0)
  obtain ⟨b1, b2, rfl, hb1, hb2⟩ := op_i2 (hval 1 24 v1 rfl rfl) (tr_of hx1)
  obtain ⟨r, hrs, hra⟩ := op_sls (hval 2 25 v2 rfl rfl) (tr_of hx2)
  refine (walk a1 a2 a3 ha1 ha2 ha3 b1 b2 hb1 hb2 _ r W K hrs hra).mono fun e W' ⟨he, hg⟩ => ?_
  subst he
  exact ⟨_, rfl, law_post hW' rfl rfl (by kernel_rfl) rfl rfl rfl hg⟩

theorem laid_met (os : Os) : laidMet Tryd.prog Rows.proofTellsRow.laid ((keysWorld os).forCall (fun _ _ => 0) ⟨#[], #[.agg (Array.replicate 96 (.int .u8 0)), .agg #[.int .i64 0, .int .i64 0], .slice none 0 0], []⟩).memory :=
  laidMet_of_run' 8 (by kernel_rfl) (by kernel_rfl)
theorem reads (os : Os) {H : Type} (enc : TypeId × Value → H) : ∃ x, DataW.whole enc Tryd.prog ((keysWorld os).forCall (fun _ _ => 0) ⟨#[], #[.agg (Array.replicate 96 (.int .u8 0)), .agg #[.int .i64 0, .int .i64 0], .slice none 0 0], []⟩).memory Tryd.f4.params.toList Rows.proofTellsSpec.vars false (#[.agg (Array.replicate 96 (.int .u8 0)), .agg #[.int .i64 0, .int .i64 0], .slice none 0 0] : Array Value).toList 8 = some x :=
  Option.isSome_iff_exists.1 (by kernel_rfl)
set_option maxRecDepth 100000 in
theorem lifted (os : Os) (started : os.Started) (H : Type) (enc : TypeId × Value → H) (F : Stop.Interp) :
    ReturnsInHanded {} Tryd.checked os 4 .any ((OpenSpec.ofChange Rows.proofTellsSpec).preRow enc Tryd.prog Tryd.f4 Rows.proofTellsRow.domain false Rows.proofTellsRow.laid) (((OpenSpec.ofChange Rows.proofTellsSpec).at F).post enc Tryd.prog Tryd.f4 false true false false) := by
  obtain ⟨x, hx⟩ := reads os enc
  refine returnsInHanded_of_row (C := Tryd.checked) (s := OpenSpec.ofChange Rows.proofTellsSpec) own_ started (by kernel_rfl) Tryd.func4
    (witness_row_at (enc := enc) (C := Tryd.checked) false (keysWorld os) #[.agg (Array.replicate 96 (.int .u8 0)), .agg #[.int .i64 0, .int .i64 0], .slice none 0 0] rfl (by kernel_rfl) (by kernel_rfl) (by kernel_rfl)
      (OpenSpec.preRow_of_cond 8 hx rfl (fun k hk => by cases hk) (by kernel_rfl) (laid_met os))) ?_
  intro W base args ds gs before hval hW _ _ _ hL _ _
  exact contract H enc W base args ds gs before hval hW hL

theorem said : Rows.ProofTellsSaid :=
  OpenClaim.holds_of_cond 4 Tryd.f4 rfl rfl rfl rfl rfl rfl rfl ⟨rfl, rfl, rfl, rfl, rfl⟩ rfl rfl rfl rfl rfl (by kernel_rfl) Tryd.func4 (by kernel_rfl)
    (of_decide_eq_true (by kernel_rfl)) (by unfold Func.isWrapper; first | (rw [if_pos (by decide +kernel)]; kernel_rfl) | (rw [if_neg (by decide +kernel)]; exact ⟨rfl, rfl⟩))
    (fun os started H enc _ F => by rw [OpenClaim.pre_eq_preRow]; exact lifted os started H enc F)
theorem plain (f : FuncId) (fn : Func) (hf : Tryd.pinned.checked.prog.funcNamed "scrinium/scriniumlaw12.ProofTells" = some f) (hfn : Tryd.pinned.checked.prog.funcs[f]? = some fn) :
    false = Tryd.pinned.checked.prog.looks [] ∧ ∀ (j : Nat) t, fn.params[j]? = some t → Tryd.pinned.checked.prog.wantsStandIn t = false := by
  obtain rfl : f = 4 := Option.some.inj ((show Tryd.prog.funcNamed "scrinium/scriniumlaw12.ProofTells" = some 4 by kernel_rfl).symm.trans hf) |>.symm
  obtain rfl : fn = Tryd.f4 := (Option.some.inj (Tryd.func4.symm.trans hfn)).symm
  refine ⟨by kernel_rfl, fun j t ht => ?_⟩
  rw [Tryd.params4] at ht
  have hm : t ∈ ([33, 24, 25] : List TypeId) := by simpa using Array.mem_of_getElem? ht
  have hall : (([33, 24, 25] : List TypeId).all fun u => !Tryd.prog.wantsStandIn u) = true := by kernel_rfl
  exact (show Tryd.prog.wantsStandIn t = false by simpa using List.all_eq_true.1 hall t hm)
theorem proved : Rows.ProofTellsCardSaid :=
  Claim7.holds_tied_plain_at .later [] _ _ _ _ said (fun _ h => by cases h) (by kernel_rfl) (fun _ h => by cases h) proofTells_row_tie rfl ⟨rfl, rfl⟩ (by kernel_rfl) rfl plain (by kernel_rfl)

end Go.Proofs.YtfpipdopgepelaaDoor.proofTells
