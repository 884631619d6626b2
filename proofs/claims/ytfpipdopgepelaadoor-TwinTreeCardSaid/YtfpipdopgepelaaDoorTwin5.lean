/-
  Twins: the walks of twin.Data, few and awake of law 13.
-/
import Derived.Test.YtfpipdopgepelaaDoorTwin4
set_option linter.unusedVariables false
set_option maxRecDepth 100000
set_option linter.unusedSimpArgs false
namespace Go.Proofs.YtfpipdopgepelaaDoor
open Go.ChangeShapes Go.WideShapes Go.ChangeAt Go.RowKit
attribute [local go_sem] bs_size bs_toList2 bs_append bs_extract_end bs_extract_begin bs_get wrap64_b grow_cell grow_frozen

theorem few13_calls (v : Value) (l : List (List UInt8)) (hl : AllH l) (w : World) (h : SlS w w.heap.size v l) :
    Calls Tryd.prog 36 #[v] w fun e w' => ∃ v', e = .returned v' ∧ SlS w w.heap.size v' (l.take 50) ∧ w = w' := by
  have h0 := h
  obtain ⟨A, cap, rfl, hA0, hc, hc63, hr⟩ := h
  by_cases hlt : 50 < l.length
  · have hI : (50 : Int) < (l.length : Int) := by omega
    rcases hA0 with ⟨_, hl1, _⟩ | ⟨b, off, rfl⟩
    · rw [hl1] at hlt; simp at hlt
    have hcI : (50 : Int) ≤ (cap : Int) := by omega
    have hcn : 50 ≤ cap := by omega
    go_enter Tryd.func36, Tryd.ntmps36
    go_wp2_with fail
    go_ret
    exact ⟨_, rfl, sls_take hl hc hc63 hr 50 (by omega), rfl⟩
  · have hI : ¬ (50 : Int) < (l.length : Int) := by omega
    go_enter Tryd.func36, Tryd.ntmps36
    go_wp2_with fail
    go_ret
    exact ⟨_, rfl, by rw [List.take_of_length_le (by omega)]; exact h0, rfl⟩

/-- What twin.Data tells. -/
def dataP (s t : List UInt8) : Option (List UInt8 × List UInt8) := if areB (0 :: s) (0 :: t) then some (0 :: s, 0 :: t) else none

set_option maxHeartbeats 2000000 in
theorem Data_calls (s t : List UInt8) (hs : s.length ≤ 1000000) (ht : t.length ≤ 1000000) (w : World) (KW : Keys w) :
    Calls Tryd.prog 39 #[.string (bs s), .string (bs t)] w fun e w' => e = .returned (.tuple #[.agg (twC (dataP s t)), .bool (dataP s t).isSome]) ∧ Ext w w' := by
  have hs1 : ¬ (9223372036854775807 < 1 + s.length) := by omega
  have ht1 : ¬ (9223372036854775807 < 1 + t.length) := by omega
  obtain ⟨r, hr⟩ : ∃ r, r = areB (0 :: s) (0 :: t) := ⟨_, rfl⟩
  unfold dataP
  rw [← hr]
  have HR := Lib.hid hr
  clear hr
  have ha1 : (0 :: s).length ≤ 4611686018427380000 := by simp; omega
  have ha2 : (0 :: t).length ≤ 4611686018427380000 := by simp; omega
  have hc0 : (ByteArray.mk #[0]) = bs [0] := rfl
  cases r
  all_goals
    first | rw [if_pos rfl] | rw [if_neg (by simp)]
    unfold twC
    go_enter Tryd.func39, Tryd.ntmps39
    have hR0 : Blk ((w.alloc (.cells #[.string (bs []), .string (bs [])] 57)).alloc (.cells #[.string (bs (0 :: s)), .string (bs (0 :: t))] 57)) w.heap.size 57 #[.string (bs []), .string (bs [])] := Blk.alloc (Blk.new _ _ _) _
    have hF0 : Blk ((w.alloc (.cells #[.string (bs []), .string (bs [])] 57)).alloc (.cells #[.string (bs (0 :: s)), .string (bs (0 :: t))] 57)) (w.heap.size + 1) 57 #[.string (bs (0 :: s)), .string (bs (0 :: t))] := by
      have := Blk.new (w.alloc (.cells #[.string (bs []), .string (bs [])] 57)) 57 #[.string (bs (0 :: s)), .string (bs (0 :: t))]
      rw [alloc_size] at this
      exact this
    have hE0 : Ext w ((w.alloc (.cells #[.string (bs []), .string (bs [])] 57)).alloc (.cells #[.string (bs (0 :: s)), .string (bs (0 :: t))] 57)) := ((Ext.refl w).alloc _).alloc _
    go_wp2_with fail
    change Calls _ _ #[twV (0 :: s) (0 :: t)] ((w.alloc (.cells #[.string (bs []), .string (bs [])] 57)).alloc (.cells #[.string (bs (0 :: s)), .string (bs (0 :: t))] 57)) _
    generalize (w.alloc (.cells #[.string (bs []), .string (bs [])] 57)).alloc (.cells #[.string (bs (0 :: s)), .string (bs (0 :: t))] 57) = w1 at *
    refine (Are_calls (0 :: s) (0 :: t) ha1 ha2 _ (KW.ext hE0)).mono ?_; rw [← HR.out]; rintro e w2 ⟨rfl, e2⟩
    have hR2 := Blk.below hR0 e2 (Blk.lt hR0)
    have hF2 := Blk.below hF0 e2 (Blk.lt hF0)
    have hE2 := hE0.trans e2
    clear hR0 hF0 hE0 e2
    have c0 : w2.cell? ⟨w.heap.size + 1, 0, none⟩ = some (.string (bs (0 :: s))) := Blk.cell hF2 0
    have c1 : w2.cell? ⟨w.heap.size + 1, 1, none⟩ = some (.string (bs (0 :: t))) := Blk.cell hF2 1
    have z0 : w2.cell? ⟨w.heap.size, 0, none⟩ = some (.string (bs [])) := Blk.cell hR2 0
    have z1 : w2.cell? ⟨w.heap.size, 1, none⟩ = some (.string (bs [])) := Blk.cell hR2 1
    have f0 := Blk.frozen hR2 0
    have f1 := Blk.frozen hR2 1
    have hgl := Blk.lt hF2
    have hrl := Blk.lt hR2
    have hR5 := fun u v => Blk.set_ (Blk.set_ hR2 0 (.string u)) 1 (.string v)
    go_wp2_with fail
    (try simp only [Exit.inBlock, Exit.then]); refine bodyPost_ret (res_cell_t rfl _ _ w.heap.size 57 _ _ rfl (hR5 _ _) Tryd.underlying57 rfl size_twins) rfl ?_
    exact ⟨rfl, (hE2.setCell (Nat.le_refl _) _).setCell (Nat.le_refl _) _⟩

theorem l02 : Way.longI 0 2 = 1 := by decide +kernel
theorem t02 : Way.turnsI 0 2 = [false] := by decide +kernel
theorem l12 : Way.longI 1 2 = 1 := by decide +kernel
theorem t12 : Way.turnsI 1 2 = [true] := by decide +kernel
theorem t01 : Way.turnsI 0 1 = [] := by decide +kernel
theorem l01 : Way.longI 0 1 = 0 := by decide +kernel
theorem aw13a (x y : List UInt8) : wayP 0 2 x [y] = [preB x y] := by
  unfold wayP
  rw [l02, if_pos (by rfl), t02]
  rfl
theorem aw13b (x y : List UInt8) : wayP 1 2 x [y] = [preB y x] := by
  unfold wayP
  rw [l12, if_pos (by rfl), t12]
  rfl
theorem aw13c (x : List UInt8) : leavesP 0 1 x x [] [] = none := by
  have h : foldP x 0 1 [] = (x, true) := by
    have h1 : foldP x 0 1 [] = _ := if_pos l01
    rw [h1, t01, Way.foldW_nil]
  unfold leavesP
  rw [h, t01]
  simp [firstO, Way.first, Way.way]
theorem aw13d : areB [97] [98] = false := by decide +kernel

set_option maxHeartbeats 4000000 in
theorem awake13_calls (w : World) (KW : Keys w) : Calls Tryd.prog 34 #[] w fun e w' => e = .returned (.bool true) ∧ Ext w w' := by
  go_enter Tryd.func34, Tryd.ntmps34
  go_wp2_with fail
  change Calls _ _ #[.string (bs [97])] _ _
  refine (refLeaf_calls [97] (by decide) _).mono ?_; rintro e w1 ⟨rfl, hE⟩
  have ha := leafB_length [97]
  generalize leafB [97] = pa at *
  try unfold sumV
  go_wp2_with (refine stop_store 23 (.tmp 1) (.tmp 7) rfl ?_)
  refine ⟨?_⟩
  change wpList _ _ _ _ _ (w1.alloc (.cells ((zerosB 32).map byteV).toArray 23))
  have hA0 : ArrB (w1.alloc (.cells ((zerosB 32).map byteV).toArray 23)) w1.heap.size 23 (zerosB 32) := Blk.new _ _ _
  refine wpList_store_row rfl 23 (.tmp 1) (.tmp 7) rfl w1.heap.size ((pa).map byteV).toArray (by rfl) (by rfl) 23 _ hA0 (size32.trans (by simp [ha])) (by simp [ha, zerosB]) (by simp [byteV, Value.oneCell']) ?_
  simp only [Act.put, List.setIfInBounds_toArray, List.set_cons_zero, List.set_cons_succ]
  have hA : ArrB ((w1.alloc (.cells ((zerosB 32).map byteV).toArray 23)).setRow w1.heap.size ((pa).map byteV).toArray) w1.heap.size 23 (pa) := Blk.row hA0 _
  have e2 : Ext w1 ((w1.alloc (.cells ((zerosB 32).map byteV).toArray 23)).setRow w1.heap.size ((pa).map byteV).toArray) := ((Ext.refl w1).alloc _).row (Nat.le_refl _) _
  clear hA0
  generalize (w1.alloc (.cells ((zerosB 32).map byteV).toArray 23)).setRow w1.heap.size ((pa).map byteV).toArray = v1 at *
  have g3l := Blk.lt hA
  obtain ⟨g3, g3e⟩ : ∃ g3, g3 = w1.heap.size := ⟨_, rfl⟩
  rw [← g3e] at hA g3l
  try rw [← g3e]
  have g3b : w1.heap.size ≤ g3 := by omega
  replace hE := hE.trans e2
  clear e2
  clear g3e
  go_wp2_with fail
  change Calls _ _ #[.string (bs [98])] _ _
  refine (refLeaf_calls [98] (by decide) _).mono ?_; rintro e v5 ⟨rfl, e4⟩
  replace hA := Blk.below hA e4 (Blk.lt hA)
  replace hE := hE.trans e4
  clear e4
  have hb := leafB_length [98]
  generalize leafB [98] = pb at *
  try unfold sumV
  go_wp2_with (refine stop_store 23 (.tmp 2) (.tmp 8) rfl ?_)
  refine ⟨?_⟩
  change wpList _ _ _ _ _ (v5.alloc (.cells ((zerosB 32).map byteV).toArray 23))
  have hB0 : ArrB (v5.alloc (.cells ((zerosB 32).map byteV).toArray 23)) v5.heap.size 23 (zerosB 32) := Blk.new _ _ _
  refine wpList_store_row rfl 23 (.tmp 2) (.tmp 8) rfl v5.heap.size ((pb).map byteV).toArray (by rfl) (by rfl) 23 _ hB0 (size32.trans (by simp [hb])) (by simp [hb, zerosB]) (by simp [byteV, Value.oneCell']) ?_
  simp only [Act.put, List.setIfInBounds_toArray, List.set_cons_zero, List.set_cons_succ]
  have hB : ArrB ((v5.alloc (.cells ((zerosB 32).map byteV).toArray 23)).setRow v5.heap.size ((pb).map byteV).toArray) v5.heap.size 23 (pb) := Blk.row hB0 _
  have e7 : Ext v5 ((v5.alloc (.cells ((zerosB 32).map byteV).toArray 23)).setRow v5.heap.size ((pb).map byteV).toArray) := ((Ext.refl v5).alloc _).row (Nat.le_refl _) _
  clear hB0
  generalize (v5.alloc (.cells ((zerosB 32).map byteV).toArray 23)).setRow v5.heap.size ((pb).map byteV).toArray = v6 at *
  have g8l := Blk.lt hB
  obtain ⟨g8, g8e⟩ : ∃ g8, g8 = v5.heap.size := ⟨_, rfl⟩
  rw [← g8e] at hB g8l
  try rw [← g8e]
  have g8b : v5.heap.size ≤ g8 := by omega
  replace hA := Blk.below hA e7 (Blk.lt hA)
  replace hE := hE.trans e7
  clear e7
  clear g8e
  go_wp2_with (refine stop_load 23 (.tmp 1) rfl ?_)
  refine ⟨?_⟩
  refine wpList_load_row rfl 23 (.tmp 1) rfl g3 (by rfl) 23 _ (0, 0) _ hA Tryd.underlying23 rfl (size32.trans (by simp [ha])) ?_
  simp only [Act.put, List.setIfInBounds_toArray, List.set_cons_zero, List.set_cons_succ]
  go_wp2_with (refine stop_load 23 (.tmp 1) rfl ?_)
  refine ⟨?_⟩
  refine wpList_load_row rfl 23 (.tmp 1) rfl g3 (by rfl) 23 _ (0, 0) _ hA Tryd.underlying23 rfl (size32.trans (by simp [ha])) ?_
  simp only [Act.put, List.setIfInBounds_toArray, List.set_cons_zero, List.set_cons_succ]
  go_wp2_with fail
  refine (Leaves_calls 0 1 (by omega) pa pa ha ha _ _ [] [] AllH.nil AllH.nil (by simp) (by simp) v6 (KW.ext hE) (sls_nil _ _) (sls_nil _ _)).mono ?_; rw [aw13c, twC_none]; rintro e w6 ⟨rfl, e6⟩
  replace hA := Blk.below hA e6 (Blk.lt hA)
  replace hB := Blk.below hB e6 (Blk.lt hB)
  replace hE := hE.trans e6
  clear e6
  have e7 : Ext w6 (w6.alloc (.cells #[.string (bs []), .string (bs [])] 57)) := (Ext.refl w6).alloc _
  go_wp2_with (refine stop_load 23 (.tmp 1) rfl ?_)
  refine ⟨?_⟩
  change wpList _ _ _ _ _ (w6.alloc (.cells #[.string (bs []), .string (bs [])] 57))
  generalize hw7 : w6.alloc (.cells #[.string (bs []), .string (bs [])] 57) = w7 at *
  clear hw7
  replace hA := Blk.below hA e7 (Blk.lt hA)
  replace hB := Blk.below hB e7 (Blk.lt hB)
  replace hE := hE.trans e7
  clear e7
  refine wpList_load_row rfl 23 (.tmp 1) rfl g3 (by rfl) 23 _ (0, 0) _ hA Tryd.underlying23 rfl (size32.trans (by simp [ha])) ?_
  simp only [Act.put, List.setIfInBounds_toArray, List.set_cons_zero, List.set_cons_succ]
  go_wp2_with (refine stop_load 23 (.tmp 2) rfl ?_)
  refine ⟨?_⟩
  refine wpList_load_row rfl 23 (.tmp 2) rfl g8 (by rfl) 23 _ (0, 0) _ hB Tryd.underlying23 rfl (size32.trans (by simp [hb])) ?_
  simp only [Act.put, List.setIfInBounds_toArray, List.set_cons_zero, List.set_cons_succ]
  go_wp2_with (refine stop_dst 17 rfl ?_)
  refine ⟨?_⟩
  refine wpList_buildSums rfl 1 _ rfl [pb] (AllH.cons hb AllH.nil) rfl (by decide) (by decide) (by rfl) ?_
  simp only [Act.put, List.setIfInBounds_toArray, List.set_cons_zero, List.set_cons_succ]
  have e9 : Ext w7 (w7.alloc (.cells (flatS [pb]).toArray 23)) := (Ext.refl w7).alloc _
  have hL := sls_new w7 [pb] 1 rfl (by decide)
  generalize (w7.alloc (.cells (flatS [pb]).toArray 23)) = v10 at *
  replace hA := Blk.below hA e9 (Blk.lt hA)
  replace hB := Blk.below hB e9 (Blk.lt hB)
  replace hE := hE.trans e9
  clear e9
  go_wp2_with fail
  change Calls _ _ #[_, _, sumV pa, _] _ _
  refine (Way_calls 0 2 (by omega) pa ha _ [pb] (AllH.cons hb AllH.nil) (by simp) v10 (KW.ext hE) hL).mono ?_; rw [aw13a]; rintro e v12 ⟨va, rfl, vaO, e11⟩
  clear hL
  replace hA := Blk.below hA e11 (Blk.lt hA)
  replace hB := Blk.below hB e11 (Blk.lt hB)
  replace hE := hE.trans e11
  clear e11
  obtain ⟨vaA, vac, rfl, var⟩ := ownT_rd vaO
  clear vaO
  obtain ⟨vab, vao, rfl, val, vam⟩ := var (by simp)
  have vaq : v12.cell? ⟨vab, vao, none⟩ = some (.string (bs (preB pa pb))) := vam 0 _ rfl
  clear var vam
  go_wp2_with (refine stop_load 23 (.tmp 1) rfl ?_)
  refine ⟨?_⟩
  refine wpList_load_row rfl 23 (.tmp 1) rfl g3 (by rfl) 23 _ (0, 0) _ hA Tryd.underlying23 rfl (size32.trans (by simp [ha])) ?_
  simp only [Act.put, List.setIfInBounds_toArray, List.set_cons_zero, List.set_cons_succ]
  go_wp2_with (refine stop_load 23 (.tmp 2) rfl ?_)
  refine ⟨?_⟩
  refine wpList_load_row rfl 23 (.tmp 2) rfl g8 (by rfl) 23 _ (0, 0) _ hB Tryd.underlying23 rfl (size32.trans (by simp [hb])) ?_
  simp only [Act.put, List.setIfInBounds_toArray, List.set_cons_zero, List.set_cons_succ]
  go_wp2_with (refine stop_dst 21 rfl ?_)
  refine ⟨?_⟩
  refine wpList_buildSums rfl 1 _ rfl [pb] (AllH.cons hb AllH.nil) rfl (by decide) (by decide) (by rfl) ?_
  simp only [Act.put, List.setIfInBounds_toArray, List.set_cons_zero, List.set_cons_succ]
  have e13 : Ext v12 (v12.alloc (.cells (flatS [pb]).toArray 23)) := (Ext.refl v12).alloc _
  have hL := sls_new v12 [pb] 1 rfl (by decide)
  generalize (v12.alloc (.cells (flatS [pb]).toArray 23)) = v14 at *
  replace hA := Blk.below hA e13 (Blk.lt hA)
  replace hB := Blk.below hB e13 (Blk.lt hB)
  replace vaq := ((ext_cells e13).1 vab _ val).trans vaq
  replace val := Nat.lt_of_lt_of_le val e13.size
  replace hE := hE.trans e13
  clear e13
  go_wp2_with fail
  change Calls _ _ #[_, _, sumV pa, _] _ _
  refine (Way_calls 1 2 (by omega) pa ha _ [pb] (AllH.cons hb AllH.nil) (by simp) v14 (KW.ext hE) hL).mono ?_; rw [aw13b]; rintro e v16 ⟨vb, rfl, vbO, e15⟩
  clear hL
  replace hA := Blk.below hA e15 (Blk.lt hA)
  replace hB := Blk.below hB e15 (Blk.lt hB)
  replace vaq := ((ext_cells e15).1 vab _ val).trans vaq
  replace val := Nat.lt_of_lt_of_le val e15.size
  replace hE := hE.trans e15
  clear e15
  obtain ⟨vbA, vbc, rfl, vbr⟩ := ownT_rd vbO
  clear vbO
  obtain ⟨vbb, vbo, rfl, vbl, vbm⟩ := vbr (by simp)
  have vbq : v16.cell? ⟨vbb, vbo, none⟩ = some (.string (bs (preB pb pa))) := vbm 0 _ rfl
  clear vbr vbm
  have hKs : ∀ z : More v16, Keys (grow v16 z) := fun z => KW.ext (hE.trans (grow_ext z))
  have p1 : ([preB pa pb].length : Int) = 1 := rfl
  have p2 : ([preB pb pa].length : Int) = 1 := rfl
  have hs1 := areB_same [97]
  have HS1 := Lib.hid hs1
  clear hs1
  go_wp2_with fail
  refine region_mix0 (by kernel_rfl) (by kernel_rfl) (fun y0 => ?_)
  iterate 12 (first | (refine mix_quiet (by rfl) (by rfl) (fun K hK => ?_); go_big_quiet_op; refine hK _ ?_; clear hK K) | (refine mix_skip (by rfl) ?_; simp only [Act.put, List.setIfInBounds_toArray, List.set_cons_zero, List.set_cons_succ]))
  refine mix_row (by rfl) (by rfl) 23 (.tmp 1) rfl g3 (by rfl) 23 _ _ hA Tryd.underlying23 rfl (size32.trans (by simp [ha])) ?_
  simp only [Act.put, List.setIfInBounds_toArray, List.set_cons_zero, List.set_cons_succ]
  refine mix_row (by rfl) (by rfl) 23 (.tmp 2) rfl g8 (by rfl) 23 _ _ hB Tryd.underlying23 rfl (size32.trans (by simp [hb])) ?_
  simp only [Act.put, List.setIfInBounds_toArray, List.set_cons_zero, List.set_cons_succ]
  (refine mix_loud (by rfl) (by rfl) (fun K E hK => ?_); go_big_op)
  change Calls _ _ #[sumV pa, sumV pb] _ _
  refine (refPreimage_calls pa pb ha hb _).mono ?_; rintro e w5 ⟨rfl, hd⟩
  obtain ⟨x', rfl⟩ := more_ext _ hd; clear hd
  refine hK _ _ ⟨_, rfl⟩ ?_; clear hK K E
  iterate 6 (first | (refine mix_quiet (by rfl) (by rfl) (fun K hK => ?_); go_big_quiet_op; refine hK _ ?_; clear hK K) | (refine mix_skip (by rfl) ?_; simp only [Act.put, List.setIfInBounds_toArray, List.set_cons_zero, List.set_cons_succ]))
  refine mix_row (by rfl) (by rfl) 23 (.tmp 2) rfl g8 (by rfl) 23 _ _ hB Tryd.underlying23 rfl (size32.trans (by simp [hb])) ?_
  simp only [Act.put, List.setIfInBounds_toArray, List.set_cons_zero, List.set_cons_succ]
  refine mix_row (by rfl) (by rfl) 23 (.tmp 1) rfl g3 (by rfl) 23 _ _ hA Tryd.underlying23 rfl (size32.trans (by simp [ha])) ?_
  simp only [Act.put, List.setIfInBounds_toArray, List.set_cons_zero, List.set_cons_succ]
  (refine mix_loud (by rfl) (by rfl) (fun K E hK => ?_); go_big_op)
  change Calls _ _ #[sumV pb, sumV pa] _ _
  refine (refPreimage_calls pb pa hb ha _).mono ?_; rintro e w5 ⟨rfl, hd⟩
  obtain ⟨x', rfl⟩ := more_ext _ hd; clear hd
  refine hK _ _ ⟨_, rfl⟩ ?_; clear hK K E
  iterate 8 (first | (refine mix_quiet (by rfl) (by rfl) (fun K hK => ?_); go_big_quiet_op; refine hK _ ?_; clear hK K) | (refine mix_skip (by rfl) ?_; simp only [Act.put, List.setIfInBounds_toArray, List.set_cons_zero, List.set_cons_succ]))
  (refine mix_loud (by rfl) (by rfl) (fun K E hK => ?_); go_big_op)
  change Calls _ _ #[twV [97] [97]] _ _
  refine (Are_calls [97] [97] (by decide) (by decide) _ (hKs _)).mono ?_; rw [HS1.out]; rintro e w5 ⟨rfl, hd⟩
  obtain ⟨x', rfl⟩ := more_ext _ hd; clear hd
  refine hK _ _ ⟨_, rfl⟩ ?_; clear hK K E
  iterate 4 (first | (refine mix_quiet (by rfl) (by rfl) (fun K hK => ?_); go_big_quiet_op; refine hK _ ?_; clear hK K) | (refine mix_skip (by rfl) ?_; simp only [Act.put, List.setIfInBounds_toArray, List.set_cons_zero, List.set_cons_succ]))
  (refine mix_loud (by rfl) (by rfl) (fun K E hK => ?_); go_big_op)
  change Calls _ _ #[twV [97] [98]] _ _
  refine (Are_calls [97] [98] (by decide) (by decide) _ (hKs _)).mono ?_; rw [aw13d]; rintro e w5 ⟨rfl, hd⟩
  obtain ⟨x', rfl⟩ := more_ext _ hd; clear hd
  refine hK _ _ ⟨_, rfl⟩ ?_; clear hK K E
  repeat (first | (refine mix_quiet (by rfl) (by rfl) (fun K hK => ?_); go_big_quiet_op; refine hK _ ?_; clear hK K) | (refine mix_skip (by rfl) ?_; simp only [Act.put, List.setIfInBounds_toArray, List.set_cons_zero, List.set_cons_succ]))
  refine mix_nil ?_
  have hE9 := hE.trans (grow_ext x')
  go_wp2_with fail
  go_ret
  exact ⟨rfl, hE9⟩

end Go.Proofs.YtfpipdopgepelaaDoor
