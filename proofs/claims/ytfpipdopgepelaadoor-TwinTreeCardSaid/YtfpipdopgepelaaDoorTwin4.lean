/-
  Twins: the walks of twin.Way, Leaves, Data.
-/
import Derived.Test.YtfpipdopgepelaaDoorTwin3
set_option linter.unusedVariables false
set_option maxRecDepth 100000
set_option linter.unusedSimpArgs false
namespace Go.Proofs.YtfpipdopgepelaaDoor
open Go.ChangeShapes Go.WideShapes Go.ChangeAt Go.RowKit
attribute [local go_sem] bs_size bs_toList2 bs_append bs_extract_end bs_extract_begin bs_get wrap64_b grow_cell grow_frozen

/-- What twin.Way tells. -/
def wayP (m n : Int) (x : List UInt8) (l : List (List UInt8)) : List (List UInt8) := if Way.longI m n = (l.length : Int) then wayS x (Way.turnsI m n) l else []

set_option maxHeartbeats 2000000 in
theorem Way_calls (m n : Int) (hn63 : n ≤ 9223372036854775807) (x : List UInt8) (hx : x.length = 32) (c : Value) (l : List (List UInt8)) (hl : AllH l) (hll : l.length ≤ 1000000) (w : World) (KW : Keys w) (h : SlS w w.heap.size c l) :
    Calls Tryd.prog 37 #[.int .i64 m, .int .i64 n, sumV x, c] w fun e w' => ∃ v, e = .returned v ∧ OwnT w' w.heap.size v (wayP m n x l) ∧ Ext w w' := by
  obtain ⟨A, cap, rfl, hA0, hc, hc63, hr⟩ := h
  obtain ⟨Y, hY⟩ : ∃ Y, Y = wayP m n x l := ⟨_, rfl⟩
  rw [← hY]
  have hfold := fold_sum x hx
  unfold sumV
  go_enter Tryd.func37, Tryd.ntmps37
  have hX0 : ArrB (w.alloc (.cells (x.map byteV).toArray 23)) w.heap.size 23 x := Blk.new _ _ _
  have hE0 : Ext w (w.alloc (.cells (x.map byteV).toArray 23)) := (Ext.refl w).alloc _
  go_wp2_with fail
  generalize w.alloc (.cells (x.map byteV).toArray 23) = w1 at *
  refine (Long_calls m n hn63 _).mono ?_; rintro e w2 ⟨rfl, e2⟩
  have hX2 := Blk.below hX0 e2 (Blk.lt hX0)
  have hE2 := hE0.trans e2
  clear hX0 hE0 e2
  by_cases hlg : Way.longI m n = (l.length : Int)
  · have hY2 : Y = wayS x (Way.turnsI m n) l := hY.trans (if_pos hlg)
    have hTl : (Way.turnsI m n).length = l.length := by have := Way.turnsI_length m n (by omega); omega
    have HY := Lib.hid hY2
    rw [hlg]
    clear hY hY2
    have HTl := Lib.hid hTl
    have HLg := Lib.hid hlg
    clear hlg hTl
    go_wp2_with fail
    have hKs : ∀ z : More w2, Keys (grow w2 z) := fun z => KW.ext (hE2.trans (grow_ext z))
    have hrs : ∀ z : More w2, Rd (grow w2 z) (grow w2 z).heap.size A (flatS l) := fun z => (hr.below (hE2.trans (grow_ext z)) (Nat.le_refl _)).more (hE2.trans (grow_ext z)).size
    refine region_mix0 (by kernel_rfl) (by kernel_rfl) (fun y0 => ?_)
    refine mix_row (by rfl) (by rfl) 23 (.tmp 6) rfl w.heap.size (by rfl) 23 _ _ hX2 Tryd.underlying23 rfl (size32.trans (by simp [hx])) ?_
    simp only [Act.put, List.setIfInBounds_toArray, List.set_cons_zero, List.set_cons_succ]
    iterate 3 (first | (refine mix_quiet (by rfl) (by rfl) (fun K hK => ?_); go_big_quiet_op; refine hK _ ?_; clear hK K) | (refine mix_skip (by rfl) ?_; simp only [Act.put, List.setIfInBounds_toArray, List.set_cons_zero, List.set_cons_succ]))
    (refine mix_loud (by rfl) (by rfl) (fun K E hK => ?_); go_big_op)
    refine (Turns_calls m n hn63 _).mono ?_; rintro e w5 ⟨v, rfl, hO, hd⟩
    obtain ⟨B, cB, hv, hrB, -⟩ := own_rd hO
    subst hv
    obtain ⟨x', rfl⟩ := more_ext _ hd; clear hd hO
    refine hK _ _ ⟨_, rfl⟩ ?_; clear hK K E
    (refine mix_loud (by rfl) (by rfl) (fun K E hK => ?_); go_big_op)
    change Calls _ _ #[sumV x, _, _] _ _
    refine (way_calls x hx A cap l hl hll (Way.turnsI m n) B cB HTl.out _ (hKs _) (hrs _) hrB).mono ?_; rw [← HY.out]; rintro e w6 ⟨v6, rfl, hO, hd⟩
    have hO6 := owns_base hO (B' := w.heap.size) (hE2.trans (grow_ext _)).size
    obtain ⟨x2, rfl⟩ := more_ext _ hd; clear hd hO hrB
    refine hK _ _ ⟨_, rfl⟩ ?_; clear hK K E
    repeat (first | (refine mix_quiet (by rfl) (by rfl) (fun K hK => ?_); go_big_quiet_op; refine hK _ ?_; clear hK K) | (refine mix_skip (by rfl) ?_; simp only [Act.put, List.setIfInBounds_toArray, List.set_cons_zero, List.set_cons_succ]))
    refine mix_nil ?_
    have hE6 := hE2.trans (grow_ext x2)
    clear hKs hrs
    go_wp2_with fail
    go_ret
    exact ⟨_, rfl, hO6, hE6⟩
  · have hY2 : Y = [] := hY.trans (if_neg hlg)
    subst hY2
    have dl : (Way.longI m n != (l.length : Int)) = true := by simpa using hlg
    clear hY
    generalize Way.longI m n = L at *
    go_wp2_with fail
    go_ret
    exact ⟨_, rfl, World.ownsRow_nil _ _ _ _, hE2⟩

/-- What twin.Leaves tells. -/
def leavesP (m n : Int) (x y : List UInt8) (a b : List (List UInt8)) : Option (List UInt8 × List UInt8) :=
  if ((foldP x m n a).2 && (foldP y m n b).2) && decide ((foldP x m n a).1 = (foldP y m n b).1) then firstO (wayS x (Way.turnsI m n) a) (wayS y (Way.turnsI m n) b) else none
theorem twC_none : twC none = #[.string (bs []), .string (bs [])] := rfl

set_option maxHeartbeats 4000000 in
theorem Leaves_calls (m n : Int) (hn63 : n ≤ 9223372036854775807) (x y : List UInt8) (hx : x.length = 32) (hy : y.length = 32) (va vb : Value) (a b : List (List UInt8)) (ha : AllH a) (hb : AllH b) (hal : a.length ≤ 1000000) (hbl : b.length ≤ 1000000) (w : World) (KW : Keys w) (hSa : SlS w w.heap.size va a) (hSb : SlS w w.heap.size vb b) :
    Calls Tryd.prog 35 #[.int .i64 m, .int .i64 n, sumV x, sumV y, va, vb] w fun e w' => e = .returned (.tuple #[.agg (twC (leavesP m n x y a b)), .bool (leavesP m n x y a b).isSome]) ∧ Ext w w' := by
  obtain ⟨R, hR⟩ : ∃ R, R = leavesP m n x y a b := ⟨_, rfl⟩
  rw [← hR]
  have hpx := foldP_length x hx m n a
  have hpy := foldP_length y hy m n b
  have hok : (foldP x m n a).2 = true → Way.longI m n = (a.length : Int) := fun h => by
    unfold foldP at h
    split at h
    · assumption
    · cases h
  have hok2 : (foldP y m n b).2 = true → Way.longI m n = (b.length : Int) := fun h => by
    unfold foldP at h
    split at h
    · assumption
    · cases h
  unfold leavesP at hR
  obtain ⟨P, hP⟩ : ∃ P, P = foldP x m n a := ⟨_, rfl⟩
  obtain ⟨Q, hQ⟩ : ∃ Q, Q = foldP y m n b := ⟨_, rfl⟩
  rw [← hP] at hR hpx hok
  rw [← hQ] at hR hpy hok2
  obtain ⟨p, i⟩ := P
  obtain ⟨q, j⟩ := Q
  have hpl : p.length = 32 := hpx
  have hql : q.length = 32 := hpy
  dsimp only at hR hok hok2
  clear hpx hpy
  have HP := Lib.hid hP
  have HQ := Lib.hid hQ
  have HR := Lib.hid hR
  have HO1 := Lib.hid hok
  have HO2 := Lib.hid hok2
  clear hP hQ hR hok hok2
  have hgw := guard_sum
  have hfx := fold_sum x hx
  have hfy := fold_sum y hy
  have heq := fun w : World => eq_sum p q hpl hql w
  obtain ⟨d, hd0⟩ : ∃ d, d = decide (p = q) := ⟨_, rfl⟩
  rw [← hd0] at heq
  have HD := Lib.hid hd0
  clear hd0
  unfold sumV
  go_enter Tryd.func35, Tryd.ntmps35
  have hX : ArrB (((w.alloc (.cells (x.map byteV).toArray 23)).alloc (.cells (y.map byteV).toArray 23)).alloc (.cells #[.string (bs []), .string (bs [])] 57)) w.heap.size 23 x := Blk.alloc (Blk.alloc (Blk.new _ _ _) _) _
  have hY : ArrB (((w.alloc (.cells (x.map byteV).toArray 23)).alloc (.cells (y.map byteV).toArray 23)).alloc (.cells #[.string (bs []), .string (bs [])] 57)) (w.heap.size + 1) 23 y := by
    have := Blk.new (w.alloc (.cells (x.map byteV).toArray 23)) 23 (y.map byteV).toArray
    rw [alloc_size] at this
    exact Blk.alloc this _
  have hZ : Blk (((w.alloc (.cells (x.map byteV).toArray 23)).alloc (.cells (y.map byteV).toArray 23)).alloc (.cells #[.string (bs []), .string (bs [])] 57)) (w.heap.size + 1 + 1) 57 #[.string (bs []), .string (bs [])] := by
    have := Blk.new ((w.alloc (.cells (x.map byteV).toArray 23)).alloc (.cells (y.map byteV).toArray 23)) 57 #[.string (bs []), .string (bs [])]
    simp only [alloc_size] at this
    exact this
  have hE : Ext w (((w.alloc (.cells (x.map byteV).toArray 23)).alloc (.cells (y.map byteV).toArray 23)).alloc (.cells #[.string (bs []), .string (bs [])] 57)) := (((Ext.refl w).alloc _).alloc _).alloc _
  have hSa1 := hSa.ext hE
  have hSb1 := hSb.ext hE
  obtain ⟨Aa, ca, hva, hAa⟩ := id hSa
  obtain ⟨Ab, cb, hvb, hAb⟩ := id hSb
  subst hva
  subst hvb
  clear hAa hAb hSa hSb
  go_wp2_with (refine stop_load 23 (.tmp 8) rfl ?_)
  refine ⟨?_⟩
  change wpList _ _ _ _ _ (((w.alloc (.cells (x.map byteV).toArray 23)).alloc (.cells (y.map byteV).toArray 23)).alloc (.cells #[.string (bs []), .string (bs [])] 57))
  generalize ((w.alloc (.cells (x.map byteV).toArray 23)).alloc (.cells (y.map byteV).toArray 23)).alloc (.cells #[.string (bs []), .string (bs [])] 57) = w1 at *
  refine wpList_load_row rfl 23 (.tmp 8) rfl w.heap.size (by rfl) 23 _ (0, 0) _ hX Tryd.underlying23 rfl (size32.trans (by simp [hx])) ?_
  simp only [Act.put, List.setIfInBounds_toArray, List.set_cons_zero, List.set_cons_succ]
  go_wp2_with fail
  change Calls _ _ #[sumV x, _, _, _] _ _
  refine (Fold_sls x hx m n hn63 _ a ha hal _ (KW.ext hE) hSa1).mono ?_; rw [← HP.out]; rintro e v2 ⟨rfl, e1⟩
  replace hX := Blk.below hX e1 (Blk.lt hX)
  replace hY := Blk.below hY e1 (Blk.lt hY)
  replace hZ := Blk.below hZ e1 (Blk.lt hZ)
  replace hSa1 := hSa1.ext e1
  replace hSb1 := hSb1.ext e1
  replace hE := hE.trans e1
  clear e1
  try unfold sumV
  go_wp2_with (refine stop_store 23 (.tmp 14) (.tmp 25) rfl ?_)
  refine ⟨?_⟩
  change wpList _ _ _ _ _ (v2.alloc (.cells ((zerosB 32).map byteV).toArray 23))
  have hA0 : ArrB (v2.alloc (.cells ((zerosB 32).map byteV).toArray 23)) v2.heap.size 23 (zerosB 32) := Blk.new _ _ _
  refine wpList_store_row rfl 23 (.tmp 14) (.tmp 25) rfl v2.heap.size ((p).map byteV).toArray (by rfl) (by rfl) 23 _ hA0 (size32.trans (by simp [hpl])) (by simp [hpl, zerosB]) (by simp [byteV, Value.oneCell']) ?_
  simp only [Act.put, List.setIfInBounds_toArray, List.set_cons_zero, List.set_cons_succ]
  have hA : ArrB ((v2.alloc (.cells ((zerosB 32).map byteV).toArray 23)).setRow v2.heap.size ((p).map byteV).toArray) v2.heap.size 23 (p) := Blk.row hA0 _
  have e4 : Ext v2 ((v2.alloc (.cells ((zerosB 32).map byteV).toArray 23)).setRow v2.heap.size ((p).map byteV).toArray) := ((Ext.refl v2).alloc _).row (Nat.le_refl _) _
  clear hA0
  generalize (v2.alloc (.cells ((zerosB 32).map byteV).toArray 23)).setRow v2.heap.size ((p).map byteV).toArray = v3 at *
  have g5l := Blk.lt hA
  obtain ⟨g5, g5e⟩ : ∃ g5, g5 = v2.heap.size := ⟨_, rfl⟩
  rw [← g5e] at hA g5l
  try rw [← g5e]
  have g5b : v2.heap.size ≤ g5 := by omega
  replace hX := Blk.below hX e4 (Blk.lt hX)
  replace hY := Blk.below hY e4 (Blk.lt hY)
  replace hZ := Blk.below hZ e4 (Blk.lt hZ)
  replace hSa1 := hSa1.ext e4
  replace hSb1 := hSb1.ext e4
  replace hE := hE.trans e4
  clear e4
  clear g5e
  go_wp2_with (refine stop_load 23 (.tmp 9) rfl ?_)
  refine ⟨?_⟩
  refine wpList_load_row rfl 23 (.tmp 9) rfl (w.heap.size + 1) (by rfl) 23 _ (0, 0) _ hY Tryd.underlying23 rfl (size32.trans (by simp [hy])) ?_
  simp only [Act.put, List.setIfInBounds_toArray, List.set_cons_zero, List.set_cons_succ]
  go_wp2_with fail
  change Calls _ _ #[sumV y, _, _, _] _ _
  refine (Fold_sls y hy m n hn63 _ b hb hbl _ (KW.ext hE) hSb1).mono ?_; rw [← HQ.out]; rintro e v7 ⟨rfl, e6⟩
  replace hX := Blk.below hX e6 (Blk.lt hX)
  replace hY := Blk.below hY e6 (Blk.lt hY)
  replace hZ := Blk.below hZ e6 (Blk.lt hZ)
  replace hSa1 := hSa1.ext e6
  replace hSb1 := hSb1.ext e6
  replace hA := Blk.below hA e6 (Blk.lt hA)
  replace hE := hE.trans e6
  clear e6
  try unfold sumV
  go_wp2_with (refine stop_store 23 (.tmp 16) (.tmp 33) rfl ?_)
  refine ⟨?_⟩
  change wpList _ _ _ _ _ (v7.alloc (.cells ((zerosB 32).map byteV).toArray 23))
  have hB0 : ArrB (v7.alloc (.cells ((zerosB 32).map byteV).toArray 23)) v7.heap.size 23 (zerosB 32) := Blk.new _ _ _
  refine wpList_store_row rfl 23 (.tmp 16) (.tmp 33) rfl v7.heap.size ((q).map byteV).toArray (by rfl) (by rfl) 23 _ hB0 (size32.trans (by simp [hql])) (by simp [hql, zerosB]) (by simp [byteV, Value.oneCell']) ?_
  simp only [Act.put, List.setIfInBounds_toArray, List.set_cons_zero, List.set_cons_succ]
  have hB : ArrB ((v7.alloc (.cells ((zerosB 32).map byteV).toArray 23)).setRow v7.heap.size ((q).map byteV).toArray) v7.heap.size 23 (q) := Blk.row hB0 _
  have e9 : Ext v7 ((v7.alloc (.cells ((zerosB 32).map byteV).toArray 23)).setRow v7.heap.size ((q).map byteV).toArray) := ((Ext.refl v7).alloc _).row (Nat.le_refl _) _
  clear hB0
  generalize (v7.alloc (.cells ((zerosB 32).map byteV).toArray 23)).setRow v7.heap.size ((q).map byteV).toArray = v8 at *
  have g10l := Blk.lt hB
  obtain ⟨g10, g10e⟩ : ∃ g10, g10 = v7.heap.size := ⟨_, rfl⟩
  rw [← g10e] at hB g10l
  try rw [← g10e]
  have g10b : v7.heap.size ≤ g10 := by omega
  replace hX := Blk.below hX e9 (Blk.lt hX)
  replace hY := Blk.below hY e9 (Blk.lt hY)
  replace hZ := Blk.below hZ e9 (Blk.lt hZ)
  replace hSa1 := hSa1.ext e9
  replace hSb1 := hSb1.ext e9
  replace hA := Blk.below hA e9 (Blk.lt hA)
  replace hE := hE.trans e9
  clear e9
  clear g10e
  have z0 : v8.cell? ⟨w.heap.size + 1 + 1, 0, none⟩ = some (.string (bs [])) := Blk.cell hZ 0
  have z1 : v8.cell? ⟨w.heap.size + 1 + 1, 1, none⟩ = some (.string (bs [])) := Blk.cell hZ 1
  have f0 := Blk.frozen hZ 0
  have f1 := Blk.frozen hZ 1
  have hzl := Blk.lt hZ
  cases i
  · obtain rfl : R = none := HR.out
    go_wp2_with fail
    have hR5 := Blk.set_ (Blk.set_ hZ 0 (.string ⟨#[]⟩)) 1 (.string ⟨#[]⟩)
    refine bodyPost_ret (res_cell_t rfl _ _ (w.heap.size + 1 + 1) 57 _ _ rfl hR5 Tryd.underlying57 rfl size_twins) rfl ?_
    exact ⟨rfl, (hE.setCell (by simp; omega) _).setCell (by simp; omega) _⟩
  cases j
  · obtain rfl : R = none := HR.out
    go_wp2_with fail
    have hR5 := Blk.set_ (Blk.set_ hZ 0 (.string ⟨#[]⟩)) 1 (.string ⟨#[]⟩)
    refine bodyPost_ret (res_cell_t rfl _ _ (w.heap.size + 1 + 1) 57 _ _ rfl hR5 Tryd.underlying57 rfl size_twins) rfl ?_
    exact ⟨rfl, (hE.setCell (by simp; omega) _).setCell (by simp; omega) _⟩
  cases d
  · have hpq : ¬ p = q := of_decide_eq_false HD.out.symm
    obtain rfl : R = none := HR.out.trans (if_neg (by simp [hpq]))
    clear hpq
    go_wp2_with (refine stop_load 23 (.tmp 14) rfl ?_)
    refine ⟨?_⟩
    refine list_want (by rfl) (fun K hK => ?_)
    refine wp_load_row 23 (.tmp 14) rfl g5 (by rfl) 23 _ (0, 0) _ hA Tryd.underlying23 rfl (size32.trans (by simp [hpl])) ?_
    refine hK _ _ ?_; clear hK K
    simp only [Act.put, List.setIfInBounds_toArray, List.set_cons_zero, List.set_cons_succ]
    go_wp2_with (refine stop_load 23 (.tmp 16) rfl ?_)
    refine ⟨?_⟩
    refine list_want (by rfl) (fun K hK => ?_)
    refine wp_load_row 23 (.tmp 16) rfl g10 (by rfl) 23 _ (0, 0) _ hB Tryd.underlying23 rfl (size32.trans (by simp [hql])) ?_
    refine hK _ _ ?_; clear hK K
    simp only [Act.put, List.setIfInBounds_toArray, List.set_cons_zero, List.set_cons_succ]
    go_wp2_with fail
    have hR5 := Blk.set_ (Blk.set_ hZ 0 (.string ⟨#[]⟩)) 1 (.string ⟨#[]⟩)
    refine bodyPost_ret (res_cell_t rfl _ _ (w.heap.size + 1 + 1) 57 _ _ rfl hR5 Tryd.underlying57 rfl size_twins) rfl ?_
    exact ⟨rfl, (hE.setCell (by simp; omega) _).setCell (by simp; omega) _⟩
  have hpq : p = q := of_decide_eq_true HD.out.symm
  have hR : R = firstO (wayS x (Way.turnsI m n) a) (wayS y (Way.turnsI m n) b) := HR.out.trans (if_pos (by simp [hpq]))
  have hl1 := HO1.out rfl
  have hl2 := HO2.out rfl
  have hTa : (Way.turnsI m n).length = a.length := by have := Way.turnsI_length m n (by omega); omega
  have hTb : (Way.turnsI m n).length = b.length := by omega
  have hRl := first_flag (wayS x (Way.turnsI m n) a) (wayS y (Way.turnsI m n) b)
  rw [← hR] at hRl
  have HRR := Lib.hid hR
  have HTa := Lib.hid hTa
  have HTb := Lib.hid hTb
  clear hpq hR hl1 hl2 hTa hTb hRl
  go_wp2_with (refine stop_load 23 (.tmp 14) rfl ?_)
  refine ⟨?_⟩
  refine list_want (by rfl) (fun K hK => ?_)
  refine wp_load_row 23 (.tmp 14) rfl g5 (by rfl) 23 _ (0, 0) _ hA Tryd.underlying23 rfl (size32.trans (by simp [hpl])) ?_
  refine hK _ _ ?_; clear hK K
  simp only [Act.put, List.setIfInBounds_toArray, List.set_cons_zero, List.set_cons_succ]
  go_wp2_with (refine stop_load 23 (.tmp 16) rfl ?_)
  refine ⟨?_⟩
  refine list_want (by rfl) (fun K hK => ?_)
  refine wp_load_row 23 (.tmp 16) rfl g10 (by rfl) 23 _ (0, 0) _ hB Tryd.underlying23 rfl (size32.trans (by simp [hql])) ?_
  refine hK _ _ ?_; clear hK K
  simp only [Act.put, List.setIfInBounds_toArray, List.set_cons_zero, List.set_cons_succ]
  go_wp2_with fail
  refine (Turns_calls m n hn63 v8).mono ?_; rintro e wt ⟨vt, rfl, hO, et⟩
  obtain ⟨BT, cT, hvt, hrT, -⟩ := own_rd hO
  subst hvt
  clear hO
  replace hX := Blk.below hX et (Blk.lt hX)
  replace hY := Blk.below hY et (Blk.lt hY)
  replace hZ := Blk.below hZ et (Blk.lt hZ)
  replace hSa1 := hSa1.ext et
  replace hSb1 := hSb1.ext et
  replace hA := Blk.below hA et (Blk.lt hA)
  replace hB := Blk.below hB et (Blk.lt hB)
  replace hE := hE.trans et
  replace z0 : wt.cell? ⟨w.heap.size + 1 + 1, 0, none⟩ = some (.string (bs [])) := Blk.cell hZ 0
  replace z1 : wt.cell? ⟨w.heap.size + 1 + 1, 1, none⟩ = some (.string (bs [])) := Blk.cell hZ 1
  replace f0 := Blk.frozen hZ 0
  replace f1 := Blk.frozen hZ 1
  replace hzl := Blk.lt hZ
  clear et
  clear z0 z1 f0 f1 hzl
  obtain ⟨Aa', ca', hva, -, -, -, hra⟩ := id hSa1
  obtain ⟨Ab', cb', hvb, -, -, -, hrb⟩ := id hSb1
  injection hva with v1 v2 v3
  injection hvb with v4 v5 v6
  subst v1 v3 v4 v6
  clear v2 v5
  have hKs : ∀ z : More wt, Keys (grow wt z) := fun z => KW.ext (hE.trans (grow_ext z))
  have hras : ∀ z : More wt, Rd (grow wt z) (grow wt z).heap.size Aa (flatS a) := fun z => (hra.below (grow_ext z) (Nat.le_refl _)).more (grow_ext z).size
  have hrbs : ∀ z : More wt, Rd (grow wt z) (grow wt z).heap.size Ab (flatS b) := fun z => (hrb.below (grow_ext z) (Nat.le_refl _)).more (grow_ext z).size
  have hrTs : ∀ z : More wt, Rd (grow wt z) (grow wt z).heap.size BT ((Way.turnsI m n).map Value.bool) := fun z => (hrT.below (grow_ext z) (Nat.le_refl _)).more (grow_ext z).size
  clear hra hrb hrT
  obtain ⟨T, hT⟩ : ∃ T, T = Way.turnsI m n := ⟨_, rfl⟩
  rw [← hT] at hrTs HRR HTa HTb ⊢
  have HT := Lib.hid hT
  clear hT
  go_wp2_with fail
  refine region_mix 11 (by kernel_rfl) (by kernel_rfl) (fun y0 => ?_); simp only [List.take_succ_cons, List.take_zero, List.drop_succ_cons, List.drop_zero]
  refine mix_row (by rfl) (by rfl) 23 (.tmp 8) rfl w.heap.size (by rfl) 23 _ _ hX Tryd.underlying23 rfl (size32.trans (by simp [hx])) ?_
  simp only [Act.put, List.setIfInBounds_toArray, List.set_cons_zero, List.set_cons_succ]
  iterate 2 (first | (refine mix_quiet (by rfl) (by rfl) (fun K hK => ?_); go_big_quiet_op; refine hK _ ?_; clear hK K) | (refine mix_skip (by rfl) ?_; simp only [Act.put, List.setIfInBounds_toArray, List.set_cons_zero, List.set_cons_succ]))
  (refine mix_loud (by rfl) (by rfl) (fun K E hK => ?_); go_big_op)
  change Calls _ _ #[sumV x, _, _] _ _
  refine (way_calls x hx Aa ca a ha hal T BT cT HTa.out _ (hKs _) (hras _) (hrTs _)).mono ?_; rintro e w5 ⟨v5, rfl, hO1, hd⟩
  obtain ⟨x1, rfl⟩ := more_ext _ hd; clear hd
  refine hK _ _ ⟨_, rfl⟩ ?_; clear hK K E
  refine mix_row (by rfl) (by rfl) 23 (.tmp 9) rfl (w.heap.size + 1) (by rfl) 23 _ _ hY Tryd.underlying23 rfl (size32.trans (by simp [hy])) ?_
  simp only [Act.put, List.setIfInBounds_toArray, List.set_cons_zero, List.set_cons_succ]
  iterate 2 (first | (refine mix_quiet (by rfl) (by rfl) (fun K hK => ?_); go_big_quiet_op; refine hK _ ?_; clear hK K) | (refine mix_skip (by rfl) ?_; simp only [Act.put, List.setIfInBounds_toArray, List.set_cons_zero, List.set_cons_succ]))
  (refine mix_loud (by rfl) (by rfl) (fun K E hK => ?_); go_big_op)
  change Calls _ _ #[sumV y, _, _] _ _
  refine (way_calls y hy Ab cb b hb hbl T BT cT HTb.out _ (hKs _) (hrbs _) (hrTs _)).mono ?_; rintro e w6 ⟨v6, rfl, hO2, hd⟩
  replace hO1 := owns_ext hO1 hd
  obtain ⟨x2, rfl⟩ := more_ext _ hd; clear hd
  refine hK _ _ ⟨_, rfl⟩ ?_; clear hK K E
  obtain ⟨A5, c5, rfl, hr5⟩ := ownT_rd hO1
  obtain ⟨A6, c6, rfl, hr6⟩ := ownT_rd hO2
  clear hO1 hO2
  have hb5 : ∀ s ∈ wayS x T a, s.length ≤ 4611686018427380000 := fun s hs => by rw [wayS_bound T a x hx ha s hs]; omega
  have hb6 : ∀ s ∈ wayS y T b, s.length ≤ 4611686018427380000 := fun s hs => by rw [wayS_bound T b y hy hb s hs]; omega
  have hl5 : (wayS x T a).length ≤ 1000000 := by rw [way_len x T a HTa.out]; exact hal
  have hl6 : (wayS y T b).length ≤ 1000000 := by rw [way_len y T b HTb.out]; exact hbl
  (refine mix_loud (by rfl) (by rfl) (fun K E hK => ?_); go_big_op)
  refine (first_calls _ _ hb5 hb6 hl5 hl6 A5 A6 c5 c6 _ (hKs _) hr5 hr6).mono ?_; rw [← HRR.out]; rintro e w7 ⟨rfl, hd⟩
  obtain ⟨x3, rfl⟩ := more_ext _ hd; clear hd hr5 hr6 hb5 hb6 hl5 hl6
  refine hK _ _ ⟨_, rfl⟩ ?_; clear hK K E
  repeat (first | (refine mix_quiet (by rfl) (by rfl) (fun K hK => ?_); go_big_quiet_op; refine hK _ ?_; clear hK K) | (refine mix_skip (by rfl) ?_; simp only [Act.put, List.setIfInBounds_toArray, List.set_cons_zero, List.set_cons_succ]))
  refine mix_nil ?_
  have e9 := grow_ext x3
  clear hKs hras hrbs hrTs
  generalize grow wt x3 = w9 at *
  replace hZ := Blk.below hZ e9 (Blk.lt hZ)
  replace hE := hE.trans e9
  clear e9
  have f0 := Blk.frozen hZ 0
  have f1 := Blk.frozen hZ 1
  have z0 : w9.cell? ⟨w.heap.size + 1 + 1, 0, none⟩ = some (.string (bs [])) := Blk.cell hZ 0
  have z1 : w9.cell? ⟨w.heap.size + 1 + 1, 1, none⟩ = some (.string (bs [])) := Blk.cell hZ 1
  have hzl := Blk.lt hZ
  unfold twC
  obtain ⟨s, hs⟩ : ∃ s, s = (R.getD ([], [])).1 := ⟨_, rfl⟩
  obtain ⟨t, ht⟩ : ∃ t, t = (R.getD ([], [])).2 := ⟨_, rfl⟩
  rw [← hs, ← ht]
  have HS := Lib.hid hs
  have HTT := Lib.hid ht
  clear hs ht
  have hR5 := Blk.set_ (Blk.set_ hZ 0 (.string (bs s))) 1 (.string (bs t))
  go_wp2_with fail
  refine bodyPost_ret (res_cell_t rfl _ _ (w.heap.size + 1 + 1) 57 _ _ rfl hR5 Tryd.underlying57 rfl size_twins) rfl ?_
  exact ⟨by rw [HS.out, HTT.out]; rfl, (hE.setCell (by simp; omega) _).setCell (by simp; omega) _⟩

end Go.Proofs.YtfpipdopgepelaaDoor
