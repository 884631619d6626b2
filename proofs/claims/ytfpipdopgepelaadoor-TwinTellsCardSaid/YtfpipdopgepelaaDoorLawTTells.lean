/-
  scriniumlaw13.TwinTells: no condition.
-/
import Derived.Test.YtfpipdopgepelaaDoorTwinT
import Derived.Test.YtfpipdopgepelaaDoorOpR
import Derived.Test.YtfpipdopgepelaaDoorEqA
import Derived.Test.YtfpipdopgepelaaDoorLaw
import Derived.Deep.DeepCutAuto
set_option linter.unusedVariables false
set_option maxRecDepth 100000
set_option linter.unusedSimpArgs false
namespace Go.Proofs.YtfpipdopgepelaaDoor.twinTells
open Go.ChangeShapes Go.WideShapes Go.ChangeAt Go.RowKit
attribute [local go_sem] bs_size bs_toList2 bs_append bs_extract_end bs_extract_begin bs_get wrap64_b grow_cell grow_frozen

/-! ### The walk -/
set_option maxHeartbeats 8000000 in
theorem walk (xa ya : List UInt8) (hxa : xa.length = 32) (hya : ya.length = 32) (m n : Int) (hmm : -9223372036854775808 ≤ m ∧ m ≤ 9223372036854775807) (hn : -9223372036854775808 ≤ n ∧ n ≤ 9223372036854775807) (ca cb : Value) (la lb : List (List UInt8)) (one : Bool) (w : World) (KW : Keys w) (hSa : SlS w w.heap.size ca la) (hSb : SlS w w.heap.size cb lb) (hla : AllH la) (hlb : AllH lb) :
    Calls Tryd.prog 14 #[.agg #[.int .i64 m, .int .i64 n], .agg (flatS [xa, ya]).toArray, .agg #[ca, cb, .bool one]] w fun e w' => e = .returned (.bool true) ∧ Ext w w' := by
  have hgw := guard_sum
  have hgt := guard_twins
  have hht := held_twins
  have hall : AllH [xa, ya] := AllH.cons hxa (AllH.cons hya AllH.nil)
  obtain ⟨Pa, ka, rfl, hPa⟩ := hSa
  obtain ⟨Pb, kb, rfl, hPb⟩ := hSb
  have hSa : SlS w w.heap.size (.slice Pa la.length ka) la := ⟨Pa, ka, rfl, hPa⟩
  have hSb : SlS w w.heap.size (.slice Pb lb.length kb) lb := ⟨Pb, kb, rfl, hPb⟩
  clear hPa hPb
  go_enter Tryd.func14, Tryd.ntmps14
  go_wp2_with fail
  have hM : Blk (((w.alloc (.cells #[.int .i64 m, .int .i64 n] 24)).alloc (.cells (flatS [xa, ya]).toArray 41)).alloc (.cells #[.slice Pa la.length ka, .slice Pb lb.length kb, .bool one] 55)) w.heap.size 24 #[.int .i64 m, .int .i64 n] := Blk.alloc (Blk.alloc (Blk.new _ _ _) _) _
  have hX : Blk (((w.alloc (.cells #[.int .i64 m, .int .i64 n] 24)).alloc (.cells (flatS [xa, ya]).toArray 41)).alloc (.cells #[.slice Pa la.length ka, .slice Pb lb.length kb, .bool one] 55)) (w.heap.size + 1) 41 (flatS [xa, ya]).toArray := by
    have := Blk.new (w.alloc (.cells #[.int .i64 m, .int .i64 n] 24)) 41 (flatS [xa, ya]).toArray
    rw [alloc_size] at this
    exact Blk.alloc this _
  have hL : Blk (((w.alloc (.cells #[.int .i64 m, .int .i64 n] 24)).alloc (.cells (flatS [xa, ya]).toArray 41)).alloc (.cells #[.slice Pa la.length ka, .slice Pb lb.length kb, .bool one] 55)) (w.heap.size + 1 + 1) 55 #[.slice Pa la.length ka, .slice Pb lb.length kb, .bool one] := by
    have := Blk.new ((w.alloc (.cells #[.int .i64 m, .int .i64 n] 24)).alloc (.cells (flatS [xa, ya]).toArray 41)) 55 #[.slice Pa la.length ka, .slice Pb lb.length kb, .bool one]
    simp only [alloc_size] at this
    exact this
  have hE : Ext w (((w.alloc (.cells #[.int .i64 m, .int .i64 n] 24)).alloc (.cells (flatS [xa, ya]).toArray 41)).alloc (.cells #[.slice Pa la.length ka, .slice Pb lb.length kb, .bool one] 55)) := (((Ext.refl w).alloc _).alloc _).alloc _
  generalize (((w.alloc (.cells #[.int .i64 m, .int .i64 n] 24)).alloc (.cells (flatS [xa, ya]).toArray 41)).alloc (.cells #[.slice Pa la.length ka, .slice Pb lb.length kb, .bool one] 55)) = w1 at *
  refine (awake13_calls _ (KW.ext hE)).mono ?_; rintro e v2 ⟨rfl, e1⟩
  replace hX := Blk.below hX e1 (Blk.lt hX)
  replace hM := Blk.below hM e1 (Blk.lt hM)
  replace hL := Blk.below hL e1 (Blk.lt hL)
  replace hE := hE.trans e1
  clear e1
  have c0 : v2.cell? ⟨w.heap.size, 0, none⟩ = some (.int .i64 m) := Blk.cell hM 0
  have c1 : v2.cell? ⟨w.heap.size, 1, none⟩ = some (.int .i64 n) := Blk.cell hM 1
  have c2 : v2.cell? ⟨w.heap.size + 1 + 1, 0, none⟩ = some (.slice Pa la.length ka) := Blk.cell hL 0
  have c3 : v2.cell? ⟨w.heap.size + 1 + 1, 1, none⟩ = some (.slice Pb lb.length kb) := Blk.cell hL 1
  have c4 : v2.cell? ⟨w.heap.size + 1 + 1, 2, none⟩ = some (.bool one) := Blk.cell hL 2
  have hm0 : v2.rangeAt (w.heap.size + 1) 0 (hcells xa) := blk_mid hX hall 0 (by simp)
  have hm1 : v2.rangeAt (w.heap.size + 1) 32 (hcells ya) := blk_mid hX hall 1 (by simp)
  have hMl := Blk.lt hM
  have hLl := Blk.lt hL
  have hXl := Blk.lt hX
  go_wp2_with fail
  refine (few13_calls _ la hla _ (hSa.ext hE)).mono ?_; rintro e wf ⟨va, rfl, hFa, rfl⟩
  have hAa := hla.take 50
  have hla5 : (la.take 50).length ≤ 1000000 := by rw [List.length_take]; omega
  generalize la.take 50 = A at *
  obtain ⟨Qa, qa, rfl, hQa⟩ := hFa
  have hFa : SlS v2 v2.heap.size (.slice Qa A.length qa) A := ⟨Qa, qa, rfl, hQa⟩
  clear hQa
  go_wp2_with fail
  refine (few13_calls _ lb hlb _ (hSb.ext hE)).mono ?_; rintro e wg ⟨vb, rfl, hFb, rfl⟩
  have hAb := hlb.take 50
  have hlb5 : (lb.take 50).length ≤ 1000000 := by rw [List.length_take]; omega
  generalize lb.take 50 = B at *
  obtain ⟨Qb, qb, rfl, hQb⟩ := hFb
  have hFb : SlS v2 v2.heap.size (.slice Qb B.length qb) B := ⟨Qb, qb, rfl, hQb⟩
  clear hQb hSa hSb
  cases one
  · skip
    obtain ⟨R1, hR1⟩ : ∃ R, R = leavesP m n xa ya A B := ⟨_, rfl⟩
    obtain ⟨R2, hR2⟩ : ∃ R, R = treesP m n xa ya A B := ⟨_, rfl⟩
    have HR1 := Lib.hid hR1
    have HR2 := Lib.hid hR2
    clear hR1 hR2
    have tw1 : twC R1 = #[.string (bs (R1.getD ([], [])).1), .string (bs (R1.getD ([], [])).2)] := rfl
    have tw2 : twC R2 = #[.string (bs (R2.getD ([], [])).1), .string (bs (R2.getD ([], [])).2)] := rfl
    generalize (R1.getD ([], [])).1 = s1 at *
    generalize (R1.getD ([], [])).2 = t1 at *
    generalize (R2.getD ([], [])).1 = s2 at *
    generalize (R2.getD ([], [])).2 = t2 at *
    have TW1 := Lib.hid tw1
    have TW2 := Lib.hid tw2
    clear tw1 tw2
    go_wp2_with (refine stop_load 23 (.tmp 33) rfl ?_)
    refine ⟨?_⟩
    refine wpList_load_mid rfl 23 (.tmp 33) rfl (w.heap.size + 1) (0) (by rfl) (hcells xa) _ hm0 Tryd.underlying23 rfl (size32l _ hxa) ?_
    simp only [Act.put, List.setIfInBounds_toArray, List.set_cons_zero, List.set_cons_succ]
    unfold hcells
    go_wp2_with (refine stop_load 23 (.tmp 35) rfl ?_)
    refine ⟨?_⟩
    refine wpList_load_mid rfl 23 (.tmp 35) rfl (w.heap.size + 1) (32) (by rfl) (hcells ya) _ hm1 Tryd.underlying23 rfl (size32l _ hya) ?_
    simp only [Act.put, List.setIfInBounds_toArray, List.set_cons_zero, List.set_cons_succ]
    unfold hcells
    go_wp2_with fail
    change Calls _ _ #[_, _, sumV xa, sumV ya, _, _] _ _
    refine (Leaves_calls m n hn.2 xa ya hxa hya _ _ A B hAa hAb hla5 hlb5 _ (KW.ext hE) hFa hFb).mono ?_; rw [← HR1.out, TW1.out]; rintro e v4 ⟨rfl, e3⟩
    replace hX := Blk.below hX e3 (Blk.lt hX)
    replace hM := Blk.below hM e3 (Blk.lt hM)
    replace hL := Blk.below hL e3 (Blk.lt hL)
    replace hFa := hFa.ext e3
    replace hFb := hFb.ext e3
    replace hE := hE.trans e3
    replace c0 : v4.cell? ⟨w.heap.size, 0, none⟩ = some (.int .i64 m) := Blk.cell hM 0
    replace c1 : v4.cell? ⟨w.heap.size, 1, none⟩ = some (.int .i64 n) := Blk.cell hM 1
    replace c2 : v4.cell? ⟨w.heap.size + 1 + 1, 0, none⟩ = some (.slice Pa la.length ka) := Blk.cell hL 0
    replace c3 : v4.cell? ⟨w.heap.size + 1 + 1, 1, none⟩ = some (.slice Pb lb.length kb) := Blk.cell hL 1
    replace c4 : v4.cell? ⟨w.heap.size + 1 + 1, 2, none⟩ = some (.bool false) := Blk.cell hL 2
    replace hm0 : v4.rangeAt (w.heap.size + 1) 0 (hcells xa) := blk_mid hX hall 0 (by simp)
    replace hm1 : v4.rangeAt (w.heap.size + 1) 32 (hcells ya) := blk_mid hX hall 1 (by simp)
    replace hMl := Blk.lt hM
    replace hLl := Blk.lt hL
    replace hXl := Blk.lt hX
    clear e3
    go_wp2_with (refine stop_load 23 (.tmp 47) rfl ?_)
    refine ⟨?_⟩
    change wpList _ _ _ _ _ (v4.alloc (.cells #[.string (bs s1), .string (bs t1)] 57))
    have hN1 := Blk.new v4 57 #[.string (bs s1), .string (bs t1)]
    have e7 : Ext v4 (v4.alloc (.cells #[.string (bs s1), .string (bs t1)] 57)) := (Ext.refl v4).alloc _
    obtain ⟨g6, g6e⟩ : ∃ g6, g6 = v4.heap.size := ⟨_, rfl⟩
    try rw [← v4z]
    try rw [← g6e]
    rw [← g6e] at hN1
    have v5z : (v4.alloc (.cells #[.string (bs s1), .string (bs t1)] 57)).heap.size = g6 + 1 := by rw [alloc_size, ← g6e]
    have g6b : v4.heap.size ≤ g6 := by omega
    generalize v4.alloc (.cells #[.string (bs s1), .string (bs t1)] 57) = v5 at *
    clear g6e
    replace hX := Blk.below hX e7 (Blk.lt hX)
    replace hM := Blk.below hM e7 (Blk.lt hM)
    replace hL := Blk.below hL e7 (Blk.lt hL)
    replace hFa := hFa.ext e7
    replace hFb := hFb.ext e7
    replace hE := hE.trans e7
    replace c0 : v5.cell? ⟨w.heap.size, 0, none⟩ = some (.int .i64 m) := Blk.cell hM 0
    replace c1 : v5.cell? ⟨w.heap.size, 1, none⟩ = some (.int .i64 n) := Blk.cell hM 1
    replace c2 : v5.cell? ⟨w.heap.size + 1 + 1, 0, none⟩ = some (.slice Pa la.length ka) := Blk.cell hL 0
    replace c3 : v5.cell? ⟨w.heap.size + 1 + 1, 1, none⟩ = some (.slice Pb lb.length kb) := Blk.cell hL 1
    replace c4 : v5.cell? ⟨w.heap.size + 1 + 1, 2, none⟩ = some (.bool false) := Blk.cell hL 2
    replace hm0 : v5.rangeAt (w.heap.size + 1) 0 (hcells xa) := blk_mid hX hall 0 (by simp)
    replace hm1 : v5.rangeAt (w.heap.size + 1) 32 (hcells ya) := blk_mid hX hall 1 (by simp)
    replace hMl := Blk.lt hM
    replace hLl := Blk.lt hL
    replace hXl := Blk.lt hX
    clear e7
    have ca0 : v5.cell? ⟨g6, 0, none⟩ = some (.string (bs s1)) := Blk.cell hN1 0
    have ca1 : v5.cell? ⟨g6, 1, none⟩ = some (.string (bs t1)) := Blk.cell hN1 1
    have cal := Blk.lt hN1
    refine wpList_load_mid rfl 23 (.tmp 47) rfl (w.heap.size + 1) (0) (by rfl) (hcells xa) _ hm0 Tryd.underlying23 rfl (size32l _ hxa) ?_
    simp only [Act.put, List.setIfInBounds_toArray, List.set_cons_zero, List.set_cons_succ]
    unfold hcells
    go_wp2_with (refine stop_load 23 (.tmp 49) rfl ?_)
    refine ⟨?_⟩
    refine wpList_load_mid rfl 23 (.tmp 49) rfl (w.heap.size + 1) (32) (by rfl) (hcells ya) _ hm1 Tryd.underlying23 rfl (size32l _ hya) ?_
    simp only [Act.put, List.setIfInBounds_toArray, List.set_cons_zero, List.set_cons_succ]
    unfold hcells
    go_wp2_with fail
    change Calls _ _ #[_, _, sumV xa, sumV ya, _, _] _ _
    refine (refLeaves_calls m n xa ya hxa hya _ _ A B hAa hAb hla5 hlb5 _ hFa hFb).mono ?_; rw [← HR1.out, TW1.out]; rintro e v9 ⟨rfl, e8⟩
    replace hX := Blk.below hX e8 (Blk.lt hX)
    replace hM := Blk.below hM e8 (Blk.lt hM)
    replace hL := Blk.below hL e8 (Blk.lt hL)
    replace hFa := hFa.ext e8
    replace hFb := hFb.ext e8
    replace hN1 := Blk.below hN1 e8 (Blk.lt hN1)
    replace hE := hE.trans e8
    replace c0 : v9.cell? ⟨w.heap.size, 0, none⟩ = some (.int .i64 m) := Blk.cell hM 0
    replace c1 : v9.cell? ⟨w.heap.size, 1, none⟩ = some (.int .i64 n) := Blk.cell hM 1
    replace c2 : v9.cell? ⟨w.heap.size + 1 + 1, 0, none⟩ = some (.slice Pa la.length ka) := Blk.cell hL 0
    replace c3 : v9.cell? ⟨w.heap.size + 1 + 1, 1, none⟩ = some (.slice Pb lb.length kb) := Blk.cell hL 1
    replace c4 : v9.cell? ⟨w.heap.size + 1 + 1, 2, none⟩ = some (.bool false) := Blk.cell hL 2
    replace hm0 : v9.rangeAt (w.heap.size + 1) 0 (hcells xa) := blk_mid hX hall 0 (by simp)
    replace hm1 : v9.rangeAt (w.heap.size + 1) 32 (hcells ya) := blk_mid hX hall 1 (by simp)
    replace hMl := Blk.lt hM
    replace hLl := Blk.lt hL
    replace hXl := Blk.lt hX
    replace ca0 : v9.cell? ⟨g6, 0, none⟩ = some (.string (bs s1)) := Blk.cell hN1 0
    replace ca1 : v9.cell? ⟨g6, 1, none⟩ = some (.string (bs t1)) := Blk.cell hN1 1
    replace cal := Blk.lt hN1
    clear e8
    go_wp2_with (refine stop_load 23 (.tmp 61) rfl ?_)
    refine ⟨?_⟩
    change wpList _ _ _ _ _ (v9.alloc (.cells #[.string (bs s1), .string (bs t1)] 57))
    have hN2 := Blk.new v9 57 #[.string (bs s1), .string (bs t1)]
    have e12 : Ext v9 (v9.alloc (.cells #[.string (bs s1), .string (bs t1)] 57)) := (Ext.refl v9).alloc _
    obtain ⟨g11, g11e⟩ : ∃ g11, g11 = v9.heap.size := ⟨_, rfl⟩
    try rw [← v9z]
    try rw [← g11e]
    rw [← g11e] at hN2
    have v10z : (v9.alloc (.cells #[.string (bs s1), .string (bs t1)] 57)).heap.size = g11 + 1 := by rw [alloc_size, ← g11e]
    have g11b : v9.heap.size ≤ g11 := by omega
    generalize v9.alloc (.cells #[.string (bs s1), .string (bs t1)] 57) = v10 at *
    clear g11e
    replace hX := Blk.below hX e12 (Blk.lt hX)
    replace hM := Blk.below hM e12 (Blk.lt hM)
    replace hL := Blk.below hL e12 (Blk.lt hL)
    replace hFa := hFa.ext e12
    replace hFb := hFb.ext e12
    replace hN1 := Blk.below hN1 e12 (Blk.lt hN1)
    replace hE := hE.trans e12
    replace c0 : v10.cell? ⟨w.heap.size, 0, none⟩ = some (.int .i64 m) := Blk.cell hM 0
    replace c1 : v10.cell? ⟨w.heap.size, 1, none⟩ = some (.int .i64 n) := Blk.cell hM 1
    replace c2 : v10.cell? ⟨w.heap.size + 1 + 1, 0, none⟩ = some (.slice Pa la.length ka) := Blk.cell hL 0
    replace c3 : v10.cell? ⟨w.heap.size + 1 + 1, 1, none⟩ = some (.slice Pb lb.length kb) := Blk.cell hL 1
    replace c4 : v10.cell? ⟨w.heap.size + 1 + 1, 2, none⟩ = some (.bool false) := Blk.cell hL 2
    replace hm0 : v10.rangeAt (w.heap.size + 1) 0 (hcells xa) := blk_mid hX hall 0 (by simp)
    replace hm1 : v10.rangeAt (w.heap.size + 1) 32 (hcells ya) := blk_mid hX hall 1 (by simp)
    replace hMl := Blk.lt hM
    replace hLl := Blk.lt hL
    replace hXl := Blk.lt hX
    replace ca0 : v10.cell? ⟨g6, 0, none⟩ = some (.string (bs s1)) := Blk.cell hN1 0
    replace ca1 : v10.cell? ⟨g6, 1, none⟩ = some (.string (bs t1)) := Blk.cell hN1 1
    replace cal := Blk.lt hN1
    clear e12
    have cb0 : v10.cell? ⟨g11, 0, none⟩ = some (.string (bs s1)) := Blk.cell hN2 0
    have cb1 : v10.cell? ⟨g11, 1, none⟩ = some (.string (bs t1)) := Blk.cell hN2 1
    have cbl := Blk.lt hN2
    refine wpList_load_mid rfl 23 (.tmp 61) rfl (w.heap.size + 1) (0) (by rfl) (hcells xa) _ hm0 Tryd.underlying23 rfl (size32l _ hxa) ?_
    simp only [Act.put, List.setIfInBounds_toArray, List.set_cons_zero, List.set_cons_succ]
    unfold hcells
    go_wp2_with (refine stop_load 23 (.tmp 63) rfl ?_)
    refine ⟨?_⟩
    refine wpList_load_mid rfl 23 (.tmp 63) rfl (w.heap.size + 1) (32) (by rfl) (hcells ya) _ hm1 Tryd.underlying23 rfl (size32l _ hya) ?_
    simp only [Act.put, List.setIfInBounds_toArray, List.set_cons_zero, List.set_cons_succ]
    unfold hcells
    go_wp2_with fail
    change Calls _ _ #[_, _, sumV xa, sumV ya, _, _] _ _
    refine (Trees_calls m n hn.2 xa ya hxa hya _ _ A B hAa hAb hla5 hlb5 _ (KW.ext hE) hFa hFb).mono ?_; rw [← HR2.out, TW2.out]; rintro e v14 ⟨rfl, e13⟩
    replace hX := Blk.below hX e13 (Blk.lt hX)
    replace hM := Blk.below hM e13 (Blk.lt hM)
    replace hL := Blk.below hL e13 (Blk.lt hL)
    replace hFa := hFa.ext e13
    replace hFb := hFb.ext e13
    replace hN1 := Blk.below hN1 e13 (Blk.lt hN1)
    replace hN2 := Blk.below hN2 e13 (Blk.lt hN2)
    replace hE := hE.trans e13
    replace c0 : v14.cell? ⟨w.heap.size, 0, none⟩ = some (.int .i64 m) := Blk.cell hM 0
    replace c1 : v14.cell? ⟨w.heap.size, 1, none⟩ = some (.int .i64 n) := Blk.cell hM 1
    replace c2 : v14.cell? ⟨w.heap.size + 1 + 1, 0, none⟩ = some (.slice Pa la.length ka) := Blk.cell hL 0
    replace c3 : v14.cell? ⟨w.heap.size + 1 + 1, 1, none⟩ = some (.slice Pb lb.length kb) := Blk.cell hL 1
    replace c4 : v14.cell? ⟨w.heap.size + 1 + 1, 2, none⟩ = some (.bool false) := Blk.cell hL 2
    replace hm0 : v14.rangeAt (w.heap.size + 1) 0 (hcells xa) := blk_mid hX hall 0 (by simp)
    replace hm1 : v14.rangeAt (w.heap.size + 1) 32 (hcells ya) := blk_mid hX hall 1 (by simp)
    replace hMl := Blk.lt hM
    replace hLl := Blk.lt hL
    replace hXl := Blk.lt hX
    replace ca0 : v14.cell? ⟨g6, 0, none⟩ = some (.string (bs s1)) := Blk.cell hN1 0
    replace ca1 : v14.cell? ⟨g6, 1, none⟩ = some (.string (bs t1)) := Blk.cell hN1 1
    replace cal := Blk.lt hN1
    replace cb0 : v14.cell? ⟨g11, 0, none⟩ = some (.string (bs s1)) := Blk.cell hN2 0
    replace cb1 : v14.cell? ⟨g11, 1, none⟩ = some (.string (bs t1)) := Blk.cell hN2 1
    replace cbl := Blk.lt hN2
    clear e13
    go_wp2_with (refine stop_load 23 (.tmp 75) rfl ?_)
    refine ⟨?_⟩
    change wpList _ _ _ _ _ (v14.alloc (.cells #[.string (bs s2), .string (bs t2)] 57))
    have hN3 := Blk.new v14 57 #[.string (bs s2), .string (bs t2)]
    have e17 : Ext v14 (v14.alloc (.cells #[.string (bs s2), .string (bs t2)] 57)) := (Ext.refl v14).alloc _
    obtain ⟨g16, g16e⟩ : ∃ g16, g16 = v14.heap.size := ⟨_, rfl⟩
    try rw [← v14z]
    try rw [← g16e]
    rw [← g16e] at hN3
    have v15z : (v14.alloc (.cells #[.string (bs s2), .string (bs t2)] 57)).heap.size = g16 + 1 := by rw [alloc_size, ← g16e]
    have g16b : v14.heap.size ≤ g16 := by omega
    generalize v14.alloc (.cells #[.string (bs s2), .string (bs t2)] 57) = v15 at *
    clear g16e
    replace hX := Blk.below hX e17 (Blk.lt hX)
    replace hM := Blk.below hM e17 (Blk.lt hM)
    replace hL := Blk.below hL e17 (Blk.lt hL)
    replace hFa := hFa.ext e17
    replace hFb := hFb.ext e17
    replace hN1 := Blk.below hN1 e17 (Blk.lt hN1)
    replace hN2 := Blk.below hN2 e17 (Blk.lt hN2)
    replace hE := hE.trans e17
    replace c0 : v15.cell? ⟨w.heap.size, 0, none⟩ = some (.int .i64 m) := Blk.cell hM 0
    replace c1 : v15.cell? ⟨w.heap.size, 1, none⟩ = some (.int .i64 n) := Blk.cell hM 1
    replace c2 : v15.cell? ⟨w.heap.size + 1 + 1, 0, none⟩ = some (.slice Pa la.length ka) := Blk.cell hL 0
    replace c3 : v15.cell? ⟨w.heap.size + 1 + 1, 1, none⟩ = some (.slice Pb lb.length kb) := Blk.cell hL 1
    replace c4 : v15.cell? ⟨w.heap.size + 1 + 1, 2, none⟩ = some (.bool false) := Blk.cell hL 2
    replace hm0 : v15.rangeAt (w.heap.size + 1) 0 (hcells xa) := blk_mid hX hall 0 (by simp)
    replace hm1 : v15.rangeAt (w.heap.size + 1) 32 (hcells ya) := blk_mid hX hall 1 (by simp)
    replace hMl := Blk.lt hM
    replace hLl := Blk.lt hL
    replace hXl := Blk.lt hX
    replace ca0 : v15.cell? ⟨g6, 0, none⟩ = some (.string (bs s1)) := Blk.cell hN1 0
    replace ca1 : v15.cell? ⟨g6, 1, none⟩ = some (.string (bs t1)) := Blk.cell hN1 1
    replace cal := Blk.lt hN1
    replace cb0 : v15.cell? ⟨g11, 0, none⟩ = some (.string (bs s1)) := Blk.cell hN2 0
    replace cb1 : v15.cell? ⟨g11, 1, none⟩ = some (.string (bs t1)) := Blk.cell hN2 1
    replace cbl := Blk.lt hN2
    clear e17
    have cc0 : v15.cell? ⟨g16, 0, none⟩ = some (.string (bs s2)) := Blk.cell hN3 0
    have cc1 : v15.cell? ⟨g16, 1, none⟩ = some (.string (bs t2)) := Blk.cell hN3 1
    have ccl := Blk.lt hN3
    refine wpList_load_mid rfl 23 (.tmp 75) rfl (w.heap.size + 1) (0) (by rfl) (hcells xa) _ hm0 Tryd.underlying23 rfl (size32l _ hxa) ?_
    simp only [Act.put, List.setIfInBounds_toArray, List.set_cons_zero, List.set_cons_succ]
    unfold hcells
    go_wp2_with (refine stop_load 23 (.tmp 77) rfl ?_)
    refine ⟨?_⟩
    refine wpList_load_mid rfl 23 (.tmp 77) rfl (w.heap.size + 1) (32) (by rfl) (hcells ya) _ hm1 Tryd.underlying23 rfl (size32l _ hya) ?_
    simp only [Act.put, List.setIfInBounds_toArray, List.set_cons_zero, List.set_cons_succ]
    unfold hcells
    go_wp2_with fail
    change Calls _ _ #[_, _, sumV xa, sumV ya, _, _] _ _
    refine (refTrees_calls m n xa ya hxa hya _ _ A B hAa hAb hla5 hlb5 _ hFa hFb).mono ?_; rw [← HR2.out, TW2.out]; rintro e v19 ⟨rfl, e18⟩
    replace hX := Blk.below hX e18 (Blk.lt hX)
    replace hM := Blk.below hM e18 (Blk.lt hM)
    replace hL := Blk.below hL e18 (Blk.lt hL)
    replace hFa := hFa.ext e18
    replace hFb := hFb.ext e18
    replace hN1 := Blk.below hN1 e18 (Blk.lt hN1)
    replace hN2 := Blk.below hN2 e18 (Blk.lt hN2)
    replace hN3 := Blk.below hN3 e18 (Blk.lt hN3)
    replace hE := hE.trans e18
    replace c0 : v19.cell? ⟨w.heap.size, 0, none⟩ = some (.int .i64 m) := Blk.cell hM 0
    replace c1 : v19.cell? ⟨w.heap.size, 1, none⟩ = some (.int .i64 n) := Blk.cell hM 1
    replace c2 : v19.cell? ⟨w.heap.size + 1 + 1, 0, none⟩ = some (.slice Pa la.length ka) := Blk.cell hL 0
    replace c3 : v19.cell? ⟨w.heap.size + 1 + 1, 1, none⟩ = some (.slice Pb lb.length kb) := Blk.cell hL 1
    replace c4 : v19.cell? ⟨w.heap.size + 1 + 1, 2, none⟩ = some (.bool false) := Blk.cell hL 2
    replace hm0 : v19.rangeAt (w.heap.size + 1) 0 (hcells xa) := blk_mid hX hall 0 (by simp)
    replace hm1 : v19.rangeAt (w.heap.size + 1) 32 (hcells ya) := blk_mid hX hall 1 (by simp)
    replace hMl := Blk.lt hM
    replace hLl := Blk.lt hL
    replace hXl := Blk.lt hX
    replace ca0 : v19.cell? ⟨g6, 0, none⟩ = some (.string (bs s1)) := Blk.cell hN1 0
    replace ca1 : v19.cell? ⟨g6, 1, none⟩ = some (.string (bs t1)) := Blk.cell hN1 1
    replace cal := Blk.lt hN1
    replace cb0 : v19.cell? ⟨g11, 0, none⟩ = some (.string (bs s1)) := Blk.cell hN2 0
    replace cb1 : v19.cell? ⟨g11, 1, none⟩ = some (.string (bs t1)) := Blk.cell hN2 1
    replace cbl := Blk.lt hN2
    replace cc0 : v19.cell? ⟨g16, 0, none⟩ = some (.string (bs s2)) := Blk.cell hN3 0
    replace cc1 : v19.cell? ⟨g16, 1, none⟩ = some (.string (bs t2)) := Blk.cell hN3 1
    replace ccl := Blk.lt hN3
    clear e18
    generalize R1.isSome = b1 at *
    generalize R2.isSome = b2 at *
    have k1 : (s1 == s1) = true := by simp
    have k2 : (t1 == t1) = true := by simp
    have k3 : (s2 == s2) = true := by simp
    have k4 : (t2 == t2) = true := by simp
    have e9 : Ext v19 (v19.alloc (.cells #[.string (bs s2), .string (bs t2)] 57)) := (Ext.refl v19).alloc _
    replace hE := hE.trans e9
    cases b1 <;> cases b2
    all_goals
      go_wp2_with fail
      go_ret
      exact ⟨rfl, hE⟩
  · skip
    obtain ⟨R1, hR1⟩ : ∃ R, R = leavesP m n xa ya A A := ⟨_, rfl⟩
    obtain ⟨R2, hR2⟩ : ∃ R, R = treesP m n xa ya A A := ⟨_, rfl⟩
    have HR1 := Lib.hid hR1
    have HR2 := Lib.hid hR2
    clear hR1 hR2
    have tw1 : twC R1 = #[.string (bs (R1.getD ([], [])).1), .string (bs (R1.getD ([], [])).2)] := rfl
    have tw2 : twC R2 = #[.string (bs (R2.getD ([], [])).1), .string (bs (R2.getD ([], [])).2)] := rfl
    generalize (R1.getD ([], [])).1 = s1 at *
    generalize (R1.getD ([], [])).2 = t1 at *
    generalize (R2.getD ([], [])).1 = s2 at *
    generalize (R2.getD ([], [])).2 = t2 at *
    have TW1 := Lib.hid tw1
    have TW2 := Lib.hid tw2
    clear tw1 tw2
    go_wp2_with (refine stop_load 23 (.tmp 33) rfl ?_)
    refine ⟨?_⟩
    refine wpList_load_mid rfl 23 (.tmp 33) rfl (w.heap.size + 1) (0) (by rfl) (hcells xa) _ hm0 Tryd.underlying23 rfl (size32l _ hxa) ?_
    simp only [Act.put, List.setIfInBounds_toArray, List.set_cons_zero, List.set_cons_succ]
    unfold hcells
    go_wp2_with (refine stop_load 23 (.tmp 35) rfl ?_)
    refine ⟨?_⟩
    refine wpList_load_mid rfl 23 (.tmp 35) rfl (w.heap.size + 1) (32) (by rfl) (hcells ya) _ hm1 Tryd.underlying23 rfl (size32l _ hya) ?_
    simp only [Act.put, List.setIfInBounds_toArray, List.set_cons_zero, List.set_cons_succ]
    unfold hcells
    go_wp2_with fail
    change Calls _ _ #[_, _, sumV xa, sumV ya, _, _] _ _
    refine (Leaves_calls m n hn.2 xa ya hxa hya _ _ A A hAa hAa hla5 hla5 _ (KW.ext hE) hFa hFa).mono ?_; rw [← HR1.out, TW1.out]; rintro e v4 ⟨rfl, e3⟩
    replace hX := Blk.below hX e3 (Blk.lt hX)
    replace hM := Blk.below hM e3 (Blk.lt hM)
    replace hL := Blk.below hL e3 (Blk.lt hL)
    replace hFa := hFa.ext e3
    replace hFb := hFb.ext e3
    replace hE := hE.trans e3
    replace c0 : v4.cell? ⟨w.heap.size, 0, none⟩ = some (.int .i64 m) := Blk.cell hM 0
    replace c1 : v4.cell? ⟨w.heap.size, 1, none⟩ = some (.int .i64 n) := Blk.cell hM 1
    replace c2 : v4.cell? ⟨w.heap.size + 1 + 1, 0, none⟩ = some (.slice Pa la.length ka) := Blk.cell hL 0
    replace c3 : v4.cell? ⟨w.heap.size + 1 + 1, 1, none⟩ = some (.slice Pb lb.length kb) := Blk.cell hL 1
    replace c4 : v4.cell? ⟨w.heap.size + 1 + 1, 2, none⟩ = some (.bool true) := Blk.cell hL 2
    replace hm0 : v4.rangeAt (w.heap.size + 1) 0 (hcells xa) := blk_mid hX hall 0 (by simp)
    replace hm1 : v4.rangeAt (w.heap.size + 1) 32 (hcells ya) := blk_mid hX hall 1 (by simp)
    replace hMl := Blk.lt hM
    replace hLl := Blk.lt hL
    replace hXl := Blk.lt hX
    clear e3
    go_wp2_with (refine stop_load 23 (.tmp 47) rfl ?_)
    refine ⟨?_⟩
    change wpList _ _ _ _ _ (v4.alloc (.cells #[.string (bs s1), .string (bs t1)] 57))
    have hN1 := Blk.new v4 57 #[.string (bs s1), .string (bs t1)]
    have e7 : Ext v4 (v4.alloc (.cells #[.string (bs s1), .string (bs t1)] 57)) := (Ext.refl v4).alloc _
    obtain ⟨g6, g6e⟩ : ∃ g6, g6 = v4.heap.size := ⟨_, rfl⟩
    try rw [← v4z]
    try rw [← g6e]
    rw [← g6e] at hN1
    have v5z : (v4.alloc (.cells #[.string (bs s1), .string (bs t1)] 57)).heap.size = g6 + 1 := by rw [alloc_size, ← g6e]
    have g6b : v4.heap.size ≤ g6 := by omega
    generalize v4.alloc (.cells #[.string (bs s1), .string (bs t1)] 57) = v5 at *
    clear g6e
    replace hX := Blk.below hX e7 (Blk.lt hX)
    replace hM := Blk.below hM e7 (Blk.lt hM)
    replace hL := Blk.below hL e7 (Blk.lt hL)
    replace hFa := hFa.ext e7
    replace hFb := hFb.ext e7
    replace hE := hE.trans e7
    replace c0 : v5.cell? ⟨w.heap.size, 0, none⟩ = some (.int .i64 m) := Blk.cell hM 0
    replace c1 : v5.cell? ⟨w.heap.size, 1, none⟩ = some (.int .i64 n) := Blk.cell hM 1
    replace c2 : v5.cell? ⟨w.heap.size + 1 + 1, 0, none⟩ = some (.slice Pa la.length ka) := Blk.cell hL 0
    replace c3 : v5.cell? ⟨w.heap.size + 1 + 1, 1, none⟩ = some (.slice Pb lb.length kb) := Blk.cell hL 1
    replace c4 : v5.cell? ⟨w.heap.size + 1 + 1, 2, none⟩ = some (.bool true) := Blk.cell hL 2
    replace hm0 : v5.rangeAt (w.heap.size + 1) 0 (hcells xa) := blk_mid hX hall 0 (by simp)
    replace hm1 : v5.rangeAt (w.heap.size + 1) 32 (hcells ya) := blk_mid hX hall 1 (by simp)
    replace hMl := Blk.lt hM
    replace hLl := Blk.lt hL
    replace hXl := Blk.lt hX
    clear e7
    have ca0 : v5.cell? ⟨g6, 0, none⟩ = some (.string (bs s1)) := Blk.cell hN1 0
    have ca1 : v5.cell? ⟨g6, 1, none⟩ = some (.string (bs t1)) := Blk.cell hN1 1
    have cal := Blk.lt hN1
    refine wpList_load_mid rfl 23 (.tmp 47) rfl (w.heap.size + 1) (0) (by rfl) (hcells xa) _ hm0 Tryd.underlying23 rfl (size32l _ hxa) ?_
    simp only [Act.put, List.setIfInBounds_toArray, List.set_cons_zero, List.set_cons_succ]
    unfold hcells
    go_wp2_with (refine stop_load 23 (.tmp 49) rfl ?_)
    refine ⟨?_⟩
    refine wpList_load_mid rfl 23 (.tmp 49) rfl (w.heap.size + 1) (32) (by rfl) (hcells ya) _ hm1 Tryd.underlying23 rfl (size32l _ hya) ?_
    simp only [Act.put, List.setIfInBounds_toArray, List.set_cons_zero, List.set_cons_succ]
    unfold hcells
    go_wp2_with fail
    change Calls _ _ #[_, _, sumV xa, sumV ya, _, _] _ _
    refine (refLeaves_calls m n xa ya hxa hya _ _ A A hAa hAa hla5 hla5 _ hFa hFa).mono ?_; rw [← HR1.out, TW1.out]; rintro e v9 ⟨rfl, e8⟩
    replace hX := Blk.below hX e8 (Blk.lt hX)
    replace hM := Blk.below hM e8 (Blk.lt hM)
    replace hL := Blk.below hL e8 (Blk.lt hL)
    replace hFa := hFa.ext e8
    replace hFb := hFb.ext e8
    replace hN1 := Blk.below hN1 e8 (Blk.lt hN1)
    replace hE := hE.trans e8
    replace c0 : v9.cell? ⟨w.heap.size, 0, none⟩ = some (.int .i64 m) := Blk.cell hM 0
    replace c1 : v9.cell? ⟨w.heap.size, 1, none⟩ = some (.int .i64 n) := Blk.cell hM 1
    replace c2 : v9.cell? ⟨w.heap.size + 1 + 1, 0, none⟩ = some (.slice Pa la.length ka) := Blk.cell hL 0
    replace c3 : v9.cell? ⟨w.heap.size + 1 + 1, 1, none⟩ = some (.slice Pb lb.length kb) := Blk.cell hL 1
    replace c4 : v9.cell? ⟨w.heap.size + 1 + 1, 2, none⟩ = some (.bool true) := Blk.cell hL 2
    replace hm0 : v9.rangeAt (w.heap.size + 1) 0 (hcells xa) := blk_mid hX hall 0 (by simp)
    replace hm1 : v9.rangeAt (w.heap.size + 1) 32 (hcells ya) := blk_mid hX hall 1 (by simp)
    replace hMl := Blk.lt hM
    replace hLl := Blk.lt hL
    replace hXl := Blk.lt hX
    replace ca0 : v9.cell? ⟨g6, 0, none⟩ = some (.string (bs s1)) := Blk.cell hN1 0
    replace ca1 : v9.cell? ⟨g6, 1, none⟩ = some (.string (bs t1)) := Blk.cell hN1 1
    replace cal := Blk.lt hN1
    clear e8
    go_wp2_with (refine stop_load 23 (.tmp 61) rfl ?_)
    refine ⟨?_⟩
    change wpList _ _ _ _ _ (v9.alloc (.cells #[.string (bs s1), .string (bs t1)] 57))
    have hN2 := Blk.new v9 57 #[.string (bs s1), .string (bs t1)]
    have e12 : Ext v9 (v9.alloc (.cells #[.string (bs s1), .string (bs t1)] 57)) := (Ext.refl v9).alloc _
    obtain ⟨g11, g11e⟩ : ∃ g11, g11 = v9.heap.size := ⟨_, rfl⟩
    try rw [← v9z]
    try rw [← g11e]
    rw [← g11e] at hN2
    have v10z : (v9.alloc (.cells #[.string (bs s1), .string (bs t1)] 57)).heap.size = g11 + 1 := by rw [alloc_size, ← g11e]
    have g11b : v9.heap.size ≤ g11 := by omega
    generalize v9.alloc (.cells #[.string (bs s1), .string (bs t1)] 57) = v10 at *
    clear g11e
    replace hX := Blk.below hX e12 (Blk.lt hX)
    replace hM := Blk.below hM e12 (Blk.lt hM)
    replace hL := Blk.below hL e12 (Blk.lt hL)
    replace hFa := hFa.ext e12
    replace hFb := hFb.ext e12
    replace hN1 := Blk.below hN1 e12 (Blk.lt hN1)
    replace hE := hE.trans e12
    replace c0 : v10.cell? ⟨w.heap.size, 0, none⟩ = some (.int .i64 m) := Blk.cell hM 0
    replace c1 : v10.cell? ⟨w.heap.size, 1, none⟩ = some (.int .i64 n) := Blk.cell hM 1
    replace c2 : v10.cell? ⟨w.heap.size + 1 + 1, 0, none⟩ = some (.slice Pa la.length ka) := Blk.cell hL 0
    replace c3 : v10.cell? ⟨w.heap.size + 1 + 1, 1, none⟩ = some (.slice Pb lb.length kb) := Blk.cell hL 1
    replace c4 : v10.cell? ⟨w.heap.size + 1 + 1, 2, none⟩ = some (.bool true) := Blk.cell hL 2
    replace hm0 : v10.rangeAt (w.heap.size + 1) 0 (hcells xa) := blk_mid hX hall 0 (by simp)
    replace hm1 : v10.rangeAt (w.heap.size + 1) 32 (hcells ya) := blk_mid hX hall 1 (by simp)
    replace hMl := Blk.lt hM
    replace hLl := Blk.lt hL
    replace hXl := Blk.lt hX
    replace ca0 : v10.cell? ⟨g6, 0, none⟩ = some (.string (bs s1)) := Blk.cell hN1 0
    replace ca1 : v10.cell? ⟨g6, 1, none⟩ = some (.string (bs t1)) := Blk.cell hN1 1
    replace cal := Blk.lt hN1
    clear e12
    have cb0 : v10.cell? ⟨g11, 0, none⟩ = some (.string (bs s1)) := Blk.cell hN2 0
    have cb1 : v10.cell? ⟨g11, 1, none⟩ = some (.string (bs t1)) := Blk.cell hN2 1
    have cbl := Blk.lt hN2
    refine wpList_load_mid rfl 23 (.tmp 61) rfl (w.heap.size + 1) (0) (by rfl) (hcells xa) _ hm0 Tryd.underlying23 rfl (size32l _ hxa) ?_
    simp only [Act.put, List.setIfInBounds_toArray, List.set_cons_zero, List.set_cons_succ]
    unfold hcells
    go_wp2_with (refine stop_load 23 (.tmp 63) rfl ?_)
    refine ⟨?_⟩
    refine wpList_load_mid rfl 23 (.tmp 63) rfl (w.heap.size + 1) (32) (by rfl) (hcells ya) _ hm1 Tryd.underlying23 rfl (size32l _ hya) ?_
    simp only [Act.put, List.setIfInBounds_toArray, List.set_cons_zero, List.set_cons_succ]
    unfold hcells
    go_wp2_with fail
    change Calls _ _ #[_, _, sumV xa, sumV ya, _, _] _ _
    refine (Trees_calls m n hn.2 xa ya hxa hya _ _ A A hAa hAa hla5 hla5 _ (KW.ext hE) hFa hFa).mono ?_; rw [← HR2.out, TW2.out]; rintro e v14 ⟨rfl, e13⟩
    replace hX := Blk.below hX e13 (Blk.lt hX)
    replace hM := Blk.below hM e13 (Blk.lt hM)
    replace hL := Blk.below hL e13 (Blk.lt hL)
    replace hFa := hFa.ext e13
    replace hFb := hFb.ext e13
    replace hN1 := Blk.below hN1 e13 (Blk.lt hN1)
    replace hN2 := Blk.below hN2 e13 (Blk.lt hN2)
    replace hE := hE.trans e13
    replace c0 : v14.cell? ⟨w.heap.size, 0, none⟩ = some (.int .i64 m) := Blk.cell hM 0
    replace c1 : v14.cell? ⟨w.heap.size, 1, none⟩ = some (.int .i64 n) := Blk.cell hM 1
    replace c2 : v14.cell? ⟨w.heap.size + 1 + 1, 0, none⟩ = some (.slice Pa la.length ka) := Blk.cell hL 0
    replace c3 : v14.cell? ⟨w.heap.size + 1 + 1, 1, none⟩ = some (.slice Pb lb.length kb) := Blk.cell hL 1
    replace c4 : v14.cell? ⟨w.heap.size + 1 + 1, 2, none⟩ = some (.bool true) := Blk.cell hL 2
    replace hm0 : v14.rangeAt (w.heap.size + 1) 0 (hcells xa) := blk_mid hX hall 0 (by simp)
    replace hm1 : v14.rangeAt (w.heap.size + 1) 32 (hcells ya) := blk_mid hX hall 1 (by simp)
    replace hMl := Blk.lt hM
    replace hLl := Blk.lt hL
    replace hXl := Blk.lt hX
    replace ca0 : v14.cell? ⟨g6, 0, none⟩ = some (.string (bs s1)) := Blk.cell hN1 0
    replace ca1 : v14.cell? ⟨g6, 1, none⟩ = some (.string (bs t1)) := Blk.cell hN1 1
    replace cal := Blk.lt hN1
    replace cb0 : v14.cell? ⟨g11, 0, none⟩ = some (.string (bs s1)) := Blk.cell hN2 0
    replace cb1 : v14.cell? ⟨g11, 1, none⟩ = some (.string (bs t1)) := Blk.cell hN2 1
    replace cbl := Blk.lt hN2
    clear e13
    go_wp2_with (refine stop_load 23 (.tmp 75) rfl ?_)
    refine ⟨?_⟩
    change wpList _ _ _ _ _ (v14.alloc (.cells #[.string (bs s2), .string (bs t2)] 57))
    have hN3 := Blk.new v14 57 #[.string (bs s2), .string (bs t2)]
    have e17 : Ext v14 (v14.alloc (.cells #[.string (bs s2), .string (bs t2)] 57)) := (Ext.refl v14).alloc _
    obtain ⟨g16, g16e⟩ : ∃ g16, g16 = v14.heap.size := ⟨_, rfl⟩
    try rw [← v14z]
    try rw [← g16e]
    rw [← g16e] at hN3
    have v15z : (v14.alloc (.cells #[.string (bs s2), .string (bs t2)] 57)).heap.size = g16 + 1 := by rw [alloc_size, ← g16e]
    have g16b : v14.heap.size ≤ g16 := by omega
    generalize v14.alloc (.cells #[.string (bs s2), .string (bs t2)] 57) = v15 at *
    clear g16e
    replace hX := Blk.below hX e17 (Blk.lt hX)
    replace hM := Blk.below hM e17 (Blk.lt hM)
    replace hL := Blk.below hL e17 (Blk.lt hL)
    replace hFa := hFa.ext e17
    replace hFb := hFb.ext e17
    replace hN1 := Blk.below hN1 e17 (Blk.lt hN1)
    replace hN2 := Blk.below hN2 e17 (Blk.lt hN2)
    replace hE := hE.trans e17
    replace c0 : v15.cell? ⟨w.heap.size, 0, none⟩ = some (.int .i64 m) := Blk.cell hM 0
    replace c1 : v15.cell? ⟨w.heap.size, 1, none⟩ = some (.int .i64 n) := Blk.cell hM 1
    replace c2 : v15.cell? ⟨w.heap.size + 1 + 1, 0, none⟩ = some (.slice Pa la.length ka) := Blk.cell hL 0
    replace c3 : v15.cell? ⟨w.heap.size + 1 + 1, 1, none⟩ = some (.slice Pb lb.length kb) := Blk.cell hL 1
    replace c4 : v15.cell? ⟨w.heap.size + 1 + 1, 2, none⟩ = some (.bool true) := Blk.cell hL 2
    replace hm0 : v15.rangeAt (w.heap.size + 1) 0 (hcells xa) := blk_mid hX hall 0 (by simp)
    replace hm1 : v15.rangeAt (w.heap.size + 1) 32 (hcells ya) := blk_mid hX hall 1 (by simp)
    replace hMl := Blk.lt hM
    replace hLl := Blk.lt hL
    replace hXl := Blk.lt hX
    replace ca0 : v15.cell? ⟨g6, 0, none⟩ = some (.string (bs s1)) := Blk.cell hN1 0
    replace ca1 : v15.cell? ⟨g6, 1, none⟩ = some (.string (bs t1)) := Blk.cell hN1 1
    replace cal := Blk.lt hN1
    replace cb0 : v15.cell? ⟨g11, 0, none⟩ = some (.string (bs s1)) := Blk.cell hN2 0
    replace cb1 : v15.cell? ⟨g11, 1, none⟩ = some (.string (bs t1)) := Blk.cell hN2 1
    replace cbl := Blk.lt hN2
    clear e17
    have cc0 : v15.cell? ⟨g16, 0, none⟩ = some (.string (bs s2)) := Blk.cell hN3 0
    have cc1 : v15.cell? ⟨g16, 1, none⟩ = some (.string (bs t2)) := Blk.cell hN3 1
    have ccl := Blk.lt hN3
    refine wpList_load_mid rfl 23 (.tmp 75) rfl (w.heap.size + 1) (0) (by rfl) (hcells xa) _ hm0 Tryd.underlying23 rfl (size32l _ hxa) ?_
    simp only [Act.put, List.setIfInBounds_toArray, List.set_cons_zero, List.set_cons_succ]
    unfold hcells
    go_wp2_with (refine stop_load 23 (.tmp 77) rfl ?_)
    refine ⟨?_⟩
    refine wpList_load_mid rfl 23 (.tmp 77) rfl (w.heap.size + 1) (32) (by rfl) (hcells ya) _ hm1 Tryd.underlying23 rfl (size32l _ hya) ?_
    simp only [Act.put, List.setIfInBounds_toArray, List.set_cons_zero, List.set_cons_succ]
    unfold hcells
    go_wp2_with fail
    change Calls _ _ #[_, _, sumV xa, sumV ya, _, _] _ _
    refine (refTrees_calls m n xa ya hxa hya _ _ A A hAa hAa hla5 hla5 _ hFa hFa).mono ?_; rw [← HR2.out, TW2.out]; rintro e v19 ⟨rfl, e18⟩
    replace hX := Blk.below hX e18 (Blk.lt hX)
    replace hM := Blk.below hM e18 (Blk.lt hM)
    replace hL := Blk.below hL e18 (Blk.lt hL)
    replace hFa := hFa.ext e18
    replace hFb := hFb.ext e18
    replace hN1 := Blk.below hN1 e18 (Blk.lt hN1)
    replace hN2 := Blk.below hN2 e18 (Blk.lt hN2)
    replace hN3 := Blk.below hN3 e18 (Blk.lt hN3)
    replace hE := hE.trans e18
    replace c0 : v19.cell? ⟨w.heap.size, 0, none⟩ = some (.int .i64 m) := Blk.cell hM 0
    replace c1 : v19.cell? ⟨w.heap.size, 1, none⟩ = some (.int .i64 n) := Blk.cell hM 1
    replace c2 : v19.cell? ⟨w.heap.size + 1 + 1, 0, none⟩ = some (.slice Pa la.length ka) := Blk.cell hL 0
    replace c3 : v19.cell? ⟨w.heap.size + 1 + 1, 1, none⟩ = some (.slice Pb lb.length kb) := Blk.cell hL 1
    replace c4 : v19.cell? ⟨w.heap.size + 1 + 1, 2, none⟩ = some (.bool true) := Blk.cell hL 2
    replace hm0 : v19.rangeAt (w.heap.size + 1) 0 (hcells xa) := blk_mid hX hall 0 (by simp)
    replace hm1 : v19.rangeAt (w.heap.size + 1) 32 (hcells ya) := blk_mid hX hall 1 (by simp)
    replace hMl := Blk.lt hM
    replace hLl := Blk.lt hL
    replace hXl := Blk.lt hX
    replace ca0 : v19.cell? ⟨g6, 0, none⟩ = some (.string (bs s1)) := Blk.cell hN1 0
    replace ca1 : v19.cell? ⟨g6, 1, none⟩ = some (.string (bs t1)) := Blk.cell hN1 1
    replace cal := Blk.lt hN1
    replace cb0 : v19.cell? ⟨g11, 0, none⟩ = some (.string (bs s1)) := Blk.cell hN2 0
    replace cb1 : v19.cell? ⟨g11, 1, none⟩ = some (.string (bs t1)) := Blk.cell hN2 1
    replace cbl := Blk.lt hN2
    replace cc0 : v19.cell? ⟨g16, 0, none⟩ = some (.string (bs s2)) := Blk.cell hN3 0
    replace cc1 : v19.cell? ⟨g16, 1, none⟩ = some (.string (bs t2)) := Blk.cell hN3 1
    replace ccl := Blk.lt hN3
    clear e18
    generalize R1.isSome = b1 at *
    generalize R2.isSome = b2 at *
    have k1 : (s1 == s1) = true := by simp
    have k2 : (t1 == t1) = true := by simp
    have k3 : (s2 == s2) = true := by simp
    have k4 : (t2 == t2) = true := by simp
    have e9 : Ext v19 (v19.alloc (.cells #[.string (bs s2), .string (bs t2)] 57)) := (Ext.refl v19).alloc _
    replace hE := hE.trans e9
    cases b1 <;> cases b2
    all_goals
      go_wp2_with fail
      go_ret
      exact ⟨rfl, hE⟩

set_option maxRecDepth 100000 in
theorem contract (H : Type) (enc : TypeId × Value → H) (W : World) (base : Nat) (args : Array Value) (ds gs : List (DataW H)) (before : List MemPlace)
    (hval0 : ∀ (j : Nat) t v, Tryd.f14.params[j]? = some t → args[j]? = some v → Value.okWide Tryd.prog W .any base t v)
    (hW : DataW.Whole enc Tryd.prog Tryd.f14.params.toList Rows.twinTellsSpec.vars false W args.toList ds gs before) (hL : laidMetH Tryd.prog Rows.twinTellsRow.laid W) :
    Calls Tryd.prog 14 args W fun e W' => ∃ v, e = .returned v ∧ Rows.twinTellsSpec.post enc Tryd.prog Tryd.f14 false true false false W args v W' := by
  have K : Keys W := keys_of hL
  have hval : ∀ (j : Nat) t v, Tryd.f14.params[j]? = some t → args[j]? = some v → Value.okWide Tryd.prog W .any base t v := hval0
  have hW' := hW
  obtain ⟨p, q, hA0, hV, rfl, hfz, hnd⟩ := hW
  have hA : DataW.TrodAll enc Tryd.prog W 0 (fun _ => true) true Tryd.f14.params.toList args.toList ds p := hA0
  rw [Tryd.params14] at hA hval
  obtain ⟨v0, vs0, d0, ds0, p0, q0, hargs, rfl, rfl, hx0, r0⟩ := trodAll_cons hA
  obtain ⟨v1, vs1, d1, ds1, p1, q1, rfl, rfl, rfl, hx1, r1⟩ := trodAll_cons r0
  obtain ⟨v2, vs2, d2, ds2, p2, q2, rfl, rfl, rfl, hx2, r2⟩ := trodAll_cons r1
  obtain ⟨rfl, rfl, rfl⟩ := trodAll_nil r2
  obtain rfl : args = #[v0, v1, v2] := by cases args; simp_all
  obtain ⟨rfl, rfl⟩ := trodVars_none hV
  obtain ⟨q1, q2, rfl, hq1, hq2⟩ := op_i2 (hval 0 24 v0 rfl rfl) (tr_of hx0)
  obtain ⟨a1, a2, rfl, ha1, ha2⟩ := op_sum2 (hval 1 41 v1 rfl rfl) (tr_of hx1)
  obtain ⟨zc1, zc2, z1, z2, zo, rfl, hzs1, hza1, hzs2, hza2⟩ := op_rows (hval 2 55 v2 rfl rfl) (tr_of hx2)
  refine (walk a1 a2 ha1 ha2 q1 q2 hq1 hq2 zc1 zc2 z1 z2 zo W K hzs1 hzs2 hza1 hza2).mono fun e W' ⟨he, hg⟩ => ?_
  subst he
  exact ⟨_, rfl, law_post hW' rfl rfl (by kernel_rfl) rfl rfl rfl hg⟩

theorem laid_met (os : Os) : laidMet Tryd.prog Rows.twinTellsRow.laid ((keysWorld os).forCall (fun _ _ => 0) ⟨#[], #[.agg #[.int .i64 0, .int .i64 0], .agg (Array.replicate 64 (.int .u8 0)), .agg #[.slice none 0 0, .slice none 0 0, .bool false]], []⟩).memory :=
  laidMet_of_run' 8 (by kernel_rfl) (by kernel_rfl)
theorem reads (os : Os) {H : Type} (enc : TypeId × Value → H) : ∃ x, DataW.whole enc Tryd.prog ((keysWorld os).forCall (fun _ _ => 0) ⟨#[], #[.agg #[.int .i64 0, .int .i64 0], .agg (Array.replicate 64 (.int .u8 0)), .agg #[.slice none 0 0, .slice none 0 0, .bool false]], []⟩).memory Tryd.f14.params.toList Rows.twinTellsSpec.vars false (#[.agg #[.int .i64 0, .int .i64 0], .agg (Array.replicate 64 (.int .u8 0)), .agg #[.slice none 0 0, .slice none 0 0, .bool false]] : Array Value).toList 8 = some x :=
  Option.isSome_iff_exists.1 (by kernel_rfl)
set_option maxRecDepth 100000 in
theorem lifted (os : Os) (started : os.Started) (H : Type) (enc : TypeId × Value → H) (F : Stop.Interp) :
    ReturnsInHanded {} Tryd.checked os 14 .any ((OpenSpec.ofChange Rows.twinTellsSpec).preRow enc Tryd.prog Tryd.f14 Rows.twinTellsRow.domain false Rows.twinTellsRow.laid) (((OpenSpec.ofChange Rows.twinTellsSpec).at F).post enc Tryd.prog Tryd.f14 false true false false) := by
  obtain ⟨x, hx⟩ := reads os enc
  refine returnsInHanded_of_row (C := Tryd.checked) (s := OpenSpec.ofChange Rows.twinTellsSpec) own_ started (by kernel_rfl) Tryd.func14
    (witness_row_at (enc := enc) (C := Tryd.checked) false (keysWorld os) #[.agg #[.int .i64 0, .int .i64 0], .agg (Array.replicate 64 (.int .u8 0)), .agg #[.slice none 0 0, .slice none 0 0, .bool false]] rfl (by kernel_rfl) (by kernel_rfl) (by kernel_rfl)
      (OpenSpec.preRow_of_cond 8 hx rfl (fun k hk => by cases hk) (by kernel_rfl) (laid_met os))) ?_
  intro W base args ds gs before hval hW _ _ _ hL _ _
  exact contract H enc W base args ds gs before hval hW hL

theorem said : Rows.TwinTellsSaid :=
  OpenClaim.holds_of_cond 14 Tryd.f14 rfl rfl rfl rfl rfl rfl rfl ⟨rfl, rfl, rfl, rfl, rfl⟩ rfl rfl rfl rfl rfl (by kernel_rfl) Tryd.func14 (by kernel_rfl)
    (of_decide_eq_true (by kernel_rfl)) (by unfold Func.isWrapper; first | (rw [if_pos (by decide +kernel)]; kernel_rfl) | (rw [if_neg (by decide +kernel)]; exact ⟨rfl, rfl⟩))
    (fun os started H enc _ F => by rw [OpenClaim.pre_eq_preRow]; exact lifted os started H enc F)
theorem plain (f : FuncId) (fn : Func) (hf : Tryd.pinned.checked.prog.funcNamed "scrinium/scriniumlaw13.TwinTells" = some f) (hfn : Tryd.pinned.checked.prog.funcs[f]? = some fn) :
    false = Tryd.pinned.checked.prog.looks [] ∧ ∀ (j : Nat) t, fn.params[j]? = some t → Tryd.pinned.checked.prog.wantsStandIn t = false := by
  obtain rfl : f = 14 := Option.some.inj ((show Tryd.prog.funcNamed "scrinium/scriniumlaw13.TwinTells" = some 14 by kernel_rfl).symm.trans hf) |>.symm
  obtain rfl : fn = Tryd.f14 := (Option.some.inj (Tryd.func14.symm.trans hfn)).symm
  refine ⟨by kernel_rfl, fun j t ht => ?_⟩
  rw [Tryd.params14] at ht
  have hm : t ∈ ([24, 41, 55] : List TypeId) := by simpa using Array.mem_of_getElem? ht
  have hall : (([24, 41, 55] : List TypeId).all fun u => !Tryd.prog.wantsStandIn u) = true := by kernel_rfl
  exact (show Tryd.prog.wantsStandIn t = false by simpa using List.all_eq_true.1 hall t hm)
theorem proved : Rows.TwinTellsCardSaid :=
  Claim7.holds_tied_plain_at .later [] _ _ _ _ said (fun _ h => by cases h) (by kernel_rfl) (fun _ h => by cases h) twinTells_row_tie rfl ⟨rfl, rfl⟩ (by kernel_rfl) rfl plain (by kernel_rfl)

end Go.Proofs.YtfpipdopgepelaaDoor.twinTells
