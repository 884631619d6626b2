/-
  scriniumlaw13.TwinLeaves: no condition.
-/
import Derived.Test.YtfpipdopgepelaaDoorTwinP
import Derived.Test.YtfpipdopgepelaaDoorOpR
import Derived.Test.YtfpipdopgepelaaDoorEqA
import Derived.Test.YtfpipdopgepelaaDoorLaw
import Derived.Deep.DeepCutAuto
set_option linter.unusedVariables false
set_option maxRecDepth 100000
set_option linter.unusedSimpArgs false
namespace Go.Proofs.YtfpipdopgepelaaDoor.twinLeaves
open Go.ChangeShapes Go.WideShapes Go.ChangeAt Go.RowKit
attribute [local go_sem] bs_size bs_toList2 bs_append bs_extract_end bs_extract_begin bs_get wrap64_b grow_cell grow_frozen

/-! ### The walk -/
set_option maxHeartbeats 8000000 in
theorem walk (xa ya : List UInt8) (hxa : xa.length = 32) (hya : ya.length = 32) (m n : Int) (hmm : -9223372036854775808 ≤ m ∧ m ≤ 9223372036854775807) (hn : -9223372036854775808 ≤ n ∧ n ≤ 9223372036854775807) (ca cb : Value) (la lb : List (List UInt8)) (one : Bool) (w : World) (KW : Keys w) (hSa : SlS w w.heap.size ca la) (hSb : SlS w w.heap.size cb lb) (hla : AllH la) (hlb : AllH lb) :
    Calls Tryd.prog 10 #[.agg #[.int .i64 m, .int .i64 n], .agg (flatS [xa, ya]).toArray, .agg #[ca, cb, .bool one]] w fun e w' => e = .returned (.bool true) ∧ Ext w w' := by
  have hgw := guard_sum
  have hgt := guard_twins
  have hht := held_twins
  have hall : AllH [xa, ya] := AllH.cons hxa (AllH.cons hya AllH.nil)
  have hFa := hSa
  have hFb := hSb
  obtain ⟨Pa, ka, rfl, hPa, hca, hca63, hra⟩ := hSa
  obtain ⟨Pb, kb, rfl, hPb, hcb, hcb63, hrb⟩ := hSb
  go_enter Tryd.func10, Tryd.ntmps10
  go_wp2_with fail
  have hM : Blk (((w.alloc (.cells #[.int .i64 m, .int .i64 n] 24)).alloc (.cells (flatS [xa, ya]).toArray 41)).alloc (.cells #[.slice Pa la.length ka, .slice Pb lb.length kb, .bool one] 55)) w.heap.size 24 #[.int .i64 m, .int .i64 n] := Blk.alloc (Blk.alloc (Blk.new _ _ _) _) _
  have hX : Blk (((w.alloc (.cells #[.int .i64 m, .int .i64 n] 24)).alloc (.cells (flatS [xa, ya]).toArray 41)).alloc (.cells #[.slice Pa la.length ka, .slice Pb lb.length kb, .bool one] 55)) (w.heap.size + 1) 41 (flatS [xa, ya]).toArray := by
    have := Blk.new (w.alloc (.cells #[.int .i64 m, .int .i64 n] 24)) 41 (flatS [xa, ya]).toArray
    rw [alloc_size] at this
    exact Blk.alloc this _
  have hL : Blk (((w.alloc (.cells #[.int .i64 m, .int .i64 n] 24)).alloc (.cells (flatS [xa, ya]).toArray 41)).alloc (.cells #[.slice Pa la.length ka, .slice Pb lb.length kb, .bool one] 55)) (w.heap.size + 1 + 1) 55 #[.slice Pa la.length ka, .slice Pb lb.length kb, .bool one] := by
    have := Blk.new ((w.alloc (.cells #[.int .i64 m, .int .i64 n] 24)).alloc (.cells (flatS [xa, ya]).toArray 41)) 55 #[.slice Pa la.length ka, .slice Pb lb.length kb, .bool one]
    simp only [alloc_size] at this
    exact this
  have hE : Ext w (((w.alloc (.cells #[.int .i64 m, .int .i64 n] 24)).alloc (.cells (flatS [xa, ya]).toArray 41)).alloc (.cells #[.slice Pa la.length ka, .slice Pb lb.length kb, .bool one] 55)) := (((Ext.refl w).alloc _).alloc _).alloc _
  generalize (((w.alloc (.cells #[.int .i64 m, .int .i64 n] 24)).alloc (.cells (flatS [xa, ya]).toArray 41)).alloc (.cells #[.slice Pa la.length ka, .slice Pb lb.length kb, .bool one] 55)) = w1 at *
  refine (awake13_calls _ (KW.ext hE)).mono ?_; rintro e v2 ⟨rfl, e1⟩
  replace hX := Blk.below hX e1 (Blk.lt hX)
  replace hM := Blk.below hM e1 (Blk.lt hM)
  replace hL := Blk.below hL e1 (Blk.lt hL)
  replace hE := hE.trans e1
  clear e1
  have c0 : v2.cell? ⟨w.heap.size, 0, none⟩ = some (.int .i64 m) := Blk.cell hM 0
  have c1 : v2.cell? ⟨w.heap.size, 1, none⟩ = some (.int .i64 n) := Blk.cell hM 1
  have c2 : v2.cell? ⟨w.heap.size + 1 + 1, 0, none⟩ = some (.slice Pa la.length ka) := Blk.cell hL 0
  have c3 : v2.cell? ⟨w.heap.size + 1 + 1, 1, none⟩ = some (.slice Pb lb.length kb) := Blk.cell hL 1
  have c4 : v2.cell? ⟨w.heap.size + 1 + 1, 2, none⟩ = some (.bool one) := Blk.cell hL 2
  have hm0 : v2.rangeAt (w.heap.size + 1) 0 (hcells xa) := blk_mid hX hall 0 (by simp)
  have hm1 : v2.rangeAt (w.heap.size + 1) 32 (hcells ya) := blk_mid hX hall 1 (by simp)
  have hMl := Blk.lt hM
  have hLl := Blk.lt hL
  have hXl := Blk.lt hX
  go_wp2_with fail
  refine (refLong_calls m n _).mono ?_; rintro e v4 ⟨rfl, e3⟩
  replace hX := Blk.below hX e3 (Blk.lt hX)
  replace hM := Blk.below hM e3 (Blk.lt hM)
  replace hL := Blk.below hL e3 (Blk.lt hL)
  replace hE := hE.trans e3
  replace c0 : v4.cell? ⟨w.heap.size, 0, none⟩ = some (.int .i64 m) := Blk.cell hM 0
  replace c1 : v4.cell? ⟨w.heap.size, 1, none⟩ = some (.int .i64 n) := Blk.cell hM 1
  replace c2 : v4.cell? ⟨w.heap.size + 1 + 1, 0, none⟩ = some (.slice Pa la.length ka) := Blk.cell hL 0
  replace c3 : v4.cell? ⟨w.heap.size + 1 + 1, 1, none⟩ = some (.slice Pb lb.length kb) := Blk.cell hL 1
  replace c4 : v4.cell? ⟨w.heap.size + 1 + 1, 2, none⟩ = some (.bool one) := Blk.cell hL 2
  replace hm0 : v4.rangeAt (w.heap.size + 1) 0 (hcells xa) := blk_mid hX hall 0 (by simp)
  replace hm1 : v4.rangeAt (w.heap.size + 1) 32 (hcells ya) := blk_mid hX hall 1 (by simp)
  replace hMl := Blk.lt hM
  replace hLl := Blk.lt hL
  replace hXl := Blk.lt hX
  clear e3
  obtain ⟨L, hLg⟩ : ∃ L, L = Way.longI m n := ⟨_, rfl⟩
  rw [← hLg]
  have HL := Lib.hid hLg
  clear hLg
  by_cases h0 : L < 0
  · skip
    go_wp2_with fail
    go_ret
    exact ⟨rfl, hE⟩
  by_cases h1 : 50 < L
  · skip
    go_wp2_with fail
    go_ret
    exact ⟨rfl, hE⟩
  obtain ⟨N, rfl⟩ : ∃ N : Nat, L = (N : Int) := ⟨L.toNat, by omega⟩
  have hN : N ≤ 50 := by omega
  by_cases h2 : (la.length : Int) < (N : Int)
  · skip
    go_wp2_with fail
    go_ret
    exact ⟨rfl, hE⟩
  by_cases h3 : (lb.length : Int) < (N : Int)
  · skip
    go_wp2_with fail
    go_ret
    exact ⟨rfl, hE⟩
  have kx1 : (N : Int) ≤ (ka : Int) := by omega
  have kx2 : (N : Int) ≤ (kb : Int) := by omega
  have hXa : (la.take N).length = N := by rw [List.length_take]; omega
  have hXb : (lb.take N).length = N := by rw [List.length_take]; omega
  have hTa : ∀ W : World, Ext w W → SlS W W.heap.size (.slice Pa N ka) (la.take N) := fun W hW => by
    rcases hPa with ⟨_, hl0, hx0⟩ | ⟨b', off, rfl⟩
    · have hN0 : N = 0 := by rw [hl0] at h2; simp at h2; omega
      subst hN0
      have := hFa.ext hW
      rw [List.take_zero]
      rw [hl0] at this
      exact this
    · exact (sls_take hla hca hca63 (hra.below hW (Nat.le_refl _)) N (by omega)).more hW.size
  have hTb : ∀ W : World, Ext w W → SlS W W.heap.size (.slice Pb N kb) (lb.take N) := fun W hW => by
    rcases hPb with ⟨_, hl0, hx0⟩ | ⟨b', off, rfl⟩
    · have hN0 : N = 0 := by rw [hl0] at h3; simp at h3; omega
      subst hN0
      have := hFb.ext hW
      rw [List.take_zero]
      rw [hl0] at this
      exact this
    · exact (sls_take hlb hcb hcb63 (hrb.below hW (Nat.le_refl _)) N (by omega)).more hW.size
  have hAa := hla.take N
  have hAb := hlb.take N
  clear hra hrb hFa hFb
  generalize la.take N = A at *
  generalize lb.take N = B at *
  have HTa := Lib.hid hTa
  have HTb := Lib.hid hTb
  have HXa := Lib.hid hXa
  have HXb := Lib.hid hXb
  have hTl : (Way.turnsI m n).length = N := by have := Way.turnsI_length m n (by rw [← HL.out]; omega); rw [← HL.out] at this; omega
  have HTl := Lib.hid hTl
  clear hTa hTb hXa hXb hTl
  cases one
  · skip
    have hf1 : foldP xa m n A = (Way.foldW nodeB xa (Way.turnsI m n) A, true) := if_pos (by rw [← HL.out, HXa.out])
    have hf2 : foldP ya m n B = (Way.foldW nodeB ya (Way.turnsI m n) B, true) := if_pos (by rw [← HL.out, HXb.out])
    obtain ⟨T, hT⟩ : ∃ T, T = Way.turnsI m n := ⟨_, rfl⟩
    have hTl := HTl.out
    have hR : leavesP m n xa ya A B = if decide (Way.foldW nodeB xa T A = Way.foldW nodeB ya T B) then firstO (wayS xa T A) (wayS ya T B) else none := by
      unfold leavesP
      rw [hf1, hf2, ← hT]
      simp
    rw [← hT] at hf1 hf2 hTl
    have hp32 := foldW_length T A xa hxa
    have hr32 := foldW_length T B ya hya
    have hb1 := wayS_bound T A xa hxa hAa
    have hb2 := wayS_bound T B ya hya hAb
    have hmeet := meet32 T A B xa ya hxa hya hAa hAb (by rw [hTl, HXa.out]) (by rw [hTl, HXb.out])
    obtain ⟨p, hp⟩ : ∃ p, p = Way.foldW nodeB xa T A := ⟨_, rfl⟩
    obtain ⟨r, hr⟩ : ∃ r, r = Way.foldW nodeB ya T B := ⟨_, rfl⟩
    rw [← hp] at hf1 hR hp32 hmeet
    rw [← hr] at hf2 hR hr32 hmeet
    clear hp hr hT HTl hTl
    have HF1 := Lib.hid hf1
    have HF2 := Lib.hid hf2
    clear hf1 hf2
    have heqf := fun w : World => eq_sum p r hp32 hr32 w
    have heqx := fun w : World => eq_sum xa ya hxa hya w
    by_cases hc : p = r
    · have d1 : decide (p = r) = true := decide_eq_true hc
      rw [d1] at heqf
      by_cases hs : xa = ya ∧ A = B
      · have hval : (if decide (p = r) then firstO (wayS xa T A) (wayS ya T B) else none) = none := (if_pos d1).trans (by rw [← hs.1, ← hs.2]; exact first_same _)
        have HSM : Hid (decide (A = B) = true) := Lib.hid (decide_eq_true hs.2)
        have d2 : decide (xa = ya) = true := decide_eq_true hs.1
        rw [d2] at heqx
        clear d1 d2 hc hs
        have HR2 : Hid (leavesP m n xa ya A B = none) := Lib.hid (hR.trans hval)
        clear hR hval hb1 hb2 hmeet
        go_wp2_with (refine stop_load 23 (.tmp 62) rfl ?_)
        refine ⟨?_⟩
        change wpList _ _ _ _ _ (v4.alloc (.cells #[.string (bs []), .string (bs [])] 57))
        have hO := Blk.new v4 57 #[.string (bs []), .string (bs [])]
        have e7 : Ext v4 (v4.alloc (.cells #[.string (bs []), .string (bs [])] 57)) := (Ext.refl v4).alloc _
        obtain ⟨g6, g6e⟩ : ∃ g6, g6 = v4.heap.size := ⟨_, rfl⟩
        try rw [← v4z]
        try rw [← g6e]
        rw [← g6e] at hO
        have v5z : (v4.alloc (.cells #[.string (bs []), .string (bs [])] 57)).heap.size = g6 + 1 := by rw [alloc_size, ← g6e]
        have g6b : v4.heap.size ≤ g6 := by omega
        generalize v4.alloc (.cells #[.string (bs []), .string (bs [])] 57) = v5 at *
        clear g6e
        replace hX := Blk.below hX e7 (Blk.lt hX)
        replace hM := Blk.below hM e7 (Blk.lt hM)
        replace hL := Blk.below hL e7 (Blk.lt hL)
        replace hE := hE.trans e7
        replace c0 : v5.cell? ⟨w.heap.size, 0, none⟩ = some (.int .i64 m) := Blk.cell hM 0
        replace c1 : v5.cell? ⟨w.heap.size, 1, none⟩ = some (.int .i64 n) := Blk.cell hM 1
        replace c2 : v5.cell? ⟨w.heap.size + 1 + 1, 0, none⟩ = some (.slice Pa la.length ka) := Blk.cell hL 0
        replace c3 : v5.cell? ⟨w.heap.size + 1 + 1, 1, none⟩ = some (.slice Pb lb.length kb) := Blk.cell hL 1
        replace c4 : v5.cell? ⟨w.heap.size + 1 + 1, 2, none⟩ = some (.bool false) := Blk.cell hL 2
        replace hm0 : v5.rangeAt (w.heap.size + 1) 0 (hcells xa) := blk_mid hX hall 0 (by simp)
        replace hm1 : v5.rangeAt (w.heap.size + 1) 32 (hcells ya) := blk_mid hX hall 1 (by simp)
        replace hMl := Blk.lt hM
        replace hLl := Blk.lt hL
        replace hXl := Blk.lt hX
        clear e7
        have co0 : v5.cell? ⟨g6, 0, none⟩ = some (.string (bs [])) := Blk.cell hO 0
        have co1 : v5.cell? ⟨g6, 1, none⟩ = some (.string (bs [])) := Blk.cell hO 1
        have col := Blk.lt hO
        refine wpList_load_mid rfl 23 (.tmp 62) rfl (w.heap.size + 1) (0) (by rfl) (hcells xa) _ hm0 Tryd.underlying23 rfl (size32l _ hxa) ?_
        simp only [Act.put, List.setIfInBounds_toArray, List.set_cons_zero, List.set_cons_succ]
        unfold hcells
        go_wp2_with (refine stop_load 23 (.tmp 64) rfl ?_)
        refine ⟨?_⟩
        refine wpList_load_mid rfl 23 (.tmp 64) rfl (w.heap.size + 1) (32) (by rfl) (hcells ya) _ hm1 Tryd.underlying23 rfl (size32l _ hya) ?_
        simp only [Act.put, List.setIfInBounds_toArray, List.set_cons_zero, List.set_cons_succ]
        unfold hcells
        go_wp2_with fail
        change Calls _ _ #[_, _, sumV xa, sumV ya, _, _] _ _
        refine (Leaves_calls m n hn.2 xa ya hxa hya _ _ A B hAa hAb (by rw [HXa.out]; omega) (by rw [HXb.out]; omega) _ (KW.ext hE) (HTa.out _ hE) (HTb.out _ hE)).mono ?_; rw [HR2.out, twC_none]; rintro e v9 ⟨rfl, e8⟩
        replace hX := Blk.below hX e8 (Blk.lt hX)
        replace hM := Blk.below hM e8 (Blk.lt hM)
        replace hL := Blk.below hL e8 (Blk.lt hL)
        replace hO := Blk.below hO e8 (Blk.lt hO)
        replace hE := hE.trans e8
        replace c0 : v9.cell? ⟨w.heap.size, 0, none⟩ = some (.int .i64 m) := Blk.cell hM 0
        replace c1 : v9.cell? ⟨w.heap.size, 1, none⟩ = some (.int .i64 n) := Blk.cell hM 1
        replace c2 : v9.cell? ⟨w.heap.size + 1 + 1, 0, none⟩ = some (.slice Pa la.length ka) := Blk.cell hL 0
        replace c3 : v9.cell? ⟨w.heap.size + 1 + 1, 1, none⟩ = some (.slice Pb lb.length kb) := Blk.cell hL 1
        replace c4 : v9.cell? ⟨w.heap.size + 1 + 1, 2, none⟩ = some (.bool false) := Blk.cell hL 2
        replace hm0 : v9.rangeAt (w.heap.size + 1) 0 (hcells xa) := blk_mid hX hall 0 (by simp)
        replace hm1 : v9.rangeAt (w.heap.size + 1) 32 (hcells ya) := blk_mid hX hall 1 (by simp)
        replace hMl := Blk.lt hM
        replace hLl := Blk.lt hL
        replace hXl := Blk.lt hX
        replace co0 : v9.cell? ⟨g6, 0, none⟩ = some (.string (bs [])) := Blk.cell hO 0
        replace co1 : v9.cell? ⟨g6, 1, none⟩ = some (.string (bs [])) := Blk.cell hO 1
        replace col := Blk.lt hO
        clear e8
        go_wp2_with (refine stop_load 23 (.tmp 72) rfl ?_)
        refine ⟨?_⟩
        change wpList _ _ _ _ _ (v9.alloc (.cells #[.string (bs []), .string (bs [])] 57))
        have hP := Blk.new v9 57 #[.string (bs []), .string (bs [])]
        have e12 : Ext v9 (v9.alloc (.cells #[.string (bs []), .string (bs [])] 57)) := (Ext.refl v9).alloc _
        obtain ⟨g11, g11e⟩ : ∃ g11, g11 = v9.heap.size := ⟨_, rfl⟩
        try rw [← v9z]
        try rw [← g11e]
        rw [← g11e] at hP
        have v10z : (v9.alloc (.cells #[.string (bs []), .string (bs [])] 57)).heap.size = g11 + 1 := by rw [alloc_size, ← g11e]
        have g11b : v9.heap.size ≤ g11 := by omega
        generalize v9.alloc (.cells #[.string (bs []), .string (bs [])] 57) = v10 at *
        clear g11e
        replace hX := Blk.below hX e12 (Blk.lt hX)
        replace hM := Blk.below hM e12 (Blk.lt hM)
        replace hL := Blk.below hL e12 (Blk.lt hL)
        replace hO := Blk.below hO e12 (Blk.lt hO)
        replace hE := hE.trans e12
        replace c0 : v10.cell? ⟨w.heap.size, 0, none⟩ = some (.int .i64 m) := Blk.cell hM 0
        replace c1 : v10.cell? ⟨w.heap.size, 1, none⟩ = some (.int .i64 n) := Blk.cell hM 1
        replace c2 : v10.cell? ⟨w.heap.size + 1 + 1, 0, none⟩ = some (.slice Pa la.length ka) := Blk.cell hL 0
        replace c3 : v10.cell? ⟨w.heap.size + 1 + 1, 1, none⟩ = some (.slice Pb lb.length kb) := Blk.cell hL 1
        replace c4 : v10.cell? ⟨w.heap.size + 1 + 1, 2, none⟩ = some (.bool false) := Blk.cell hL 2
        replace hm0 : v10.rangeAt (w.heap.size + 1) 0 (hcells xa) := blk_mid hX hall 0 (by simp)
        replace hm1 : v10.rangeAt (w.heap.size + 1) 32 (hcells ya) := blk_mid hX hall 1 (by simp)
        replace hMl := Blk.lt hM
        replace hLl := Blk.lt hL
        replace hXl := Blk.lt hX
        replace co0 : v10.cell? ⟨g6, 0, none⟩ = some (.string (bs [])) := Blk.cell hO 0
        replace co1 : v10.cell? ⟨g6, 1, none⟩ = some (.string (bs [])) := Blk.cell hO 1
        replace col := Blk.lt hO
        clear e12
        have cp0 : v10.cell? ⟨g11, 0, none⟩ = some (.string (bs [])) := Blk.cell hP 0
        have cp1 : v10.cell? ⟨g11, 1, none⟩ = some (.string (bs [])) := Blk.cell hP 1
        have cpl := Blk.lt hP
        refine wpList_load_mid rfl 23 (.tmp 72) rfl (w.heap.size + 1) (0) (by rfl) (hcells xa) _ hm0 Tryd.underlying23 rfl (size32l _ hxa) ?_
        simp only [Act.put, List.setIfInBounds_toArray, List.set_cons_zero, List.set_cons_succ]
        unfold hcells
        go_wp2_with fail
        change Calls _ _ #[sumV xa, _, _, _] _ _
        refine (refFold_sls xa hxa m n _ A hAa (by rw [HXa.out]; omega) _ (HTa.out _ hE)).mono ?_; rw [HF1.out]; rintro e v14 ⟨rfl, e13⟩
        replace hX := Blk.below hX e13 (Blk.lt hX)
        replace hM := Blk.below hM e13 (Blk.lt hM)
        replace hL := Blk.below hL e13 (Blk.lt hL)
        replace hO := Blk.below hO e13 (Blk.lt hO)
        replace hP := Blk.below hP e13 (Blk.lt hP)
        replace hE := hE.trans e13
        replace c0 : v14.cell? ⟨w.heap.size, 0, none⟩ = some (.int .i64 m) := Blk.cell hM 0
        replace c1 : v14.cell? ⟨w.heap.size, 1, none⟩ = some (.int .i64 n) := Blk.cell hM 1
        replace c2 : v14.cell? ⟨w.heap.size + 1 + 1, 0, none⟩ = some (.slice Pa la.length ka) := Blk.cell hL 0
        replace c3 : v14.cell? ⟨w.heap.size + 1 + 1, 1, none⟩ = some (.slice Pb lb.length kb) := Blk.cell hL 1
        replace c4 : v14.cell? ⟨w.heap.size + 1 + 1, 2, none⟩ = some (.bool false) := Blk.cell hL 2
        replace hm0 : v14.rangeAt (w.heap.size + 1) 0 (hcells xa) := blk_mid hX hall 0 (by simp)
        replace hm1 : v14.rangeAt (w.heap.size + 1) 32 (hcells ya) := blk_mid hX hall 1 (by simp)
        replace hMl := Blk.lt hM
        replace hLl := Blk.lt hL
        replace hXl := Blk.lt hX
        replace co0 : v14.cell? ⟨g6, 0, none⟩ = some (.string (bs [])) := Blk.cell hO 0
        replace co1 : v14.cell? ⟨g6, 1, none⟩ = some (.string (bs [])) := Blk.cell hO 1
        replace col := Blk.lt hO
        replace cp0 : v14.cell? ⟨g11, 0, none⟩ = some (.string (bs [])) := Blk.cell hP 0
        replace cp1 : v14.cell? ⟨g11, 1, none⟩ = some (.string (bs [])) := Blk.cell hP 1
        replace cpl := Blk.lt hP
        clear e13
        try unfold sumV
        go_wp2_with (refine stop_store 23 (.tmp 14) (.tmp 80) rfl ?_)
        refine ⟨?_⟩
        change wpList _ _ _ _ _ (v14.alloc (.cells ((zerosB 32).map byteV).toArray 23))
        have hA0 : ArrB (v14.alloc (.cells ((zerosB 32).map byteV).toArray 23)) v14.heap.size 23 (zerosB 32) := Blk.new _ _ _
        refine wpList_store_row rfl 23 (.tmp 14) (.tmp 80) rfl v14.heap.size ((p).map byteV).toArray (by rfl) (by rfl) 23 _ hA0 (size32.trans (by simp [hp32])) (by simp [hp32, zerosB]) (by simp [byteV, Value.oneCell']) ?_
        simp only [Act.put, List.setIfInBounds_toArray, List.set_cons_zero, List.set_cons_succ]
        have hA : ArrB ((v14.alloc (.cells ((zerosB 32).map byteV).toArray 23)).setRow v14.heap.size ((p).map byteV).toArray) v14.heap.size 23 (p) := Blk.row hA0 _
        have e16 : Ext v14 ((v14.alloc (.cells ((zerosB 32).map byteV).toArray 23)).setRow v14.heap.size ((p).map byteV).toArray) := ((Ext.refl v14).alloc _).row (Nat.le_refl _) _
        clear hA0
        generalize (v14.alloc (.cells ((zerosB 32).map byteV).toArray 23)).setRow v14.heap.size ((p).map byteV).toArray = v15 at *
        have g17l := Blk.lt hA
        obtain ⟨g17, g17e⟩ : ∃ g17, g17 = v14.heap.size := ⟨_, rfl⟩
        rw [← g17e] at hA g17l
        try rw [← g17e]
        have g17b : v14.heap.size ≤ g17 := by omega
        replace hX := Blk.below hX e16 (Blk.lt hX)
        replace hM := Blk.below hM e16 (Blk.lt hM)
        replace hL := Blk.below hL e16 (Blk.lt hL)
        replace hO := Blk.below hO e16 (Blk.lt hO)
        replace hP := Blk.below hP e16 (Blk.lt hP)
        replace hE := hE.trans e16
        replace c0 : v15.cell? ⟨w.heap.size, 0, none⟩ = some (.int .i64 m) := Blk.cell hM 0
        replace c1 : v15.cell? ⟨w.heap.size, 1, none⟩ = some (.int .i64 n) := Blk.cell hM 1
        replace c2 : v15.cell? ⟨w.heap.size + 1 + 1, 0, none⟩ = some (.slice Pa la.length ka) := Blk.cell hL 0
        replace c3 : v15.cell? ⟨w.heap.size + 1 + 1, 1, none⟩ = some (.slice Pb lb.length kb) := Blk.cell hL 1
        replace c4 : v15.cell? ⟨w.heap.size + 1 + 1, 2, none⟩ = some (.bool false) := Blk.cell hL 2
        replace hm0 : v15.rangeAt (w.heap.size + 1) 0 (hcells xa) := blk_mid hX hall 0 (by simp)
        replace hm1 : v15.rangeAt (w.heap.size + 1) 32 (hcells ya) := blk_mid hX hall 1 (by simp)
        replace hMl := Blk.lt hM
        replace hLl := Blk.lt hL
        replace hXl := Blk.lt hX
        replace co0 : v15.cell? ⟨g6, 0, none⟩ = some (.string (bs [])) := Blk.cell hO 0
        replace co1 : v15.cell? ⟨g6, 1, none⟩ = some (.string (bs [])) := Blk.cell hO 1
        replace col := Blk.lt hO
        replace cp0 : v15.cell? ⟨g11, 0, none⟩ = some (.string (bs [])) := Blk.cell hP 0
        replace cp1 : v15.cell? ⟨g11, 1, none⟩ = some (.string (bs [])) := Blk.cell hP 1
        replace cpl := Blk.lt hP
        clear e16
        clear g17e
        go_wp2_with (refine stop_load 23 (.tmp 83) rfl ?_)
        refine ⟨?_⟩
        refine wpList_load_mid rfl 23 (.tmp 83) rfl (w.heap.size + 1) (32) (by rfl) (hcells ya) _ hm1 Tryd.underlying23 rfl (size32l _ hya) ?_
        simp only [Act.put, List.setIfInBounds_toArray, List.set_cons_zero, List.set_cons_succ]
        unfold hcells
        go_wp2_with fail
        change Calls _ _ #[sumV ya, _, _, _] _ _
        refine (refFold_sls ya hya m n _ B hAb (by rw [HXb.out]; omega) _ (HTb.out _ hE)).mono ?_; rw [HF2.out]; rintro e v19 ⟨rfl, e18⟩
        replace hX := Blk.below hX e18 (Blk.lt hX)
        replace hM := Blk.below hM e18 (Blk.lt hM)
        replace hL := Blk.below hL e18 (Blk.lt hL)
        replace hO := Blk.below hO e18 (Blk.lt hO)
        replace hP := Blk.below hP e18 (Blk.lt hP)
        replace hA := Blk.below hA e18 (Blk.lt hA)
        replace hE := hE.trans e18
        replace c0 : v19.cell? ⟨w.heap.size, 0, none⟩ = some (.int .i64 m) := Blk.cell hM 0
        replace c1 : v19.cell? ⟨w.heap.size, 1, none⟩ = some (.int .i64 n) := Blk.cell hM 1
        replace c2 : v19.cell? ⟨w.heap.size + 1 + 1, 0, none⟩ = some (.slice Pa la.length ka) := Blk.cell hL 0
        replace c3 : v19.cell? ⟨w.heap.size + 1 + 1, 1, none⟩ = some (.slice Pb lb.length kb) := Blk.cell hL 1
        replace c4 : v19.cell? ⟨w.heap.size + 1 + 1, 2, none⟩ = some (.bool false) := Blk.cell hL 2
        replace hm0 : v19.rangeAt (w.heap.size + 1) 0 (hcells xa) := blk_mid hX hall 0 (by simp)
        replace hm1 : v19.rangeAt (w.heap.size + 1) 32 (hcells ya) := blk_mid hX hall 1 (by simp)
        replace hMl := Blk.lt hM
        replace hLl := Blk.lt hL
        replace hXl := Blk.lt hX
        replace co0 : v19.cell? ⟨g6, 0, none⟩ = some (.string (bs [])) := Blk.cell hO 0
        replace co1 : v19.cell? ⟨g6, 1, none⟩ = some (.string (bs [])) := Blk.cell hO 1
        replace col := Blk.lt hO
        replace cp0 : v19.cell? ⟨g11, 0, none⟩ = some (.string (bs [])) := Blk.cell hP 0
        replace cp1 : v19.cell? ⟨g11, 1, none⟩ = some (.string (bs [])) := Blk.cell hP 1
        replace cpl := Blk.lt hP
        clear e18
        try unfold sumV
        go_wp2_with (refine stop_store 23 (.tmp 16) (.tmp 91) rfl ?_)
        refine ⟨?_⟩
        change wpList _ _ _ _ _ (v19.alloc (.cells ((zerosB 32).map byteV).toArray 23))
        have hB0 : ArrB (v19.alloc (.cells ((zerosB 32).map byteV).toArray 23)) v19.heap.size 23 (zerosB 32) := Blk.new _ _ _
        refine wpList_store_row rfl 23 (.tmp 16) (.tmp 91) rfl v19.heap.size ((r).map byteV).toArray (by rfl) (by rfl) 23 _ hB0 (size32.trans (by simp [hr32])) (by simp [hr32, zerosB]) (by simp [byteV, Value.oneCell']) ?_
        simp only [Act.put, List.setIfInBounds_toArray, List.set_cons_zero, List.set_cons_succ]
        have hB : ArrB ((v19.alloc (.cells ((zerosB 32).map byteV).toArray 23)).setRow v19.heap.size ((r).map byteV).toArray) v19.heap.size 23 (r) := Blk.row hB0 _
        have e21 : Ext v19 ((v19.alloc (.cells ((zerosB 32).map byteV).toArray 23)).setRow v19.heap.size ((r).map byteV).toArray) := ((Ext.refl v19).alloc _).row (Nat.le_refl _) _
        clear hB0
        generalize (v19.alloc (.cells ((zerosB 32).map byteV).toArray 23)).setRow v19.heap.size ((r).map byteV).toArray = v20 at *
        have g22l := Blk.lt hB
        obtain ⟨g22, g22e⟩ : ∃ g22, g22 = v19.heap.size := ⟨_, rfl⟩
        rw [← g22e] at hB g22l
        try rw [← g22e]
        have g22b : v19.heap.size ≤ g22 := by omega
        replace hX := Blk.below hX e21 (Blk.lt hX)
        replace hM := Blk.below hM e21 (Blk.lt hM)
        replace hL := Blk.below hL e21 (Blk.lt hL)
        replace hO := Blk.below hO e21 (Blk.lt hO)
        replace hP := Blk.below hP e21 (Blk.lt hP)
        replace hA := Blk.below hA e21 (Blk.lt hA)
        replace hE := hE.trans e21
        replace c0 : v20.cell? ⟨w.heap.size, 0, none⟩ = some (.int .i64 m) := Blk.cell hM 0
        replace c1 : v20.cell? ⟨w.heap.size, 1, none⟩ = some (.int .i64 n) := Blk.cell hM 1
        replace c2 : v20.cell? ⟨w.heap.size + 1 + 1, 0, none⟩ = some (.slice Pa la.length ka) := Blk.cell hL 0
        replace c3 : v20.cell? ⟨w.heap.size + 1 + 1, 1, none⟩ = some (.slice Pb lb.length kb) := Blk.cell hL 1
        replace c4 : v20.cell? ⟨w.heap.size + 1 + 1, 2, none⟩ = some (.bool false) := Blk.cell hL 2
        replace hm0 : v20.rangeAt (w.heap.size + 1) 0 (hcells xa) := blk_mid hX hall 0 (by simp)
        replace hm1 : v20.rangeAt (w.heap.size + 1) 32 (hcells ya) := blk_mid hX hall 1 (by simp)
        replace hMl := Blk.lt hM
        replace hLl := Blk.lt hL
        replace hXl := Blk.lt hX
        replace co0 : v20.cell? ⟨g6, 0, none⟩ = some (.string (bs [])) := Blk.cell hO 0
        replace co1 : v20.cell? ⟨g6, 1, none⟩ = some (.string (bs [])) := Blk.cell hO 1
        replace col := Blk.lt hO
        replace cp0 : v20.cell? ⟨g11, 0, none⟩ = some (.string (bs [])) := Blk.cell hP 0
        replace cp1 : v20.cell? ⟨g11, 1, none⟩ = some (.string (bs [])) := Blk.cell hP 1
        replace cpl := Blk.lt hP
        clear e21
        clear g22e
        go_wp2_with fail
        refine (Same_calls _ _ A B hAa hAb _ (HTa.out _ hE) (HTb.out _ hE)).mono ?_; rw [HSM.out]; rintro e v24 ⟨rfl, e23⟩
        replace hX := Blk.below hX e23 (Blk.lt hX)
        replace hM := Blk.below hM e23 (Blk.lt hM)
        replace hL := Blk.below hL e23 (Blk.lt hL)
        replace hO := Blk.below hO e23 (Blk.lt hO)
        replace hP := Blk.below hP e23 (Blk.lt hP)
        replace hA := Blk.below hA e23 (Blk.lt hA)
        replace hB := Blk.below hB e23 (Blk.lt hB)
        replace hE := hE.trans e23
        replace c0 : v24.cell? ⟨w.heap.size, 0, none⟩ = some (.int .i64 m) := Blk.cell hM 0
        replace c1 : v24.cell? ⟨w.heap.size, 1, none⟩ = some (.int .i64 n) := Blk.cell hM 1
        replace c2 : v24.cell? ⟨w.heap.size + 1 + 1, 0, none⟩ = some (.slice Pa la.length ka) := Blk.cell hL 0
        replace c3 : v24.cell? ⟨w.heap.size + 1 + 1, 1, none⟩ = some (.slice Pb lb.length kb) := Blk.cell hL 1
        replace c4 : v24.cell? ⟨w.heap.size + 1 + 1, 2, none⟩ = some (.bool false) := Blk.cell hL 2
        replace hm0 : v24.rangeAt (w.heap.size + 1) 0 (hcells xa) := blk_mid hX hall 0 (by simp)
        replace hm1 : v24.rangeAt (w.heap.size + 1) 32 (hcells ya) := blk_mid hX hall 1 (by simp)
        replace hMl := Blk.lt hM
        replace hLl := Blk.lt hL
        replace hXl := Blk.lt hX
        replace co0 : v24.cell? ⟨g6, 0, none⟩ = some (.string (bs [])) := Blk.cell hO 0
        replace co1 : v24.cell? ⟨g6, 1, none⟩ = some (.string (bs [])) := Blk.cell hO 1
        replace col := Blk.lt hO
        replace cp0 : v24.cell? ⟨g11, 0, none⟩ = some (.string (bs [])) := Blk.cell hP 0
        replace cp1 : v24.cell? ⟨g11, 1, none⟩ = some (.string (bs [])) := Blk.cell hP 1
        replace cpl := Blk.lt hP
        clear e23
        go_wp2_with (refine stop_load 23 (.tmp 14) rfl ?_)
        refine ⟨?_⟩
        refine wpList_load_row rfl 23 (.tmp 14) rfl g17 (by rfl) 23 _ (0, 0) _ hA Tryd.underlying23 rfl (size32.trans (by simp [hp32])) ?_
        simp only [Act.put, List.setIfInBounds_toArray, List.set_cons_zero, List.set_cons_succ]
        go_wp2_with (refine stop_load 23 (.tmp 16) rfl ?_)
        refine ⟨?_⟩
        refine wpList_load_row rfl 23 (.tmp 16) rfl g22 (by rfl) 23 _ (0, 0) _ hB Tryd.underlying23 rfl (size32.trans (by simp [hr32])) ?_
        simp only [Act.put, List.setIfInBounds_toArray, List.set_cons_zero, List.set_cons_succ]
        go_wp2_with (refine stop_load 23 (.tmp 100) rfl ?_)
        refine ⟨?_⟩
        refine list_want (by rfl) (fun K hK => ?_)
        refine wp_load_mid 23 (.tmp 100) rfl (w.heap.size + 1) (0) (by rfl) (hcells xa) _ hm0 Tryd.underlying23 rfl (size32l _ hxa) ?_
        refine hK _ _ ?_; clear hK K
        simp only [Act.put, List.setIfInBounds_toArray, List.set_cons_zero, List.set_cons_succ]
        unfold hcells
        go_wp2_with (refine stop_load 23 (.tmp 102) rfl ?_)
        refine ⟨?_⟩
        refine list_want (by rfl) (fun K hK => ?_)
        refine wp_load_mid 23 (.tmp 102) rfl (w.heap.size + 1) (32) (by rfl) (hcells ya) _ hm1 Tryd.underlying23 rfl (size32l _ hya) ?_
        refine hK _ _ ?_; clear hK K
        simp only [Act.put, List.setIfInBounds_toArray, List.set_cons_zero, List.set_cons_succ]
        unfold hcells
        go_wp2_with fail
        go_ret
        exact ⟨rfl, hE⟩
      · have hne : xa ≠ ya ∨ A ≠ B := by
          by_cases h : xa = ya
          · exact .inr (fun h2 => hs ⟨h, h2⟩)
          · exact .inl h
        obtain ⟨pp, qq, hpq, hpp⟩ := first_facts (hmeet hc hne) 65 hb1 hb2
        have hval : (if decide (p = r) then firstO (wayS xa T A) (wayS ya T B) else none) = some (pp, qq) := (if_pos d1).trans hpq
        clear d1 hc hpq hne
        by_cases hxy : xa = ya
        · have d2 : decide (xa = ya) = true := decide_eq_true hxy
          have HSM : Hid (decide (A = B) = false) := Lib.hid (decide_eq_false (fun h => hs ⟨hxy, h⟩))
          rw [d2] at heqx
          clear d2 hs hxy
          have HR2 : Hid (leavesP m n xa ya A B = some (pp, qq)) := Lib.hid (hR.trans hval)
          clear hR hval hb1 hb2 hmeet
          go_wp2_with (refine stop_load 23 (.tmp 62) rfl ?_)
          refine ⟨?_⟩
          change wpList _ _ _ _ _ (v4.alloc (.cells #[.string (bs []), .string (bs [])] 57))
          have hO := Blk.new v4 57 #[.string (bs []), .string (bs [])]
          have e7 : Ext v4 (v4.alloc (.cells #[.string (bs []), .string (bs [])] 57)) := (Ext.refl v4).alloc _
          obtain ⟨g6, g6e⟩ : ∃ g6, g6 = v4.heap.size := ⟨_, rfl⟩
          try rw [← v4z]
          try rw [← g6e]
          rw [← g6e] at hO
          have v5z : (v4.alloc (.cells #[.string (bs []), .string (bs [])] 57)).heap.size = g6 + 1 := by rw [alloc_size, ← g6e]
          have g6b : v4.heap.size ≤ g6 := by omega
          generalize v4.alloc (.cells #[.string (bs []), .string (bs [])] 57) = v5 at *
          clear g6e
          replace hX := Blk.below hX e7 (Blk.lt hX)
          replace hM := Blk.below hM e7 (Blk.lt hM)
          replace hL := Blk.below hL e7 (Blk.lt hL)
          replace hE := hE.trans e7
          replace c0 : v5.cell? ⟨w.heap.size, 0, none⟩ = some (.int .i64 m) := Blk.cell hM 0
          replace c1 : v5.cell? ⟨w.heap.size, 1, none⟩ = some (.int .i64 n) := Blk.cell hM 1
          replace c2 : v5.cell? ⟨w.heap.size + 1 + 1, 0, none⟩ = some (.slice Pa la.length ka) := Blk.cell hL 0
          replace c3 : v5.cell? ⟨w.heap.size + 1 + 1, 1, none⟩ = some (.slice Pb lb.length kb) := Blk.cell hL 1
          replace c4 : v5.cell? ⟨w.heap.size + 1 + 1, 2, none⟩ = some (.bool false) := Blk.cell hL 2
          replace hm0 : v5.rangeAt (w.heap.size + 1) 0 (hcells xa) := blk_mid hX hall 0 (by simp)
          replace hm1 : v5.rangeAt (w.heap.size + 1) 32 (hcells ya) := blk_mid hX hall 1 (by simp)
          replace hMl := Blk.lt hM
          replace hLl := Blk.lt hL
          replace hXl := Blk.lt hX
          clear e7
          have co0 : v5.cell? ⟨g6, 0, none⟩ = some (.string (bs [])) := Blk.cell hO 0
          have co1 : v5.cell? ⟨g6, 1, none⟩ = some (.string (bs [])) := Blk.cell hO 1
          have col := Blk.lt hO
          refine wpList_load_mid rfl 23 (.tmp 62) rfl (w.heap.size + 1) (0) (by rfl) (hcells xa) _ hm0 Tryd.underlying23 rfl (size32l _ hxa) ?_
          simp only [Act.put, List.setIfInBounds_toArray, List.set_cons_zero, List.set_cons_succ]
          unfold hcells
          go_wp2_with (refine stop_load 23 (.tmp 64) rfl ?_)
          refine ⟨?_⟩
          refine wpList_load_mid rfl 23 (.tmp 64) rfl (w.heap.size + 1) (32) (by rfl) (hcells ya) _ hm1 Tryd.underlying23 rfl (size32l _ hya) ?_
          simp only [Act.put, List.setIfInBounds_toArray, List.set_cons_zero, List.set_cons_succ]
          unfold hcells
          go_wp2_with fail
          change Calls _ _ #[_, _, sumV xa, sumV ya, _, _] _ _
          refine (Leaves_calls m n hn.2 xa ya hxa hya _ _ A B hAa hAb (by rw [HXa.out]; omega) (by rw [HXb.out]; omega) _ (KW.ext hE) (HTa.out _ hE) (HTb.out _ hE)).mono ?_; rw [HR2.out, twC_some]; rintro e v9 ⟨rfl, e8⟩
          replace hX := Blk.below hX e8 (Blk.lt hX)
          replace hM := Blk.below hM e8 (Blk.lt hM)
          replace hL := Blk.below hL e8 (Blk.lt hL)
          replace hO := Blk.below hO e8 (Blk.lt hO)
          replace hE := hE.trans e8
          replace c0 : v9.cell? ⟨w.heap.size, 0, none⟩ = some (.int .i64 m) := Blk.cell hM 0
          replace c1 : v9.cell? ⟨w.heap.size, 1, none⟩ = some (.int .i64 n) := Blk.cell hM 1
          replace c2 : v9.cell? ⟨w.heap.size + 1 + 1, 0, none⟩ = some (.slice Pa la.length ka) := Blk.cell hL 0
          replace c3 : v9.cell? ⟨w.heap.size + 1 + 1, 1, none⟩ = some (.slice Pb lb.length kb) := Blk.cell hL 1
          replace c4 : v9.cell? ⟨w.heap.size + 1 + 1, 2, none⟩ = some (.bool false) := Blk.cell hL 2
          replace hm0 : v9.rangeAt (w.heap.size + 1) 0 (hcells xa) := blk_mid hX hall 0 (by simp)
          replace hm1 : v9.rangeAt (w.heap.size + 1) 32 (hcells ya) := blk_mid hX hall 1 (by simp)
          replace hMl := Blk.lt hM
          replace hLl := Blk.lt hL
          replace hXl := Blk.lt hX
          replace co0 : v9.cell? ⟨g6, 0, none⟩ = some (.string (bs [])) := Blk.cell hO 0
          replace co1 : v9.cell? ⟨g6, 1, none⟩ = some (.string (bs [])) := Blk.cell hO 1
          replace col := Blk.lt hO
          clear e8
          go_wp2_with (refine stop_load 23 (.tmp 72) rfl ?_)
          refine ⟨?_⟩
          change wpList _ _ _ _ _ (v9.alloc (.cells #[.string (bs pp), .string (bs qq)] 57))
          have hP := Blk.new v9 57 #[.string (bs pp), .string (bs qq)]
          have e12 : Ext v9 (v9.alloc (.cells #[.string (bs pp), .string (bs qq)] 57)) := (Ext.refl v9).alloc _
          obtain ⟨g11, g11e⟩ : ∃ g11, g11 = v9.heap.size := ⟨_, rfl⟩
          try rw [← v9z]
          try rw [← g11e]
          rw [← g11e] at hP
          have v10z : (v9.alloc (.cells #[.string (bs pp), .string (bs qq)] 57)).heap.size = g11 + 1 := by rw [alloc_size, ← g11e]
          have g11b : v9.heap.size ≤ g11 := by omega
          generalize v9.alloc (.cells #[.string (bs pp), .string (bs qq)] 57) = v10 at *
          clear g11e
          replace hX := Blk.below hX e12 (Blk.lt hX)
          replace hM := Blk.below hM e12 (Blk.lt hM)
          replace hL := Blk.below hL e12 (Blk.lt hL)
          replace hO := Blk.below hO e12 (Blk.lt hO)
          replace hE := hE.trans e12
          replace c0 : v10.cell? ⟨w.heap.size, 0, none⟩ = some (.int .i64 m) := Blk.cell hM 0
          replace c1 : v10.cell? ⟨w.heap.size, 1, none⟩ = some (.int .i64 n) := Blk.cell hM 1
          replace c2 : v10.cell? ⟨w.heap.size + 1 + 1, 0, none⟩ = some (.slice Pa la.length ka) := Blk.cell hL 0
          replace c3 : v10.cell? ⟨w.heap.size + 1 + 1, 1, none⟩ = some (.slice Pb lb.length kb) := Blk.cell hL 1
          replace c4 : v10.cell? ⟨w.heap.size + 1 + 1, 2, none⟩ = some (.bool false) := Blk.cell hL 2
          replace hm0 : v10.rangeAt (w.heap.size + 1) 0 (hcells xa) := blk_mid hX hall 0 (by simp)
          replace hm1 : v10.rangeAt (w.heap.size + 1) 32 (hcells ya) := blk_mid hX hall 1 (by simp)
          replace hMl := Blk.lt hM
          replace hLl := Blk.lt hL
          replace hXl := Blk.lt hX
          replace co0 : v10.cell? ⟨g6, 0, none⟩ = some (.string (bs [])) := Blk.cell hO 0
          replace co1 : v10.cell? ⟨g6, 1, none⟩ = some (.string (bs [])) := Blk.cell hO 1
          replace col := Blk.lt hO
          clear e12
          have cp0 : v10.cell? ⟨g11, 0, none⟩ = some (.string (bs pp)) := Blk.cell hP 0
          have cp1 : v10.cell? ⟨g11, 1, none⟩ = some (.string (bs qq)) := Blk.cell hP 1
          have cpl := Blk.lt hP
          refine wpList_load_mid rfl 23 (.tmp 72) rfl (w.heap.size + 1) (0) (by rfl) (hcells xa) _ hm0 Tryd.underlying23 rfl (size32l _ hxa) ?_
          simp only [Act.put, List.setIfInBounds_toArray, List.set_cons_zero, List.set_cons_succ]
          unfold hcells
          go_wp2_with fail
          change Calls _ _ #[sumV xa, _, _, _] _ _
          refine (refFold_sls xa hxa m n _ A hAa (by rw [HXa.out]; omega) _ (HTa.out _ hE)).mono ?_; rw [HF1.out]; rintro e v14 ⟨rfl, e13⟩
          replace hX := Blk.below hX e13 (Blk.lt hX)
          replace hM := Blk.below hM e13 (Blk.lt hM)
          replace hL := Blk.below hL e13 (Blk.lt hL)
          replace hO := Blk.below hO e13 (Blk.lt hO)
          replace hP := Blk.below hP e13 (Blk.lt hP)
          replace hE := hE.trans e13
          replace c0 : v14.cell? ⟨w.heap.size, 0, none⟩ = some (.int .i64 m) := Blk.cell hM 0
          replace c1 : v14.cell? ⟨w.heap.size, 1, none⟩ = some (.int .i64 n) := Blk.cell hM 1
          replace c2 : v14.cell? ⟨w.heap.size + 1 + 1, 0, none⟩ = some (.slice Pa la.length ka) := Blk.cell hL 0
          replace c3 : v14.cell? ⟨w.heap.size + 1 + 1, 1, none⟩ = some (.slice Pb lb.length kb) := Blk.cell hL 1
          replace c4 : v14.cell? ⟨w.heap.size + 1 + 1, 2, none⟩ = some (.bool false) := Blk.cell hL 2
          replace hm0 : v14.rangeAt (w.heap.size + 1) 0 (hcells xa) := blk_mid hX hall 0 (by simp)
          replace hm1 : v14.rangeAt (w.heap.size + 1) 32 (hcells ya) := blk_mid hX hall 1 (by simp)
          replace hMl := Blk.lt hM
          replace hLl := Blk.lt hL
          replace hXl := Blk.lt hX
          replace co0 : v14.cell? ⟨g6, 0, none⟩ = some (.string (bs [])) := Blk.cell hO 0
          replace co1 : v14.cell? ⟨g6, 1, none⟩ = some (.string (bs [])) := Blk.cell hO 1
          replace col := Blk.lt hO
          replace cp0 : v14.cell? ⟨g11, 0, none⟩ = some (.string (bs pp)) := Blk.cell hP 0
          replace cp1 : v14.cell? ⟨g11, 1, none⟩ = some (.string (bs qq)) := Blk.cell hP 1
          replace cpl := Blk.lt hP
          clear e13
          try unfold sumV
          go_wp2_with (refine stop_store 23 (.tmp 14) (.tmp 80) rfl ?_)
          refine ⟨?_⟩
          change wpList _ _ _ _ _ (v14.alloc (.cells ((zerosB 32).map byteV).toArray 23))
          have hA0 : ArrB (v14.alloc (.cells ((zerosB 32).map byteV).toArray 23)) v14.heap.size 23 (zerosB 32) := Blk.new _ _ _
          refine wpList_store_row rfl 23 (.tmp 14) (.tmp 80) rfl v14.heap.size ((p).map byteV).toArray (by rfl) (by rfl) 23 _ hA0 (size32.trans (by simp [hp32])) (by simp [hp32, zerosB]) (by simp [byteV, Value.oneCell']) ?_
          simp only [Act.put, List.setIfInBounds_toArray, List.set_cons_zero, List.set_cons_succ]
          have hA : ArrB ((v14.alloc (.cells ((zerosB 32).map byteV).toArray 23)).setRow v14.heap.size ((p).map byteV).toArray) v14.heap.size 23 (p) := Blk.row hA0 _
          have e16 : Ext v14 ((v14.alloc (.cells ((zerosB 32).map byteV).toArray 23)).setRow v14.heap.size ((p).map byteV).toArray) := ((Ext.refl v14).alloc _).row (Nat.le_refl _) _
          clear hA0
          generalize (v14.alloc (.cells ((zerosB 32).map byteV).toArray 23)).setRow v14.heap.size ((p).map byteV).toArray = v15 at *
          have g17l := Blk.lt hA
          obtain ⟨g17, g17e⟩ : ∃ g17, g17 = v14.heap.size := ⟨_, rfl⟩
          rw [← g17e] at hA g17l
          try rw [← g17e]
          have g17b : v14.heap.size ≤ g17 := by omega
          replace hX := Blk.below hX e16 (Blk.lt hX)
          replace hM := Blk.below hM e16 (Blk.lt hM)
          replace hL := Blk.below hL e16 (Blk.lt hL)
          replace hO := Blk.below hO e16 (Blk.lt hO)
          replace hP := Blk.below hP e16 (Blk.lt hP)
          replace hE := hE.trans e16
          replace c0 : v15.cell? ⟨w.heap.size, 0, none⟩ = some (.int .i64 m) := Blk.cell hM 0
          replace c1 : v15.cell? ⟨w.heap.size, 1, none⟩ = some (.int .i64 n) := Blk.cell hM 1
          replace c2 : v15.cell? ⟨w.heap.size + 1 + 1, 0, none⟩ = some (.slice Pa la.length ka) := Blk.cell hL 0
          replace c3 : v15.cell? ⟨w.heap.size + 1 + 1, 1, none⟩ = some (.slice Pb lb.length kb) := Blk.cell hL 1
          replace c4 : v15.cell? ⟨w.heap.size + 1 + 1, 2, none⟩ = some (.bool false) := Blk.cell hL 2
          replace hm0 : v15.rangeAt (w.heap.size + 1) 0 (hcells xa) := blk_mid hX hall 0 (by simp)
          replace hm1 : v15.rangeAt (w.heap.size + 1) 32 (hcells ya) := blk_mid hX hall 1 (by simp)
          replace hMl := Blk.lt hM
          replace hLl := Blk.lt hL
          replace hXl := Blk.lt hX
          replace co0 : v15.cell? ⟨g6, 0, none⟩ = some (.string (bs [])) := Blk.cell hO 0
          replace co1 : v15.cell? ⟨g6, 1, none⟩ = some (.string (bs [])) := Blk.cell hO 1
          replace col := Blk.lt hO
          replace cp0 : v15.cell? ⟨g11, 0, none⟩ = some (.string (bs pp)) := Blk.cell hP 0
          replace cp1 : v15.cell? ⟨g11, 1, none⟩ = some (.string (bs qq)) := Blk.cell hP 1
          replace cpl := Blk.lt hP
          clear e16
          clear g17e
          go_wp2_with (refine stop_load 23 (.tmp 83) rfl ?_)
          refine ⟨?_⟩
          refine wpList_load_mid rfl 23 (.tmp 83) rfl (w.heap.size + 1) (32) (by rfl) (hcells ya) _ hm1 Tryd.underlying23 rfl (size32l _ hya) ?_
          simp only [Act.put, List.setIfInBounds_toArray, List.set_cons_zero, List.set_cons_succ]
          unfold hcells
          go_wp2_with fail
          change Calls _ _ #[sumV ya, _, _, _] _ _
          refine (refFold_sls ya hya m n _ B hAb (by rw [HXb.out]; omega) _ (HTb.out _ hE)).mono ?_; rw [HF2.out]; rintro e v19 ⟨rfl, e18⟩
          replace hX := Blk.below hX e18 (Blk.lt hX)
          replace hM := Blk.below hM e18 (Blk.lt hM)
          replace hL := Blk.below hL e18 (Blk.lt hL)
          replace hO := Blk.below hO e18 (Blk.lt hO)
          replace hP := Blk.below hP e18 (Blk.lt hP)
          replace hA := Blk.below hA e18 (Blk.lt hA)
          replace hE := hE.trans e18
          replace c0 : v19.cell? ⟨w.heap.size, 0, none⟩ = some (.int .i64 m) := Blk.cell hM 0
          replace c1 : v19.cell? ⟨w.heap.size, 1, none⟩ = some (.int .i64 n) := Blk.cell hM 1
          replace c2 : v19.cell? ⟨w.heap.size + 1 + 1, 0, none⟩ = some (.slice Pa la.length ka) := Blk.cell hL 0
          replace c3 : v19.cell? ⟨w.heap.size + 1 + 1, 1, none⟩ = some (.slice Pb lb.length kb) := Blk.cell hL 1
          replace c4 : v19.cell? ⟨w.heap.size + 1 + 1, 2, none⟩ = some (.bool false) := Blk.cell hL 2
          replace hm0 : v19.rangeAt (w.heap.size + 1) 0 (hcells xa) := blk_mid hX hall 0 (by simp)
          replace hm1 : v19.rangeAt (w.heap.size + 1) 32 (hcells ya) := blk_mid hX hall 1 (by simp)
          replace hMl := Blk.lt hM
          replace hLl := Blk.lt hL
          replace hXl := Blk.lt hX
          replace co0 : v19.cell? ⟨g6, 0, none⟩ = some (.string (bs [])) := Blk.cell hO 0
          replace co1 : v19.cell? ⟨g6, 1, none⟩ = some (.string (bs [])) := Blk.cell hO 1
          replace col := Blk.lt hO
          replace cp0 : v19.cell? ⟨g11, 0, none⟩ = some (.string (bs pp)) := Blk.cell hP 0
          replace cp1 : v19.cell? ⟨g11, 1, none⟩ = some (.string (bs qq)) := Blk.cell hP 1
          replace cpl := Blk.lt hP
          clear e18
          try unfold sumV
          go_wp2_with (refine stop_store 23 (.tmp 16) (.tmp 91) rfl ?_)
          refine ⟨?_⟩
          change wpList _ _ _ _ _ (v19.alloc (.cells ((zerosB 32).map byteV).toArray 23))
          have hB0 : ArrB (v19.alloc (.cells ((zerosB 32).map byteV).toArray 23)) v19.heap.size 23 (zerosB 32) := Blk.new _ _ _
          refine wpList_store_row rfl 23 (.tmp 16) (.tmp 91) rfl v19.heap.size ((r).map byteV).toArray (by rfl) (by rfl) 23 _ hB0 (size32.trans (by simp [hr32])) (by simp [hr32, zerosB]) (by simp [byteV, Value.oneCell']) ?_
          simp only [Act.put, List.setIfInBounds_toArray, List.set_cons_zero, List.set_cons_succ]
          have hB : ArrB ((v19.alloc (.cells ((zerosB 32).map byteV).toArray 23)).setRow v19.heap.size ((r).map byteV).toArray) v19.heap.size 23 (r) := Blk.row hB0 _
          have e21 : Ext v19 ((v19.alloc (.cells ((zerosB 32).map byteV).toArray 23)).setRow v19.heap.size ((r).map byteV).toArray) := ((Ext.refl v19).alloc _).row (Nat.le_refl _) _
          clear hB0
          generalize (v19.alloc (.cells ((zerosB 32).map byteV).toArray 23)).setRow v19.heap.size ((r).map byteV).toArray = v20 at *
          have g22l := Blk.lt hB
          obtain ⟨g22, g22e⟩ : ∃ g22, g22 = v19.heap.size := ⟨_, rfl⟩
          rw [← g22e] at hB g22l
          try rw [← g22e]
          have g22b : v19.heap.size ≤ g22 := by omega
          replace hX := Blk.below hX e21 (Blk.lt hX)
          replace hM := Blk.below hM e21 (Blk.lt hM)
          replace hL := Blk.below hL e21 (Blk.lt hL)
          replace hO := Blk.below hO e21 (Blk.lt hO)
          replace hP := Blk.below hP e21 (Blk.lt hP)
          replace hA := Blk.below hA e21 (Blk.lt hA)
          replace hE := hE.trans e21
          replace c0 : v20.cell? ⟨w.heap.size, 0, none⟩ = some (.int .i64 m) := Blk.cell hM 0
          replace c1 : v20.cell? ⟨w.heap.size, 1, none⟩ = some (.int .i64 n) := Blk.cell hM 1
          replace c2 : v20.cell? ⟨w.heap.size + 1 + 1, 0, none⟩ = some (.slice Pa la.length ka) := Blk.cell hL 0
          replace c3 : v20.cell? ⟨w.heap.size + 1 + 1, 1, none⟩ = some (.slice Pb lb.length kb) := Blk.cell hL 1
          replace c4 : v20.cell? ⟨w.heap.size + 1 + 1, 2, none⟩ = some (.bool false) := Blk.cell hL 2
          replace hm0 : v20.rangeAt (w.heap.size + 1) 0 (hcells xa) := blk_mid hX hall 0 (by simp)
          replace hm1 : v20.rangeAt (w.heap.size + 1) 32 (hcells ya) := blk_mid hX hall 1 (by simp)
          replace hMl := Blk.lt hM
          replace hLl := Blk.lt hL
          replace hXl := Blk.lt hX
          replace co0 : v20.cell? ⟨g6, 0, none⟩ = some (.string (bs [])) := Blk.cell hO 0
          replace co1 : v20.cell? ⟨g6, 1, none⟩ = some (.string (bs [])) := Blk.cell hO 1
          replace col := Blk.lt hO
          replace cp0 : v20.cell? ⟨g11, 0, none⟩ = some (.string (bs pp)) := Blk.cell hP 0
          replace cp1 : v20.cell? ⟨g11, 1, none⟩ = some (.string (bs qq)) := Blk.cell hP 1
          replace cpl := Blk.lt hP
          clear e21
          clear g22e
          go_wp2_with fail
          refine (Same_calls _ _ A B hAa hAb _ (HTa.out _ hE) (HTb.out _ hE)).mono ?_; rw [HSM.out]; rintro e v24 ⟨rfl, e23⟩
          replace hX := Blk.below hX e23 (Blk.lt hX)
          replace hM := Blk.below hM e23 (Blk.lt hM)
          replace hL := Blk.below hL e23 (Blk.lt hL)
          replace hO := Blk.below hO e23 (Blk.lt hO)
          replace hP := Blk.below hP e23 (Blk.lt hP)
          replace hA := Blk.below hA e23 (Blk.lt hA)
          replace hB := Blk.below hB e23 (Blk.lt hB)
          replace hE := hE.trans e23
          replace c0 : v24.cell? ⟨w.heap.size, 0, none⟩ = some (.int .i64 m) := Blk.cell hM 0
          replace c1 : v24.cell? ⟨w.heap.size, 1, none⟩ = some (.int .i64 n) := Blk.cell hM 1
          replace c2 : v24.cell? ⟨w.heap.size + 1 + 1, 0, none⟩ = some (.slice Pa la.length ka) := Blk.cell hL 0
          replace c3 : v24.cell? ⟨w.heap.size + 1 + 1, 1, none⟩ = some (.slice Pb lb.length kb) := Blk.cell hL 1
          replace c4 : v24.cell? ⟨w.heap.size + 1 + 1, 2, none⟩ = some (.bool false) := Blk.cell hL 2
          replace hm0 : v24.rangeAt (w.heap.size + 1) 0 (hcells xa) := blk_mid hX hall 0 (by simp)
          replace hm1 : v24.rangeAt (w.heap.size + 1) 32 (hcells ya) := blk_mid hX hall 1 (by simp)
          replace hMl := Blk.lt hM
          replace hLl := Blk.lt hL
          replace hXl := Blk.lt hX
          replace co0 : v24.cell? ⟨g6, 0, none⟩ = some (.string (bs [])) := Blk.cell hO 0
          replace co1 : v24.cell? ⟨g6, 1, none⟩ = some (.string (bs [])) := Blk.cell hO 1
          replace col := Blk.lt hO
          replace cp0 : v24.cell? ⟨g11, 0, none⟩ = some (.string (bs pp)) := Blk.cell hP 0
          replace cp1 : v24.cell? ⟨g11, 1, none⟩ = some (.string (bs qq)) := Blk.cell hP 1
          replace cpl := Blk.lt hP
          clear e23
          go_wp2_with (refine stop_load 23 (.tmp 14) rfl ?_)
          refine ⟨?_⟩
          refine wpList_load_row rfl 23 (.tmp 14) rfl g17 (by rfl) 23 _ (0, 0) _ hA Tryd.underlying23 rfl (size32.trans (by simp [hp32])) ?_
          simp only [Act.put, List.setIfInBounds_toArray, List.set_cons_zero, List.set_cons_succ]
          go_wp2_with (refine stop_load 23 (.tmp 16) rfl ?_)
          refine ⟨?_⟩
          refine wpList_load_row rfl 23 (.tmp 16) rfl g22 (by rfl) 23 _ (0, 0) _ hB Tryd.underlying23 rfl (size32.trans (by simp [hr32])) ?_
          simp only [Act.put, List.setIfInBounds_toArray, List.set_cons_zero, List.set_cons_succ]
          go_wp2_with (refine stop_load 23 (.tmp 100) rfl ?_)
          refine ⟨?_⟩
          refine list_want (by rfl) (fun K hK => ?_)
          refine wp_load_mid 23 (.tmp 100) rfl (w.heap.size + 1) (0) (by rfl) (hcells xa) _ hm0 Tryd.underlying23 rfl (size32l _ hxa) ?_
          refine hK _ _ ?_; clear hK K
          simp only [Act.put, List.setIfInBounds_toArray, List.set_cons_zero, List.set_cons_succ]
          unfold hcells
          go_wp2_with (refine stop_load 23 (.tmp 102) rfl ?_)
          refine ⟨?_⟩
          refine list_want (by rfl) (fun K hK => ?_)
          refine wp_load_mid 23 (.tmp 102) rfl (w.heap.size + 1) (32) (by rfl) (hcells ya) _ hm1 Tryd.underlying23 rfl (size32l _ hya) ?_
          refine hK _ _ ?_; clear hK K
          simp only [Act.put, List.setIfInBounds_toArray, List.set_cons_zero, List.set_cons_succ]
          unfold hcells
          have hpq0 : (pp == qq) = false := by rw [beq_eq_false_iff_ne]; exact hpp.1
          have heqh := fun w : World => eq_sum (shaOf pp) (shaOf qq) (shaOf_length pp) (shaOf_length qq) w
          have dh : decide (shaOf pp = shaOf qq) = true := decide_eq_true hpp.2.1
          rw [dh] at heqh
          have hq1 : pp.length = 65 := hpp.2.2.1
          have hq2 : qq.length = 65 := hpp.2.2.2
          clear dh hpp
          go_wp2_with fail
          refine region_mix0 (by kernel_rfl) (by kernel_rfl) (fun y0 => ?_)
          iterate 14 (first | (refine mix_quiet (by rfl) (by rfl) (fun K hK => ?_); go_big_quiet_op; refine hK _ ?_; clear hK K) | (refine mix_skip (by rfl) ?_; simp only [Act.put, List.setIfInBounds_toArray, List.set_cons_zero, List.set_cons_succ]))
          (refine mix_loud (by rfl) (by rfl) (fun K E hK => ?_); go_big_op)
          refine (refOf_calls pp _ (by omega)).mono ?_; rintro e w5 ⟨rfl, hd⟩
          obtain ⟨x', rfl⟩ := more_ext _ hd; clear hd
          refine hK _ _ ⟨_, rfl⟩ ?_; clear hK K E
          iterate 2 (first | (refine mix_quiet (by rfl) (by rfl) (fun K hK => ?_); go_big_quiet_op; refine hK _ ?_; clear hK K) | (refine mix_skip (by rfl) ?_; simp only [Act.put, List.setIfInBounds_toArray, List.set_cons_zero, List.set_cons_succ]))
          (refine mix_loud (by rfl) (by rfl) (fun K E hK => ?_); go_big_op)
          refine (refOf_calls qq _ (by omega)).mono ?_; rintro e w5 ⟨rfl, hd⟩
          obtain ⟨x', rfl⟩ := more_ext _ hd; clear hd
          refine hK _ _ ⟨_, rfl⟩ ?_; clear hK K E
          unfold sumV
          repeat (first | (refine mix_quiet (by rfl) (by rfl) (fun K hK => ?_); go_big_quiet_op; refine hK _ ?_; clear hK K) | (refine mix_skip (by rfl) ?_; simp only [Act.put, List.setIfInBounds_toArray, List.set_cons_zero, List.set_cons_succ]))
          refine mix_nil ?_
          have hE9 := hE.trans (grow_ext x')
          go_wp2_with fail
          go_ret
          exact ⟨rfl, hE9⟩
        · have d2 : decide (xa = ya) = false := decide_eq_false hxy
          obtain ⟨sm, hsm⟩ : ∃ sm, decide (A = B) = sm := ⟨_, rfl⟩
          have HSM := Lib.hid hsm
          rw [d2] at heqx
          clear d2 hs hxy hsm
          have HR2 : Hid (leavesP m n xa ya A B = some (pp, qq)) := Lib.hid (hR.trans hval)
          clear hR hval hb1 hb2 hmeet
          go_wp2_with (refine stop_load 23 (.tmp 62) rfl ?_)
          refine ⟨?_⟩
          change wpList _ _ _ _ _ (v4.alloc (.cells #[.string (bs []), .string (bs [])] 57))
          have hO := Blk.new v4 57 #[.string (bs []), .string (bs [])]
          have e7 : Ext v4 (v4.alloc (.cells #[.string (bs []), .string (bs [])] 57)) := (Ext.refl v4).alloc _
          obtain ⟨g6, g6e⟩ : ∃ g6, g6 = v4.heap.size := ⟨_, rfl⟩
          try rw [← v4z]
          try rw [← g6e]
          rw [← g6e] at hO
          have v5z : (v4.alloc (.cells #[.string (bs []), .string (bs [])] 57)).heap.size = g6 + 1 := by rw [alloc_size, ← g6e]
          have g6b : v4.heap.size ≤ g6 := by omega
          generalize v4.alloc (.cells #[.string (bs []), .string (bs [])] 57) = v5 at *
          clear g6e
          replace hX := Blk.below hX e7 (Blk.lt hX)
          replace hM := Blk.below hM e7 (Blk.lt hM)
          replace hL := Blk.below hL e7 (Blk.lt hL)
          replace hE := hE.trans e7
          replace c0 : v5.cell? ⟨w.heap.size, 0, none⟩ = some (.int .i64 m) := Blk.cell hM 0
          replace c1 : v5.cell? ⟨w.heap.size, 1, none⟩ = some (.int .i64 n) := Blk.cell hM 1
          replace c2 : v5.cell? ⟨w.heap.size + 1 + 1, 0, none⟩ = some (.slice Pa la.length ka) := Blk.cell hL 0
          replace c3 : v5.cell? ⟨w.heap.size + 1 + 1, 1, none⟩ = some (.slice Pb lb.length kb) := Blk.cell hL 1
          replace c4 : v5.cell? ⟨w.heap.size + 1 + 1, 2, none⟩ = some (.bool false) := Blk.cell hL 2
          replace hm0 : v5.rangeAt (w.heap.size + 1) 0 (hcells xa) := blk_mid hX hall 0 (by simp)
          replace hm1 : v5.rangeAt (w.heap.size + 1) 32 (hcells ya) := blk_mid hX hall 1 (by simp)
          replace hMl := Blk.lt hM
          replace hLl := Blk.lt hL
          replace hXl := Blk.lt hX
          clear e7
          have co0 : v5.cell? ⟨g6, 0, none⟩ = some (.string (bs [])) := Blk.cell hO 0
          have co1 : v5.cell? ⟨g6, 1, none⟩ = some (.string (bs [])) := Blk.cell hO 1
          have col := Blk.lt hO
          refine wpList_load_mid rfl 23 (.tmp 62) rfl (w.heap.size + 1) (0) (by rfl) (hcells xa) _ hm0 Tryd.underlying23 rfl (size32l _ hxa) ?_
          simp only [Act.put, List.setIfInBounds_toArray, List.set_cons_zero, List.set_cons_succ]
          unfold hcells
          go_wp2_with (refine stop_load 23 (.tmp 64) rfl ?_)
          refine ⟨?_⟩
          refine wpList_load_mid rfl 23 (.tmp 64) rfl (w.heap.size + 1) (32) (by rfl) (hcells ya) _ hm1 Tryd.underlying23 rfl (size32l _ hya) ?_
          simp only [Act.put, List.setIfInBounds_toArray, List.set_cons_zero, List.set_cons_succ]
          unfold hcells
          go_wp2_with fail
          change Calls _ _ #[_, _, sumV xa, sumV ya, _, _] _ _
          refine (Leaves_calls m n hn.2 xa ya hxa hya _ _ A B hAa hAb (by rw [HXa.out]; omega) (by rw [HXb.out]; omega) _ (KW.ext hE) (HTa.out _ hE) (HTb.out _ hE)).mono ?_; rw [HR2.out, twC_some]; rintro e v9 ⟨rfl, e8⟩
          replace hX := Blk.below hX e8 (Blk.lt hX)
          replace hM := Blk.below hM e8 (Blk.lt hM)
          replace hL := Blk.below hL e8 (Blk.lt hL)
          replace hO := Blk.below hO e8 (Blk.lt hO)
          replace hE := hE.trans e8
          replace c0 : v9.cell? ⟨w.heap.size, 0, none⟩ = some (.int .i64 m) := Blk.cell hM 0
          replace c1 : v9.cell? ⟨w.heap.size, 1, none⟩ = some (.int .i64 n) := Blk.cell hM 1
          replace c2 : v9.cell? ⟨w.heap.size + 1 + 1, 0, none⟩ = some (.slice Pa la.length ka) := Blk.cell hL 0
          replace c3 : v9.cell? ⟨w.heap.size + 1 + 1, 1, none⟩ = some (.slice Pb lb.length kb) := Blk.cell hL 1
          replace c4 : v9.cell? ⟨w.heap.size + 1 + 1, 2, none⟩ = some (.bool false) := Blk.cell hL 2
          replace hm0 : v9.rangeAt (w.heap.size + 1) 0 (hcells xa) := blk_mid hX hall 0 (by simp)
          replace hm1 : v9.rangeAt (w.heap.size + 1) 32 (hcells ya) := blk_mid hX hall 1 (by simp)
          replace hMl := Blk.lt hM
          replace hLl := Blk.lt hL
          replace hXl := Blk.lt hX
          replace co0 : v9.cell? ⟨g6, 0, none⟩ = some (.string (bs [])) := Blk.cell hO 0
          replace co1 : v9.cell? ⟨g6, 1, none⟩ = some (.string (bs [])) := Blk.cell hO 1
          replace col := Blk.lt hO
          clear e8
          go_wp2_with (refine stop_load 23 (.tmp 72) rfl ?_)
          refine ⟨?_⟩
          change wpList _ _ _ _ _ (v9.alloc (.cells #[.string (bs pp), .string (bs qq)] 57))
          have hP := Blk.new v9 57 #[.string (bs pp), .string (bs qq)]
          have e12 : Ext v9 (v9.alloc (.cells #[.string (bs pp), .string (bs qq)] 57)) := (Ext.refl v9).alloc _
          obtain ⟨g11, g11e⟩ : ∃ g11, g11 = v9.heap.size := ⟨_, rfl⟩
          try rw [← v9z]
          try rw [← g11e]
          rw [← g11e] at hP
          have v10z : (v9.alloc (.cells #[.string (bs pp), .string (bs qq)] 57)).heap.size = g11 + 1 := by rw [alloc_size, ← g11e]
          have g11b : v9.heap.size ≤ g11 := by omega
          generalize v9.alloc (.cells #[.string (bs pp), .string (bs qq)] 57) = v10 at *
          clear g11e
          replace hX := Blk.below hX e12 (Blk.lt hX)
          replace hM := Blk.below hM e12 (Blk.lt hM)
          replace hL := Blk.below hL e12 (Blk.lt hL)
          replace hO := Blk.below hO e12 (Blk.lt hO)
          replace hE := hE.trans e12
          replace c0 : v10.cell? ⟨w.heap.size, 0, none⟩ = some (.int .i64 m) := Blk.cell hM 0
          replace c1 : v10.cell? ⟨w.heap.size, 1, none⟩ = some (.int .i64 n) := Blk.cell hM 1
          replace c2 : v10.cell? ⟨w.heap.size + 1 + 1, 0, none⟩ = some (.slice Pa la.length ka) := Blk.cell hL 0
          replace c3 : v10.cell? ⟨w.heap.size + 1 + 1, 1, none⟩ = some (.slice Pb lb.length kb) := Blk.cell hL 1
          replace c4 : v10.cell? ⟨w.heap.size + 1 + 1, 2, none⟩ = some (.bool false) := Blk.cell hL 2
          replace hm0 : v10.rangeAt (w.heap.size + 1) 0 (hcells xa) := blk_mid hX hall 0 (by simp)
          replace hm1 : v10.rangeAt (w.heap.size + 1) 32 (hcells ya) := blk_mid hX hall 1 (by simp)
          replace hMl := Blk.lt hM
          replace hLl := Blk.lt hL
          replace hXl := Blk.lt hX
          replace co0 : v10.cell? ⟨g6, 0, none⟩ = some (.string (bs [])) := Blk.cell hO 0
          replace co1 : v10.cell? ⟨g6, 1, none⟩ = some (.string (bs [])) := Blk.cell hO 1
          replace col := Blk.lt hO
          clear e12
          have cp0 : v10.cell? ⟨g11, 0, none⟩ = some (.string (bs pp)) := Blk.cell hP 0
          have cp1 : v10.cell? ⟨g11, 1, none⟩ = some (.string (bs qq)) := Blk.cell hP 1
          have cpl := Blk.lt hP
          refine wpList_load_mid rfl 23 (.tmp 72) rfl (w.heap.size + 1) (0) (by rfl) (hcells xa) _ hm0 Tryd.underlying23 rfl (size32l _ hxa) ?_
          simp only [Act.put, List.setIfInBounds_toArray, List.set_cons_zero, List.set_cons_succ]
          unfold hcells
          go_wp2_with fail
          change Calls _ _ #[sumV xa, _, _, _] _ _
          refine (refFold_sls xa hxa m n _ A hAa (by rw [HXa.out]; omega) _ (HTa.out _ hE)).mono ?_; rw [HF1.out]; rintro e v14 ⟨rfl, e13⟩
          replace hX := Blk.below hX e13 (Blk.lt hX)
          replace hM := Blk.below hM e13 (Blk.lt hM)
          replace hL := Blk.below hL e13 (Blk.lt hL)
          replace hO := Blk.below hO e13 (Blk.lt hO)
          replace hP := Blk.below hP e13 (Blk.lt hP)
          replace hE := hE.trans e13
          replace c0 : v14.cell? ⟨w.heap.size, 0, none⟩ = some (.int .i64 m) := Blk.cell hM 0
          replace c1 : v14.cell? ⟨w.heap.size, 1, none⟩ = some (.int .i64 n) := Blk.cell hM 1
          replace c2 : v14.cell? ⟨w.heap.size + 1 + 1, 0, none⟩ = some (.slice Pa la.length ka) := Blk.cell hL 0
          replace c3 : v14.cell? ⟨w.heap.size + 1 + 1, 1, none⟩ = some (.slice Pb lb.length kb) := Blk.cell hL 1
          replace c4 : v14.cell? ⟨w.heap.size + 1 + 1, 2, none⟩ = some (.bool false) := Blk.cell hL 2
          replace hm0 : v14.rangeAt (w.heap.size + 1) 0 (hcells xa) := blk_mid hX hall 0 (by simp)
          replace hm1 : v14.rangeAt (w.heap.size + 1) 32 (hcells ya) := blk_mid hX hall 1 (by simp)
          replace hMl := Blk.lt hM
          replace hLl := Blk.lt hL
          replace hXl := Blk.lt hX
          replace co0 : v14.cell? ⟨g6, 0, none⟩ = some (.string (bs [])) := Blk.cell hO 0
          replace co1 : v14.cell? ⟨g6, 1, none⟩ = some (.string (bs [])) := Blk.cell hO 1
          replace col := Blk.lt hO
          replace cp0 : v14.cell? ⟨g11, 0, none⟩ = some (.string (bs pp)) := Blk.cell hP 0
          replace cp1 : v14.cell? ⟨g11, 1, none⟩ = some (.string (bs qq)) := Blk.cell hP 1
          replace cpl := Blk.lt hP
          clear e13
          try unfold sumV
          go_wp2_with (refine stop_store 23 (.tmp 14) (.tmp 80) rfl ?_)
          refine ⟨?_⟩
          change wpList _ _ _ _ _ (v14.alloc (.cells ((zerosB 32).map byteV).toArray 23))
          have hA0 : ArrB (v14.alloc (.cells ((zerosB 32).map byteV).toArray 23)) v14.heap.size 23 (zerosB 32) := Blk.new _ _ _
          refine wpList_store_row rfl 23 (.tmp 14) (.tmp 80) rfl v14.heap.size ((p).map byteV).toArray (by rfl) (by rfl) 23 _ hA0 (size32.trans (by simp [hp32])) (by simp [hp32, zerosB]) (by simp [byteV, Value.oneCell']) ?_
          simp only [Act.put, List.setIfInBounds_toArray, List.set_cons_zero, List.set_cons_succ]
          have hA : ArrB ((v14.alloc (.cells ((zerosB 32).map byteV).toArray 23)).setRow v14.heap.size ((p).map byteV).toArray) v14.heap.size 23 (p) := Blk.row hA0 _
          have e16 : Ext v14 ((v14.alloc (.cells ((zerosB 32).map byteV).toArray 23)).setRow v14.heap.size ((p).map byteV).toArray) := ((Ext.refl v14).alloc _).row (Nat.le_refl _) _
          clear hA0
          generalize (v14.alloc (.cells ((zerosB 32).map byteV).toArray 23)).setRow v14.heap.size ((p).map byteV).toArray = v15 at *
          have g17l := Blk.lt hA
          obtain ⟨g17, g17e⟩ : ∃ g17, g17 = v14.heap.size := ⟨_, rfl⟩
          rw [← g17e] at hA g17l
          try rw [← g17e]
          have g17b : v14.heap.size ≤ g17 := by omega
          replace hX := Blk.below hX e16 (Blk.lt hX)
          replace hM := Blk.below hM e16 (Blk.lt hM)
          replace hL := Blk.below hL e16 (Blk.lt hL)
          replace hO := Blk.below hO e16 (Blk.lt hO)
          replace hP := Blk.below hP e16 (Blk.lt hP)
          replace hE := hE.trans e16
          replace c0 : v15.cell? ⟨w.heap.size, 0, none⟩ = some (.int .i64 m) := Blk.cell hM 0
          replace c1 : v15.cell? ⟨w.heap.size, 1, none⟩ = some (.int .i64 n) := Blk.cell hM 1
          replace c2 : v15.cell? ⟨w.heap.size + 1 + 1, 0, none⟩ = some (.slice Pa la.length ka) := Blk.cell hL 0
          replace c3 : v15.cell? ⟨w.heap.size + 1 + 1, 1, none⟩ = some (.slice Pb lb.length kb) := Blk.cell hL 1
          replace c4 : v15.cell? ⟨w.heap.size + 1 + 1, 2, none⟩ = some (.bool false) := Blk.cell hL 2
          replace hm0 : v15.rangeAt (w.heap.size + 1) 0 (hcells xa) := blk_mid hX hall 0 (by simp)
          replace hm1 : v15.rangeAt (w.heap.size + 1) 32 (hcells ya) := blk_mid hX hall 1 (by simp)
          replace hMl := Blk.lt hM
          replace hLl := Blk.lt hL
          replace hXl := Blk.lt hX
          replace co0 : v15.cell? ⟨g6, 0, none⟩ = some (.string (bs [])) := Blk.cell hO 0
          replace co1 : v15.cell? ⟨g6, 1, none⟩ = some (.string (bs [])) := Blk.cell hO 1
          replace col := Blk.lt hO
          replace cp0 : v15.cell? ⟨g11, 0, none⟩ = some (.string (bs pp)) := Blk.cell hP 0
          replace cp1 : v15.cell? ⟨g11, 1, none⟩ = some (.string (bs qq)) := Blk.cell hP 1
          replace cpl := Blk.lt hP
          clear e16
          clear g17e
          go_wp2_with (refine stop_load 23 (.tmp 83) rfl ?_)
          refine ⟨?_⟩
          refine wpList_load_mid rfl 23 (.tmp 83) rfl (w.heap.size + 1) (32) (by rfl) (hcells ya) _ hm1 Tryd.underlying23 rfl (size32l _ hya) ?_
          simp only [Act.put, List.setIfInBounds_toArray, List.set_cons_zero, List.set_cons_succ]
          unfold hcells
          go_wp2_with fail
          change Calls _ _ #[sumV ya, _, _, _] _ _
          refine (refFold_sls ya hya m n _ B hAb (by rw [HXb.out]; omega) _ (HTb.out _ hE)).mono ?_; rw [HF2.out]; rintro e v19 ⟨rfl, e18⟩
          replace hX := Blk.below hX e18 (Blk.lt hX)
          replace hM := Blk.below hM e18 (Blk.lt hM)
          replace hL := Blk.below hL e18 (Blk.lt hL)
          replace hO := Blk.below hO e18 (Blk.lt hO)
          replace hP := Blk.below hP e18 (Blk.lt hP)
          replace hA := Blk.below hA e18 (Blk.lt hA)
          replace hE := hE.trans e18
          replace c0 : v19.cell? ⟨w.heap.size, 0, none⟩ = some (.int .i64 m) := Blk.cell hM 0
          replace c1 : v19.cell? ⟨w.heap.size, 1, none⟩ = some (.int .i64 n) := Blk.cell hM 1
          replace c2 : v19.cell? ⟨w.heap.size + 1 + 1, 0, none⟩ = some (.slice Pa la.length ka) := Blk.cell hL 0
          replace c3 : v19.cell? ⟨w.heap.size + 1 + 1, 1, none⟩ = some (.slice Pb lb.length kb) := Blk.cell hL 1
          replace c4 : v19.cell? ⟨w.heap.size + 1 + 1, 2, none⟩ = some (.bool false) := Blk.cell hL 2
          replace hm0 : v19.rangeAt (w.heap.size + 1) 0 (hcells xa) := blk_mid hX hall 0 (by simp)
          replace hm1 : v19.rangeAt (w.heap.size + 1) 32 (hcells ya) := blk_mid hX hall 1 (by simp)
          replace hMl := Blk.lt hM
          replace hLl := Blk.lt hL
          replace hXl := Blk.lt hX
          replace co0 : v19.cell? ⟨g6, 0, none⟩ = some (.string (bs [])) := Blk.cell hO 0
          replace co1 : v19.cell? ⟨g6, 1, none⟩ = some (.string (bs [])) := Blk.cell hO 1
          replace col := Blk.lt hO
          replace cp0 : v19.cell? ⟨g11, 0, none⟩ = some (.string (bs pp)) := Blk.cell hP 0
          replace cp1 : v19.cell? ⟨g11, 1, none⟩ = some (.string (bs qq)) := Blk.cell hP 1
          replace cpl := Blk.lt hP
          clear e18
          try unfold sumV
          go_wp2_with (refine stop_store 23 (.tmp 16) (.tmp 91) rfl ?_)
          refine ⟨?_⟩
          change wpList _ _ _ _ _ (v19.alloc (.cells ((zerosB 32).map byteV).toArray 23))
          have hB0 : ArrB (v19.alloc (.cells ((zerosB 32).map byteV).toArray 23)) v19.heap.size 23 (zerosB 32) := Blk.new _ _ _
          refine wpList_store_row rfl 23 (.tmp 16) (.tmp 91) rfl v19.heap.size ((r).map byteV).toArray (by rfl) (by rfl) 23 _ hB0 (size32.trans (by simp [hr32])) (by simp [hr32, zerosB]) (by simp [byteV, Value.oneCell']) ?_
          simp only [Act.put, List.setIfInBounds_toArray, List.set_cons_zero, List.set_cons_succ]
          have hB : ArrB ((v19.alloc (.cells ((zerosB 32).map byteV).toArray 23)).setRow v19.heap.size ((r).map byteV).toArray) v19.heap.size 23 (r) := Blk.row hB0 _
          have e21 : Ext v19 ((v19.alloc (.cells ((zerosB 32).map byteV).toArray 23)).setRow v19.heap.size ((r).map byteV).toArray) := ((Ext.refl v19).alloc _).row (Nat.le_refl _) _
          clear hB0
          generalize (v19.alloc (.cells ((zerosB 32).map byteV).toArray 23)).setRow v19.heap.size ((r).map byteV).toArray = v20 at *
          have g22l := Blk.lt hB
          obtain ⟨g22, g22e⟩ : ∃ g22, g22 = v19.heap.size := ⟨_, rfl⟩
          rw [← g22e] at hB g22l
          try rw [← g22e]
          have g22b : v19.heap.size ≤ g22 := by omega
          replace hX := Blk.below hX e21 (Blk.lt hX)
          replace hM := Blk.below hM e21 (Blk.lt hM)
          replace hL := Blk.below hL e21 (Blk.lt hL)
          replace hO := Blk.below hO e21 (Blk.lt hO)
          replace hP := Blk.below hP e21 (Blk.lt hP)
          replace hA := Blk.below hA e21 (Blk.lt hA)
          replace hE := hE.trans e21
          replace c0 : v20.cell? ⟨w.heap.size, 0, none⟩ = some (.int .i64 m) := Blk.cell hM 0
          replace c1 : v20.cell? ⟨w.heap.size, 1, none⟩ = some (.int .i64 n) := Blk.cell hM 1
          replace c2 : v20.cell? ⟨w.heap.size + 1 + 1, 0, none⟩ = some (.slice Pa la.length ka) := Blk.cell hL 0
          replace c3 : v20.cell? ⟨w.heap.size + 1 + 1, 1, none⟩ = some (.slice Pb lb.length kb) := Blk.cell hL 1
          replace c4 : v20.cell? ⟨w.heap.size + 1 + 1, 2, none⟩ = some (.bool false) := Blk.cell hL 2
          replace hm0 : v20.rangeAt (w.heap.size + 1) 0 (hcells xa) := blk_mid hX hall 0 (by simp)
          replace hm1 : v20.rangeAt (w.heap.size + 1) 32 (hcells ya) := blk_mid hX hall 1 (by simp)
          replace hMl := Blk.lt hM
          replace hLl := Blk.lt hL
          replace hXl := Blk.lt hX
          replace co0 : v20.cell? ⟨g6, 0, none⟩ = some (.string (bs [])) := Blk.cell hO 0
          replace co1 : v20.cell? ⟨g6, 1, none⟩ = some (.string (bs [])) := Blk.cell hO 1
          replace col := Blk.lt hO
          replace cp0 : v20.cell? ⟨g11, 0, none⟩ = some (.string (bs pp)) := Blk.cell hP 0
          replace cp1 : v20.cell? ⟨g11, 1, none⟩ = some (.string (bs qq)) := Blk.cell hP 1
          replace cpl := Blk.lt hP
          clear e21
          clear g22e
          go_wp2_with fail
          refine (Same_calls _ _ A B hAa hAb _ (HTa.out _ hE) (HTb.out _ hE)).mono ?_; rw [HSM.out]; rintro e v24 ⟨rfl, e23⟩
          replace hX := Blk.below hX e23 (Blk.lt hX)
          replace hM := Blk.below hM e23 (Blk.lt hM)
          replace hL := Blk.below hL e23 (Blk.lt hL)
          replace hO := Blk.below hO e23 (Blk.lt hO)
          replace hP := Blk.below hP e23 (Blk.lt hP)
          replace hA := Blk.below hA e23 (Blk.lt hA)
          replace hB := Blk.below hB e23 (Blk.lt hB)
          replace hE := hE.trans e23
          replace c0 : v24.cell? ⟨w.heap.size, 0, none⟩ = some (.int .i64 m) := Blk.cell hM 0
          replace c1 : v24.cell? ⟨w.heap.size, 1, none⟩ = some (.int .i64 n) := Blk.cell hM 1
          replace c2 : v24.cell? ⟨w.heap.size + 1 + 1, 0, none⟩ = some (.slice Pa la.length ka) := Blk.cell hL 0
          replace c3 : v24.cell? ⟨w.heap.size + 1 + 1, 1, none⟩ = some (.slice Pb lb.length kb) := Blk.cell hL 1
          replace c4 : v24.cell? ⟨w.heap.size + 1 + 1, 2, none⟩ = some (.bool false) := Blk.cell hL 2
          replace hm0 : v24.rangeAt (w.heap.size + 1) 0 (hcells xa) := blk_mid hX hall 0 (by simp)
          replace hm1 : v24.rangeAt (w.heap.size + 1) 32 (hcells ya) := blk_mid hX hall 1 (by simp)
          replace hMl := Blk.lt hM
          replace hLl := Blk.lt hL
          replace hXl := Blk.lt hX
          replace co0 : v24.cell? ⟨g6, 0, none⟩ = some (.string (bs [])) := Blk.cell hO 0
          replace co1 : v24.cell? ⟨g6, 1, none⟩ = some (.string (bs [])) := Blk.cell hO 1
          replace col := Blk.lt hO
          replace cp0 : v24.cell? ⟨g11, 0, none⟩ = some (.string (bs pp)) := Blk.cell hP 0
          replace cp1 : v24.cell? ⟨g11, 1, none⟩ = some (.string (bs qq)) := Blk.cell hP 1
          replace cpl := Blk.lt hP
          clear e23
          go_wp2_with (refine stop_load 23 (.tmp 14) rfl ?_)
          refine ⟨?_⟩
          refine wpList_load_row rfl 23 (.tmp 14) rfl g17 (by rfl) 23 _ (0, 0) _ hA Tryd.underlying23 rfl (size32.trans (by simp [hp32])) ?_
          simp only [Act.put, List.setIfInBounds_toArray, List.set_cons_zero, List.set_cons_succ]
          go_wp2_with (refine stop_load 23 (.tmp 16) rfl ?_)
          refine ⟨?_⟩
          refine wpList_load_row rfl 23 (.tmp 16) rfl g22 (by rfl) 23 _ (0, 0) _ hB Tryd.underlying23 rfl (size32.trans (by simp [hr32])) ?_
          simp only [Act.put, List.setIfInBounds_toArray, List.set_cons_zero, List.set_cons_succ]
          go_wp2_with (refine stop_load 23 (.tmp 100) rfl ?_)
          refine ⟨?_⟩
          refine list_want (by rfl) (fun K hK => ?_)
          refine wp_load_mid 23 (.tmp 100) rfl (w.heap.size + 1) (0) (by rfl) (hcells xa) _ hm0 Tryd.underlying23 rfl (size32l _ hxa) ?_
          refine hK _ _ ?_; clear hK K
          simp only [Act.put, List.setIfInBounds_toArray, List.set_cons_zero, List.set_cons_succ]
          unfold hcells
          go_wp2_with (refine stop_load 23 (.tmp 102) rfl ?_)
          refine ⟨?_⟩
          refine list_want (by rfl) (fun K hK => ?_)
          refine wp_load_mid 23 (.tmp 102) rfl (w.heap.size + 1) (32) (by rfl) (hcells ya) _ hm1 Tryd.underlying23 rfl (size32l _ hya) ?_
          refine hK _ _ ?_; clear hK K
          simp only [Act.put, List.setIfInBounds_toArray, List.set_cons_zero, List.set_cons_succ]
          unfold hcells
          have hpq0 : (pp == qq) = false := by rw [beq_eq_false_iff_ne]; exact hpp.1
          have heqh := fun w : World => eq_sum (shaOf pp) (shaOf qq) (shaOf_length pp) (shaOf_length qq) w
          have dh : decide (shaOf pp = shaOf qq) = true := decide_eq_true hpp.2.1
          rw [dh] at heqh
          have hq1 : pp.length = 65 := hpp.2.2.1
          have hq2 : qq.length = 65 := hpp.2.2.2
          clear dh hpp
          go_wp2_with fail
          refine region_mix0 (by kernel_rfl) (by kernel_rfl) (fun y0 => ?_)
          iterate 14 (first | (refine mix_quiet (by rfl) (by rfl) (fun K hK => ?_); go_big_quiet_op; refine hK _ ?_; clear hK K) | (refine mix_skip (by rfl) ?_; simp only [Act.put, List.setIfInBounds_toArray, List.set_cons_zero, List.set_cons_succ]))
          (refine mix_loud (by rfl) (by rfl) (fun K E hK => ?_); go_big_op)
          refine (refOf_calls pp _ (by omega)).mono ?_; rintro e w5 ⟨rfl, hd⟩
          obtain ⟨x', rfl⟩ := more_ext _ hd; clear hd
          refine hK _ _ ⟨_, rfl⟩ ?_; clear hK K E
          iterate 2 (first | (refine mix_quiet (by rfl) (by rfl) (fun K hK => ?_); go_big_quiet_op; refine hK _ ?_; clear hK K) | (refine mix_skip (by rfl) ?_; simp only [Act.put, List.setIfInBounds_toArray, List.set_cons_zero, List.set_cons_succ]))
          (refine mix_loud (by rfl) (by rfl) (fun K E hK => ?_); go_big_op)
          refine (refOf_calls qq _ (by omega)).mono ?_; rintro e w5 ⟨rfl, hd⟩
          obtain ⟨x', rfl⟩ := more_ext _ hd; clear hd
          refine hK _ _ ⟨_, rfl⟩ ?_; clear hK K E
          unfold sumV
          repeat (first | (refine mix_quiet (by rfl) (by rfl) (fun K hK => ?_); go_big_quiet_op; refine hK _ ?_; clear hK K) | (refine mix_skip (by rfl) ?_; simp only [Act.put, List.setIfInBounds_toArray, List.set_cons_zero, List.set_cons_succ]))
          refine mix_nil ?_
          have hE9 := hE.trans (grow_ext x')
          go_wp2_with fail
          go_ret
          exact ⟨rfl, hE9⟩
    · have d1 : decide (p = r) = false := decide_eq_false hc
      have hval : (if decide (p = r) then firstO (wayS xa T A) (wayS ya T B) else none) = none := if_neg (by rw [d1]; simp)
      obtain ⟨sm, hsm⟩ : ∃ sm, decide (A = B) = sm := ⟨_, rfl⟩
      have HSM := Lib.hid hsm
      rw [d1] at heqf
      clear d1 hc hsm
      have HR2 : Hid (leavesP m n xa ya A B = none) := Lib.hid (hR.trans hval)
      clear hR hval hb1 hb2 hmeet
      go_wp2_with (refine stop_load 23 (.tmp 62) rfl ?_)
      refine ⟨?_⟩
      change wpList _ _ _ _ _ (v4.alloc (.cells #[.string (bs []), .string (bs [])] 57))
      have hO := Blk.new v4 57 #[.string (bs []), .string (bs [])]
      have e7 : Ext v4 (v4.alloc (.cells #[.string (bs []), .string (bs [])] 57)) := (Ext.refl v4).alloc _
      obtain ⟨g6, g6e⟩ : ∃ g6, g6 = v4.heap.size := ⟨_, rfl⟩
      try rw [← v4z]
      try rw [← g6e]
      rw [← g6e] at hO
      have v5z : (v4.alloc (.cells #[.string (bs []), .string (bs [])] 57)).heap.size = g6 + 1 := by rw [alloc_size, ← g6e]
      have g6b : v4.heap.size ≤ g6 := by omega
      generalize v4.alloc (.cells #[.string (bs []), .string (bs [])] 57) = v5 at *
      clear g6e
      replace hX := Blk.below hX e7 (Blk.lt hX)
      replace hM := Blk.below hM e7 (Blk.lt hM)
      replace hL := Blk.below hL e7 (Blk.lt hL)
      replace hE := hE.trans e7
      replace c0 : v5.cell? ⟨w.heap.size, 0, none⟩ = some (.int .i64 m) := Blk.cell hM 0
      replace c1 : v5.cell? ⟨w.heap.size, 1, none⟩ = some (.int .i64 n) := Blk.cell hM 1
      replace c2 : v5.cell? ⟨w.heap.size + 1 + 1, 0, none⟩ = some (.slice Pa la.length ka) := Blk.cell hL 0
      replace c3 : v5.cell? ⟨w.heap.size + 1 + 1, 1, none⟩ = some (.slice Pb lb.length kb) := Blk.cell hL 1
      replace c4 : v5.cell? ⟨w.heap.size + 1 + 1, 2, none⟩ = some (.bool false) := Blk.cell hL 2
      replace hm0 : v5.rangeAt (w.heap.size + 1) 0 (hcells xa) := blk_mid hX hall 0 (by simp)
      replace hm1 : v5.rangeAt (w.heap.size + 1) 32 (hcells ya) := blk_mid hX hall 1 (by simp)
      replace hMl := Blk.lt hM
      replace hLl := Blk.lt hL
      replace hXl := Blk.lt hX
      clear e7
      have co0 : v5.cell? ⟨g6, 0, none⟩ = some (.string (bs [])) := Blk.cell hO 0
      have co1 : v5.cell? ⟨g6, 1, none⟩ = some (.string (bs [])) := Blk.cell hO 1
      have col := Blk.lt hO
      refine wpList_load_mid rfl 23 (.tmp 62) rfl (w.heap.size + 1) (0) (by rfl) (hcells xa) _ hm0 Tryd.underlying23 rfl (size32l _ hxa) ?_
      simp only [Act.put, List.setIfInBounds_toArray, List.set_cons_zero, List.set_cons_succ]
      unfold hcells
      go_wp2_with (refine stop_load 23 (.tmp 64) rfl ?_)
      refine ⟨?_⟩
      refine wpList_load_mid rfl 23 (.tmp 64) rfl (w.heap.size + 1) (32) (by rfl) (hcells ya) _ hm1 Tryd.underlying23 rfl (size32l _ hya) ?_
      simp only [Act.put, List.setIfInBounds_toArray, List.set_cons_zero, List.set_cons_succ]
      unfold hcells
      go_wp2_with fail
      change Calls _ _ #[_, _, sumV xa, sumV ya, _, _] _ _
      refine (Leaves_calls m n hn.2 xa ya hxa hya _ _ A B hAa hAb (by rw [HXa.out]; omega) (by rw [HXb.out]; omega) _ (KW.ext hE) (HTa.out _ hE) (HTb.out _ hE)).mono ?_; rw [HR2.out, twC_none]; rintro e v9 ⟨rfl, e8⟩
      replace hX := Blk.below hX e8 (Blk.lt hX)
      replace hM := Blk.below hM e8 (Blk.lt hM)
      replace hL := Blk.below hL e8 (Blk.lt hL)
      replace hO := Blk.below hO e8 (Blk.lt hO)
      replace hE := hE.trans e8
      replace c0 : v9.cell? ⟨w.heap.size, 0, none⟩ = some (.int .i64 m) := Blk.cell hM 0
      replace c1 : v9.cell? ⟨w.heap.size, 1, none⟩ = some (.int .i64 n) := Blk.cell hM 1
      replace c2 : v9.cell? ⟨w.heap.size + 1 + 1, 0, none⟩ = some (.slice Pa la.length ka) := Blk.cell hL 0
      replace c3 : v9.cell? ⟨w.heap.size + 1 + 1, 1, none⟩ = some (.slice Pb lb.length kb) := Blk.cell hL 1
      replace c4 : v9.cell? ⟨w.heap.size + 1 + 1, 2, none⟩ = some (.bool false) := Blk.cell hL 2
      replace hm0 : v9.rangeAt (w.heap.size + 1) 0 (hcells xa) := blk_mid hX hall 0 (by simp)
      replace hm1 : v9.rangeAt (w.heap.size + 1) 32 (hcells ya) := blk_mid hX hall 1 (by simp)
      replace hMl := Blk.lt hM
      replace hLl := Blk.lt hL
      replace hXl := Blk.lt hX
      replace co0 : v9.cell? ⟨g6, 0, none⟩ = some (.string (bs [])) := Blk.cell hO 0
      replace co1 : v9.cell? ⟨g6, 1, none⟩ = some (.string (bs [])) := Blk.cell hO 1
      replace col := Blk.lt hO
      clear e8
      go_wp2_with (refine stop_load 23 (.tmp 72) rfl ?_)
      refine ⟨?_⟩
      change wpList _ _ _ _ _ (v9.alloc (.cells #[.string (bs []), .string (bs [])] 57))
      have hP := Blk.new v9 57 #[.string (bs []), .string (bs [])]
      have e12 : Ext v9 (v9.alloc (.cells #[.string (bs []), .string (bs [])] 57)) := (Ext.refl v9).alloc _
      obtain ⟨g11, g11e⟩ : ∃ g11, g11 = v9.heap.size := ⟨_, rfl⟩
      try rw [← v9z]
      try rw [← g11e]
      rw [← g11e] at hP
      have v10z : (v9.alloc (.cells #[.string (bs []), .string (bs [])] 57)).heap.size = g11 + 1 := by rw [alloc_size, ← g11e]
      have g11b : v9.heap.size ≤ g11 := by omega
      generalize v9.alloc (.cells #[.string (bs []), .string (bs [])] 57) = v10 at *
      clear g11e
      replace hX := Blk.below hX e12 (Blk.lt hX)
      replace hM := Blk.below hM e12 (Blk.lt hM)
      replace hL := Blk.below hL e12 (Blk.lt hL)
      replace hO := Blk.below hO e12 (Blk.lt hO)
      replace hE := hE.trans e12
      replace c0 : v10.cell? ⟨w.heap.size, 0, none⟩ = some (.int .i64 m) := Blk.cell hM 0
      replace c1 : v10.cell? ⟨w.heap.size, 1, none⟩ = some (.int .i64 n) := Blk.cell hM 1
      replace c2 : v10.cell? ⟨w.heap.size + 1 + 1, 0, none⟩ = some (.slice Pa la.length ka) := Blk.cell hL 0
      replace c3 : v10.cell? ⟨w.heap.size + 1 + 1, 1, none⟩ = some (.slice Pb lb.length kb) := Blk.cell hL 1
      replace c4 : v10.cell? ⟨w.heap.size + 1 + 1, 2, none⟩ = some (.bool false) := Blk.cell hL 2
      replace hm0 : v10.rangeAt (w.heap.size + 1) 0 (hcells xa) := blk_mid hX hall 0 (by simp)
      replace hm1 : v10.rangeAt (w.heap.size + 1) 32 (hcells ya) := blk_mid hX hall 1 (by simp)
      replace hMl := Blk.lt hM
      replace hLl := Blk.lt hL
      replace hXl := Blk.lt hX
      replace co0 : v10.cell? ⟨g6, 0, none⟩ = some (.string (bs [])) := Blk.cell hO 0
      replace co1 : v10.cell? ⟨g6, 1, none⟩ = some (.string (bs [])) := Blk.cell hO 1
      replace col := Blk.lt hO
      clear e12
      have cp0 : v10.cell? ⟨g11, 0, none⟩ = some (.string (bs [])) := Blk.cell hP 0
      have cp1 : v10.cell? ⟨g11, 1, none⟩ = some (.string (bs [])) := Blk.cell hP 1
      have cpl := Blk.lt hP
      refine wpList_load_mid rfl 23 (.tmp 72) rfl (w.heap.size + 1) (0) (by rfl) (hcells xa) _ hm0 Tryd.underlying23 rfl (size32l _ hxa) ?_
      simp only [Act.put, List.setIfInBounds_toArray, List.set_cons_zero, List.set_cons_succ]
      unfold hcells
      go_wp2_with fail
      change Calls _ _ #[sumV xa, _, _, _] _ _
      refine (refFold_sls xa hxa m n _ A hAa (by rw [HXa.out]; omega) _ (HTa.out _ hE)).mono ?_; rw [HF1.out]; rintro e v14 ⟨rfl, e13⟩
      replace hX := Blk.below hX e13 (Blk.lt hX)
      replace hM := Blk.below hM e13 (Blk.lt hM)
      replace hL := Blk.below hL e13 (Blk.lt hL)
      replace hO := Blk.below hO e13 (Blk.lt hO)
      replace hP := Blk.below hP e13 (Blk.lt hP)
      replace hE := hE.trans e13
      replace c0 : v14.cell? ⟨w.heap.size, 0, none⟩ = some (.int .i64 m) := Blk.cell hM 0
      replace c1 : v14.cell? ⟨w.heap.size, 1, none⟩ = some (.int .i64 n) := Blk.cell hM 1
      replace c2 : v14.cell? ⟨w.heap.size + 1 + 1, 0, none⟩ = some (.slice Pa la.length ka) := Blk.cell hL 0
      replace c3 : v14.cell? ⟨w.heap.size + 1 + 1, 1, none⟩ = some (.slice Pb lb.length kb) := Blk.cell hL 1
      replace c4 : v14.cell? ⟨w.heap.size + 1 + 1, 2, none⟩ = some (.bool false) := Blk.cell hL 2
      replace hm0 : v14.rangeAt (w.heap.size + 1) 0 (hcells xa) := blk_mid hX hall 0 (by simp)
      replace hm1 : v14.rangeAt (w.heap.size + 1) 32 (hcells ya) := blk_mid hX hall 1 (by simp)
      replace hMl := Blk.lt hM
      replace hLl := Blk.lt hL
      replace hXl := Blk.lt hX
      replace co0 : v14.cell? ⟨g6, 0, none⟩ = some (.string (bs [])) := Blk.cell hO 0
      replace co1 : v14.cell? ⟨g6, 1, none⟩ = some (.string (bs [])) := Blk.cell hO 1
      replace col := Blk.lt hO
      replace cp0 : v14.cell? ⟨g11, 0, none⟩ = some (.string (bs [])) := Blk.cell hP 0
      replace cp1 : v14.cell? ⟨g11, 1, none⟩ = some (.string (bs [])) := Blk.cell hP 1
      replace cpl := Blk.lt hP
      clear e13
      try unfold sumV
      go_wp2_with (refine stop_store 23 (.tmp 14) (.tmp 80) rfl ?_)
      refine ⟨?_⟩
      change wpList _ _ _ _ _ (v14.alloc (.cells ((zerosB 32).map byteV).toArray 23))
      have hA0 : ArrB (v14.alloc (.cells ((zerosB 32).map byteV).toArray 23)) v14.heap.size 23 (zerosB 32) := Blk.new _ _ _
      refine wpList_store_row rfl 23 (.tmp 14) (.tmp 80) rfl v14.heap.size ((p).map byteV).toArray (by rfl) (by rfl) 23 _ hA0 (size32.trans (by simp [hp32])) (by simp [hp32, zerosB]) (by simp [byteV, Value.oneCell']) ?_
      simp only [Act.put, List.setIfInBounds_toArray, List.set_cons_zero, List.set_cons_succ]
      have hA : ArrB ((v14.alloc (.cells ((zerosB 32).map byteV).toArray 23)).setRow v14.heap.size ((p).map byteV).toArray) v14.heap.size 23 (p) := Blk.row hA0 _
      have e16 : Ext v14 ((v14.alloc (.cells ((zerosB 32).map byteV).toArray 23)).setRow v14.heap.size ((p).map byteV).toArray) := ((Ext.refl v14).alloc _).row (Nat.le_refl _) _
      clear hA0
      generalize (v14.alloc (.cells ((zerosB 32).map byteV).toArray 23)).setRow v14.heap.size ((p).map byteV).toArray = v15 at *
      have g17l := Blk.lt hA
      obtain ⟨g17, g17e⟩ : ∃ g17, g17 = v14.heap.size := ⟨_, rfl⟩
      rw [← g17e] at hA g17l
      try rw [← g17e]
      have g17b : v14.heap.size ≤ g17 := by omega
      replace hX := Blk.below hX e16 (Blk.lt hX)
      replace hM := Blk.below hM e16 (Blk.lt hM)
      replace hL := Blk.below hL e16 (Blk.lt hL)
      replace hO := Blk.below hO e16 (Blk.lt hO)
      replace hP := Blk.below hP e16 (Blk.lt hP)
      replace hE := hE.trans e16
      replace c0 : v15.cell? ⟨w.heap.size, 0, none⟩ = some (.int .i64 m) := Blk.cell hM 0
      replace c1 : v15.cell? ⟨w.heap.size, 1, none⟩ = some (.int .i64 n) := Blk.cell hM 1
      replace c2 : v15.cell? ⟨w.heap.size + 1 + 1, 0, none⟩ = some (.slice Pa la.length ka) := Blk.cell hL 0
      replace c3 : v15.cell? ⟨w.heap.size + 1 + 1, 1, none⟩ = some (.slice Pb lb.length kb) := Blk.cell hL 1
      replace c4 : v15.cell? ⟨w.heap.size + 1 + 1, 2, none⟩ = some (.bool false) := Blk.cell hL 2
      replace hm0 : v15.rangeAt (w.heap.size + 1) 0 (hcells xa) := blk_mid hX hall 0 (by simp)
      replace hm1 : v15.rangeAt (w.heap.size + 1) 32 (hcells ya) := blk_mid hX hall 1 (by simp)
      replace hMl := Blk.lt hM
      replace hLl := Blk.lt hL
      replace hXl := Blk.lt hX
      replace co0 : v15.cell? ⟨g6, 0, none⟩ = some (.string (bs [])) := Blk.cell hO 0
      replace co1 : v15.cell? ⟨g6, 1, none⟩ = some (.string (bs [])) := Blk.cell hO 1
      replace col := Blk.lt hO
      replace cp0 : v15.cell? ⟨g11, 0, none⟩ = some (.string (bs [])) := Blk.cell hP 0
      replace cp1 : v15.cell? ⟨g11, 1, none⟩ = some (.string (bs [])) := Blk.cell hP 1
      replace cpl := Blk.lt hP
      clear e16
      clear g17e
      go_wp2_with (refine stop_load 23 (.tmp 83) rfl ?_)
      refine ⟨?_⟩
      refine wpList_load_mid rfl 23 (.tmp 83) rfl (w.heap.size + 1) (32) (by rfl) (hcells ya) _ hm1 Tryd.underlying23 rfl (size32l _ hya) ?_
      simp only [Act.put, List.setIfInBounds_toArray, List.set_cons_zero, List.set_cons_succ]
      unfold hcells
      go_wp2_with fail
      change Calls _ _ #[sumV ya, _, _, _] _ _
      refine (refFold_sls ya hya m n _ B hAb (by rw [HXb.out]; omega) _ (HTb.out _ hE)).mono ?_; rw [HF2.out]; rintro e v19 ⟨rfl, e18⟩
      replace hX := Blk.below hX e18 (Blk.lt hX)
      replace hM := Blk.below hM e18 (Blk.lt hM)
      replace hL := Blk.below hL e18 (Blk.lt hL)
      replace hO := Blk.below hO e18 (Blk.lt hO)
      replace hP := Blk.below hP e18 (Blk.lt hP)
      replace hA := Blk.below hA e18 (Blk.lt hA)
      replace hE := hE.trans e18
      replace c0 : v19.cell? ⟨w.heap.size, 0, none⟩ = some (.int .i64 m) := Blk.cell hM 0
      replace c1 : v19.cell? ⟨w.heap.size, 1, none⟩ = some (.int .i64 n) := Blk.cell hM 1
      replace c2 : v19.cell? ⟨w.heap.size + 1 + 1, 0, none⟩ = some (.slice Pa la.length ka) := Blk.cell hL 0
      replace c3 : v19.cell? ⟨w.heap.size + 1 + 1, 1, none⟩ = some (.slice Pb lb.length kb) := Blk.cell hL 1
      replace c4 : v19.cell? ⟨w.heap.size + 1 + 1, 2, none⟩ = some (.bool false) := Blk.cell hL 2
      replace hm0 : v19.rangeAt (w.heap.size + 1) 0 (hcells xa) := blk_mid hX hall 0 (by simp)
      replace hm1 : v19.rangeAt (w.heap.size + 1) 32 (hcells ya) := blk_mid hX hall 1 (by simp)
      replace hMl := Blk.lt hM
      replace hLl := Blk.lt hL
      replace hXl := Blk.lt hX
      replace co0 : v19.cell? ⟨g6, 0, none⟩ = some (.string (bs [])) := Blk.cell hO 0
      replace co1 : v19.cell? ⟨g6, 1, none⟩ = some (.string (bs [])) := Blk.cell hO 1
      replace col := Blk.lt hO
      replace cp0 : v19.cell? ⟨g11, 0, none⟩ = some (.string (bs [])) := Blk.cell hP 0
      replace cp1 : v19.cell? ⟨g11, 1, none⟩ = some (.string (bs [])) := Blk.cell hP 1
      replace cpl := Blk.lt hP
      clear e18
      try unfold sumV
      go_wp2_with (refine stop_store 23 (.tmp 16) (.tmp 91) rfl ?_)
      refine ⟨?_⟩
      change wpList _ _ _ _ _ (v19.alloc (.cells ((zerosB 32).map byteV).toArray 23))
      have hB0 : ArrB (v19.alloc (.cells ((zerosB 32).map byteV).toArray 23)) v19.heap.size 23 (zerosB 32) := Blk.new _ _ _
      refine wpList_store_row rfl 23 (.tmp 16) (.tmp 91) rfl v19.heap.size ((r).map byteV).toArray (by rfl) (by rfl) 23 _ hB0 (size32.trans (by simp [hr32])) (by simp [hr32, zerosB]) (by simp [byteV, Value.oneCell']) ?_
      simp only [Act.put, List.setIfInBounds_toArray, List.set_cons_zero, List.set_cons_succ]
      have hB : ArrB ((v19.alloc (.cells ((zerosB 32).map byteV).toArray 23)).setRow v19.heap.size ((r).map byteV).toArray) v19.heap.size 23 (r) := Blk.row hB0 _
      have e21 : Ext v19 ((v19.alloc (.cells ((zerosB 32).map byteV).toArray 23)).setRow v19.heap.size ((r).map byteV).toArray) := ((Ext.refl v19).alloc _).row (Nat.le_refl _) _
      clear hB0
      generalize (v19.alloc (.cells ((zerosB 32).map byteV).toArray 23)).setRow v19.heap.size ((r).map byteV).toArray = v20 at *
      have g22l := Blk.lt hB
      obtain ⟨g22, g22e⟩ : ∃ g22, g22 = v19.heap.size := ⟨_, rfl⟩
      rw [← g22e] at hB g22l
      try rw [← g22e]
      have g22b : v19.heap.size ≤ g22 := by omega
      replace hX := Blk.below hX e21 (Blk.lt hX)
      replace hM := Blk.below hM e21 (Blk.lt hM)
      replace hL := Blk.below hL e21 (Blk.lt hL)
      replace hO := Blk.below hO e21 (Blk.lt hO)
      replace hP := Blk.below hP e21 (Blk.lt hP)
      replace hA := Blk.below hA e21 (Blk.lt hA)
      replace hE := hE.trans e21
      replace c0 : v20.cell? ⟨w.heap.size, 0, none⟩ = some (.int .i64 m) := Blk.cell hM 0
      replace c1 : v20.cell? ⟨w.heap.size, 1, none⟩ = some (.int .i64 n) := Blk.cell hM 1
      replace c2 : v20.cell? ⟨w.heap.size + 1 + 1, 0, none⟩ = some (.slice Pa la.length ka) := Blk.cell hL 0
      replace c3 : v20.cell? ⟨w.heap.size + 1 + 1, 1, none⟩ = some (.slice Pb lb.length kb) := Blk.cell hL 1
      replace c4 : v20.cell? ⟨w.heap.size + 1 + 1, 2, none⟩ = some (.bool false) := Blk.cell hL 2
      replace hm0 : v20.rangeAt (w.heap.size + 1) 0 (hcells xa) := blk_mid hX hall 0 (by simp)
      replace hm1 : v20.rangeAt (w.heap.size + 1) 32 (hcells ya) := blk_mid hX hall 1 (by simp)
      replace hMl := Blk.lt hM
      replace hLl := Blk.lt hL
      replace hXl := Blk.lt hX
      replace co0 : v20.cell? ⟨g6, 0, none⟩ = some (.string (bs [])) := Blk.cell hO 0
      replace co1 : v20.cell? ⟨g6, 1, none⟩ = some (.string (bs [])) := Blk.cell hO 1
      replace col := Blk.lt hO
      replace cp0 : v20.cell? ⟨g11, 0, none⟩ = some (.string (bs [])) := Blk.cell hP 0
      replace cp1 : v20.cell? ⟨g11, 1, none⟩ = some (.string (bs [])) := Blk.cell hP 1
      replace cpl := Blk.lt hP
      clear e21
      clear g22e
      go_wp2_with fail
      refine (Same_calls _ _ A B hAa hAb _ (HTa.out _ hE) (HTb.out _ hE)).mono ?_; rw [HSM.out]; rintro e v24 ⟨rfl, e23⟩
      replace hX := Blk.below hX e23 (Blk.lt hX)
      replace hM := Blk.below hM e23 (Blk.lt hM)
      replace hL := Blk.below hL e23 (Blk.lt hL)
      replace hO := Blk.below hO e23 (Blk.lt hO)
      replace hP := Blk.below hP e23 (Blk.lt hP)
      replace hA := Blk.below hA e23 (Blk.lt hA)
      replace hB := Blk.below hB e23 (Blk.lt hB)
      replace hE := hE.trans e23
      replace c0 : v24.cell? ⟨w.heap.size, 0, none⟩ = some (.int .i64 m) := Blk.cell hM 0
      replace c1 : v24.cell? ⟨w.heap.size, 1, none⟩ = some (.int .i64 n) := Blk.cell hM 1
      replace c2 : v24.cell? ⟨w.heap.size + 1 + 1, 0, none⟩ = some (.slice Pa la.length ka) := Blk.cell hL 0
      replace c3 : v24.cell? ⟨w.heap.size + 1 + 1, 1, none⟩ = some (.slice Pb lb.length kb) := Blk.cell hL 1
      replace c4 : v24.cell? ⟨w.heap.size + 1 + 1, 2, none⟩ = some (.bool false) := Blk.cell hL 2
      replace hm0 : v24.rangeAt (w.heap.size + 1) 0 (hcells xa) := blk_mid hX hall 0 (by simp)
      replace hm1 : v24.rangeAt (w.heap.size + 1) 32 (hcells ya) := blk_mid hX hall 1 (by simp)
      replace hMl := Blk.lt hM
      replace hLl := Blk.lt hL
      replace hXl := Blk.lt hX
      replace co0 : v24.cell? ⟨g6, 0, none⟩ = some (.string (bs [])) := Blk.cell hO 0
      replace co1 : v24.cell? ⟨g6, 1, none⟩ = some (.string (bs [])) := Blk.cell hO 1
      replace col := Blk.lt hO
      replace cp0 : v24.cell? ⟨g11, 0, none⟩ = some (.string (bs [])) := Blk.cell hP 0
      replace cp1 : v24.cell? ⟨g11, 1, none⟩ = some (.string (bs [])) := Blk.cell hP 1
      replace cpl := Blk.lt hP
      clear e23
      go_wp2_with (refine stop_load 23 (.tmp 14) rfl ?_)
      refine ⟨?_⟩
      refine wpList_load_row rfl 23 (.tmp 14) rfl g17 (by rfl) 23 _ (0, 0) _ hA Tryd.underlying23 rfl (size32.trans (by simp [hp32])) ?_
      simp only [Act.put, List.setIfInBounds_toArray, List.set_cons_zero, List.set_cons_succ]
      go_wp2_with (refine stop_load 23 (.tmp 16) rfl ?_)
      refine ⟨?_⟩
      refine wpList_load_row rfl 23 (.tmp 16) rfl g22 (by rfl) 23 _ (0, 0) _ hB Tryd.underlying23 rfl (size32.trans (by simp [hr32])) ?_
      simp only [Act.put, List.setIfInBounds_toArray, List.set_cons_zero, List.set_cons_succ]
      go_wp2_with fail
      go_ret
      exact ⟨rfl, hE⟩
  · skip
    have hf1 : foldP xa m n A = (Way.foldW nodeB xa (Way.turnsI m n) A, true) := if_pos (by rw [← HL.out, HXa.out])
    have hf2 : foldP ya m n A = (Way.foldW nodeB ya (Way.turnsI m n) A, true) := if_pos (by rw [← HL.out, HXa.out])
    obtain ⟨T, hT⟩ : ∃ T, T = Way.turnsI m n := ⟨_, rfl⟩
    have hTl := HTl.out
    have hR : leavesP m n xa ya A A = if decide (Way.foldW nodeB xa T A = Way.foldW nodeB ya T A) then firstO (wayS xa T A) (wayS ya T A) else none := by
      unfold leavesP
      rw [hf1, hf2, ← hT]
      simp
    rw [← hT] at hf1 hf2 hTl
    have hp32 := foldW_length T A xa hxa
    have hr32 := foldW_length T A ya hya
    have hb1 := wayS_bound T A xa hxa hAa
    have hb2 := wayS_bound T A ya hya hAa
    have hmeet := meet32 T A A xa ya hxa hya hAa hAa (by rw [hTl, HXa.out]) (by rw [hTl, HXa.out])
    obtain ⟨p, hp⟩ : ∃ p, p = Way.foldW nodeB xa T A := ⟨_, rfl⟩
    obtain ⟨r, hr⟩ : ∃ r, r = Way.foldW nodeB ya T A := ⟨_, rfl⟩
    rw [← hp] at hf1 hR hp32 hmeet
    rw [← hr] at hf2 hR hr32 hmeet
    clear hp hr hT HTl hTl
    have HF1 := Lib.hid hf1
    have HF2 := Lib.hid hf2
    clear hf1 hf2
    have heqf := fun w : World => eq_sum p r hp32 hr32 w
    have heqx := fun w : World => eq_sum xa ya hxa hya w
    by_cases hc : p = r
    · have d1 : decide (p = r) = true := decide_eq_true hc
      rw [d1] at heqf
      by_cases hs : xa = ya ∧ A = A
      · have hval : (if decide (p = r) then firstO (wayS xa T A) (wayS ya T A) else none) = none := (if_pos d1).trans (by rw [← hs.1, ← hs.2]; exact first_same _)
        have HSM : Hid (decide (A = A) = true) := Lib.hid (decide_eq_true hs.2)
        have d2 : decide (xa = ya) = true := decide_eq_true hs.1
        rw [d2] at heqx
        clear d1 d2 hc hs
        have HR2 : Hid (leavesP m n xa ya A A = none) := Lib.hid (hR.trans hval)
        clear hR hval hb1 hb2 hmeet
        go_wp2_with (refine stop_load 23 (.tmp 62) rfl ?_)
        refine ⟨?_⟩
        change wpList _ _ _ _ _ (v4.alloc (.cells #[.string (bs []), .string (bs [])] 57))
        have hO := Blk.new v4 57 #[.string (bs []), .string (bs [])]
        have e7 : Ext v4 (v4.alloc (.cells #[.string (bs []), .string (bs [])] 57)) := (Ext.refl v4).alloc _
        obtain ⟨g6, g6e⟩ : ∃ g6, g6 = v4.heap.size := ⟨_, rfl⟩
        try rw [← v4z]
        try rw [← g6e]
        rw [← g6e] at hO
        have v5z : (v4.alloc (.cells #[.string (bs []), .string (bs [])] 57)).heap.size = g6 + 1 := by rw [alloc_size, ← g6e]
        have g6b : v4.heap.size ≤ g6 := by omega
        generalize v4.alloc (.cells #[.string (bs []), .string (bs [])] 57) = v5 at *
        clear g6e
        replace hX := Blk.below hX e7 (Blk.lt hX)
        replace hM := Blk.below hM e7 (Blk.lt hM)
        replace hL := Blk.below hL e7 (Blk.lt hL)
        replace hE := hE.trans e7
        replace c0 : v5.cell? ⟨w.heap.size, 0, none⟩ = some (.int .i64 m) := Blk.cell hM 0
        replace c1 : v5.cell? ⟨w.heap.size, 1, none⟩ = some (.int .i64 n) := Blk.cell hM 1
        replace c2 : v5.cell? ⟨w.heap.size + 1 + 1, 0, none⟩ = some (.slice Pa la.length ka) := Blk.cell hL 0
        replace c3 : v5.cell? ⟨w.heap.size + 1 + 1, 1, none⟩ = some (.slice Pb lb.length kb) := Blk.cell hL 1
        replace c4 : v5.cell? ⟨w.heap.size + 1 + 1, 2, none⟩ = some (.bool true) := Blk.cell hL 2
        replace hm0 : v5.rangeAt (w.heap.size + 1) 0 (hcells xa) := blk_mid hX hall 0 (by simp)
        replace hm1 : v5.rangeAt (w.heap.size + 1) 32 (hcells ya) := blk_mid hX hall 1 (by simp)
        replace hMl := Blk.lt hM
        replace hLl := Blk.lt hL
        replace hXl := Blk.lt hX
        clear e7
        have co0 : v5.cell? ⟨g6, 0, none⟩ = some (.string (bs [])) := Blk.cell hO 0
        have co1 : v5.cell? ⟨g6, 1, none⟩ = some (.string (bs [])) := Blk.cell hO 1
        have col := Blk.lt hO
        refine wpList_load_mid rfl 23 (.tmp 62) rfl (w.heap.size + 1) (0) (by rfl) (hcells xa) _ hm0 Tryd.underlying23 rfl (size32l _ hxa) ?_
        simp only [Act.put, List.setIfInBounds_toArray, List.set_cons_zero, List.set_cons_succ]
        unfold hcells
        go_wp2_with (refine stop_load 23 (.tmp 64) rfl ?_)
        refine ⟨?_⟩
        refine wpList_load_mid rfl 23 (.tmp 64) rfl (w.heap.size + 1) (32) (by rfl) (hcells ya) _ hm1 Tryd.underlying23 rfl (size32l _ hya) ?_
        simp only [Act.put, List.setIfInBounds_toArray, List.set_cons_zero, List.set_cons_succ]
        unfold hcells
        go_wp2_with fail
        change Calls _ _ #[_, _, sumV xa, sumV ya, _, _] _ _
        refine (Leaves_calls m n hn.2 xa ya hxa hya _ _ A A hAa hAa (by rw [HXa.out]; omega) (by rw [HXa.out]; omega) _ (KW.ext hE) (HTa.out _ hE) (HTa.out _ hE)).mono ?_; rw [HR2.out, twC_none]; rintro e v9 ⟨rfl, e8⟩
        replace hX := Blk.below hX e8 (Blk.lt hX)
        replace hM := Blk.below hM e8 (Blk.lt hM)
        replace hL := Blk.below hL e8 (Blk.lt hL)
        replace hO := Blk.below hO e8 (Blk.lt hO)
        replace hE := hE.trans e8
        replace c0 : v9.cell? ⟨w.heap.size, 0, none⟩ = some (.int .i64 m) := Blk.cell hM 0
        replace c1 : v9.cell? ⟨w.heap.size, 1, none⟩ = some (.int .i64 n) := Blk.cell hM 1
        replace c2 : v9.cell? ⟨w.heap.size + 1 + 1, 0, none⟩ = some (.slice Pa la.length ka) := Blk.cell hL 0
        replace c3 : v9.cell? ⟨w.heap.size + 1 + 1, 1, none⟩ = some (.slice Pb lb.length kb) := Blk.cell hL 1
        replace c4 : v9.cell? ⟨w.heap.size + 1 + 1, 2, none⟩ = some (.bool true) := Blk.cell hL 2
        replace hm0 : v9.rangeAt (w.heap.size + 1) 0 (hcells xa) := blk_mid hX hall 0 (by simp)
        replace hm1 : v9.rangeAt (w.heap.size + 1) 32 (hcells ya) := blk_mid hX hall 1 (by simp)
        replace hMl := Blk.lt hM
        replace hLl := Blk.lt hL
        replace hXl := Blk.lt hX
        replace co0 : v9.cell? ⟨g6, 0, none⟩ = some (.string (bs [])) := Blk.cell hO 0
        replace co1 : v9.cell? ⟨g6, 1, none⟩ = some (.string (bs [])) := Blk.cell hO 1
        replace col := Blk.lt hO
        clear e8
        go_wp2_with (refine stop_load 23 (.tmp 72) rfl ?_)
        refine ⟨?_⟩
        change wpList _ _ _ _ _ (v9.alloc (.cells #[.string (bs []), .string (bs [])] 57))
        have hP := Blk.new v9 57 #[.string (bs []), .string (bs [])]
        have e12 : Ext v9 (v9.alloc (.cells #[.string (bs []), .string (bs [])] 57)) := (Ext.refl v9).alloc _
        obtain ⟨g11, g11e⟩ : ∃ g11, g11 = v9.heap.size := ⟨_, rfl⟩
        try rw [← v9z]
        try rw [← g11e]
        rw [← g11e] at hP
        have v10z : (v9.alloc (.cells #[.string (bs []), .string (bs [])] 57)).heap.size = g11 + 1 := by rw [alloc_size, ← g11e]
        have g11b : v9.heap.size ≤ g11 := by omega
        generalize v9.alloc (.cells #[.string (bs []), .string (bs [])] 57) = v10 at *
        clear g11e
        replace hX := Blk.below hX e12 (Blk.lt hX)
        replace hM := Blk.below hM e12 (Blk.lt hM)
        replace hL := Blk.below hL e12 (Blk.lt hL)
        replace hO := Blk.below hO e12 (Blk.lt hO)
        replace hE := hE.trans e12
        replace c0 : v10.cell? ⟨w.heap.size, 0, none⟩ = some (.int .i64 m) := Blk.cell hM 0
        replace c1 : v10.cell? ⟨w.heap.size, 1, none⟩ = some (.int .i64 n) := Blk.cell hM 1
        replace c2 : v10.cell? ⟨w.heap.size + 1 + 1, 0, none⟩ = some (.slice Pa la.length ka) := Blk.cell hL 0
        replace c3 : v10.cell? ⟨w.heap.size + 1 + 1, 1, none⟩ = some (.slice Pb lb.length kb) := Blk.cell hL 1
        replace c4 : v10.cell? ⟨w.heap.size + 1 + 1, 2, none⟩ = some (.bool true) := Blk.cell hL 2
        replace hm0 : v10.rangeAt (w.heap.size + 1) 0 (hcells xa) := blk_mid hX hall 0 (by simp)
        replace hm1 : v10.rangeAt (w.heap.size + 1) 32 (hcells ya) := blk_mid hX hall 1 (by simp)
        replace hMl := Blk.lt hM
        replace hLl := Blk.lt hL
        replace hXl := Blk.lt hX
        replace co0 : v10.cell? ⟨g6, 0, none⟩ = some (.string (bs [])) := Blk.cell hO 0
        replace co1 : v10.cell? ⟨g6, 1, none⟩ = some (.string (bs [])) := Blk.cell hO 1
        replace col := Blk.lt hO
        clear e12
        have cp0 : v10.cell? ⟨g11, 0, none⟩ = some (.string (bs [])) := Blk.cell hP 0
        have cp1 : v10.cell? ⟨g11, 1, none⟩ = some (.string (bs [])) := Blk.cell hP 1
        have cpl := Blk.lt hP
        refine wpList_load_mid rfl 23 (.tmp 72) rfl (w.heap.size + 1) (0) (by rfl) (hcells xa) _ hm0 Tryd.underlying23 rfl (size32l _ hxa) ?_
        simp only [Act.put, List.setIfInBounds_toArray, List.set_cons_zero, List.set_cons_succ]
        unfold hcells
        go_wp2_with fail
        change Calls _ _ #[sumV xa, _, _, _] _ _
        refine (refFold_sls xa hxa m n _ A hAa (by rw [HXa.out]; omega) _ (HTa.out _ hE)).mono ?_; rw [HF1.out]; rintro e v14 ⟨rfl, e13⟩
        replace hX := Blk.below hX e13 (Blk.lt hX)
        replace hM := Blk.below hM e13 (Blk.lt hM)
        replace hL := Blk.below hL e13 (Blk.lt hL)
        replace hO := Blk.below hO e13 (Blk.lt hO)
        replace hP := Blk.below hP e13 (Blk.lt hP)
        replace hE := hE.trans e13
        replace c0 : v14.cell? ⟨w.heap.size, 0, none⟩ = some (.int .i64 m) := Blk.cell hM 0
        replace c1 : v14.cell? ⟨w.heap.size, 1, none⟩ = some (.int .i64 n) := Blk.cell hM 1
        replace c2 : v14.cell? ⟨w.heap.size + 1 + 1, 0, none⟩ = some (.slice Pa la.length ka) := Blk.cell hL 0
        replace c3 : v14.cell? ⟨w.heap.size + 1 + 1, 1, none⟩ = some (.slice Pb lb.length kb) := Blk.cell hL 1
        replace c4 : v14.cell? ⟨w.heap.size + 1 + 1, 2, none⟩ = some (.bool true) := Blk.cell hL 2
        replace hm0 : v14.rangeAt (w.heap.size + 1) 0 (hcells xa) := blk_mid hX hall 0 (by simp)
        replace hm1 : v14.rangeAt (w.heap.size + 1) 32 (hcells ya) := blk_mid hX hall 1 (by simp)
        replace hMl := Blk.lt hM
        replace hLl := Blk.lt hL
        replace hXl := Blk.lt hX
        replace co0 : v14.cell? ⟨g6, 0, none⟩ = some (.string (bs [])) := Blk.cell hO 0
        replace co1 : v14.cell? ⟨g6, 1, none⟩ = some (.string (bs [])) := Blk.cell hO 1
        replace col := Blk.lt hO
        replace cp0 : v14.cell? ⟨g11, 0, none⟩ = some (.string (bs [])) := Blk.cell hP 0
        replace cp1 : v14.cell? ⟨g11, 1, none⟩ = some (.string (bs [])) := Blk.cell hP 1
        replace cpl := Blk.lt hP
        clear e13
        try unfold sumV
        go_wp2_with (refine stop_store 23 (.tmp 14) (.tmp 80) rfl ?_)
        refine ⟨?_⟩
        change wpList _ _ _ _ _ (v14.alloc (.cells ((zerosB 32).map byteV).toArray 23))
        have hA0 : ArrB (v14.alloc (.cells ((zerosB 32).map byteV).toArray 23)) v14.heap.size 23 (zerosB 32) := Blk.new _ _ _
        refine wpList_store_row rfl 23 (.tmp 14) (.tmp 80) rfl v14.heap.size ((p).map byteV).toArray (by rfl) (by rfl) 23 _ hA0 (size32.trans (by simp [hp32])) (by simp [hp32, zerosB]) (by simp [byteV, Value.oneCell']) ?_
        simp only [Act.put, List.setIfInBounds_toArray, List.set_cons_zero, List.set_cons_succ]
        have hA : ArrB ((v14.alloc (.cells ((zerosB 32).map byteV).toArray 23)).setRow v14.heap.size ((p).map byteV).toArray) v14.heap.size 23 (p) := Blk.row hA0 _
        have e16 : Ext v14 ((v14.alloc (.cells ((zerosB 32).map byteV).toArray 23)).setRow v14.heap.size ((p).map byteV).toArray) := ((Ext.refl v14).alloc _).row (Nat.le_refl _) _
        clear hA0
        generalize (v14.alloc (.cells ((zerosB 32).map byteV).toArray 23)).setRow v14.heap.size ((p).map byteV).toArray = v15 at *
        have g17l := Blk.lt hA
        obtain ⟨g17, g17e⟩ : ∃ g17, g17 = v14.heap.size := ⟨_, rfl⟩
        rw [← g17e] at hA g17l
        try rw [← g17e]
        have g17b : v14.heap.size ≤ g17 := by omega
        replace hX := Blk.below hX e16 (Blk.lt hX)
        replace hM := Blk.below hM e16 (Blk.lt hM)
        replace hL := Blk.below hL e16 (Blk.lt hL)
        replace hO := Blk.below hO e16 (Blk.lt hO)
        replace hP := Blk.below hP e16 (Blk.lt hP)
        replace hE := hE.trans e16
        replace c0 : v15.cell? ⟨w.heap.size, 0, none⟩ = some (.int .i64 m) := Blk.cell hM 0
        replace c1 : v15.cell? ⟨w.heap.size, 1, none⟩ = some (.int .i64 n) := Blk.cell hM 1
        replace c2 : v15.cell? ⟨w.heap.size + 1 + 1, 0, none⟩ = some (.slice Pa la.length ka) := Blk.cell hL 0
        replace c3 : v15.cell? ⟨w.heap.size + 1 + 1, 1, none⟩ = some (.slice Pb lb.length kb) := Blk.cell hL 1
        replace c4 : v15.cell? ⟨w.heap.size + 1 + 1, 2, none⟩ = some (.bool true) := Blk.cell hL 2
        replace hm0 : v15.rangeAt (w.heap.size + 1) 0 (hcells xa) := blk_mid hX hall 0 (by simp)
        replace hm1 : v15.rangeAt (w.heap.size + 1) 32 (hcells ya) := blk_mid hX hall 1 (by simp)
        replace hMl := Blk.lt hM
        replace hLl := Blk.lt hL
        replace hXl := Blk.lt hX
        replace co0 : v15.cell? ⟨g6, 0, none⟩ = some (.string (bs [])) := Blk.cell hO 0
        replace co1 : v15.cell? ⟨g6, 1, none⟩ = some (.string (bs [])) := Blk.cell hO 1
        replace col := Blk.lt hO
        replace cp0 : v15.cell? ⟨g11, 0, none⟩ = some (.string (bs [])) := Blk.cell hP 0
        replace cp1 : v15.cell? ⟨g11, 1, none⟩ = some (.string (bs [])) := Blk.cell hP 1
        replace cpl := Blk.lt hP
        clear e16
        clear g17e
        go_wp2_with (refine stop_load 23 (.tmp 83) rfl ?_)
        refine ⟨?_⟩
        refine wpList_load_mid rfl 23 (.tmp 83) rfl (w.heap.size + 1) (32) (by rfl) (hcells ya) _ hm1 Tryd.underlying23 rfl (size32l _ hya) ?_
        simp only [Act.put, List.setIfInBounds_toArray, List.set_cons_zero, List.set_cons_succ]
        unfold hcells
        go_wp2_with fail
        change Calls _ _ #[sumV ya, _, _, _] _ _
        refine (refFold_sls ya hya m n _ A hAa (by rw [HXa.out]; omega) _ (HTa.out _ hE)).mono ?_; rw [HF2.out]; rintro e v19 ⟨rfl, e18⟩
        replace hX := Blk.below hX e18 (Blk.lt hX)
        replace hM := Blk.below hM e18 (Blk.lt hM)
        replace hL := Blk.below hL e18 (Blk.lt hL)
        replace hO := Blk.below hO e18 (Blk.lt hO)
        replace hP := Blk.below hP e18 (Blk.lt hP)
        replace hA := Blk.below hA e18 (Blk.lt hA)
        replace hE := hE.trans e18
        replace c0 : v19.cell? ⟨w.heap.size, 0, none⟩ = some (.int .i64 m) := Blk.cell hM 0
        replace c1 : v19.cell? ⟨w.heap.size, 1, none⟩ = some (.int .i64 n) := Blk.cell hM 1
        replace c2 : v19.cell? ⟨w.heap.size + 1 + 1, 0, none⟩ = some (.slice Pa la.length ka) := Blk.cell hL 0
        replace c3 : v19.cell? ⟨w.heap.size + 1 + 1, 1, none⟩ = some (.slice Pb lb.length kb) := Blk.cell hL 1
        replace c4 : v19.cell? ⟨w.heap.size + 1 + 1, 2, none⟩ = some (.bool true) := Blk.cell hL 2
        replace hm0 : v19.rangeAt (w.heap.size + 1) 0 (hcells xa) := blk_mid hX hall 0 (by simp)
        replace hm1 : v19.rangeAt (w.heap.size + 1) 32 (hcells ya) := blk_mid hX hall 1 (by simp)
        replace hMl := Blk.lt hM
        replace hLl := Blk.lt hL
        replace hXl := Blk.lt hX
        replace co0 : v19.cell? ⟨g6, 0, none⟩ = some (.string (bs [])) := Blk.cell hO 0
        replace co1 : v19.cell? ⟨g6, 1, none⟩ = some (.string (bs [])) := Blk.cell hO 1
        replace col := Blk.lt hO
        replace cp0 : v19.cell? ⟨g11, 0, none⟩ = some (.string (bs [])) := Blk.cell hP 0
        replace cp1 : v19.cell? ⟨g11, 1, none⟩ = some (.string (bs [])) := Blk.cell hP 1
        replace cpl := Blk.lt hP
        clear e18
        try unfold sumV
        go_wp2_with (refine stop_store 23 (.tmp 16) (.tmp 91) rfl ?_)
        refine ⟨?_⟩
        change wpList _ _ _ _ _ (v19.alloc (.cells ((zerosB 32).map byteV).toArray 23))
        have hB0 : ArrB (v19.alloc (.cells ((zerosB 32).map byteV).toArray 23)) v19.heap.size 23 (zerosB 32) := Blk.new _ _ _
        refine wpList_store_row rfl 23 (.tmp 16) (.tmp 91) rfl v19.heap.size ((r).map byteV).toArray (by rfl) (by rfl) 23 _ hB0 (size32.trans (by simp [hr32])) (by simp [hr32, zerosB]) (by simp [byteV, Value.oneCell']) ?_
        simp only [Act.put, List.setIfInBounds_toArray, List.set_cons_zero, List.set_cons_succ]
        have hB : ArrB ((v19.alloc (.cells ((zerosB 32).map byteV).toArray 23)).setRow v19.heap.size ((r).map byteV).toArray) v19.heap.size 23 (r) := Blk.row hB0 _
        have e21 : Ext v19 ((v19.alloc (.cells ((zerosB 32).map byteV).toArray 23)).setRow v19.heap.size ((r).map byteV).toArray) := ((Ext.refl v19).alloc _).row (Nat.le_refl _) _
        clear hB0
        generalize (v19.alloc (.cells ((zerosB 32).map byteV).toArray 23)).setRow v19.heap.size ((r).map byteV).toArray = v20 at *
        have g22l := Blk.lt hB
        obtain ⟨g22, g22e⟩ : ∃ g22, g22 = v19.heap.size := ⟨_, rfl⟩
        rw [← g22e] at hB g22l
        try rw [← g22e]
        have g22b : v19.heap.size ≤ g22 := by omega
        replace hX := Blk.below hX e21 (Blk.lt hX)
        replace hM := Blk.below hM e21 (Blk.lt hM)
        replace hL := Blk.below hL e21 (Blk.lt hL)
        replace hO := Blk.below hO e21 (Blk.lt hO)
        replace hP := Blk.below hP e21 (Blk.lt hP)
        replace hA := Blk.below hA e21 (Blk.lt hA)
        replace hE := hE.trans e21
        replace c0 : v20.cell? ⟨w.heap.size, 0, none⟩ = some (.int .i64 m) := Blk.cell hM 0
        replace c1 : v20.cell? ⟨w.heap.size, 1, none⟩ = some (.int .i64 n) := Blk.cell hM 1
        replace c2 : v20.cell? ⟨w.heap.size + 1 + 1, 0, none⟩ = some (.slice Pa la.length ka) := Blk.cell hL 0
        replace c3 : v20.cell? ⟨w.heap.size + 1 + 1, 1, none⟩ = some (.slice Pb lb.length kb) := Blk.cell hL 1
        replace c4 : v20.cell? ⟨w.heap.size + 1 + 1, 2, none⟩ = some (.bool true) := Blk.cell hL 2
        replace hm0 : v20.rangeAt (w.heap.size + 1) 0 (hcells xa) := blk_mid hX hall 0 (by simp)
        replace hm1 : v20.rangeAt (w.heap.size + 1) 32 (hcells ya) := blk_mid hX hall 1 (by simp)
        replace hMl := Blk.lt hM
        replace hLl := Blk.lt hL
        replace hXl := Blk.lt hX
        replace co0 : v20.cell? ⟨g6, 0, none⟩ = some (.string (bs [])) := Blk.cell hO 0
        replace co1 : v20.cell? ⟨g6, 1, none⟩ = some (.string (bs [])) := Blk.cell hO 1
        replace col := Blk.lt hO
        replace cp0 : v20.cell? ⟨g11, 0, none⟩ = some (.string (bs [])) := Blk.cell hP 0
        replace cp1 : v20.cell? ⟨g11, 1, none⟩ = some (.string (bs [])) := Blk.cell hP 1
        replace cpl := Blk.lt hP
        clear e21
        clear g22e
        go_wp2_with fail
        refine (Same_calls _ _ A A hAa hAa _ (HTa.out _ hE) (HTa.out _ hE)).mono ?_; rw [show decide (A = A) = true from decide_eq_true rfl]; rintro e v24 ⟨rfl, e23⟩
        replace hX := Blk.below hX e23 (Blk.lt hX)
        replace hM := Blk.below hM e23 (Blk.lt hM)
        replace hL := Blk.below hL e23 (Blk.lt hL)
        replace hO := Blk.below hO e23 (Blk.lt hO)
        replace hP := Blk.below hP e23 (Blk.lt hP)
        replace hA := Blk.below hA e23 (Blk.lt hA)
        replace hB := Blk.below hB e23 (Blk.lt hB)
        replace hE := hE.trans e23
        replace c0 : v24.cell? ⟨w.heap.size, 0, none⟩ = some (.int .i64 m) := Blk.cell hM 0
        replace c1 : v24.cell? ⟨w.heap.size, 1, none⟩ = some (.int .i64 n) := Blk.cell hM 1
        replace c2 : v24.cell? ⟨w.heap.size + 1 + 1, 0, none⟩ = some (.slice Pa la.length ka) := Blk.cell hL 0
        replace c3 : v24.cell? ⟨w.heap.size + 1 + 1, 1, none⟩ = some (.slice Pb lb.length kb) := Blk.cell hL 1
        replace c4 : v24.cell? ⟨w.heap.size + 1 + 1, 2, none⟩ = some (.bool true) := Blk.cell hL 2
        replace hm0 : v24.rangeAt (w.heap.size + 1) 0 (hcells xa) := blk_mid hX hall 0 (by simp)
        replace hm1 : v24.rangeAt (w.heap.size + 1) 32 (hcells ya) := blk_mid hX hall 1 (by simp)
        replace hMl := Blk.lt hM
        replace hLl := Blk.lt hL
        replace hXl := Blk.lt hX
        replace co0 : v24.cell? ⟨g6, 0, none⟩ = some (.string (bs [])) := Blk.cell hO 0
        replace co1 : v24.cell? ⟨g6, 1, none⟩ = some (.string (bs [])) := Blk.cell hO 1
        replace col := Blk.lt hO
        replace cp0 : v24.cell? ⟨g11, 0, none⟩ = some (.string (bs [])) := Blk.cell hP 0
        replace cp1 : v24.cell? ⟨g11, 1, none⟩ = some (.string (bs [])) := Blk.cell hP 1
        replace cpl := Blk.lt hP
        clear e23
        go_wp2_with (refine stop_load 23 (.tmp 14) rfl ?_)
        refine ⟨?_⟩
        refine wpList_load_row rfl 23 (.tmp 14) rfl g17 (by rfl) 23 _ (0, 0) _ hA Tryd.underlying23 rfl (size32.trans (by simp [hp32])) ?_
        simp only [Act.put, List.setIfInBounds_toArray, List.set_cons_zero, List.set_cons_succ]
        go_wp2_with (refine stop_load 23 (.tmp 16) rfl ?_)
        refine ⟨?_⟩
        refine wpList_load_row rfl 23 (.tmp 16) rfl g22 (by rfl) 23 _ (0, 0) _ hB Tryd.underlying23 rfl (size32.trans (by simp [hr32])) ?_
        simp only [Act.put, List.setIfInBounds_toArray, List.set_cons_zero, List.set_cons_succ]
        go_wp2_with (refine stop_load 23 (.tmp 100) rfl ?_)
        refine ⟨?_⟩
        refine list_want (by rfl) (fun K hK => ?_)
        refine wp_load_mid 23 (.tmp 100) rfl (w.heap.size + 1) (0) (by rfl) (hcells xa) _ hm0 Tryd.underlying23 rfl (size32l _ hxa) ?_
        refine hK _ _ ?_; clear hK K
        simp only [Act.put, List.setIfInBounds_toArray, List.set_cons_zero, List.set_cons_succ]
        unfold hcells
        go_wp2_with (refine stop_load 23 (.tmp 102) rfl ?_)
        refine ⟨?_⟩
        refine list_want (by rfl) (fun K hK => ?_)
        refine wp_load_mid 23 (.tmp 102) rfl (w.heap.size + 1) (32) (by rfl) (hcells ya) _ hm1 Tryd.underlying23 rfl (size32l _ hya) ?_
        refine hK _ _ ?_; clear hK K
        simp only [Act.put, List.setIfInBounds_toArray, List.set_cons_zero, List.set_cons_succ]
        unfold hcells
        go_wp2_with fail
        go_ret
        exact ⟨rfl, hE⟩
      · have hne : xa ≠ ya ∨ A ≠ A := by
          by_cases h : xa = ya
          · exact .inr (fun h2 => hs ⟨h, h2⟩)
          · exact .inl h
        obtain ⟨pp, qq, hpq, hpp⟩ := first_facts (hmeet hc hne) 65 hb1 hb2
        have hval : (if decide (p = r) then firstO (wayS xa T A) (wayS ya T A) else none) = some (pp, qq) := (if_pos d1).trans hpq
        clear d1 hc hpq hne
        by_cases hxy : xa = ya
        · have d2 : decide (xa = ya) = true := decide_eq_true hxy
          exact absurd ⟨hxy, rfl⟩ hs
        · have d2 : decide (xa = ya) = false := decide_eq_false hxy
          obtain ⟨sm, hsm⟩ : ∃ sm, decide (A = A) = sm := ⟨_, rfl⟩
          have HSM := Lib.hid hsm
          rw [d2] at heqx
          clear d2 hs hxy hsm
          have HR2 : Hid (leavesP m n xa ya A A = some (pp, qq)) := Lib.hid (hR.trans hval)
          clear hR hval hb1 hb2 hmeet
          go_wp2_with (refine stop_load 23 (.tmp 62) rfl ?_)
          refine ⟨?_⟩
          change wpList _ _ _ _ _ (v4.alloc (.cells #[.string (bs []), .string (bs [])] 57))
          have hO := Blk.new v4 57 #[.string (bs []), .string (bs [])]
          have e7 : Ext v4 (v4.alloc (.cells #[.string (bs []), .string (bs [])] 57)) := (Ext.refl v4).alloc _
          obtain ⟨g6, g6e⟩ : ∃ g6, g6 = v4.heap.size := ⟨_, rfl⟩
          try rw [← v4z]
          try rw [← g6e]
          rw [← g6e] at hO
          have v5z : (v4.alloc (.cells #[.string (bs []), .string (bs [])] 57)).heap.size = g6 + 1 := by rw [alloc_size, ← g6e]
          have g6b : v4.heap.size ≤ g6 := by omega
          generalize v4.alloc (.cells #[.string (bs []), .string (bs [])] 57) = v5 at *
          clear g6e
          replace hX := Blk.below hX e7 (Blk.lt hX)
          replace hM := Blk.below hM e7 (Blk.lt hM)
          replace hL := Blk.below hL e7 (Blk.lt hL)
          replace hE := hE.trans e7
          replace c0 : v5.cell? ⟨w.heap.size, 0, none⟩ = some (.int .i64 m) := Blk.cell hM 0
          replace c1 : v5.cell? ⟨w.heap.size, 1, none⟩ = some (.int .i64 n) := Blk.cell hM 1
          replace c2 : v5.cell? ⟨w.heap.size + 1 + 1, 0, none⟩ = some (.slice Pa la.length ka) := Blk.cell hL 0
          replace c3 : v5.cell? ⟨w.heap.size + 1 + 1, 1, none⟩ = some (.slice Pb lb.length kb) := Blk.cell hL 1
          replace c4 : v5.cell? ⟨w.heap.size + 1 + 1, 2, none⟩ = some (.bool true) := Blk.cell hL 2
          replace hm0 : v5.rangeAt (w.heap.size + 1) 0 (hcells xa) := blk_mid hX hall 0 (by simp)
          replace hm1 : v5.rangeAt (w.heap.size + 1) 32 (hcells ya) := blk_mid hX hall 1 (by simp)
          replace hMl := Blk.lt hM
          replace hLl := Blk.lt hL
          replace hXl := Blk.lt hX
          clear e7
          have co0 : v5.cell? ⟨g6, 0, none⟩ = some (.string (bs [])) := Blk.cell hO 0
          have co1 : v5.cell? ⟨g6, 1, none⟩ = some (.string (bs [])) := Blk.cell hO 1
          have col := Blk.lt hO
          refine wpList_load_mid rfl 23 (.tmp 62) rfl (w.heap.size + 1) (0) (by rfl) (hcells xa) _ hm0 Tryd.underlying23 rfl (size32l _ hxa) ?_
          simp only [Act.put, List.setIfInBounds_toArray, List.set_cons_zero, List.set_cons_succ]
          unfold hcells
          go_wp2_with (refine stop_load 23 (.tmp 64) rfl ?_)
          refine ⟨?_⟩
          refine wpList_load_mid rfl 23 (.tmp 64) rfl (w.heap.size + 1) (32) (by rfl) (hcells ya) _ hm1 Tryd.underlying23 rfl (size32l _ hya) ?_
          simp only [Act.put, List.setIfInBounds_toArray, List.set_cons_zero, List.set_cons_succ]
          unfold hcells
          go_wp2_with fail
          change Calls _ _ #[_, _, sumV xa, sumV ya, _, _] _ _
          refine (Leaves_calls m n hn.2 xa ya hxa hya _ _ A A hAa hAa (by rw [HXa.out]; omega) (by rw [HXa.out]; omega) _ (KW.ext hE) (HTa.out _ hE) (HTa.out _ hE)).mono ?_; rw [HR2.out, twC_some]; rintro e v9 ⟨rfl, e8⟩
          replace hX := Blk.below hX e8 (Blk.lt hX)
          replace hM := Blk.below hM e8 (Blk.lt hM)
          replace hL := Blk.below hL e8 (Blk.lt hL)
          replace hO := Blk.below hO e8 (Blk.lt hO)
          replace hE := hE.trans e8
          replace c0 : v9.cell? ⟨w.heap.size, 0, none⟩ = some (.int .i64 m) := Blk.cell hM 0
          replace c1 : v9.cell? ⟨w.heap.size, 1, none⟩ = some (.int .i64 n) := Blk.cell hM 1
          replace c2 : v9.cell? ⟨w.heap.size + 1 + 1, 0, none⟩ = some (.slice Pa la.length ka) := Blk.cell hL 0
          replace c3 : v9.cell? ⟨w.heap.size + 1 + 1, 1, none⟩ = some (.slice Pb lb.length kb) := Blk.cell hL 1
          replace c4 : v9.cell? ⟨w.heap.size + 1 + 1, 2, none⟩ = some (.bool true) := Blk.cell hL 2
          replace hm0 : v9.rangeAt (w.heap.size + 1) 0 (hcells xa) := blk_mid hX hall 0 (by simp)
          replace hm1 : v9.rangeAt (w.heap.size + 1) 32 (hcells ya) := blk_mid hX hall 1 (by simp)
          replace hMl := Blk.lt hM
          replace hLl := Blk.lt hL
          replace hXl := Blk.lt hX
          replace co0 : v9.cell? ⟨g6, 0, none⟩ = some (.string (bs [])) := Blk.cell hO 0
          replace co1 : v9.cell? ⟨g6, 1, none⟩ = some (.string (bs [])) := Blk.cell hO 1
          replace col := Blk.lt hO
          clear e8
          go_wp2_with (refine stop_load 23 (.tmp 72) rfl ?_)
          refine ⟨?_⟩
          change wpList _ _ _ _ _ (v9.alloc (.cells #[.string (bs pp), .string (bs qq)] 57))
          have hP := Blk.new v9 57 #[.string (bs pp), .string (bs qq)]
          have e12 : Ext v9 (v9.alloc (.cells #[.string (bs pp), .string (bs qq)] 57)) := (Ext.refl v9).alloc _
          obtain ⟨g11, g11e⟩ : ∃ g11, g11 = v9.heap.size := ⟨_, rfl⟩
          try rw [← v9z]
          try rw [← g11e]
          rw [← g11e] at hP
          have v10z : (v9.alloc (.cells #[.string (bs pp), .string (bs qq)] 57)).heap.size = g11 + 1 := by rw [alloc_size, ← g11e]
          have g11b : v9.heap.size ≤ g11 := by omega
          generalize v9.alloc (.cells #[.string (bs pp), .string (bs qq)] 57) = v10 at *
          clear g11e
          replace hX := Blk.below hX e12 (Blk.lt hX)
          replace hM := Blk.below hM e12 (Blk.lt hM)
          replace hL := Blk.below hL e12 (Blk.lt hL)
          replace hO := Blk.below hO e12 (Blk.lt hO)
          replace hE := hE.trans e12
          replace c0 : v10.cell? ⟨w.heap.size, 0, none⟩ = some (.int .i64 m) := Blk.cell hM 0
          replace c1 : v10.cell? ⟨w.heap.size, 1, none⟩ = some (.int .i64 n) := Blk.cell hM 1
          replace c2 : v10.cell? ⟨w.heap.size + 1 + 1, 0, none⟩ = some (.slice Pa la.length ka) := Blk.cell hL 0
          replace c3 : v10.cell? ⟨w.heap.size + 1 + 1, 1, none⟩ = some (.slice Pb lb.length kb) := Blk.cell hL 1
          replace c4 : v10.cell? ⟨w.heap.size + 1 + 1, 2, none⟩ = some (.bool true) := Blk.cell hL 2
          replace hm0 : v10.rangeAt (w.heap.size + 1) 0 (hcells xa) := blk_mid hX hall 0 (by simp)
          replace hm1 : v10.rangeAt (w.heap.size + 1) 32 (hcells ya) := blk_mid hX hall 1 (by simp)
          replace hMl := Blk.lt hM
          replace hLl := Blk.lt hL
          replace hXl := Blk.lt hX
          replace co0 : v10.cell? ⟨g6, 0, none⟩ = some (.string (bs [])) := Blk.cell hO 0
          replace co1 : v10.cell? ⟨g6, 1, none⟩ = some (.string (bs [])) := Blk.cell hO 1
          replace col := Blk.lt hO
          clear e12
          have cp0 : v10.cell? ⟨g11, 0, none⟩ = some (.string (bs pp)) := Blk.cell hP 0
          have cp1 : v10.cell? ⟨g11, 1, none⟩ = some (.string (bs qq)) := Blk.cell hP 1
          have cpl := Blk.lt hP
          refine wpList_load_mid rfl 23 (.tmp 72) rfl (w.heap.size + 1) (0) (by rfl) (hcells xa) _ hm0 Tryd.underlying23 rfl (size32l _ hxa) ?_
          simp only [Act.put, List.setIfInBounds_toArray, List.set_cons_zero, List.set_cons_succ]
          unfold hcells
          go_wp2_with fail
          change Calls _ _ #[sumV xa, _, _, _] _ _
          refine (refFold_sls xa hxa m n _ A hAa (by rw [HXa.out]; omega) _ (HTa.out _ hE)).mono ?_; rw [HF1.out]; rintro e v14 ⟨rfl, e13⟩
          replace hX := Blk.below hX e13 (Blk.lt hX)
          replace hM := Blk.below hM e13 (Blk.lt hM)
          replace hL := Blk.below hL e13 (Blk.lt hL)
          replace hO := Blk.below hO e13 (Blk.lt hO)
          replace hP := Blk.below hP e13 (Blk.lt hP)
          replace hE := hE.trans e13
          replace c0 : v14.cell? ⟨w.heap.size, 0, none⟩ = some (.int .i64 m) := Blk.cell hM 0
          replace c1 : v14.cell? ⟨w.heap.size, 1, none⟩ = some (.int .i64 n) := Blk.cell hM 1
          replace c2 : v14.cell? ⟨w.heap.size + 1 + 1, 0, none⟩ = some (.slice Pa la.length ka) := Blk.cell hL 0
          replace c3 : v14.cell? ⟨w.heap.size + 1 + 1, 1, none⟩ = some (.slice Pb lb.length kb) := Blk.cell hL 1
          replace c4 : v14.cell? ⟨w.heap.size + 1 + 1, 2, none⟩ = some (.bool true) := Blk.cell hL 2
          replace hm0 : v14.rangeAt (w.heap.size + 1) 0 (hcells xa) := blk_mid hX hall 0 (by simp)
          replace hm1 : v14.rangeAt (w.heap.size + 1) 32 (hcells ya) := blk_mid hX hall 1 (by simp)
          replace hMl := Blk.lt hM
          replace hLl := Blk.lt hL
          replace hXl := Blk.lt hX
          replace co0 : v14.cell? ⟨g6, 0, none⟩ = some (.string (bs [])) := Blk.cell hO 0
          replace co1 : v14.cell? ⟨g6, 1, none⟩ = some (.string (bs [])) := Blk.cell hO 1
          replace col := Blk.lt hO
          replace cp0 : v14.cell? ⟨g11, 0, none⟩ = some (.string (bs pp)) := Blk.cell hP 0
          replace cp1 : v14.cell? ⟨g11, 1, none⟩ = some (.string (bs qq)) := Blk.cell hP 1
          replace cpl := Blk.lt hP
          clear e13
          try unfold sumV
          go_wp2_with (refine stop_store 23 (.tmp 14) (.tmp 80) rfl ?_)
          refine ⟨?_⟩
          change wpList _ _ _ _ _ (v14.alloc (.cells ((zerosB 32).map byteV).toArray 23))
          have hA0 : ArrB (v14.alloc (.cells ((zerosB 32).map byteV).toArray 23)) v14.heap.size 23 (zerosB 32) := Blk.new _ _ _
          refine wpList_store_row rfl 23 (.tmp 14) (.tmp 80) rfl v14.heap.size ((p).map byteV).toArray (by rfl) (by rfl) 23 _ hA0 (size32.trans (by simp [hp32])) (by simp [hp32, zerosB]) (by simp [byteV, Value.oneCell']) ?_
          simp only [Act.put, List.setIfInBounds_toArray, List.set_cons_zero, List.set_cons_succ]
          have hA : ArrB ((v14.alloc (.cells ((zerosB 32).map byteV).toArray 23)).setRow v14.heap.size ((p).map byteV).toArray) v14.heap.size 23 (p) := Blk.row hA0 _
          have e16 : Ext v14 ((v14.alloc (.cells ((zerosB 32).map byteV).toArray 23)).setRow v14.heap.size ((p).map byteV).toArray) := ((Ext.refl v14).alloc _).row (Nat.le_refl _) _
          clear hA0
          generalize (v14.alloc (.cells ((zerosB 32).map byteV).toArray 23)).setRow v14.heap.size ((p).map byteV).toArray = v15 at *
          have g17l := Blk.lt hA
          obtain ⟨g17, g17e⟩ : ∃ g17, g17 = v14.heap.size := ⟨_, rfl⟩
          rw [← g17e] at hA g17l
          try rw [← g17e]
          have g17b : v14.heap.size ≤ g17 := by omega
          replace hX := Blk.below hX e16 (Blk.lt hX)
          replace hM := Blk.below hM e16 (Blk.lt hM)
          replace hL := Blk.below hL e16 (Blk.lt hL)
          replace hO := Blk.below hO e16 (Blk.lt hO)
          replace hP := Blk.below hP e16 (Blk.lt hP)
          replace hE := hE.trans e16
          replace c0 : v15.cell? ⟨w.heap.size, 0, none⟩ = some (.int .i64 m) := Blk.cell hM 0
          replace c1 : v15.cell? ⟨w.heap.size, 1, none⟩ = some (.int .i64 n) := Blk.cell hM 1
          replace c2 : v15.cell? ⟨w.heap.size + 1 + 1, 0, none⟩ = some (.slice Pa la.length ka) := Blk.cell hL 0
          replace c3 : v15.cell? ⟨w.heap.size + 1 + 1, 1, none⟩ = some (.slice Pb lb.length kb) := Blk.cell hL 1
          replace c4 : v15.cell? ⟨w.heap.size + 1 + 1, 2, none⟩ = some (.bool true) := Blk.cell hL 2
          replace hm0 : v15.rangeAt (w.heap.size + 1) 0 (hcells xa) := blk_mid hX hall 0 (by simp)
          replace hm1 : v15.rangeAt (w.heap.size + 1) 32 (hcells ya) := blk_mid hX hall 1 (by simp)
          replace hMl := Blk.lt hM
          replace hLl := Blk.lt hL
          replace hXl := Blk.lt hX
          replace co0 : v15.cell? ⟨g6, 0, none⟩ = some (.string (bs [])) := Blk.cell hO 0
          replace co1 : v15.cell? ⟨g6, 1, none⟩ = some (.string (bs [])) := Blk.cell hO 1
          replace col := Blk.lt hO
          replace cp0 : v15.cell? ⟨g11, 0, none⟩ = some (.string (bs pp)) := Blk.cell hP 0
          replace cp1 : v15.cell? ⟨g11, 1, none⟩ = some (.string (bs qq)) := Blk.cell hP 1
          replace cpl := Blk.lt hP
          clear e16
          clear g17e
          go_wp2_with (refine stop_load 23 (.tmp 83) rfl ?_)
          refine ⟨?_⟩
          refine wpList_load_mid rfl 23 (.tmp 83) rfl (w.heap.size + 1) (32) (by rfl) (hcells ya) _ hm1 Tryd.underlying23 rfl (size32l _ hya) ?_
          simp only [Act.put, List.setIfInBounds_toArray, List.set_cons_zero, List.set_cons_succ]
          unfold hcells
          go_wp2_with fail
          change Calls _ _ #[sumV ya, _, _, _] _ _
          refine (refFold_sls ya hya m n _ A hAa (by rw [HXa.out]; omega) _ (HTa.out _ hE)).mono ?_; rw [HF2.out]; rintro e v19 ⟨rfl, e18⟩
          replace hX := Blk.below hX e18 (Blk.lt hX)
          replace hM := Blk.below hM e18 (Blk.lt hM)
          replace hL := Blk.below hL e18 (Blk.lt hL)
          replace hO := Blk.below hO e18 (Blk.lt hO)
          replace hP := Blk.below hP e18 (Blk.lt hP)
          replace hA := Blk.below hA e18 (Blk.lt hA)
          replace hE := hE.trans e18
          replace c0 : v19.cell? ⟨w.heap.size, 0, none⟩ = some (.int .i64 m) := Blk.cell hM 0
          replace c1 : v19.cell? ⟨w.heap.size, 1, none⟩ = some (.int .i64 n) := Blk.cell hM 1
          replace c2 : v19.cell? ⟨w.heap.size + 1 + 1, 0, none⟩ = some (.slice Pa la.length ka) := Blk.cell hL 0
          replace c3 : v19.cell? ⟨w.heap.size + 1 + 1, 1, none⟩ = some (.slice Pb lb.length kb) := Blk.cell hL 1
          replace c4 : v19.cell? ⟨w.heap.size + 1 + 1, 2, none⟩ = some (.bool true) := Blk.cell hL 2
          replace hm0 : v19.rangeAt (w.heap.size + 1) 0 (hcells xa) := blk_mid hX hall 0 (by simp)
          replace hm1 : v19.rangeAt (w.heap.size + 1) 32 (hcells ya) := blk_mid hX hall 1 (by simp)
          replace hMl := Blk.lt hM
          replace hLl := Blk.lt hL
          replace hXl := Blk.lt hX
          replace co0 : v19.cell? ⟨g6, 0, none⟩ = some (.string (bs [])) := Blk.cell hO 0
          replace co1 : v19.cell? ⟨g6, 1, none⟩ = some (.string (bs [])) := Blk.cell hO 1
          replace col := Blk.lt hO
          replace cp0 : v19.cell? ⟨g11, 0, none⟩ = some (.string (bs pp)) := Blk.cell hP 0
          replace cp1 : v19.cell? ⟨g11, 1, none⟩ = some (.string (bs qq)) := Blk.cell hP 1
          replace cpl := Blk.lt hP
          clear e18
          try unfold sumV
          go_wp2_with (refine stop_store 23 (.tmp 16) (.tmp 91) rfl ?_)
          refine ⟨?_⟩
          change wpList _ _ _ _ _ (v19.alloc (.cells ((zerosB 32).map byteV).toArray 23))
          have hB0 : ArrB (v19.alloc (.cells ((zerosB 32).map byteV).toArray 23)) v19.heap.size 23 (zerosB 32) := Blk.new _ _ _
          refine wpList_store_row rfl 23 (.tmp 16) (.tmp 91) rfl v19.heap.size ((r).map byteV).toArray (by rfl) (by rfl) 23 _ hB0 (size32.trans (by simp [hr32])) (by simp [hr32, zerosB]) (by simp [byteV, Value.oneCell']) ?_
          simp only [Act.put, List.setIfInBounds_toArray, List.set_cons_zero, List.set_cons_succ]
          have hB : ArrB ((v19.alloc (.cells ((zerosB 32).map byteV).toArray 23)).setRow v19.heap.size ((r).map byteV).toArray) v19.heap.size 23 (r) := Blk.row hB0 _
          have e21 : Ext v19 ((v19.alloc (.cells ((zerosB 32).map byteV).toArray 23)).setRow v19.heap.size ((r).map byteV).toArray) := ((Ext.refl v19).alloc _).row (Nat.le_refl _) _
          clear hB0
          generalize (v19.alloc (.cells ((zerosB 32).map byteV).toArray 23)).setRow v19.heap.size ((r).map byteV).toArray = v20 at *
          have g22l := Blk.lt hB
          obtain ⟨g22, g22e⟩ : ∃ g22, g22 = v19.heap.size := ⟨_, rfl⟩
          rw [← g22e] at hB g22l
          try rw [← g22e]
          have g22b : v19.heap.size ≤ g22 := by omega
          replace hX := Blk.below hX e21 (Blk.lt hX)
          replace hM := Blk.below hM e21 (Blk.lt hM)
          replace hL := Blk.below hL e21 (Blk.lt hL)
          replace hO := Blk.below hO e21 (Blk.lt hO)
          replace hP := Blk.below hP e21 (Blk.lt hP)
          replace hA := Blk.below hA e21 (Blk.lt hA)
          replace hE := hE.trans e21
          replace c0 : v20.cell? ⟨w.heap.size, 0, none⟩ = some (.int .i64 m) := Blk.cell hM 0
          replace c1 : v20.cell? ⟨w.heap.size, 1, none⟩ = some (.int .i64 n) := Blk.cell hM 1
          replace c2 : v20.cell? ⟨w.heap.size + 1 + 1, 0, none⟩ = some (.slice Pa la.length ka) := Blk.cell hL 0
          replace c3 : v20.cell? ⟨w.heap.size + 1 + 1, 1, none⟩ = some (.slice Pb lb.length kb) := Blk.cell hL 1
          replace c4 : v20.cell? ⟨w.heap.size + 1 + 1, 2, none⟩ = some (.bool true) := Blk.cell hL 2
          replace hm0 : v20.rangeAt (w.heap.size + 1) 0 (hcells xa) := blk_mid hX hall 0 (by simp)
          replace hm1 : v20.rangeAt (w.heap.size + 1) 32 (hcells ya) := blk_mid hX hall 1 (by simp)
          replace hMl := Blk.lt hM
          replace hLl := Blk.lt hL
          replace hXl := Blk.lt hX
          replace co0 : v20.cell? ⟨g6, 0, none⟩ = some (.string (bs [])) := Blk.cell hO 0
          replace co1 : v20.cell? ⟨g6, 1, none⟩ = some (.string (bs [])) := Blk.cell hO 1
          replace col := Blk.lt hO
          replace cp0 : v20.cell? ⟨g11, 0, none⟩ = some (.string (bs pp)) := Blk.cell hP 0
          replace cp1 : v20.cell? ⟨g11, 1, none⟩ = some (.string (bs qq)) := Blk.cell hP 1
          replace cpl := Blk.lt hP
          clear e21
          clear g22e
          go_wp2_with fail
          refine (Same_calls _ _ A A hAa hAa _ (HTa.out _ hE) (HTa.out _ hE)).mono ?_; rw [show decide (A = A) = true from decide_eq_true rfl]; rintro e v24 ⟨rfl, e23⟩
          replace hX := Blk.below hX e23 (Blk.lt hX)
          replace hM := Blk.below hM e23 (Blk.lt hM)
          replace hL := Blk.below hL e23 (Blk.lt hL)
          replace hO := Blk.below hO e23 (Blk.lt hO)
          replace hP := Blk.below hP e23 (Blk.lt hP)
          replace hA := Blk.below hA e23 (Blk.lt hA)
          replace hB := Blk.below hB e23 (Blk.lt hB)
          replace hE := hE.trans e23
          replace c0 : v24.cell? ⟨w.heap.size, 0, none⟩ = some (.int .i64 m) := Blk.cell hM 0
          replace c1 : v24.cell? ⟨w.heap.size, 1, none⟩ = some (.int .i64 n) := Blk.cell hM 1
          replace c2 : v24.cell? ⟨w.heap.size + 1 + 1, 0, none⟩ = some (.slice Pa la.length ka) := Blk.cell hL 0
          replace c3 : v24.cell? ⟨w.heap.size + 1 + 1, 1, none⟩ = some (.slice Pb lb.length kb) := Blk.cell hL 1
          replace c4 : v24.cell? ⟨w.heap.size + 1 + 1, 2, none⟩ = some (.bool true) := Blk.cell hL 2
          replace hm0 : v24.rangeAt (w.heap.size + 1) 0 (hcells xa) := blk_mid hX hall 0 (by simp)
          replace hm1 : v24.rangeAt (w.heap.size + 1) 32 (hcells ya) := blk_mid hX hall 1 (by simp)
          replace hMl := Blk.lt hM
          replace hLl := Blk.lt hL
          replace hXl := Blk.lt hX
          replace co0 : v24.cell? ⟨g6, 0, none⟩ = some (.string (bs [])) := Blk.cell hO 0
          replace co1 : v24.cell? ⟨g6, 1, none⟩ = some (.string (bs [])) := Blk.cell hO 1
          replace col := Blk.lt hO
          replace cp0 : v24.cell? ⟨g11, 0, none⟩ = some (.string (bs pp)) := Blk.cell hP 0
          replace cp1 : v24.cell? ⟨g11, 1, none⟩ = some (.string (bs qq)) := Blk.cell hP 1
          replace cpl := Blk.lt hP
          clear e23
          go_wp2_with (refine stop_load 23 (.tmp 14) rfl ?_)
          refine ⟨?_⟩
          refine wpList_load_row rfl 23 (.tmp 14) rfl g17 (by rfl) 23 _ (0, 0) _ hA Tryd.underlying23 rfl (size32.trans (by simp [hp32])) ?_
          simp only [Act.put, List.setIfInBounds_toArray, List.set_cons_zero, List.set_cons_succ]
          go_wp2_with (refine stop_load 23 (.tmp 16) rfl ?_)
          refine ⟨?_⟩
          refine wpList_load_row rfl 23 (.tmp 16) rfl g22 (by rfl) 23 _ (0, 0) _ hB Tryd.underlying23 rfl (size32.trans (by simp [hr32])) ?_
          simp only [Act.put, List.setIfInBounds_toArray, List.set_cons_zero, List.set_cons_succ]
          go_wp2_with (refine stop_load 23 (.tmp 100) rfl ?_)
          refine ⟨?_⟩
          refine list_want (by rfl) (fun K hK => ?_)
          refine wp_load_mid 23 (.tmp 100) rfl (w.heap.size + 1) (0) (by rfl) (hcells xa) _ hm0 Tryd.underlying23 rfl (size32l _ hxa) ?_
          refine hK _ _ ?_; clear hK K
          simp only [Act.put, List.setIfInBounds_toArray, List.set_cons_zero, List.set_cons_succ]
          unfold hcells
          go_wp2_with (refine stop_load 23 (.tmp 102) rfl ?_)
          refine ⟨?_⟩
          refine list_want (by rfl) (fun K hK => ?_)
          refine wp_load_mid 23 (.tmp 102) rfl (w.heap.size + 1) (32) (by rfl) (hcells ya) _ hm1 Tryd.underlying23 rfl (size32l _ hya) ?_
          refine hK _ _ ?_; clear hK K
          simp only [Act.put, List.setIfInBounds_toArray, List.set_cons_zero, List.set_cons_succ]
          unfold hcells
          have hpq0 : (pp == qq) = false := by rw [beq_eq_false_iff_ne]; exact hpp.1
          have heqh := fun w : World => eq_sum (shaOf pp) (shaOf qq) (shaOf_length pp) (shaOf_length qq) w
          have dh : decide (shaOf pp = shaOf qq) = true := decide_eq_true hpp.2.1
          rw [dh] at heqh
          have hq1 : pp.length = 65 := hpp.2.2.1
          have hq2 : qq.length = 65 := hpp.2.2.2
          clear dh hpp
          go_wp2_with fail
          refine region_mix0 (by kernel_rfl) (by kernel_rfl) (fun y0 => ?_)
          iterate 14 (first | (refine mix_quiet (by rfl) (by rfl) (fun K hK => ?_); go_big_quiet_op; refine hK _ ?_; clear hK K) | (refine mix_skip (by rfl) ?_; simp only [Act.put, List.setIfInBounds_toArray, List.set_cons_zero, List.set_cons_succ]))
          (refine mix_loud (by rfl) (by rfl) (fun K E hK => ?_); go_big_op)
          refine (refOf_calls pp _ (by omega)).mono ?_; rintro e w5 ⟨rfl, hd⟩
          obtain ⟨x', rfl⟩ := more_ext _ hd; clear hd
          refine hK _ _ ⟨_, rfl⟩ ?_; clear hK K E
          iterate 2 (first | (refine mix_quiet (by rfl) (by rfl) (fun K hK => ?_); go_big_quiet_op; refine hK _ ?_; clear hK K) | (refine mix_skip (by rfl) ?_; simp only [Act.put, List.setIfInBounds_toArray, List.set_cons_zero, List.set_cons_succ]))
          (refine mix_loud (by rfl) (by rfl) (fun K E hK => ?_); go_big_op)
          refine (refOf_calls qq _ (by omega)).mono ?_; rintro e w5 ⟨rfl, hd⟩
          obtain ⟨x', rfl⟩ := more_ext _ hd; clear hd
          refine hK _ _ ⟨_, rfl⟩ ?_; clear hK K E
          unfold sumV
          repeat (first | (refine mix_quiet (by rfl) (by rfl) (fun K hK => ?_); go_big_quiet_op; refine hK _ ?_; clear hK K) | (refine mix_skip (by rfl) ?_; simp only [Act.put, List.setIfInBounds_toArray, List.set_cons_zero, List.set_cons_succ]))
          refine mix_nil ?_
          have hE9 := hE.trans (grow_ext x')
          go_wp2_with fail
          go_ret
          exact ⟨rfl, hE9⟩
    · have d1 : decide (p = r) = false := decide_eq_false hc
      have hval : (if decide (p = r) then firstO (wayS xa T A) (wayS ya T A) else none) = none := if_neg (by rw [d1]; simp)
      obtain ⟨sm, hsm⟩ : ∃ sm, decide (A = A) = sm := ⟨_, rfl⟩
      have HSM := Lib.hid hsm
      rw [d1] at heqf
      clear d1 hc hsm
      have HR2 : Hid (leavesP m n xa ya A A = none) := Lib.hid (hR.trans hval)
      clear hR hval hb1 hb2 hmeet
      go_wp2_with (refine stop_load 23 (.tmp 62) rfl ?_)
      refine ⟨?_⟩
      change wpList _ _ _ _ _ (v4.alloc (.cells #[.string (bs []), .string (bs [])] 57))
      have hO := Blk.new v4 57 #[.string (bs []), .string (bs [])]
      have e7 : Ext v4 (v4.alloc (.cells #[.string (bs []), .string (bs [])] 57)) := (Ext.refl v4).alloc _
      obtain ⟨g6, g6e⟩ : ∃ g6, g6 = v4.heap.size := ⟨_, rfl⟩
      try rw [← v4z]
      try rw [← g6e]
      rw [← g6e] at hO
      have v5z : (v4.alloc (.cells #[.string (bs []), .string (bs [])] 57)).heap.size = g6 + 1 := by rw [alloc_size, ← g6e]
      have g6b : v4.heap.size ≤ g6 := by omega
      generalize v4.alloc (.cells #[.string (bs []), .string (bs [])] 57) = v5 at *
      clear g6e
      replace hX := Blk.below hX e7 (Blk.lt hX)
      replace hM := Blk.below hM e7 (Blk.lt hM)
      replace hL := Blk.below hL e7 (Blk.lt hL)
      replace hE := hE.trans e7
      replace c0 : v5.cell? ⟨w.heap.size, 0, none⟩ = some (.int .i64 m) := Blk.cell hM 0
      replace c1 : v5.cell? ⟨w.heap.size, 1, none⟩ = some (.int .i64 n) := Blk.cell hM 1
      replace c2 : v5.cell? ⟨w.heap.size + 1 + 1, 0, none⟩ = some (.slice Pa la.length ka) := Blk.cell hL 0
      replace c3 : v5.cell? ⟨w.heap.size + 1 + 1, 1, none⟩ = some (.slice Pb lb.length kb) := Blk.cell hL 1
      replace c4 : v5.cell? ⟨w.heap.size + 1 + 1, 2, none⟩ = some (.bool true) := Blk.cell hL 2
      replace hm0 : v5.rangeAt (w.heap.size + 1) 0 (hcells xa) := blk_mid hX hall 0 (by simp)
      replace hm1 : v5.rangeAt (w.heap.size + 1) 32 (hcells ya) := blk_mid hX hall 1 (by simp)
      replace hMl := Blk.lt hM
      replace hLl := Blk.lt hL
      replace hXl := Blk.lt hX
      clear e7
      have co0 : v5.cell? ⟨g6, 0, none⟩ = some (.string (bs [])) := Blk.cell hO 0
      have co1 : v5.cell? ⟨g6, 1, none⟩ = some (.string (bs [])) := Blk.cell hO 1
      have col := Blk.lt hO
      refine wpList_load_mid rfl 23 (.tmp 62) rfl (w.heap.size + 1) (0) (by rfl) (hcells xa) _ hm0 Tryd.underlying23 rfl (size32l _ hxa) ?_
      simp only [Act.put, List.setIfInBounds_toArray, List.set_cons_zero, List.set_cons_succ]
      unfold hcells
      go_wp2_with (refine stop_load 23 (.tmp 64) rfl ?_)
      refine ⟨?_⟩
      refine wpList_load_mid rfl 23 (.tmp 64) rfl (w.heap.size + 1) (32) (by rfl) (hcells ya) _ hm1 Tryd.underlying23 rfl (size32l _ hya) ?_
      simp only [Act.put, List.setIfInBounds_toArray, List.set_cons_zero, List.set_cons_succ]
      unfold hcells
      go_wp2_with fail
      change Calls _ _ #[_, _, sumV xa, sumV ya, _, _] _ _
      refine (Leaves_calls m n hn.2 xa ya hxa hya _ _ A A hAa hAa (by rw [HXa.out]; omega) (by rw [HXa.out]; omega) _ (KW.ext hE) (HTa.out _ hE) (HTa.out _ hE)).mono ?_; rw [HR2.out, twC_none]; rintro e v9 ⟨rfl, e8⟩
      replace hX := Blk.below hX e8 (Blk.lt hX)
      replace hM := Blk.below hM e8 (Blk.lt hM)
      replace hL := Blk.below hL e8 (Blk.lt hL)
      replace hO := Blk.below hO e8 (Blk.lt hO)
      replace hE := hE.trans e8
      replace c0 : v9.cell? ⟨w.heap.size, 0, none⟩ = some (.int .i64 m) := Blk.cell hM 0
      replace c1 : v9.cell? ⟨w.heap.size, 1, none⟩ = some (.int .i64 n) := Blk.cell hM 1
      replace c2 : v9.cell? ⟨w.heap.size + 1 + 1, 0, none⟩ = some (.slice Pa la.length ka) := Blk.cell hL 0
      replace c3 : v9.cell? ⟨w.heap.size + 1 + 1, 1, none⟩ = some (.slice Pb lb.length kb) := Blk.cell hL 1
      replace c4 : v9.cell? ⟨w.heap.size + 1 + 1, 2, none⟩ = some (.bool true) := Blk.cell hL 2
      replace hm0 : v9.rangeAt (w.heap.size + 1) 0 (hcells xa) := blk_mid hX hall 0 (by simp)
      replace hm1 : v9.rangeAt (w.heap.size + 1) 32 (hcells ya) := blk_mid hX hall 1 (by simp)
      replace hMl := Blk.lt hM
      replace hLl := Blk.lt hL
      replace hXl := Blk.lt hX
      replace co0 : v9.cell? ⟨g6, 0, none⟩ = some (.string (bs [])) := Blk.cell hO 0
      replace co1 : v9.cell? ⟨g6, 1, none⟩ = some (.string (bs [])) := Blk.cell hO 1
      replace col := Blk.lt hO
      clear e8
      go_wp2_with (refine stop_load 23 (.tmp 72) rfl ?_)
      refine ⟨?_⟩
      change wpList _ _ _ _ _ (v9.alloc (.cells #[.string (bs []), .string (bs [])] 57))
      have hP := Blk.new v9 57 #[.string (bs []), .string (bs [])]
      have e12 : Ext v9 (v9.alloc (.cells #[.string (bs []), .string (bs [])] 57)) := (Ext.refl v9).alloc _
      obtain ⟨g11, g11e⟩ : ∃ g11, g11 = v9.heap.size := ⟨_, rfl⟩
      try rw [← v9z]
      try rw [← g11e]
      rw [← g11e] at hP
      have v10z : (v9.alloc (.cells #[.string (bs []), .string (bs [])] 57)).heap.size = g11 + 1 := by rw [alloc_size, ← g11e]
      have g11b : v9.heap.size ≤ g11 := by omega
      generalize v9.alloc (.cells #[.string (bs []), .string (bs [])] 57) = v10 at *
      clear g11e
      replace hX := Blk.below hX e12 (Blk.lt hX)
      replace hM := Blk.below hM e12 (Blk.lt hM)
      replace hL := Blk.below hL e12 (Blk.lt hL)
      replace hO := Blk.below hO e12 (Blk.lt hO)
      replace hE := hE.trans e12
      replace c0 : v10.cell? ⟨w.heap.size, 0, none⟩ = some (.int .i64 m) := Blk.cell hM 0
      replace c1 : v10.cell? ⟨w.heap.size, 1, none⟩ = some (.int .i64 n) := Blk.cell hM 1
      replace c2 : v10.cell? ⟨w.heap.size + 1 + 1, 0, none⟩ = some (.slice Pa la.length ka) := Blk.cell hL 0
      replace c3 : v10.cell? ⟨w.heap.size + 1 + 1, 1, none⟩ = some (.slice Pb lb.length kb) := Blk.cell hL 1
      replace c4 : v10.cell? ⟨w.heap.size + 1 + 1, 2, none⟩ = some (.bool true) := Blk.cell hL 2
      replace hm0 : v10.rangeAt (w.heap.size + 1) 0 (hcells xa) := blk_mid hX hall 0 (by simp)
      replace hm1 : v10.rangeAt (w.heap.size + 1) 32 (hcells ya) := blk_mid hX hall 1 (by simp)
      replace hMl := Blk.lt hM
      replace hLl := Blk.lt hL
      replace hXl := Blk.lt hX
      replace co0 : v10.cell? ⟨g6, 0, none⟩ = some (.string (bs [])) := Blk.cell hO 0
      replace co1 : v10.cell? ⟨g6, 1, none⟩ = some (.string (bs [])) := Blk.cell hO 1
      replace col := Blk.lt hO
      clear e12
      have cp0 : v10.cell? ⟨g11, 0, none⟩ = some (.string (bs [])) := Blk.cell hP 0
      have cp1 : v10.cell? ⟨g11, 1, none⟩ = some (.string (bs [])) := Blk.cell hP 1
      have cpl := Blk.lt hP
      refine wpList_load_mid rfl 23 (.tmp 72) rfl (w.heap.size + 1) (0) (by rfl) (hcells xa) _ hm0 Tryd.underlying23 rfl (size32l _ hxa) ?_
      simp only [Act.put, List.setIfInBounds_toArray, List.set_cons_zero, List.set_cons_succ]
      unfold hcells
      go_wp2_with fail
      change Calls _ _ #[sumV xa, _, _, _] _ _
      refine (refFold_sls xa hxa m n _ A hAa (by rw [HXa.out]; omega) _ (HTa.out _ hE)).mono ?_; rw [HF1.out]; rintro e v14 ⟨rfl, e13⟩
      replace hX := Blk.below hX e13 (Blk.lt hX)
      replace hM := Blk.below hM e13 (Blk.lt hM)
      replace hL := Blk.below hL e13 (Blk.lt hL)
      replace hO := Blk.below hO e13 (Blk.lt hO)
      replace hP := Blk.below hP e13 (Blk.lt hP)
      replace hE := hE.trans e13
      replace c0 : v14.cell? ⟨w.heap.size, 0, none⟩ = some (.int .i64 m) := Blk.cell hM 0
      replace c1 : v14.cell? ⟨w.heap.size, 1, none⟩ = some (.int .i64 n) := Blk.cell hM 1
      replace c2 : v14.cell? ⟨w.heap.size + 1 + 1, 0, none⟩ = some (.slice Pa la.length ka) := Blk.cell hL 0
      replace c3 : v14.cell? ⟨w.heap.size + 1 + 1, 1, none⟩ = some (.slice Pb lb.length kb) := Blk.cell hL 1
      replace c4 : v14.cell? ⟨w.heap.size + 1 + 1, 2, none⟩ = some (.bool true) := Blk.cell hL 2
      replace hm0 : v14.rangeAt (w.heap.size + 1) 0 (hcells xa) := blk_mid hX hall 0 (by simp)
      replace hm1 : v14.rangeAt (w.heap.size + 1) 32 (hcells ya) := blk_mid hX hall 1 (by simp)
      replace hMl := Blk.lt hM
      replace hLl := Blk.lt hL
      replace hXl := Blk.lt hX
      replace co0 : v14.cell? ⟨g6, 0, none⟩ = some (.string (bs [])) := Blk.cell hO 0
      replace co1 : v14.cell? ⟨g6, 1, none⟩ = some (.string (bs [])) := Blk.cell hO 1
      replace col := Blk.lt hO
      replace cp0 : v14.cell? ⟨g11, 0, none⟩ = some (.string (bs [])) := Blk.cell hP 0
      replace cp1 : v14.cell? ⟨g11, 1, none⟩ = some (.string (bs [])) := Blk.cell hP 1
      replace cpl := Blk.lt hP
      clear e13
      try unfold sumV
      go_wp2_with (refine stop_store 23 (.tmp 14) (.tmp 80) rfl ?_)
      refine ⟨?_⟩
      change wpList _ _ _ _ _ (v14.alloc (.cells ((zerosB 32).map byteV).toArray 23))
      have hA0 : ArrB (v14.alloc (.cells ((zerosB 32).map byteV).toArray 23)) v14.heap.size 23 (zerosB 32) := Blk.new _ _ _
      refine wpList_store_row rfl 23 (.tmp 14) (.tmp 80) rfl v14.heap.size ((p).map byteV).toArray (by rfl) (by rfl) 23 _ hA0 (size32.trans (by simp [hp32])) (by simp [hp32, zerosB]) (by simp [byteV, Value.oneCell']) ?_
      simp only [Act.put, List.setIfInBounds_toArray, List.set_cons_zero, List.set_cons_succ]
      have hA : ArrB ((v14.alloc (.cells ((zerosB 32).map byteV).toArray 23)).setRow v14.heap.size ((p).map byteV).toArray) v14.heap.size 23 (p) := Blk.row hA0 _
      have e16 : Ext v14 ((v14.alloc (.cells ((zerosB 32).map byteV).toArray 23)).setRow v14.heap.size ((p).map byteV).toArray) := ((Ext.refl v14).alloc _).row (Nat.le_refl _) _
      clear hA0
      generalize (v14.alloc (.cells ((zerosB 32).map byteV).toArray 23)).setRow v14.heap.size ((p).map byteV).toArray = v15 at *
      have g17l := Blk.lt hA
      obtain ⟨g17, g17e⟩ : ∃ g17, g17 = v14.heap.size := ⟨_, rfl⟩
      rw [← g17e] at hA g17l
      try rw [← g17e]
      have g17b : v14.heap.size ≤ g17 := by omega
      replace hX := Blk.below hX e16 (Blk.lt hX)
      replace hM := Blk.below hM e16 (Blk.lt hM)
      replace hL := Blk.below hL e16 (Blk.lt hL)
      replace hO := Blk.below hO e16 (Blk.lt hO)
      replace hP := Blk.below hP e16 (Blk.lt hP)
      replace hE := hE.trans e16
      replace c0 : v15.cell? ⟨w.heap.size, 0, none⟩ = some (.int .i64 m) := Blk.cell hM 0
      replace c1 : v15.cell? ⟨w.heap.size, 1, none⟩ = some (.int .i64 n) := Blk.cell hM 1
      replace c2 : v15.cell? ⟨w.heap.size + 1 + 1, 0, none⟩ = some (.slice Pa la.length ka) := Blk.cell hL 0
      replace c3 : v15.cell? ⟨w.heap.size + 1 + 1, 1, none⟩ = some (.slice Pb lb.length kb) := Blk.cell hL 1
      replace c4 : v15.cell? ⟨w.heap.size + 1 + 1, 2, none⟩ = some (.bool true) := Blk.cell hL 2
      replace hm0 : v15.rangeAt (w.heap.size + 1) 0 (hcells xa) := blk_mid hX hall 0 (by simp)
      replace hm1 : v15.rangeAt (w.heap.size + 1) 32 (hcells ya) := blk_mid hX hall 1 (by simp)
      replace hMl := Blk.lt hM
      replace hLl := Blk.lt hL
      replace hXl := Blk.lt hX
      replace co0 : v15.cell? ⟨g6, 0, none⟩ = some (.string (bs [])) := Blk.cell hO 0
      replace co1 : v15.cell? ⟨g6, 1, none⟩ = some (.string (bs [])) := Blk.cell hO 1
      replace col := Blk.lt hO
      replace cp0 : v15.cell? ⟨g11, 0, none⟩ = some (.string (bs [])) := Blk.cell hP 0
      replace cp1 : v15.cell? ⟨g11, 1, none⟩ = some (.string (bs [])) := Blk.cell hP 1
      replace cpl := Blk.lt hP
      clear e16
      clear g17e
      go_wp2_with (refine stop_load 23 (.tmp 83) rfl ?_)
      refine ⟨?_⟩
      refine wpList_load_mid rfl 23 (.tmp 83) rfl (w.heap.size + 1) (32) (by rfl) (hcells ya) _ hm1 Tryd.underlying23 rfl (size32l _ hya) ?_
      simp only [Act.put, List.setIfInBounds_toArray, List.set_cons_zero, List.set_cons_succ]
      unfold hcells
      go_wp2_with fail
      change Calls _ _ #[sumV ya, _, _, _] _ _
      refine (refFold_sls ya hya m n _ A hAa (by rw [HXa.out]; omega) _ (HTa.out _ hE)).mono ?_; rw [HF2.out]; rintro e v19 ⟨rfl, e18⟩
      replace hX := Blk.below hX e18 (Blk.lt hX)
      replace hM := Blk.below hM e18 (Blk.lt hM)
      replace hL := Blk.below hL e18 (Blk.lt hL)
      replace hO := Blk.below hO e18 (Blk.lt hO)
      replace hP := Blk.below hP e18 (Blk.lt hP)
      replace hA := Blk.below hA e18 (Blk.lt hA)
      replace hE := hE.trans e18
      replace c0 : v19.cell? ⟨w.heap.size, 0, none⟩ = some (.int .i64 m) := Blk.cell hM 0
      replace c1 : v19.cell? ⟨w.heap.size, 1, none⟩ = some (.int .i64 n) := Blk.cell hM 1
      replace c2 : v19.cell? ⟨w.heap.size + 1 + 1, 0, none⟩ = some (.slice Pa la.length ka) := Blk.cell hL 0
      replace c3 : v19.cell? ⟨w.heap.size + 1 + 1, 1, none⟩ = some (.slice Pb lb.length kb) := Blk.cell hL 1
      replace c4 : v19.cell? ⟨w.heap.size + 1 + 1, 2, none⟩ = some (.bool true) := Blk.cell hL 2
      replace hm0 : v19.rangeAt (w.heap.size + 1) 0 (hcells xa) := blk_mid hX hall 0 (by simp)
      replace hm1 : v19.rangeAt (w.heap.size + 1) 32 (hcells ya) := blk_mid hX hall 1 (by simp)
      replace hMl := Blk.lt hM
      replace hLl := Blk.lt hL
      replace hXl := Blk.lt hX
      replace co0 : v19.cell? ⟨g6, 0, none⟩ = some (.string (bs [])) := Blk.cell hO 0
      replace co1 : v19.cell? ⟨g6, 1, none⟩ = some (.string (bs [])) := Blk.cell hO 1
      replace col := Blk.lt hO
      replace cp0 : v19.cell? ⟨g11, 0, none⟩ = some (.string (bs [])) := Blk.cell hP 0
      replace cp1 : v19.cell? ⟨g11, 1, none⟩ = some (.string (bs [])) := Blk.cell hP 1
      replace cpl := Blk.lt hP
      clear e18
      try unfold sumV
      go_wp2_with (refine stop_store 23 (.tmp 16) (.tmp 91) rfl ?_)
      refine ⟨?_⟩
      change wpList _ _ _ _ _ (v19.alloc (.cells ((zerosB 32).map byteV).toArray 23))
      have hB0 : ArrB (v19.alloc (.cells ((zerosB 32).map byteV).toArray 23)) v19.heap.size 23 (zerosB 32) := Blk.new _ _ _
      refine wpList_store_row rfl 23 (.tmp 16) (.tmp 91) rfl v19.heap.size ((r).map byteV).toArray (by rfl) (by rfl) 23 _ hB0 (size32.trans (by simp [hr32])) (by simp [hr32, zerosB]) (by simp [byteV, Value.oneCell']) ?_
      simp only [Act.put, List.setIfInBounds_toArray, List.set_cons_zero, List.set_cons_succ]
      have hB : ArrB ((v19.alloc (.cells ((zerosB 32).map byteV).toArray 23)).setRow v19.heap.size ((r).map byteV).toArray) v19.heap.size 23 (r) := Blk.row hB0 _
      have e21 : Ext v19 ((v19.alloc (.cells ((zerosB 32).map byteV).toArray 23)).setRow v19.heap.size ((r).map byteV).toArray) := ((Ext.refl v19).alloc _).row (Nat.le_refl _) _
      clear hB0
      generalize (v19.alloc (.cells ((zerosB 32).map byteV).toArray 23)).setRow v19.heap.size ((r).map byteV).toArray = v20 at *
      have g22l := Blk.lt hB
      obtain ⟨g22, g22e⟩ : ∃ g22, g22 = v19.heap.size := ⟨_, rfl⟩
      rw [← g22e] at hB g22l
      try rw [← g22e]
      have g22b : v19.heap.size ≤ g22 := by omega
      replace hX := Blk.below hX e21 (Blk.lt hX)
      replace hM := Blk.below hM e21 (Blk.lt hM)
      replace hL := Blk.below hL e21 (Blk.lt hL)
      replace hO := Blk.below hO e21 (Blk.lt hO)
      replace hP := Blk.below hP e21 (Blk.lt hP)
      replace hA := Blk.below hA e21 (Blk.lt hA)
      replace hE := hE.trans e21
      replace c0 : v20.cell? ⟨w.heap.size, 0, none⟩ = some (.int .i64 m) := Blk.cell hM 0
      replace c1 : v20.cell? ⟨w.heap.size, 1, none⟩ = some (.int .i64 n) := Blk.cell hM 1
      replace c2 : v20.cell? ⟨w.heap.size + 1 + 1, 0, none⟩ = some (.slice Pa la.length ka) := Blk.cell hL 0
      replace c3 : v20.cell? ⟨w.heap.size + 1 + 1, 1, none⟩ = some (.slice Pb lb.length kb) := Blk.cell hL 1
      replace c4 : v20.cell? ⟨w.heap.size + 1 + 1, 2, none⟩ = some (.bool true) := Blk.cell hL 2
      replace hm0 : v20.rangeAt (w.heap.size + 1) 0 (hcells xa) := blk_mid hX hall 0 (by simp)
      replace hm1 : v20.rangeAt (w.heap.size + 1) 32 (hcells ya) := blk_mid hX hall 1 (by simp)
      replace hMl := Blk.lt hM
      replace hLl := Blk.lt hL
      replace hXl := Blk.lt hX
      replace co0 : v20.cell? ⟨g6, 0, none⟩ = some (.string (bs [])) := Blk.cell hO 0
      replace co1 : v20.cell? ⟨g6, 1, none⟩ = some (.string (bs [])) := Blk.cell hO 1
      replace col := Blk.lt hO
      replace cp0 : v20.cell? ⟨g11, 0, none⟩ = some (.string (bs [])) := Blk.cell hP 0
      replace cp1 : v20.cell? ⟨g11, 1, none⟩ = some (.string (bs [])) := Blk.cell hP 1
      replace cpl := Blk.lt hP
      clear e21
      clear g22e
      go_wp2_with fail
      refine (Same_calls _ _ A A hAa hAa _ (HTa.out _ hE) (HTa.out _ hE)).mono ?_; rw [show decide (A = A) = true from decide_eq_true rfl]; rintro e v24 ⟨rfl, e23⟩
      replace hX := Blk.below hX e23 (Blk.lt hX)
      replace hM := Blk.below hM e23 (Blk.lt hM)
      replace hL := Blk.below hL e23 (Blk.lt hL)
      replace hO := Blk.below hO e23 (Blk.lt hO)
      replace hP := Blk.below hP e23 (Blk.lt hP)
      replace hA := Blk.below hA e23 (Blk.lt hA)
      replace hB := Blk.below hB e23 (Blk.lt hB)
      replace hE := hE.trans e23
      replace c0 : v24.cell? ⟨w.heap.size, 0, none⟩ = some (.int .i64 m) := Blk.cell hM 0
      replace c1 : v24.cell? ⟨w.heap.size, 1, none⟩ = some (.int .i64 n) := Blk.cell hM 1
      replace c2 : v24.cell? ⟨w.heap.size + 1 + 1, 0, none⟩ = some (.slice Pa la.length ka) := Blk.cell hL 0
      replace c3 : v24.cell? ⟨w.heap.size + 1 + 1, 1, none⟩ = some (.slice Pb lb.length kb) := Blk.cell hL 1
      replace c4 : v24.cell? ⟨w.heap.size + 1 + 1, 2, none⟩ = some (.bool true) := Blk.cell hL 2
      replace hm0 : v24.rangeAt (w.heap.size + 1) 0 (hcells xa) := blk_mid hX hall 0 (by simp)
      replace hm1 : v24.rangeAt (w.heap.size + 1) 32 (hcells ya) := blk_mid hX hall 1 (by simp)
      replace hMl := Blk.lt hM
      replace hLl := Blk.lt hL
      replace hXl := Blk.lt hX
      replace co0 : v24.cell? ⟨g6, 0, none⟩ = some (.string (bs [])) := Blk.cell hO 0
      replace co1 : v24.cell? ⟨g6, 1, none⟩ = some (.string (bs [])) := Blk.cell hO 1
      replace col := Blk.lt hO
      replace cp0 : v24.cell? ⟨g11, 0, none⟩ = some (.string (bs [])) := Blk.cell hP 0
      replace cp1 : v24.cell? ⟨g11, 1, none⟩ = some (.string (bs [])) := Blk.cell hP 1
      replace cpl := Blk.lt hP
      clear e23
      go_wp2_with (refine stop_load 23 (.tmp 14) rfl ?_)
      refine ⟨?_⟩
      refine wpList_load_row rfl 23 (.tmp 14) rfl g17 (by rfl) 23 _ (0, 0) _ hA Tryd.underlying23 rfl (size32.trans (by simp [hp32])) ?_
      simp only [Act.put, List.setIfInBounds_toArray, List.set_cons_zero, List.set_cons_succ]
      go_wp2_with (refine stop_load 23 (.tmp 16) rfl ?_)
      refine ⟨?_⟩
      refine wpList_load_row rfl 23 (.tmp 16) rfl g22 (by rfl) 23 _ (0, 0) _ hB Tryd.underlying23 rfl (size32.trans (by simp [hr32])) ?_
      simp only [Act.put, List.setIfInBounds_toArray, List.set_cons_zero, List.set_cons_succ]
      go_wp2_with fail
      go_ret
      exact ⟨rfl, hE⟩

set_option maxRecDepth 100000 in
theorem contract (H : Type) (enc : TypeId × Value → H) (W : World) (base : Nat) (args : Array Value) (ds gs : List (DataW H)) (before : List MemPlace)
    (hval0 : ∀ (j : Nat) t v, Tryd.f10.params[j]? = some t → args[j]? = some v → Value.okWide Tryd.prog W .any base t v)
    (hW : DataW.Whole enc Tryd.prog Tryd.f10.params.toList Rows.twinLeavesSpec.vars false W args.toList ds gs before) (hL : laidMetH Tryd.prog Rows.twinLeavesRow.laid W) :
    Calls Tryd.prog 10 args W fun e W' => ∃ v, e = .returned v ∧ Rows.twinLeavesSpec.post enc Tryd.prog Tryd.f10 false true false false W args v W' := by
  have K : Keys W := keys_of hL
  have hval : ∀ (j : Nat) t v, Tryd.f10.params[j]? = some t → args[j]? = some v → Value.okWide Tryd.prog W .any base t v := hval0
  have hW' := hW
  obtain ⟨p, q, hA0, hV, rfl, hfz, hnd⟩ := hW
  have hA : DataW.TrodAll enc Tryd.prog W 0 (fun _ => true) true Tryd.f10.params.toList args.toList ds p := hA0
  rw [Tryd.params10] at hA hval
  obtain ⟨v0, vs0, d0, ds0, p0, q0, hargs, rfl, rfl, hx0, r0⟩ := trodAll_cons hA
  obtain ⟨v1, vs1, d1, ds1, p1, q1, rfl, rfl, rfl, hx1, r1⟩ := trodAll_cons r0
  obtain ⟨v2, vs2, d2, ds2, p2, q2, rfl, rfl, rfl, hx2, r2⟩ := trodAll_cons r1
  obtain ⟨rfl, rfl, rfl⟩ := trodAll_nil r2
  obtain rfl : args = #[v0, v1, v2] := by cases args; simp_all
  obtain ⟨rfl, rfl⟩ := trodVars_none hV
  obtain ⟨q1, q2, rfl, hq1, hq2⟩ := op_i2 (hval 0 24 v0 rfl rfl) (tr_of hx0)
  obtain ⟨a1, a2, rfl, ha1, ha2⟩ := op_sum2 (hval 1 41 v1 rfl rfl) (tr_of hx1)
  obtain ⟨zc1, zc2, z1, z2, zo, rfl, hzs1, hza1, hzs2, hza2⟩ := op_rows (hval 2 55 v2 rfl rfl) (tr_of hx2)
  refine (walk a1 a2 ha1 ha2 q1 q2 hq1 hq2 zc1 zc2 z1 z2 zo W K hzs1 hzs2 hza1 hza2).mono fun e W' ⟨he, hg⟩ => ?_
  subst he
  exact ⟨_, rfl, law_post hW' rfl rfl (by kernel_rfl) rfl rfl rfl hg⟩

theorem laid_met (os : Os) : laidMet Tryd.prog Rows.twinLeavesRow.laid ((keysWorld os).forCall (fun _ _ => 0) ⟨#[], #[.agg #[.int .i64 0, .int .i64 0], .agg (Array.replicate 64 (.int .u8 0)), .agg #[.slice none 0 0, .slice none 0 0, .bool false]], []⟩).memory :=
  laidMet_of_run' 8 (by kernel_rfl) (by kernel_rfl)
theorem reads (os : Os) {H : Type} (enc : TypeId × Value → H) : ∃ x, DataW.whole enc Tryd.prog ((keysWorld os).forCall (fun _ _ => 0) ⟨#[], #[.agg #[.int .i64 0, .int .i64 0], .agg (Array.replicate 64 (.int .u8 0)), .agg #[.slice none 0 0, .slice none 0 0, .bool false]], []⟩).memory Tryd.f10.params.toList Rows.twinLeavesSpec.vars false (#[.agg #[.int .i64 0, .int .i64 0], .agg (Array.replicate 64 (.int .u8 0)), .agg #[.slice none 0 0, .slice none 0 0, .bool false]] : Array Value).toList 8 = some x :=
  Option.isSome_iff_exists.1 (by kernel_rfl)
set_option maxRecDepth 100000 in
theorem lifted (os : Os) (started : os.Started) (H : Type) (enc : TypeId × Value → H) (F : Stop.Interp) :
    ReturnsInHanded {} Tryd.checked os 10 .any ((OpenSpec.ofChange Rows.twinLeavesSpec).preRow enc Tryd.prog Tryd.f10 Rows.twinLeavesRow.domain false Rows.twinLeavesRow.laid) (((OpenSpec.ofChange Rows.twinLeavesSpec).at F).post enc Tryd.prog Tryd.f10 false true false false) := by
  obtain ⟨x, hx⟩ := reads os enc
  refine returnsInHanded_of_row (C := Tryd.checked) (s := OpenSpec.ofChange Rows.twinLeavesSpec) own_ started (by kernel_rfl) Tryd.func10
    (witness_row_at (enc := enc) (C := Tryd.checked) false (keysWorld os) #[.agg #[.int .i64 0, .int .i64 0], .agg (Array.replicate 64 (.int .u8 0)), .agg #[.slice none 0 0, .slice none 0 0, .bool false]] rfl (by kernel_rfl) (by kernel_rfl) (by kernel_rfl)
      (OpenSpec.preRow_of_cond 8 hx rfl (fun k hk => by cases hk) (by kernel_rfl) (laid_met os))) ?_
  intro W base args ds gs before hval hW _ _ _ hL _ _
  exact contract H enc W base args ds gs before hval hW hL

theorem said : Rows.TwinLeavesSaid :=
  OpenClaim.holds_of_cond 10 Tryd.f10 rfl rfl rfl rfl rfl rfl rfl ⟨rfl, rfl, rfl, rfl, rfl⟩ rfl rfl rfl rfl rfl (by kernel_rfl) Tryd.func10 (by kernel_rfl)
    (of_decide_eq_true (by kernel_rfl)) (by unfold Func.isWrapper; first | (rw [if_pos (by decide +kernel)]; kernel_rfl) | (rw [if_neg (by decide +kernel)]; exact ⟨rfl, rfl⟩))
    (fun os started H enc _ F => by rw [OpenClaim.pre_eq_preRow]; exact lifted os started H enc F)
theorem plain (f : FuncId) (fn : Func) (hf : Tryd.pinned.checked.prog.funcNamed "scrinium/scriniumlaw13.TwinLeaves" = some f) (hfn : Tryd.pinned.checked.prog.funcs[f]? = some fn) :
    false = Tryd.pinned.checked.prog.looks [] ∧ ∀ (j : Nat) t, fn.params[j]? = some t → Tryd.pinned.checked.prog.wantsStandIn t = false := by
  obtain rfl : f = 10 := Option.some.inj ((show Tryd.prog.funcNamed "scrinium/scriniumlaw13.TwinLeaves" = some 10 by kernel_rfl).symm.trans hf) |>.symm
  obtain rfl : fn = Tryd.f10 := (Option.some.inj (Tryd.func10.symm.trans hfn)).symm
  refine ⟨by kernel_rfl, fun j t ht => ?_⟩
  rw [Tryd.params10] at ht
  have hm : t ∈ ([24, 41, 55] : List TypeId) := by simpa using Array.mem_of_getElem? ht
  have hall : (([24, 41, 55] : List TypeId).all fun u => !Tryd.prog.wantsStandIn u) = true := by kernel_rfl
  exact (show Tryd.prog.wantsStandIn t = false by simpa using List.all_eq_true.1 hall t hm)
theorem proved : Rows.TwinLeavesCardSaid :=
  Claim7.holds_tied_plain_at .later [] _ _ _ _ said (fun _ h => by cases h) (by kernel_rfl) (fun _ h => by cases h) twinLeaves_row_tie rfl ⟨rfl, rfl⟩ (by kernel_rfl) rfl plain (by kernel_rfl)

end Go.Proofs.YtfpipdopgepelaaDoor.twinLeaves
