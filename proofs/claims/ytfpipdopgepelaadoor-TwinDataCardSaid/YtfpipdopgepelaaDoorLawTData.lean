/-
  scriniumlaw13.TwinData: no condition.
-/
import Derived.Test.YtfpipdopgepelaaDoorTwin5
import Derived.Test.YtfpipdopgepelaaDoorEqA
import Derived.Test.YtfpipdopgepelaaDoorLaw
import Derived.Deep.DeepCutAuto
set_option linter.unusedVariables false
set_option maxRecDepth 100000
set_option linter.unusedSimpArgs false
namespace Go.Proofs.YtfpipdopgepelaaDoor.twinData
open Go.ChangeShapes Go.WideShapes Go.ChangeAt Go.RowKit
attribute [local go_sem] bs_size bs_toList2 bs_append bs_extract_end bs_extract_begin bs_get wrap64_b grow_cell grow_frozen

theorem twC_some (a b : List UInt8) : twC (some (a, b)) = #[.string (bs a), .string (bs b)] := rfl
theorem are_ne (a b : List UInt8) (h : a ≠ b) : areB a b = decide (shaOf a = shaOf b) := by
  unfold areB
  have : (a == b) = false := by rw [beq_eq_false_iff_ne]; exact h
  rw [this]
  rfl
theorem data_ne (a b : List UInt8) (h : a ≠ b) : areB (0 :: a) (0 :: b) = decide (leafB a = leafB b) := are_ne _ _ (fun e => h (by injection e))

/-! ### The walk -/
set_option maxHeartbeats 4000000 in
theorem walk (s t : List UInt8) (hs0 : s.length ≤ 9223372036854775807) (ht0 : t.length ≤ 9223372036854775807) (w : World) (KW : Keys w) :
    Calls Tryd.prog 13 #[.string (bs s), .string (bs t)] w fun e w' => e = .returned (.bool true) ∧ Ext w w' := by
  have hgw := guard_sum
  have hgt := guard_twins
  have hht := held_twins
  have hc0 : (ByteArray.mk #[0]) = bs [0] := rfl
  by_cases hs : 300 < s.length
  · have hsI : (300 : Int) < (s.length : Int) := by omega
    by_cases ht : 300 < t.length
    · have htI : (300 : Int) < (t.length : Int) := by omega
      go_enter Tryd.func13, Tryd.ntmps13
      go_wp2_with fail
      refine (awake13_calls _ KW).mono ?_; rintro e w1 ⟨rfl, e1⟩
      have hSl : (s.take 300).length ≤ 300 := by rw [List.length_take]; omega
      obtain ⟨S, hS⟩ : ∃ S, S = s.take 300 := ⟨_, rfl⟩
      rw [← hS] at hSl
      have hTl : (t.take 300).length ≤ 300 := by rw [List.length_take]; omega
      obtain ⟨T, hT⟩ : ∃ T, T = t.take 300 := ⟨_, rfl⟩
      rw [← hT] at hTl
      go_wp2_with (refine stop_dst 25 rfl ?_)
      refine ⟨?_⟩
      rw [← hS, ← hT]
      clear hS hT
      have hSl2 : S.length ≤ 4611686018427380000 := by omega
      have hTl2 : T.length ≤ 4611686018427380000 := by omega
      have hs1 : ¬ (9223372036854775807 < 1 + S.length) := by omega
      have ht1 : ¬ (9223372036854775807 < 1 + T.length) := by omega
      by_cases hST : S = T
      · subst hST
        have hbb : (S == S) = true := by simp
        have HA := Lib.hid (areB_same S)
        have HD : Hid (dataP S S = none) := Lib.hid (if_neg (by rw [areB_same]; simp))
        have hE := e1
        clear e1
        go_wp2_with fail
        change Calls _ _ _ ((w1.alloc (.cells #[.string (bs S), .string (bs S)] 57)).alloc (.cells #[.string (bs []), .string (bs [])] 57)) _
        have hN := Blk.new w1 57 #[.string (bs S), .string (bs S)]
        have e3 : Ext w1 (w1.alloc (.cells #[.string (bs S), .string (bs S)] 57)) := (Ext.refl w1).alloc _
        obtain ⟨g2, g2e⟩ : ∃ g2, g2 = w1.heap.size := ⟨_, rfl⟩
        try rw [← w1z]
        try rw [← g2e]
        rw [← g2e] at hN
        have v1z : (w1.alloc (.cells #[.string (bs S), .string (bs S)] 57)).heap.size = g2 + 1 := by rw [alloc_size, ← g2e]
        have g2b : w1.heap.size ≤ g2 := by omega
        generalize w1.alloc (.cells #[.string (bs S), .string (bs S)] 57) = v1 at *
        clear g2e
        replace hE := hE.trans e3
        clear e3
        have hO := Blk.new v1 57 #[.string (bs []), .string (bs [])]
        have e6 : Ext v1 (v1.alloc (.cells #[.string (bs []), .string (bs [])] 57)) := (Ext.refl v1).alloc _
        obtain ⟨g5, g5e⟩ : ∃ g5, g5 = v1.heap.size := ⟨_, rfl⟩
        try rw [← v1z]
        try rw [← g5e]
        rw [← g5e] at hO
        have v4z : (v1.alloc (.cells #[.string (bs []), .string (bs [])] 57)).heap.size = g5 + 1 := by rw [alloc_size, ← g5e]
        have g5b : v1.heap.size ≤ g5 := by omega
        generalize v1.alloc (.cells #[.string (bs []), .string (bs [])] 57) = v4 at *
        clear g5e
        replace hN := Blk.below hN e6 (Blk.lt hN)
        replace hE := hE.trans e6
        clear e6
        try rw [show ((.string ⟨#[]⟩ : Value)) = .string (bs []) from rfl]
        have cn0 : v4.cell? ⟨g2, 0, none⟩ = some (.string (bs S)) := Blk.cell hN 0
        have cn1 : v4.cell? ⟨g2, 1, none⟩ = some (.string (bs S)) := Blk.cell hN 1
        have cnl := Blk.lt hN
        have co0 : v4.cell? ⟨g5, 0, none⟩ = some (.string (bs [])) := Blk.cell hO 0
        have co1 : v4.cell? ⟨g5, 1, none⟩ = some (.string (bs [])) := Blk.cell hO 1
        have col := Blk.lt hO
        refine (Data_calls S S (by omega) (by omega) _ (KW.ext hE)).mono ?_; rw [HD.out, twC_none]; rintro e v8 ⟨rfl, e7⟩
        replace hN := Blk.below hN e7 (Blk.lt hN)
        replace hO := Blk.below hO e7 (Blk.lt hO)
        replace hE := hE.trans e7
        replace cn0 : v8.cell? ⟨g2, 0, none⟩ = some (.string (bs S)) := Blk.cell hN 0
        replace cn1 : v8.cell? ⟨g2, 1, none⟩ = some (.string (bs S)) := Blk.cell hN 1
        replace cnl := Blk.lt hN
        replace co0 : v8.cell? ⟨g5, 0, none⟩ = some (.string (bs [])) := Blk.cell hO 0
        replace co1 : v8.cell? ⟨g5, 1, none⟩ = some (.string (bs [])) := Blk.cell hO 1
        replace col := Blk.lt hO
        clear e7
        go_wp2_with fail
        change Calls _ _ #[twV S S] (v8.alloc (.cells #[.string (bs []), .string (bs [])] 57)) _
        have hP := Blk.new v8 57 #[.string (bs []), .string (bs [])]
        have e11 : Ext v8 (v8.alloc (.cells #[.string (bs []), .string (bs [])] 57)) := (Ext.refl v8).alloc _
        obtain ⟨g10, g10e⟩ : ∃ g10, g10 = v8.heap.size := ⟨_, rfl⟩
        try rw [← v8z]
        try rw [← g10e]
        rw [← g10e] at hP
        have v9z : (v8.alloc (.cells #[.string (bs []), .string (bs [])] 57)).heap.size = g10 + 1 := by rw [alloc_size, ← g10e]
        have g10b : v8.heap.size ≤ g10 := by omega
        generalize v8.alloc (.cells #[.string (bs []), .string (bs [])] 57) = v9 at *
        clear g10e
        replace hN := Blk.below hN e11 (Blk.lt hN)
        replace hO := Blk.below hO e11 (Blk.lt hO)
        replace hE := hE.trans e11
        replace cn0 : v9.cell? ⟨g2, 0, none⟩ = some (.string (bs S)) := Blk.cell hN 0
        replace cn1 : v9.cell? ⟨g2, 1, none⟩ = some (.string (bs S)) := Blk.cell hN 1
        replace cnl := Blk.lt hN
        replace co0 : v9.cell? ⟨g5, 0, none⟩ = some (.string (bs [])) := Blk.cell hO 0
        replace co1 : v9.cell? ⟨g5, 1, none⟩ = some (.string (bs [])) := Blk.cell hO 1
        replace col := Blk.lt hO
        clear e11
        have cp0 : v9.cell? ⟨g10, 0, none⟩ = some (.string (bs [])) := Blk.cell hP 0
        have cp1 : v9.cell? ⟨g10, 1, none⟩ = some (.string (bs [])) := Blk.cell hP 1
        have cpl := Blk.lt hP
        refine (Are_calls S S hSl2 hSl2 _ (KW.ext hE)).mono ?_; rw [HA.out]; rintro e v13 ⟨rfl, e12⟩
        replace hN := Blk.below hN e12 (Blk.lt hN)
        replace hO := Blk.below hO e12 (Blk.lt hO)
        replace hP := Blk.below hP e12 (Blk.lt hP)
        replace hE := hE.trans e12
        replace cn0 : v13.cell? ⟨g2, 0, none⟩ = some (.string (bs S)) := Blk.cell hN 0
        replace cn1 : v13.cell? ⟨g2, 1, none⟩ = some (.string (bs S)) := Blk.cell hN 1
        replace cnl := Blk.lt hN
        replace co0 : v13.cell? ⟨g5, 0, none⟩ = some (.string (bs [])) := Blk.cell hO 0
        replace co1 : v13.cell? ⟨g5, 1, none⟩ = some (.string (bs [])) := Blk.cell hO 1
        replace col := Blk.lt hO
        replace cp0 : v13.cell? ⟨g10, 0, none⟩ = some (.string (bs [])) := Blk.cell hP 0
        replace cp1 : v13.cell? ⟨g10, 1, none⟩ = some (.string (bs [])) := Blk.cell hP 1
        replace cpl := Blk.lt hP
        clear e12
        go_wp2_with fail
        go_ret
        exact ⟨rfl, hE⟩
      · skip
        have hbb : (S == T) = false := by rw [beq_eq_false_iff_ne]; exact hST
        have HA := Lib.hid (are_ne S T hST)
        have hd := data_ne S T hST
        have hE := e1
        clear e1
        obtain ⟨d1, hd1⟩ : ∃ d1, d1 = decide (shaOf S = shaOf T) := ⟨_, rfl⟩
        obtain ⟨d2, hd2⟩ : ∃ d2, d2 = decide (leafB S = leafB T) := ⟨_, rfl⟩
        have heq1 := fun w : World => eq_sum (shaOf S) (shaOf T) (shaOf_length S) (shaOf_length T) w
        have heq2 := fun w : World => eq_sum (leafB S) (leafB T) (leafB_length S) (leafB_length T) w
        rw [← hd1] at HA heq1
        rw [← hd2] at hd heq2
        have HA2 := HA
        clear hd1 hd2 HA
        generalize hpa : leafB S = pa at *
        generalize hpb : leafB T = pb at *
        have Hpa := Lib.hid hpa
        have Hpb := Lib.hid hpb
        clear hpa hpb
        go_wp2_with fail
        change Calls _ _ _ (w1.alloc (.cells #[.string (bs S), .string (bs T)] 57)) _
        have hN := Blk.new w1 57 #[.string (bs S), .string (bs T)]
        have e3 : Ext w1 (w1.alloc (.cells #[.string (bs S), .string (bs T)] 57)) := (Ext.refl w1).alloc _
        obtain ⟨g2, g2e⟩ : ∃ g2, g2 = w1.heap.size := ⟨_, rfl⟩
        try rw [← w1z]
        try rw [← g2e]
        rw [← g2e] at hN
        have v1z : (w1.alloc (.cells #[.string (bs S), .string (bs T)] 57)).heap.size = g2 + 1 := by rw [alloc_size, ← g2e]
        have g2b : w1.heap.size ≤ g2 := by omega
        generalize w1.alloc (.cells #[.string (bs S), .string (bs T)] 57) = v1 at *
        clear g2e
        replace hE := hE.trans e3
        clear e3
        have cn0 : v1.cell? ⟨g2, 0, none⟩ = some (.string (bs S)) := Blk.cell hN 0
        have cn1 : v1.cell? ⟨g2, 1, none⟩ = some (.string (bs T)) := Blk.cell hN 1
        have cnl := Blk.lt hN
        refine (refOf_calls S _ (by omega)).mono ?_; rintro e v5 ⟨rfl, e4⟩
        replace hN := Blk.below hN e4 (Blk.lt hN)
        replace hE := hE.trans e4
        replace cn0 : v5.cell? ⟨g2, 0, none⟩ = some (.string (bs S)) := Blk.cell hN 0
        replace cn1 : v5.cell? ⟨g2, 1, none⟩ = some (.string (bs T)) := Blk.cell hN 1
        replace cnl := Blk.lt hN
        clear e4
        go_wp2_with fail
        refine (refOf_calls T _ (by omega)).mono ?_; rintro e v7 ⟨rfl, e6⟩
        replace hN := Blk.below hN e6 (Blk.lt hN)
        replace hE := hE.trans e6
        replace cn0 : v7.cell? ⟨g2, 0, none⟩ = some (.string (bs S)) := Blk.cell hN 0
        replace cn1 : v7.cell? ⟨g2, 1, none⟩ = some (.string (bs T)) := Blk.cell hN 1
        replace cnl := Blk.lt hN
        clear e6
        unfold sumV
        go_wp2_with fail
        change Calls _ _ _ (v7.alloc (.cells #[.string (bs []), .string (bs [])] 57)) _
        have hO := Blk.new v7 57 #[.string (bs []), .string (bs [])]
        have e10 : Ext v7 (v7.alloc (.cells #[.string (bs []), .string (bs [])] 57)) := (Ext.refl v7).alloc _
        obtain ⟨g9, g9e⟩ : ∃ g9, g9 = v7.heap.size := ⟨_, rfl⟩
        try rw [← v7z]
        try rw [← g9e]
        rw [← g9e] at hO
        have v8z : (v7.alloc (.cells #[.string (bs []), .string (bs [])] 57)).heap.size = g9 + 1 := by rw [alloc_size, ← g9e]
        have g9b : v7.heap.size ≤ g9 := by omega
        generalize v7.alloc (.cells #[.string (bs []), .string (bs [])] 57) = v8 at *
        clear g9e
        replace hN := Blk.below hN e10 (Blk.lt hN)
        replace hE := hE.trans e10
        replace cn0 : v8.cell? ⟨g2, 0, none⟩ = some (.string (bs S)) := Blk.cell hN 0
        replace cn1 : v8.cell? ⟨g2, 1, none⟩ = some (.string (bs T)) := Blk.cell hN 1
        replace cnl := Blk.lt hN
        clear e10
        have co0 : v8.cell? ⟨g9, 0, none⟩ = some (.string (bs [])) := Blk.cell hO 0
        have co1 : v8.cell? ⟨g9, 1, none⟩ = some (.string (bs [])) := Blk.cell hO 1
        have col := Blk.lt hO
        cases d2
        · skip
          have HD : Hid (dataP S T = none) := Lib.hid (if_neg (by rw [hd]; simp))
          clear hd
          refine (Data_calls S T (by omega) (by omega) _ (KW.ext hE)).mono ?_; rw [HD.out, twC_none]; rintro e v12 ⟨rfl, e11⟩
          replace hN := Blk.below hN e11 (Blk.lt hN)
          replace hO := Blk.below hO e11 (Blk.lt hO)
          replace hE := hE.trans e11
          replace cn0 : v12.cell? ⟨g2, 0, none⟩ = some (.string (bs S)) := Blk.cell hN 0
          replace cn1 : v12.cell? ⟨g2, 1, none⟩ = some (.string (bs T)) := Blk.cell hN 1
          replace cnl := Blk.lt hN
          replace co0 : v12.cell? ⟨g9, 0, none⟩ = some (.string (bs [])) := Blk.cell hO 0
          replace co1 : v12.cell? ⟨g9, 1, none⟩ = some (.string (bs [])) := Blk.cell hO 1
          replace col := Blk.lt hO
          clear e11
          go_wp2_with fail
          change Calls _ _ _ (v12.alloc (.cells #[.string (bs []), .string (bs [])] 57)) _
          have hP := Blk.new v12 57 #[.string (bs []), .string (bs [])]
          have e15 : Ext v12 (v12.alloc (.cells #[.string (bs []), .string (bs [])] 57)) := (Ext.refl v12).alloc _
          obtain ⟨g14, g14e⟩ : ∃ g14, g14 = v12.heap.size := ⟨_, rfl⟩
          try rw [← v12z]
          try rw [← g14e]
          rw [← g14e] at hP
          have v13z : (v12.alloc (.cells #[.string (bs []), .string (bs [])] 57)).heap.size = g14 + 1 := by rw [alloc_size, ← g14e]
          have g14b : v12.heap.size ≤ g14 := by omega
          generalize v12.alloc (.cells #[.string (bs []), .string (bs [])] 57) = v13 at *
          clear g14e
          replace hN := Blk.below hN e15 (Blk.lt hN)
          replace hO := Blk.below hO e15 (Blk.lt hO)
          replace hE := hE.trans e15
          replace cn0 : v13.cell? ⟨g2, 0, none⟩ = some (.string (bs S)) := Blk.cell hN 0
          replace cn1 : v13.cell? ⟨g2, 1, none⟩ = some (.string (bs T)) := Blk.cell hN 1
          replace cnl := Blk.lt hN
          replace co0 : v13.cell? ⟨g9, 0, none⟩ = some (.string (bs [])) := Blk.cell hO 0
          replace co1 : v13.cell? ⟨g9, 1, none⟩ = some (.string (bs [])) := Blk.cell hO 1
          replace col := Blk.lt hO
          clear e15
          have cp0 : v13.cell? ⟨g14, 0, none⟩ = some (.string (bs [])) := Blk.cell hP 0
          have cp1 : v13.cell? ⟨g14, 1, none⟩ = some (.string (bs [])) := Blk.cell hP 1
          have cpl := Blk.lt hP
          refine (refLeaf_calls S (by omega) _).mono ?_; rw [Hpa.out]; rintro e v17 ⟨rfl, e16⟩
          replace hN := Blk.below hN e16 (Blk.lt hN)
          replace hO := Blk.below hO e16 (Blk.lt hO)
          replace hP := Blk.below hP e16 (Blk.lt hP)
          replace hE := hE.trans e16
          replace cn0 : v17.cell? ⟨g2, 0, none⟩ = some (.string (bs S)) := Blk.cell hN 0
          replace cn1 : v17.cell? ⟨g2, 1, none⟩ = some (.string (bs T)) := Blk.cell hN 1
          replace cnl := Blk.lt hN
          replace co0 : v17.cell? ⟨g9, 0, none⟩ = some (.string (bs [])) := Blk.cell hO 0
          replace co1 : v17.cell? ⟨g9, 1, none⟩ = some (.string (bs [])) := Blk.cell hO 1
          replace col := Blk.lt hO
          replace cp0 : v17.cell? ⟨g14, 0, none⟩ = some (.string (bs [])) := Blk.cell hP 0
          replace cp1 : v17.cell? ⟨g14, 1, none⟩ = some (.string (bs [])) := Blk.cell hP 1
          replace cpl := Blk.lt hP
          clear e16
          go_wp2_with fail
          refine (refLeaf_calls T (by omega) _).mono ?_; rw [Hpb.out]; rintro e v19 ⟨rfl, e18⟩
          replace hN := Blk.below hN e18 (Blk.lt hN)
          replace hO := Blk.below hO e18 (Blk.lt hO)
          replace hP := Blk.below hP e18 (Blk.lt hP)
          replace hE := hE.trans e18
          replace cn0 : v19.cell? ⟨g2, 0, none⟩ = some (.string (bs S)) := Blk.cell hN 0
          replace cn1 : v19.cell? ⟨g2, 1, none⟩ = some (.string (bs T)) := Blk.cell hN 1
          replace cnl := Blk.lt hN
          replace co0 : v19.cell? ⟨g9, 0, none⟩ = some (.string (bs [])) := Blk.cell hO 0
          replace co1 : v19.cell? ⟨g9, 1, none⟩ = some (.string (bs [])) := Blk.cell hO 1
          replace col := Blk.lt hO
          replace cp0 : v19.cell? ⟨g14, 0, none⟩ = some (.string (bs [])) := Blk.cell hP 0
          replace cp1 : v19.cell? ⟨g14, 1, none⟩ = some (.string (bs [])) := Blk.cell hP 1
          replace cpl := Blk.lt hP
          clear e18
          unfold sumV
          go_wp2_with fail
          change Calls _ _ #[twV S T] _ _
          refine (Are_calls S T hSl2 hTl2 _ (KW.ext hE)).mono ?_; rw [HA2.out]; rintro e v21 ⟨rfl, e20⟩
          replace hN := Blk.below hN e20 (Blk.lt hN)
          replace hO := Blk.below hO e20 (Blk.lt hO)
          replace hP := Blk.below hP e20 (Blk.lt hP)
          replace hE := hE.trans e20
          replace cn0 : v21.cell? ⟨g2, 0, none⟩ = some (.string (bs S)) := Blk.cell hN 0
          replace cn1 : v21.cell? ⟨g2, 1, none⟩ = some (.string (bs T)) := Blk.cell hN 1
          replace cnl := Blk.lt hN
          replace co0 : v21.cell? ⟨g9, 0, none⟩ = some (.string (bs [])) := Blk.cell hO 0
          replace co1 : v21.cell? ⟨g9, 1, none⟩ = some (.string (bs [])) := Blk.cell hO 1
          replace col := Blk.lt hO
          replace cp0 : v21.cell? ⟨g14, 0, none⟩ = some (.string (bs [])) := Blk.cell hP 0
          replace cp1 : v21.cell? ⟨g14, 1, none⟩ = some (.string (bs [])) := Blk.cell hP 1
          replace cpl := Blk.lt hP
          clear e20
          go_wp2_with fail
          go_ret
          exact ⟨rfl, hE⟩
        · skip
          have HD : Hid (dataP S T = some (0 :: S, 0 :: T)) := Lib.hid (if_pos hd)
          clear hd
          refine (Data_calls S T (by omega) (by omega) _ (KW.ext hE)).mono ?_; rw [HD.out, twC_some]; rintro e v12 ⟨rfl, e11⟩
          replace hN := Blk.below hN e11 (Blk.lt hN)
          replace hO := Blk.below hO e11 (Blk.lt hO)
          replace hE := hE.trans e11
          replace cn0 : v12.cell? ⟨g2, 0, none⟩ = some (.string (bs S)) := Blk.cell hN 0
          replace cn1 : v12.cell? ⟨g2, 1, none⟩ = some (.string (bs T)) := Blk.cell hN 1
          replace cnl := Blk.lt hN
          replace co0 : v12.cell? ⟨g9, 0, none⟩ = some (.string (bs [])) := Blk.cell hO 0
          replace co1 : v12.cell? ⟨g9, 1, none⟩ = some (.string (bs [])) := Blk.cell hO 1
          replace col := Blk.lt hO
          clear e11
          go_wp2_with fail
          change Calls _ _ _ (v12.alloc (.cells #[.string (bs (0 :: S)), .string (bs (0 :: T))] 57)) _
          have hP := Blk.new v12 57 #[.string (bs (0 :: S)), .string (bs (0 :: T))]
          have e15 : Ext v12 (v12.alloc (.cells #[.string (bs (0 :: S)), .string (bs (0 :: T))] 57)) := (Ext.refl v12).alloc _
          obtain ⟨g14, g14e⟩ : ∃ g14, g14 = v12.heap.size := ⟨_, rfl⟩
          try rw [← v12z]
          try rw [← g14e]
          rw [← g14e] at hP
          have v13z : (v12.alloc (.cells #[.string (bs (0 :: S)), .string (bs (0 :: T))] 57)).heap.size = g14 + 1 := by rw [alloc_size, ← g14e]
          have g14b : v12.heap.size ≤ g14 := by omega
          generalize v12.alloc (.cells #[.string (bs (0 :: S)), .string (bs (0 :: T))] 57) = v13 at *
          clear g14e
          replace hN := Blk.below hN e15 (Blk.lt hN)
          replace hO := Blk.below hO e15 (Blk.lt hO)
          replace hE := hE.trans e15
          replace cn0 : v13.cell? ⟨g2, 0, none⟩ = some (.string (bs S)) := Blk.cell hN 0
          replace cn1 : v13.cell? ⟨g2, 1, none⟩ = some (.string (bs T)) := Blk.cell hN 1
          replace cnl := Blk.lt hN
          replace co0 : v13.cell? ⟨g9, 0, none⟩ = some (.string (bs [])) := Blk.cell hO 0
          replace co1 : v13.cell? ⟨g9, 1, none⟩ = some (.string (bs [])) := Blk.cell hO 1
          replace col := Blk.lt hO
          clear e15
          have cp0 : v13.cell? ⟨g14, 0, none⟩ = some (.string (bs (0 :: S))) := Blk.cell hP 0
          have cp1 : v13.cell? ⟨g14, 1, none⟩ = some (.string (bs (0 :: T))) := Blk.cell hP 1
          have cpl := Blk.lt hP
          refine (refLeaf_calls S (by omega) _).mono ?_; rw [Hpa.out]; rintro e v17 ⟨rfl, e16⟩
          replace hN := Blk.below hN e16 (Blk.lt hN)
          replace hO := Blk.below hO e16 (Blk.lt hO)
          replace hP := Blk.below hP e16 (Blk.lt hP)
          replace hE := hE.trans e16
          replace cn0 : v17.cell? ⟨g2, 0, none⟩ = some (.string (bs S)) := Blk.cell hN 0
          replace cn1 : v17.cell? ⟨g2, 1, none⟩ = some (.string (bs T)) := Blk.cell hN 1
          replace cnl := Blk.lt hN
          replace co0 : v17.cell? ⟨g9, 0, none⟩ = some (.string (bs [])) := Blk.cell hO 0
          replace co1 : v17.cell? ⟨g9, 1, none⟩ = some (.string (bs [])) := Blk.cell hO 1
          replace col := Blk.lt hO
          replace cp0 : v17.cell? ⟨g14, 0, none⟩ = some (.string (bs (0 :: S))) := Blk.cell hP 0
          replace cp1 : v17.cell? ⟨g14, 1, none⟩ = some (.string (bs (0 :: T))) := Blk.cell hP 1
          replace cpl := Blk.lt hP
          clear e16
          go_wp2_with fail
          refine (refLeaf_calls T (by omega) _).mono ?_; rw [Hpb.out]; rintro e v19 ⟨rfl, e18⟩
          replace hN := Blk.below hN e18 (Blk.lt hN)
          replace hO := Blk.below hO e18 (Blk.lt hO)
          replace hP := Blk.below hP e18 (Blk.lt hP)
          replace hE := hE.trans e18
          replace cn0 : v19.cell? ⟨g2, 0, none⟩ = some (.string (bs S)) := Blk.cell hN 0
          replace cn1 : v19.cell? ⟨g2, 1, none⟩ = some (.string (bs T)) := Blk.cell hN 1
          replace cnl := Blk.lt hN
          replace co0 : v19.cell? ⟨g9, 0, none⟩ = some (.string (bs [])) := Blk.cell hO 0
          replace co1 : v19.cell? ⟨g9, 1, none⟩ = some (.string (bs [])) := Blk.cell hO 1
          replace col := Blk.lt hO
          replace cp0 : v19.cell? ⟨g14, 0, none⟩ = some (.string (bs (0 :: S))) := Blk.cell hP 0
          replace cp1 : v19.cell? ⟨g14, 1, none⟩ = some (.string (bs (0 :: T))) := Blk.cell hP 1
          replace cpl := Blk.lt hP
          clear e18
          unfold sumV
          go_wp2_with fail
          change Calls _ _ #[twV S T] _ _
          refine (Are_calls S T hSl2 hTl2 _ (KW.ext hE)).mono ?_; rw [HA2.out]; rintro e v21 ⟨rfl, e20⟩
          replace hN := Blk.below hN e20 (Blk.lt hN)
          replace hO := Blk.below hO e20 (Blk.lt hO)
          replace hP := Blk.below hP e20 (Blk.lt hP)
          replace hE := hE.trans e20
          replace cn0 : v21.cell? ⟨g2, 0, none⟩ = some (.string (bs S)) := Blk.cell hN 0
          replace cn1 : v21.cell? ⟨g2, 1, none⟩ = some (.string (bs T)) := Blk.cell hN 1
          replace cnl := Blk.lt hN
          replace co0 : v21.cell? ⟨g9, 0, none⟩ = some (.string (bs [])) := Blk.cell hO 0
          replace co1 : v21.cell? ⟨g9, 1, none⟩ = some (.string (bs [])) := Blk.cell hO 1
          replace col := Blk.lt hO
          replace cp0 : v21.cell? ⟨g14, 0, none⟩ = some (.string (bs (0 :: S))) := Blk.cell hP 0
          replace cp1 : v21.cell? ⟨g14, 1, none⟩ = some (.string (bs (0 :: T))) := Blk.cell hP 1
          replace cpl := Blk.lt hP
          clear e20
          have k1 : (0 :: S == 0 :: S) = true := by simp
          have k2 : (0 :: T == 0 :: T) = true := by simp
          go_wp2_with fail
          go_ret
          exact ⟨rfl, hE⟩
    · have htI : ¬ (300 : Int) < (t.length : Int) := by omega
      go_enter Tryd.func13, Tryd.ntmps13
      go_wp2_with fail
      refine (awake13_calls _ KW).mono ?_; rintro e w1 ⟨rfl, e1⟩
      have hSl : (s.take 300).length ≤ 300 := by rw [List.length_take]; omega
      obtain ⟨S, hS⟩ : ∃ S, S = s.take 300 := ⟨_, rfl⟩
      rw [← hS] at hSl
      have hTl : t.length ≤ 300 := by omega
      obtain ⟨T, hT⟩ : ∃ T, T = t := ⟨_, rfl⟩
      rw [← hT] at hTl
      go_wp2_with (refine stop_dst 25 rfl ?_)
      refine ⟨?_⟩
      rw [← hS, ← hT]
      clear hS hT
      have hSl2 : S.length ≤ 4611686018427380000 := by omega
      have hTl2 : T.length ≤ 4611686018427380000 := by omega
      have hs1 : ¬ (9223372036854775807 < 1 + S.length) := by omega
      have ht1 : ¬ (9223372036854775807 < 1 + T.length) := by omega
      by_cases hST : S = T
      · subst hST
        have hbb : (S == S) = true := by simp
        have HA := Lib.hid (areB_same S)
        have HD : Hid (dataP S S = none) := Lib.hid (if_neg (by rw [areB_same]; simp))
        have hE := e1
        clear e1
        go_wp2_with fail
        change Calls _ _ _ ((w1.alloc (.cells #[.string (bs S), .string (bs S)] 57)).alloc (.cells #[.string (bs []), .string (bs [])] 57)) _
        have hN := Blk.new w1 57 #[.string (bs S), .string (bs S)]
        have e3 : Ext w1 (w1.alloc (.cells #[.string (bs S), .string (bs S)] 57)) := (Ext.refl w1).alloc _
        obtain ⟨g2, g2e⟩ : ∃ g2, g2 = w1.heap.size := ⟨_, rfl⟩
        try rw [← w1z]
        try rw [← g2e]
        rw [← g2e] at hN
        have v1z : (w1.alloc (.cells #[.string (bs S), .string (bs S)] 57)).heap.size = g2 + 1 := by rw [alloc_size, ← g2e]
        have g2b : w1.heap.size ≤ g2 := by omega
        generalize w1.alloc (.cells #[.string (bs S), .string (bs S)] 57) = v1 at *
        clear g2e
        replace hE := hE.trans e3
        clear e3
        have hO := Blk.new v1 57 #[.string (bs []), .string (bs [])]
        have e6 : Ext v1 (v1.alloc (.cells #[.string (bs []), .string (bs [])] 57)) := (Ext.refl v1).alloc _
        obtain ⟨g5, g5e⟩ : ∃ g5, g5 = v1.heap.size := ⟨_, rfl⟩
        try rw [← v1z]
        try rw [← g5e]
        rw [← g5e] at hO
        have v4z : (v1.alloc (.cells #[.string (bs []), .string (bs [])] 57)).heap.size = g5 + 1 := by rw [alloc_size, ← g5e]
        have g5b : v1.heap.size ≤ g5 := by omega
        generalize v1.alloc (.cells #[.string (bs []), .string (bs [])] 57) = v4 at *
        clear g5e
        replace hN := Blk.below hN e6 (Blk.lt hN)
        replace hE := hE.trans e6
        clear e6
        try rw [show ((.string ⟨#[]⟩ : Value)) = .string (bs []) from rfl]
        have cn0 : v4.cell? ⟨g2, 0, none⟩ = some (.string (bs S)) := Blk.cell hN 0
        have cn1 : v4.cell? ⟨g2, 1, none⟩ = some (.string (bs S)) := Blk.cell hN 1
        have cnl := Blk.lt hN
        have co0 : v4.cell? ⟨g5, 0, none⟩ = some (.string (bs [])) := Blk.cell hO 0
        have co1 : v4.cell? ⟨g5, 1, none⟩ = some (.string (bs [])) := Blk.cell hO 1
        have col := Blk.lt hO
        refine (Data_calls S S (by omega) (by omega) _ (KW.ext hE)).mono ?_; rw [HD.out, twC_none]; rintro e v8 ⟨rfl, e7⟩
        replace hN := Blk.below hN e7 (Blk.lt hN)
        replace hO := Blk.below hO e7 (Blk.lt hO)
        replace hE := hE.trans e7
        replace cn0 : v8.cell? ⟨g2, 0, none⟩ = some (.string (bs S)) := Blk.cell hN 0
        replace cn1 : v8.cell? ⟨g2, 1, none⟩ = some (.string (bs S)) := Blk.cell hN 1
        replace cnl := Blk.lt hN
        replace co0 : v8.cell? ⟨g5, 0, none⟩ = some (.string (bs [])) := Blk.cell hO 0
        replace co1 : v8.cell? ⟨g5, 1, none⟩ = some (.string (bs [])) := Blk.cell hO 1
        replace col := Blk.lt hO
        clear e7
        go_wp2_with fail
        change Calls _ _ #[twV S S] (v8.alloc (.cells #[.string (bs []), .string (bs [])] 57)) _
        have hP := Blk.new v8 57 #[.string (bs []), .string (bs [])]
        have e11 : Ext v8 (v8.alloc (.cells #[.string (bs []), .string (bs [])] 57)) := (Ext.refl v8).alloc _
        obtain ⟨g10, g10e⟩ : ∃ g10, g10 = v8.heap.size := ⟨_, rfl⟩
        try rw [← v8z]
        try rw [← g10e]
        rw [← g10e] at hP
        have v9z : (v8.alloc (.cells #[.string (bs []), .string (bs [])] 57)).heap.size = g10 + 1 := by rw [alloc_size, ← g10e]
        have g10b : v8.heap.size ≤ g10 := by omega
        generalize v8.alloc (.cells #[.string (bs []), .string (bs [])] 57) = v9 at *
        clear g10e
        replace hN := Blk.below hN e11 (Blk.lt hN)
        replace hO := Blk.below hO e11 (Blk.lt hO)
        replace hE := hE.trans e11
        replace cn0 : v9.cell? ⟨g2, 0, none⟩ = some (.string (bs S)) := Blk.cell hN 0
        replace cn1 : v9.cell? ⟨g2, 1, none⟩ = some (.string (bs S)) := Blk.cell hN 1
        replace cnl := Blk.lt hN
        replace co0 : v9.cell? ⟨g5, 0, none⟩ = some (.string (bs [])) := Blk.cell hO 0
        replace co1 : v9.cell? ⟨g5, 1, none⟩ = some (.string (bs [])) := Blk.cell hO 1
        replace col := Blk.lt hO
        clear e11
        have cp0 : v9.cell? ⟨g10, 0, none⟩ = some (.string (bs [])) := Blk.cell hP 0
        have cp1 : v9.cell? ⟨g10, 1, none⟩ = some (.string (bs [])) := Blk.cell hP 1
        have cpl := Blk.lt hP
        refine (Are_calls S S hSl2 hSl2 _ (KW.ext hE)).mono ?_; rw [HA.out]; rintro e v13 ⟨rfl, e12⟩
        replace hN := Blk.below hN e12 (Blk.lt hN)
        replace hO := Blk.below hO e12 (Blk.lt hO)
        replace hP := Blk.below hP e12 (Blk.lt hP)
        replace hE := hE.trans e12
        replace cn0 : v13.cell? ⟨g2, 0, none⟩ = some (.string (bs S)) := Blk.cell hN 0
        replace cn1 : v13.cell? ⟨g2, 1, none⟩ = some (.string (bs S)) := Blk.cell hN 1
        replace cnl := Blk.lt hN
        replace co0 : v13.cell? ⟨g5, 0, none⟩ = some (.string (bs [])) := Blk.cell hO 0
        replace co1 : v13.cell? ⟨g5, 1, none⟩ = some (.string (bs [])) := Blk.cell hO 1
        replace col := Blk.lt hO
        replace cp0 : v13.cell? ⟨g10, 0, none⟩ = some (.string (bs [])) := Blk.cell hP 0
        replace cp1 : v13.cell? ⟨g10, 1, none⟩ = some (.string (bs [])) := Blk.cell hP 1
        replace cpl := Blk.lt hP
        clear e12
        go_wp2_with fail
        go_ret
        exact ⟨rfl, hE⟩
      · skip
        have hbb : (S == T) = false := by rw [beq_eq_false_iff_ne]; exact hST
        have HA := Lib.hid (are_ne S T hST)
        have hd := data_ne S T hST
        have hE := e1
        clear e1
        obtain ⟨d1, hd1⟩ : ∃ d1, d1 = decide (shaOf S = shaOf T) := ⟨_, rfl⟩
        obtain ⟨d2, hd2⟩ : ∃ d2, d2 = decide (leafB S = leafB T) := ⟨_, rfl⟩
        have heq1 := fun w : World => eq_sum (shaOf S) (shaOf T) (shaOf_length S) (shaOf_length T) w
        have heq2 := fun w : World => eq_sum (leafB S) (leafB T) (leafB_length S) (leafB_length T) w
        rw [← hd1] at HA heq1
        rw [← hd2] at hd heq2
        have HA2 := HA
        clear hd1 hd2 HA
        generalize hpa : leafB S = pa at *
        generalize hpb : leafB T = pb at *
        have Hpa := Lib.hid hpa
        have Hpb := Lib.hid hpb
        clear hpa hpb
        go_wp2_with fail
        change Calls _ _ _ (w1.alloc (.cells #[.string (bs S), .string (bs T)] 57)) _
        have hN := Blk.new w1 57 #[.string (bs S), .string (bs T)]
        have e3 : Ext w1 (w1.alloc (.cells #[.string (bs S), .string (bs T)] 57)) := (Ext.refl w1).alloc _
        obtain ⟨g2, g2e⟩ : ∃ g2, g2 = w1.heap.size := ⟨_, rfl⟩
        try rw [← w1z]
        try rw [← g2e]
        rw [← g2e] at hN
        have v1z : (w1.alloc (.cells #[.string (bs S), .string (bs T)] 57)).heap.size = g2 + 1 := by rw [alloc_size, ← g2e]
        have g2b : w1.heap.size ≤ g2 := by omega
        generalize w1.alloc (.cells #[.string (bs S), .string (bs T)] 57) = v1 at *
        clear g2e
        replace hE := hE.trans e3
        clear e3
        have cn0 : v1.cell? ⟨g2, 0, none⟩ = some (.string (bs S)) := Blk.cell hN 0
        have cn1 : v1.cell? ⟨g2, 1, none⟩ = some (.string (bs T)) := Blk.cell hN 1
        have cnl := Blk.lt hN
        refine (refOf_calls S _ (by omega)).mono ?_; rintro e v5 ⟨rfl, e4⟩
        replace hN := Blk.below hN e4 (Blk.lt hN)
        replace hE := hE.trans e4
        replace cn0 : v5.cell? ⟨g2, 0, none⟩ = some (.string (bs S)) := Blk.cell hN 0
        replace cn1 : v5.cell? ⟨g2, 1, none⟩ = some (.string (bs T)) := Blk.cell hN 1
        replace cnl := Blk.lt hN
        clear e4
        go_wp2_with fail
        refine (refOf_calls T _ (by omega)).mono ?_; rintro e v7 ⟨rfl, e6⟩
        replace hN := Blk.below hN e6 (Blk.lt hN)
        replace hE := hE.trans e6
        replace cn0 : v7.cell? ⟨g2, 0, none⟩ = some (.string (bs S)) := Blk.cell hN 0
        replace cn1 : v7.cell? ⟨g2, 1, none⟩ = some (.string (bs T)) := Blk.cell hN 1
        replace cnl := Blk.lt hN
        clear e6
        unfold sumV
        go_wp2_with fail
        change Calls _ _ _ (v7.alloc (.cells #[.string (bs []), .string (bs [])] 57)) _
        have hO := Blk.new v7 57 #[.string (bs []), .string (bs [])]
        have e10 : Ext v7 (v7.alloc (.cells #[.string (bs []), .string (bs [])] 57)) := (Ext.refl v7).alloc _
        obtain ⟨g9, g9e⟩ : ∃ g9, g9 = v7.heap.size := ⟨_, rfl⟩
        try rw [← v7z]
        try rw [← g9e]
        rw [← g9e] at hO
        have v8z : (v7.alloc (.cells #[.string (bs []), .string (bs [])] 57)).heap.size = g9 + 1 := by rw [alloc_size, ← g9e]
        have g9b : v7.heap.size ≤ g9 := by omega
        generalize v7.alloc (.cells #[.string (bs []), .string (bs [])] 57) = v8 at *
        clear g9e
        replace hN := Blk.below hN e10 (Blk.lt hN)
        replace hE := hE.trans e10
        replace cn0 : v8.cell? ⟨g2, 0, none⟩ = some (.string (bs S)) := Blk.cell hN 0
        replace cn1 : v8.cell? ⟨g2, 1, none⟩ = some (.string (bs T)) := Blk.cell hN 1
        replace cnl := Blk.lt hN
        clear e10
        have co0 : v8.cell? ⟨g9, 0, none⟩ = some (.string (bs [])) := Blk.cell hO 0
        have co1 : v8.cell? ⟨g9, 1, none⟩ = some (.string (bs [])) := Blk.cell hO 1
        have col := Blk.lt hO
        cases d2
        · skip
          have HD : Hid (dataP S T = none) := Lib.hid (if_neg (by rw [hd]; simp))
          clear hd
          refine (Data_calls S T (by omega) (by omega) _ (KW.ext hE)).mono ?_; rw [HD.out, twC_none]; rintro e v12 ⟨rfl, e11⟩
          replace hN := Blk.below hN e11 (Blk.lt hN)
          replace hO := Blk.below hO e11 (Blk.lt hO)
          replace hE := hE.trans e11
          replace cn0 : v12.cell? ⟨g2, 0, none⟩ = some (.string (bs S)) := Blk.cell hN 0
          replace cn1 : v12.cell? ⟨g2, 1, none⟩ = some (.string (bs T)) := Blk.cell hN 1
          replace cnl := Blk.lt hN
          replace co0 : v12.cell? ⟨g9, 0, none⟩ = some (.string (bs [])) := Blk.cell hO 0
          replace co1 : v12.cell? ⟨g9, 1, none⟩ = some (.string (bs [])) := Blk.cell hO 1
          replace col := Blk.lt hO
          clear e11
          go_wp2_with fail
          change Calls _ _ _ (v12.alloc (.cells #[.string (bs []), .string (bs [])] 57)) _
          have hP := Blk.new v12 57 #[.string (bs []), .string (bs [])]
          have e15 : Ext v12 (v12.alloc (.cells #[.string (bs []), .string (bs [])] 57)) := (Ext.refl v12).alloc _
          obtain ⟨g14, g14e⟩ : ∃ g14, g14 = v12.heap.size := ⟨_, rfl⟩
          try rw [← v12z]
          try rw [← g14e]
          rw [← g14e] at hP
          have v13z : (v12.alloc (.cells #[.string (bs []), .string (bs [])] 57)).heap.size = g14 + 1 := by rw [alloc_size, ← g14e]
          have g14b : v12.heap.size ≤ g14 := by omega
          generalize v12.alloc (.cells #[.string (bs []), .string (bs [])] 57) = v13 at *
          clear g14e
          replace hN := Blk.below hN e15 (Blk.lt hN)
          replace hO := Blk.below hO e15 (Blk.lt hO)
          replace hE := hE.trans e15
          replace cn0 : v13.cell? ⟨g2, 0, none⟩ = some (.string (bs S)) := Blk.cell hN 0
          replace cn1 : v13.cell? ⟨g2, 1, none⟩ = some (.string (bs T)) := Blk.cell hN 1
          replace cnl := Blk.lt hN
          replace co0 : v13.cell? ⟨g9, 0, none⟩ = some (.string (bs [])) := Blk.cell hO 0
          replace co1 : v13.cell? ⟨g9, 1, none⟩ = some (.string (bs [])) := Blk.cell hO 1
          replace col := Blk.lt hO
          clear e15
          have cp0 : v13.cell? ⟨g14, 0, none⟩ = some (.string (bs [])) := Blk.cell hP 0
          have cp1 : v13.cell? ⟨g14, 1, none⟩ = some (.string (bs [])) := Blk.cell hP 1
          have cpl := Blk.lt hP
          refine (refLeaf_calls S (by omega) _).mono ?_; rw [Hpa.out]; rintro e v17 ⟨rfl, e16⟩
          replace hN := Blk.below hN e16 (Blk.lt hN)
          replace hO := Blk.below hO e16 (Blk.lt hO)
          replace hP := Blk.below hP e16 (Blk.lt hP)
          replace hE := hE.trans e16
          replace cn0 : v17.cell? ⟨g2, 0, none⟩ = some (.string (bs S)) := Blk.cell hN 0
          replace cn1 : v17.cell? ⟨g2, 1, none⟩ = some (.string (bs T)) := Blk.cell hN 1
          replace cnl := Blk.lt hN
          replace co0 : v17.cell? ⟨g9, 0, none⟩ = some (.string (bs [])) := Blk.cell hO 0
          replace co1 : v17.cell? ⟨g9, 1, none⟩ = some (.string (bs [])) := Blk.cell hO 1
          replace col := Blk.lt hO
          replace cp0 : v17.cell? ⟨g14, 0, none⟩ = some (.string (bs [])) := Blk.cell hP 0
          replace cp1 : v17.cell? ⟨g14, 1, none⟩ = some (.string (bs [])) := Blk.cell hP 1
          replace cpl := Blk.lt hP
          clear e16
          go_wp2_with fail
          refine (refLeaf_calls T (by omega) _).mono ?_; rw [Hpb.out]; rintro e v19 ⟨rfl, e18⟩
          replace hN := Blk.below hN e18 (Blk.lt hN)
          replace hO := Blk.below hO e18 (Blk.lt hO)
          replace hP := Blk.below hP e18 (Blk.lt hP)
          replace hE := hE.trans e18
          replace cn0 : v19.cell? ⟨g2, 0, none⟩ = some (.string (bs S)) := Blk.cell hN 0
          replace cn1 : v19.cell? ⟨g2, 1, none⟩ = some (.string (bs T)) := Blk.cell hN 1
          replace cnl := Blk.lt hN
          replace co0 : v19.cell? ⟨g9, 0, none⟩ = some (.string (bs [])) := Blk.cell hO 0
          replace co1 : v19.cell? ⟨g9, 1, none⟩ = some (.string (bs [])) := Blk.cell hO 1
          replace col := Blk.lt hO
          replace cp0 : v19.cell? ⟨g14, 0, none⟩ = some (.string (bs [])) := Blk.cell hP 0
          replace cp1 : v19.cell? ⟨g14, 1, none⟩ = some (.string (bs [])) := Blk.cell hP 1
          replace cpl := Blk.lt hP
          clear e18
          unfold sumV
          go_wp2_with fail
          change Calls _ _ #[twV S T] _ _
          refine (Are_calls S T hSl2 hTl2 _ (KW.ext hE)).mono ?_; rw [HA2.out]; rintro e v21 ⟨rfl, e20⟩
          replace hN := Blk.below hN e20 (Blk.lt hN)
          replace hO := Blk.below hO e20 (Blk.lt hO)
          replace hP := Blk.below hP e20 (Blk.lt hP)
          replace hE := hE.trans e20
          replace cn0 : v21.cell? ⟨g2, 0, none⟩ = some (.string (bs S)) := Blk.cell hN 0
          replace cn1 : v21.cell? ⟨g2, 1, none⟩ = some (.string (bs T)) := Blk.cell hN 1
          replace cnl := Blk.lt hN
          replace co0 : v21.cell? ⟨g9, 0, none⟩ = some (.string (bs [])) := Blk.cell hO 0
          replace co1 : v21.cell? ⟨g9, 1, none⟩ = some (.string (bs [])) := Blk.cell hO 1
          replace col := Blk.lt hO
          replace cp0 : v21.cell? ⟨g14, 0, none⟩ = some (.string (bs [])) := Blk.cell hP 0
          replace cp1 : v21.cell? ⟨g14, 1, none⟩ = some (.string (bs [])) := Blk.cell hP 1
          replace cpl := Blk.lt hP
          clear e20
          go_wp2_with fail
          go_ret
          exact ⟨rfl, hE⟩
        · skip
          have HD : Hid (dataP S T = some (0 :: S, 0 :: T)) := Lib.hid (if_pos hd)
          clear hd
          refine (Data_calls S T (by omega) (by omega) _ (KW.ext hE)).mono ?_; rw [HD.out, twC_some]; rintro e v12 ⟨rfl, e11⟩
          replace hN := Blk.below hN e11 (Blk.lt hN)
          replace hO := Blk.below hO e11 (Blk.lt hO)
          replace hE := hE.trans e11
          replace cn0 : v12.cell? ⟨g2, 0, none⟩ = some (.string (bs S)) := Blk.cell hN 0
          replace cn1 : v12.cell? ⟨g2, 1, none⟩ = some (.string (bs T)) := Blk.cell hN 1
          replace cnl := Blk.lt hN
          replace co0 : v12.cell? ⟨g9, 0, none⟩ = some (.string (bs [])) := Blk.cell hO 0
          replace co1 : v12.cell? ⟨g9, 1, none⟩ = some (.string (bs [])) := Blk.cell hO 1
          replace col := Blk.lt hO
          clear e11
          go_wp2_with fail
          change Calls _ _ _ (v12.alloc (.cells #[.string (bs (0 :: S)), .string (bs (0 :: T))] 57)) _
          have hP := Blk.new v12 57 #[.string (bs (0 :: S)), .string (bs (0 :: T))]
          have e15 : Ext v12 (v12.alloc (.cells #[.string (bs (0 :: S)), .string (bs (0 :: T))] 57)) := (Ext.refl v12).alloc _
          obtain ⟨g14, g14e⟩ : ∃ g14, g14 = v12.heap.size := ⟨_, rfl⟩
          try rw [← v12z]
          try rw [← g14e]
          rw [← g14e] at hP
          have v13z : (v12.alloc (.cells #[.string (bs (0 :: S)), .string (bs (0 :: T))] 57)).heap.size = g14 + 1 := by rw [alloc_size, ← g14e]
          have g14b : v12.heap.size ≤ g14 := by omega
          generalize v12.alloc (.cells #[.string (bs (0 :: S)), .string (bs (0 :: T))] 57) = v13 at *
          clear g14e
          replace hN := Blk.below hN e15 (Blk.lt hN)
          replace hO := Blk.below hO e15 (Blk.lt hO)
          replace hE := hE.trans e15
          replace cn0 : v13.cell? ⟨g2, 0, none⟩ = some (.string (bs S)) := Blk.cell hN 0
          replace cn1 : v13.cell? ⟨g2, 1, none⟩ = some (.string (bs T)) := Blk.cell hN 1
          replace cnl := Blk.lt hN
          replace co0 : v13.cell? ⟨g9, 0, none⟩ = some (.string (bs [])) := Blk.cell hO 0
          replace co1 : v13.cell? ⟨g9, 1, none⟩ = some (.string (bs [])) := Blk.cell hO 1
          replace col := Blk.lt hO
          clear e15
          have cp0 : v13.cell? ⟨g14, 0, none⟩ = some (.string (bs (0 :: S))) := Blk.cell hP 0
          have cp1 : v13.cell? ⟨g14, 1, none⟩ = some (.string (bs (0 :: T))) := Blk.cell hP 1
          have cpl := Blk.lt hP
          refine (refLeaf_calls S (by omega) _).mono ?_; rw [Hpa.out]; rintro e v17 ⟨rfl, e16⟩
          replace hN := Blk.below hN e16 (Blk.lt hN)
          replace hO := Blk.below hO e16 (Blk.lt hO)
          replace hP := Blk.below hP e16 (Blk.lt hP)
          replace hE := hE.trans e16
          replace cn0 : v17.cell? ⟨g2, 0, none⟩ = some (.string (bs S)) := Blk.cell hN 0
          replace cn1 : v17.cell? ⟨g2, 1, none⟩ = some (.string (bs T)) := Blk.cell hN 1
          replace cnl := Blk.lt hN
          replace co0 : v17.cell? ⟨g9, 0, none⟩ = some (.string (bs [])) := Blk.cell hO 0
          replace co1 : v17.cell? ⟨g9, 1, none⟩ = some (.string (bs [])) := Blk.cell hO 1
          replace col := Blk.lt hO
          replace cp0 : v17.cell? ⟨g14, 0, none⟩ = some (.string (bs (0 :: S))) := Blk.cell hP 0
          replace cp1 : v17.cell? ⟨g14, 1, none⟩ = some (.string (bs (0 :: T))) := Blk.cell hP 1
          replace cpl := Blk.lt hP
          clear e16
          go_wp2_with fail
          refine (refLeaf_calls T (by omega) _).mono ?_; rw [Hpb.out]; rintro e v19 ⟨rfl, e18⟩
          replace hN := Blk.below hN e18 (Blk.lt hN)
          replace hO := Blk.below hO e18 (Blk.lt hO)
          replace hP := Blk.below hP e18 (Blk.lt hP)
          replace hE := hE.trans e18
          replace cn0 : v19.cell? ⟨g2, 0, none⟩ = some (.string (bs S)) := Blk.cell hN 0
          replace cn1 : v19.cell? ⟨g2, 1, none⟩ = some (.string (bs T)) := Blk.cell hN 1
          replace cnl := Blk.lt hN
          replace co0 : v19.cell? ⟨g9, 0, none⟩ = some (.string (bs [])) := Blk.cell hO 0
          replace co1 : v19.cell? ⟨g9, 1, none⟩ = some (.string (bs [])) := Blk.cell hO 1
          replace col := Blk.lt hO
          replace cp0 : v19.cell? ⟨g14, 0, none⟩ = some (.string (bs (0 :: S))) := Blk.cell hP 0
          replace cp1 : v19.cell? ⟨g14, 1, none⟩ = some (.string (bs (0 :: T))) := Blk.cell hP 1
          replace cpl := Blk.lt hP
          clear e18
          unfold sumV
          go_wp2_with fail
          change Calls _ _ #[twV S T] _ _
          refine (Are_calls S T hSl2 hTl2 _ (KW.ext hE)).mono ?_; rw [HA2.out]; rintro e v21 ⟨rfl, e20⟩
          replace hN := Blk.below hN e20 (Blk.lt hN)
          replace hO := Blk.below hO e20 (Blk.lt hO)
          replace hP := Blk.below hP e20 (Blk.lt hP)
          replace hE := hE.trans e20
          replace cn0 : v21.cell? ⟨g2, 0, none⟩ = some (.string (bs S)) := Blk.cell hN 0
          replace cn1 : v21.cell? ⟨g2, 1, none⟩ = some (.string (bs T)) := Blk.cell hN 1
          replace cnl := Blk.lt hN
          replace co0 : v21.cell? ⟨g9, 0, none⟩ = some (.string (bs [])) := Blk.cell hO 0
          replace co1 : v21.cell? ⟨g9, 1, none⟩ = some (.string (bs [])) := Blk.cell hO 1
          replace col := Blk.lt hO
          replace cp0 : v21.cell? ⟨g14, 0, none⟩ = some (.string (bs (0 :: S))) := Blk.cell hP 0
          replace cp1 : v21.cell? ⟨g14, 1, none⟩ = some (.string (bs (0 :: T))) := Blk.cell hP 1
          replace cpl := Blk.lt hP
          clear e20
          have k1 : (0 :: S == 0 :: S) = true := by simp
          have k2 : (0 :: T == 0 :: T) = true := by simp
          go_wp2_with fail
          go_ret
          exact ⟨rfl, hE⟩
  · have hsI : ¬ (300 : Int) < (s.length : Int) := by omega
    by_cases ht : 300 < t.length
    · have htI : (300 : Int) < (t.length : Int) := by omega
      go_enter Tryd.func13, Tryd.ntmps13
      go_wp2_with fail
      refine (awake13_calls _ KW).mono ?_; rintro e w1 ⟨rfl, e1⟩
      have hSl : s.length ≤ 300 := by omega
      obtain ⟨S, hS⟩ : ∃ S, S = s := ⟨_, rfl⟩
      rw [← hS] at hSl
      have hTl : (t.take 300).length ≤ 300 := by rw [List.length_take]; omega
      obtain ⟨T, hT⟩ : ∃ T, T = t.take 300 := ⟨_, rfl⟩
      rw [← hT] at hTl
      go_wp2_with (refine stop_dst 25 rfl ?_)
      refine ⟨?_⟩
      rw [← hS, ← hT]
      clear hS hT
      have hSl2 : S.length ≤ 4611686018427380000 := by omega
      have hTl2 : T.length ≤ 4611686018427380000 := by omega
      have hs1 : ¬ (9223372036854775807 < 1 + S.length) := by omega
      have ht1 : ¬ (9223372036854775807 < 1 + T.length) := by omega
      by_cases hST : S = T
      · subst hST
        have hbb : (S == S) = true := by simp
        have HA := Lib.hid (areB_same S)
        have HD : Hid (dataP S S = none) := Lib.hid (if_neg (by rw [areB_same]; simp))
        have hE := e1
        clear e1
        go_wp2_with fail
        change Calls _ _ _ ((w1.alloc (.cells #[.string (bs S), .string (bs S)] 57)).alloc (.cells #[.string (bs []), .string (bs [])] 57)) _
        have hN := Blk.new w1 57 #[.string (bs S), .string (bs S)]
        have e3 : Ext w1 (w1.alloc (.cells #[.string (bs S), .string (bs S)] 57)) := (Ext.refl w1).alloc _
        obtain ⟨g2, g2e⟩ : ∃ g2, g2 = w1.heap.size := ⟨_, rfl⟩
        try rw [← w1z]
        try rw [← g2e]
        rw [← g2e] at hN
        have v1z : (w1.alloc (.cells #[.string (bs S), .string (bs S)] 57)).heap.size = g2 + 1 := by rw [alloc_size, ← g2e]
        have g2b : w1.heap.size ≤ g2 := by omega
        generalize w1.alloc (.cells #[.string (bs S), .string (bs S)] 57) = v1 at *
        clear g2e
        replace hE := hE.trans e3
        clear e3
        have hO := Blk.new v1 57 #[.string (bs []), .string (bs [])]
        have e6 : Ext v1 (v1.alloc (.cells #[.string (bs []), .string (bs [])] 57)) := (Ext.refl v1).alloc _
        obtain ⟨g5, g5e⟩ : ∃ g5, g5 = v1.heap.size := ⟨_, rfl⟩
        try rw [← v1z]
        try rw [← g5e]
        rw [← g5e] at hO
        have v4z : (v1.alloc (.cells #[.string (bs []), .string (bs [])] 57)).heap.size = g5 + 1 := by rw [alloc_size, ← g5e]
        have g5b : v1.heap.size ≤ g5 := by omega
        generalize v1.alloc (.cells #[.string (bs []), .string (bs [])] 57) = v4 at *
        clear g5e
        replace hN := Blk.below hN e6 (Blk.lt hN)
        replace hE := hE.trans e6
        clear e6
        try rw [show ((.string ⟨#[]⟩ : Value)) = .string (bs []) from rfl]
        have cn0 : v4.cell? ⟨g2, 0, none⟩ = some (.string (bs S)) := Blk.cell hN 0
        have cn1 : v4.cell? ⟨g2, 1, none⟩ = some (.string (bs S)) := Blk.cell hN 1
        have cnl := Blk.lt hN
        have co0 : v4.cell? ⟨g5, 0, none⟩ = some (.string (bs [])) := Blk.cell hO 0
        have co1 : v4.cell? ⟨g5, 1, none⟩ = some (.string (bs [])) := Blk.cell hO 1
        have col := Blk.lt hO
        refine (Data_calls S S (by omega) (by omega) _ (KW.ext hE)).mono ?_; rw [HD.out, twC_none]; rintro e v8 ⟨rfl, e7⟩
        replace hN := Blk.below hN e7 (Blk.lt hN)
        replace hO := Blk.below hO e7 (Blk.lt hO)
        replace hE := hE.trans e7
        replace cn0 : v8.cell? ⟨g2, 0, none⟩ = some (.string (bs S)) := Blk.cell hN 0
        replace cn1 : v8.cell? ⟨g2, 1, none⟩ = some (.string (bs S)) := Blk.cell hN 1
        replace cnl := Blk.lt hN
        replace co0 : v8.cell? ⟨g5, 0, none⟩ = some (.string (bs [])) := Blk.cell hO 0
        replace co1 : v8.cell? ⟨g5, 1, none⟩ = some (.string (bs [])) := Blk.cell hO 1
        replace col := Blk.lt hO
        clear e7
        go_wp2_with fail
        change Calls _ _ #[twV S S] (v8.alloc (.cells #[.string (bs []), .string (bs [])] 57)) _
        have hP := Blk.new v8 57 #[.string (bs []), .string (bs [])]
        have e11 : Ext v8 (v8.alloc (.cells #[.string (bs []), .string (bs [])] 57)) := (Ext.refl v8).alloc _
        obtain ⟨g10, g10e⟩ : ∃ g10, g10 = v8.heap.size := ⟨_, rfl⟩
        try rw [← v8z]
        try rw [← g10e]
        rw [← g10e] at hP
        have v9z : (v8.alloc (.cells #[.string (bs []), .string (bs [])] 57)).heap.size = g10 + 1 := by rw [alloc_size, ← g10e]
        have g10b : v8.heap.size ≤ g10 := by omega
        generalize v8.alloc (.cells #[.string (bs []), .string (bs [])] 57) = v9 at *
        clear g10e
        replace hN := Blk.below hN e11 (Blk.lt hN)
        replace hO := Blk.below hO e11 (Blk.lt hO)
        replace hE := hE.trans e11
        replace cn0 : v9.cell? ⟨g2, 0, none⟩ = some (.string (bs S)) := Blk.cell hN 0
        replace cn1 : v9.cell? ⟨g2, 1, none⟩ = some (.string (bs S)) := Blk.cell hN 1
        replace cnl := Blk.lt hN
        replace co0 : v9.cell? ⟨g5, 0, none⟩ = some (.string (bs [])) := Blk.cell hO 0
        replace co1 : v9.cell? ⟨g5, 1, none⟩ = some (.string (bs [])) := Blk.cell hO 1
        replace col := Blk.lt hO
        clear e11
        have cp0 : v9.cell? ⟨g10, 0, none⟩ = some (.string (bs [])) := Blk.cell hP 0
        have cp1 : v9.cell? ⟨g10, 1, none⟩ = some (.string (bs [])) := Blk.cell hP 1
        have cpl := Blk.lt hP
        refine (Are_calls S S hSl2 hSl2 _ (KW.ext hE)).mono ?_; rw [HA.out]; rintro e v13 ⟨rfl, e12⟩
        replace hN := Blk.below hN e12 (Blk.lt hN)
        replace hO := Blk.below hO e12 (Blk.lt hO)
        replace hP := Blk.below hP e12 (Blk.lt hP)
        replace hE := hE.trans e12
        replace cn0 : v13.cell? ⟨g2, 0, none⟩ = some (.string (bs S)) := Blk.cell hN 0
        replace cn1 : v13.cell? ⟨g2, 1, none⟩ = some (.string (bs S)) := Blk.cell hN 1
        replace cnl := Blk.lt hN
        replace co0 : v13.cell? ⟨g5, 0, none⟩ = some (.string (bs [])) := Blk.cell hO 0
        replace co1 : v13.cell? ⟨g5, 1, none⟩ = some (.string (bs [])) := Blk.cell hO 1
        replace col := Blk.lt hO
        replace cp0 : v13.cell? ⟨g10, 0, none⟩ = some (.string (bs [])) := Blk.cell hP 0
        replace cp1 : v13.cell? ⟨g10, 1, none⟩ = some (.string (bs [])) := Blk.cell hP 1
        replace cpl := Blk.lt hP
        clear e12
        go_wp2_with fail
        go_ret
        exact ⟨rfl, hE⟩
      · skip
        have hbb : (S == T) = false := by rw [beq_eq_false_iff_ne]; exact hST
        have HA := Lib.hid (are_ne S T hST)
        have hd := data_ne S T hST
        have hE := e1
        clear e1
        obtain ⟨d1, hd1⟩ : ∃ d1, d1 = decide (shaOf S = shaOf T) := ⟨_, rfl⟩
        obtain ⟨d2, hd2⟩ : ∃ d2, d2 = decide (leafB S = leafB T) := ⟨_, rfl⟩
        have heq1 := fun w : World => eq_sum (shaOf S) (shaOf T) (shaOf_length S) (shaOf_length T) w
        have heq2 := fun w : World => eq_sum (leafB S) (leafB T) (leafB_length S) (leafB_length T) w
        rw [← hd1] at HA heq1
        rw [← hd2] at hd heq2
        have HA2 := HA
        clear hd1 hd2 HA
        generalize hpa : leafB S = pa at *
        generalize hpb : leafB T = pb at *
        have Hpa := Lib.hid hpa
        have Hpb := Lib.hid hpb
        clear hpa hpb
        go_wp2_with fail
        change Calls _ _ _ (w1.alloc (.cells #[.string (bs S), .string (bs T)] 57)) _
        have hN := Blk.new w1 57 #[.string (bs S), .string (bs T)]
        have e3 : Ext w1 (w1.alloc (.cells #[.string (bs S), .string (bs T)] 57)) := (Ext.refl w1).alloc _
        obtain ⟨g2, g2e⟩ : ∃ g2, g2 = w1.heap.size := ⟨_, rfl⟩
        try rw [← w1z]
        try rw [← g2e]
        rw [← g2e] at hN
        have v1z : (w1.alloc (.cells #[.string (bs S), .string (bs T)] 57)).heap.size = g2 + 1 := by rw [alloc_size, ← g2e]
        have g2b : w1.heap.size ≤ g2 := by omega
        generalize w1.alloc (.cells #[.string (bs S), .string (bs T)] 57) = v1 at *
        clear g2e
        replace hE := hE.trans e3
        clear e3
        have cn0 : v1.cell? ⟨g2, 0, none⟩ = some (.string (bs S)) := Blk.cell hN 0
        have cn1 : v1.cell? ⟨g2, 1, none⟩ = some (.string (bs T)) := Blk.cell hN 1
        have cnl := Blk.lt hN
        refine (refOf_calls S _ (by omega)).mono ?_; rintro e v5 ⟨rfl, e4⟩
        replace hN := Blk.below hN e4 (Blk.lt hN)
        replace hE := hE.trans e4
        replace cn0 : v5.cell? ⟨g2, 0, none⟩ = some (.string (bs S)) := Blk.cell hN 0
        replace cn1 : v5.cell? ⟨g2, 1, none⟩ = some (.string (bs T)) := Blk.cell hN 1
        replace cnl := Blk.lt hN
        clear e4
        go_wp2_with fail
        refine (refOf_calls T _ (by omega)).mono ?_; rintro e v7 ⟨rfl, e6⟩
        replace hN := Blk.below hN e6 (Blk.lt hN)
        replace hE := hE.trans e6
        replace cn0 : v7.cell? ⟨g2, 0, none⟩ = some (.string (bs S)) := Blk.cell hN 0
        replace cn1 : v7.cell? ⟨g2, 1, none⟩ = some (.string (bs T)) := Blk.cell hN 1
        replace cnl := Blk.lt hN
        clear e6
        unfold sumV
        go_wp2_with fail
        change Calls _ _ _ (v7.alloc (.cells #[.string (bs []), .string (bs [])] 57)) _
        have hO := Blk.new v7 57 #[.string (bs []), .string (bs [])]
        have e10 : Ext v7 (v7.alloc (.cells #[.string (bs []), .string (bs [])] 57)) := (Ext.refl v7).alloc _
        obtain ⟨g9, g9e⟩ : ∃ g9, g9 = v7.heap.size := ⟨_, rfl⟩
        try rw [← v7z]
        try rw [← g9e]
        rw [← g9e] at hO
        have v8z : (v7.alloc (.cells #[.string (bs []), .string (bs [])] 57)).heap.size = g9 + 1 := by rw [alloc_size, ← g9e]
        have g9b : v7.heap.size ≤ g9 := by omega
        generalize v7.alloc (.cells #[.string (bs []), .string (bs [])] 57) = v8 at *
        clear g9e
        replace hN := Blk.below hN e10 (Blk.lt hN)
        replace hE := hE.trans e10
        replace cn0 : v8.cell? ⟨g2, 0, none⟩ = some (.string (bs S)) := Blk.cell hN 0
        replace cn1 : v8.cell? ⟨g2, 1, none⟩ = some (.string (bs T)) := Blk.cell hN 1
        replace cnl := Blk.lt hN
        clear e10
        have co0 : v8.cell? ⟨g9, 0, none⟩ = some (.string (bs [])) := Blk.cell hO 0
        have co1 : v8.cell? ⟨g9, 1, none⟩ = some (.string (bs [])) := Blk.cell hO 1
        have col := Blk.lt hO
        cases d2
        · skip
          have HD : Hid (dataP S T = none) := Lib.hid (if_neg (by rw [hd]; simp))
          clear hd
          refine (Data_calls S T (by omega) (by omega) _ (KW.ext hE)).mono ?_; rw [HD.out, twC_none]; rintro e v12 ⟨rfl, e11⟩
          replace hN := Blk.below hN e11 (Blk.lt hN)
          replace hO := Blk.below hO e11 (Blk.lt hO)
          replace hE := hE.trans e11
          replace cn0 : v12.cell? ⟨g2, 0, none⟩ = some (.string (bs S)) := Blk.cell hN 0
          replace cn1 : v12.cell? ⟨g2, 1, none⟩ = some (.string (bs T)) := Blk.cell hN 1
          replace cnl := Blk.lt hN
          replace co0 : v12.cell? ⟨g9, 0, none⟩ = some (.string (bs [])) := Blk.cell hO 0
          replace co1 : v12.cell? ⟨g9, 1, none⟩ = some (.string (bs [])) := Blk.cell hO 1
          replace col := Blk.lt hO
          clear e11
          go_wp2_with fail
          change Calls _ _ _ (v12.alloc (.cells #[.string (bs []), .string (bs [])] 57)) _
          have hP := Blk.new v12 57 #[.string (bs []), .string (bs [])]
          have e15 : Ext v12 (v12.alloc (.cells #[.string (bs []), .string (bs [])] 57)) := (Ext.refl v12).alloc _
          obtain ⟨g14, g14e⟩ : ∃ g14, g14 = v12.heap.size := ⟨_, rfl⟩
          try rw [← v12z]
          try rw [← g14e]
          rw [← g14e] at hP
          have v13z : (v12.alloc (.cells #[.string (bs []), .string (bs [])] 57)).heap.size = g14 + 1 := by rw [alloc_size, ← g14e]
          have g14b : v12.heap.size ≤ g14 := by omega
          generalize v12.alloc (.cells #[.string (bs []), .string (bs [])] 57) = v13 at *
          clear g14e
          replace hN := Blk.below hN e15 (Blk.lt hN)
          replace hO := Blk.below hO e15 (Blk.lt hO)
          replace hE := hE.trans e15
          replace cn0 : v13.cell? ⟨g2, 0, none⟩ = some (.string (bs S)) := Blk.cell hN 0
          replace cn1 : v13.cell? ⟨g2, 1, none⟩ = some (.string (bs T)) := Blk.cell hN 1
          replace cnl := Blk.lt hN
          replace co0 : v13.cell? ⟨g9, 0, none⟩ = some (.string (bs [])) := Blk.cell hO 0
          replace co1 : v13.cell? ⟨g9, 1, none⟩ = some (.string (bs [])) := Blk.cell hO 1
          replace col := Blk.lt hO
          clear e15
          have cp0 : v13.cell? ⟨g14, 0, none⟩ = some (.string (bs [])) := Blk.cell hP 0
          have cp1 : v13.cell? ⟨g14, 1, none⟩ = some (.string (bs [])) := Blk.cell hP 1
          have cpl := Blk.lt hP
          refine (refLeaf_calls S (by omega) _).mono ?_; rw [Hpa.out]; rintro e v17 ⟨rfl, e16⟩
          replace hN := Blk.below hN e16 (Blk.lt hN)
          replace hO := Blk.below hO e16 (Blk.lt hO)
          replace hP := Blk.below hP e16 (Blk.lt hP)
          replace hE := hE.trans e16
          replace cn0 : v17.cell? ⟨g2, 0, none⟩ = some (.string (bs S)) := Blk.cell hN 0
          replace cn1 : v17.cell? ⟨g2, 1, none⟩ = some (.string (bs T)) := Blk.cell hN 1
          replace cnl := Blk.lt hN
          replace co0 : v17.cell? ⟨g9, 0, none⟩ = some (.string (bs [])) := Blk.cell hO 0
          replace co1 : v17.cell? ⟨g9, 1, none⟩ = some (.string (bs [])) := Blk.cell hO 1
          replace col := Blk.lt hO
          replace cp0 : v17.cell? ⟨g14, 0, none⟩ = some (.string (bs [])) := Blk.cell hP 0
          replace cp1 : v17.cell? ⟨g14, 1, none⟩ = some (.string (bs [])) := Blk.cell hP 1
          replace cpl := Blk.lt hP
          clear e16
          go_wp2_with fail
          refine (refLeaf_calls T (by omega) _).mono ?_; rw [Hpb.out]; rintro e v19 ⟨rfl, e18⟩
          replace hN := Blk.below hN e18 (Blk.lt hN)
          replace hO := Blk.below hO e18 (Blk.lt hO)
          replace hP := Blk.below hP e18 (Blk.lt hP)
          replace hE := hE.trans e18
          replace cn0 : v19.cell? ⟨g2, 0, none⟩ = some (.string (bs S)) := Blk.cell hN 0
          replace cn1 : v19.cell? ⟨g2, 1, none⟩ = some (.string (bs T)) := Blk.cell hN 1
          replace cnl := Blk.lt hN
          replace co0 : v19.cell? ⟨g9, 0, none⟩ = some (.string (bs [])) := Blk.cell hO 0
          replace co1 : v19.cell? ⟨g9, 1, none⟩ = some (.string (bs [])) := Blk.cell hO 1
          replace col := Blk.lt hO
          replace cp0 : v19.cell? ⟨g14, 0, none⟩ = some (.string (bs [])) := Blk.cell hP 0
          replace cp1 : v19.cell? ⟨g14, 1, none⟩ = some (.string (bs [])) := Blk.cell hP 1
          replace cpl := Blk.lt hP
          clear e18
          unfold sumV
          go_wp2_with fail
          change Calls _ _ #[twV S T] _ _
          refine (Are_calls S T hSl2 hTl2 _ (KW.ext hE)).mono ?_; rw [HA2.out]; rintro e v21 ⟨rfl, e20⟩
          replace hN := Blk.below hN e20 (Blk.lt hN)
          replace hO := Blk.below hO e20 (Blk.lt hO)
          replace hP := Blk.below hP e20 (Blk.lt hP)
          replace hE := hE.trans e20
          replace cn0 : v21.cell? ⟨g2, 0, none⟩ = some (.string (bs S)) := Blk.cell hN 0
          replace cn1 : v21.cell? ⟨g2, 1, none⟩ = some (.string (bs T)) := Blk.cell hN 1
          replace cnl := Blk.lt hN
          replace co0 : v21.cell? ⟨g9, 0, none⟩ = some (.string (bs [])) := Blk.cell hO 0
          replace co1 : v21.cell? ⟨g9, 1, none⟩ = some (.string (bs [])) := Blk.cell hO 1
          replace col := Blk.lt hO
          replace cp0 : v21.cell? ⟨g14, 0, none⟩ = some (.string (bs [])) := Blk.cell hP 0
          replace cp1 : v21.cell? ⟨g14, 1, none⟩ = some (.string (bs [])) := Blk.cell hP 1
          replace cpl := Blk.lt hP
          clear e20
          go_wp2_with fail
          go_ret
          exact ⟨rfl, hE⟩
        · skip
          have HD : Hid (dataP S T = some (0 :: S, 0 :: T)) := Lib.hid (if_pos hd)
          clear hd
          refine (Data_calls S T (by omega) (by omega) _ (KW.ext hE)).mono ?_; rw [HD.out, twC_some]; rintro e v12 ⟨rfl, e11⟩
          replace hN := Blk.below hN e11 (Blk.lt hN)
          replace hO := Blk.below hO e11 (Blk.lt hO)
          replace hE := hE.trans e11
          replace cn0 : v12.cell? ⟨g2, 0, none⟩ = some (.string (bs S)) := Blk.cell hN 0
          replace cn1 : v12.cell? ⟨g2, 1, none⟩ = some (.string (bs T)) := Blk.cell hN 1
          replace cnl := Blk.lt hN
          replace co0 : v12.cell? ⟨g9, 0, none⟩ = some (.string (bs [])) := Blk.cell hO 0
          replace co1 : v12.cell? ⟨g9, 1, none⟩ = some (.string (bs [])) := Blk.cell hO 1
          replace col := Blk.lt hO
          clear e11
          go_wp2_with fail
          change Calls _ _ _ (v12.alloc (.cells #[.string (bs (0 :: S)), .string (bs (0 :: T))] 57)) _
          have hP := Blk.new v12 57 #[.string (bs (0 :: S)), .string (bs (0 :: T))]
          have e15 : Ext v12 (v12.alloc (.cells #[.string (bs (0 :: S)), .string (bs (0 :: T))] 57)) := (Ext.refl v12).alloc _
          obtain ⟨g14, g14e⟩ : ∃ g14, g14 = v12.heap.size := ⟨_, rfl⟩
          try rw [← v12z]
          try rw [← g14e]
          rw [← g14e] at hP
          have v13z : (v12.alloc (.cells #[.string (bs (0 :: S)), .string (bs (0 :: T))] 57)).heap.size = g14 + 1 := by rw [alloc_size, ← g14e]
          have g14b : v12.heap.size ≤ g14 := by omega
          generalize v12.alloc (.cells #[.string (bs (0 :: S)), .string (bs (0 :: T))] 57) = v13 at *
          clear g14e
          replace hN := Blk.below hN e15 (Blk.lt hN)
          replace hO := Blk.below hO e15 (Blk.lt hO)
          replace hE := hE.trans e15
          replace cn0 : v13.cell? ⟨g2, 0, none⟩ = some (.string (bs S)) := Blk.cell hN 0
          replace cn1 : v13.cell? ⟨g2, 1, none⟩ = some (.string (bs T)) := Blk.cell hN 1
          replace cnl := Blk.lt hN
          replace co0 : v13.cell? ⟨g9, 0, none⟩ = some (.string (bs [])) := Blk.cell hO 0
          replace co1 : v13.cell? ⟨g9, 1, none⟩ = some (.string (bs [])) := Blk.cell hO 1
          replace col := Blk.lt hO
          clear e15
          have cp0 : v13.cell? ⟨g14, 0, none⟩ = some (.string (bs (0 :: S))) := Blk.cell hP 0
          have cp1 : v13.cell? ⟨g14, 1, none⟩ = some (.string (bs (0 :: T))) := Blk.cell hP 1
          have cpl := Blk.lt hP
          refine (refLeaf_calls S (by omega) _).mono ?_; rw [Hpa.out]; rintro e v17 ⟨rfl, e16⟩
          replace hN := Blk.below hN e16 (Blk.lt hN)
          replace hO := Blk.below hO e16 (Blk.lt hO)
          replace hP := Blk.below hP e16 (Blk.lt hP)
          replace hE := hE.trans e16
          replace cn0 : v17.cell? ⟨g2, 0, none⟩ = some (.string (bs S)) := Blk.cell hN 0
          replace cn1 : v17.cell? ⟨g2, 1, none⟩ = some (.string (bs T)) := Blk.cell hN 1
          replace cnl := Blk.lt hN
          replace co0 : v17.cell? ⟨g9, 0, none⟩ = some (.string (bs [])) := Blk.cell hO 0
          replace co1 : v17.cell? ⟨g9, 1, none⟩ = some (.string (bs [])) := Blk.cell hO 1
          replace col := Blk.lt hO
          replace cp0 : v17.cell? ⟨g14, 0, none⟩ = some (.string (bs (0 :: S))) := Blk.cell hP 0
          replace cp1 : v17.cell? ⟨g14, 1, none⟩ = some (.string (bs (0 :: T))) := Blk.cell hP 1
          replace cpl := Blk.lt hP
          clear e16
          go_wp2_with fail
          refine (refLeaf_calls T (by omega) _).mono ?_; rw [Hpb.out]; rintro e v19 ⟨rfl, e18⟩
          replace hN := Blk.below hN e18 (Blk.lt hN)
          replace hO := Blk.below hO e18 (Blk.lt hO)
          replace hP := Blk.below hP e18 (Blk.lt hP)
          replace hE := hE.trans e18
          replace cn0 : v19.cell? ⟨g2, 0, none⟩ = some (.string (bs S)) := Blk.cell hN 0
          replace cn1 : v19.cell? ⟨g2, 1, none⟩ = some (.string (bs T)) := Blk.cell hN 1
          replace cnl := Blk.lt hN
          replace co0 : v19.cell? ⟨g9, 0, none⟩ = some (.string (bs [])) := Blk.cell hO 0
          replace co1 : v19.cell? ⟨g9, 1, none⟩ = some (.string (bs [])) := Blk.cell hO 1
          replace col := Blk.lt hO
          replace cp0 : v19.cell? ⟨g14, 0, none⟩ = some (.string (bs (0 :: S))) := Blk.cell hP 0
          replace cp1 : v19.cell? ⟨g14, 1, none⟩ = some (.string (bs (0 :: T))) := Blk.cell hP 1
          replace cpl := Blk.lt hP
          clear e18
          unfold sumV
          go_wp2_with fail
          change Calls _ _ #[twV S T] _ _
          refine (Are_calls S T hSl2 hTl2 _ (KW.ext hE)).mono ?_; rw [HA2.out]; rintro e v21 ⟨rfl, e20⟩
          replace hN := Blk.below hN e20 (Blk.lt hN)
          replace hO := Blk.below hO e20 (Blk.lt hO)
          replace hP := Blk.below hP e20 (Blk.lt hP)
          replace hE := hE.trans e20
          replace cn0 : v21.cell? ⟨g2, 0, none⟩ = some (.string (bs S)) := Blk.cell hN 0
          replace cn1 : v21.cell? ⟨g2, 1, none⟩ = some (.string (bs T)) := Blk.cell hN 1
          replace cnl := Blk.lt hN
          replace co0 : v21.cell? ⟨g9, 0, none⟩ = some (.string (bs [])) := Blk.cell hO 0
          replace co1 : v21.cell? ⟨g9, 1, none⟩ = some (.string (bs [])) := Blk.cell hO 1
          replace col := Blk.lt hO
          replace cp0 : v21.cell? ⟨g14, 0, none⟩ = some (.string (bs (0 :: S))) := Blk.cell hP 0
          replace cp1 : v21.cell? ⟨g14, 1, none⟩ = some (.string (bs (0 :: T))) := Blk.cell hP 1
          replace cpl := Blk.lt hP
          clear e20
          have k1 : (0 :: S == 0 :: S) = true := by simp
          have k2 : (0 :: T == 0 :: T) = true := by simp
          go_wp2_with fail
          go_ret
          exact ⟨rfl, hE⟩
    · have htI : ¬ (300 : Int) < (t.length : Int) := by omega
      go_enter Tryd.func13, Tryd.ntmps13
      go_wp2_with fail
      refine (awake13_calls _ KW).mono ?_; rintro e w1 ⟨rfl, e1⟩
      have hSl : s.length ≤ 300 := by omega
      obtain ⟨S, hS⟩ : ∃ S, S = s := ⟨_, rfl⟩
      rw [← hS] at hSl
      have hTl : t.length ≤ 300 := by omega
      obtain ⟨T, hT⟩ : ∃ T, T = t := ⟨_, rfl⟩
      rw [← hT] at hTl
      go_wp2_with (refine stop_dst 25 rfl ?_)
      refine ⟨?_⟩
      rw [← hS, ← hT]
      clear hS hT
      have hSl2 : S.length ≤ 4611686018427380000 := by omega
      have hTl2 : T.length ≤ 4611686018427380000 := by omega
      have hs1 : ¬ (9223372036854775807 < 1 + S.length) := by omega
      have ht1 : ¬ (9223372036854775807 < 1 + T.length) := by omega
      by_cases hST : S = T
      · subst hST
        have hbb : (S == S) = true := by simp
        have HA := Lib.hid (areB_same S)
        have HD : Hid (dataP S S = none) := Lib.hid (if_neg (by rw [areB_same]; simp))
        have hE := e1
        clear e1
        go_wp2_with fail
        change Calls _ _ _ ((w1.alloc (.cells #[.string (bs S), .string (bs S)] 57)).alloc (.cells #[.string (bs []), .string (bs [])] 57)) _
        have hN := Blk.new w1 57 #[.string (bs S), .string (bs S)]
        have e3 : Ext w1 (w1.alloc (.cells #[.string (bs S), .string (bs S)] 57)) := (Ext.refl w1).alloc _
        obtain ⟨g2, g2e⟩ : ∃ g2, g2 = w1.heap.size := ⟨_, rfl⟩
        try rw [← w1z]
        try rw [← g2e]
        rw [← g2e] at hN
        have v1z : (w1.alloc (.cells #[.string (bs S), .string (bs S)] 57)).heap.size = g2 + 1 := by rw [alloc_size, ← g2e]
        have g2b : w1.heap.size ≤ g2 := by omega
        generalize w1.alloc (.cells #[.string (bs S), .string (bs S)] 57) = v1 at *
        clear g2e
        replace hE := hE.trans e3
        clear e3
        have hO := Blk.new v1 57 #[.string (bs []), .string (bs [])]
        have e6 : Ext v1 (v1.alloc (.cells #[.string (bs []), .string (bs [])] 57)) := (Ext.refl v1).alloc _
        obtain ⟨g5, g5e⟩ : ∃ g5, g5 = v1.heap.size := ⟨_, rfl⟩
        try rw [← v1z]
        try rw [← g5e]
        rw [← g5e] at hO
        have v4z : (v1.alloc (.cells #[.string (bs []), .string (bs [])] 57)).heap.size = g5 + 1 := by rw [alloc_size, ← g5e]
        have g5b : v1.heap.size ≤ g5 := by omega
        generalize v1.alloc (.cells #[.string (bs []), .string (bs [])] 57) = v4 at *
        clear g5e
        replace hN := Blk.below hN e6 (Blk.lt hN)
        replace hE := hE.trans e6
        clear e6
        try rw [show ((.string ⟨#[]⟩ : Value)) = .string (bs []) from rfl]
        have cn0 : v4.cell? ⟨g2, 0, none⟩ = some (.string (bs S)) := Blk.cell hN 0
        have cn1 : v4.cell? ⟨g2, 1, none⟩ = some (.string (bs S)) := Blk.cell hN 1
        have cnl := Blk.lt hN
        have co0 : v4.cell? ⟨g5, 0, none⟩ = some (.string (bs [])) := Blk.cell hO 0
        have co1 : v4.cell? ⟨g5, 1, none⟩ = some (.string (bs [])) := Blk.cell hO 1
        have col := Blk.lt hO
        refine (Data_calls S S (by omega) (by omega) _ (KW.ext hE)).mono ?_; rw [HD.out, twC_none]; rintro e v8 ⟨rfl, e7⟩
        replace hN := Blk.below hN e7 (Blk.lt hN)
        replace hO := Blk.below hO e7 (Blk.lt hO)
        replace hE := hE.trans e7
        replace cn0 : v8.cell? ⟨g2, 0, none⟩ = some (.string (bs S)) := Blk.cell hN 0
        replace cn1 : v8.cell? ⟨g2, 1, none⟩ = some (.string (bs S)) := Blk.cell hN 1
        replace cnl := Blk.lt hN
        replace co0 : v8.cell? ⟨g5, 0, none⟩ = some (.string (bs [])) := Blk.cell hO 0
        replace co1 : v8.cell? ⟨g5, 1, none⟩ = some (.string (bs [])) := Blk.cell hO 1
        replace col := Blk.lt hO
        clear e7
        go_wp2_with fail
        change Calls _ _ #[twV S S] (v8.alloc (.cells #[.string (bs []), .string (bs [])] 57)) _
        have hP := Blk.new v8 57 #[.string (bs []), .string (bs [])]
        have e11 : Ext v8 (v8.alloc (.cells #[.string (bs []), .string (bs [])] 57)) := (Ext.refl v8).alloc _
        obtain ⟨g10, g10e⟩ : ∃ g10, g10 = v8.heap.size := ⟨_, rfl⟩
        try rw [← v8z]
        try rw [← g10e]
        rw [← g10e] at hP
        have v9z : (v8.alloc (.cells #[.string (bs []), .string (bs [])] 57)).heap.size = g10 + 1 := by rw [alloc_size, ← g10e]
        have g10b : v8.heap.size ≤ g10 := by omega
        generalize v8.alloc (.cells #[.string (bs []), .string (bs [])] 57) = v9 at *
        clear g10e
        replace hN := Blk.below hN e11 (Blk.lt hN)
        replace hO := Blk.below hO e11 (Blk.lt hO)
        replace hE := hE.trans e11
        replace cn0 : v9.cell? ⟨g2, 0, none⟩ = some (.string (bs S)) := Blk.cell hN 0
        replace cn1 : v9.cell? ⟨g2, 1, none⟩ = some (.string (bs S)) := Blk.cell hN 1
        replace cnl := Blk.lt hN
        replace co0 : v9.cell? ⟨g5, 0, none⟩ = some (.string (bs [])) := Blk.cell hO 0
        replace co1 : v9.cell? ⟨g5, 1, none⟩ = some (.string (bs [])) := Blk.cell hO 1
        replace col := Blk.lt hO
        clear e11
        have cp0 : v9.cell? ⟨g10, 0, none⟩ = some (.string (bs [])) := Blk.cell hP 0
        have cp1 : v9.cell? ⟨g10, 1, none⟩ = some (.string (bs [])) := Blk.cell hP 1
        have cpl := Blk.lt hP
        refine (Are_calls S S hSl2 hSl2 _ (KW.ext hE)).mono ?_; rw [HA.out]; rintro e v13 ⟨rfl, e12⟩
        replace hN := Blk.below hN e12 (Blk.lt hN)
        replace hO := Blk.below hO e12 (Blk.lt hO)
        replace hP := Blk.below hP e12 (Blk.lt hP)
        replace hE := hE.trans e12
        replace cn0 : v13.cell? ⟨g2, 0, none⟩ = some (.string (bs S)) := Blk.cell hN 0
        replace cn1 : v13.cell? ⟨g2, 1, none⟩ = some (.string (bs S)) := Blk.cell hN 1
        replace cnl := Blk.lt hN
        replace co0 : v13.cell? ⟨g5, 0, none⟩ = some (.string (bs [])) := Blk.cell hO 0
        replace co1 : v13.cell? ⟨g5, 1, none⟩ = some (.string (bs [])) := Blk.cell hO 1
        replace col := Blk.lt hO
        replace cp0 : v13.cell? ⟨g10, 0, none⟩ = some (.string (bs [])) := Blk.cell hP 0
        replace cp1 : v13.cell? ⟨g10, 1, none⟩ = some (.string (bs [])) := Blk.cell hP 1
        replace cpl := Blk.lt hP
        clear e12
        go_wp2_with fail
        go_ret
        exact ⟨rfl, hE⟩
      · skip
        have hbb : (S == T) = false := by rw [beq_eq_false_iff_ne]; exact hST
        have HA := Lib.hid (are_ne S T hST)
        have hd := data_ne S T hST
        have hE := e1
        clear e1
        obtain ⟨d1, hd1⟩ : ∃ d1, d1 = decide (shaOf S = shaOf T) := ⟨_, rfl⟩
        obtain ⟨d2, hd2⟩ : ∃ d2, d2 = decide (leafB S = leafB T) := ⟨_, rfl⟩
        have heq1 := fun w : World => eq_sum (shaOf S) (shaOf T) (shaOf_length S) (shaOf_length T) w
        have heq2 := fun w : World => eq_sum (leafB S) (leafB T) (leafB_length S) (leafB_length T) w
        rw [← hd1] at HA heq1
        rw [← hd2] at hd heq2
        have HA2 := HA
        clear hd1 hd2 HA
        generalize hpa : leafB S = pa at *
        generalize hpb : leafB T = pb at *
        have Hpa := Lib.hid hpa
        have Hpb := Lib.hid hpb
        clear hpa hpb
        go_wp2_with fail
        change Calls _ _ _ (w1.alloc (.cells #[.string (bs S), .string (bs T)] 57)) _
        have hN := Blk.new w1 57 #[.string (bs S), .string (bs T)]
        have e3 : Ext w1 (w1.alloc (.cells #[.string (bs S), .string (bs T)] 57)) := (Ext.refl w1).alloc _
        obtain ⟨g2, g2e⟩ : ∃ g2, g2 = w1.heap.size := ⟨_, rfl⟩
        try rw [← w1z]
        try rw [← g2e]
        rw [← g2e] at hN
        have v1z : (w1.alloc (.cells #[.string (bs S), .string (bs T)] 57)).heap.size = g2 + 1 := by rw [alloc_size, ← g2e]
        have g2b : w1.heap.size ≤ g2 := by omega
        generalize w1.alloc (.cells #[.string (bs S), .string (bs T)] 57) = v1 at *
        clear g2e
        replace hE := hE.trans e3
        clear e3
        have cn0 : v1.cell? ⟨g2, 0, none⟩ = some (.string (bs S)) := Blk.cell hN 0
        have cn1 : v1.cell? ⟨g2, 1, none⟩ = some (.string (bs T)) := Blk.cell hN 1
        have cnl := Blk.lt hN
        refine (refOf_calls S _ (by omega)).mono ?_; rintro e v5 ⟨rfl, e4⟩
        replace hN := Blk.below hN e4 (Blk.lt hN)
        replace hE := hE.trans e4
        replace cn0 : v5.cell? ⟨g2, 0, none⟩ = some (.string (bs S)) := Blk.cell hN 0
        replace cn1 : v5.cell? ⟨g2, 1, none⟩ = some (.string (bs T)) := Blk.cell hN 1
        replace cnl := Blk.lt hN
        clear e4
        go_wp2_with fail
        refine (refOf_calls T _ (by omega)).mono ?_; rintro e v7 ⟨rfl, e6⟩
        replace hN := Blk.below hN e6 (Blk.lt hN)
        replace hE := hE.trans e6
        replace cn0 : v7.cell? ⟨g2, 0, none⟩ = some (.string (bs S)) := Blk.cell hN 0
        replace cn1 : v7.cell? ⟨g2, 1, none⟩ = some (.string (bs T)) := Blk.cell hN 1
        replace cnl := Blk.lt hN
        clear e6
        unfold sumV
        go_wp2_with fail
        change Calls _ _ _ (v7.alloc (.cells #[.string (bs []), .string (bs [])] 57)) _
        have hO := Blk.new v7 57 #[.string (bs []), .string (bs [])]
        have e10 : Ext v7 (v7.alloc (.cells #[.string (bs []), .string (bs [])] 57)) := (Ext.refl v7).alloc _
        obtain ⟨g9, g9e⟩ : ∃ g9, g9 = v7.heap.size := ⟨_, rfl⟩
        try rw [← v7z]
        try rw [← g9e]
        rw [← g9e] at hO
        have v8z : (v7.alloc (.cells #[.string (bs []), .string (bs [])] 57)).heap.size = g9 + 1 := by rw [alloc_size, ← g9e]
        have g9b : v7.heap.size ≤ g9 := by omega
        generalize v7.alloc (.cells #[.string (bs []), .string (bs [])] 57) = v8 at *
        clear g9e
        replace hN := Blk.below hN e10 (Blk.lt hN)
        replace hE := hE.trans e10
        replace cn0 : v8.cell? ⟨g2, 0, none⟩ = some (.string (bs S)) := Blk.cell hN 0
        replace cn1 : v8.cell? ⟨g2, 1, none⟩ = some (.string (bs T)) := Blk.cell hN 1
        replace cnl := Blk.lt hN
        clear e10
        have co0 : v8.cell? ⟨g9, 0, none⟩ = some (.string (bs [])) := Blk.cell hO 0
        have co1 : v8.cell? ⟨g9, 1, none⟩ = some (.string (bs [])) := Blk.cell hO 1
        have col := Blk.lt hO
        cases d2
        · skip
          have HD : Hid (dataP S T = none) := Lib.hid (if_neg (by rw [hd]; simp))
          clear hd
          refine (Data_calls S T (by omega) (by omega) _ (KW.ext hE)).mono ?_; rw [HD.out, twC_none]; rintro e v12 ⟨rfl, e11⟩
          replace hN := Blk.below hN e11 (Blk.lt hN)
          replace hO := Blk.below hO e11 (Blk.lt hO)
          replace hE := hE.trans e11
          replace cn0 : v12.cell? ⟨g2, 0, none⟩ = some (.string (bs S)) := Blk.cell hN 0
          replace cn1 : v12.cell? ⟨g2, 1, none⟩ = some (.string (bs T)) := Blk.cell hN 1
          replace cnl := Blk.lt hN
          replace co0 : v12.cell? ⟨g9, 0, none⟩ = some (.string (bs [])) := Blk.cell hO 0
          replace co1 : v12.cell? ⟨g9, 1, none⟩ = some (.string (bs [])) := Blk.cell hO 1
          replace col := Blk.lt hO
          clear e11
          go_wp2_with fail
          change Calls _ _ _ (v12.alloc (.cells #[.string (bs []), .string (bs [])] 57)) _
          have hP := Blk.new v12 57 #[.string (bs []), .string (bs [])]
          have e15 : Ext v12 (v12.alloc (.cells #[.string (bs []), .string (bs [])] 57)) := (Ext.refl v12).alloc _
          obtain ⟨g14, g14e⟩ : ∃ g14, g14 = v12.heap.size := ⟨_, rfl⟩
          try rw [← v12z]
          try rw [← g14e]
          rw [← g14e] at hP
          have v13z : (v12.alloc (.cells #[.string (bs []), .string (bs [])] 57)).heap.size = g14 + 1 := by rw [alloc_size, ← g14e]
          have g14b : v12.heap.size ≤ g14 := by omega
          generalize v12.alloc (.cells #[.string (bs []), .string (bs [])] 57) = v13 at *
          clear g14e
          replace hN := Blk.below hN e15 (Blk.lt hN)
          replace hO := Blk.below hO e15 (Blk.lt hO)
          replace hE := hE.trans e15
          replace cn0 : v13.cell? ⟨g2, 0, none⟩ = some (.string (bs S)) := Blk.cell hN 0
          replace cn1 : v13.cell? ⟨g2, 1, none⟩ = some (.string (bs T)) := Blk.cell hN 1
          replace cnl := Blk.lt hN
          replace co0 : v13.cell? ⟨g9, 0, none⟩ = some (.string (bs [])) := Blk.cell hO 0
          replace co1 : v13.cell? ⟨g9, 1, none⟩ = some (.string (bs [])) := Blk.cell hO 1
          replace col := Blk.lt hO
          clear e15
          have cp0 : v13.cell? ⟨g14, 0, none⟩ = some (.string (bs [])) := Blk.cell hP 0
          have cp1 : v13.cell? ⟨g14, 1, none⟩ = some (.string (bs [])) := Blk.cell hP 1
          have cpl := Blk.lt hP
          refine (refLeaf_calls S (by omega) _).mono ?_; rw [Hpa.out]; rintro e v17 ⟨rfl, e16⟩
          replace hN := Blk.below hN e16 (Blk.lt hN)
          replace hO := Blk.below hO e16 (Blk.lt hO)
          replace hP := Blk.below hP e16 (Blk.lt hP)
          replace hE := hE.trans e16
          replace cn0 : v17.cell? ⟨g2, 0, none⟩ = some (.string (bs S)) := Blk.cell hN 0
          replace cn1 : v17.cell? ⟨g2, 1, none⟩ = some (.string (bs T)) := Blk.cell hN 1
          replace cnl := Blk.lt hN
          replace co0 : v17.cell? ⟨g9, 0, none⟩ = some (.string (bs [])) := Blk.cell hO 0
          replace co1 : v17.cell? ⟨g9, 1, none⟩ = some (.string (bs [])) := Blk.cell hO 1
          replace col := Blk.lt hO
          replace cp0 : v17.cell? ⟨g14, 0, none⟩ = some (.string (bs [])) := Blk.cell hP 0
          replace cp1 : v17.cell? ⟨g14, 1, none⟩ = some (.string (bs [])) := Blk.cell hP 1
          replace cpl := Blk.lt hP
          clear e16
          go_wp2_with fail
          refine (refLeaf_calls T (by omega) _).mono ?_; rw [Hpb.out]; rintro e v19 ⟨rfl, e18⟩
          replace hN := Blk.below hN e18 (Blk.lt hN)
          replace hO := Blk.below hO e18 (Blk.lt hO)
          replace hP := Blk.below hP e18 (Blk.lt hP)
          replace hE := hE.trans e18
          replace cn0 : v19.cell? ⟨g2, 0, none⟩ = some (.string (bs S)) := Blk.cell hN 0
          replace cn1 : v19.cell? ⟨g2, 1, none⟩ = some (.string (bs T)) := Blk.cell hN 1
          replace cnl := Blk.lt hN
          replace co0 : v19.cell? ⟨g9, 0, none⟩ = some (.string (bs [])) := Blk.cell hO 0
          replace co1 : v19.cell? ⟨g9, 1, none⟩ = some (.string (bs [])) := Blk.cell hO 1
          replace col := Blk.lt hO
          replace cp0 : v19.cell? ⟨g14, 0, none⟩ = some (.string (bs [])) := Blk.cell hP 0
          replace cp1 : v19.cell? ⟨g14, 1, none⟩ = some (.string (bs [])) := Blk.cell hP 1
          replace cpl := Blk.lt hP
          clear e18
          unfold sumV
          go_wp2_with fail
          change Calls _ _ #[twV S T] _ _
          refine (Are_calls S T hSl2 hTl2 _ (KW.ext hE)).mono ?_; rw [HA2.out]; rintro e v21 ⟨rfl, e20⟩
          replace hN := Blk.below hN e20 (Blk.lt hN)
          replace hO := Blk.below hO e20 (Blk.lt hO)
          replace hP := Blk.below hP e20 (Blk.lt hP)
          replace hE := hE.trans e20
          replace cn0 : v21.cell? ⟨g2, 0, none⟩ = some (.string (bs S)) := Blk.cell hN 0
          replace cn1 : v21.cell? ⟨g2, 1, none⟩ = some (.string (bs T)) := Blk.cell hN 1
          replace cnl := Blk.lt hN
          replace co0 : v21.cell? ⟨g9, 0, none⟩ = some (.string (bs [])) := Blk.cell hO 0
          replace co1 : v21.cell? ⟨g9, 1, none⟩ = some (.string (bs [])) := Blk.cell hO 1
          replace col := Blk.lt hO
          replace cp0 : v21.cell? ⟨g14, 0, none⟩ = some (.string (bs [])) := Blk.cell hP 0
          replace cp1 : v21.cell? ⟨g14, 1, none⟩ = some (.string (bs [])) := Blk.cell hP 1
          replace cpl := Blk.lt hP
          clear e20
          go_wp2_with fail
          go_ret
          exact ⟨rfl, hE⟩
        · skip
          have HD : Hid (dataP S T = some (0 :: S, 0 :: T)) := Lib.hid (if_pos hd)
          clear hd
          refine (Data_calls S T (by omega) (by omega) _ (KW.ext hE)).mono ?_; rw [HD.out, twC_some]; rintro e v12 ⟨rfl, e11⟩
          replace hN := Blk.below hN e11 (Blk.lt hN)
          replace hO := Blk.below hO e11 (Blk.lt hO)
          replace hE := hE.trans e11
          replace cn0 : v12.cell? ⟨g2, 0, none⟩ = some (.string (bs S)) := Blk.cell hN 0
          replace cn1 : v12.cell? ⟨g2, 1, none⟩ = some (.string (bs T)) := Blk.cell hN 1
          replace cnl := Blk.lt hN
          replace co0 : v12.cell? ⟨g9, 0, none⟩ = some (.string (bs [])) := Blk.cell hO 0
          replace co1 : v12.cell? ⟨g9, 1, none⟩ = some (.string (bs [])) := Blk.cell hO 1
          replace col := Blk.lt hO
          clear e11
          go_wp2_with fail
          change Calls _ _ _ (v12.alloc (.cells #[.string (bs (0 :: S)), .string (bs (0 :: T))] 57)) _
          have hP := Blk.new v12 57 #[.string (bs (0 :: S)), .string (bs (0 :: T))]
          have e15 : Ext v12 (v12.alloc (.cells #[.string (bs (0 :: S)), .string (bs (0 :: T))] 57)) := (Ext.refl v12).alloc _
          obtain ⟨g14, g14e⟩ : ∃ g14, g14 = v12.heap.size := ⟨_, rfl⟩
          try rw [← v12z]
          try rw [← g14e]
          rw [← g14e] at hP
          have v13z : (v12.alloc (.cells #[.string (bs (0 :: S)), .string (bs (0 :: T))] 57)).heap.size = g14 + 1 := by rw [alloc_size, ← g14e]
          have g14b : v12.heap.size ≤ g14 := by omega
          generalize v12.alloc (.cells #[.string (bs (0 :: S)), .string (bs (0 :: T))] 57) = v13 at *
          clear g14e
          replace hN := Blk.below hN e15 (Blk.lt hN)
          replace hO := Blk.below hO e15 (Blk.lt hO)
          replace hE := hE.trans e15
          replace cn0 : v13.cell? ⟨g2, 0, none⟩ = some (.string (bs S)) := Blk.cell hN 0
          replace cn1 : v13.cell? ⟨g2, 1, none⟩ = some (.string (bs T)) := Blk.cell hN 1
          replace cnl := Blk.lt hN
          replace co0 : v13.cell? ⟨g9, 0, none⟩ = some (.string (bs [])) := Blk.cell hO 0
          replace co1 : v13.cell? ⟨g9, 1, none⟩ = some (.string (bs [])) := Blk.cell hO 1
          replace col := Blk.lt hO
          clear e15
          have cp0 : v13.cell? ⟨g14, 0, none⟩ = some (.string (bs (0 :: S))) := Blk.cell hP 0
          have cp1 : v13.cell? ⟨g14, 1, none⟩ = some (.string (bs (0 :: T))) := Blk.cell hP 1
          have cpl := Blk.lt hP
          refine (refLeaf_calls S (by omega) _).mono ?_; rw [Hpa.out]; rintro e v17 ⟨rfl, e16⟩
          replace hN := Blk.below hN e16 (Blk.lt hN)
          replace hO := Blk.below hO e16 (Blk.lt hO)
          replace hP := Blk.below hP e16 (Blk.lt hP)
          replace hE := hE.trans e16
          replace cn0 : v17.cell? ⟨g2, 0, none⟩ = some (.string (bs S)) := Blk.cell hN 0
          replace cn1 : v17.cell? ⟨g2, 1, none⟩ = some (.string (bs T)) := Blk.cell hN 1
          replace cnl := Blk.lt hN
          replace co0 : v17.cell? ⟨g9, 0, none⟩ = some (.string (bs [])) := Blk.cell hO 0
          replace co1 : v17.cell? ⟨g9, 1, none⟩ = some (.string (bs [])) := Blk.cell hO 1
          replace col := Blk.lt hO
          replace cp0 : v17.cell? ⟨g14, 0, none⟩ = some (.string (bs (0 :: S))) := Blk.cell hP 0
          replace cp1 : v17.cell? ⟨g14, 1, none⟩ = some (.string (bs (0 :: T))) := Blk.cell hP 1
          replace cpl := Blk.lt hP
          clear e16
          go_wp2_with fail
          refine (refLeaf_calls T (by omega) _).mono ?_; rw [Hpb.out]; rintro e v19 ⟨rfl, e18⟩
          replace hN := Blk.below hN e18 (Blk.lt hN)
          replace hO := Blk.below hO e18 (Blk.lt hO)
          replace hP := Blk.below hP e18 (Blk.lt hP)
          replace hE := hE.trans e18
          replace cn0 : v19.cell? ⟨g2, 0, none⟩ = some (.string (bs S)) := Blk.cell hN 0
          replace cn1 : v19.cell? ⟨g2, 1, none⟩ = some (.string (bs T)) := Blk.cell hN 1
          replace cnl := Blk.lt hN
          replace co0 : v19.cell? ⟨g9, 0, none⟩ = some (.string (bs [])) := Blk.cell hO 0
          replace co1 : v19.cell? ⟨g9, 1, none⟩ = some (.string (bs [])) := Blk.cell hO 1
          replace col := Blk.lt hO
          replace cp0 : v19.cell? ⟨g14, 0, none⟩ = some (.string (bs (0 :: S))) := Blk.cell hP 0
          replace cp1 : v19.cell? ⟨g14, 1, none⟩ = some (.string (bs (0 :: T))) := Blk.cell hP 1
          replace cpl := Blk.lt hP
          clear e18
          unfold sumV
          go_wp2_with fail
          change Calls _ _ #[twV S T] _ _
          refine (Are_calls S T hSl2 hTl2 _ (KW.ext hE)).mono ?_; rw [HA2.out]; rintro e v21 ⟨rfl, e20⟩
          replace hN := Blk.below hN e20 (Blk.lt hN)
          replace hO := Blk.below hO e20 (Blk.lt hO)
          replace hP := Blk.below hP e20 (Blk.lt hP)
          replace hE := hE.trans e20
          replace cn0 : v21.cell? ⟨g2, 0, none⟩ = some (.string (bs S)) := Blk.cell hN 0
          replace cn1 : v21.cell? ⟨g2, 1, none⟩ = some (.string (bs T)) := Blk.cell hN 1
          replace cnl := Blk.lt hN
          replace co0 : v21.cell? ⟨g9, 0, none⟩ = some (.string (bs [])) := Blk.cell hO 0
          replace co1 : v21.cell? ⟨g9, 1, none⟩ = some (.string (bs [])) := Blk.cell hO 1
          replace col := Blk.lt hO
          replace cp0 : v21.cell? ⟨g14, 0, none⟩ = some (.string (bs (0 :: S))) := Blk.cell hP 0
          replace cp1 : v21.cell? ⟨g14, 1, none⟩ = some (.string (bs (0 :: T))) := Blk.cell hP 1
          replace cpl := Blk.lt hP
          clear e20
          have k1 : (0 :: S == 0 :: S) = true := by simp
          have k2 : (0 :: T == 0 :: T) = true := by simp
          go_wp2_with fail
          go_ret
          exact ⟨rfl, hE⟩

set_option maxRecDepth 100000 in
theorem contract (H : Type) (enc : TypeId × Value → H) (W : World) (base : Nat) (args : Array Value) (ds gs : List (DataW H)) (before : List MemPlace)
    (hval0 : ∀ (j : Nat) t v, Tryd.f13.params[j]? = some t → args[j]? = some v → Value.okWide Tryd.prog W .any base t v)
    (hW : DataW.Whole enc Tryd.prog Tryd.f13.params.toList Rows.twinDataSpec.vars false W args.toList ds gs before) (hL : laidMetH Tryd.prog Rows.twinDataRow.laid W) :
    Calls Tryd.prog 13 args W fun e W' => ∃ v, e = .returned v ∧ Rows.twinDataSpec.post enc Tryd.prog Tryd.f13 false true false false W args v W' := by
  have K : Keys W := keys_of hL
  have hval : ∀ (j : Nat) t v, Tryd.f13.params[j]? = some t → args[j]? = some v → Value.okWide Tryd.prog W .any base t v := hval0
  have hW' := hW
  obtain ⟨p, q, hA0, hV, rfl, hfz, hnd⟩ := hW
  have hA : DataW.TrodAll enc Tryd.prog W 0 (fun _ => true) true Tryd.f13.params.toList args.toList ds p := hA0
  rw [Tryd.params13] at hA hval
  obtain ⟨v0, vs0, d0, ds0, p0, q0, hargs, rfl, rfl, hx0, r0⟩ := trodAll_cons hA
  obtain ⟨v1, vs1, d1, ds1, p1, q1, rfl, rfl, rfl, hx1, r1⟩ := trodAll_cons r0
  obtain ⟨rfl, rfl, rfl⟩ := trodAll_nil r1
  obtain rfl : args = #[v0, v1] := by cases args; simp_all
  obtain ⟨rfl, rfl⟩ := trodVars_none hV
  obtain ⟨s, rfl, hs⟩ := op_str (hval 0 9 v0 rfl rfl) (tr_of hx0)
  obtain ⟨t, rfl, ht⟩ := op_str (hval 1 9 v1 rfl rfl) (tr_of hx1)
  refine (walk s t hs ht W K).mono fun e W' ⟨he, hg⟩ => ?_
  subst he
  exact ⟨_, rfl, law_post hW' rfl rfl (by kernel_rfl) rfl rfl rfl hg⟩

theorem laid_met (os : Os) : laidMet Tryd.prog Rows.twinDataRow.laid ((keysWorld os).forCall (fun _ _ => 0) ⟨#[], #[.string .empty, .string .empty], []⟩).memory :=
  laidMet_of_run' 8 (by kernel_rfl) (by kernel_rfl)
theorem reads (os : Os) {H : Type} (enc : TypeId × Value → H) : ∃ x, DataW.whole enc Tryd.prog ((keysWorld os).forCall (fun _ _ => 0) ⟨#[], #[.string .empty, .string .empty], []⟩).memory Tryd.f13.params.toList Rows.twinDataSpec.vars false (#[.string .empty, .string .empty] : Array Value).toList 8 = some x :=
  Option.isSome_iff_exists.1 (by kernel_rfl)
set_option maxRecDepth 100000 in
theorem lifted (os : Os) (started : os.Started) (H : Type) (enc : TypeId × Value → H) (F : Stop.Interp) :
    ReturnsInHanded {} Tryd.checked os 13 .any ((OpenSpec.ofChange Rows.twinDataSpec).preRow enc Tryd.prog Tryd.f13 Rows.twinDataRow.domain false Rows.twinDataRow.laid) (((OpenSpec.ofChange Rows.twinDataSpec).at F).post enc Tryd.prog Tryd.f13 false true false false) := by
  obtain ⟨x, hx⟩ := reads os enc
  refine returnsInHanded_of_row (C := Tryd.checked) (s := OpenSpec.ofChange Rows.twinDataSpec) own_ started (by kernel_rfl) Tryd.func13
    (witness_row_at (enc := enc) (C := Tryd.checked) false (keysWorld os) #[.string .empty, .string .empty] rfl (by kernel_rfl) (by kernel_rfl) (by kernel_rfl)
      (OpenSpec.preRow_of_cond 8 hx rfl (fun k hk => by cases hk) (by kernel_rfl) (laid_met os))) ?_
  intro W base args ds gs before hval hW _ _ _ hL _ _
  exact contract H enc W base args ds gs before hval hW hL

theorem said : Rows.TwinDataSaid :=
  OpenClaim.holds_of_cond 13 Tryd.f13 rfl rfl rfl rfl rfl rfl rfl ⟨rfl, rfl, rfl, rfl, rfl⟩ rfl rfl rfl rfl rfl (by kernel_rfl) Tryd.func13 (by kernel_rfl)
    (of_decide_eq_true (by kernel_rfl)) (by unfold Func.isWrapper; first | (rw [if_pos (by decide +kernel)]; kernel_rfl) | (rw [if_neg (by decide +kernel)]; exact ⟨rfl, rfl⟩))
    (fun os started H enc _ F => by rw [OpenClaim.pre_eq_preRow]; exact lifted os started H enc F)
theorem plain (f : FuncId) (fn : Func) (hf : Tryd.pinned.checked.prog.funcNamed "scrinium/scriniumlaw13.TwinData" = some f) (hfn : Tryd.pinned.checked.prog.funcs[f]? = some fn) :
    false = Tryd.pinned.checked.prog.looks [] ∧ ∀ (j : Nat) t, fn.params[j]? = some t → Tryd.pinned.checked.prog.wantsStandIn t = false := by
  obtain rfl : f = 13 := Option.some.inj ((show Tryd.prog.funcNamed "scrinium/scriniumlaw13.TwinData" = some 13 by kernel_rfl).symm.trans hf) |>.symm
  obtain rfl : fn = Tryd.f13 := (Option.some.inj (Tryd.func13.symm.trans hfn)).symm
  refine ⟨by kernel_rfl, fun j t ht => ?_⟩
  rw [Tryd.params13] at ht
  have hm : t ∈ ([9, 9] : List TypeId) := by simpa using Array.mem_of_getElem? ht
  have hall : (([9, 9] : List TypeId).all fun u => !Tryd.prog.wantsStandIn u) = true := by kernel_rfl
  exact (show Tryd.prog.wantsStandIn t = false by simpa using List.all_eq_true.1 hall t hm)
theorem proved : Rows.TwinDataCardSaid :=
  Claim7.holds_tied_plain_at .later [] _ _ _ _ said (fun _ h => by cases h) (by kernel_rfl) (fun _ h => by cases h) twinData_row_tie rfl ⟨rfl, rfl⟩ (by kernel_rfl) rfl plain (by kernel_rfl)

end Go.Proofs.YtfpipdopgepelaaDoor.twinData
