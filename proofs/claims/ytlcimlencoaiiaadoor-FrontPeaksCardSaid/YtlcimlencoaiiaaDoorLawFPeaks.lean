/-
  scriniumlaw11.FrontPeaks: there are as many peaks as the number of leaves has bits that are 1; of a power of two the one is the root. No condition.
-/
import Derived.Test.YtlcimlencoaiiaaDoorFrontM
import Derived.Test.YtlcimlencoaiiaaDoorOpL
import Derived.Test.YtlcimlencoaiiaaDoorEqA
import Derived.Test.YtlcimlencoaiiaaDoorLaw
import Derived.Deep.DeepCutAuto
set_option linter.unusedVariables false
set_option maxRecDepth 100000
set_option linter.unusedSimpArgs false
namespace Go.Proofs.YtlcimlencoaiiaaDoor.frontPeaks
open Go.ChangeShapes Go.WideShapes Go.ChangeAt Go.RowKit
attribute [local go_sem] bs_size bs_toList2 bs_append bs_extract_end bs_extract_begin bs_get wrap64_b grow_cell grow_frozen cZZ


theorem rep_all (k : Nat) (x : List UInt8) (hx : x.length = 32) : AllH (List.replicate k x) := fun s hs => by rw [List.eq_of_mem_replicate hs]; exact hx
theorem one_peak (l : List (List UInt8)) (h : Tree.ones l.length = 1) : peaksS l = [rootS l] := by
  have h1 := peaks_len l
  rw [h] at h1
  obtain ⟨p, hp⟩ := List.length_eq_one_iff.1 h1
  have h2 := peaks_join l
  rw [hp] at h2 ⊢
  rw [← h2]
  rfl

set_option maxHeartbeats 2000000 in
theorem walk (n : Int) (x : List UInt8) (hn0 : -9223372036854775808 ≤ n) (hn1 : n ≤ 9223372036854775807) (hx : x.length = 32) (w : World) (KW : Keys w) :
    Calls Tryd.prog 12 #[.int .i64 n, sumV x] w fun e w' => e = .returned (.bool true) ∧ Ext w w' := by
  have hE0 := (Ext.refl w).alloc (.cells (x.map byteV).toArray 23)
  have hX0 : ArrB (w.alloc (.cells (x.map byteV).toArray 23)) w.heap.size 23 x := Blk.new _ _ _
  obtain ⟨r, hr⟩ : ∃ r, r = n.tmod 71 := ⟨_, rfl⟩
  have hr1 : r < 71 := by rw [hr]; exact Int.tmod_lt_of_pos n (by omega)
  have hr0 : -71 < r := by
    have := Int.lt_tmod_of_pos n (show (0 : Int) < 71 by omega)
    omega
  replace hr := hr.symm
  unfold sumV
  go_enter Tryd.func12, Tryd.ntmps12
  go_wp2_with fail
  refine (awake11_calls _ (KW.ext hE0)).mono ?_; rintro e w1 ⟨rfl, e1⟩
  have hX1 := hX0.below e1 hX0.lt
  have hE1 := hE0.trans e1
  clear hE0 hX0 e1
  by_cases hneg : r < 0
  · obtain ⟨k, hk⟩ : ∃ k : Nat, -r = (k : Int) := ⟨(-r).toNat, by omega⟩
    have hk70 : k ≤ 70 := by omega
    go_wp2_with fail
    clear hr hneg hk
    refine (frNew_calls _).mono ?_; rintro e w2 ⟨rfl, hF, e2⟩
    have hF0 := FrT.new hF
    have hE2 := hE1.trans e2
    have hX2 := hX1.below e2 hX1.lt
    obtain ⟨g, hg⟩ : ∃ g, g = w1.heap.size := ⟨_, rfl⟩
    have hgE : w.heap.size ≤ g := by rw [hg]; exact hE1.size
    have hgX : w.heap.size ≠ g := by have := hX1.lt; omega
    rw [← hg] at hF0 ⊢
    clear hg hF
    go_wp2_with fail
    go_loopw [8] (fun s8 wr => ∃ i : Nat, i ≤ k ∧ s8 = .int .i64 (i : Int) ∧ FrT wr g (List.replicate i x) ∧ Upd g w2 wr) (fun s8 _ => k - (intOf s8).toNat)
    case atStart => exact ⟨0, Nat.zero_le _, rfl, hF0, Upd.refl _ _⟩
    case round =>
      obtain ⟨wo, rfl⟩ : ∃ wo : World, wo = wr := ⟨_, rfl⟩
      obtain ⟨i, hi, rfl, hFo, hU⟩ := hrel
      have hXo := hX2.kept (S := fun k => k ≠ g) (.of_upd hU (fun h => h rfl)) hgX
      have hEo : Ext w wo := hE2.upd hU hgE
      have Ko := KW.ext hEo
      by_cases hlt : i < k
      · have hltI : (i : Int) < (k : Int) := by omega
        have HR := Lib.hid (show List.replicate (i + 1) x = List.replicate i x ++ [x] from List.replicate_succ')
        go_wp2_with (refine stop_load 23 (.tmp 3) rfl ?_)
        refine ⟨?_⟩
        refine wpList_load_row rfl 23 (.tmp 3) rfl w.heap.size (by rfl) 23 _ (0, 0) _ hXo Tryd.underlying23 rfl (size32.trans (by simp [hx])) ?_
        simp only [Act.put, List.setIfInBounds_toArray, List.set_cons_zero, List.set_cons_succ]
        go_wp2_with fail
        change Calls _ _ #[_, sumV x] _ _
        refine (frtAdd_calls g (List.replicate i x) x (rep_all i x hx) hx (by simp; omega) _ Ko hFo).mono ?_; rw [← HR.out, List.length_replicate]; rintro e w9 ⟨rfl, hF9, hU9⟩
        have hU2 := hU.trans hU9
        clear hXo hFo hU hU9
        go_wp2_with fail
        go_roundw
        case rel => exact ⟨i + 1, by omega, by go_num, hF9, hU2⟩
        case measure => simp [intOf]; omega
      · obtain rfl : i = k := by omega
        clear hX2 hXo hU
        go_wp2_with fail
        go_loopw [9, 10] (fun s9 s10 wr => ∃ o j : Nat, s9 = .int .i64 (o : Int) ∧ s10 = .int .i64 (j : Int) ∧ j ≤ i ∧ o ≤ i ∧ o + j ≤ i ∧ o + Tree.ones j = Tree.ones i ∧ wo = wr) (fun _ s10 _ => (intOf s10).toNat)
        case atStart => exact ⟨0, i, rfl, rfl, Nat.le_refl _, Nat.zero_le _, by omega, Nat.zero_add _, rfl⟩
        case round =>
          obtain ⟨o, j, rfl, rfl, hji, hoi, hoji, hoj, rfl⟩ := hrel
          have HOJ := Lib.hid hoj
          clear hoj
          by_cases hj0 : j = 0
          · subst hj0
            have hO := HOJ.out
            rw [Tree.ones_zero, Nat.add_zero] at hO
            subst hO
            clear HOJ
            have hl := rep_all i x hx
            go_wp2_with fail
            refine (frtPeaks_calls g _ hl (by simp; omega) _ hFo).mono ?_; rintro e w4 ⟨v4, rfl, hO4, e4⟩
            obtain ⟨A, c, hv4⟩ := own_slice hO4.1
            subst hv4
            have hpl := peaks_len (List.replicate i x)
            rw [List.length_replicate] at hpl
            have hF4 := hFo.ext e4
            have hE4 := hEo.trans e4
            have hFs : ∀ y : More w4, FrT (grow w4 y) g (List.replicate i x) := fun y => hF4.ext (grow_ext y)
            have hKs : ∀ y : More w4, Keys (grow w4 y) := fun y => KW.ext (hE4.trans (grow_ext y))
            obtain ⟨z, hz⟩ : ∃ z, z = rootS (List.replicate i x) := ⟨_, rfl⟩
            have hzl : z.length = 32 := by rw [hz]; exact rootS_length _ hl
            have hgw := guard_sum
            have heq1 := fun w : World => eq_sum z z hzl hzl w
            by_cases h1 : Tree.ones i = 1
            · have hp1 := one_peak (List.replicate i x) (by rw [List.length_replicate]; exact h1)
              rw [hp1, ← hz] at hO4
              obtain ⟨A', c', hv', _, hc', _, hr'⟩ := hO4.owns.sl
              injection hv' with x1 _ x3
              subst x1 x3
              obtain ⟨b, off, rfl, hbl, hm0⟩ := rds_mid hr' (AllH.cons hzl AllH.nil) (k := 0) (by simp)
              change w4.rangeAt b (off + 0 * 32) (hcells z) at hm0
              have Hz := Lib.hid hz
              rw [hpl, h1] at *
              have hc1 : 1 ≤ c := hc'
              clear hz hO4 hr' hp1 hpl hc' hF4 h1
              go_wp2_with fail
              refine region_plan 26 (Plan.run [0, 1, 2, 3, 4, 5, 6, 7, 8, 9, 10, 11, 12, 13, 14, 15, 16, 17, 18, 19, 20, 22, 21, 23, 24, 25] .nil) (by kernel_rfl) (by kernel_rfl) (fun y0 => ?_); simp only [Plan.run, List.drop_succ_cons, List.drop_zero, List.drop_nil]
              iterate 13 (first | (refine plan_quiet (by simp only [List.getElem?_toArray, List.getElem?_cons_zero, List.getElem?_cons_succ]; rfl) (by rfl) (by rfl) (fun K hK => ?_); go_big_quiet_op; refine hK _ ?_; clear hK K) | (refine plan_skip (by simp only [List.getElem?_toArray, List.getElem?_cons_zero, List.getElem?_cons_succ]; rfl) (by rfl) ?_; simp only [Act.put, List.setIfInBounds_toArray, List.set_cons_zero, List.set_cons_succ]))
              refine plan_mid (by simp only [List.getElem?_toArray, List.getElem?_cons_zero, List.getElem?_cons_succ]; rfl) (by rfl) (by rfl) 23 (.tmp 53) rfl b (off + 0 * 32) (by rfl) _ _ hm0 hbl Tryd.underlying23 rfl (size32l _ hzl) ?_
              simp only [Act.put, List.setIfInBounds_toArray, List.set_cons_zero, List.set_cons_succ]
              unfold hcells
              iterate 1 (first | (refine plan_quiet (by simp only [List.getElem?_toArray, List.getElem?_cons_zero, List.getElem?_cons_succ]; rfl) (by rfl) (by rfl) (fun K hK => ?_); go_big_quiet_op; refine hK _ ?_; clear hK K) | (refine plan_skip (by simp only [List.getElem?_toArray, List.getElem?_cons_zero, List.getElem?_cons_succ]; rfl) (by rfl) ?_; simp only [Act.put, List.setIfInBounds_toArray, List.set_cons_zero, List.set_cons_succ]))
              refine plan_one ?_
              (refine plan_loud (by simp only [List.getElem?_toArray, List.getElem?_cons_zero, List.getElem?_cons_succ]; rfl) (by rfl) (by rfl) (fun K E hK => ?_); go_big_op)
              refine (frtRoot_calls g (List.replicate i x) hl (by simp; omega) (grow w4 y0) (hKs _) (hFs _)).mono ?_; rw [← Hz.out]; unfold sumV; rintro e w3 ⟨rfl, hd⟩
              obtain ⟨y1, rfl⟩ := more_ext y0 hd; clear hd
              refine hK _ _ ⟨_, rfl⟩ ?_; clear hK K E
              iterate 6 (first | (refine plan_quiet (by simp only [List.getElem?_toArray, List.getElem?_cons_zero, List.getElem?_cons_succ]; rfl) (by rfl) (by rfl) (fun K hK => ?_); go_big_quiet_op; refine hK _ ?_; clear hK K) | (refine plan_skip (by simp only [List.getElem?_toArray, List.getElem?_cons_zero, List.getElem?_cons_succ]; rfl) (by rfl) ?_; simp only [Act.put, List.setIfInBounds_toArray, List.set_cons_zero, List.set_cons_succ]))
              refine plan_one ?_
              (refine plan_loud (by simp only [List.getElem?_toArray, List.getElem?_cons_zero, List.getElem?_cons_succ]; rfl) (by rfl) (by rfl) (fun K E hK => ?_); go_big_op)
              refine (frtSize_calls g (List.replicate i x) (grow w4 y1) (hFs _)).mono ?_; rw [List.length_replicate]; rintro e w3 ⟨rfl, rfl⟩
              refine hK _ _ ⟨_, rfl⟩ ?_; clear hK K E
              iterate 3 (first | (refine plan_quiet (by simp only [List.getElem?_toArray, List.getElem?_cons_zero, List.getElem?_cons_succ]; rfl) (by rfl) (by rfl) (fun K hK => ?_); go_big_quiet_op; refine hK _ ?_; clear hK K) | (refine plan_skip (by simp only [List.getElem?_toArray, List.getElem?_cons_zero, List.getElem?_cons_succ]; rfl) (by rfl) ?_; simp only [Act.put, List.setIfInBounds_toArray, List.set_cons_zero, List.set_cons_succ]))
              refine plan_nil ?_
              go_wp2_with fail
              go_ret
              exact ⟨rfl, hE4.trans (grow_ext _)⟩
            · have h1b : ((Tree.ones i : Int) != 1) = true := by simp; omega
              have Hz := Lib.hid hz
              rw [hpl]
              have hob : ((Tree.ones i : Int) == (Tree.ones i : Int)) = true := by simp
              clear hz hO4 hpl hF4 h1
              generalize Tree.ones i = o at *
              go_wp2_with fail
              refine region_plan 26 (Plan.run [0, 1, 2, 3, 4, 5, 6, 7, 8, 9, 10, 11, 12, 13, 14, 15, 16, 17, 18, 19, 20, 22, 21, 23, 24, 25] .nil) (by kernel_rfl) (by kernel_rfl) (fun y0 => ?_); simp only [Plan.run, List.drop_succ_cons, List.drop_zero, List.drop_nil]
              iterate 22 (first | (refine plan_quiet (by simp only [List.getElem?_toArray, List.getElem?_cons_zero, List.getElem?_cons_succ]; rfl) (by rfl) (by rfl) (fun K hK => ?_); go_big_quiet_op; refine hK _ ?_; clear hK K) | (refine plan_skip (by simp only [List.getElem?_toArray, List.getElem?_cons_zero, List.getElem?_cons_succ]; rfl) (by rfl) ?_; simp only [Act.put, List.setIfInBounds_toArray, List.set_cons_zero, List.set_cons_succ]))
              refine plan_one ?_
              (refine plan_loud (by simp only [List.getElem?_toArray, List.getElem?_cons_zero, List.getElem?_cons_succ]; rfl) (by rfl) (by rfl) (fun K E hK => ?_); go_big_op)
              refine (frtSize_calls g (List.replicate i x) (grow w4 y0) (hFs _)).mono ?_; rw [List.length_replicate]; rintro e w3 ⟨rfl, rfl⟩
              refine hK _ _ ⟨_, rfl⟩ ?_; clear hK K E
              iterate 3 (first | (refine plan_quiet (by simp only [List.getElem?_toArray, List.getElem?_cons_zero, List.getElem?_cons_succ]; rfl) (by rfl) (by rfl) (fun K hK => ?_); go_big_quiet_op; refine hK _ ?_; clear hK K) | (refine plan_skip (by simp only [List.getElem?_toArray, List.getElem?_cons_zero, List.getElem?_cons_succ]; rfl) (by rfl) ?_; simp only [Act.put, List.setIfInBounds_toArray, List.set_cons_zero, List.set_cons_succ]))
              refine plan_nil ?_
              go_wp2_with fail
              go_ret
              exact ⟨rfl, hE4.trans (grow_ext _)⟩
          · have hj1 : (0 : Int) < (j : Int) := by omega
            have hon2 := Tree.ones_step j (by omega)
            have HS : Hid (o + j % 2 + Tree.ones (j / 2) = Tree.ones i) := Lib.hid (by have := HOJ.out; omega)
            have hmod : (j : Int).tmod 2 = ((j % 2 : Nat) : Int) := by rw [Int.tmod_eq_emod_of_nonneg (by omega)]; rfl
            clear hon2
            go_wp2_with fail
            go_roundw
            case rel => exact ⟨o + j % 2, j / 2, by go_num, by go_num, by omega, by omega, by omega, HS.out, trivial⟩
            case measure => simp [intOf]; omega
  · obtain ⟨k, hk⟩ : ∃ k : Nat, r = (k : Int) := ⟨r.toNat, by omega⟩
    have hk70 : k ≤ 70 := by omega
    go_wp2_with fail
    clear hr hneg hk
    refine (frNew_calls _).mono ?_; rintro e w2 ⟨rfl, hF, e2⟩
    have hF0 := FrT.new hF
    have hE2 := hE1.trans e2
    have hX2 := hX1.below e2 hX1.lt
    obtain ⟨g, hg⟩ : ∃ g, g = w1.heap.size := ⟨_, rfl⟩
    have hgE : w.heap.size ≤ g := by rw [hg]; exact hE1.size
    have hgX : w.heap.size ≠ g := by have := hX1.lt; omega
    rw [← hg] at hF0 ⊢
    clear hg hF
    go_wp2_with fail
    go_loopw [8] (fun s8 wr => ∃ i : Nat, i ≤ k ∧ s8 = .int .i64 (i : Int) ∧ FrT wr g (List.replicate i x) ∧ Upd g w2 wr) (fun s8 _ => k - (intOf s8).toNat)
    case atStart => exact ⟨0, Nat.zero_le _, rfl, hF0, Upd.refl _ _⟩
    case round =>
      obtain ⟨wo, rfl⟩ : ∃ wo : World, wo = wr := ⟨_, rfl⟩
      obtain ⟨i, hi, rfl, hFo, hU⟩ := hrel
      have hXo := hX2.kept (S := fun k => k ≠ g) (.of_upd hU (fun h => h rfl)) hgX
      have hEo : Ext w wo := hE2.upd hU hgE
      have Ko := KW.ext hEo
      by_cases hlt : i < k
      · have hltI : (i : Int) < (k : Int) := by omega
        have HR := Lib.hid (show List.replicate (i + 1) x = List.replicate i x ++ [x] from List.replicate_succ')
        go_wp2_with (refine stop_load 23 (.tmp 3) rfl ?_)
        refine ⟨?_⟩
        refine wpList_load_row rfl 23 (.tmp 3) rfl w.heap.size (by rfl) 23 _ (0, 0) _ hXo Tryd.underlying23 rfl (size32.trans (by simp [hx])) ?_
        simp only [Act.put, List.setIfInBounds_toArray, List.set_cons_zero, List.set_cons_succ]
        go_wp2_with fail
        change Calls _ _ #[_, sumV x] _ _
        refine (frtAdd_calls g (List.replicate i x) x (rep_all i x hx) hx (by simp; omega) _ Ko hFo).mono ?_; rw [← HR.out, List.length_replicate]; rintro e w9 ⟨rfl, hF9, hU9⟩
        have hU2 := hU.trans hU9
        clear hXo hFo hU hU9
        go_wp2_with fail
        go_roundw
        case rel => exact ⟨i + 1, by omega, by go_num, hF9, hU2⟩
        case measure => simp [intOf]; omega
      · obtain rfl : i = k := by omega
        clear hX2 hXo hU
        go_wp2_with fail
        go_loopw [9, 10] (fun s9 s10 wr => ∃ o j : Nat, s9 = .int .i64 (o : Int) ∧ s10 = .int .i64 (j : Int) ∧ j ≤ i ∧ o ≤ i ∧ o + j ≤ i ∧ o + Tree.ones j = Tree.ones i ∧ wo = wr) (fun _ s10 _ => (intOf s10).toNat)
        case atStart => exact ⟨0, i, rfl, rfl, Nat.le_refl _, Nat.zero_le _, by omega, Nat.zero_add _, rfl⟩
        case round =>
          obtain ⟨o, j, rfl, rfl, hji, hoi, hoji, hoj, rfl⟩ := hrel
          have HOJ := Lib.hid hoj
          clear hoj
          by_cases hj0 : j = 0
          · subst hj0
            have hO := HOJ.out
            rw [Tree.ones_zero, Nat.add_zero] at hO
            subst hO
            clear HOJ
            have hl := rep_all i x hx
            go_wp2_with fail
            refine (frtPeaks_calls g _ hl (by simp; omega) _ hFo).mono ?_; rintro e w4 ⟨v4, rfl, hO4, e4⟩
            obtain ⟨A, c, hv4⟩ := own_slice hO4.1
            subst hv4
            have hpl := peaks_len (List.replicate i x)
            rw [List.length_replicate] at hpl
            have hF4 := hFo.ext e4
            have hE4 := hEo.trans e4
            have hFs : ∀ y : More w4, FrT (grow w4 y) g (List.replicate i x) := fun y => hF4.ext (grow_ext y)
            have hKs : ∀ y : More w4, Keys (grow w4 y) := fun y => KW.ext (hE4.trans (grow_ext y))
            obtain ⟨z, hz⟩ : ∃ z, z = rootS (List.replicate i x) := ⟨_, rfl⟩
            have hzl : z.length = 32 := by rw [hz]; exact rootS_length _ hl
            have hgw := guard_sum
            have heq1 := fun w : World => eq_sum z z hzl hzl w
            by_cases h1 : Tree.ones i = 1
            · have hp1 := one_peak (List.replicate i x) (by rw [List.length_replicate]; exact h1)
              rw [hp1, ← hz] at hO4
              obtain ⟨A', c', hv', _, hc', _, hr'⟩ := hO4.owns.sl
              injection hv' with x1 _ x3
              subst x1 x3
              obtain ⟨b, off, rfl, hbl, hm0⟩ := rds_mid hr' (AllH.cons hzl AllH.nil) (k := 0) (by simp)
              change w4.rangeAt b (off + 0 * 32) (hcells z) at hm0
              have Hz := Lib.hid hz
              rw [hpl, h1] at *
              have hc1 : 1 ≤ c := hc'
              clear hz hO4 hr' hp1 hpl hc' hF4 h1
              go_wp2_with fail
              refine region_plan 26 (Plan.run [0, 1, 2, 3, 4, 5, 6, 7, 8, 9, 10, 11, 12, 13, 14, 15, 16, 17, 18, 19, 20, 22, 21, 23, 24, 25] .nil) (by kernel_rfl) (by kernel_rfl) (fun y0 => ?_); simp only [Plan.run, List.drop_succ_cons, List.drop_zero, List.drop_nil]
              iterate 13 (first | (refine plan_quiet (by simp only [List.getElem?_toArray, List.getElem?_cons_zero, List.getElem?_cons_succ]; rfl) (by rfl) (by rfl) (fun K hK => ?_); go_big_quiet_op; refine hK _ ?_; clear hK K) | (refine plan_skip (by simp only [List.getElem?_toArray, List.getElem?_cons_zero, List.getElem?_cons_succ]; rfl) (by rfl) ?_; simp only [Act.put, List.setIfInBounds_toArray, List.set_cons_zero, List.set_cons_succ]))
              refine plan_mid (by simp only [List.getElem?_toArray, List.getElem?_cons_zero, List.getElem?_cons_succ]; rfl) (by rfl) (by rfl) 23 (.tmp 53) rfl b (off + 0 * 32) (by rfl) _ _ hm0 hbl Tryd.underlying23 rfl (size32l _ hzl) ?_
              simp only [Act.put, List.setIfInBounds_toArray, List.set_cons_zero, List.set_cons_succ]
              unfold hcells
              iterate 1 (first | (refine plan_quiet (by simp only [List.getElem?_toArray, List.getElem?_cons_zero, List.getElem?_cons_succ]; rfl) (by rfl) (by rfl) (fun K hK => ?_); go_big_quiet_op; refine hK _ ?_; clear hK K) | (refine plan_skip (by simp only [List.getElem?_toArray, List.getElem?_cons_zero, List.getElem?_cons_succ]; rfl) (by rfl) ?_; simp only [Act.put, List.setIfInBounds_toArray, List.set_cons_zero, List.set_cons_succ]))
              refine plan_one ?_
              (refine plan_loud (by simp only [List.getElem?_toArray, List.getElem?_cons_zero, List.getElem?_cons_succ]; rfl) (by rfl) (by rfl) (fun K E hK => ?_); go_big_op)
              refine (frtRoot_calls g (List.replicate i x) hl (by simp; omega) (grow w4 y0) (hKs _) (hFs _)).mono ?_; rw [← Hz.out]; unfold sumV; rintro e w3 ⟨rfl, hd⟩
              obtain ⟨y1, rfl⟩ := more_ext y0 hd; clear hd
              refine hK _ _ ⟨_, rfl⟩ ?_; clear hK K E
              iterate 6 (first | (refine plan_quiet (by simp only [List.getElem?_toArray, List.getElem?_cons_zero, List.getElem?_cons_succ]; rfl) (by rfl) (by rfl) (fun K hK => ?_); go_big_quiet_op; refine hK _ ?_; clear hK K) | (refine plan_skip (by simp only [List.getElem?_toArray, List.getElem?_cons_zero, List.getElem?_cons_succ]; rfl) (by rfl) ?_; simp only [Act.put, List.setIfInBounds_toArray, List.set_cons_zero, List.set_cons_succ]))
              refine plan_one ?_
              (refine plan_loud (by simp only [List.getElem?_toArray, List.getElem?_cons_zero, List.getElem?_cons_succ]; rfl) (by rfl) (by rfl) (fun K E hK => ?_); go_big_op)
              refine (frtSize_calls g (List.replicate i x) (grow w4 y1) (hFs _)).mono ?_; rw [List.length_replicate]; rintro e w3 ⟨rfl, rfl⟩
              refine hK _ _ ⟨_, rfl⟩ ?_; clear hK K E
              iterate 3 (first | (refine plan_quiet (by simp only [List.getElem?_toArray, List.getElem?_cons_zero, List.getElem?_cons_succ]; rfl) (by rfl) (by rfl) (fun K hK => ?_); go_big_quiet_op; refine hK _ ?_; clear hK K) | (refine plan_skip (by simp only [List.getElem?_toArray, List.getElem?_cons_zero, List.getElem?_cons_succ]; rfl) (by rfl) ?_; simp only [Act.put, List.setIfInBounds_toArray, List.set_cons_zero, List.set_cons_succ]))
              refine plan_nil ?_
              go_wp2_with fail
              go_ret
              exact ⟨rfl, hE4.trans (grow_ext _)⟩
            · have h1b : ((Tree.ones i : Int) != 1) = true := by simp; omega
              have Hz := Lib.hid hz
              rw [hpl]
              have hob : ((Tree.ones i : Int) == (Tree.ones i : Int)) = true := by simp
              clear hz hO4 hpl hF4 h1
              generalize Tree.ones i = o at *
              go_wp2_with fail
              refine region_plan 26 (Plan.run [0, 1, 2, 3, 4, 5, 6, 7, 8, 9, 10, 11, 12, 13, 14, 15, 16, 17, 18, 19, 20, 22, 21, 23, 24, 25] .nil) (by kernel_rfl) (by kernel_rfl) (fun y0 => ?_); simp only [Plan.run, List.drop_succ_cons, List.drop_zero, List.drop_nil]
              iterate 22 (first | (refine plan_quiet (by simp only [List.getElem?_toArray, List.getElem?_cons_zero, List.getElem?_cons_succ]; rfl) (by rfl) (by rfl) (fun K hK => ?_); go_big_quiet_op; refine hK _ ?_; clear hK K) | (refine plan_skip (by simp only [List.getElem?_toArray, List.getElem?_cons_zero, List.getElem?_cons_succ]; rfl) (by rfl) ?_; simp only [Act.put, List.setIfInBounds_toArray, List.set_cons_zero, List.set_cons_succ]))
              refine plan_one ?_
              (refine plan_loud (by simp only [List.getElem?_toArray, List.getElem?_cons_zero, List.getElem?_cons_succ]; rfl) (by rfl) (by rfl) (fun K E hK => ?_); go_big_op)
              refine (frtSize_calls g (List.replicate i x) (grow w4 y0) (hFs _)).mono ?_; rw [List.length_replicate]; rintro e w3 ⟨rfl, rfl⟩
              refine hK _ _ ⟨_, rfl⟩ ?_; clear hK K E
              iterate 3 (first | (refine plan_quiet (by simp only [List.getElem?_toArray, List.getElem?_cons_zero, List.getElem?_cons_succ]; rfl) (by rfl) (by rfl) (fun K hK => ?_); go_big_quiet_op; refine hK _ ?_; clear hK K) | (refine plan_skip (by simp only [List.getElem?_toArray, List.getElem?_cons_zero, List.getElem?_cons_succ]; rfl) (by rfl) ?_; simp only [Act.put, List.setIfInBounds_toArray, List.set_cons_zero, List.set_cons_succ]))
              refine plan_nil ?_
              go_wp2_with fail
              go_ret
              exact ⟨rfl, hE4.trans (grow_ext _)⟩
          · have hj1 : (0 : Int) < (j : Int) := by omega
            have hon2 := Tree.ones_step j (by omega)
            have HS : Hid (o + j % 2 + Tree.ones (j / 2) = Tree.ones i) := Lib.hid (by have := HOJ.out; omega)
            have hmod : (j : Int).tmod 2 = ((j % 2 : Nat) : Int) := by rw [Int.tmod_eq_emod_of_nonneg (by omega)]; rfl
            clear hon2
            go_wp2_with fail
            go_roundw
            case rel => exact ⟨o + j % 2, j / 2, by go_num, by go_num, by omega, by omega, by omega, HS.out, trivial⟩
            case measure => simp [intOf]; omega

set_option maxRecDepth 100000 in
theorem contract (H : Type) (enc : TypeId × Value → H) (W : World) (base : Nat) (args : Array Value) (ds gs : List (DataW H)) (before : List MemPlace)
    (hval0 : ∀ (j : Nat) t v, Tryd.f12.params[j]? = some t → args[j]? = some v → Value.okWide Tryd.prog W .any base t v)
    (hW : DataW.Whole enc Tryd.prog Tryd.f12.params.toList Rows.frontPeaksSpec.vars false W args.toList ds gs before) (hL : laidMetH Tryd.prog Rows.frontPeaksRow.laid W) :
    Calls Tryd.prog 12 args W fun e W' => ∃ v, e = .returned v ∧ Rows.frontPeaksSpec.post enc Tryd.prog Tryd.f12 false true false false W args v W' := by
  have K : Keys W := keys_of hL
  have hval : ∀ (j : Nat) t v, Tryd.f12.params[j]? = some t → args[j]? = some v → Value.okWide Tryd.prog W .any base t v := hval0
  have hW' := hW
  obtain ⟨p, q, hA0, hV, rfl, hfz, hnd⟩ := hW
  have hA : DataW.TrodAll enc Tryd.prog W 0 (fun _ => true) true Tryd.f12.params.toList args.toList ds p := hA0
  rw [Tryd.params12] at hA hval
  obtain ⟨v0, vs0, d0, ds0, p0, q0, hargs, rfl, rfl, hx0, r0⟩ := trodAll_cons hA
  obtain ⟨v1, vs1, d1, ds1, p1, q1, rfl, rfl, rfl, hx1, r1⟩ := trodAll_cons r0
  obtain ⟨rfl, rfl, rfl⟩ := trodAll_nil r1
  obtain rfl : args = #[v0, v1] := by cases args; simp_all
  obtain ⟨rfl, rfl⟩ := trodVars_none hV
  obtain ⟨n, rfl, hn0, hn1⟩ := op_int (hval 0 3 v0 rfl rfl) (tr_of hx0)
  obtain ⟨x, rfl, hx⟩ := op_sum (hval 1 23 v1 rfl rfl) (tr_of hx1)
  refine (walk n x hn0 hn1 hx W K).mono fun e W' ⟨he, hg⟩ => ?_
  subst he
  exact ⟨_, rfl, law_post hW' rfl rfl (by kernel_rfl) rfl rfl rfl hg⟩

theorem laid_met (os : Os) : laidMet Tryd.prog Rows.frontPeaksRow.laid ((keysWorld os).forCall (fun _ _ => 0) ⟨#[], #[.int .i64 0, .agg #[.int .u8 0, .int .u8 0, .int .u8 0, .int .u8 0, .int .u8 0, .int .u8 0, .int .u8 0, .int .u8 0, .int .u8 0, .int .u8 0, .int .u8 0, .int .u8 0, .int .u8 0, .int .u8 0, .int .u8 0, .int .u8 0, .int .u8 0, .int .u8 0, .int .u8 0, .int .u8 0, .int .u8 0, .int .u8 0, .int .u8 0, .int .u8 0, .int .u8 0, .int .u8 0, .int .u8 0, .int .u8 0, .int .u8 0, .int .u8 0, .int .u8 0, .int .u8 0]], []⟩).memory :=
  laidMet_of_run' 8 (by kernel_rfl) (by kernel_rfl)
theorem reads (os : Os) {H : Type} (enc : TypeId × Value → H) : ∃ x, DataW.whole enc Tryd.prog ((keysWorld os).forCall (fun _ _ => 0) ⟨#[], #[.int .i64 0, .agg #[.int .u8 0, .int .u8 0, .int .u8 0, .int .u8 0, .int .u8 0, .int .u8 0, .int .u8 0, .int .u8 0, .int .u8 0, .int .u8 0, .int .u8 0, .int .u8 0, .int .u8 0, .int .u8 0, .int .u8 0, .int .u8 0, .int .u8 0, .int .u8 0, .int .u8 0, .int .u8 0, .int .u8 0, .int .u8 0, .int .u8 0, .int .u8 0, .int .u8 0, .int .u8 0, .int .u8 0, .int .u8 0, .int .u8 0, .int .u8 0, .int .u8 0, .int .u8 0]], []⟩).memory Tryd.f12.params.toList Rows.frontPeaksSpec.vars false (#[.int .i64 0, .agg #[.int .u8 0, .int .u8 0, .int .u8 0, .int .u8 0, .int .u8 0, .int .u8 0, .int .u8 0, .int .u8 0, .int .u8 0, .int .u8 0, .int .u8 0, .int .u8 0, .int .u8 0, .int .u8 0, .int .u8 0, .int .u8 0, .int .u8 0, .int .u8 0, .int .u8 0, .int .u8 0, .int .u8 0, .int .u8 0, .int .u8 0, .int .u8 0, .int .u8 0, .int .u8 0, .int .u8 0, .int .u8 0, .int .u8 0, .int .u8 0, .int .u8 0, .int .u8 0]] : Array Value).toList 8 = some x :=
  Option.isSome_iff_exists.1 (by kernel_rfl)
set_option maxRecDepth 100000 in
theorem lifted (os : Os) (started : os.Started) (H : Type) (enc : TypeId × Value → H) (F : Stop.Interp) :
    ReturnsInHanded {} Tryd.checked os 12 .any ((OpenSpec.ofChange Rows.frontPeaksSpec).preRow enc Tryd.prog Tryd.f12 Rows.frontPeaksRow.domain false Rows.frontPeaksRow.laid) (((OpenSpec.ofChange Rows.frontPeaksSpec).at F).post enc Tryd.prog Tryd.f12 false true false false) := by
  obtain ⟨x, hx⟩ := reads os enc
  refine returnsInHanded_of_row (C := Tryd.checked) (s := OpenSpec.ofChange Rows.frontPeaksSpec) own_ started (by kernel_rfl) Tryd.func12
    (witness_row_at (enc := enc) (C := Tryd.checked) false (keysWorld os) #[.int .i64 0, .agg #[.int .u8 0, .int .u8 0, .int .u8 0, .int .u8 0, .int .u8 0, .int .u8 0, .int .u8 0, .int .u8 0, .int .u8 0, .int .u8 0, .int .u8 0, .int .u8 0, .int .u8 0, .int .u8 0, .int .u8 0, .int .u8 0, .int .u8 0, .int .u8 0, .int .u8 0, .int .u8 0, .int .u8 0, .int .u8 0, .int .u8 0, .int .u8 0, .int .u8 0, .int .u8 0, .int .u8 0, .int .u8 0, .int .u8 0, .int .u8 0, .int .u8 0, .int .u8 0]] rfl (by kernel_rfl) (by kernel_rfl) (by kernel_rfl)
      (OpenSpec.preRow_of_cond 8 hx rfl (fun k hk => by cases hk) (by kernel_rfl) (laid_met os))) ?_
  intro W base args ds gs before hval hW _ _ _ hL _ _
  exact contract H enc W base args ds gs before hval hW hL

theorem said : Rows.FrontPeaksSaid :=
  OpenClaim.holds_of_cond 12 Tryd.f12 rfl rfl rfl rfl rfl rfl rfl ⟨rfl, rfl, rfl, rfl, rfl⟩ rfl rfl rfl rfl rfl (by kernel_rfl) Tryd.func12 (by kernel_rfl)
    (of_decide_eq_true (by kernel_rfl)) (by unfold Func.isWrapper; first | (rw [if_pos (by decide +kernel)]; kernel_rfl) | (rw [if_neg (by decide +kernel)]; exact ⟨rfl, rfl⟩))
    (fun os started H enc _ F => by rw [OpenClaim.pre_eq_preRow]; exact lifted os started H enc F)
theorem plain (f : FuncId) (fn : Func) (hf : Tryd.pinned.checked.prog.funcNamed "scrinium/scriniumlaw11.FrontPeaks" = some f) (hfn : Tryd.pinned.checked.prog.funcs[f]? = some fn) :
    false = Tryd.pinned.checked.prog.looks [] ∧ ∀ (j : Nat) t, fn.params[j]? = some t → Tryd.pinned.checked.prog.wantsStandIn t = false := by
  obtain rfl : f = 12 := Option.some.inj ((show Tryd.prog.funcNamed "scrinium/scriniumlaw11.FrontPeaks" = some 12 by kernel_rfl).symm.trans hf) |>.symm
  obtain rfl : fn = Tryd.f12 := (Option.some.inj (Tryd.func12.symm.trans hfn)).symm
  refine ⟨by kernel_rfl, fun j t ht => ?_⟩
  rw [Tryd.params12] at ht
  have hm : t ∈ ([3, 23] : List TypeId) := by simpa using Array.mem_of_getElem? ht
  have hall : (([3, 23] : List TypeId).all fun u => !Tryd.prog.wantsStandIn u) = true := by kernel_rfl
  exact (show Tryd.prog.wantsStandIn t = false by simpa using List.all_eq_true.1 hall t hm)
theorem proved : Rows.FrontPeaksCardSaid :=
  Claim7.holds_tied_plain_at .later [] _ _ _ _ said (fun _ h => by cases h) (by kernel_rfl) (fun _ h => by cases h) frontPeaks_row_tie rfl ⟨rfl, rfl⟩ (by kernel_rfl) rfl plain (by kernel_rfl)

end Go.Proofs.YtlcimlencoaiiaaDoor.frontPeaks
