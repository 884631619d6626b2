/-
  scriniumlaw11.FrontBack: what was written is read, and goes on as what was written does; a copy goes its own way. No condition.
-/
import Derived.Test.YtlcimlencoaiiaaDoorFrontM
import Derived.Test.YtlcimlencoaiiaaDoorOpL
import Derived.Test.YtlcimlencoaiiaaDoorKeepR
import Derived.Test.YtlcimlencoaiiaaDoorEqA
import Derived.Test.YtlcimlencoaiiaaDoorLaw
import Derived.Deep.DeepCutAuto
set_option linter.unusedVariables false
set_option maxRecDepth 100000
set_option linter.unusedSimpArgs false
namespace Go.Proofs.YtlcimlencoaiiaaDoor.frontBack
open Go.ChangeShapes Go.WideShapes Go.ChangeAt Go.RowKit
attribute [local go_sem] bs_size bs_toList2 bs_append bs_extract_end bs_extract_begin bs_get wrap64_b grow_cell grow_frozen cZZ


set_option maxHeartbeats 2000000 in
theorem walk (v : Value) (l : List (List UInt8)) (n : Int) (x : List UInt8) (hl : AllH l) (hn0 : -9223372036854775808 ≤ n) (hn1 : n ≤ 9223372036854775807) (hx : x.length = 32) (w : World) (KW : Keys w) (h : SlS w w.heap.size v l) :
    Calls Tryd.prog 16 #[v, .int .i64 n, sumV x] w fun e w' => e = .returned (.bool true) ∧ Ext w w' := by
  have hE0 := (Ext.refl w).alloc (.cells (x.map byteV).toArray 23)
  have hX0 : ArrB (w.alloc (.cells (x.map byteV).toArray 23)) w.heap.size 23 x := Blk.new _ _ _
  unfold sumV
  go_enter Tryd.func16, Tryd.ntmps16
  go_wp2_with fail
  refine (awake11_calls _ (KW.ext hE0)).mono ?_; rintro e w1 ⟨rfl, e1⟩
  have hX1 := hX0.below e1 hX0.lt
  have hE1 := hE0.trans e1
  clear hE0 hX0 e1
  go_wp2_with fail
  refine (few11_calls v l hl _ (h.ext hE1)).mono ?_; rintro e w2 ⟨v', rfl, hS, rfl⟩
  have hm := hl.take 20
  have hml : (l.take 20).length ≤ 20 := by simp; omega
  generalize l.take 20 = m at *
  obtain ⟨A, cap, hv, _⟩ := id hS
  subst hv
  obtain ⟨r, hr⟩ : ∃ r, r = n.tmod ((m.length : Int) + 1) := ⟨_, rfl⟩
  have hr1 : r < (m.length : Int) + 1 := by rw [hr]; exact Int.tmod_lt_of_pos n (by omega)
  have hr0 : -((m.length : Int) + 1) < r := by
    have := Int.lt_tmod_of_pos n (show (0 : Int) < (m.length : Int) + 1 by omega)
    omega
  replace hr := hr.symm
  have hm1z : ((m.length : Int) + 1 == 0) = false := by rw [beq_eq_false_iff_ne]; omega
  by_cases hneg : r < 0
  · obtain ⟨k, hk⟩ : ∃ k : Nat, -r = (k : Int) := ⟨(-r).toNat, by omega⟩
    have hkm : k ≤ m.length := by omega
    go_wp2_with fail
    clear hr hneg hk
    refine (frNew_calls _).mono ?_; rintro e w2 ⟨rfl, hF, e2⟩
    have hF0 := FrT.new hF
    have hE2 := hE1.trans e2
    have hX2 := hX1.below e2 hX1.lt
    obtain ⟨gf, hg⟩ : ∃ g, g = w1.heap.size := ⟨_, rfl⟩
    have hgE : w.heap.size ≤ gf := by rw [hg]; exact hE1.size
    have hgX : w.heap.size ≠ gf := by have := hX1.lt; omega
    have hg1 : w1.heap.size ≤ gf := by omega
    have hgl := hF0.lt
    have e12 := e2
    rw [← hg] at hF0 hgl ⊢
    clear hg hF e2 hr0 hr1 hm1z
    go_wp2_with fail
    go_loopw [11] (fun s11 wr => ∃ i : Nat, i ≤ k ∧ s11 = .int .i64 (i : Int) ∧ FrT wr gf (m.take i) ∧ Upd gf w2 wr) (fun s11 _ => k - (intOf s11).toNat)
    case atStart => exact ⟨0, Nat.zero_le _, rfl, hF0, Upd.refl _ _⟩
    case round =>
      obtain ⟨wo, rfl⟩ : ∃ wo : World, wo = wr := ⟨_, rfl⟩
      obtain ⟨i, hi, rfl, hFo, hU⟩ := hrel
      have hEo : Ext w wo := hE2.upd hU hgE
      have hE1o : Ext w1 wo := e12.upd hU hg1
      have Ko := KW.ext hEo
      by_cases hlt : i < k
      · have hltI : (i : Int) < (k : Int) := by omega
        have hltm : i < m.length := by omega
        have hltmI : (i : Int) < (m.length : Int) := by omega
        obtain ⟨A', cap', hv', hA', hc', hc63', hr'⟩ := hS.ext hE1o
        injection hv' with x1 _ x3
        subst x1 x3
        rcases hA' with ⟨_, h2, _⟩ | ⟨b, off, rfl⟩
        · rw [h2] at hltm; simp at hltm
        obtain ⟨hbl, hmm⟩ := rds_at hr' hm hltm
        have hq := hm.get i hltm
        have HT := Lib.hid (List.take_succ_eq_append_getElem hltm)
        have Hi := Lib.hid (show (m.take i).length = i by rw [List.length_take]; omega)
        generalize m[i] = q at *
        go_wp2_with (refine stop_load 23 (.tmp 40) rfl ?_)
        refine ⟨?_⟩
        refine wpList_load_mid rfl 23 (.tmp 40) rfl b (off + i * 32) (by rfl) (hcells q) _ hmm Tryd.underlying23 rfl (size32l _ hq) ?_
        simp only [Act.put, List.setIfInBounds_toArray, List.set_cons_zero, List.set_cons_succ]
        unfold hcells
        go_wp2_with fail
        change Calls _ _ #[_, sumV q] _ _
        refine (frtAdd_calls gf (m.take i) q (hm.take i) hq (by rw [Hi.out]; omega) _ Ko hFo).mono ?_; rw [Hi.out]; rintro e w9 ⟨rfl, hF9, hU9⟩
        rw [← HT.out] at hF9
        have hU2 := hU.trans hU9
        clear hmm hr' hFo hU hU9
        go_wp2_with fail
        go_roundw
        case rel => exact ⟨i + 1, by omega, by go_num, hF9, hU2⟩
        case measure => simp [intOf]; omega
      · obtain rfl : i = k := by omega
        have hXo := hX2.kept (S := fun k => k ≠ gf) (.of_upd hU (fun h => h rfl)) hgX
        have Hi := Lib.hid (show (m.take i).length = i by rw [List.length_take]; omega)
        have hmi := hm.take i
        have hzo := hU.size
        clear hX2 hU
        go_wp2_with fail
        refine (frtBytes_calls gf (m.take i) hmi (by rw [Hi.out]; omega) _ hFo).mono ?_; rw [Hi.out]; rintro e w3 ⟨rfl, e3⟩
        have hpl := peaks_len (m.take i)
        rw [Hi.out] at hpl
        have hp64 := peaks_le (m.take i) (by rw [Hi.out]; omega)
        have hpa := peaks_all _ (m.take i) rfl hmi
        have hR := frRead_put i (peaksS (m.take i)) hpa (by omega) hpl
        have HR := Lib.hid hR
        have hlb : (Oct.put i ++ Oct.list (peaksS (m.take i))).length ≤ 1099511627776 := by
          have h1 := Oct.put_length i
          have h2 := Oct.need_le i
          have h3 := Oct.list_length_le 32 _ (fun s hs => Nat.le_of_eq (hpa s hs))
          rw [List.length_append]
          omega
        have hF3 := hFo.ext e3
        have hX3 := hXo.below e3 hXo.lt
        have hE3 := hEo.trans e3
        have hE13 := hE1o.trans e3
        have hz3 := e3.size
        clear hR hFo hXo hEo hE1o e3 hpl hp64
        go_wp2_with fail
        refine (frRead_calls _ hlb _).mono ?_; rw [HR.out]; rintro e w4 ⟨gg, rfl, hgg, hG, e4⟩
        have hG4 : FrT w4 gg (m.take i) := by unfold FrT; rw [Hi.out]; exact hG
        have hF4 := hF3.ext e4
        have hX4 := hX3.below e4 hX3.lt
        have hE4 := hE3.trans e4
        have hE14 := hE13.trans e4
        have hfg : gf ≠ gg := by have := hF3.lt; omega
        have hggE : w.heap.size ≤ gg := by have := hE3.size; omega
        have hgg1 : w1.heap.size ≤ gg := by have := hE13.size; omega
        have hz4 := hG4.lt
        clear hG hF3 hX3 hE3 hE13 e4 hlb HR hz3 hzo hgg
        go_wp2_with fail
        refine (frCopy_calls gf _ _ hpa (by have := peaks_le (m.take i) (by rw [Hi.out]; omega); omega) _ hF4).mono ?_; rintro e w5 ⟨gc, rfl, hgc, hC, e5⟩
        have hC5 : FrT w5 gc (m.take i) := hC
        have hF5 := hF4.ext e5
        have hG5 := hG4.ext e5
        have hX5 := hX4.below e5 hX4.lt
        have hE5 := hE4.trans e5
        have hE15 := hE14.trans e5
        have hfc : gf ≠ gc := by have := hF4.lt; omega
        have hgc2 : gg ≠ gc := by omega
        have hcE : w.heap.size ≤ gc := by have := hE4.size; omega
        have hc1 : w1.heap.size ≤ gc := by have := hE14.size; omega
        clear hC hF4 hG4 hX4 hE4 hE14 e5 hpa hz4 hgc
        obtain ⟨z, hz⟩ : ∃ z, z = rootS (m.take i) := ⟨_, rfl⟩
        have hzl : z.length = 32 := by rw [hz]; exact rootS_length _ hmi
        have Hz := Lib.hid hz
        clear hz
        go_wp2_with fail
        refine (frtRoot_calls gf (m.take i) hmi (by rw [Hi.out]; omega) _ (KW.ext hE5) hF5).mono ?_; rw [← Hz.out]; rintro e w6 ⟨rfl, e6⟩
        unfold sumV
        go_wp2_with (refine stop_store 23 (.tmp 15) (.tmp 62) rfl ?_)
        refine ⟨?_⟩
        change wpList _ _ _ _ _ (w6.alloc (.cells ((zerosB 32).map byteV).toArray 23))
        have hH70 : ArrB (w6.alloc (.cells ((zerosB 32).map byteV).toArray 23)) w6.heap.size 23 (zerosB 32) := Blk.new _ _ _
        refine wpList_store_row rfl 23 (.tmp 15) (.tmp 62) rfl w6.heap.size ((z).map byteV).toArray (by rfl) (by rfl) 23 _ hH70 (size32.trans (by simp [hzl])) (by simp [hzl, zerosB]) (by simp [byteV, Value.oneCell']) ?_
        simp only [Act.put, List.setIfInBounds_toArray, List.set_cons_zero, List.set_cons_succ]
        have hH7 : ArrB ((w6.alloc (.cells ((zerosB 32).map byteV).toArray 23)).setRow w6.heap.size ((z).map byteV).toArray) w6.heap.size 23 (z) := Blk.row hH70 _
        have e7 : Ext w6 ((w6.alloc (.cells ((zerosB 32).map byteV).toArray 23)).setRow w6.heap.size ((z).map byteV).toArray) := ((Ext.refl w6).alloc _).row (Nat.le_refl _) _
        clear hH70
        generalize (w6.alloc (.cells ((zerosB 32).map byteV).toArray 23)).setRow w6.heap.size ((z).map byteV).toArray = w7 at *
        have e67 := e6.trans e7
        have hF7 := hF5.ext e67
        have hG7 := hG5.ext e67
        have hC7 := hC5.ext e67
        have hX7 := hX5.below e67 hX5.lt
        have hE7 := hE5.trans e67
        have hE17 := hE15.trans e67
        have hhf : w6.heap.size ≠ gf := by have := (hF5.ext e6).lt; omega
        have hhg : w6.heap.size ≠ gg := by have := (hG5.ext e6).lt; omega
        have hhc : w6.heap.size ≠ gc := by have := (hC5.ext e6).lt; omega
        have hxc : w.heap.size ≠ gc := by have := hX1.lt; omega
        generalize w6.heap.size = gh at *
        clear hF5 hG5 hC5 hX5 hE5 hE15 e6 e7 e67
        go_wp2_with (refine stop_load 23 (.tmp 5) rfl ?_)
        refine ⟨?_⟩
        refine wpList_load_row rfl 23 (.tmp 5) rfl w.heap.size (by rfl) 23 _ (0, 0) _ hX7 Tryd.underlying23 rfl (size32.trans (by simp [hx])) ?_
        simp only [Act.put, List.setIfInBounds_toArray, List.set_cons_zero, List.set_cons_succ]
        go_wp2_with fail
        change Calls _ _ #[_, sumV x] _ _
        refine (frtAdd_calls gc (m.take i) x hmi hx (by rw [Hi.out]; omega) _ (KW.ext hE7) hC7).mono ?_; rintro e w8 ⟨rfl, hC8, hU8⟩
        have hF8 : FrT w8 gf (m.take i) := FrAt.upd hF7 hC7 hfc hU8
        have hG8 : FrT w8 gg (m.take i) := FrAt.upd hG7 hC7 hgc2 hU8
        have hH8 := hH7.kept (S := fun k => k ≠ gc) (.of_upd hU8 (fun h => h rfl)) hhc
        have hE8 := hE7.upd hU8 hcE
        have hE18 := hE17.upd hU8 hc1
        have Hk1 := Lib.hid (show (m.take i ++ [x]).length = i + 1 by rw [List.length_append, Hi.out]; rfl)
        clear hF7 hG7 hC7 hX7 hE7 hE17 hU8 hH7
        have hFs : ∀ y : More w8, FrT (grow w8 y) gf (m.take i) := fun y => hF8.ext (grow_ext y)
        have hCs : ∀ y : More w8, FrT (grow w8 y) gc (m.take i ++ [x]) := fun y => hC8.ext (grow_ext y)
        have hKs : ∀ y : More w8, Keys (grow w8 y) := fun y => KW.ext (hE8.trans (grow_ext y))
        have hgw := guard_sum
        have heqz := fun w : World => eq_sum z z hzl hzl w
        go_wp2_with fail
        refine region_plan 17 (Plan.run [0, 2, 1, 3, 4, 5, 7, 6, 8, 9, 10, 11, 13, 14, 12, 15, 16] .nil) (by kernel_rfl) (by kernel_rfl) (fun y0 => ?_); simp only [Plan.run, List.drop_succ_cons, List.drop_zero, List.drop_nil]
        iterate 1 (first | (refine plan_quiet (by simp only [List.getElem?_toArray, List.getElem?_cons_zero, List.getElem?_cons_succ]; rfl) (by rfl) (by rfl) (fun K hK => ?_); go_big_quiet_op; refine hK _ ?_; clear hK K) | (refine plan_skip (by simp only [List.getElem?_toArray, List.getElem?_cons_zero, List.getElem?_cons_succ]; rfl) (by rfl) ?_; simp only [Act.put, List.setIfInBounds_toArray, List.set_cons_zero, List.set_cons_succ]))
        refine plan_row (by simp only [List.getElem?_toArray, List.getElem?_cons_zero, List.getElem?_cons_succ]; rfl) (by rfl) (by rfl) 23 (.tmp 15) rfl gh (by rfl) _ _ _ hH8 Tryd.underlying23 rfl (size32.trans (by simp [hzl])) ?_
        simp only [Act.put, List.setIfInBounds_toArray, List.set_cons_zero, List.set_cons_succ]
        refine plan_one ?_
        (refine plan_loud (by simp only [List.getElem?_toArray, List.getElem?_cons_zero, List.getElem?_cons_succ]; rfl) (by rfl) (by rfl) (fun K E hK => ?_); go_big_op)
        refine (frtRoot_calls gf (m.take i) (hm.take i) (by rw [Hi.out]; omega) (grow w8 y0) (hKs _) (hFs _)).mono ?_; rw [← Hz.out]; unfold sumV; rintro e w3 ⟨rfl, hd⟩
        obtain ⟨y1, rfl⟩ := more_ext y0 hd; clear hd
        refine hK _ _ ⟨_, rfl⟩ ?_; clear hK K E
        iterate 4 (first | (refine plan_quiet (by simp only [List.getElem?_toArray, List.getElem?_cons_zero, List.getElem?_cons_succ]; rfl) (by rfl) (by rfl) (fun K hK => ?_); go_big_quiet_op; refine hK _ ?_; clear hK K) | (refine plan_skip (by simp only [List.getElem?_toArray, List.getElem?_cons_zero, List.getElem?_cons_succ]; rfl) (by rfl) ?_; simp only [Act.put, List.setIfInBounds_toArray, List.set_cons_zero, List.set_cons_succ]))
        refine plan_one ?_
        (refine plan_loud (by simp only [List.getElem?_toArray, List.getElem?_cons_zero, List.getElem?_cons_succ]; rfl) (by rfl) (by rfl) (fun K E hK => ?_); go_big_op)
        refine (frtSize_calls gf (m.take i) (grow w8 y1) (hFs _)).mono ?_; rw [Hi.out]; rintro e w3 ⟨rfl, rfl⟩
        refine hK _ _ ⟨_, rfl⟩ ?_; clear hK K E
        iterate 6 (first | (refine plan_quiet (by simp only [List.getElem?_toArray, List.getElem?_cons_zero, List.getElem?_cons_succ]; rfl) (by rfl) (by rfl) (fun K hK => ?_); go_big_quiet_op; refine hK _ ?_; clear hK K) | (refine plan_skip (by simp only [List.getElem?_toArray, List.getElem?_cons_zero, List.getElem?_cons_succ]; rfl) (by rfl) ?_; simp only [Act.put, List.setIfInBounds_toArray, List.set_cons_zero, List.set_cons_succ]))
        refine plan_one ?_
        (refine plan_loud (by simp only [List.getElem?_toArray, List.getElem?_cons_zero, List.getElem?_cons_succ]; rfl) (by rfl) (by rfl) (fun K E hK => ?_); go_big_op)
        refine (frtSize_calls gc (m.take i ++ [x]) (grow w8 y1) (hCs _)).mono ?_; rw [Hk1.out]; rintro e w3 ⟨rfl, rfl⟩
        refine hK _ _ ⟨_, rfl⟩ ?_; clear hK K E
        iterate 2 (first | (refine plan_quiet (by simp only [List.getElem?_toArray, List.getElem?_cons_zero, List.getElem?_cons_succ]; rfl) (by rfl) (by rfl) (fun K hK => ?_); go_big_quiet_op; refine hK _ ?_; clear hK K) | (refine plan_skip (by simp only [List.getElem?_toArray, List.getElem?_cons_zero, List.getElem?_cons_succ]; rfl) (by rfl) ?_; simp only [Act.put, List.setIfInBounds_toArray, List.set_cons_zero, List.set_cons_succ]))
        refine plan_nil ?_
        have hF9 := hF8.ext (grow_ext y1)
        have hG9 := hG8.ext (grow_ext y1)
        have hE9 := hE8.trans (grow_ext y1)
        have hE19 := hE18.trans (grow_ext y1)
        clear hFs hCs hKs hF8 hG8 hC8 hE8 hE18 hH8 heqz
        generalize grow w8 y1 = w9 at *
        go_wp2_with fail
        go_loopw [16] (fun s16 wr => ∃ j : Nat, i ≤ j ∧ j ≤ m.length ∧ s16 = .int .i64 (j : Int) ∧ FrT wr gf (m.take j) ∧ FrT wr gg (m.take j) ∧ Keep (fun b => b < w9.heap.size ∧ b ≠ gf ∧ b ≠ gg) w9 wr) (fun s16 _ => m.length - (intOf s16).toNat)
        case atStart => exact ⟨i, Nat.le_refl _, hkm, rfl, hF9, hG9, Keep.refl _ _⟩
        case round =>
          obtain ⟨wp, rfl⟩ : ∃ wp : World, wp = wr := ⟨_, rfl⟩
          obtain ⟨j, hij, hjm, rfl, hF, hG, hKp⟩ := hrel
          have hz9 := hE9.size
          have hz19 := hE19.size
          have hEp : Ext w wp := ((Keep.of_ext (S := fun b => b < w.heap.size) hE9).trans (hKp.mono (fun b _ hb => ⟨by omega, by omega, by omega⟩))).ext
          have hE1p : Ext w1 wp := ((Keep.of_ext (S := fun b => b < w1.heap.size) hE19).trans (hKp.mono (fun b _ hb => ⟨by omega, by omega, by omega⟩))).ext
          by_cases hlt : j < m.length
          · have hltI : (j : Int) < (m.length : Int) := by omega
            obtain ⟨A', cap', hv', hA', hc', hc63', hr'⟩ := hS
            injection hv' with x1 _ x3
            subst x1 x3
            rcases hA' with ⟨_, h2, _⟩ | ⟨b, off, rfl⟩
            · rw [h2] at hlt; simp at hlt
            obtain ⟨hbl, hmm⟩ := rds_at hr' hm hlt
            have hmp := range_ext hmm hE1p hbl
            have hbp : b < wp.heap.size := by have := hE1p.size; omega
            have hbf : b ≠ gf := by omega
            have hbg : b ≠ gg := by omega
            have hq := hm.get j hlt
            have HT := Lib.hid (List.take_succ_eq_append_getElem hlt)
            have Hj := Lib.hid (show (m.take j).length = j by rw [List.length_take]; omega)
            have hmj := hm.take j
            have Hj1 := Lib.hid (show (m.take (j + 1)).length = j + 1 by rw [List.length_take]; omega)
            have hmj1 := hm.take (j + 1)
            generalize m[j] = q at *
            obtain ⟨y, hy⟩ : ∃ y, y = rootS (m.take (j + 1)) := ⟨_, rfl⟩
            have hyl : y.length = 32 := by rw [hy]; exact rootS_length _ hmj1
            have Hy := Lib.hid hy
            obtain ⟨bb, hb⟩ : ∃ bb, bb = Oct.put (j + 1) ++ Oct.list (peaksS (m.take (j + 1))) := ⟨_, rfl⟩
            have Hb := Lib.hid hb
            have heqy := fun w : World => eq_sum y y hyl hyl w
            have HEx : Hid (∀ z, Keep (fun b => b < wp.heap.size ∧ b ≠ gf ∧ b ≠ gg) wp z → Ext w z) := Lib.hid (fun z hz => ((Keep.of_ext (S := fun b => b < w.heap.size) hEp).trans (hz.mono (fun b _ hb => ⟨by have := hEp.size; omega, by omega, by omega⟩))).ext)
            clear hy hb hmm hr' hE1p hEp
            go_wp2_with fail
            refine region_keep0 (fun b => b < wp.heap.size ∧ b ≠ gf ∧ b ≠ gg) (by kernel_rfl) (by kernel_rfl) ?_
            have hK0 : Keep (fun b => b < wp.heap.size ∧ b ≠ gf ∧ b ≠ gg) wp wp.drew := (Keep.refl _ wp).drew
            have hF := hF.ext (Ext.refl wp).drew
            have hG := hG.ext (Ext.refl wp).drew
            iterate 4 (first | (refine mix_quiet (by rfl) (by rfl) (fun K hK => ?_); go_big_quiet_op; refine hK _ ?_; clear hK K) | (refine mix_skip (by rfl) ?_; simp only [Act.put, List.setIfInBounds_toArray, List.set_cons_zero, List.set_cons_succ]))
            refine held_mid (by rfl) (by rfl) 23 (.tmp 93) rfl b (off + j * 32) (by rfl) _ _ hmp hbp ⟨hbp, hbf, hbg⟩ Tryd.underlying23 rfl (size32l _ hq) ?_
            simp only [Act.put, List.setIfInBounds_toArray, List.set_cons_zero, List.set_cons_succ]
            (refine mix_loud (by rfl) (by rfl) (fun K E hK => ?_); go_big_op)
            change Calls _ _ #[_, sumV q] _ _
            refine (frtAdd_calls gf (m.take j) q hmj hq (by rw [Hj.out]; omega) _ (KW.ext (HEx.out _ hK0)) hF).mono ?_; rw [Hj.out, ← HT.out]; rintro e wa ⟨rfl, hFa, hUa⟩
            have hGa : FrT wa gg (m.take j) := FrAt.upd hG hF (Ne.symm hfg) hUa
            have hKa := hK0.trans (Keep.of_upd (S := fun b => b < wp.heap.size ∧ b ≠ gf ∧ b ≠ gg) hUa (fun h => h.2.1 rfl))
            clear hF hG hUa hK0
            refine hK _ _ (held_of hKa) ?_; clear hK K E
            iterate 4 (first | (refine mix_quiet (by rfl) (by rfl) (fun K hK => ?_); go_big_quiet_op; refine hK _ ?_; clear hK K) | (refine mix_skip (by rfl) ?_; simp only [Act.put, List.setIfInBounds_toArray, List.set_cons_zero, List.set_cons_succ]))
            refine held_mid (by rfl) (by rfl) 23 (.tmp 99) rfl b (off + j * 32) (by rfl) _ _ hmp hbp ⟨hbp, hbf, hbg⟩ Tryd.underlying23 rfl (size32l _ hq) ?_
            simp only [Act.put, List.setIfInBounds_toArray, List.set_cons_zero, List.set_cons_succ]
            (refine mix_loud (by rfl) (by rfl) (fun K E hK => ?_); go_big_op)
            change Calls _ _ #[_, sumV q] _ _
            refine (frtAdd_calls gg (m.take j) q hmj hq (by rw [Hj.out]; omega) _ (KW.ext (HEx.out _ hKa)) hGa).mono ?_; rw [Hj.out, ← HT.out]; rintro e wb ⟨rfl, hGb, hUb⟩
            have hFb : FrT wb gf (m.take (j + 1)) := FrAt.upd hFa hGa hfg hUb
            have hKb := hKa.trans (Keep.of_upd (S := fun b => b < wp.heap.size ∧ b ≠ gf ∧ b ≠ gg) hUb (fun h => h.2.2 rfl))
            clear hFa hGa hUb hKa
            refine hK _ _ (held_of hKb) ?_; clear hK K E
            repeat (first | (refine mix_quiet (by rfl) (by rfl) (fun K hK => ?_); go_big_quiet_op; refine hK _ ?_; clear hK K) | (refine mix_skip (by rfl) ?_; simp only [Act.put, List.setIfInBounds_toArray, List.set_cons_zero, List.set_cons_succ]))
            (refine mix_loud (by rfl) (by rfl) (fun K E hK => ?_); go_big_op)
            refine (frtRoot_calls gf (m.take (j + 1)) hmj1 (by rw [Hj1.out]; omega) _ (KW.ext (HEx.out _ hKb)) hFb).mono ?_; rw [← Hy.out]; unfold sumV; rintro e wc ⟨rfl, ec⟩
            have hFc := hFb.ext ec; have hGc := hGb.ext ec; have hKc := hKb.trans (Keep.of_ext ec)
            clear hFb hGb hKb ec
            refine hK _ _ (held_of hKc) ?_; clear hK K E
            repeat (first | (refine mix_quiet (by rfl) (by rfl) (fun K hK => ?_); go_big_quiet_op; refine hK _ ?_; clear hK K) | (refine mix_skip (by rfl) ?_; simp only [Act.put, List.setIfInBounds_toArray, List.set_cons_zero, List.set_cons_succ]))
            (refine mix_loud (by rfl) (by rfl) (fun K E hK => ?_); go_big_op)
            refine (frtRoot_calls gg (m.take (j + 1)) hmj1 (by rw [Hj1.out]; omega) _ (KW.ext (HEx.out _ hKc)) hGc).mono ?_; rw [← Hy.out]; unfold sumV; rintro e wd ⟨rfl, ed⟩
            have hFd := hFc.ext ed; have hGd := hGc.ext ed; have hKd := hKc.trans (Keep.of_ext ed)
            clear hFc hGc hKc ed
            refine hK _ _ (held_of hKd) ?_; clear hK K E
            repeat (first | (refine mix_quiet (by rfl) (by rfl) (fun K hK => ?_); go_big_quiet_op; refine hK _ ?_; clear hK K) | (refine mix_skip (by rfl) ?_; simp only [Act.put, List.setIfInBounds_toArray, List.set_cons_zero, List.set_cons_succ]))
            (refine mix_loud (by rfl) (by rfl) (fun K E hK => ?_); go_big_op)
            refine (frtBytes_calls gf (m.take (j + 1)) hmj1 (by rw [Hj1.out]; omega) _ hFd).mono ?_; rw [Hj1.out, ← Hb.out]; rintro e we ⟨rfl, ee⟩
            have hFe := hFd.ext ee; have hGe := hGd.ext ee; have hKe := hKd.trans (Keep.of_ext ee)
            clear hFd hGd hKd ee
            refine hK _ _ (held_of hKe) ?_; clear hK K E
            repeat (first | (refine mix_quiet (by rfl) (by rfl) (fun K hK => ?_); go_big_quiet_op; refine hK _ ?_; clear hK K) | (refine mix_skip (by rfl) ?_; simp only [Act.put, List.setIfInBounds_toArray, List.set_cons_zero, List.set_cons_succ]))
            (refine mix_loud (by rfl) (by rfl) (fun K E hK => ?_); go_big_op)
            refine (frtBytes_calls gg (m.take (j + 1)) hmj1 (by rw [Hj1.out]; omega) _ hGe).mono ?_; rw [Hj1.out, ← Hb.out]; rintro e wg ⟨rfl, eg⟩
            have hFg := hFe.ext eg; have hGg := hGe.ext eg; have hKg := hKe.trans (Keep.of_ext eg)
            clear hFe hGe hKe eg
            refine hK _ _ (held_of hKg) ?_; clear hK K E
            repeat (first | (refine mix_quiet (by rfl) (by rfl) (fun K hK => ?_); go_big_quiet_op; refine hK _ ?_; clear hK K) | (refine mix_skip (by rfl) ?_; simp only [Act.put, List.setIfInBounds_toArray, List.set_cons_zero, List.set_cons_succ]))
            refine mix_nil ?_
            have hKz := hKp.trans (hKg.mono (fun b hb h => ⟨by have := hKp.size; omega, h.2.1, h.2.2⟩))
            clear hmp heqy hKg hKp
            go_wp2_with fail
            go_roundw
            case rel =>
              repeat apply Exists.intro
              refine ⟨?_, rfl⟩
              exact ⟨j + 1, by omega, by omega, by go_num, hFg, hGg, hKz⟩
            case measure => simp [intOf]; omega
          · obtain rfl : j = m.length := by omega
            rw [List.take_length] at hF
            go_wp2_with fail
            refine (frtSize_calls gf m _ hF).mono ?_; rintro e w10 ⟨rfl, rfl⟩
            go_wp2_with fail
            go_ret
            exact ⟨rfl, hEp⟩
  · obtain ⟨k, hk⟩ : ∃ k : Nat, r = (k : Int) := ⟨r.toNat, by omega⟩
    have hkm : k ≤ m.length := by omega
    go_wp2_with fail
    clear hr hneg hk
    refine (frNew_calls _).mono ?_; rintro e w2 ⟨rfl, hF, e2⟩
    have hF0 := FrT.new hF
    have hE2 := hE1.trans e2
    have hX2 := hX1.below e2 hX1.lt
    obtain ⟨gf, hg⟩ : ∃ g, g = w1.heap.size := ⟨_, rfl⟩
    have hgE : w.heap.size ≤ gf := by rw [hg]; exact hE1.size
    have hgX : w.heap.size ≠ gf := by have := hX1.lt; omega
    have hg1 : w1.heap.size ≤ gf := by omega
    have hgl := hF0.lt
    have e12 := e2
    rw [← hg] at hF0 hgl ⊢
    clear hg hF e2 hr0 hr1 hm1z
    go_wp2_with fail
    go_loopw [11] (fun s11 wr => ∃ i : Nat, i ≤ k ∧ s11 = .int .i64 (i : Int) ∧ FrT wr gf (m.take i) ∧ Upd gf w2 wr) (fun s11 _ => k - (intOf s11).toNat)
    case atStart => exact ⟨0, Nat.zero_le _, rfl, hF0, Upd.refl _ _⟩
    case round =>
      obtain ⟨wo, rfl⟩ : ∃ wo : World, wo = wr := ⟨_, rfl⟩
      obtain ⟨i, hi, rfl, hFo, hU⟩ := hrel
      have hEo : Ext w wo := hE2.upd hU hgE
      have hE1o : Ext w1 wo := e12.upd hU hg1
      have Ko := KW.ext hEo
      by_cases hlt : i < k
      · have hltI : (i : Int) < (k : Int) := by omega
        have hltm : i < m.length := by omega
        have hltmI : (i : Int) < (m.length : Int) := by omega
        obtain ⟨A', cap', hv', hA', hc', hc63', hr'⟩ := hS.ext hE1o
        injection hv' with x1 _ x3
        subst x1 x3
        rcases hA' with ⟨_, h2, _⟩ | ⟨b, off, rfl⟩
        · rw [h2] at hltm; simp at hltm
        obtain ⟨hbl, hmm⟩ := rds_at hr' hm hltm
        have hq := hm.get i hltm
        have HT := Lib.hid (List.take_succ_eq_append_getElem hltm)
        have Hi := Lib.hid (show (m.take i).length = i by rw [List.length_take]; omega)
        generalize m[i] = q at *
        go_wp2_with (refine stop_load 23 (.tmp 40) rfl ?_)
        refine ⟨?_⟩
        refine wpList_load_mid rfl 23 (.tmp 40) rfl b (off + i * 32) (by rfl) (hcells q) _ hmm Tryd.underlying23 rfl (size32l _ hq) ?_
        simp only [Act.put, List.setIfInBounds_toArray, List.set_cons_zero, List.set_cons_succ]
        unfold hcells
        go_wp2_with fail
        change Calls _ _ #[_, sumV q] _ _
        refine (frtAdd_calls gf (m.take i) q (hm.take i) hq (by rw [Hi.out]; omega) _ Ko hFo).mono ?_; rw [Hi.out]; rintro e w9 ⟨rfl, hF9, hU9⟩
        rw [← HT.out] at hF9
        have hU2 := hU.trans hU9
        clear hmm hr' hFo hU hU9
        go_wp2_with fail
        go_roundw
        case rel => exact ⟨i + 1, by omega, by go_num, hF9, hU2⟩
        case measure => simp [intOf]; omega
      · obtain rfl : i = k := by omega
        have hXo := hX2.kept (S := fun k => k ≠ gf) (.of_upd hU (fun h => h rfl)) hgX
        have Hi := Lib.hid (show (m.take i).length = i by rw [List.length_take]; omega)
        have hmi := hm.take i
        have hzo := hU.size
        clear hX2 hU
        go_wp2_with fail
        refine (frtBytes_calls gf (m.take i) hmi (by rw [Hi.out]; omega) _ hFo).mono ?_; rw [Hi.out]; rintro e w3 ⟨rfl, e3⟩
        have hpl := peaks_len (m.take i)
        rw [Hi.out] at hpl
        have hp64 := peaks_le (m.take i) (by rw [Hi.out]; omega)
        have hpa := peaks_all _ (m.take i) rfl hmi
        have hR := frRead_put i (peaksS (m.take i)) hpa (by omega) hpl
        have HR := Lib.hid hR
        have hlb : (Oct.put i ++ Oct.list (peaksS (m.take i))).length ≤ 1099511627776 := by
          have h1 := Oct.put_length i
          have h2 := Oct.need_le i
          have h3 := Oct.list_length_le 32 _ (fun s hs => Nat.le_of_eq (hpa s hs))
          rw [List.length_append]
          omega
        have hF3 := hFo.ext e3
        have hX3 := hXo.below e3 hXo.lt
        have hE3 := hEo.trans e3
        have hE13 := hE1o.trans e3
        have hz3 := e3.size
        clear hR hFo hXo hEo hE1o e3 hpl hp64
        go_wp2_with fail
        refine (frRead_calls _ hlb _).mono ?_; rw [HR.out]; rintro e w4 ⟨gg, rfl, hgg, hG, e4⟩
        have hG4 : FrT w4 gg (m.take i) := by unfold FrT; rw [Hi.out]; exact hG
        have hF4 := hF3.ext e4
        have hX4 := hX3.below e4 hX3.lt
        have hE4 := hE3.trans e4
        have hE14 := hE13.trans e4
        have hfg : gf ≠ gg := by have := hF3.lt; omega
        have hggE : w.heap.size ≤ gg := by have := hE3.size; omega
        have hgg1 : w1.heap.size ≤ gg := by have := hE13.size; omega
        have hz4 := hG4.lt
        clear hG hF3 hX3 hE3 hE13 e4 hlb HR hz3 hzo hgg
        go_wp2_with fail
        refine (frCopy_calls gf _ _ hpa (by have := peaks_le (m.take i) (by rw [Hi.out]; omega); omega) _ hF4).mono ?_; rintro e w5 ⟨gc, rfl, hgc, hC, e5⟩
        have hC5 : FrT w5 gc (m.take i) := hC
        have hF5 := hF4.ext e5
        have hG5 := hG4.ext e5
        have hX5 := hX4.below e5 hX4.lt
        have hE5 := hE4.trans e5
        have hE15 := hE14.trans e5
        have hfc : gf ≠ gc := by have := hF4.lt; omega
        have hgc2 : gg ≠ gc := by omega
        have hcE : w.heap.size ≤ gc := by have := hE4.size; omega
        have hc1 : w1.heap.size ≤ gc := by have := hE14.size; omega
        clear hC hF4 hG4 hX4 hE4 hE14 e5 hpa hz4 hgc
        obtain ⟨z, hz⟩ : ∃ z, z = rootS (m.take i) := ⟨_, rfl⟩
        have hzl : z.length = 32 := by rw [hz]; exact rootS_length _ hmi
        have Hz := Lib.hid hz
        clear hz
        go_wp2_with fail
        refine (frtRoot_calls gf (m.take i) hmi (by rw [Hi.out]; omega) _ (KW.ext hE5) hF5).mono ?_; rw [← Hz.out]; rintro e w6 ⟨rfl, e6⟩
        unfold sumV
        go_wp2_with (refine stop_store 23 (.tmp 15) (.tmp 62) rfl ?_)
        refine ⟨?_⟩
        change wpList _ _ _ _ _ (w6.alloc (.cells ((zerosB 32).map byteV).toArray 23))
        have hH70 : ArrB (w6.alloc (.cells ((zerosB 32).map byteV).toArray 23)) w6.heap.size 23 (zerosB 32) := Blk.new _ _ _
        refine wpList_store_row rfl 23 (.tmp 15) (.tmp 62) rfl w6.heap.size ((z).map byteV).toArray (by rfl) (by rfl) 23 _ hH70 (size32.trans (by simp [hzl])) (by simp [hzl, zerosB]) (by simp [byteV, Value.oneCell']) ?_
        simp only [Act.put, List.setIfInBounds_toArray, List.set_cons_zero, List.set_cons_succ]
        have hH7 : ArrB ((w6.alloc (.cells ((zerosB 32).map byteV).toArray 23)).setRow w6.heap.size ((z).map byteV).toArray) w6.heap.size 23 (z) := Blk.row hH70 _
        have e7 : Ext w6 ((w6.alloc (.cells ((zerosB 32).map byteV).toArray 23)).setRow w6.heap.size ((z).map byteV).toArray) := ((Ext.refl w6).alloc _).row (Nat.le_refl _) _
        clear hH70
        generalize (w6.alloc (.cells ((zerosB 32).map byteV).toArray 23)).setRow w6.heap.size ((z).map byteV).toArray = w7 at *
        have e67 := e6.trans e7
        have hF7 := hF5.ext e67
        have hG7 := hG5.ext e67
        have hC7 := hC5.ext e67
        have hX7 := hX5.below e67 hX5.lt
        have hE7 := hE5.trans e67
        have hE17 := hE15.trans e67
        have hhf : w6.heap.size ≠ gf := by have := (hF5.ext e6).lt; omega
        have hhg : w6.heap.size ≠ gg := by have := (hG5.ext e6).lt; omega
        have hhc : w6.heap.size ≠ gc := by have := (hC5.ext e6).lt; omega
        have hxc : w.heap.size ≠ gc := by have := hX1.lt; omega
        generalize w6.heap.size = gh at *
        clear hF5 hG5 hC5 hX5 hE5 hE15 e6 e7 e67
        go_wp2_with (refine stop_load 23 (.tmp 5) rfl ?_)
        refine ⟨?_⟩
        refine wpList_load_row rfl 23 (.tmp 5) rfl w.heap.size (by rfl) 23 _ (0, 0) _ hX7 Tryd.underlying23 rfl (size32.trans (by simp [hx])) ?_
        simp only [Act.put, List.setIfInBounds_toArray, List.set_cons_zero, List.set_cons_succ]
        go_wp2_with fail
        change Calls _ _ #[_, sumV x] _ _
        refine (frtAdd_calls gc (m.take i) x hmi hx (by rw [Hi.out]; omega) _ (KW.ext hE7) hC7).mono ?_; rintro e w8 ⟨rfl, hC8, hU8⟩
        have hF8 : FrT w8 gf (m.take i) := FrAt.upd hF7 hC7 hfc hU8
        have hG8 : FrT w8 gg (m.take i) := FrAt.upd hG7 hC7 hgc2 hU8
        have hH8 := hH7.kept (S := fun k => k ≠ gc) (.of_upd hU8 (fun h => h rfl)) hhc
        have hE8 := hE7.upd hU8 hcE
        have hE18 := hE17.upd hU8 hc1
        have Hk1 := Lib.hid (show (m.take i ++ [x]).length = i + 1 by rw [List.length_append, Hi.out]; rfl)
        clear hF7 hG7 hC7 hX7 hE7 hE17 hU8 hH7
        have hFs : ∀ y : More w8, FrT (grow w8 y) gf (m.take i) := fun y => hF8.ext (grow_ext y)
        have hCs : ∀ y : More w8, FrT (grow w8 y) gc (m.take i ++ [x]) := fun y => hC8.ext (grow_ext y)
        have hKs : ∀ y : More w8, Keys (grow w8 y) := fun y => KW.ext (hE8.trans (grow_ext y))
        have hgw := guard_sum
        have heqz := fun w : World => eq_sum z z hzl hzl w
        go_wp2_with fail
        refine region_plan 17 (Plan.run [0, 2, 1, 3, 4, 5, 7, 6, 8, 9, 10, 11, 13, 14, 12, 15, 16] .nil) (by kernel_rfl) (by kernel_rfl) (fun y0 => ?_); simp only [Plan.run, List.drop_succ_cons, List.drop_zero, List.drop_nil]
        iterate 1 (first | (refine plan_quiet (by simp only [List.getElem?_toArray, List.getElem?_cons_zero, List.getElem?_cons_succ]; rfl) (by rfl) (by rfl) (fun K hK => ?_); go_big_quiet_op; refine hK _ ?_; clear hK K) | (refine plan_skip (by simp only [List.getElem?_toArray, List.getElem?_cons_zero, List.getElem?_cons_succ]; rfl) (by rfl) ?_; simp only [Act.put, List.setIfInBounds_toArray, List.set_cons_zero, List.set_cons_succ]))
        refine plan_row (by simp only [List.getElem?_toArray, List.getElem?_cons_zero, List.getElem?_cons_succ]; rfl) (by rfl) (by rfl) 23 (.tmp 15) rfl gh (by rfl) _ _ _ hH8 Tryd.underlying23 rfl (size32.trans (by simp [hzl])) ?_
        simp only [Act.put, List.setIfInBounds_toArray, List.set_cons_zero, List.set_cons_succ]
        refine plan_one ?_
        (refine plan_loud (by simp only [List.getElem?_toArray, List.getElem?_cons_zero, List.getElem?_cons_succ]; rfl) (by rfl) (by rfl) (fun K E hK => ?_); go_big_op)
        refine (frtRoot_calls gf (m.take i) (hm.take i) (by rw [Hi.out]; omega) (grow w8 y0) (hKs _) (hFs _)).mono ?_; rw [← Hz.out]; unfold sumV; rintro e w3 ⟨rfl, hd⟩
        obtain ⟨y1, rfl⟩ := more_ext y0 hd; clear hd
        refine hK _ _ ⟨_, rfl⟩ ?_; clear hK K E
        iterate 4 (first | (refine plan_quiet (by simp only [List.getElem?_toArray, List.getElem?_cons_zero, List.getElem?_cons_succ]; rfl) (by rfl) (by rfl) (fun K hK => ?_); go_big_quiet_op; refine hK _ ?_; clear hK K) | (refine plan_skip (by simp only [List.getElem?_toArray, List.getElem?_cons_zero, List.getElem?_cons_succ]; rfl) (by rfl) ?_; simp only [Act.put, List.setIfInBounds_toArray, List.set_cons_zero, List.set_cons_succ]))
        refine plan_one ?_
        (refine plan_loud (by simp only [List.getElem?_toArray, List.getElem?_cons_zero, List.getElem?_cons_succ]; rfl) (by rfl) (by rfl) (fun K E hK => ?_); go_big_op)
        refine (frtSize_calls gf (m.take i) (grow w8 y1) (hFs _)).mono ?_; rw [Hi.out]; rintro e w3 ⟨rfl, rfl⟩
        refine hK _ _ ⟨_, rfl⟩ ?_; clear hK K E
        iterate 6 (first | (refine plan_quiet (by simp only [List.getElem?_toArray, List.getElem?_cons_zero, List.getElem?_cons_succ]; rfl) (by rfl) (by rfl) (fun K hK => ?_); go_big_quiet_op; refine hK _ ?_; clear hK K) | (refine plan_skip (by simp only [List.getElem?_toArray, List.getElem?_cons_zero, List.getElem?_cons_succ]; rfl) (by rfl) ?_; simp only [Act.put, List.setIfInBounds_toArray, List.set_cons_zero, List.set_cons_succ]))
        refine plan_one ?_
        (refine plan_loud (by simp only [List.getElem?_toArray, List.getElem?_cons_zero, List.getElem?_cons_succ]; rfl) (by rfl) (by rfl) (fun K E hK => ?_); go_big_op)
        refine (frtSize_calls gc (m.take i ++ [x]) (grow w8 y1) (hCs _)).mono ?_; rw [Hk1.out]; rintro e w3 ⟨rfl, rfl⟩
        refine hK _ _ ⟨_, rfl⟩ ?_; clear hK K E
        iterate 2 (first | (refine plan_quiet (by simp only [List.getElem?_toArray, List.getElem?_cons_zero, List.getElem?_cons_succ]; rfl) (by rfl) (by rfl) (fun K hK => ?_); go_big_quiet_op; refine hK _ ?_; clear hK K) | (refine plan_skip (by simp only [List.getElem?_toArray, List.getElem?_cons_zero, List.getElem?_cons_succ]; rfl) (by rfl) ?_; simp only [Act.put, List.setIfInBounds_toArray, List.set_cons_zero, List.set_cons_succ]))
        refine plan_nil ?_
        have hF9 := hF8.ext (grow_ext y1)
        have hG9 := hG8.ext (grow_ext y1)
        have hE9 := hE8.trans (grow_ext y1)
        have hE19 := hE18.trans (grow_ext y1)
        clear hFs hCs hKs hF8 hG8 hC8 hE8 hE18 hH8 heqz
        generalize grow w8 y1 = w9 at *
        go_wp2_with fail
        go_loopw [16] (fun s16 wr => ∃ j : Nat, i ≤ j ∧ j ≤ m.length ∧ s16 = .int .i64 (j : Int) ∧ FrT wr gf (m.take j) ∧ FrT wr gg (m.take j) ∧ Keep (fun b => b < w9.heap.size ∧ b ≠ gf ∧ b ≠ gg) w9 wr) (fun s16 _ => m.length - (intOf s16).toNat)
        case atStart => exact ⟨i, Nat.le_refl _, hkm, rfl, hF9, hG9, Keep.refl _ _⟩
        case round =>
          obtain ⟨wp, rfl⟩ : ∃ wp : World, wp = wr := ⟨_, rfl⟩
          obtain ⟨j, hij, hjm, rfl, hF, hG, hKp⟩ := hrel
          have hz9 := hE9.size
          have hz19 := hE19.size
          have hEp : Ext w wp := ((Keep.of_ext (S := fun b => b < w.heap.size) hE9).trans (hKp.mono (fun b _ hb => ⟨by omega, by omega, by omega⟩))).ext
          have hE1p : Ext w1 wp := ((Keep.of_ext (S := fun b => b < w1.heap.size) hE19).trans (hKp.mono (fun b _ hb => ⟨by omega, by omega, by omega⟩))).ext
          by_cases hlt : j < m.length
          · have hltI : (j : Int) < (m.length : Int) := by omega
            obtain ⟨A', cap', hv', hA', hc', hc63', hr'⟩ := hS
            injection hv' with x1 _ x3
            subst x1 x3
            rcases hA' with ⟨_, h2, _⟩ | ⟨b, off, rfl⟩
            · rw [h2] at hlt; simp at hlt
            obtain ⟨hbl, hmm⟩ := rds_at hr' hm hlt
            have hmp := range_ext hmm hE1p hbl
            have hbp : b < wp.heap.size := by have := hE1p.size; omega
            have hbf : b ≠ gf := by omega
            have hbg : b ≠ gg := by omega
            have hq := hm.get j hlt
            have HT := Lib.hid (List.take_succ_eq_append_getElem hlt)
            have Hj := Lib.hid (show (m.take j).length = j by rw [List.length_take]; omega)
            have hmj := hm.take j
            have Hj1 := Lib.hid (show (m.take (j + 1)).length = j + 1 by rw [List.length_take]; omega)
            have hmj1 := hm.take (j + 1)
            generalize m[j] = q at *
            obtain ⟨y, hy⟩ : ∃ y, y = rootS (m.take (j + 1)) := ⟨_, rfl⟩
            have hyl : y.length = 32 := by rw [hy]; exact rootS_length _ hmj1
            have Hy := Lib.hid hy
            obtain ⟨bb, hb⟩ : ∃ bb, bb = Oct.put (j + 1) ++ Oct.list (peaksS (m.take (j + 1))) := ⟨_, rfl⟩
            have Hb := Lib.hid hb
            have heqy := fun w : World => eq_sum y y hyl hyl w
            have HEx : Hid (∀ z, Keep (fun b => b < wp.heap.size ∧ b ≠ gf ∧ b ≠ gg) wp z → Ext w z) := Lib.hid (fun z hz => ((Keep.of_ext (S := fun b => b < w.heap.size) hEp).trans (hz.mono (fun b _ hb => ⟨by have := hEp.size; omega, by omega, by omega⟩))).ext)
            clear hy hb hmm hr' hE1p hEp
            go_wp2_with fail
            refine region_keep0 (fun b => b < wp.heap.size ∧ b ≠ gf ∧ b ≠ gg) (by kernel_rfl) (by kernel_rfl) ?_
            have hK0 : Keep (fun b => b < wp.heap.size ∧ b ≠ gf ∧ b ≠ gg) wp wp.drew := (Keep.refl _ wp).drew
            have hF := hF.ext (Ext.refl wp).drew
            have hG := hG.ext (Ext.refl wp).drew
            iterate 4 (first | (refine mix_quiet (by rfl) (by rfl) (fun K hK => ?_); go_big_quiet_op; refine hK _ ?_; clear hK K) | (refine mix_skip (by rfl) ?_; simp only [Act.put, List.setIfInBounds_toArray, List.set_cons_zero, List.set_cons_succ]))
            refine held_mid (by rfl) (by rfl) 23 (.tmp 93) rfl b (off + j * 32) (by rfl) _ _ hmp hbp ⟨hbp, hbf, hbg⟩ Tryd.underlying23 rfl (size32l _ hq) ?_
            simp only [Act.put, List.setIfInBounds_toArray, List.set_cons_zero, List.set_cons_succ]
            (refine mix_loud (by rfl) (by rfl) (fun K E hK => ?_); go_big_op)
            change Calls _ _ #[_, sumV q] _ _
            refine (frtAdd_calls gf (m.take j) q hmj hq (by rw [Hj.out]; omega) _ (KW.ext (HEx.out _ hK0)) hF).mono ?_; rw [Hj.out, ← HT.out]; rintro e wa ⟨rfl, hFa, hUa⟩
            have hGa : FrT wa gg (m.take j) := FrAt.upd hG hF (Ne.symm hfg) hUa
            have hKa := hK0.trans (Keep.of_upd (S := fun b => b < wp.heap.size ∧ b ≠ gf ∧ b ≠ gg) hUa (fun h => h.2.1 rfl))
            clear hF hG hUa hK0
            refine hK _ _ (held_of hKa) ?_; clear hK K E
            iterate 4 (first | (refine mix_quiet (by rfl) (by rfl) (fun K hK => ?_); go_big_quiet_op; refine hK _ ?_; clear hK K) | (refine mix_skip (by rfl) ?_; simp only [Act.put, List.setIfInBounds_toArray, List.set_cons_zero, List.set_cons_succ]))
            refine held_mid (by rfl) (by rfl) 23 (.tmp 99) rfl b (off + j * 32) (by rfl) _ _ hmp hbp ⟨hbp, hbf, hbg⟩ Tryd.underlying23 rfl (size32l _ hq) ?_
            simp only [Act.put, List.setIfInBounds_toArray, List.set_cons_zero, List.set_cons_succ]
            (refine mix_loud (by rfl) (by rfl) (fun K E hK => ?_); go_big_op)
            change Calls _ _ #[_, sumV q] _ _
            refine (frtAdd_calls gg (m.take j) q hmj hq (by rw [Hj.out]; omega) _ (KW.ext (HEx.out _ hKa)) hGa).mono ?_; rw [Hj.out, ← HT.out]; rintro e wb ⟨rfl, hGb, hUb⟩
            have hFb : FrT wb gf (m.take (j + 1)) := FrAt.upd hFa hGa hfg hUb
            have hKb := hKa.trans (Keep.of_upd (S := fun b => b < wp.heap.size ∧ b ≠ gf ∧ b ≠ gg) hUb (fun h => h.2.2 rfl))
            clear hFa hGa hUb hKa
            refine hK _ _ (held_of hKb) ?_; clear hK K E
            repeat (first | (refine mix_quiet (by rfl) (by rfl) (fun K hK => ?_); go_big_quiet_op; refine hK _ ?_; clear hK K) | (refine mix_skip (by rfl) ?_; simp only [Act.put, List.setIfInBounds_toArray, List.set_cons_zero, List.set_cons_succ]))
            (refine mix_loud (by rfl) (by rfl) (fun K E hK => ?_); go_big_op)
            refine (frtRoot_calls gf (m.take (j + 1)) hmj1 (by rw [Hj1.out]; omega) _ (KW.ext (HEx.out _ hKb)) hFb).mono ?_; rw [← Hy.out]; unfold sumV; rintro e wc ⟨rfl, ec⟩
            have hFc := hFb.ext ec; have hGc := hGb.ext ec; have hKc := hKb.trans (Keep.of_ext ec)
            clear hFb hGb hKb ec
            refine hK _ _ (held_of hKc) ?_; clear hK K E
            repeat (first | (refine mix_quiet (by rfl) (by rfl) (fun K hK => ?_); go_big_quiet_op; refine hK _ ?_; clear hK K) | (refine mix_skip (by rfl) ?_; simp only [Act.put, List.setIfInBounds_toArray, List.set_cons_zero, List.set_cons_succ]))
            (refine mix_loud (by rfl) (by rfl) (fun K E hK => ?_); go_big_op)
            refine (frtRoot_calls gg (m.take (j + 1)) hmj1 (by rw [Hj1.out]; omega) _ (KW.ext (HEx.out _ hKc)) hGc).mono ?_; rw [← Hy.out]; unfold sumV; rintro e wd ⟨rfl, ed⟩
            have hFd := hFc.ext ed; have hGd := hGc.ext ed; have hKd := hKc.trans (Keep.of_ext ed)
            clear hFc hGc hKc ed
            refine hK _ _ (held_of hKd) ?_; clear hK K E
            repeat (first | (refine mix_quiet (by rfl) (by rfl) (fun K hK => ?_); go_big_quiet_op; refine hK _ ?_; clear hK K) | (refine mix_skip (by rfl) ?_; simp only [Act.put, List.setIfInBounds_toArray, List.set_cons_zero, List.set_cons_succ]))
            (refine mix_loud (by rfl) (by rfl) (fun K E hK => ?_); go_big_op)
            refine (frtBytes_calls gf (m.take (j + 1)) hmj1 (by rw [Hj1.out]; omega) _ hFd).mono ?_; rw [Hj1.out, ← Hb.out]; rintro e we ⟨rfl, ee⟩
            have hFe := hFd.ext ee; have hGe := hGd.ext ee; have hKe := hKd.trans (Keep.of_ext ee)
            clear hFd hGd hKd ee
            refine hK _ _ (held_of hKe) ?_; clear hK K E
            repeat (first | (refine mix_quiet (by rfl) (by rfl) (fun K hK => ?_); go_big_quiet_op; refine hK _ ?_; clear hK K) | (refine mix_skip (by rfl) ?_; simp only [Act.put, List.setIfInBounds_toArray, List.set_cons_zero, List.set_cons_succ]))
            (refine mix_loud (by rfl) (by rfl) (fun K E hK => ?_); go_big_op)
            refine (frtBytes_calls gg (m.take (j + 1)) hmj1 (by rw [Hj1.out]; omega) _ hGe).mono ?_; rw [Hj1.out, ← Hb.out]; rintro e wg ⟨rfl, eg⟩
            have hFg := hFe.ext eg; have hGg := hGe.ext eg; have hKg := hKe.trans (Keep.of_ext eg)
            clear hFe hGe hKe eg
            refine hK _ _ (held_of hKg) ?_; clear hK K E
            repeat (first | (refine mix_quiet (by rfl) (by rfl) (fun K hK => ?_); go_big_quiet_op; refine hK _ ?_; clear hK K) | (refine mix_skip (by rfl) ?_; simp only [Act.put, List.setIfInBounds_toArray, List.set_cons_zero, List.set_cons_succ]))
            refine mix_nil ?_
            have hKz := hKp.trans (hKg.mono (fun b hb h => ⟨by have := hKp.size; omega, h.2.1, h.2.2⟩))
            clear hmp heqy hKg hKp
            go_wp2_with fail
            go_roundw
            case rel =>
              repeat apply Exists.intro
              refine ⟨?_, rfl⟩
              exact ⟨j + 1, by omega, by omega, by go_num, hFg, hGg, hKz⟩
            case measure => simp [intOf]; omega
          · obtain rfl : j = m.length := by omega
            rw [List.take_length] at hF
            go_wp2_with fail
            refine (frtSize_calls gf m _ hF).mono ?_; rintro e w10 ⟨rfl, rfl⟩
            go_wp2_with fail
            go_ret
            exact ⟨rfl, hEp⟩

set_option maxRecDepth 100000 in
theorem contract (H : Type) (enc : TypeId × Value → H) (W : World) (base : Nat) (args : Array Value) (ds gs : List (DataW H)) (before : List MemPlace)
    (hval0 : ∀ (j : Nat) t v, Tryd.f16.params[j]? = some t → args[j]? = some v → Value.okWide Tryd.prog W .any base t v)
    (hW : DataW.Whole enc Tryd.prog Tryd.f16.params.toList Rows.frontBackSpec.vars false W args.toList ds gs before) (hL : laidMetH Tryd.prog Rows.frontBackRow.laid W) :
    Calls Tryd.prog 16 args W fun e W' => ∃ v, e = .returned v ∧ Rows.frontBackSpec.post enc Tryd.prog Tryd.f16 false true false false W args v W' := by
  have K : Keys W := keys_of hL
  have hval : ∀ (j : Nat) t v, Tryd.f16.params[j]? = some t → args[j]? = some v → Value.okWide Tryd.prog W .any base t v := hval0
  have hW' := hW
  obtain ⟨p, q, hA0, hV, rfl, hfz, hnd⟩ := hW
  have hA : DataW.TrodAll enc Tryd.prog W 0 (fun _ => true) true Tryd.f16.params.toList args.toList ds p := hA0
  rw [Tryd.params16] at hA hval
  obtain ⟨v0, vs0, d0, ds0, p0, q0, hargs, rfl, rfl, hx0, r0⟩ := trodAll_cons hA
  obtain ⟨v1, vs1, d1, ds1, p1, q1, rfl, rfl, rfl, hx1, r1⟩ := trodAll_cons r0
  obtain ⟨v2, vs2, d2, ds2, p2, q2, rfl, rfl, rfl, hx2, r2⟩ := trodAll_cons r1
  obtain ⟨rfl, rfl, rfl⟩ := trodAll_nil r2
  obtain rfl : args = #[v0, v1, v2] := by cases args; simp_all
  obtain ⟨rfl, rfl⟩ := trodVars_none hV
  obtain ⟨l, hls, hla⟩ := op_sls (hval 0 29 v0 rfl rfl) (tr_of hx0)
  obtain ⟨n, rfl, hn0, hn1⟩ := op_int (hval 1 3 v1 rfl rfl) (tr_of hx1)
  obtain ⟨x, rfl, hx⟩ := op_sum (hval 2 23 v2 rfl rfl) (tr_of hx2)
  refine (walk v0 l n x hla hn0 hn1 hx W K hls).mono fun e W' ⟨he, hg⟩ => ?_
  subst he
  exact ⟨_, rfl, law_post hW' rfl rfl (by kernel_rfl) rfl rfl rfl hg⟩

theorem laid_met (os : Os) : laidMet Tryd.prog Rows.frontBackRow.laid ((keysWorld os).forCall (fun _ _ => 0) ⟨#[], #[.slice none 0 0, .int .i64 0, .agg #[.int .u8 0, .int .u8 0, .int .u8 0, .int .u8 0, .int .u8 0, .int .u8 0, .int .u8 0, .int .u8 0, .int .u8 0, .int .u8 0, .int .u8 0, .int .u8 0, .int .u8 0, .int .u8 0, .int .u8 0, .int .u8 0, .int .u8 0, .int .u8 0, .int .u8 0, .int .u8 0, .int .u8 0, .int .u8 0, .int .u8 0, .int .u8 0, .int .u8 0, .int .u8 0, .int .u8 0, .int .u8 0, .int .u8 0, .int .u8 0, .int .u8 0, .int .u8 0]], []⟩).memory :=
  laidMet_of_run' 8 (by kernel_rfl) (by kernel_rfl)
theorem reads (os : Os) {H : Type} (enc : TypeId × Value → H) : ∃ x, DataW.whole enc Tryd.prog ((keysWorld os).forCall (fun _ _ => 0) ⟨#[], #[.slice none 0 0, .int .i64 0, .agg #[.int .u8 0, .int .u8 0, .int .u8 0, .int .u8 0, .int .u8 0, .int .u8 0, .int .u8 0, .int .u8 0, .int .u8 0, .int .u8 0, .int .u8 0, .int .u8 0, .int .u8 0, .int .u8 0, .int .u8 0, .int .u8 0, .int .u8 0, .int .u8 0, .int .u8 0, .int .u8 0, .int .u8 0, .int .u8 0, .int .u8 0, .int .u8 0, .int .u8 0, .int .u8 0, .int .u8 0, .int .u8 0, .int .u8 0, .int .u8 0, .int .u8 0, .int .u8 0]], []⟩).memory Tryd.f16.params.toList Rows.frontBackSpec.vars false (#[.slice none 0 0, .int .i64 0, .agg #[.int .u8 0, .int .u8 0, .int .u8 0, .int .u8 0, .int .u8 0, .int .u8 0, .int .u8 0, .int .u8 0, .int .u8 0, .int .u8 0, .int .u8 0, .int .u8 0, .int .u8 0, .int .u8 0, .int .u8 0, .int .u8 0, .int .u8 0, .int .u8 0, .int .u8 0, .int .u8 0, .int .u8 0, .int .u8 0, .int .u8 0, .int .u8 0, .int .u8 0, .int .u8 0, .int .u8 0, .int .u8 0, .int .u8 0, .int .u8 0, .int .u8 0, .int .u8 0]] : Array Value).toList 8 = some x :=
  Option.isSome_iff_exists.1 (by kernel_rfl)
set_option maxRecDepth 100000 in
theorem lifted (os : Os) (started : os.Started) (H : Type) (enc : TypeId × Value → H) (F : Stop.Interp) :
    ReturnsInHanded {} Tryd.checked os 16 .any ((OpenSpec.ofChange Rows.frontBackSpec).preRow enc Tryd.prog Tryd.f16 Rows.frontBackRow.domain false Rows.frontBackRow.laid) (((OpenSpec.ofChange Rows.frontBackSpec).at F).post enc Tryd.prog Tryd.f16 false true false false) := by
  obtain ⟨x, hx⟩ := reads os enc
  refine returnsInHanded_of_row (C := Tryd.checked) (s := OpenSpec.ofChange Rows.frontBackSpec) own_ started (by kernel_rfl) Tryd.func16
    (witness_row_at (enc := enc) (C := Tryd.checked) false (keysWorld os) #[.slice none 0 0, .int .i64 0, .agg #[.int .u8 0, .int .u8 0, .int .u8 0, .int .u8 0, .int .u8 0, .int .u8 0, .int .u8 0, .int .u8 0, .int .u8 0, .int .u8 0, .int .u8 0, .int .u8 0, .int .u8 0, .int .u8 0, .int .u8 0, .int .u8 0, .int .u8 0, .int .u8 0, .int .u8 0, .int .u8 0, .int .u8 0, .int .u8 0, .int .u8 0, .int .u8 0, .int .u8 0, .int .u8 0, .int .u8 0, .int .u8 0, .int .u8 0, .int .u8 0, .int .u8 0, .int .u8 0]] rfl (by kernel_rfl) (by kernel_rfl) (by kernel_rfl)
      (OpenSpec.preRow_of_cond 8 hx rfl (fun k hk => by cases hk) (by kernel_rfl) (laid_met os))) ?_
  intro W base args ds gs before hval hW _ _ _ hL _ _
  exact contract H enc W base args ds gs before hval hW hL

theorem said : Rows.FrontBackSaid :=
  OpenClaim.holds_of_cond 16 Tryd.f16 rfl rfl rfl rfl rfl rfl rfl ⟨rfl, rfl, rfl, rfl, rfl⟩ rfl rfl rfl rfl rfl (by kernel_rfl) Tryd.func16 (by kernel_rfl)
    (of_decide_eq_true (by kernel_rfl)) (by unfold Func.isWrapper; first | (rw [if_pos (by decide +kernel)]; kernel_rfl) | (rw [if_neg (by decide +kernel)]; exact ⟨rfl, rfl⟩))
    (fun os started H enc _ F => by rw [OpenClaim.pre_eq_preRow]; exact lifted os started H enc F)
theorem plain (f : FuncId) (fn : Func) (hf : Tryd.pinned.checked.prog.funcNamed "scrinium/scriniumlaw11.FrontBack" = some f) (hfn : Tryd.pinned.checked.prog.funcs[f]? = some fn) :
    false = Tryd.pinned.checked.prog.looks [] ∧ ∀ (j : Nat) t, fn.params[j]? = some t → Tryd.pinned.checked.prog.wantsStandIn t = false := by
  obtain rfl : f = 16 := Option.some.inj ((show Tryd.prog.funcNamed "scrinium/scriniumlaw11.FrontBack" = some 16 by kernel_rfl).symm.trans hf) |>.symm
  obtain rfl : fn = Tryd.f16 := (Option.some.inj (Tryd.func16.symm.trans hfn)).symm
  refine ⟨by kernel_rfl, fun j t ht => ?_⟩
  rw [Tryd.params16] at ht
  have hm : t ∈ ([29, 3, 23] : List TypeId) := by simpa using Array.mem_of_getElem? ht
  have hall : (([29, 3, 23] : List TypeId).all fun u => !Tryd.prog.wantsStandIn u) = true := by kernel_rfl
  exact (show Tryd.prog.wantsStandIn t = false by simpa using List.all_eq_true.1 hall t hm)
theorem proved : Rows.FrontBackCardSaid :=
  Claim7.holds_tied_plain_at .later [] _ _ _ _ said (fun _ h => by cases h) (by kernel_rfl) (fun _ h => by cases h) frontBack_row_tie rfl ⟨rfl, rfl⟩ (by kernel_rfl) rfl plain (by kernel_rfl)

end Go.Proofs.YtlcimlencoaiiaaDoor.frontBack
