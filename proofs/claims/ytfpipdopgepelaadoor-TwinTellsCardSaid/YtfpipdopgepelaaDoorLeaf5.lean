/-
  The walks of leaf.Root, of the document's Root and Same.
-/
import Derived.Test.YtfpipdopgepelaaDoorLeaf4
set_option linter.unusedVariables false
set_option maxRecDepth 100000
set_option linter.unusedSimpArgs false
namespace Go.Proofs.YtfpipdopgepelaaDoor
open Go.RowKit
attribute [local go_sem] bs_size bs_toList2 bs_append bs_extract_end bs_extract_begin bs_get wrap64_b grow_cell grow_frozen

theorem levS_length (l : List (List UInt8)) : (levS l).length = Tree.depth l.length + 1 := levK_length _ _
theorem levS_get (l : List (List UInt8)) (k : Nat) (h : k < (levS l).length) : (levS l)[k] = Tree.row nodeB l k := by simp [levS, levK]
theorem levS_last (l : List (List UInt8)) (h : l.length ≠ 0) : ∃ x, Tree.row nodeB l (Tree.depth l.length) = [x] ∧ x = rootS l := by
  have h1 := Tree.last_length nodeB l.length l rfl (by omega)
  have h2 := Tree.root_eq nodeB emptyB l.length l rfl
  unfold Tree.root at h2
  rw [if_neg h] at h2
  match hq : Tree.row nodeB l (Tree.depth l.length), h1 with
  | [x], _ =>
    rw [hq] at h2
    exact ⟨x, rfl, h2⟩

theorem sls_take {w : World} {B : Nat} {b off cap : Nat} {l : List (List UInt8)} (hl : AllH l) (hc : l.length ≤ cap) (hc63 : cap ≤ 9223372036854775807) (hr : Rd w B (some ⟨b, off, none⟩) (flatS l)) (k : Nat) (hk : k ≤ l.length) : SlS w B (.slice (some ⟨b, off, none⟩) k cap) (l.take k) :=
  ⟨_, cap, by rw [List.length_take, Nat.min_eq_left hk], .inr ⟨b, off, rfl⟩, by rw [List.length_take]; omega, hc63, rds_take hr hl k⟩
theorem sls_drop {w : World} {B : Nat} {b off cap : Nat} {l : List (List UInt8)} (hl : AllH l) (hc : l.length ≤ cap) (hc63 : cap ≤ 9223372036854775807) (hr : Rd w B (some ⟨b, off, none⟩) (flatS l)) (k : Nat) : SlS w B (.slice (some ⟨b, off + k * 32, none⟩) (l.length - k) (cap - k)) (l.drop k) :=
  ⟨_, cap - k, by rw [List.length_drop], .inr ⟨b, _, rfl⟩, by rw [List.length_drop]; omega, by omega, rds_drop hr hl k⟩

set_option maxHeartbeats 1000000 in
theorem refRoot_all : ∀ (n : Nat) (v : Value) (l : List (List UInt8)), l.length = n → AllH l → ∀ (w : World), SlS w w.heap.size v l →
    Calls Tryd.prog 26 #[v] w fun e w' => e = .returned (sumV (rootS l)) ∧ Ext w w' := by
  intro n
  induction n using Nat.strongRecOn with
  | ind n ih =>
    intro v l hn hl w h
    obtain ⟨z, hz⟩ : ∃ z, z = rootS l := ⟨_, rfl⟩
    rw [← hz]
    have hzl : z.length = 32 := by rw [hz]; exact rootS_length l hl
    have hml : (z.map byteV).toArray.size = 32 := by simp [hzl]
    have Hz := Lib.hid hz; clear hz
    obtain ⟨A, cap, rfl, hA0, hc, hc63, hr⟩ := h
    have hR0 : ArrB (w.alloc (.cells ((zerosB 32).map byteV).toArray 23)) w.heap.size 23 (zerosB 32) := Blk.new _ _ _
    have hE0 := (Ext.refl w).alloc (.cells ((zerosB 32).map byteV).toArray 23)
    unfold sumV
    by_cases hl0 : l.length = 0
    · have hb : ((l.length : Int) == 0) = true := by simp [hl0]
      have hze : z = shaOf [] := by
        rw [Hz.out, List.eq_nil_of_length_eq_zero hl0]
        rfl
      have Hze := Lib.hid hze
      clear hze hl0 hA0 hr ih hn
      go_enter Tryd.func26, Tryd.ntmps26
      go_wp2_with fail
      change Calls _ _ #[.string (bs [])] (w.alloc (.cells ((zerosB 32).map byteV).toArray 23)) _
      generalize w.alloc (.cells ((zerosB 32).map byteV).toArray 23) = w0 at *
      refine (refOf_calls [] _ (by simp)).mono ?_; rw [← Hze.out]; rintro e w2 ⟨rfl, e2⟩
      have hR2 := Blk.below hR0 e2 hR0.lt
      have hE2 := hE0.trans e2
      clear Hz Hze
      unfold sumV
      go_wp2_with (refine stop_store 23 (.tmp 2) (.tmp 7) rfl ?_)
      refine ⟨?_⟩
      refine wpList_store_row rfl 23 (.tmp 2) (.tmp 7) rfl w.heap.size _ (by rfl) (by rfl) 23 _ hR2 (size32.trans (by rw [hml])) (by rw [hml]; simp [zerosB]) (by simp [byteV, Value.oneCell']) ?_
      simp only [Act.put, List.setIfInBounds_toArray, List.set_cons_zero, List.set_cons_succ]
      go_wp2_with fail
      exact bodyPost_ret (results_cell_row rfl _ _ w.heap.size 23 _ (0, 0) _ rfl (Blk.row hR2 _) Tryd.underlying23 rfl (size32.trans (by rw [hml]))) rfl ⟨rfl, hE2.row (Nat.le_refl _) _⟩
    · have hb : ((l.length : Int) == 0) = false := by rw [beq_eq_false_iff_ne]; omega
      rcases hA0 with ⟨_, hl1, _⟩ | ⟨b, off, rfl⟩
      · rw [hl1] at hl0; simp at hl0
      have hr0 := hr.below hE0 (Nat.le_refl _)
      by_cases hl1 : l.length = 1
      · have hb1 : ((l.length : Int) == 1) = true := by rw [beq_iff_eq]; omega
        have hlt0 : (0 : Int) < (l.length : Int) := by omega
        have hlt0n : 0 < l.length := by omega
        obtain ⟨hbb, hmid⟩ := rds_at hr0 hl (show 0 < l.length by omega)
        rw [Nat.zero_mul, Nat.add_zero] at hmid
        have hz1 : z = l[0] := by
          rw [Hz.out]
          match l, hl1 with
          | [x], _ => rfl
        rw [← hz1] at hmid
        have Hz1 := Lib.hid hz1
        clear hz1 hl1 hl0 Hz ih hn
        go_enter Tryd.func26, Tryd.ntmps26
        go_wp2_with (refine stop_load 23 (.tmp 12) rfl ?_)
        refine ⟨?_⟩
        change wpList _ _ _ _ _ (w.alloc (.cells ((zerosB 32).map byteV).toArray 23))
        generalize w.alloc (.cells ((zerosB 32).map byteV).toArray 23) = w0 at *
        refine wpList_load_mid rfl 23 (.tmp 12) rfl b off (by rfl) (hcells z) _ hmid Tryd.underlying23 rfl (size32l _ hzl) ?_
        simp only [Act.put, List.setIfInBounds_toArray, List.set_cons_zero, List.set_cons_succ]
        refine wpList_store_row rfl 23 (.tmp 2) (.tmp 13) rfl w.heap.size (z.map byteV).toArray (by rfl) (by rfl) 23 _ hR0 (size32.trans (by rw [hml])) (by rw [hml]; simp [zerosB]) (by simp [byteV, Value.oneCell']) ?_
        simp only [Act.put, List.setIfInBounds_toArray, List.set_cons_zero, List.set_cons_succ]
        go_wp2_with fail
        exact bodyPost_ret (results_cell_row rfl _ _ w.heap.size 23 _ (0, 0) _ rfl (Blk.row hR0 _) Tryd.underlying23 rfl (size32.trans (by rw [hml]))) rfl ⟨rfl, hE0.row (Nat.le_refl _) _⟩
      · have hb1 : ((l.length : Int) == 1) = false := by rw [beq_eq_false_iff_ne]; omega
        have hz2 := Tree.rootR_two nodeB emptyB l (by omega)
        have hk1 := Tree.split_pos l.length (by omega)
        have hk2 := Tree.split_lt l.length (by omega)
        have hs := splitI_nat l.length (by omega)
        have Hs := Lib.hid hs
        clear hs
        generalize hk : Tree.split l.length = k at *
        have Hk := Lib.hid hk
        have hkI : (k : Int) < (l.length : Int) := by omega
        have hkc : k < cap := by omega
        have hkcI : (k : Int) < (cap : Int) := by omega
        have hzz : z = nodeB (rootS (l.take k)) (rootS (l.drop k)) := Hz.out.trans hz2
        have Hzz := Lib.hid hzz
        have hta := hl.take k
        have hdr := hl.drop k
        have ih1 := ih k (by omega) (.slice (some ⟨b, off, none⟩) k cap) (l.take k) (by simp; omega) hta
        have ih2 := ih (l.length - k) (by omega) (.slice (some ⟨b, off + k * 32, none⟩) (l.length - k) (cap - k)) (l.drop k) (by simp) hdr
        have Ih1 := Lib.hid ih1; have Ih2 := Lib.hid ih2
        clear hz2 hk hzz Hz hl0 hl1 ih hn ih1 ih2 hb hb1
        have hb : ((l.length : Int) == 0) = false := by rw [beq_eq_false_iff_ne]; omega
        have hb1 : ((l.length : Int) == 1) = false := by rw [beq_eq_false_iff_ne]; omega
        go_enter Tryd.func26, Tryd.ntmps26
        go_wp2_with fail
        change Calls _ _ _ (w.alloc (.cells ((zerosB 32).map byteV).toArray 23)) _
        generalize w.alloc (.cells ((zerosB 32).map byteV).toArray 23) = w0 at *
        refine (refSplit_calls (l.length : Int) (by omega) (by omega) _).mono ?_; rintro e w2 ⟨he, rfl⟩
        rw [Hs.out] at he
        subst he
        have hS1 : ∀ y : More w0, SlS (grow w0 y) (grow w0 y).heap.size (.slice (some ⟨b, off, none⟩) k cap) (l.take k) := fun y => (sls_take hl hc hc63 (hr0.below (grow_ext y) hE0.size) k (by omega)).more (Nat.le_trans hE0.size (grow_ext y).size)
        have hS2 : ∀ y : More w0, SlS (grow w0 y) (grow w0 y).heap.size (.slice (some ⟨b, off + k * 32, none⟩) (l.length - k) (cap - k)) (l.drop k) := fun y => (sls_drop hl hc hc63 (hr0.below (grow_ext y) hE0.size) k).more (Nat.le_trans hE0.size (grow_ext y).size)
        go_wp2_with fail
        refine region_mix 9 (by kernel_rfl) (by kernel_rfl) (fun x => ?_); simp only [List.take_succ_cons, List.take_zero, List.drop_succ_cons, List.drop_zero]
        repeat (first | (refine mix_quiet (by rfl) (by rfl) (fun K hK => ?_); go_big_quiet_op; refine hK _ ?_; clear hK K) | (refine mix_skip (by rfl) ?_; simp only [Act.put, List.setIfInBounds_toArray, List.set_cons_zero, List.set_cons_succ]))
        (refine mix_loud (by rfl) (by rfl) (fun K E hK => ?_); go_big_op)
        refine (Ih1.out _ (hS1 _)).mono ?_; rintro e w3 ⟨rfl, hd'⟩
        obtain ⟨x', rfl⟩ := more_ext _ hd'
        refine hK _ _ ⟨_, rfl⟩ ?_; clear hK K E
        repeat (first | (refine mix_quiet (by rfl) (by rfl) (fun K hK => ?_); go_big_quiet_op; refine hK _ ?_; clear hK K) | (refine mix_skip (by rfl) ?_; simp only [Act.put, List.setIfInBounds_toArray, List.set_cons_zero, List.set_cons_succ]))
        (refine mix_loud (by rfl) (by rfl) (fun K E hK => ?_); go_big_op)
        refine (Ih2.out _ (hS2 _)).mono ?_; rintro e w3 ⟨rfl, hd'⟩
        obtain ⟨x', rfl⟩ := more_ext _ hd'
        refine hK _ _ ⟨_, rfl⟩ ?_; clear hK K E
        (refine mix_loud (by rfl) (by rfl) (fun K E hK => ?_); go_big_op)
        refine (refNode_calls _ _ (rootS_length _ hta) (rootS_length _ hdr) _).mono ?_; rw [← Hzz.out]; rintro e w3 ⟨rfl, hd'⟩
        obtain ⟨x', rfl⟩ := more_ext _ hd'
        refine hK _ _ ⟨_, rfl⟩ ?_; clear hK K E
        refine mix_nil ?_
        have hR2 := Blk.grow x' hR0
        have hE2 := hE0.trans (grow_ext x')
        clear hS1 hS2 Hzz Ih1 Ih2
        unfold sumV
        refine wpList_store_row rfl 23 (.tmp 2) (.tmp 25) rfl w.heap.size (z.map byteV).toArray (by rfl) (by rfl) 23 _ hR2 (size32.trans (by rw [hml])) (by rw [hml]; simp [zerosB]) (by simp [byteV, Value.oneCell']) ?_
        simp only [Act.put, List.setIfInBounds_toArray, List.set_cons_zero, List.set_cons_succ]
        go_wp2_with fail
        exact bodyPost_ret (results_cell_row rfl _ _ w.heap.size 23 _ (0, 0) _ rfl (Blk.row hR2 _) Tryd.underlying23 rfl (size32.trans (by rw [hml]))) rfl ⟨rfl, hE2.row (Nat.le_refl _) _⟩
theorem refRoot_calls (v : Value) (l : List (List UInt8)) (hl : AllH l) (w : World) (h : SlS w w.heap.size v l) :
    Calls Tryd.prog 26 #[v] w fun e w' => e = .returned (sumV (rootS l)) ∧ Ext w w' := refRoot_all _ v l rfl hl w h

/-! ### Same -/
theorem take_eq_succ {α : Type} [DecidableEq α] (l m : List α) (k : Nat) (h1 : k < l.length) (h2 : k < m.length) (h : l.take k = m.take k) : l.take (k + 1) = m.take (k + 1) ↔ l[k] = m[k] := by
  rw [List.take_succ_eq_append_getElem h1, List.take_succ_eq_append_getElem h2, h, List.append_cancel_left_eq, List.cons.injEq]
  simp only [and_true]
set_option maxHeartbeats 1000000 in
theorem Same_calls (v v' : Value) (l m : List (List UInt8)) (hl : AllH l) (hm : AllH m) (w : World) (h : SlS w w.heap.size v l) (h' : SlS w w.heap.size v' m) :
    Calls Tryd.prog 29 #[v, v'] w fun e w' => e = .returned (.bool (decide (l = m))) ∧ Ext w w' := by
  obtain ⟨A, cap, rfl, hA0, hc, hc63, hr⟩ := h
  obtain ⟨A', cap', rfl, hA0', hc', hc63', hr'⟩ := h'
  obtain ⟨ok, hok⟩ : ∃ ok, ok = decide (l = m) := ⟨_, rfl⟩
  rw [← hok]
  have Hok := Lib.hid hok; clear hok
  by_cases hlen : l.length = m.length
  · have hb : ((l.length : Int) != (m.length : Int)) = false := by simp [hlen]
    have Hlen := Lib.hid hlen
    clear hlen
    go_enter Tryd.func29, Tryd.ntmps29
    go_wp2_with fail
    go_loopw [5] (fun s wr => ∃ k : Nat, k ≤ l.length ∧ s = .int .i64 (k : Int) ∧ l.take k = m.take k ∧ Ext w wr) (fun s _ => l.length - (intOf s).toNat)
    case atStart => exact ⟨0, by omega, rfl, by simp, Ext.refl _⟩
    case round =>
      obtain ⟨wo, rfl⟩ : ∃ wo : World, wo = wr := ⟨_, rfl⟩
      obtain ⟨k, hk, rfl, htk, hE⟩ := hrel
      have Htk := Lib.hid htk
      clear htk
      by_cases hlt : k < l.length
      · have hltm : k < m.length := by have := Hlen.out; omega
        have hit : (k : Int) < (l.length : Int) := by omega
        have hitm : (k : Int) < (m.length : Int) := by omega
        rcases hA0 with ⟨_, hl1, _⟩ | ⟨b, off, rfl⟩
        · rw [hl1] at hlt; simp at hlt
        rcases hA0' with ⟨_, hl1, _⟩ | ⟨b', off', rfl⟩
        · rw [hl1] at hltm; simp at hltm
        obtain ⟨hb1, hm1⟩ := rds_at (hr.below hE (Nat.le_refl _)) hl hlt
        obtain ⟨hb2, hm2⟩ := rds_at (hr'.below hE (Nat.le_refl _)) hm hltm
        have hbl1 : b < wo.heap.size := Nat.lt_of_lt_of_le hb1 hE.size
        have hbl2 : b' < wo.heap.size := Nat.lt_of_lt_of_le hb2 hE.size
        have hx := hl.get k hlt
        have hy := hm.get k hltm
        have hts := take_eq_succ l m k hlt hltm Htk.out
        have hne : l[k] ≠ m[k] → ok = false := fun hne => by
          rw [Hok.out, decide_eq_false_iff_not]
          rintro rfl
          exact hne rfl
        have Hts := Lib.hid hts; have Hne := Lib.hid hne
        clear hts hne
        have hgw := guard_sum
        have heq := fun w : World => eq_sum l[k] m[k] hx hy w
        by_cases hxy : l[k] = m[k]
        · have hd : decide (l[k] = m[k]) = true := by simp [hxy]
          have Hd := Lib.hid (Hts.out.2 hxy)
          clear hxy Hts Hne
          generalize l[k] = p at *
          generalize m[k] = q at *
          go_wp2_with fail
          refine region_mix0 (by kernel_rfl) (by kernel_rfl) (fun x => ?_)
          iterate 3 (first | (refine mix_quiet (by rfl) (by rfl) (fun K hK => ?_); go_big_quiet_op; refine hK _ ?_; clear hK K) | (refine mix_skip (by rfl) ?_; simp only [Act.put, List.setIfInBounds_toArray, List.set_cons_zero, List.set_cons_succ]))
          refine mix_mid (by rfl) (by rfl) 23 (.tmp 19) rfl b (off + k * 32) (by rfl) _ _ hm1 hbl1 Tryd.underlying23 rfl (size32l _ hx) ?_
          simp only [Act.put, List.setIfInBounds_toArray, List.set_cons_zero, List.set_cons_succ]
          iterate 3 (first | (refine mix_quiet (by rfl) (by rfl) (fun K hK => ?_); go_big_quiet_op; refine hK _ ?_; clear hK K) | (refine mix_skip (by rfl) ?_; simp only [Act.put, List.setIfInBounds_toArray, List.set_cons_zero, List.set_cons_succ]))
          refine mix_mid (by rfl) (by rfl) 23 (.tmp 23) rfl b' (off' + k * 32) (by rfl) _ _ hm2 hbl2 Tryd.underlying23 rfl (size32l _ hy) ?_
          simp only [Act.put, List.setIfInBounds_toArray, List.set_cons_zero, List.set_cons_succ]
          unfold hcells
          repeat (first | (refine mix_quiet (by rfl) (by rfl) (fun K hK => ?_); go_big_quiet_op; refine hK _ ?_; clear hK K) | (refine mix_skip (by rfl) ?_; simp only [Act.put, List.setIfInBounds_toArray, List.set_cons_zero, List.set_cons_succ]))
          refine mix_nil ?_
          go_wp2_with fail
          go_roundw
          case rel => exact ⟨k + 1, by omega, by go_num, Hd.out, hE.trans (grow_ext _)⟩
          case measure => simp [intOf]; omega
        · have hd : decide (l[k] = m[k]) = false := by simp [hxy]
          have hok := Hne.out hxy
          have Hk2 := Lib.hid hok
          clear hxy Hts Hne hok
          generalize l[k] = p at *
          generalize m[k] = q at *
          go_wp2_with fail
          refine region_mix0 (by kernel_rfl) (by kernel_rfl) (fun x => ?_)
          iterate 3 (first | (refine mix_quiet (by rfl) (by rfl) (fun K hK => ?_); go_big_quiet_op; refine hK _ ?_; clear hK K) | (refine mix_skip (by rfl) ?_; simp only [Act.put, List.setIfInBounds_toArray, List.set_cons_zero, List.set_cons_succ]))
          refine mix_mid (by rfl) (by rfl) 23 (.tmp 19) rfl b (off + k * 32) (by rfl) _ _ hm1 hbl1 Tryd.underlying23 rfl (size32l _ hx) ?_
          simp only [Act.put, List.setIfInBounds_toArray, List.set_cons_zero, List.set_cons_succ]
          iterate 3 (first | (refine mix_quiet (by rfl) (by rfl) (fun K hK => ?_); go_big_quiet_op; refine hK _ ?_; clear hK K) | (refine mix_skip (by rfl) ?_; simp only [Act.put, List.setIfInBounds_toArray, List.set_cons_zero, List.set_cons_succ]))
          refine mix_mid (by rfl) (by rfl) 23 (.tmp 23) rfl b' (off' + k * 32) (by rfl) _ _ hm2 hbl2 Tryd.underlying23 rfl (size32l _ hy) ?_
          simp only [Act.put, List.setIfInBounds_toArray, List.set_cons_zero, List.set_cons_succ]
          unfold hcells
          repeat (first | (refine mix_quiet (by rfl) (by rfl) (fun K hK => ?_); go_big_quiet_op; refine hK _ ?_; clear hK K) | (refine mix_skip (by rfl) ?_; simp only [Act.put, List.setIfInBounds_toArray, List.set_cons_zero, List.set_cons_succ]))
          refine mix_nil ?_
          go_wp2_with fail
          go_ret
          exact ⟨by rw [Hk2.out]; rfl, hE.trans (grow_ext _)⟩
      · obtain rfl : k = l.length := by omega
        have hlm : l = m := by
          have := Htk.out
          rwa [List.take_length, Hlen.out, List.take_length] at this
        have hok : ok = true := by rw [Hok.out]; simp [hlm]
        have Hk2 := Lib.hid hok
        clear hok hlm
        go_wp2_with fail
        go_ret
        exact ⟨by rw [Hk2.out]; rfl, hE⟩
  · have hb : ((l.length : Int) != (m.length : Int)) = true := by rw [bne_iff_ne]; omega
    have hok : ok = false := by
      rw [Hok.out, decide_eq_false_iff_not]
      rintro rfl
      exact hlen rfl
    have Hk2 := Lib.hid hok
    clear hok hlen
    go_enter Tryd.func29, Tryd.ntmps29
    go_wp2_with fail
    go_ret
    exact ⟨by rw [Hk2.out]; rfl, Ext.refl w⟩

end Go.Proofs.YtfpipdopgepelaaDoor
