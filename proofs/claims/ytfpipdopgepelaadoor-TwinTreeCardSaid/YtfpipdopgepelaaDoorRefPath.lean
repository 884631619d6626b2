/-
  The walks of the document's path, Path, links and Links.
-/
import Derived.Test.YtfpipdopgepelaaDoorSls12
import Derived.Test.YtfpipdopgepelaaDoorLeaf7
set_option linter.unusedVariables false
set_option maxRecDepth 100000
set_option linter.unusedSimpArgs false
namespace Go.Proofs.YtfpipdopgepelaaDoor
open Go.RowKit
attribute [local go_sem] bs_size bs_toList2 bs_append bs_extract_end bs_extract_begin bs_get wrap64_b grow_cell grow_frozen

/-- The path of a leaf, the links, over hashes. -/
abbrev pathS (l : List (List UInt8)) (m : Nat) : List (List UInt8) := Way.path nodeB emptyB l m
abbrev linksS (l : List (List UInt8)) (m : Nat) (whole : Bool) : List (List UInt8) := Way.linksF nodeB emptyB l.length l m whole
theorem pathS_le (l : List (List UInt8)) (m : Nat) : (pathS l m).length ≤ l.length := by
  rw [Way.path_length nodeB emptyB l.length l m rfl]
  exact Way.down_length false _ _
theorem linksF_le : ∀ (f : Nat) (l : List (List UInt8)) (m : Nat) (whole : Bool), (Way.linksF nodeB emptyB f l m whole).length ≤ f + 1
  | 0, l, m, whole => by unfold Way.linksF; split <;> (try split) <;> simp
  | f + 1, l, m, whole => by
    unfold Way.linksF
    split
    · split <;> simp
    · split
      · have := linksF_le f (l.take (Tree.split l.length)) m whole
        simp; omega
      · have := linksF_le f (l.drop (Tree.split l.length)) (m - Tree.split l.length) false
        simp; omega
theorem path_all : ∀ (n : Nat) (l : List (List UInt8)) (m : Nat), l.length = n → AllH l → AllH (pathS l m)
  | n, l, m, hn, hl => by
    by_cases h1 : n < 2
    · rw [pathS, Way.path_short nodeB emptyB l m (by omega)]; exact AllH.nil
    · have h3 := Tree.split_lt n (by omega)
      have h4 := Tree.split_pos n (by omega)
      by_cases h2 : m < Tree.split l.length
      · rw [pathS, Way.path_first nodeB emptyB l m (by omega) h2]
        intro x hx
        rcases List.mem_append.1 hx with hx | hx
        · exact path_all (Tree.split n) _ m (by rw [List.length_take, hn]; omega) (hl.take _) x hx
        · rw [List.mem_singleton.1 hx]; exact rootS_length _ (hl.drop _)
      · rw [pathS, Way.path_others nodeB emptyB l m (by omega) h2]
        intro x hx
        rcases List.mem_append.1 hx with hx | hx
        · exact path_all (n - Tree.split n) _ _ (by rw [List.length_drop, hn]) (hl.drop _) x hx
        · rw [List.mem_singleton.1 hx]; exact rootS_length _ (hl.take _)
  termination_by n => n
theorem linksF_all : ∀ (f : Nat) (l : List (List UInt8)) (m : Nat) (whole : Bool), AllH l → AllH (Way.linksF nodeB emptyB f l m whole)
  | 0, l, m, whole, hl => by
    unfold Way.linksF
    split
    · split
      · exact AllH.nil
      · exact AllH.cons (rootS_length _ hl) AllH.nil
    · exact AllH.nil
  | f + 1, l, m, whole, hl => by
    unfold Way.linksF
    split
    · split
      · exact AllH.nil
      · exact AllH.cons (rootS_length _ hl) AllH.nil
    · split
      · intro x hx
        rcases List.mem_append.1 hx with hx | hx
        · exact linksF_all f _ m whole (hl.take _) x hx
        · rw [List.mem_singleton.1 hx]; exact rootS_length _ (hl.drop _)
      · intro x hx
        rcases List.mem_append.1 hx with hx | hx
        · exact linksF_all f _ _ false (hl.drop _) x hx
        · rw [List.mem_singleton.1 hx]; exact rootS_length _ (hl.take _)
theorem own_sum (W : World) (z : List UInt8) (hz : z.length = 32) (base : Nat) (hb : base ≤ W.heap.size) : (W.alloc (.cells (flatS [z]).toArray 23)).ownsRow base 23 32 (.slice (some ⟨W.heap.size, 0, none⟩) 1 1) 1 (flatS [z]) :=
  ⟨by rw [flatS_length _ (AllH.cons hz AllH.nil)]; rfl, .inr ⟨W.heap.size, 1, (flatS [z]).toArray, rfl, hb, Blk.new _ _ _, Nat.le_refl _, by unfold maxLen; omega, by rw [List.size_toArray, flatS_length _ (AllH.cons hz AllH.nil)]; rfl, by rw [List.take_of_length_le (by rw [flatS_length _ (AllH.cons hz AllH.nil)]; simp)]⟩⟩

set_option maxHeartbeats 2000000 in
theorem refpath_all : ∀ (n : Nat) (v : Value) (l : List (List UInt8)) (m : Nat), l.length = n → n ≤ 100000 → m < n → AllH l → ∀ (w : World), SlS w w.heap.size v l →
    Calls Tryd.prog 55 #[v, .int .i64 (m : Int)] w fun e w' => ∃ v', e = .returned v' ∧ w'.ownsRow w.heap.size 23 32 v' (pathS l m).length (flatS (pathS l m)) ∧ Ext w w' := by
  intro n
  induction n using Nat.strongRecOn with
  | ind n ih =>
    intro v l m hn hn2 hmn hl w hS
    subst hn
    obtain ⟨P, hP⟩ : ∃ P, P = pathS l m := ⟨_, rfl⟩
    rw [← hP]
    obtain ⟨A, cap, rfl, hA0, hc, hc63, hr⟩ := hS
    by_cases h1 : l.length < 2
    · have hb1 : ((l.length : Int) == 1) = true := by rw [beq_iff_eq]; omega
      have HP := Lib.hid (hP.trans (Way.path_short nodeB emptyB l m (by omega)))
      clear hP ih
      go_enter Tryd.func55, Tryd.ntmps55
      go_wp2_with fail
      go_ret
      exact ⟨_, rfl, by rw [HP.out]; exact World.ownsRow_nil _ _ _ _, Ext.refl _⟩
    · have hb1 : ((l.length : Int) == 1) = false := by rw [beq_eq_false_iff_ne]; omega
      rcases hA0 with ⟨_, hl0, _⟩ | ⟨b, off, rfl⟩
      · rw [hl0] at hmn; simp at hmn
      have hsl := Tree.split_lt l.length (by omega)
      have hsp := Tree.split_pos l.length (by omega)
      have HSp := Lib.hid (splitI_nat l.length (by omega))
      by_cases hk : m < Tree.split l.length
      · have HP := Lib.hid (hP.trans (Way.path_first nodeB emptyB l m (by omega) hk))
        have hml := pathS_le (l.take (Tree.split l.length)) m
        rw [List.length_take] at hml
        clear hP
        generalize Tree.split l.length = k at *
        have dk : (m : Int) < (k : Int) := by omega
        have hkI : (k : Int) ≤ (l.length : Int) := by omega
        have hkcI : (k : Int) ≤ (cap : Int) := by omega
        have hta := hl.take k
        have hdr := hl.drop k
        have Ih := Lib.hid (ih k (by omega) (.slice (some ⟨b, off, none⟩) k cap) (l.take k) m (by simp; omega) (by omega) (by omega) hta)
        clear ih
        go_enter Tryd.func55, Tryd.ntmps55
        go_wp2_with fail
        refine (refSplit_calls (l.length : Int) (by omega) (by omega) _).mono ?_; rw [HSp.out]; rintro e w2 ⟨rfl, rfl⟩
        have hS1 : ∀ y : More w, SlS (grow w y) (grow w y).heap.size (.slice (some ⟨b, off, none⟩) k cap) (l.take k) := fun y => (sls_take hl hc hc63 (hr.below (grow_ext y) (Nat.le_refl _)) k (by omega)).more (grow_ext y).size
        have hS2 : ∀ y : More w, SlS (grow w y) (grow w y).heap.size (.slice (some ⟨b, off + k * 32, none⟩) (l.length - k) (cap - k)) (l.drop k) := fun y => (sls_drop hl hc hc63 (hr.below (grow_ext y) (Nat.le_refl _)) k).more (grow_ext y).size
        go_wp2_with fail
        refine region_mix 10 (by kernel_rfl) (by kernel_rfl) (fun x => ?_); simp only [List.take_succ_cons, List.take_zero, List.drop_succ_cons, List.drop_zero]
        repeat (first | (refine mix_quiet (by rfl) (by rfl) (fun K hK => ?_); go_big_quiet_op; refine hK _ ?_; clear hK K) | (refine mix_skip (by rfl) ?_; simp only [Act.put, List.setIfInBounds_toArray, List.set_cons_zero, List.set_cons_succ]))
        (refine mix_loud (by rfl) (by rfl) (fun K E hK => ?_); go_big_op)
        refine (Ih.out _ (hS1 _)).mono ?_; rintro e w3 ⟨v3, rfl, hO, hd'⟩
        have hO1 := owns_base hO (B' := w.heap.size) (grow_ext _).size
        clear hO
        obtain ⟨x', rfl⟩ := more_ext _ hd'
        clear hd'
        refine hK _ _ ⟨_, rfl⟩ ?_; clear hK K E
        repeat (first | (refine mix_quiet (by rfl) (by rfl) (fun K hK => ?_); go_big_quiet_op; refine hK _ ?_; clear hK K) | (refine mix_skip (by rfl) ?_; simp only [Act.put, List.setIfInBounds_toArray, List.set_cons_zero, List.set_cons_succ]))
        (refine mix_loud (by rfl) (by rfl) (fun K E hK => ?_); go_big_op)
        refine (refRoot_calls _ (l.drop k) hdr _ (hS2 _)).mono ?_; rintro e w3 ⟨rfl, hd'⟩
        have hO2 := owns_ext hO1 hd'
        clear hO1
        obtain ⟨x2, rfl⟩ := more_ext _ hd'
        clear hd'
        refine hK _ _ ⟨_, rfl⟩ ?_; clear hK K E
        refine mix_loud (by rfl) (by rfl) (fun K E hK => ?_)
        refine wp_buildSums 1 _ rfl [rootS (l.drop k)] (AllH.cons (rootS_length _ hdr) AllH.nil) rfl (by decide) (by decide) (by rfl) ?_
        obtain ⟨x3, hx3⟩ := more_of ((grow_ext x2).alloc (.cells (flatS [rootS (l.drop k)]).toArray 23))
        refine hK _ _ ⟨x3, hx3⟩ ?_; clear hK K E hx3 x3
        simp only [Act.put, List.setIfInBounds_toArray, List.set_cons_zero, List.set_cons_succ]
        refine mix_nil ?_
        have hE2 := grow_ext x2
        refine append_one rfl (.tmp 19) (.tmp 24) rfl _ (pathS (l.take k) m) (rootS (l.drop k)) rfl rfl (rootS_length _ hdr) (by omega) w.heap.size hE2.size _ rfl hO2 hE2 (Nat.le_refl _) fun A5 c5 w5 hO5 hX5 => ?_
        simp only [Act.put, List.setIfInBounds_toArray, List.set_cons_zero, List.set_cons_succ]
        clear hO2 hE2
        go_wp2_with fail
        go_ret
        exact ⟨_, rfl, by rw [HP.out, List.length_append]; exact hO5, hX5⟩
      · have HP := Lib.hid (hP.trans (Way.path_others nodeB emptyB l m (by omega) hk))
        have hml := pathS_le (l.drop (Tree.split l.length)) (m - Tree.split l.length)
        rw [List.length_drop] at hml
        clear hP
        generalize Tree.split l.length = k at *
        have dk : ¬ (m : Int) < (k : Int) := by omega
        have hkI : (k : Int) ≤ (l.length : Int) := by omega
        have hkcI : (k : Int) ≤ (cap : Int) := by omega
        have hta := hl.take k
        have hdr := hl.drop k
        have ih1 := ih (l.length - k) (by omega) (.slice (some ⟨b, off + k * 32, none⟩) (l.length - k) (cap - k)) (l.drop k) (m - k) (by simp) (by omega) (by omega) hdr
        rw [show ((m - k : Nat) : Int) = (m : Int) - (k : Int) by omega] at ih1
        have Ih := Lib.hid ih1
        clear ih ih1
        go_enter Tryd.func55, Tryd.ntmps55
        go_wp2_with fail
        refine (refSplit_calls (l.length : Int) (by omega) (by omega) _).mono ?_; rw [HSp.out]; rintro e w2 ⟨rfl, rfl⟩
        have hS1 : ∀ y : More w, SlS (grow w y) (grow w y).heap.size (.slice (some ⟨b, off, none⟩) k cap) (l.take k) := fun y => (sls_take hl hc hc63 (hr.below (grow_ext y) (Nat.le_refl _)) k (by omega)).more (grow_ext y).size
        have hS2 : ∀ y : More w, SlS (grow w y) (grow w y).heap.size (.slice (some ⟨b, off + k * 32, none⟩) (l.length - k) (cap - k)) (l.drop k) := fun y => (sls_drop hl hc hc63 (hr.below (grow_ext y) (Nat.le_refl _)) k).more (grow_ext y).size
        go_wp2_with fail
        refine region_mix 12 (by kernel_rfl) (by kernel_rfl) (fun x => ?_); simp only [List.take_succ_cons, List.take_zero, List.drop_succ_cons, List.drop_zero]
        repeat (first | (refine mix_quiet (by rfl) (by rfl) (fun K hK => ?_); go_big_quiet_op; refine hK _ ?_; clear hK K) | (refine mix_skip (by rfl) ?_; simp only [Act.put, List.setIfInBounds_toArray, List.set_cons_zero, List.set_cons_succ]))
        (refine mix_loud (by rfl) (by rfl) (fun K E hK => ?_); go_big_op)
        refine (Ih.out _ (hS2 _)).mono ?_; rintro e w3 ⟨v3, rfl, hO, hd'⟩
        have hO1 := owns_base hO (B' := w.heap.size) (grow_ext _).size
        clear hO
        obtain ⟨x', rfl⟩ := more_ext _ hd'
        clear hd'
        refine hK _ _ ⟨_, rfl⟩ ?_; clear hK K E
        repeat (first | (refine mix_quiet (by rfl) (by rfl) (fun K hK => ?_); go_big_quiet_op; refine hK _ ?_; clear hK K) | (refine mix_skip (by rfl) ?_; simp only [Act.put, List.setIfInBounds_toArray, List.set_cons_zero, List.set_cons_succ]))
        (refine mix_loud (by rfl) (by rfl) (fun K E hK => ?_); go_big_op)
        refine (refRoot_calls _ (l.take k) hta _ (hS1 _)).mono ?_; rintro e w3 ⟨rfl, hd'⟩
        have hO2 := owns_ext hO1 hd'
        clear hO1
        obtain ⟨x2, rfl⟩ := more_ext _ hd'
        clear hd'
        refine hK _ _ ⟨_, rfl⟩ ?_; clear hK K E
        refine mix_loud (by rfl) (by rfl) (fun K E hK => ?_)
        refine wp_buildSums 1 _ rfl [rootS (l.take k)] (AllH.cons (rootS_length _ hta) AllH.nil) rfl (by decide) (by decide) (by rfl) ?_
        obtain ⟨x3, hx3⟩ := more_of ((grow_ext x2).alloc (.cells (flatS [rootS (l.take k)]).toArray 23))
        refine hK _ _ ⟨x3, hx3⟩ ?_; clear hK K E hx3 x3
        simp only [Act.put, List.setIfInBounds_toArray, List.set_cons_zero, List.set_cons_succ]
        refine mix_nil ?_
        have hE2 := grow_ext x2
        refine append_one rfl (.tmp 32) (.tmp 37) rfl _ (pathS (l.drop k) (m - k)) (rootS (l.take k)) rfl rfl (rootS_length _ hta) (by omega) w.heap.size hE2.size _ rfl hO2 hE2 (Nat.le_refl _) fun A5 c5 w5 hO5 hX5 => ?_
        simp only [Act.put, List.setIfInBounds_toArray, List.set_cons_zero, List.set_cons_succ]
        clear hO2 hE2
        go_wp2_with fail
        go_ret
        exact ⟨_, rfl, by rw [HP.out, List.length_append]; exact hO5, hX5⟩

set_option maxHeartbeats 2000000 in
theorem reflinks_all : ∀ (f : Nat) (v : Value) (l : List (List UInt8)) (m : Nat) (whole : Bool), l.length ≤ f → f ≤ 100000 → 1 ≤ m → m ≤ l.length → AllH l → ∀ (w : World), SlS w w.heap.size v l →
    Calls Tryd.prog 57 #[v, .int .i64 (m : Int), .bool whole] w fun e w' => ∃ v', e = .returned v' ∧ w'.ownsRow w.heap.size 23 32 v' (Way.linksF nodeB emptyB f l m whole).length (flatS (Way.linksF nodeB emptyB f l m whole)) ∧ Ext w w'
  | 0, v, l, m, whole, hf, hf2, h1, h2, hl, w, hS => by omega
  | f + 1, v, l, m, whole, hf, hf2, h1, h2, hl, w, hS => by
    obtain ⟨P, hP⟩ : ∃ P, P = Way.linksF nodeB emptyB (f + 1) l m whole := ⟨_, rfl⟩
    rw [← hP]
    have hP2 : P = _ := hP.trans (by rw [Way.linksF])
    clear hP
    have hS0 := hS
    obtain ⟨A, cap, rfl, hA0, hc, hc63, hr⟩ := hS
    by_cases hmn : m = l.length
    · rw [if_pos hmn] at hP2
      subst hmn
      have hb1 : ((l.length : Int) == (l.length : Int)) = true := by rw [beq_iff_eq]
      have HP := Lib.hid hP2
      clear hP2
      cases whole
      · go_enter Tryd.func57, Tryd.ntmps57
        go_wp2_with fail
        refine (refRoot_calls _ l hl _ hS0).mono ?_; rintro e w2 ⟨rfl, e2⟩
        go_wp2_with (refine stop_dst 15 rfl ?_)
        refine ⟨?_⟩
        refine wpList_buildSums rfl 1 _ rfl [rootS l] (AllH.cons (rootS_length _ hl) AllH.nil) rfl (by decide) (by decide) (by rfl) ?_
        simp only [Act.put, List.setIfInBounds_toArray, List.set_cons_zero, List.set_cons_succ]
        go_wp2_with fail
        go_ret
        exact ⟨_, rfl, by rw [HP.out]; exact own_sum w2 (rootS l) (rootS_length _ hl) w.heap.size e2.size, e2.alloc _⟩
      · go_enter Tryd.func57, Tryd.ntmps57
        go_wp2_with fail
        go_ret
        exact ⟨_, rfl, by rw [HP.out]; exact World.ownsRow_nil _ _ _ _, Ext.refl _⟩
    · rw [if_neg hmn] at hP2
      have hb1 : ((m : Int) == (l.length : Int)) = false := by rw [beq_eq_false_iff_ne]; omega
      rcases hA0 with ⟨_, hl0, _⟩ | ⟨b, off, rfl⟩
      · rw [hl0] at h2; simp at h2; omega
      have hsl := Tree.split_lt l.length (by omega)
      have hsp := Tree.split_pos l.length (by omega)
      have HSp := Lib.hid (splitI_nat l.length (by omega))
      by_cases hk : m ≤ Tree.split l.length
      · rw [if_pos hk] at hP2
        have HP := Lib.hid hP2
        have hml := linksF_le f (l.take (Tree.split l.length)) m whole
        clear hP2
        generalize Tree.split l.length = k at *
        have dk : (m : Int) ≤ (k : Int) := by omega
        have hkI : (k : Int) ≤ (l.length : Int) := by omega
        have hkcI : (k : Int) ≤ (cap : Int) := by omega
        have hta := hl.take k
        have hdr := hl.drop k
        have Ih := Lib.hid (reflinks_all f (.slice (some ⟨b, off, none⟩) k cap) (l.take k) m whole (by simp; omega) (by omega) h1 (by simp; omega) hta)
        go_enter Tryd.func57, Tryd.ntmps57
        go_wp2_with fail
        refine (refSplit_calls (l.length : Int) (by omega) (by omega) _).mono ?_; rw [HSp.out]; rintro e w2 ⟨rfl, rfl⟩
        have hS1 : ∀ y : More w, SlS (grow w y) (grow w y).heap.size (.slice (some ⟨b, off, none⟩) k cap) (l.take k) := fun y => (sls_take hl hc hc63 (hr.below (grow_ext y) (Nat.le_refl _)) k (by omega)).more (grow_ext y).size
        have hS2 : ∀ y : More w, SlS (grow w y) (grow w y).heap.size (.slice (some ⟨b, off + k * 32, none⟩) (l.length - k) (cap - k)) (l.drop k) := fun y => (sls_drop hl hc hc63 (hr.below (grow_ext y) (Nat.le_refl _)) k).more (grow_ext y).size
        go_wp2_with fail
        refine region_mix 11 (by kernel_rfl) (by kernel_rfl) (fun x => ?_); simp only [List.take_succ_cons, List.take_zero, List.drop_succ_cons, List.drop_zero]
        repeat (first | (refine mix_quiet (by rfl) (by rfl) (fun K hK => ?_); go_big_quiet_op; refine hK _ ?_; clear hK K) | (refine mix_skip (by rfl) ?_; simp only [Act.put, List.setIfInBounds_toArray, List.set_cons_zero, List.set_cons_succ]))
        (refine mix_loud (by rfl) (by rfl) (fun K E hK => ?_); go_big_op)
        refine (Ih.out _ (hS1 _)).mono ?_; rintro e w3 ⟨v3, rfl, hO, hd'⟩
        have hO1 := owns_base hO (B' := w.heap.size) (grow_ext _).size
        clear hO
        obtain ⟨x', rfl⟩ := more_ext _ hd'
        clear hd'
        refine hK _ _ ⟨_, rfl⟩ ?_; clear hK K E
        repeat (first | (refine mix_quiet (by rfl) (by rfl) (fun K hK => ?_); go_big_quiet_op; refine hK _ ?_; clear hK K) | (refine mix_skip (by rfl) ?_; simp only [Act.put, List.setIfInBounds_toArray, List.set_cons_zero, List.set_cons_succ]))
        (refine mix_loud (by rfl) (by rfl) (fun K E hK => ?_); go_big_op)
        refine (refRoot_calls _ (l.drop k) hdr _ (hS2 _)).mono ?_; rintro e w3 ⟨rfl, hd'⟩
        have hO2 := owns_ext hO1 hd'
        clear hO1
        obtain ⟨x2, rfl⟩ := more_ext _ hd'
        clear hd'
        refine hK _ _ ⟨_, rfl⟩ ?_; clear hK K E
        refine mix_loud (by rfl) (by rfl) (fun K E hK => ?_)
        refine wp_buildSums 1 _ rfl [rootS (l.drop k)] (AllH.cons (rootS_length _ hdr) AllH.nil) rfl (by decide) (by decide) (by rfl) ?_
        obtain ⟨x3, hx3⟩ := more_of ((grow_ext x2).alloc (.cells (flatS [rootS (l.drop k)]).toArray 23))
        refine hK _ _ ⟨x3, hx3⟩ ?_; clear hK K E hx3 x3
        simp only [Act.put, List.setIfInBounds_toArray, List.set_cons_zero, List.set_cons_succ]
        refine mix_nil ?_
        have hE2 := grow_ext x2
        refine append_one rfl (.tmp 27) (.tmp 32) rfl _ (Way.linksF nodeB emptyB f (l.take k) m whole) (rootS (l.drop k)) rfl rfl (rootS_length _ hdr) (by omega) w.heap.size hE2.size _ rfl hO2 hE2 (Nat.le_refl _) fun A5 c5 w5 hO5 hX5 => ?_
        simp only [Act.put, List.setIfInBounds_toArray, List.set_cons_zero, List.set_cons_succ]
        clear hO2 hE2
        go_wp2_with fail
        go_ret
        exact ⟨_, rfl, by rw [HP.out, List.length_append]; exact hO5, hX5⟩
      · rw [if_neg hk] at hP2
        have HP := Lib.hid hP2
        have hml := linksF_le f (l.drop (Tree.split l.length)) (m - Tree.split l.length) false
        clear hP2
        generalize Tree.split l.length = k at *
        have dk : ¬ (m : Int) ≤ (k : Int) := by omega
        have hkI : (k : Int) ≤ (l.length : Int) := by omega
        have hkcI : (k : Int) ≤ (cap : Int) := by omega
        have hta := hl.take k
        have hdr := hl.drop k
        have ih1 := reflinks_all f (.slice (some ⟨b, off + k * 32, none⟩) (l.length - k) (cap - k)) (l.drop k) (m - k) false (by simp; omega) (by omega) (by omega) (by simp; omega) hdr
        rw [show ((m - k : Nat) : Int) = (m : Int) - (k : Int) by omega] at ih1
        have Ih := Lib.hid ih1
        clear ih1
        go_enter Tryd.func57, Tryd.ntmps57
        go_wp2_with fail
        refine (refSplit_calls (l.length : Int) (by omega) (by omega) _).mono ?_; rw [HSp.out]; rintro e w2 ⟨rfl, rfl⟩
        have hS1 : ∀ y : More w, SlS (grow w y) (grow w y).heap.size (.slice (some ⟨b, off, none⟩) k cap) (l.take k) := fun y => (sls_take hl hc hc63 (hr.below (grow_ext y) (Nat.le_refl _)) k (by omega)).more (grow_ext y).size
        have hS2 : ∀ y : More w, SlS (grow w y) (grow w y).heap.size (.slice (some ⟨b, off + k * 32, none⟩) (l.length - k) (cap - k)) (l.drop k) := fun y => (sls_drop hl hc hc63 (hr.below (grow_ext y) (Nat.le_refl _)) k).more (grow_ext y).size
        go_wp2_with fail
        refine region_mix 12 (by kernel_rfl) (by kernel_rfl) (fun x => ?_); simp only [List.take_succ_cons, List.take_zero, List.drop_succ_cons, List.drop_zero]
        repeat (first | (refine mix_quiet (by rfl) (by rfl) (fun K hK => ?_); go_big_quiet_op; refine hK _ ?_; clear hK K) | (refine mix_skip (by rfl) ?_; simp only [Act.put, List.setIfInBounds_toArray, List.set_cons_zero, List.set_cons_succ]))
        (refine mix_loud (by rfl) (by rfl) (fun K E hK => ?_); go_big_op)
        refine (Ih.out _ (hS2 _)).mono ?_; rintro e w3 ⟨v3, rfl, hO, hd'⟩
        have hO1 := owns_base hO (B' := w.heap.size) (grow_ext _).size
        clear hO
        obtain ⟨x', rfl⟩ := more_ext _ hd'
        clear hd'
        refine hK _ _ ⟨_, rfl⟩ ?_; clear hK K E
        repeat (first | (refine mix_quiet (by rfl) (by rfl) (fun K hK => ?_); go_big_quiet_op; refine hK _ ?_; clear hK K) | (refine mix_skip (by rfl) ?_; simp only [Act.put, List.setIfInBounds_toArray, List.set_cons_zero, List.set_cons_succ]))
        (refine mix_loud (by rfl) (by rfl) (fun K E hK => ?_); go_big_op)
        refine (refRoot_calls _ (l.take k) hta _ (hS1 _)).mono ?_; rintro e w3 ⟨rfl, hd'⟩
        have hO2 := owns_ext hO1 hd'
        clear hO1
        obtain ⟨x2, rfl⟩ := more_ext _ hd'
        clear hd'
        refine hK _ _ ⟨_, rfl⟩ ?_; clear hK K E
        refine mix_loud (by rfl) (by rfl) (fun K E hK => ?_)
        refine wp_buildSums 1 _ rfl [rootS (l.take k)] (AllH.cons (rootS_length _ hta) AllH.nil) rfl (by decide) (by decide) (by rfl) ?_
        obtain ⟨x3, hx3⟩ := more_of ((grow_ext x2).alloc (.cells (flatS [rootS (l.take k)]).toArray 23))
        refine hK _ _ ⟨x3, hx3⟩ ?_; clear hK K E hx3 x3
        simp only [Act.put, List.setIfInBounds_toArray, List.set_cons_zero, List.set_cons_succ]
        refine mix_nil ?_
        have hE2 := grow_ext x2
        refine append_one rfl (.tmp 40) (.tmp 45) rfl _ (Way.linksF nodeB emptyB f (l.drop k) (m - k) false) (rootS (l.take k)) rfl rfl (rootS_length _ hta) (by omega) w.heap.size hE2.size _ rfl hO2 hE2 (Nat.le_refl _) fun A5 c5 w5 hO5 hX5 => ?_
        simp only [Act.put, List.setIfInBounds_toArray, List.set_cons_zero, List.set_cons_succ]
        clear hO2 hE2
        go_wp2_with fail
        go_ret
        exact ⟨_, rfl, by rw [HP.out, List.length_append]; exact hO5, hX5⟩

theorem refPath_calls (v : Value) (l : List (List UInt8)) (m : Nat) (hll : l.length ≤ 100000) (hm : m < l.length) (hl : AllH l) (w : World) (hS : SlS w w.heap.size v l) :
    Calls Tryd.prog 25 #[v, .int .i64 (m : Int)] w fun e w' => ∃ v', e = .returned (.tuple #[v', .bool true]) ∧ SlS w' w'.heap.size v' (pathS l m) ∧ Ext w w' := by
  have hS0 := hS
  obtain ⟨A, cap, rfl, -⟩ := hS
  have h0 : ¬ (m : Int) < 0 := by omega
  have h1 : decide ((l.length : Int) ≤ (m : Int)) = false := decide_eq_false (by omega)
  go_enter Tryd.func25, Tryd.ntmps25
  go_wp2_with fail
  refine (refpath_all l.length _ l m rfl hll hm hl w hS0).mono ?_; rintro e w2 ⟨v', rfl, hO, e2⟩
  go_wp2_with fail
  go_ret2
  exact ⟨_, rfl, (OwnS.of_own hO).sl, e2⟩
theorem refLinks_calls (v : Value) (l : List (List UInt8)) (m : Nat) (hll : l.length ≤ 100000) (h1 : 1 ≤ m) (hm : m ≤ l.length) (hl : AllH l) (w : World) (hS : SlS w w.heap.size v l) :
    Calls Tryd.prog 27 #[v, .int .i64 (m : Int)] w fun e w' => ∃ v', e = .returned (.tuple #[v', .bool true]) ∧ SlS w' w'.heap.size v' (linksS l m true) ∧ Ext w w' := by
  have hS0 := hS
  obtain ⟨A, cap, rfl, -⟩ := hS
  have h0 : ¬ (m : Int) < 1 := by omega
  have h2 : decide ((l.length : Int) < (m : Int)) = false := decide_eq_false (by omega)
  go_enter Tryd.func27, Tryd.ntmps27
  go_wp2_with fail
  refine (reflinks_all l.length _ l m true (Nat.le_refl _) hll h1 hm hl w hS0).mono ?_; rintro e w2 ⟨v', rfl, hO, e2⟩
  go_wp2_with fail
  go_ret2
  exact ⟨_, rfl, (OwnS.of_own hO).sl, e2⟩

end Go.Proofs.YtfpipdopgepelaaDoor
