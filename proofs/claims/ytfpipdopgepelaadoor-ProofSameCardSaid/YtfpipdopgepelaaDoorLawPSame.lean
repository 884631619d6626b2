/-
  scriniumlaw12.ProofSame: no condition.
-/
import Derived.Test.YtfpipdopgepelaaDoorProofM
import Derived.Test.YtfpipdopgepelaaDoorOpP
import Derived.Test.YtfpipdopgepelaaDoorEqA
import Derived.Test.YtfpipdopgepelaaDoorLaw
import Derived.Deep.DeepCutAuto
set_option linter.unusedVariables false
set_option maxRecDepth 100000
set_option linter.unusedSimpArgs false
namespace Go.Proofs.YtfpipdopgepelaaDoor.proofSame
open Go.ChangeShapes Go.WideShapes Go.ChangeAt Go.RowKit
attribute [local go_sem] bs_size bs_toList2 bs_append bs_extract_end bs_extract_begin bs_get wrap64_b grow_cell grow_frozen

/-! ### Plain law -/
theorem links_same (n : Int) (h1 : 1 ≤ n) (h2 : n ≤ 1099511627776) : Way.linksI n n = 0 := by
  unfold Way.linksI
  rw [if_neg (by omega), Way.parts_done]
  rfl
theorem links_out (n : Int) (h : ¬ (1 ≤ n ∧ n ≤ 1099511627776)) : Way.linksI n n = -1 := by
  unfold Way.linksI
  rw [if_pos (by omega)]
theorem goes_nil (a b : List UInt8) (n : Int) : goesB a n b n [] = (decide (1 ≤ n ∧ n ≤ 1099511627776) && decide (a = b)) := by
  unfold goesB bothP
  by_cases h : 1 ≤ n ∧ n ≤ 1099511627776
  · rw [links_same n h.1 h.2, if_pos (by rfl)]
    have hp : Way.parts n.toNat n.toNat = [] := Way.parts_done _
    simp [Way.both, hp, Way.wholeB, Way.bothW, h]
  · rw [links_out n h, if_neg (by simp)]
    simp [h]
theorem goes_more (a b : List UInt8) (n : Int) (l : List (List UInt8)) (hl : l ≠ []) : goesB a n b n l = false := by
  have hlen : 0 < l.length := List.length_pos_iff.2 hl
  have hne : Way.linksI n n ≠ (l.length : Int) := by
    by_cases h : 1 ≤ n ∧ n ≤ 1099511627776
    · rw [links_same n h.1 h.2]; omega
    · rw [links_out n h]; omega
  unfold goesB bothP
  rw [if_neg hne]
  rfl

/-! ### The walk -/
set_option maxHeartbeats 4000000 in
theorem walk (x : List UInt8) (hx : x.length = 32) (y : List UInt8) (hy : y.length = 32) (n : Int) (hn : -9223372036854775808 ≤ n ∧ n ≤ 9223372036854775807) (c : Value) (l : List (List UInt8)) (w : World) (KW : Keys w) (hS : SlS w w.heap.size c l) (hl : AllH l) :
    Calls Tryd.prog 9 #[sumV x, sumV y, .agg #[.int .i64 n, c]] w fun e w' => e = .returned (.bool true) ∧ Ext w w' := by
  obtain ⟨hn0, hn1⟩ := hn
  have hfx := fold_sum x hx
  have hfy := fold_sum y hy
  have hgw := guard_sum
  have heq1 := fun w : World => eq_sum x y hx hy w
  unfold sumV
  go_enter Tryd.func9, Tryd.ntmps9
  go_wp2_with fail
  have hX : ArrB (((w.alloc (.cells (x.map byteV).toArray 23)).alloc (.cells (y.map byteV).toArray 23)).alloc (.cells #[.int .i64 n, c] 52)) w.heap.size 23 x := Blk.alloc (Blk.alloc (Blk.new _ _ _) _) _
  have hY : ArrB (((w.alloc (.cells (x.map byteV).toArray 23)).alloc (.cells (y.map byteV).toArray 23)).alloc (.cells #[.int .i64 n, c] 52)) (w.heap.size + 1) 23 y := by
    have := Blk.alloc (Blk.new (w.alloc (.cells (x.map byteV).toArray 23)) 23 (y.map byteV).toArray) (.cells #[.int .i64 n, c] 52)
    rw [alloc_size] at this
    exact this
  have hR : Blk (((w.alloc (.cells (x.map byteV).toArray 23)).alloc (.cells (y.map byteV).toArray 23)).alloc (.cells #[.int .i64 n, c] 52)) (w.heap.size + 1 + 1) 52 #[.int .i64 n, c] := by
    have := Blk.new ((w.alloc (.cells (x.map byteV).toArray 23)).alloc (.cells (y.map byteV).toArray 23)) 52 #[.int .i64 n, c]
    simp only [alloc_size] at this
    exact this
  have hE : Ext w (((w.alloc (.cells (x.map byteV).toArray 23)).alloc (.cells (y.map byteV).toArray 23)).alloc (.cells #[.int .i64 n, c] 52)) := (((Ext.refl w).alloc _).alloc _).alloc _
  generalize ((w.alloc (.cells (x.map byteV).toArray 23)).alloc (.cells (y.map byteV).toArray 23)).alloc (.cells #[.int .i64 n, c] 52) = w1 at *
  refine (awake12_calls _ (KW.ext hE)).mono ?_; rintro e w4 ⟨rfl, e2⟩
  have hX := Blk.below hX e2 (Blk.lt hX)
  have hY := Blk.below hY e2 (Blk.lt hY)
  have hR := hR.below e2 hR.lt
  have hE := hE.trans e2
  have c0 : w4.cell? ⟨w.heap.size + 1 + 1, 0, none⟩ = some (.int .i64 n) := Blk.cell hR 0
  have c1 : w4.cell? ⟨w.heap.size + 1 + 1, 1, none⟩ = some c := Blk.cell hR 1
  have hS4 : SlS w4 w4.heap.size c l := hS.ext hE
  obtain ⟨Ac, lc, cc, rfl⟩ : ∃ A k cap, c = .slice A k cap := by
    obtain ⟨A, cap, h1, _⟩ := hS4
    exact ⟨A, _, cap, h1⟩
  go_wp2_with fail
  change Calls _ _ #[_, .int .i64 ((5 : Nat) : Int)] _ _
  refine (few12_calls _ l hl 5 (by omega) _ hS4).mono ?_; rintro e w5 ⟨v', rfl, hF, rfl⟩
  have hfl : AllH (l.take 5) := AllH.take hl 5
  have hf5 : (l.take 5).length ≤ 5 := by rw [List.length_take]; omega
  have hm := goes_more x x n (l.take 5)
  have hgn := goes_nil x y n
  generalize l.take 5 = f at *
  obtain ⟨Af, cf, rfl, hF2⟩ := hF
  have hF : SlS w4 w4.heap.size (.slice Af f.length cf) f := ⟨Af, cf, rfl, hF2⟩
  clear hF2 hS hS4
  obtain ⟨d, hd⟩ : ∃ d, d = decide (x = y) := ⟨_, rfl⟩
  rw [← hd] at heq1 hgn
  clear hd
  by_cases hfe : f = []
  · subst hfe
    clear hm
    by_cases h1 : 1 ≤ n
    · have d1 : decide ((1 : Int) ≤ n) = true := decide_eq_true h1
      by_cases h2 : n ≤ 1099511627776
      · have d2 : decide (n ≤ (1099511627776 : Int)) = true := decide_eq_true h2
        cases d
        · have HG := Lib.hid (show goesB x n y n [] = false by rw [hgn]; simp)
          clear hgn
          go_wp2_with (refine stop_load 23 (.tmp 3) rfl ?_)
          refine ⟨?_⟩
          refine list_want (by rfl) (fun K hK => ?_)
          refine wp_load_row 23 (.tmp 3) rfl w.heap.size (by rfl) 23 _ (0, 0) _ hX Tryd.underlying23 rfl (size32.trans (by simp [hx])) ?_
          refine hK _ _ ?_; clear hK K
          simp only [Act.put, List.setIfInBounds_toArray, List.set_cons_zero, List.set_cons_succ]
          go_wp2_with (refine stop_load 23 (.tmp 4) rfl ?_)
          refine ⟨?_⟩
          refine list_want (by rfl) (fun K hK => ?_)
          refine wp_load_row 23 (.tmp 4) rfl (w.heap.size + 1) (by rfl) 23 _ (0, 0) _ hY Tryd.underlying23 rfl (size32.trans (by simp [hy])) ?_
          refine hK _ _ ?_; clear hK K
          simp only [Act.put, List.setIfInBounds_toArray, List.set_cons_zero, List.set_cons_succ]
          go_wp2_with fail
          change Calls _ _ #[sumV x, _, sumV y, _, _] _ _
          refine (Goes_sls x y hx hy n n hn1 _ [] AllH.nil (by simp) w4 (KW.ext hE) (sls_nil _ _)).mono ?_; rw [HG.out]; rintro e w5 ⟨rfl, e5⟩
          have hX := Blk.below hX e5 (Blk.lt hX)
          have hY := Blk.below hY e5 (Blk.lt hY)
          have hE5 := hE.trans e5
          have hF5 := hF.ext e5
          clear hE e5 hF
          go_wp2_with (refine stop_load 23 (.tmp 3) rfl ?_)
          refine ⟨?_⟩
          refine list_want (by rfl) (fun K hK => ?_)
          refine wp_load_row 23 (.tmp 3) rfl w.heap.size (by rfl) 23 _ (0, 0) _ hX Tryd.underlying23 rfl (size32.trans (by simp [hx])) ?_
          refine hK _ _ ?_; clear hK K
          simp only [Act.put, List.setIfInBounds_toArray, List.set_cons_zero, List.set_cons_succ]
          go_wp2_with (refine stop_load 23 (.tmp 4) rfl ?_)
          refine ⟨?_⟩
          refine list_want (by rfl) (fun K hK => ?_)
          refine wp_load_row 23 (.tmp 4) rfl (w.heap.size + 1) (by rfl) 23 _ (0, 0) _ hY Tryd.underlying23 rfl (size32.trans (by simp [hy])) ?_
          refine hK _ _ ?_; clear hK K
          simp only [Act.put, List.setIfInBounds_toArray, List.set_cons_zero, List.set_cons_succ]
          go_wp2_with fail
          go_ret
          exact ⟨rfl, hE5⟩
        · have HG := Lib.hid (show goesB x n y n [] = true by rw [hgn]; simp [h1, h2])
          clear hgn
          go_wp2_with (refine stop_load 23 (.tmp 3) rfl ?_)
          refine ⟨?_⟩
          refine list_want (by rfl) (fun K hK => ?_)
          refine wp_load_row 23 (.tmp 3) rfl w.heap.size (by rfl) 23 _ (0, 0) _ hX Tryd.underlying23 rfl (size32.trans (by simp [hx])) ?_
          refine hK _ _ ?_; clear hK K
          simp only [Act.put, List.setIfInBounds_toArray, List.set_cons_zero, List.set_cons_succ]
          go_wp2_with (refine stop_load 23 (.tmp 4) rfl ?_)
          refine ⟨?_⟩
          refine list_want (by rfl) (fun K hK => ?_)
          refine wp_load_row 23 (.tmp 4) rfl (w.heap.size + 1) (by rfl) 23 _ (0, 0) _ hY Tryd.underlying23 rfl (size32.trans (by simp [hy])) ?_
          refine hK _ _ ?_; clear hK K
          simp only [Act.put, List.setIfInBounds_toArray, List.set_cons_zero, List.set_cons_succ]
          go_wp2_with fail
          change Calls _ _ #[sumV x, _, sumV y, _, _] _ _
          refine (Goes_sls x y hx hy n n hn1 _ [] AllH.nil (by simp) w4 (KW.ext hE) (sls_nil _ _)).mono ?_; rw [HG.out]; rintro e w5 ⟨rfl, e5⟩
          have hX := Blk.below hX e5 (Blk.lt hX)
          have hY := Blk.below hY e5 (Blk.lt hY)
          have hE5 := hE.trans e5
          have hF5 := hF.ext e5
          clear hE e5 hF
          go_wp2_with (refine stop_load 23 (.tmp 3) rfl ?_)
          refine ⟨?_⟩
          refine list_want (by rfl) (fun K hK => ?_)
          refine wp_load_row 23 (.tmp 3) rfl w.heap.size (by rfl) 23 _ (0, 0) _ hX Tryd.underlying23 rfl (size32.trans (by simp [hx])) ?_
          refine hK _ _ ?_; clear hK K
          simp only [Act.put, List.setIfInBounds_toArray, List.set_cons_zero, List.set_cons_succ]
          go_wp2_with (refine stop_load 23 (.tmp 4) rfl ?_)
          refine ⟨?_⟩
          refine list_want (by rfl) (fun K hK => ?_)
          refine wp_load_row 23 (.tmp 4) rfl (w.heap.size + 1) (by rfl) 23 _ (0, 0) _ hY Tryd.underlying23 rfl (size32.trans (by simp [hy])) ?_
          refine hK _ _ ?_; clear hK K
          simp only [Act.put, List.setIfInBounds_toArray, List.set_cons_zero, List.set_cons_succ]
          go_wp2_with fail
          go_ret
          exact ⟨rfl, hE5⟩
      · have d2 : decide (n ≤ (1099511627776 : Int)) = false := decide_eq_false h2
        have HG := Lib.hid (show goesB x n y n [] = false by rw [hgn]; simp [h2])
        clear hgn
        go_wp2_with (refine stop_load 23 (.tmp 3) rfl ?_)
        refine ⟨?_⟩
        refine list_want (by rfl) (fun K hK => ?_)
        refine wp_load_row 23 (.tmp 3) rfl w.heap.size (by rfl) 23 _ (0, 0) _ hX Tryd.underlying23 rfl (size32.trans (by simp [hx])) ?_
        refine hK _ _ ?_; clear hK K
        simp only [Act.put, List.setIfInBounds_toArray, List.set_cons_zero, List.set_cons_succ]
        go_wp2_with (refine stop_load 23 (.tmp 4) rfl ?_)
        refine ⟨?_⟩
        refine list_want (by rfl) (fun K hK => ?_)
        refine wp_load_row 23 (.tmp 4) rfl (w.heap.size + 1) (by rfl) 23 _ (0, 0) _ hY Tryd.underlying23 rfl (size32.trans (by simp [hy])) ?_
        refine hK _ _ ?_; clear hK K
        simp only [Act.put, List.setIfInBounds_toArray, List.set_cons_zero, List.set_cons_succ]
        go_wp2_with fail
        change Calls _ _ #[sumV x, _, sumV y, _, _] _ _
        refine (Goes_sls x y hx hy n n hn1 _ [] AllH.nil (by simp) w4 (KW.ext hE) (sls_nil _ _)).mono ?_; rw [HG.out]; rintro e w5 ⟨rfl, e5⟩
        have hX := Blk.below hX e5 (Blk.lt hX)
        have hY := Blk.below hY e5 (Blk.lt hY)
        have hE5 := hE.trans e5
        have hF5 := hF.ext e5
        clear hE e5 hF
        go_wp2_with fail
        go_ret
        exact ⟨rfl, hE5⟩
    · have d1 : decide ((1 : Int) ≤ n) = false := decide_eq_false h1
      have HG := Lib.hid (show goesB x n y n [] = false by rw [hgn]; simp [h1])
      clear hgn
      go_wp2_with (refine stop_load 23 (.tmp 3) rfl ?_)
      refine ⟨?_⟩
      refine list_want (by rfl) (fun K hK => ?_)
      refine wp_load_row 23 (.tmp 3) rfl w.heap.size (by rfl) 23 _ (0, 0) _ hX Tryd.underlying23 rfl (size32.trans (by simp [hx])) ?_
      refine hK _ _ ?_; clear hK K
      simp only [Act.put, List.setIfInBounds_toArray, List.set_cons_zero, List.set_cons_succ]
      go_wp2_with (refine stop_load 23 (.tmp 4) rfl ?_)
      refine ⟨?_⟩
      refine list_want (by rfl) (fun K hK => ?_)
      refine wp_load_row 23 (.tmp 4) rfl (w.heap.size + 1) (by rfl) 23 _ (0, 0) _ hY Tryd.underlying23 rfl (size32.trans (by simp [hy])) ?_
      refine hK _ _ ?_; clear hK K
      simp only [Act.put, List.setIfInBounds_toArray, List.set_cons_zero, List.set_cons_succ]
      go_wp2_with fail
      change Calls _ _ #[sumV x, _, sumV y, _, _] _ _
      refine (Goes_sls x y hx hy n n hn1 _ [] AllH.nil (by simp) w4 (KW.ext hE) (sls_nil _ _)).mono ?_; rw [HG.out]; rintro e w5 ⟨rfl, e5⟩
      have hX := Blk.below hX e5 (Blk.lt hX)
      have hY := Blk.below hY e5 (Blk.lt hY)
      have hE5 := hE.trans e5
      have hF5 := hF.ext e5
      clear hE e5 hF
      go_wp2_with fail
      go_ret
      exact ⟨rfl, hE5⟩
  · have hpos : 0 < f.length := List.length_pos_iff.2 hfe
    have dl : ((f.length : Int) == 0) = false := by rw [beq_eq_false_iff_ne]; omega
    have HM := Lib.hid (hm hfe)
    clear hm
    by_cases h1 : 1 ≤ n
    · have d1 : decide ((1 : Int) ≤ n) = true := decide_eq_true h1
      by_cases h2 : n ≤ 1099511627776
      · have d2 : decide (n ≤ (1099511627776 : Int)) = true := decide_eq_true h2
        cases d
        · have HG := Lib.hid (show goesB x n y n [] = false by rw [hgn]; simp)
          clear hgn
          go_wp2_with (refine stop_load 23 (.tmp 3) rfl ?_)
          refine ⟨?_⟩
          refine list_want (by rfl) (fun K hK => ?_)
          refine wp_load_row 23 (.tmp 3) rfl w.heap.size (by rfl) 23 _ (0, 0) _ hX Tryd.underlying23 rfl (size32.trans (by simp [hx])) ?_
          refine hK _ _ ?_; clear hK K
          simp only [Act.put, List.setIfInBounds_toArray, List.set_cons_zero, List.set_cons_succ]
          go_wp2_with (refine stop_load 23 (.tmp 4) rfl ?_)
          refine ⟨?_⟩
          refine list_want (by rfl) (fun K hK => ?_)
          refine wp_load_row 23 (.tmp 4) rfl (w.heap.size + 1) (by rfl) 23 _ (0, 0) _ hY Tryd.underlying23 rfl (size32.trans (by simp [hy])) ?_
          refine hK _ _ ?_; clear hK K
          simp only [Act.put, List.setIfInBounds_toArray, List.set_cons_zero, List.set_cons_succ]
          go_wp2_with fail
          change Calls _ _ #[sumV x, _, sumV y, _, _] _ _
          refine (Goes_sls x y hx hy n n hn1 _ [] AllH.nil (by simp) w4 (KW.ext hE) (sls_nil _ _)).mono ?_; rw [HG.out]; rintro e w5 ⟨rfl, e5⟩
          have hX := Blk.below hX e5 (Blk.lt hX)
          have hY := Blk.below hY e5 (Blk.lt hY)
          have hE5 := hE.trans e5
          have hF5 := hF.ext e5
          clear hE e5 hF
          go_wp2_with (refine stop_load 23 (.tmp 3) rfl ?_)
          refine ⟨?_⟩
          refine list_want (by rfl) (fun K hK => ?_)
          refine wp_load_row 23 (.tmp 3) rfl w.heap.size (by rfl) 23 _ (0, 0) _ hX Tryd.underlying23 rfl (size32.trans (by simp [hx])) ?_
          refine hK _ _ ?_; clear hK K
          simp only [Act.put, List.setIfInBounds_toArray, List.set_cons_zero, List.set_cons_succ]
          go_wp2_with (refine stop_load 23 (.tmp 4) rfl ?_)
          refine ⟨?_⟩
          refine list_want (by rfl) (fun K hK => ?_)
          refine wp_load_row 23 (.tmp 4) rfl (w.heap.size + 1) (by rfl) 23 _ (0, 0) _ hY Tryd.underlying23 rfl (size32.trans (by simp [hy])) ?_
          refine hK _ _ ?_; clear hK K
          simp only [Act.put, List.setIfInBounds_toArray, List.set_cons_zero, List.set_cons_succ]
          go_wp2_with (refine stop_dst 43 rfl ?_)
          refine ⟨?_⟩
          go_wp2_with (refine stop_load 23 (.tmp 3) rfl ?_)
          refine ⟨?_⟩
          refine list_want (by rfl) (fun K hK => ?_)
          refine wp_load_row 23 (.tmp 3) rfl w.heap.size (by rfl) 23 _ (0, 0) _ hX Tryd.underlying23 rfl (size32.trans (by simp [hx])) ?_
          refine hK _ _ ?_; clear hK K
          simp only [Act.put, List.setIfInBounds_toArray, List.set_cons_zero, List.set_cons_succ]
          go_wp2_with (refine stop_load 23 (.tmp 3) rfl ?_)
          refine ⟨?_⟩
          refine list_want (by rfl) (fun K hK => ?_)
          refine wp_load_row 23 (.tmp 3) rfl w.heap.size (by rfl) 23 _ (0, 0) _ hX Tryd.underlying23 rfl (size32.trans (by simp [hx])) ?_
          refine hK _ _ ?_; clear hK K
          simp only [Act.put, List.setIfInBounds_toArray, List.set_cons_zero, List.set_cons_succ]
          go_wp2_with fail
          change Calls _ _ #[sumV x, _, sumV x, _, _] _ _
          refine (Goes_sls x x hx hx n n hn1 _ f hfl (by omega) w5 (KW.ext hE5) hF5).mono ?_; rw [HM.out]; rintro e w6 ⟨rfl, e6⟩
          go_wp2_with fail
          go_ret
          exact ⟨rfl, hE5.trans e6⟩
        · have HG := Lib.hid (show goesB x n y n [] = true by rw [hgn]; simp [h1, h2])
          clear hgn
          go_wp2_with (refine stop_load 23 (.tmp 3) rfl ?_)
          refine ⟨?_⟩
          refine list_want (by rfl) (fun K hK => ?_)
          refine wp_load_row 23 (.tmp 3) rfl w.heap.size (by rfl) 23 _ (0, 0) _ hX Tryd.underlying23 rfl (size32.trans (by simp [hx])) ?_
          refine hK _ _ ?_; clear hK K
          simp only [Act.put, List.setIfInBounds_toArray, List.set_cons_zero, List.set_cons_succ]
          go_wp2_with (refine stop_load 23 (.tmp 4) rfl ?_)
          refine ⟨?_⟩
          refine list_want (by rfl) (fun K hK => ?_)
          refine wp_load_row 23 (.tmp 4) rfl (w.heap.size + 1) (by rfl) 23 _ (0, 0) _ hY Tryd.underlying23 rfl (size32.trans (by simp [hy])) ?_
          refine hK _ _ ?_; clear hK K
          simp only [Act.put, List.setIfInBounds_toArray, List.set_cons_zero, List.set_cons_succ]
          go_wp2_with fail
          change Calls _ _ #[sumV x, _, sumV y, _, _] _ _
          refine (Goes_sls x y hx hy n n hn1 _ [] AllH.nil (by simp) w4 (KW.ext hE) (sls_nil _ _)).mono ?_; rw [HG.out]; rintro e w5 ⟨rfl, e5⟩
          have hX := Blk.below hX e5 (Blk.lt hX)
          have hY := Blk.below hY e5 (Blk.lt hY)
          have hE5 := hE.trans e5
          have hF5 := hF.ext e5
          clear hE e5 hF
          go_wp2_with (refine stop_load 23 (.tmp 3) rfl ?_)
          refine ⟨?_⟩
          refine list_want (by rfl) (fun K hK => ?_)
          refine wp_load_row 23 (.tmp 3) rfl w.heap.size (by rfl) 23 _ (0, 0) _ hX Tryd.underlying23 rfl (size32.trans (by simp [hx])) ?_
          refine hK _ _ ?_; clear hK K
          simp only [Act.put, List.setIfInBounds_toArray, List.set_cons_zero, List.set_cons_succ]
          go_wp2_with (refine stop_load 23 (.tmp 4) rfl ?_)
          refine ⟨?_⟩
          refine list_want (by rfl) (fun K hK => ?_)
          refine wp_load_row 23 (.tmp 4) rfl (w.heap.size + 1) (by rfl) 23 _ (0, 0) _ hY Tryd.underlying23 rfl (size32.trans (by simp [hy])) ?_
          refine hK _ _ ?_; clear hK K
          simp only [Act.put, List.setIfInBounds_toArray, List.set_cons_zero, List.set_cons_succ]
          go_wp2_with (refine stop_dst 43 rfl ?_)
          refine ⟨?_⟩
          go_wp2_with (refine stop_load 23 (.tmp 3) rfl ?_)
          refine ⟨?_⟩
          refine list_want (by rfl) (fun K hK => ?_)
          refine wp_load_row 23 (.tmp 3) rfl w.heap.size (by rfl) 23 _ (0, 0) _ hX Tryd.underlying23 rfl (size32.trans (by simp [hx])) ?_
          refine hK _ _ ?_; clear hK K
          simp only [Act.put, List.setIfInBounds_toArray, List.set_cons_zero, List.set_cons_succ]
          go_wp2_with (refine stop_load 23 (.tmp 3) rfl ?_)
          refine ⟨?_⟩
          refine list_want (by rfl) (fun K hK => ?_)
          refine wp_load_row 23 (.tmp 3) rfl w.heap.size (by rfl) 23 _ (0, 0) _ hX Tryd.underlying23 rfl (size32.trans (by simp [hx])) ?_
          refine hK _ _ ?_; clear hK K
          simp only [Act.put, List.setIfInBounds_toArray, List.set_cons_zero, List.set_cons_succ]
          go_wp2_with fail
          change Calls _ _ #[sumV x, _, sumV x, _, _] _ _
          refine (Goes_sls x x hx hx n n hn1 _ f hfl (by omega) w5 (KW.ext hE5) hF5).mono ?_; rw [HM.out]; rintro e w6 ⟨rfl, e6⟩
          go_wp2_with fail
          go_ret
          exact ⟨rfl, hE5.trans e6⟩
      · have d2 : decide (n ≤ (1099511627776 : Int)) = false := decide_eq_false h2
        have HG := Lib.hid (show goesB x n y n [] = false by rw [hgn]; simp [h2])
        clear hgn
        go_wp2_with (refine stop_load 23 (.tmp 3) rfl ?_)
        refine ⟨?_⟩
        refine list_want (by rfl) (fun K hK => ?_)
        refine wp_load_row 23 (.tmp 3) rfl w.heap.size (by rfl) 23 _ (0, 0) _ hX Tryd.underlying23 rfl (size32.trans (by simp [hx])) ?_
        refine hK _ _ ?_; clear hK K
        simp only [Act.put, List.setIfInBounds_toArray, List.set_cons_zero, List.set_cons_succ]
        go_wp2_with (refine stop_load 23 (.tmp 4) rfl ?_)
        refine ⟨?_⟩
        refine list_want (by rfl) (fun K hK => ?_)
        refine wp_load_row 23 (.tmp 4) rfl (w.heap.size + 1) (by rfl) 23 _ (0, 0) _ hY Tryd.underlying23 rfl (size32.trans (by simp [hy])) ?_
        refine hK _ _ ?_; clear hK K
        simp only [Act.put, List.setIfInBounds_toArray, List.set_cons_zero, List.set_cons_succ]
        go_wp2_with fail
        change Calls _ _ #[sumV x, _, sumV y, _, _] _ _
        refine (Goes_sls x y hx hy n n hn1 _ [] AllH.nil (by simp) w4 (KW.ext hE) (sls_nil _ _)).mono ?_; rw [HG.out]; rintro e w5 ⟨rfl, e5⟩
        have hX := Blk.below hX e5 (Blk.lt hX)
        have hY := Blk.below hY e5 (Blk.lt hY)
        have hE5 := hE.trans e5
        have hF5 := hF.ext e5
        clear hE e5 hF
        go_wp2_with (refine stop_dst 43 rfl ?_)
        refine ⟨?_⟩
        go_wp2_with (refine stop_load 23 (.tmp 3) rfl ?_)
        refine ⟨?_⟩
        refine list_want (by rfl) (fun K hK => ?_)
        refine wp_load_row 23 (.tmp 3) rfl w.heap.size (by rfl) 23 _ (0, 0) _ hX Tryd.underlying23 rfl (size32.trans (by simp [hx])) ?_
        refine hK _ _ ?_; clear hK K
        simp only [Act.put, List.setIfInBounds_toArray, List.set_cons_zero, List.set_cons_succ]
        go_wp2_with (refine stop_load 23 (.tmp 3) rfl ?_)
        refine ⟨?_⟩
        refine list_want (by rfl) (fun K hK => ?_)
        refine wp_load_row 23 (.tmp 3) rfl w.heap.size (by rfl) 23 _ (0, 0) _ hX Tryd.underlying23 rfl (size32.trans (by simp [hx])) ?_
        refine hK _ _ ?_; clear hK K
        simp only [Act.put, List.setIfInBounds_toArray, List.set_cons_zero, List.set_cons_succ]
        go_wp2_with fail
        change Calls _ _ #[sumV x, _, sumV x, _, _] _ _
        refine (Goes_sls x x hx hx n n hn1 _ f hfl (by omega) w5 (KW.ext hE5) hF5).mono ?_; rw [HM.out]; rintro e w6 ⟨rfl, e6⟩
        go_wp2_with fail
        go_ret
        exact ⟨rfl, hE5.trans e6⟩
    · have d1 : decide ((1 : Int) ≤ n) = false := decide_eq_false h1
      have HG := Lib.hid (show goesB x n y n [] = false by rw [hgn]; simp [h1])
      clear hgn
      go_wp2_with (refine stop_load 23 (.tmp 3) rfl ?_)
      refine ⟨?_⟩
      refine list_want (by rfl) (fun K hK => ?_)
      refine wp_load_row 23 (.tmp 3) rfl w.heap.size (by rfl) 23 _ (0, 0) _ hX Tryd.underlying23 rfl (size32.trans (by simp [hx])) ?_
      refine hK _ _ ?_; clear hK K
      simp only [Act.put, List.setIfInBounds_toArray, List.set_cons_zero, List.set_cons_succ]
      go_wp2_with (refine stop_load 23 (.tmp 4) rfl ?_)
      refine ⟨?_⟩
      refine list_want (by rfl) (fun K hK => ?_)
      refine wp_load_row 23 (.tmp 4) rfl (w.heap.size + 1) (by rfl) 23 _ (0, 0) _ hY Tryd.underlying23 rfl (size32.trans (by simp [hy])) ?_
      refine hK _ _ ?_; clear hK K
      simp only [Act.put, List.setIfInBounds_toArray, List.set_cons_zero, List.set_cons_succ]
      go_wp2_with fail
      change Calls _ _ #[sumV x, _, sumV y, _, _] _ _
      refine (Goes_sls x y hx hy n n hn1 _ [] AllH.nil (by simp) w4 (KW.ext hE) (sls_nil _ _)).mono ?_; rw [HG.out]; rintro e w5 ⟨rfl, e5⟩
      have hX := Blk.below hX e5 (Blk.lt hX)
      have hY := Blk.below hY e5 (Blk.lt hY)
      have hE5 := hE.trans e5
      have hF5 := hF.ext e5
      clear hE e5 hF
      go_wp2_with (refine stop_dst 43 rfl ?_)
      refine ⟨?_⟩
      go_wp2_with (refine stop_load 23 (.tmp 3) rfl ?_)
      refine ⟨?_⟩
      refine list_want (by rfl) (fun K hK => ?_)
      refine wp_load_row 23 (.tmp 3) rfl w.heap.size (by rfl) 23 _ (0, 0) _ hX Tryd.underlying23 rfl (size32.trans (by simp [hx])) ?_
      refine hK _ _ ?_; clear hK K
      simp only [Act.put, List.setIfInBounds_toArray, List.set_cons_zero, List.set_cons_succ]
      go_wp2_with (refine stop_load 23 (.tmp 3) rfl ?_)
      refine ⟨?_⟩
      refine list_want (by rfl) (fun K hK => ?_)
      refine wp_load_row 23 (.tmp 3) rfl w.heap.size (by rfl) 23 _ (0, 0) _ hX Tryd.underlying23 rfl (size32.trans (by simp [hx])) ?_
      refine hK _ _ ?_; clear hK K
      simp only [Act.put, List.setIfInBounds_toArray, List.set_cons_zero, List.set_cons_succ]
      go_wp2_with fail
      change Calls _ _ #[sumV x, _, sumV x, _, _] _ _
      refine (Goes_sls x x hx hx n n hn1 _ f hfl (by omega) w5 (KW.ext hE5) hF5).mono ?_; rw [HM.out]; rintro e w6 ⟨rfl, e6⟩
      go_wp2_with fail
      go_ret
      exact ⟨rfl, hE5.trans e6⟩

set_option maxRecDepth 100000 in
theorem contract (H : Type) (enc : TypeId × Value → H) (W : World) (base : Nat) (args : Array Value) (ds gs : List (DataW H)) (before : List MemPlace)
    (hval0 : ∀ (j : Nat) t v, Tryd.f9.params[j]? = some t → args[j]? = some v → Value.okWide Tryd.prog W .any base t v)
    (hW : DataW.Whole enc Tryd.prog Tryd.f9.params.toList Rows.proofSameSpec.vars false W args.toList ds gs before) (hL : laidMetH Tryd.prog Rows.proofSameRow.laid W) :
    Calls Tryd.prog 9 args W fun e W' => ∃ v, e = .returned v ∧ Rows.proofSameSpec.post enc Tryd.prog Tryd.f9 false true false false W args v W' := by
  have K : Keys W := keys_of hL
  have hval : ∀ (j : Nat) t v, Tryd.f9.params[j]? = some t → args[j]? = some v → Value.okWide Tryd.prog W .any base t v := hval0
  have hW' := hW
  obtain ⟨p, q, hA0, hV, rfl, hfz, hnd⟩ := hW
  have hA : DataW.TrodAll enc Tryd.prog W 0 (fun _ => true) true Tryd.f9.params.toList args.toList ds p := hA0
  rw [Tryd.params9] at hA hval
  obtain ⟨v0, vs0, d0, ds0, p0, q0, hargs, rfl, rfl, hx0, r0⟩ := trodAll_cons hA
  obtain ⟨v1, vs1, d1, ds1, p1, q1, rfl, rfl, rfl, hx1, r1⟩ := trodAll_cons r0
  obtain ⟨v2, vs2, d2, ds2, p2, q2, rfl, rfl, rfl, hx2, r2⟩ := trodAll_cons r1
  obtain ⟨rfl, rfl, rfl⟩ := trodAll_nil r2
  obtain rfl : args = #[v0, v1, v2] := by cases args; simp_all
  obtain ⟨rfl, rfl⟩ := trodVars_none hV
  obtain ⟨x, rfl, hx⟩ := op_sum (hval 0 23 v0 rfl rfl) (tr_of hx0)
  obtain ⟨y, rfl, hy⟩ := op_sum (hval 1 23 v1 rfl rfl) (tr_of hx1)
  obtain ⟨rn, rc, r, rfl, hrn, hrs, hra⟩ := op_rest (hval 2 52 v2 rfl rfl) (tr_of hx2)
  refine (walk x hx y hy rn hrn rc r W K hrs hra).mono fun e W' ⟨he, hg⟩ => ?_
  subst he
  exact ⟨_, rfl, law_post hW' rfl rfl (by kernel_rfl) rfl rfl rfl hg⟩

theorem laid_met (os : Os) : laidMet Tryd.prog Rows.proofSameRow.laid ((keysWorld os).forCall (fun _ _ => 0) ⟨#[], #[.agg #[.int .u8 0, .int .u8 0, .int .u8 0, .int .u8 0, .int .u8 0, .int .u8 0, .int .u8 0, .int .u8 0, .int .u8 0, .int .u8 0, .int .u8 0, .int .u8 0, .int .u8 0, .int .u8 0, .int .u8 0, .int .u8 0, .int .u8 0, .int .u8 0, .int .u8 0, .int .u8 0, .int .u8 0, .int .u8 0, .int .u8 0, .int .u8 0, .int .u8 0, .int .u8 0, .int .u8 0, .int .u8 0, .int .u8 0, .int .u8 0, .int .u8 0, .int .u8 0], .agg #[.int .u8 0, .int .u8 0, .int .u8 0, .int .u8 0, .int .u8 0, .int .u8 0, .int .u8 0, .int .u8 0, .int .u8 0, .int .u8 0, .int .u8 0, .int .u8 0, .int .u8 0, .int .u8 0, .int .u8 0, .int .u8 0, .int .u8 0, .int .u8 0, .int .u8 0, .int .u8 0, .int .u8 0, .int .u8 0, .int .u8 0, .int .u8 0, .int .u8 0, .int .u8 0, .int .u8 0, .int .u8 0, .int .u8 0, .int .u8 0, .int .u8 0, .int .u8 0], .agg #[.int .i64 0, .slice none 0 0]], []⟩).memory :=
  laidMet_of_run' 8 (by kernel_rfl) (by kernel_rfl)
theorem reads (os : Os) {H : Type} (enc : TypeId × Value → H) : ∃ x, DataW.whole enc Tryd.prog ((keysWorld os).forCall (fun _ _ => 0) ⟨#[], #[.agg #[.int .u8 0, .int .u8 0, .int .u8 0, .int .u8 0, .int .u8 0, .int .u8 0, .int .u8 0, .int .u8 0, .int .u8 0, .int .u8 0, .int .u8 0, .int .u8 0, .int .u8 0, .int .u8 0, .int .u8 0, .int .u8 0, .int .u8 0, .int .u8 0, .int .u8 0, .int .u8 0, .int .u8 0, .int .u8 0, .int .u8 0, .int .u8 0, .int .u8 0, .int .u8 0, .int .u8 0, .int .u8 0, .int .u8 0, .int .u8 0, .int .u8 0, .int .u8 0], .agg #[.int .u8 0, .int .u8 0, .int .u8 0, .int .u8 0, .int .u8 0, .int .u8 0, .int .u8 0, .int .u8 0, .int .u8 0, .int .u8 0, .int .u8 0, .int .u8 0, .int .u8 0, .int .u8 0, .int .u8 0, .int .u8 0, .int .u8 0, .int .u8 0, .int .u8 0, .int .u8 0, .int .u8 0, .int .u8 0, .int .u8 0, .int .u8 0, .int .u8 0, .int .u8 0, .int .u8 0, .int .u8 0, .int .u8 0, .int .u8 0, .int .u8 0, .int .u8 0], .agg #[.int .i64 0, .slice none 0 0]], []⟩).memory Tryd.f9.params.toList Rows.proofSameSpec.vars false (#[.agg #[.int .u8 0, .int .u8 0, .int .u8 0, .int .u8 0, .int .u8 0, .int .u8 0, .int .u8 0, .int .u8 0, .int .u8 0, .int .u8 0, .int .u8 0, .int .u8 0, .int .u8 0, .int .u8 0, .int .u8 0, .int .u8 0, .int .u8 0, .int .u8 0, .int .u8 0, .int .u8 0, .int .u8 0, .int .u8 0, .int .u8 0, .int .u8 0, .int .u8 0, .int .u8 0, .int .u8 0, .int .u8 0, .int .u8 0, .int .u8 0, .int .u8 0, .int .u8 0], .agg #[.int .u8 0, .int .u8 0, .int .u8 0, .int .u8 0, .int .u8 0, .int .u8 0, .int .u8 0, .int .u8 0, .int .u8 0, .int .u8 0, .int .u8 0, .int .u8 0, .int .u8 0, .int .u8 0, .int .u8 0, .int .u8 0, .int .u8 0, .int .u8 0, .int .u8 0, .int .u8 0, .int .u8 0, .int .u8 0, .int .u8 0, .int .u8 0, .int .u8 0, .int .u8 0, .int .u8 0, .int .u8 0, .int .u8 0, .int .u8 0, .int .u8 0, .int .u8 0], .agg #[.int .i64 0, .slice none 0 0]] : Array Value).toList 8 = some x :=
  Option.isSome_iff_exists.1 (by kernel_rfl)
set_option maxRecDepth 100000 in
theorem lifted (os : Os) (started : os.Started) (H : Type) (enc : TypeId × Value → H) (F : Stop.Interp) :
    ReturnsInHanded {} Tryd.checked os 9 .any ((OpenSpec.ofChange Rows.proofSameSpec).preRow enc Tryd.prog Tryd.f9 Rows.proofSameRow.domain false Rows.proofSameRow.laid) (((OpenSpec.ofChange Rows.proofSameSpec).at F).post enc Tryd.prog Tryd.f9 false true false false) := by
  obtain ⟨x, hx⟩ := reads os enc
  refine returnsInHanded_of_row (C := Tryd.checked) (s := OpenSpec.ofChange Rows.proofSameSpec) own_ started (by kernel_rfl) Tryd.func9
    (witness_row_at (enc := enc) (C := Tryd.checked) false (keysWorld os) #[.agg #[.int .u8 0, .int .u8 0, .int .u8 0, .int .u8 0, .int .u8 0, .int .u8 0, .int .u8 0, .int .u8 0, .int .u8 0, .int .u8 0, .int .u8 0, .int .u8 0, .int .u8 0, .int .u8 0, .int .u8 0, .int .u8 0, .int .u8 0, .int .u8 0, .int .u8 0, .int .u8 0, .int .u8 0, .int .u8 0, .int .u8 0, .int .u8 0, .int .u8 0, .int .u8 0, .int .u8 0, .int .u8 0, .int .u8 0, .int .u8 0, .int .u8 0, .int .u8 0], .agg #[.int .u8 0, .int .u8 0, .int .u8 0, .int .u8 0, .int .u8 0, .int .u8 0, .int .u8 0, .int .u8 0, .int .u8 0, .int .u8 0, .int .u8 0, .int .u8 0, .int .u8 0, .int .u8 0, .int .u8 0, .int .u8 0, .int .u8 0, .int .u8 0, .int .u8 0, .int .u8 0, .int .u8 0, .int .u8 0, .int .u8 0, .int .u8 0, .int .u8 0, .int .u8 0, .int .u8 0, .int .u8 0, .int .u8 0, .int .u8 0, .int .u8 0, .int .u8 0], .agg #[.int .i64 0, .slice none 0 0]] rfl (by kernel_rfl) (by kernel_rfl) (by kernel_rfl)
      (OpenSpec.preRow_of_cond 8 hx rfl (fun k hk => by cases hk) (by kernel_rfl) (laid_met os))) ?_
  intro W base args ds gs before hval hW _ _ _ hL _ _
  exact contract H enc W base args ds gs before hval hW hL

theorem said : Rows.ProofSameSaid :=
  OpenClaim.holds_of_cond 9 Tryd.f9 rfl rfl rfl rfl rfl rfl rfl ⟨rfl, rfl, rfl, rfl, rfl⟩ rfl rfl rfl rfl rfl (by kernel_rfl) Tryd.func9 (by kernel_rfl)
    (of_decide_eq_true (by kernel_rfl)) (by unfold Func.isWrapper; first | (rw [if_pos (by decide +kernel)]; kernel_rfl) | (rw [if_neg (by decide +kernel)]; exact ⟨rfl, rfl⟩))
    (fun os started H enc _ F => by rw [OpenClaim.pre_eq_preRow]; exact lifted os started H enc F)
theorem plain (f : FuncId) (fn : Func) (hf : Tryd.pinned.checked.prog.funcNamed "scrinium/scriniumlaw12.ProofSame" = some f) (hfn : Tryd.pinned.checked.prog.funcs[f]? = some fn) :
    false = Tryd.pinned.checked.prog.looks [] ∧ ∀ (j : Nat) t, fn.params[j]? = some t → Tryd.pinned.checked.prog.wantsStandIn t = false := by
  obtain rfl : f = 9 := Option.some.inj ((show Tryd.prog.funcNamed "scrinium/scriniumlaw12.ProofSame" = some 9 by kernel_rfl).symm.trans hf) |>.symm
  obtain rfl : fn = Tryd.f9 := (Option.some.inj (Tryd.func9.symm.trans hfn)).symm
  refine ⟨by kernel_rfl, fun j t ht => ?_⟩
  rw [Tryd.params9] at ht
  have hm : t ∈ ([23, 23, 52] : List TypeId) := by simpa using Array.mem_of_getElem? ht
  have hall : (([23, 23, 52] : List TypeId).all fun u => !Tryd.prog.wantsStandIn u) = true := by kernel_rfl
  exact (show Tryd.prog.wantsStandIn t = false by simpa using List.all_eq_true.1 hall t hm)
theorem proved : Rows.ProofSameCardSaid :=
  Claim7.holds_tied_plain_at .later [] _ _ _ _ said (fun _ h => by cases h) (by kernel_rfl) (fun _ h => by cases h) proofSame_row_tie rfl ⟨rfl, rfl⟩ (by kernel_rfl) rfl plain (by kernel_rfl)

end Go.Proofs.YtfpipdopgepelaaDoor.proofSame
