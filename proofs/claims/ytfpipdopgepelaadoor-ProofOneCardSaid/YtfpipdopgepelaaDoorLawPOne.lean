/-
  scriniumlaw12.ProofOne: no condition.
-/
import Derived.Test.YtfpipdopgepelaaDoorSls12
import Derived.Test.YtfpipdopgepelaaDoorOpR
import Derived.Test.YtfpipdopgepelaaDoorEqA
import Derived.Test.YtfpipdopgepelaaDoorLaw
import Derived.Deep.DeepCutAuto
set_option linter.unusedVariables false
set_option maxRecDepth 100000
set_option linter.unusedSimpArgs false
namespace Go.Proofs.YtfpipdopgepelaaDoor.proofOne
open Go.ChangeShapes Go.WideShapes Go.ChangeAt Go.RowKit
attribute [local go_sem] bs_size bs_toList2 bs_append bs_extract_end bs_extract_begin bs_get wrap64_b grow_cell grow_frozen

/-! ### Plain law -/
theorem blk_mid {w : World} {g : Nat} {t : TypeId} {l : List (List UInt8)} (h : Blk w g t (flatS l).toArray) (hl : AllH l) (k : Nat) (hk : k < l.length) : w.rangeAt g (k * 32) (hcells l[k]) := fun j v hv => by
  rw [Blk.cell h]
  have := flatS_get l hl k hk j v hv
  simpa using this
theorem pre_inj {a b c d : List UInt8} (ha : a.length = 32) (hc : c.length = 32) (h : preB a b = preB c d) : a = c ∧ b = d := by
  unfold preB at h
  injection h with _ h
  exact List.append_inj h (by omega)
/-- One round. -/
theorem meet_step (T : List Bool) (A B : List (List UInt8)) (i : Nat) (hT : i < T.length) (hA : i < A.length) (hB : i < B.length) (c d : List UInt8) (hc : c.length = 32) (hd : d.length = 32) (hla : AllH A) (hlb : AllH B)
    (hf : Way.foldW nodeB c (T.drop i) (A.drop i) = Way.foldW nodeB d (T.drop i) (B.drop i)) (hne : c ≠ d ∨ A.drop i ≠ B.drop i) (s u : List UInt8) (hs : s = if T[i] then preB A[i] c else preB c A[i]) (hu : u = if T[i] then preB B[i] d else preB d B[i]) :
    Way.foldW nodeB (shaOf s) (T.drop (i + 1)) (A.drop (i + 1)) = Way.foldW nodeB (shaOf u) (T.drop (i + 1)) (B.drop (i + 1)) ∧ (¬ (s ≠ u ∧ shaOf s = shaOf u) → shaOf s ≠ shaOf u ∨ A.drop (i + 1) ≠ B.drop (i + 1)) := by
  rw [List.drop_eq_getElem_cons hT, List.drop_eq_getElem_cons hA, List.drop_eq_getElem_cons hB, Way.foldW_cons, Way.foldW_cons] at hf
  rw [List.drop_eq_getElem_cons hA, List.drop_eq_getElem_cons hB] at hne
  have ha32 := hla _ (List.getElem_mem hA)
  have hb32 := hlb _ (List.getElem_mem hB)
  have e1 : shaOf s = if T[i] then nodeB A[i] c else nodeB c A[i] := by rw [hs]; split <;> rfl
  have e2 : shaOf u = if T[i] then nodeB B[i] d else nodeB d B[i] := by rw [hu]; split <;> rfl
  rw [← e1, ← e2] at hf
  refine ⟨hf, fun h => ?_⟩
  by_cases hsu : s = u
  · have hcd : c = d ∧ A[i] = B[i] := by
      rw [hs, hu] at hsu
      split at hsu
      · exact (pre_inj ha32 hb32 hsu).symm
      · exact pre_inj hc hd hsu
    refine .inr fun he => ?_
    rcases hne with h1 | h1
    · exact h1 hcd.1
    · exact h1 (by rw [hcd.2, he])
  · exact .inl fun he => h ⟨hsu, he⟩

/-! ### The walk -/
set_option maxHeartbeats 8000000 in
theorem walk (a b : List UInt8) (ha : a.length = 32) (hb : b.length = 32) (m n : Int) (hmm : -9223372036854775808 ≤ m ∧ m ≤ 9223372036854775807) (hn : -9223372036854775808 ≤ n ∧ n ≤ 9223372036854775807) (ca cb : Value) (la lb : List (List UInt8)) (w : World) (KW : Keys w) (hSa : SlS w w.heap.size ca la) (hSb : SlS w w.heap.size cb lb) (hla : AllH la) (hlb : AllH lb) :
    Calls Tryd.prog 7 #[.agg (flatS [a, b]).toArray, .agg #[.int .i64 m, .int .i64 n], .agg #[ca, cb]] w fun e w' => e = .returned (.bool true) ∧ Ext w w' := by
  have hgw := guard_sum
  have hall : AllH [a, b] := AllH.cons ha (AllH.cons hb AllH.nil)
  have hFa := hSa
  obtain ⟨Pa, xa, rfl, hPa, hca, hca63, hra⟩ := hSa
  have hFb := hSb
  obtain ⟨Pb, xb, rfl, hPb, hcb, hcb63, hrb⟩ := hSb
  go_enter Tryd.func7, Tryd.ntmps7
  go_wp2_with fail
  have hX : Blk (((w.alloc (.cells (flatS [a, b]).toArray 41)).alloc (.cells #[.int .i64 m, .int .i64 n] 24)).alloc (.cells #[.slice Pa la.length xa, .slice Pb lb.length xb] 42)) w.heap.size 41 (flatS [a, b]).toArray := Blk.alloc (Blk.alloc (Blk.new _ _ _) _) _
  have hM : Blk (((w.alloc (.cells (flatS [a, b]).toArray 41)).alloc (.cells #[.int .i64 m, .int .i64 n] 24)).alloc (.cells #[.slice Pa la.length xa, .slice Pb lb.length xb] 42)) (w.heap.size + 1) 24 #[.int .i64 m, .int .i64 n] := by
    have := Blk.new (w.alloc (.cells (flatS [a, b]).toArray 41)) 24 #[.int .i64 m, .int .i64 n]
    rw [alloc_size] at this
    exact Blk.alloc this _
  have hL : Blk (((w.alloc (.cells (flatS [a, b]).toArray 41)).alloc (.cells #[.int .i64 m, .int .i64 n] 24)).alloc (.cells #[.slice Pa la.length xa, .slice Pb lb.length xb] 42)) (w.heap.size + 1 + 1) 42 #[.slice Pa la.length xa, .slice Pb lb.length xb] := by
    have := Blk.new ((w.alloc (.cells (flatS [a, b]).toArray 41)).alloc (.cells #[.int .i64 m, .int .i64 n] 24)) 42 #[.slice Pa la.length xa, .slice Pb lb.length xb]
    simp only [alloc_size] at this
    exact this
  have hE : Ext w (((w.alloc (.cells (flatS [a, b]).toArray 41)).alloc (.cells #[.int .i64 m, .int .i64 n] 24)).alloc (.cells #[.slice Pa la.length xa, .slice Pb lb.length xb] 42)) := (((Ext.refl w).alloc _).alloc _).alloc _
  generalize ((w.alloc (.cells (flatS [a, b]).toArray 41)).alloc (.cells #[.int .i64 m, .int .i64 n] 24)).alloc (.cells #[.slice Pa la.length xa, .slice Pb lb.length xb] 42) = w1 at *
  refine (awake12_calls _ (KW.ext hE)).mono ?_; rintro e v2 ⟨rfl, e1⟩
  replace hX := Blk.below hX e1 (Blk.lt hX)
  replace hM := Blk.below hM e1 (Blk.lt hM)
  replace hL := Blk.below hL e1 (Blk.lt hL)
  replace hE := hE.trans e1
  clear e1
  have c0 : v2.cell? ⟨w.heap.size + 1, 0, none⟩ = some (.int .i64 m) := Blk.cell hM 0
  have c1 : v2.cell? ⟨w.heap.size + 1, 1, none⟩ = some (.int .i64 n) := Blk.cell hM 1
  have c2 : v2.cell? ⟨w.heap.size + 1 + 1, 0, none⟩ = some (.slice Pa la.length xa) := Blk.cell hL 0
  have c3 : v2.cell? ⟨w.heap.size + 1 + 1, 1, none⟩ = some (.slice Pb lb.length xb) := Blk.cell hL 1
  have hm0 : v2.rangeAt w.heap.size 0 (hcells a) := blk_mid hX hall 0 (by simp)
  have hm1 : v2.rangeAt w.heap.size 32 (hcells b) := blk_mid hX hall 1 (by simp)
  go_wp2_with fail
  refine (refLong_calls m n _).mono ?_; rintro e v4 ⟨rfl, e3⟩
  replace hX := Blk.below hX e3 (Blk.lt hX)
  replace hM := Blk.below hM e3 (Blk.lt hM)
  replace hL := Blk.below hL e3 (Blk.lt hL)
  replace hE := hE.trans e3
  replace c0 : v4.cell? ⟨w.heap.size + 1, 0, none⟩ = some (.int .i64 m) := Blk.cell hM 0
  replace c1 : v4.cell? ⟨w.heap.size + 1, 1, none⟩ = some (.int .i64 n) := Blk.cell hM 1
  replace c2 : v4.cell? ⟨w.heap.size + 1 + 1, 0, none⟩ = some (.slice Pa la.length xa) := Blk.cell hL 0
  replace c3 : v4.cell? ⟨w.heap.size + 1 + 1, 1, none⟩ = some (.slice Pb lb.length xb) := Blk.cell hL 1
  replace hm0 : v4.rangeAt w.heap.size 0 (hcells a) := blk_mid hX hall 0 (by simp)
  replace hm1 : v4.rangeAt w.heap.size 32 (hcells b) := blk_mid hX hall 1 (by simp)
  clear e3
  obtain ⟨L, hLg⟩ : ∃ L, L = Way.longI m n := ⟨_, rfl⟩
  rw [← hLg]
  have HL := Lib.hid hLg
  clear hLg
  by_cases h0 : L < 0
  · skip
    go_wp2_with fail
    go_ret
    exact ⟨rfl, hE⟩
  by_cases h1 : 50 < L
  · skip
    go_wp2_with fail
    go_ret
    exact ⟨rfl, hE⟩
  obtain ⟨N, rfl⟩ : ∃ N : Nat, L = (N : Int) := ⟨L.toNat, by omega⟩
  have hN : N ≤ 50 := by omega
  by_cases h2 : (la.length : Int) < (N : Int)
  · skip
    go_wp2_with fail
    go_ret
    exact ⟨rfl, hE⟩
  by_cases h3 : (lb.length : Int) < (N : Int)
  · skip
    go_wp2_with fail
    go_ret
    exact ⟨rfl, hE⟩
  have kx1 : (N : Int) ≤ (xa : Int) := by omega
  have kx2 : (N : Int) ≤ (xb : Int) := by omega
  have hXa : (la.take N).length = N := by rw [List.length_take]; omega
  have hXb : (lb.take N).length = N := by rw [List.length_take]; omega
  have hTa : ∀ W : World, Ext w W → SlS W W.heap.size (.slice Pa N xa) (la.take N) := fun W hW => by
    rcases hPa with ⟨_, hl0, hx0⟩ | ⟨b', off, rfl⟩
    · have hN0 : N = 0 := by rw [hl0] at h2; simp at h2; omega
      subst hN0
      have := hFa.ext hW
      rw [List.take_zero]
      rw [hl0] at this
      exact this
    · exact (sls_take hla hca hca63 (hra.below hW (Nat.le_refl _)) N (by omega)).more hW.size
  have hTb : ∀ W : World, Ext w W → SlS W W.heap.size (.slice Pb N xb) (lb.take N) := fun W hW => by
    rcases hPb with ⟨_, hl0, hx0⟩ | ⟨b', off, rfl⟩
    · have hN0 : N = 0 := by rw [hl0] at h3; simp at h3; omega
      subst hN0
      have := hFb.ext hW
      rw [List.take_zero]
      rw [hl0] at this
      exact this
    · exact (sls_take hlb hcb hcb63 (hrb.below hW (Nat.le_refl _)) N (by omega)).more hW.size
  have hAa := hla.take N
  have hAb := hlb.take N
  clear hra hrb hFa hFb
  generalize la.take N = A at *
  generalize lb.take N = B at *
  have HTa := Lib.hid hTa
  have HTb := Lib.hid hTb
  have hTl : (Way.turnsI m n).length = N := by have := Way.turnsI_length m n (by rw [← HL.out]; omega); rw [← HL.out] at this; omega
  have hf1 : foldP a m n A = (Way.foldW nodeB a (Way.turnsI m n) A, true) := if_pos (by rw [← HL.out, hXa])
  have hf2 : rightB (Way.foldW nodeB a (Way.turnsI m n) A) b m n B = decide (Way.foldW nodeB b (Way.turnsI m n) B = Way.foldW nodeB a (Way.turnsI m n) A) := by
    unfold rightB
    rw [show foldP b m n B = (Way.foldW nodeB b (Way.turnsI m n) B, true) from if_pos (by rw [← HL.out, hXb])]
    simp
  obtain ⟨T, hT⟩ : ∃ T, T = Way.turnsI m n := ⟨_, rfl⟩
  rw [← hT] at hf1 hf2 hTl
  have HT := Lib.hid hT
  have hyl := foldW_length T A a ha
  obtain ⟨y, hy⟩ : ∃ y, y = Way.foldW nodeB a T A := ⟨_, rfl⟩
  rw [← hy] at hf1 hf2 hyl
  have HY := Lib.hid hy
  have HF1 := Lib.hid hf1
  obtain ⟨ok, hok⟩ : ∃ ok, ok = decide (Way.foldW nodeB b T B = y) := ⟨_, rfl⟩
  rw [← hok] at hf2
  have HF2 := Lib.hid hf2
  have HOK := Lib.hid hok
  have HXa := Lib.hid hXa
  have HXb := Lib.hid hXb
  have HTl := Lib.hid hTl
  clear hT hy hf1 hf2 hok hTa hTb hXa hXb hTl
  go_wp2_with (refine stop_load 23 (.tmp 56) rfl ?_)
  refine ⟨?_⟩
  refine wpList_load_mid rfl 23 (.tmp 56) rfl w.heap.size (0) (by rfl) (hcells a) _ hm0 Tryd.underlying23 rfl (size32l _ ha) ?_
  simp only [Act.put, List.setIfInBounds_toArray, List.set_cons_zero, List.set_cons_succ]
  unfold hcells
  go_wp2_with fail
  have HS1 := HTa.out _ hE
  rw [← HXa.out] at HS1
  change Calls _ _ #[sumV a, _, _, _] _ _
  refine (Fold_sls a ha m n hn.2 _ A hAa (by have := HXa.out; omega) _ (KW.ext hE) (HTa.out _ hE)).mono ?_; rw [HF1.out]; rintro e v6 ⟨rfl, e5⟩
  replace hX := Blk.below hX e5 (Blk.lt hX)
  replace hM := Blk.below hM e5 (Blk.lt hM)
  replace hL := Blk.below hL e5 (Blk.lt hL)
  replace hE := hE.trans e5
  replace c0 : v6.cell? ⟨w.heap.size + 1, 0, none⟩ = some (.int .i64 m) := Blk.cell hM 0
  replace c1 : v6.cell? ⟨w.heap.size + 1, 1, none⟩ = some (.int .i64 n) := Blk.cell hM 1
  replace c2 : v6.cell? ⟨w.heap.size + 1 + 1, 0, none⟩ = some (.slice Pa la.length xa) := Blk.cell hL 0
  replace c3 : v6.cell? ⟨w.heap.size + 1 + 1, 1, none⟩ = some (.slice Pb lb.length xb) := Blk.cell hL 1
  replace hm0 : v6.rangeAt w.heap.size 0 (hcells a) := blk_mid hX hall 0 (by simp)
  replace hm1 : v6.rangeAt w.heap.size 32 (hcells b) := blk_mid hX hall 1 (by simp)
  clear e5
  try unfold sumV
  go_wp2_with (refine stop_store 23 (.tmp 11) (.tmp 64) rfl ?_)
  refine ⟨?_⟩
  change wpList _ _ _ _ _ (v6.alloc (.cells ((zerosB 32).map byteV).toArray 23))
  have hR0 : ArrB (v6.alloc (.cells ((zerosB 32).map byteV).toArray 23)) v6.heap.size 23 (zerosB 32) := Blk.new _ _ _
  refine wpList_store_row rfl 23 (.tmp 11) (.tmp 64) rfl v6.heap.size ((y).map byteV).toArray (by rfl) (by rfl) 23 _ hR0 (size32.trans (by simp [hyl])) (by simp [hyl, zerosB]) (by simp [byteV, Value.oneCell']) ?_
  simp only [Act.put, List.setIfInBounds_toArray, List.set_cons_zero, List.set_cons_succ]
  have hR : ArrB ((v6.alloc (.cells ((zerosB 32).map byteV).toArray 23)).setRow v6.heap.size ((y).map byteV).toArray) v6.heap.size 23 (y) := Blk.row hR0 _
  have e8 : Ext v6 ((v6.alloc (.cells ((zerosB 32).map byteV).toArray 23)).setRow v6.heap.size ((y).map byteV).toArray) := ((Ext.refl v6).alloc _).row (Nat.le_refl _) _
  clear hR0
  generalize (v6.alloc (.cells ((zerosB 32).map byteV).toArray 23)).setRow v6.heap.size ((y).map byteV).toArray = v7 at *
  have g9l := Blk.lt hR
  obtain ⟨g9, g9e⟩ : ∃ g9, g9 = v6.heap.size := ⟨_, rfl⟩
  rw [← g9e] at hR g9l
  try rw [← g9e]
  have g9b : v6.heap.size ≤ g9 := by omega
  replace hX := Blk.below hX e8 (Blk.lt hX)
  replace hM := Blk.below hM e8 (Blk.lt hM)
  replace hL := Blk.below hL e8 (Blk.lt hL)
  replace hE := hE.trans e8
  replace c0 : v7.cell? ⟨w.heap.size + 1, 0, none⟩ = some (.int .i64 m) := Blk.cell hM 0
  replace c1 : v7.cell? ⟨w.heap.size + 1, 1, none⟩ = some (.int .i64 n) := Blk.cell hM 1
  replace c2 : v7.cell? ⟨w.heap.size + 1 + 1, 0, none⟩ = some (.slice Pa la.length xa) := Blk.cell hL 0
  replace c3 : v7.cell? ⟨w.heap.size + 1 + 1, 1, none⟩ = some (.slice Pb lb.length xb) := Blk.cell hL 1
  replace hm0 : v7.rangeAt w.heap.size 0 (hcells a) := blk_mid hX hall 0 (by simp)
  replace hm1 : v7.rangeAt w.heap.size 32 (hcells b) := blk_mid hX hall 1 (by simp)
  clear e8
  clear g9e
  go_wp2_with (refine stop_load 23 (.tmp 11) rfl ?_)
  refine ⟨?_⟩
  refine list_want (by rfl) (fun K hK => ?_)
  refine wp_load_row 23 (.tmp 11) rfl g9 (by rfl) 23 _ (0, 0) _ hR Tryd.underlying23 rfl (size32.trans (by simp [hyl])) ?_
  refine hK _ _ ?_; clear hK K
  simp only [Act.put, List.setIfInBounds_toArray, List.set_cons_zero, List.set_cons_succ]
  go_wp2_with (refine stop_load 23 (.tmp 70) rfl ?_)
  refine ⟨?_⟩
  refine list_want (by rfl) (fun K hK => ?_)
  refine wp_load_mid 23 (.tmp 70) rfl w.heap.size (32) (by rfl) (hcells b) _ hm1 Tryd.underlying23 rfl (size32l _ hb) ?_
  refine hK _ _ ?_; clear hK K
  simp only [Act.put, List.setIfInBounds_toArray, List.set_cons_zero, List.set_cons_succ]
  unfold hcells
  go_wp2_with fail
  change Calls _ _ #[sumV y, sumV b, _, _, _] _ _
  refine (Right_sls y b hyl hb m n hn.2 _ B hAb (by have := HXb.out; omega) _ (KW.ext hE) (HTb.out _ hE)).mono ?_; rw [HF2.out]; rintro e v11 ⟨rfl, e10⟩
  replace hX := Blk.below hX e10 (Blk.lt hX)
  replace hM := Blk.below hM e10 (Blk.lt hM)
  replace hL := Blk.below hL e10 (Blk.lt hL)
  replace hR := Blk.below hR e10 (Blk.lt hR)
  replace hE := hE.trans e10
  replace c0 : v11.cell? ⟨w.heap.size + 1, 0, none⟩ = some (.int .i64 m) := Blk.cell hM 0
  replace c1 : v11.cell? ⟨w.heap.size + 1, 1, none⟩ = some (.int .i64 n) := Blk.cell hM 1
  replace c2 : v11.cell? ⟨w.heap.size + 1 + 1, 0, none⟩ = some (.slice Pa la.length xa) := Blk.cell hL 0
  replace c3 : v11.cell? ⟨w.heap.size + 1 + 1, 1, none⟩ = some (.slice Pb lb.length xb) := Blk.cell hL 1
  replace hm0 : v11.rangeAt w.heap.size 0 (hcells a) := blk_mid hX hall 0 (by simp)
  replace hm1 : v11.rangeAt w.heap.size 32 (hcells b) := blk_mid hX hall 1 (by simp)
  clear e10
  cases ok
  · skip
    go_wp2_with fail
    go_ret
    exact ⟨rfl, hE⟩
  go_wp2_with fail
  refine (Same_calls _ _ A B hAa hAb _ (HTa.out _ hE) (HTb.out _ hE)).mono ?_; rintro e v13 ⟨rfl, e12⟩
  replace hX := Blk.below hX e12 (Blk.lt hX)
  replace hM := Blk.below hM e12 (Blk.lt hM)
  replace hL := Blk.below hL e12 (Blk.lt hL)
  replace hR := Blk.below hR e12 (Blk.lt hR)
  replace hE := hE.trans e12
  replace c0 : v13.cell? ⟨w.heap.size + 1, 0, none⟩ = some (.int .i64 m) := Blk.cell hM 0
  replace c1 : v13.cell? ⟨w.heap.size + 1, 1, none⟩ = some (.int .i64 n) := Blk.cell hM 1
  replace c2 : v13.cell? ⟨w.heap.size + 1 + 1, 0, none⟩ = some (.slice Pa la.length xa) := Blk.cell hL 0
  replace c3 : v13.cell? ⟨w.heap.size + 1 + 1, 1, none⟩ = some (.slice Pb lb.length xb) := Blk.cell hL 1
  replace hm0 : v13.rangeAt w.heap.size 0 (hcells a) := blk_mid hX hall 0 (by simp)
  replace hm1 : v13.rangeAt w.heap.size 32 (hcells b) := blk_mid hX hall 1 (by simp)
  clear e12
  have heq := fun w : World => eq_sum a b ha hb w
  obtain ⟨same, hsame⟩ : ∃ same, same = decide (A = B) := ⟨_, rfl⟩
  rw [← hsame]
  obtain ⟨dd, hdd⟩ : ∃ dd, dd = decide (a = b) := ⟨_, rfl⟩
  rw [← hdd] at heq
  have HSM := Lib.hid hsame
  have HDD := Lib.hid hdd
  clear hsame hdd
  have hne : (dd && same) = true ∨ (dd && same) = false := by cases dd <;> cases same <;> simp
  rcases hne with hds | hds
  · obtain ⟨rfl, rfl⟩ : dd = true ∧ same = true := by simpa using hds
    go_wp2_with (refine stop_load 23 (.tmp 87) rfl ?_)
    refine ⟨?_⟩
    refine wpList_load_mid rfl 23 (.tmp 87) rfl w.heap.size (0) (by rfl) (hcells a) _ hm0 Tryd.underlying23 rfl (size32l _ ha) ?_
    simp only [Act.put, List.setIfInBounds_toArray, List.set_cons_zero, List.set_cons_succ]
    unfold hcells
    go_wp2_with (refine stop_load 23 (.tmp 89) rfl ?_)
    refine ⟨?_⟩
    refine wpList_load_mid rfl 23 (.tmp 89) rfl w.heap.size (32) (by rfl) (hcells b) _ hm1 Tryd.underlying23 rfl (size32l _ hb) ?_
    simp only [Act.put, List.setIfInBounds_toArray, List.set_cons_zero, List.set_cons_succ]
    unfold hcells
    go_wp2_with fail
    go_ret
    exact ⟨rfl, hE⟩
  have Hne : Hid (a ≠ b ∨ A ≠ B) := Lib.hid (by
    rw [HDD.out, HSM.out] at hds
    simp only [Bool.and_eq_false_iff, decide_eq_false_iff_not] at hds
    exact hds)
  clear HDD HSM
  cases dd
  · clear hds
    go_wp2_with (refine stop_load 23 (.tmp 87) rfl ?_)
    refine ⟨?_⟩
    refine wpList_load_mid rfl 23 (.tmp 87) rfl w.heap.size (0) (by rfl) (hcells a) _ hm0 Tryd.underlying23 rfl (size32l _ ha) ?_
    simp only [Act.put, List.setIfInBounds_toArray, List.set_cons_zero, List.set_cons_succ]
    unfold hcells
    go_wp2_with (refine stop_load 23 (.tmp 89) rfl ?_)
    refine ⟨?_⟩
    refine wpList_load_mid rfl 23 (.tmp 89) rfl w.heap.size (32) (by rfl) (hcells b) _ hm1 Tryd.underlying23 rfl (size32l _ hb) ?_
    simp only [Act.put, List.setIfInBounds_toArray, List.set_cons_zero, List.set_cons_succ]
    unfold hcells
    go_wp2_with fail
    refine (refTurns_calls m n _).mono ?_; rintro e vA ⟨v, rfl, hO, eA⟩
    rw [← HT.out] at hO
    obtain ⟨BT, cT, rfl, hrdT, -, -, -⟩ := own_rd hO
    clear hO
    replace hX := Blk.below hX eA (Blk.lt hX)
    replace hM := Blk.below hM eA (Blk.lt hM)
    replace hL := Blk.below hL eA (Blk.lt hL)
    replace hR := Blk.below hR eA (Blk.lt hR)
    replace hE := hE.trans eA
    replace c0 : vA.cell? ⟨w.heap.size + 1, 0, none⟩ = some (.int .i64 m) := Blk.cell hM 0
    replace c1 : vA.cell? ⟨w.heap.size + 1, 1, none⟩ = some (.int .i64 n) := Blk.cell hM 1
    replace c2 : vA.cell? ⟨w.heap.size + 1 + 1, 0, none⟩ = some (.slice Pa la.length xa) := Blk.cell hL 0
    replace c3 : vA.cell? ⟨w.heap.size + 1 + 1, 1, none⟩ = some (.slice Pb lb.length xb) := Blk.cell hL 1
    replace hm0 : vA.rangeAt w.heap.size 0 (hcells a) := blk_mid hX hall 0 (by simp)
    replace hm1 : vA.rangeAt w.heap.size 32 (hcells b) := blk_mid hX hall 1 (by simp)
    clear eA
    have hSa := HTa.out _ hE
    have hSb := HTb.out _ hE
    obtain ⟨Pa', xa', hv1, hA0, -, -, hrA⟩ := hSa
    obtain ⟨Pb', xb', hv2, hB0, -, -, hrB⟩ := hSb
    injection hv1 with v1 v2 v3
    injection hv2 with v4 v5 v6
    subst v1 v4
    clear v2 v3 v5 v6
    have HE := hE
    obtain ⟨zA, hzA⟩ : ∃ zA, zA = vA.heap.size := ⟨_, rfl⟩
    have hKp : Keep (fun k => k < zA) vA vA := Keep.refl _ _
    go_wp2_with (refine stop_load 23 (.tmp 101) rfl ?_)
    refine ⟨?_⟩
    refine wpList_load_mid rfl 23 (.tmp 101) rfl w.heap.size (0) (by rfl) (hcells a) _ hm0 Tryd.underlying23 rfl (size32l _ ha) ?_
    simp only [Act.put, List.setIfInBounds_toArray, List.set_cons_zero, List.set_cons_succ]
    unfold hcells
    try unfold sumV
    go_wp2_with (refine stop_store 23 (.tmp 15) (.tmp 102) rfl ?_)
    refine ⟨?_⟩
    change wpList _ _ _ _ _ (vA.alloc (.cells ((zerosB 32).map byteV).toArray 23))
    have hC0 : ArrB (vA.alloc (.cells ((zerosB 32).map byteV).toArray 23)) vA.heap.size 23 (zerosB 32) := Blk.new _ _ _
    refine wpList_store_row rfl 23 (.tmp 15) (.tmp 102) rfl vA.heap.size ((a).map byteV).toArray (by rfl) (by rfl) 23 _ hC0 (size32.trans (by simp [ha])) (by simp [ha, zerosB]) (by simp [byteV, Value.oneCell']) ?_
    simp only [Act.put, List.setIfInBounds_toArray, List.set_cons_zero, List.set_cons_succ]
    have hC : ArrB ((vA.alloc (.cells ((zerosB 32).map byteV).toArray 23)).setRow vA.heap.size ((a).map byteV).toArray) vA.heap.size 23 (a) := Blk.row hC0 _
    have e15 : Ext vA ((vA.alloc (.cells ((zerosB 32).map byteV).toArray 23)).setRow vA.heap.size ((a).map byteV).toArray) := ((Ext.refl vA).alloc _).row (Nat.le_refl _) _
    clear hC0
    generalize (vA.alloc (.cells ((zerosB 32).map byteV).toArray 23)).setRow vA.heap.size ((a).map byteV).toArray = v14 at *
    have g16l := Blk.lt hC
    obtain ⟨g16, g16e⟩ : ∃ g16, g16 = vA.heap.size := ⟨_, rfl⟩
    rw [← g16e] at hC g16l
    try rw [← g16e]
    have g16b : vA.heap.size ≤ g16 := by omega
    replace hX := Blk.below hX e15 (Blk.lt hX)
    replace hM := Blk.below hM e15 (Blk.lt hM)
    replace hL := Blk.below hL e15 (Blk.lt hL)
    replace hR := Blk.below hR e15 (Blk.lt hR)
    replace hKp := hKp.trans (Keep.of_ext e15)
    replace hE := hE.trans e15
    replace c0 : v14.cell? ⟨w.heap.size + 1, 0, none⟩ = some (.int .i64 m) := Blk.cell hM 0
    replace c1 : v14.cell? ⟨w.heap.size + 1, 1, none⟩ = some (.int .i64 n) := Blk.cell hM 1
    replace c2 : v14.cell? ⟨w.heap.size + 1 + 1, 0, none⟩ = some (.slice Pa la.length xa) := Blk.cell hL 0
    replace c3 : v14.cell? ⟨w.heap.size + 1 + 1, 1, none⟩ = some (.slice Pb lb.length xb) := Blk.cell hL 1
    replace hm0 : v14.rangeAt w.heap.size 0 (hcells a) := blk_mid hX hall 0 (by simp)
    replace hm1 : v14.rangeAt w.heap.size 32 (hcells b) := blk_mid hX hall 1 (by simp)
    clear e15
    clear g16e
    have hgC : zA ≤ g16 := by omega
    go_wp2_with (refine stop_load 23 (.tmp 103) rfl ?_)
    refine ⟨?_⟩
    refine wpList_load_mid rfl 23 (.tmp 103) rfl w.heap.size (32) (by rfl) (hcells b) _ hm1 Tryd.underlying23 rfl (size32l _ hb) ?_
    simp only [Act.put, List.setIfInBounds_toArray, List.set_cons_zero, List.set_cons_succ]
    unfold hcells
    try unfold sumV
    go_wp2_with (refine stop_store 23 (.tmp 16) (.tmp 104) rfl ?_)
    refine ⟨?_⟩
    change wpList _ _ _ _ _ (v14.alloc (.cells ((zerosB 32).map byteV).toArray 23))
    have hD0 : ArrB (v14.alloc (.cells ((zerosB 32).map byteV).toArray 23)) v14.heap.size 23 (zerosB 32) := Blk.new _ _ _
    refine wpList_store_row rfl 23 (.tmp 16) (.tmp 104) rfl v14.heap.size ((b).map byteV).toArray (by rfl) (by rfl) 23 _ hD0 (size32.trans (by simp [hb])) (by simp [hb, zerosB]) (by simp [byteV, Value.oneCell']) ?_
    simp only [Act.put, List.setIfInBounds_toArray, List.set_cons_zero, List.set_cons_succ]
    have hD : ArrB ((v14.alloc (.cells ((zerosB 32).map byteV).toArray 23)).setRow v14.heap.size ((b).map byteV).toArray) v14.heap.size 23 (b) := Blk.row hD0 _
    have e18 : Ext v14 ((v14.alloc (.cells ((zerosB 32).map byteV).toArray 23)).setRow v14.heap.size ((b).map byteV).toArray) := ((Ext.refl v14).alloc _).row (Nat.le_refl _) _
    clear hD0
    generalize (v14.alloc (.cells ((zerosB 32).map byteV).toArray 23)).setRow v14.heap.size ((b).map byteV).toArray = v17 at *
    have g19l := Blk.lt hD
    obtain ⟨g19, g19e⟩ : ∃ g19, g19 = v14.heap.size := ⟨_, rfl⟩
    rw [← g19e] at hD g19l
    try rw [← g19e]
    have g19b : v14.heap.size ≤ g19 := by omega
    replace hX := Blk.below hX e18 (Blk.lt hX)
    replace hM := Blk.below hM e18 (Blk.lt hM)
    replace hL := Blk.below hL e18 (Blk.lt hL)
    replace hR := Blk.below hR e18 (Blk.lt hR)
    replace hKp := hKp.trans (Keep.of_ext e18)
    replace hC := Blk.below hC e18 (Blk.lt hC)
    replace hE := hE.trans e18
    replace c0 : v17.cell? ⟨w.heap.size + 1, 0, none⟩ = some (.int .i64 m) := Blk.cell hM 0
    replace c1 : v17.cell? ⟨w.heap.size + 1, 1, none⟩ = some (.int .i64 n) := Blk.cell hM 1
    replace c2 : v17.cell? ⟨w.heap.size + 1 + 1, 0, none⟩ = some (.slice Pa la.length xa) := Blk.cell hL 0
    replace c3 : v17.cell? ⟨w.heap.size + 1 + 1, 1, none⟩ = some (.slice Pb lb.length xb) := Blk.cell hL 1
    replace hm0 : v17.rangeAt w.heap.size 0 (hcells a) := blk_mid hX hall 0 (by simp)
    replace hm1 : v17.rangeAt w.heap.size 32 (hcells b) := blk_mid hX hall 1 (by simp)
    clear e18
    clear g19e
    have hgD : zA ≤ g19 := by have := hKp.size; omega
    have hgCD : g16 ≠ g19 := by omega
    clear hX hM hL c0 c1 c2 c3 hm0 hm1 hR
    clear hE
    have hr0 := hrdT
    rw [← hzA] at hrdT hrA hrB
    clear hr0
    have h0I : ((0 : Nat) : Int) ≤ (N : Int) := by omega
    go_wp2_with fail
    go_loopw [17] (fun s17 wr => ∃ (k : Nat) (cc dc : List UInt8), k ≤ N ∧ s17 = .int .i64 (k : Int) ∧ cc.length = 32 ∧ dc.length = 32 ∧ ArrB wr g16 23 cc ∧ ArrB wr g19 23 dc ∧ Keep (fun k => k < zA) vA wr ∧ Way.foldW nodeB cc (T.drop k) (A.drop k) = Way.foldW nodeB dc (T.drop k) (B.drop k) ∧ (cc ≠ dc ∨ A.drop k ≠ B.drop k)) (fun s17 _ => N - (intOf s17).toNat)
    case atStart => exact ⟨0, a, b, Nat.zero_le _, rfl, ha, hb, hC, hD, hKp, by
      rw [List.drop_zero, List.drop_zero, List.drop_zero]
      have := HOK.out
      rw [← HY.out]
      exact (of_decide_eq_true this.symm).symm, Hne.out⟩
    case round =>
      clear hC hD hKp heq
      obtain ⟨wo, rfl⟩ : ∃ wo : World, wo = wr := ⟨_, rfl⟩
      obtain ⟨k, cc, dc, hk, rfl, hcl, hdl, hC, hD, hKp, hfo, hnk⟩ := hrel
      by_cases hlt : k < N
      · have hltI : (k : Int) < (N : Int) := by omega
        have hkT : k < T.length := by rw [HTl.out]; exact hlt
        have hkA : k < A.length := by rw [HXa.out]; exact hlt
        have hkB : k < B.length := by rw [HXb.out]; exact hlt
        obtain ⟨b1, o1, rfl, hb1, hmA0⟩ := rds_mid hrA hAa hkA
        obtain ⟨b2, o2, rfl, hb2, hmB0⟩ := rds_mid hrB hAb hkB
        obtain ⟨b3, o3, rfl, hb3, hcT⟩ := hrdT (map_ne Value.bool hkT)
        have hcT0 : vA.cell? ⟨b3, o3 + k, none⟩ = some (.bool T[k]) := hcT k (.bool T[k]) (by simp [hkT])
        have hTlI : (k : Int) < (T.length : Int) := by omega
        have hAlI : (k : Int) < (A.length : Int) := by omega
        have hBlI : (k : Int) < (B.length : Int) := by omega
        have hp : A[k].length = 32 := hAa _ (List.getElem_mem hkA)
        have hq : B[k].length = 32 := hAb _ (List.getElem_mem hkB)
        have HM := Lib.hid (meet_step T A B k hkT hkA hkB cc dc hcl hdl hAa hAb hfo hnk)
        generalize A[k] = p at *
        generalize B[k] = q at *
        generalize T[k] = tk at *
        clear hcT hfo hnk
        have hmA : wo.rangeAt b1 (o1 + k * 32) (hcells p) := fun i u hu => (World.cell?_of_block (hKp.block b1 (by omega) hb1)).trans (hmA0 i u hu)
        have hmB : wo.rangeAt b2 (o2 + k * 32) (hcells q) := fun i u hu => (World.cell?_of_block (hKp.block b2 (by omega) hb2)).trans (hmB0 i u hu)
        have hcT : wo.cell? ⟨b3, o3 + k, none⟩ = some (.bool tk) := (World.cell?_of_block (hKp.block b3 (by omega) hb3)).trans hcT0
        have hbA : b1 < wo.heap.size := by have := hKp.size; omega
        have hbB : b2 < wo.heap.size := by have := hKp.size; omega
        cases tk
        · skip
          go_wp2_with fail
          refine region_mix0 (by kernel_rfl) (by kernel_rfl) (fun x => ?_)
          refine mix_row (by rfl) (by rfl) 23 (.tmp 15) rfl g16 (by rfl) 23 _ _ hC Tryd.underlying23 rfl (size32.trans (by simp [hcl])) ?_
          simp only [Act.put, List.setIfInBounds_toArray, List.set_cons_zero, List.set_cons_succ]
          iterate 3 (first | (refine mix_quiet (by rfl) (by rfl) (fun K hK => ?_); go_big_quiet_op; refine hK _ ?_; clear hK K) | (refine mix_skip (by rfl) ?_; simp only [Act.put, List.setIfInBounds_toArray, List.set_cons_zero, List.set_cons_succ]))
          refine mix_mid (by rfl) (by rfl) 23 (.tmp 113) rfl b1 (o1 + k * 32) (by rfl) _ _ hmA hbA Tryd.underlying23 rfl (size32l _ hp) ?_
          simp only [Act.put, List.setIfInBounds_toArray, List.set_cons_zero, List.set_cons_succ]
          unfold hcells
          (refine mix_loud (by rfl) (by rfl) (fun K E hK => ?_); go_big_op)
          change Calls _ _ #[sumV cc, sumV p] _ _
          refine (refPreimage_calls cc p hcl hp _).mono ?_; rintro e w5 ⟨rfl, hd⟩
          obtain ⟨x', rfl⟩ := more_ext _ hd; clear hd
          refine hK _ _ ⟨_, rfl⟩ ?_; clear hK K E
          repeat (first | (refine mix_quiet (by rfl) (by rfl) (fun K hK => ?_); go_big_quiet_op; refine hK _ ?_; clear hK K) | (refine mix_skip (by rfl) ?_; simp only [Act.put, List.setIfInBounds_toArray, List.set_cons_zero, List.set_cons_succ]))
          refine mix_nil ?_
          have e21 := grow_ext x'
          generalize grow wo x' = v20 at *
          replace hC := Blk.below hC e21 (Blk.lt hC)
          replace hD := Blk.below hD e21 (Blk.lt hD)
          replace hKp := hKp.trans (Keep.of_ext e21)
          replace hmA : v20.rangeAt b1 (o1 + k * 32) (hcells p) := fun i u hu => (World.cell?_of_block (hKp.block b1 (by omega) hb1)).trans (hmA0 i u hu)
          replace hmB : v20.rangeAt b2 (o2 + k * 32) (hcells q) := fun i u hu => (World.cell?_of_block (hKp.block b2 (by omega) hb2)).trans (hmB0 i u hu)
          replace hcT : v20.cell? ⟨b3, o3 + k, none⟩ = some (.bool false) := (World.cell?_of_block (hKp.block b3 (by omega) hb3)).trans hcT0
          replace hbA : b1 < v20.heap.size := by have := hKp.size; omega
          replace hbB : b2 < v20.heap.size := by have := hKp.size; omega
          clear e21
          go_wp2_with fail
          refine region_mix0 (by kernel_rfl) (by kernel_rfl) (fun x => ?_)
          refine mix_row (by rfl) (by rfl) 23 (.tmp 16) rfl g19 (by rfl) 23 _ _ hD Tryd.underlying23 rfl (size32.trans (by simp [hdl])) ?_
          simp only [Act.put, List.setIfInBounds_toArray, List.set_cons_zero, List.set_cons_succ]
          iterate 3 (first | (refine mix_quiet (by rfl) (by rfl) (fun K hK => ?_); go_big_quiet_op; refine hK _ ?_; clear hK K) | (refine mix_skip (by rfl) ?_; simp only [Act.put, List.setIfInBounds_toArray, List.set_cons_zero, List.set_cons_succ]))
          refine mix_mid (by rfl) (by rfl) 23 (.tmp 119) rfl b2 (o2 + k * 32) (by rfl) _ _ hmB hbB Tryd.underlying23 rfl (size32l _ hq) ?_
          simp only [Act.put, List.setIfInBounds_toArray, List.set_cons_zero, List.set_cons_succ]
          unfold hcells
          (refine mix_loud (by rfl) (by rfl) (fun K E hK => ?_); go_big_op)
          change Calls _ _ #[sumV dc, sumV q] _ _
          refine (refPreimage_calls dc q hdl hq _).mono ?_; rintro e w5 ⟨rfl, hd⟩
          obtain ⟨x', rfl⟩ := more_ext _ hd; clear hd
          refine hK _ _ ⟨_, rfl⟩ ?_; clear hK K E
          repeat (first | (refine mix_quiet (by rfl) (by rfl) (fun K hK => ?_); go_big_quiet_op; refine hK _ ?_; clear hK K) | (refine mix_skip (by rfl) ?_; simp only [Act.put, List.setIfInBounds_toArray, List.set_cons_zero, List.set_cons_succ]))
          refine mix_nil ?_
          have e23 := grow_ext x'
          generalize grow v20 x' = v22 at *
          replace hC := Blk.below hC e23 (Blk.lt hC)
          replace hD := Blk.below hD e23 (Blk.lt hD)
          replace hKp := hKp.trans (Keep.of_ext e23)
          replace hmA : v22.rangeAt b1 (o1 + k * 32) (hcells p) := fun i u hu => (World.cell?_of_block (hKp.block b1 (by omega) hb1)).trans (hmA0 i u hu)
          replace hmB : v22.rangeAt b2 (o2 + k * 32) (hcells q) := fun i u hu => (World.cell?_of_block (hKp.block b2 (by omega) hb2)).trans (hmB0 i u hu)
          replace hcT : v22.cell? ⟨b3, o3 + k, none⟩ = some (.bool false) := (World.cell?_of_block (hKp.block b3 (by omega) hb3)).trans hcT0
          replace hbA : b1 < v22.heap.size := by have := hKp.size; omega
          replace hbB : b2 < v22.heap.size := by have := hKp.size; omega
          clear e23
          have hsl : (preB cc p).length = 65 := by rw [preB_length]; omega
          have hul : (preB dc q).length = 65 := by rw [preB_length]; omega
          have HM2 := Lib.hid (HM.out (preB cc p) (preB dc q) rfl rfl)
          generalize preB cc p = s at *
          generalize preB dc q = u at *
          have hs32 := shaOf_length s
          have hu32 := shaOf_length u
          have heq := fun w : World => eq_sum (shaOf s) (shaOf u) hs32 hu32 w
          go_wp2_with fail
          refine (refOf_calls s _ (by omega)).mono ?_; rintro e v25 ⟨rfl, e24⟩
          replace hC := Blk.below hC e24 (Blk.lt hC)
          replace hD := Blk.below hD e24 (Blk.lt hD)
          replace hKp := hKp.trans (Keep.of_ext e24)
          replace hmA : v25.rangeAt b1 (o1 + k * 32) (hcells p) := fun i u hu => (World.cell?_of_block (hKp.block b1 (by omega) hb1)).trans (hmA0 i u hu)
          replace hmB : v25.rangeAt b2 (o2 + k * 32) (hcells q) := fun i u hu => (World.cell?_of_block (hKp.block b2 (by omega) hb2)).trans (hmB0 i u hu)
          replace hcT : v25.cell? ⟨b3, o3 + k, none⟩ = some (.bool false) := (World.cell?_of_block (hKp.block b3 (by omega) hb3)).trans hcT0
          replace hbA : b1 < v25.heap.size := by have := hKp.size; omega
          replace hbB : b2 < v25.heap.size := by have := hKp.size; omega
          clear e24
          clear hmA hmB hcT hbA hbB hmA0 hmB0 hcT0
          unfold sumV
          go_wp2_with (refine stop_store 23 (.tmp 15) (.tmp 139) rfl ?_)
          refine ⟨?_⟩
          refine wpList_store_row rfl 23 (.tmp 15) (.tmp 139) rfl g16 ((shaOf s).map byteV).toArray (by rfl) (by rfl) 23 _ hC (size32.trans (by simp [hs32])) (by simp [hs32, hcl]) (by simp [byteV, Value.oneCell']) ?_
          simp only [Act.put, List.setIfInBounds_toArray, List.set_cons_zero, List.set_cons_succ]
          have hCn : ArrB (v25.setRow g16 ((shaOf s).map byteV).toArray) g16 23 (shaOf s) := Blk.row hC _
          have hCnu : Upd g16 v25 (v25.setRow g16 ((shaOf s).map byteV).toArray) := (Upd.refl _ _).row _
          generalize v25.setRow g16 ((shaOf s).map byteV).toArray = v26 at *
          replace hD := Blk.kept (S := fun k => k ≠ g16) hD (.of_upd hCnu (fun h => h rfl)) (by omega)
          replace hKp := hKp.trans (Keep.of_upd (S := fun k => k < zA) hCnu (fun h => absurd h (by omega)))
          clear hC hCnu
          have hC := hCn
          clear hCn
          go_wp2_with fail
          refine (refOf_calls u _ (by omega)).mono ?_; rintro e v28 ⟨rfl, e27⟩
          replace hC := Blk.below hC e27 (Blk.lt hC)
          replace hD := Blk.below hD e27 (Blk.lt hD)
          replace hKp := hKp.trans (Keep.of_ext e27)
          clear e27
          unfold sumV
          go_wp2_with (refine stop_store 23 (.tmp 16) (.tmp 141) rfl ?_)
          refine ⟨?_⟩
          refine wpList_store_row rfl 23 (.tmp 16) (.tmp 141) rfl g19 ((shaOf u).map byteV).toArray (by rfl) (by rfl) 23 _ hD (size32.trans (by simp [hu32])) (by simp [hu32, hdl]) (by simp [byteV, Value.oneCell']) ?_
          simp only [Act.put, List.setIfInBounds_toArray, List.set_cons_zero, List.set_cons_succ]
          have hDn : ArrB (v28.setRow g19 ((shaOf u).map byteV).toArray) g19 23 (shaOf u) := Blk.row hD _
          have hDnu : Upd g19 v28 (v28.setRow g19 ((shaOf u).map byteV).toArray) := (Upd.refl _ _).row _
          generalize v28.setRow g19 ((shaOf u).map byteV).toArray = v29 at *
          replace hC := Blk.kept (S := fun k => k ≠ g19) hC (.of_upd hDnu (fun h => h rfl)) (by omega)
          replace hKp := hKp.trans (Keep.of_upd (S := fun k => k < zA) hDnu (fun h => absurd h (by omega)))
          clear hD hDnu
          have hD := hDn
          clear hDn
          by_cases hsu : s = u
          · subst hsu
            clear heq
            have Hst := Lib.hid (HM2.out.2 (fun h => h.1 rfl))
            have hbb : (s == s) = true := by simp
            go_wp2_with fail
            go_roundw
            case rel => exact ⟨k + 1, shaOf s, shaOf s, by omega, by go_num, hs32, hs32, hC, hD, hKp, HM2.out.1, Hst.out⟩
            case measure => simp [intOf]; omega
          · have hbb : (s == u) = false := by rw [beq_eq_false_iff_ne]; exact hsu
            by_cases hh : shaOf s = shaOf u
            · have dh : decide (shaOf s = shaOf u) = true := decide_eq_true hh
              rw [dh] at heq
              clear dh hh
              go_wp2_with (refine stop_load 23 (.tmp 15) rfl ?_)
              refine ⟨?_⟩
              refine list_want (by rfl) (fun K hK => ?_)
              refine wp_load_row 23 (.tmp 15) rfl g16 (by rfl) 23 _ (0, 0) _ hC Tryd.underlying23 rfl (size32.trans (by simp [hs32])) ?_
              refine hK _ _ ?_; clear hK K
              simp only [Act.put, List.setIfInBounds_toArray, List.set_cons_zero, List.set_cons_succ]
              go_wp2_with (refine stop_load 23 (.tmp 16) rfl ?_)
              refine ⟨?_⟩
              refine list_want (by rfl) (fun K hK => ?_)
              refine wp_load_row 23 (.tmp 16) rfl g19 (by rfl) 23 _ (0, 0) _ hD Tryd.underlying23 rfl (size32.trans (by simp [hu32])) ?_
              refine hK _ _ ?_; clear hK K
              simp only [Act.put, List.setIfInBounds_toArray, List.set_cons_zero, List.set_cons_succ]
              go_wp2_with fail
              go_ret
              exact ⟨rfl, ((Keep.of_ext (S := fun k => k < w.heap.size) HE).trans (hKp.mono (fun k _ h => by have := HE.size; omega))).ext⟩
            · have dh : decide (shaOf s = shaOf u) = false := decide_eq_false hh
              have Hst := Lib.hid (HM2.out.2 (fun h => hh h.2))
              rw [dh] at heq
              clear dh hh
              go_wp2_with (refine stop_load 23 (.tmp 15) rfl ?_)
              refine ⟨?_⟩
              refine list_want (by rfl) (fun K hK => ?_)
              refine wp_load_row 23 (.tmp 15) rfl g16 (by rfl) 23 _ (0, 0) _ hC Tryd.underlying23 rfl (size32.trans (by simp [hs32])) ?_
              refine hK _ _ ?_; clear hK K
              simp only [Act.put, List.setIfInBounds_toArray, List.set_cons_zero, List.set_cons_succ]
              go_wp2_with (refine stop_load 23 (.tmp 16) rfl ?_)
              refine ⟨?_⟩
              refine list_want (by rfl) (fun K hK => ?_)
              refine wp_load_row 23 (.tmp 16) rfl g19 (by rfl) 23 _ (0, 0) _ hD Tryd.underlying23 rfl (size32.trans (by simp [hu32])) ?_
              refine hK _ _ ?_; clear hK K
              simp only [Act.put, List.setIfInBounds_toArray, List.set_cons_zero, List.set_cons_succ]
              go_wp2_with fail
              go_roundw
              case rel => exact ⟨k + 1, shaOf s, shaOf u, by omega, by go_num, hs32, hu32, hC, hD, hKp, HM2.out.1, Hst.out⟩
              case measure => simp [intOf]; omega
        · skip
          go_wp2_with fail
          refine region_mix0 (by kernel_rfl) (by kernel_rfl) (fun x => ?_)
          refine mix_row (by rfl) (by rfl) 23 (.tmp 15) rfl g16 (by rfl) 23 _ _ hC Tryd.underlying23 rfl (size32.trans (by simp [hcl])) ?_
          simp only [Act.put, List.setIfInBounds_toArray, List.set_cons_zero, List.set_cons_succ]
          iterate 3 (first | (refine mix_quiet (by rfl) (by rfl) (fun K hK => ?_); go_big_quiet_op; refine hK _ ?_; clear hK K) | (refine mix_skip (by rfl) ?_; simp only [Act.put, List.setIfInBounds_toArray, List.set_cons_zero, List.set_cons_succ]))
          refine mix_mid (by rfl) (by rfl) 23 (.tmp 113) rfl b1 (o1 + k * 32) (by rfl) _ _ hmA hbA Tryd.underlying23 rfl (size32l _ hp) ?_
          simp only [Act.put, List.setIfInBounds_toArray, List.set_cons_zero, List.set_cons_succ]
          unfold hcells
          (refine mix_loud (by rfl) (by rfl) (fun K E hK => ?_); go_big_op)
          change Calls _ _ #[sumV cc, sumV p] _ _
          refine (refPreimage_calls cc p hcl hp _).mono ?_; rintro e w5 ⟨rfl, hd⟩
          obtain ⟨x', rfl⟩ := more_ext _ hd; clear hd
          refine hK _ _ ⟨_, rfl⟩ ?_; clear hK K E
          repeat (first | (refine mix_quiet (by rfl) (by rfl) (fun K hK => ?_); go_big_quiet_op; refine hK _ ?_; clear hK K) | (refine mix_skip (by rfl) ?_; simp only [Act.put, List.setIfInBounds_toArray, List.set_cons_zero, List.set_cons_succ]))
          refine mix_nil ?_
          have e21 := grow_ext x'
          generalize grow wo x' = v20 at *
          replace hC := Blk.below hC e21 (Blk.lt hC)
          replace hD := Blk.below hD e21 (Blk.lt hD)
          replace hKp := hKp.trans (Keep.of_ext e21)
          replace hmA : v20.rangeAt b1 (o1 + k * 32) (hcells p) := fun i u hu => (World.cell?_of_block (hKp.block b1 (by omega) hb1)).trans (hmA0 i u hu)
          replace hmB : v20.rangeAt b2 (o2 + k * 32) (hcells q) := fun i u hu => (World.cell?_of_block (hKp.block b2 (by omega) hb2)).trans (hmB0 i u hu)
          replace hcT : v20.cell? ⟨b3, o3 + k, none⟩ = some (.bool true) := (World.cell?_of_block (hKp.block b3 (by omega) hb3)).trans hcT0
          replace hbA : b1 < v20.heap.size := by have := hKp.size; omega
          replace hbB : b2 < v20.heap.size := by have := hKp.size; omega
          clear e21
          go_wp2_with fail
          refine region_mix0 (by kernel_rfl) (by kernel_rfl) (fun x => ?_)
          refine mix_row (by rfl) (by rfl) 23 (.tmp 16) rfl g19 (by rfl) 23 _ _ hD Tryd.underlying23 rfl (size32.trans (by simp [hdl])) ?_
          simp only [Act.put, List.setIfInBounds_toArray, List.set_cons_zero, List.set_cons_succ]
          iterate 3 (first | (refine mix_quiet (by rfl) (by rfl) (fun K hK => ?_); go_big_quiet_op; refine hK _ ?_; clear hK K) | (refine mix_skip (by rfl) ?_; simp only [Act.put, List.setIfInBounds_toArray, List.set_cons_zero, List.set_cons_succ]))
          refine mix_mid (by rfl) (by rfl) 23 (.tmp 119) rfl b2 (o2 + k * 32) (by rfl) _ _ hmB hbB Tryd.underlying23 rfl (size32l _ hq) ?_
          simp only [Act.put, List.setIfInBounds_toArray, List.set_cons_zero, List.set_cons_succ]
          unfold hcells
          (refine mix_loud (by rfl) (by rfl) (fun K E hK => ?_); go_big_op)
          change Calls _ _ #[sumV dc, sumV q] _ _
          refine (refPreimage_calls dc q hdl hq _).mono ?_; rintro e w5 ⟨rfl, hd⟩
          obtain ⟨x', rfl⟩ := more_ext _ hd; clear hd
          refine hK _ _ ⟨_, rfl⟩ ?_; clear hK K E
          repeat (first | (refine mix_quiet (by rfl) (by rfl) (fun K hK => ?_); go_big_quiet_op; refine hK _ ?_; clear hK K) | (refine mix_skip (by rfl) ?_; simp only [Act.put, List.setIfInBounds_toArray, List.set_cons_zero, List.set_cons_succ]))
          refine mix_nil ?_
          have e23 := grow_ext x'
          generalize grow v20 x' = v22 at *
          replace hC := Blk.below hC e23 (Blk.lt hC)
          replace hD := Blk.below hD e23 (Blk.lt hD)
          replace hKp := hKp.trans (Keep.of_ext e23)
          replace hmA : v22.rangeAt b1 (o1 + k * 32) (hcells p) := fun i u hu => (World.cell?_of_block (hKp.block b1 (by omega) hb1)).trans (hmA0 i u hu)
          replace hmB : v22.rangeAt b2 (o2 + k * 32) (hcells q) := fun i u hu => (World.cell?_of_block (hKp.block b2 (by omega) hb2)).trans (hmB0 i u hu)
          replace hcT : v22.cell? ⟨b3, o3 + k, none⟩ = some (.bool true) := (World.cell?_of_block (hKp.block b3 (by omega) hb3)).trans hcT0
          replace hbA : b1 < v22.heap.size := by have := hKp.size; omega
          replace hbB : b2 < v22.heap.size := by have := hKp.size; omega
          clear e23
          go_wp2_with fail
          refine region_mix0 (by kernel_rfl) (by kernel_rfl) (fun x => ?_)
          iterate 3 (first | (refine mix_quiet (by rfl) (by rfl) (fun K hK => ?_); go_big_quiet_op; refine hK _ ?_; clear hK K) | (refine mix_skip (by rfl) ?_; simp only [Act.put, List.setIfInBounds_toArray, List.set_cons_zero, List.set_cons_succ]))
          refine mix_mid (by rfl) (by rfl) 23 (.tmp 128) rfl b1 (o1 + k * 32) (by rfl) _ _ hmA hbA Tryd.underlying23 rfl (size32l _ hp) ?_
          simp only [Act.put, List.setIfInBounds_toArray, List.set_cons_zero, List.set_cons_succ]
          refine mix_row (by rfl) (by rfl) 23 (.tmp 15) rfl g16 (by rfl) 23 _ _ hC Tryd.underlying23 rfl (size32.trans (by simp [hcl])) ?_
          simp only [Act.put, List.setIfInBounds_toArray, List.set_cons_zero, List.set_cons_succ]
          unfold hcells
          (refine mix_loud (by rfl) (by rfl) (fun K E hK => ?_); go_big_op)
          change Calls _ _ #[sumV p, sumV cc] _ _
          refine (refPreimage_calls p cc hp hcl _).mono ?_; rintro e w5 ⟨rfl, hd⟩
          obtain ⟨x', rfl⟩ := more_ext _ hd; clear hd
          refine hK _ _ ⟨_, rfl⟩ ?_; clear hK K E
          repeat (first | (refine mix_quiet (by rfl) (by rfl) (fun K hK => ?_); go_big_quiet_op; refine hK _ ?_; clear hK K) | (refine mix_skip (by rfl) ?_; simp only [Act.put, List.setIfInBounds_toArray, List.set_cons_zero, List.set_cons_succ]))
          refine mix_nil ?_
          have e25 := grow_ext x'
          generalize grow v22 x' = v24 at *
          replace hC := Blk.below hC e25 (Blk.lt hC)
          replace hD := Blk.below hD e25 (Blk.lt hD)
          replace hKp := hKp.trans (Keep.of_ext e25)
          replace hmA : v24.rangeAt b1 (o1 + k * 32) (hcells p) := fun i u hu => (World.cell?_of_block (hKp.block b1 (by omega) hb1)).trans (hmA0 i u hu)
          replace hmB : v24.rangeAt b2 (o2 + k * 32) (hcells q) := fun i u hu => (World.cell?_of_block (hKp.block b2 (by omega) hb2)).trans (hmB0 i u hu)
          replace hcT : v24.cell? ⟨b3, o3 + k, none⟩ = some (.bool true) := (World.cell?_of_block (hKp.block b3 (by omega) hb3)).trans hcT0
          replace hbA : b1 < v24.heap.size := by have := hKp.size; omega
          replace hbB : b2 < v24.heap.size := by have := hKp.size; omega
          clear e25
          go_wp2_with fail
          refine region_mix0 (by kernel_rfl) (by kernel_rfl) (fun x => ?_)
          iterate 3 (first | (refine mix_quiet (by rfl) (by rfl) (fun K hK => ?_); go_big_quiet_op; refine hK _ ?_; clear hK K) | (refine mix_skip (by rfl) ?_; simp only [Act.put, List.setIfInBounds_toArray, List.set_cons_zero, List.set_cons_succ]))
          refine mix_mid (by rfl) (by rfl) 23 (.tmp 134) rfl b2 (o2 + k * 32) (by rfl) _ _ hmB hbB Tryd.underlying23 rfl (size32l _ hq) ?_
          simp only [Act.put, List.setIfInBounds_toArray, List.set_cons_zero, List.set_cons_succ]
          refine mix_row (by rfl) (by rfl) 23 (.tmp 16) rfl g19 (by rfl) 23 _ _ hD Tryd.underlying23 rfl (size32.trans (by simp [hdl])) ?_
          simp only [Act.put, List.setIfInBounds_toArray, List.set_cons_zero, List.set_cons_succ]
          unfold hcells
          (refine mix_loud (by rfl) (by rfl) (fun K E hK => ?_); go_big_op)
          change Calls _ _ #[sumV q, sumV dc] _ _
          refine (refPreimage_calls q dc hq hdl _).mono ?_; rintro e w5 ⟨rfl, hd⟩
          obtain ⟨x', rfl⟩ := more_ext _ hd; clear hd
          refine hK _ _ ⟨_, rfl⟩ ?_; clear hK K E
          repeat (first | (refine mix_quiet (by rfl) (by rfl) (fun K hK => ?_); go_big_quiet_op; refine hK _ ?_; clear hK K) | (refine mix_skip (by rfl) ?_; simp only [Act.put, List.setIfInBounds_toArray, List.set_cons_zero, List.set_cons_succ]))
          refine mix_nil ?_
          have e27 := grow_ext x'
          generalize grow v24 x' = v26 at *
          replace hC := Blk.below hC e27 (Blk.lt hC)
          replace hD := Blk.below hD e27 (Blk.lt hD)
          replace hKp := hKp.trans (Keep.of_ext e27)
          replace hmA : v26.rangeAt b1 (o1 + k * 32) (hcells p) := fun i u hu => (World.cell?_of_block (hKp.block b1 (by omega) hb1)).trans (hmA0 i u hu)
          replace hmB : v26.rangeAt b2 (o2 + k * 32) (hcells q) := fun i u hu => (World.cell?_of_block (hKp.block b2 (by omega) hb2)).trans (hmB0 i u hu)
          replace hcT : v26.cell? ⟨b3, o3 + k, none⟩ = some (.bool true) := (World.cell?_of_block (hKp.block b3 (by omega) hb3)).trans hcT0
          replace hbA : b1 < v26.heap.size := by have := hKp.size; omega
          replace hbB : b2 < v26.heap.size := by have := hKp.size; omega
          clear e27
          have hsl : (preB p cc).length = 65 := by rw [preB_length]; omega
          have hul : (preB q dc).length = 65 := by rw [preB_length]; omega
          have HM2 := Lib.hid (HM.out (preB p cc) (preB q dc) rfl rfl)
          generalize preB p cc = s at *
          generalize preB q dc = u at *
          have hs32 := shaOf_length s
          have hu32 := shaOf_length u
          have heq := fun w : World => eq_sum (shaOf s) (shaOf u) hs32 hu32 w
          go_wp2_with fail
          refine (refOf_calls s _ (by omega)).mono ?_; rintro e v29 ⟨rfl, e28⟩
          replace hC := Blk.below hC e28 (Blk.lt hC)
          replace hD := Blk.below hD e28 (Blk.lt hD)
          replace hKp := hKp.trans (Keep.of_ext e28)
          replace hmA : v29.rangeAt b1 (o1 + k * 32) (hcells p) := fun i u hu => (World.cell?_of_block (hKp.block b1 (by omega) hb1)).trans (hmA0 i u hu)
          replace hmB : v29.rangeAt b2 (o2 + k * 32) (hcells q) := fun i u hu => (World.cell?_of_block (hKp.block b2 (by omega) hb2)).trans (hmB0 i u hu)
          replace hcT : v29.cell? ⟨b3, o3 + k, none⟩ = some (.bool true) := (World.cell?_of_block (hKp.block b3 (by omega) hb3)).trans hcT0
          replace hbA : b1 < v29.heap.size := by have := hKp.size; omega
          replace hbB : b2 < v29.heap.size := by have := hKp.size; omega
          clear e28
          clear hmA hmB hcT hbA hbB hmA0 hmB0 hcT0
          unfold sumV
          go_wp2_with (refine stop_store 23 (.tmp 15) (.tmp 139) rfl ?_)
          refine ⟨?_⟩
          refine wpList_store_row rfl 23 (.tmp 15) (.tmp 139) rfl g16 ((shaOf s).map byteV).toArray (by rfl) (by rfl) 23 _ hC (size32.trans (by simp [hs32])) (by simp [hs32, hcl]) (by simp [byteV, Value.oneCell']) ?_
          simp only [Act.put, List.setIfInBounds_toArray, List.set_cons_zero, List.set_cons_succ]
          have hCn : ArrB (v29.setRow g16 ((shaOf s).map byteV).toArray) g16 23 (shaOf s) := Blk.row hC _
          have hCnu : Upd g16 v29 (v29.setRow g16 ((shaOf s).map byteV).toArray) := (Upd.refl _ _).row _
          generalize v29.setRow g16 ((shaOf s).map byteV).toArray = v30 at *
          replace hD := Blk.kept (S := fun k => k ≠ g16) hD (.of_upd hCnu (fun h => h rfl)) (by omega)
          replace hKp := hKp.trans (Keep.of_upd (S := fun k => k < zA) hCnu (fun h => absurd h (by omega)))
          clear hC hCnu
          have hC := hCn
          clear hCn
          go_wp2_with fail
          refine (refOf_calls u _ (by omega)).mono ?_; rintro e v32 ⟨rfl, e31⟩
          replace hC := Blk.below hC e31 (Blk.lt hC)
          replace hD := Blk.below hD e31 (Blk.lt hD)
          replace hKp := hKp.trans (Keep.of_ext e31)
          clear e31
          unfold sumV
          go_wp2_with (refine stop_store 23 (.tmp 16) (.tmp 141) rfl ?_)
          refine ⟨?_⟩
          refine wpList_store_row rfl 23 (.tmp 16) (.tmp 141) rfl g19 ((shaOf u).map byteV).toArray (by rfl) (by rfl) 23 _ hD (size32.trans (by simp [hu32])) (by simp [hu32, hdl]) (by simp [byteV, Value.oneCell']) ?_
          simp only [Act.put, List.setIfInBounds_toArray, List.set_cons_zero, List.set_cons_succ]
          have hDn : ArrB (v32.setRow g19 ((shaOf u).map byteV).toArray) g19 23 (shaOf u) := Blk.row hD _
          have hDnu : Upd g19 v32 (v32.setRow g19 ((shaOf u).map byteV).toArray) := (Upd.refl _ _).row _
          generalize v32.setRow g19 ((shaOf u).map byteV).toArray = v33 at *
          replace hC := Blk.kept (S := fun k => k ≠ g19) hC (.of_upd hDnu (fun h => h rfl)) (by omega)
          replace hKp := hKp.trans (Keep.of_upd (S := fun k => k < zA) hDnu (fun h => absurd h (by omega)))
          clear hD hDnu
          have hD := hDn
          clear hDn
          by_cases hsu : s = u
          · subst hsu
            clear heq
            have Hst := Lib.hid (HM2.out.2 (fun h => h.1 rfl))
            have hbb : (s == s) = true := by simp
            go_wp2_with fail
            go_roundw
            case rel => exact ⟨k + 1, shaOf s, shaOf s, by omega, by go_num, hs32, hs32, hC, hD, hKp, HM2.out.1, Hst.out⟩
            case measure => simp [intOf]; omega
          · have hbb : (s == u) = false := by rw [beq_eq_false_iff_ne]; exact hsu
            by_cases hh : shaOf s = shaOf u
            · have dh : decide (shaOf s = shaOf u) = true := decide_eq_true hh
              rw [dh] at heq
              clear dh hh
              go_wp2_with (refine stop_load 23 (.tmp 15) rfl ?_)
              refine ⟨?_⟩
              refine list_want (by rfl) (fun K hK => ?_)
              refine wp_load_row 23 (.tmp 15) rfl g16 (by rfl) 23 _ (0, 0) _ hC Tryd.underlying23 rfl (size32.trans (by simp [hs32])) ?_
              refine hK _ _ ?_; clear hK K
              simp only [Act.put, List.setIfInBounds_toArray, List.set_cons_zero, List.set_cons_succ]
              go_wp2_with (refine stop_load 23 (.tmp 16) rfl ?_)
              refine ⟨?_⟩
              refine list_want (by rfl) (fun K hK => ?_)
              refine wp_load_row 23 (.tmp 16) rfl g19 (by rfl) 23 _ (0, 0) _ hD Tryd.underlying23 rfl (size32.trans (by simp [hu32])) ?_
              refine hK _ _ ?_; clear hK K
              simp only [Act.put, List.setIfInBounds_toArray, List.set_cons_zero, List.set_cons_succ]
              go_wp2_with fail
              go_ret
              exact ⟨rfl, ((Keep.of_ext (S := fun k => k < w.heap.size) HE).trans (hKp.mono (fun k _ h => by have := HE.size; omega))).ext⟩
            · have dh : decide (shaOf s = shaOf u) = false := decide_eq_false hh
              have Hst := Lib.hid (HM2.out.2 (fun h => hh h.2))
              rw [dh] at heq
              clear dh hh
              go_wp2_with (refine stop_load 23 (.tmp 15) rfl ?_)
              refine ⟨?_⟩
              refine list_want (by rfl) (fun K hK => ?_)
              refine wp_load_row 23 (.tmp 15) rfl g16 (by rfl) 23 _ (0, 0) _ hC Tryd.underlying23 rfl (size32.trans (by simp [hs32])) ?_
              refine hK _ _ ?_; clear hK K
              simp only [Act.put, List.setIfInBounds_toArray, List.set_cons_zero, List.set_cons_succ]
              go_wp2_with (refine stop_load 23 (.tmp 16) rfl ?_)
              refine ⟨?_⟩
              refine list_want (by rfl) (fun K hK => ?_)
              refine wp_load_row 23 (.tmp 16) rfl g19 (by rfl) 23 _ (0, 0) _ hD Tryd.underlying23 rfl (size32.trans (by simp [hu32])) ?_
              refine hK _ _ ?_; clear hK K
              simp only [Act.put, List.setIfInBounds_toArray, List.set_cons_zero, List.set_cons_succ]
              go_wp2_with fail
              go_roundw
              case rel => exact ⟨k + 1, shaOf s, shaOf u, by omega, by go_num, hs32, hu32, hC, hD, hKp, HM2.out.1, Hst.out⟩
              case measure => simp [intOf]; omega
      · exfalso
        obtain rfl : k = N := by omega
        rw [List.drop_of_length_le (by rw [HTl.out]; exact Nat.le_refl _), List.drop_of_length_le (by rw [HXa.out]; exact Nat.le_refl _), List.drop_of_length_le (by rw [HXb.out]; exact Nat.le_refl _), Way.foldW_nil, Way.foldW_nil] at hfo
        rw [List.drop_of_length_le (by rw [HXa.out]; exact Nat.le_refl _), List.drop_of_length_le (by rw [HXb.out]; exact Nat.le_refl _)] at hnk
        rcases hnk with h | h
        · exact h hfo
        · exact h rfl
  · obtain rfl : same = false := by simpa using hds
    clear hds
    go_wp2_with (refine stop_load 23 (.tmp 87) rfl ?_)
    refine ⟨?_⟩
    refine wpList_load_mid rfl 23 (.tmp 87) rfl w.heap.size (0) (by rfl) (hcells a) _ hm0 Tryd.underlying23 rfl (size32l _ ha) ?_
    simp only [Act.put, List.setIfInBounds_toArray, List.set_cons_zero, List.set_cons_succ]
    unfold hcells
    go_wp2_with (refine stop_load 23 (.tmp 89) rfl ?_)
    refine ⟨?_⟩
    refine wpList_load_mid rfl 23 (.tmp 89) rfl w.heap.size (32) (by rfl) (hcells b) _ hm1 Tryd.underlying23 rfl (size32l _ hb) ?_
    simp only [Act.put, List.setIfInBounds_toArray, List.set_cons_zero, List.set_cons_succ]
    unfold hcells
    go_wp2_with fail
    refine (refTurns_calls m n _).mono ?_; rintro e vA ⟨v, rfl, hO, eA⟩
    rw [← HT.out] at hO
    obtain ⟨BT, cT, rfl, hrdT, -, -, -⟩ := own_rd hO
    clear hO
    replace hX := Blk.below hX eA (Blk.lt hX)
    replace hM := Blk.below hM eA (Blk.lt hM)
    replace hL := Blk.below hL eA (Blk.lt hL)
    replace hR := Blk.below hR eA (Blk.lt hR)
    replace hE := hE.trans eA
    replace c0 : vA.cell? ⟨w.heap.size + 1, 0, none⟩ = some (.int .i64 m) := Blk.cell hM 0
    replace c1 : vA.cell? ⟨w.heap.size + 1, 1, none⟩ = some (.int .i64 n) := Blk.cell hM 1
    replace c2 : vA.cell? ⟨w.heap.size + 1 + 1, 0, none⟩ = some (.slice Pa la.length xa) := Blk.cell hL 0
    replace c3 : vA.cell? ⟨w.heap.size + 1 + 1, 1, none⟩ = some (.slice Pb lb.length xb) := Blk.cell hL 1
    replace hm0 : vA.rangeAt w.heap.size 0 (hcells a) := blk_mid hX hall 0 (by simp)
    replace hm1 : vA.rangeAt w.heap.size 32 (hcells b) := blk_mid hX hall 1 (by simp)
    clear eA
    have hSa := HTa.out _ hE
    have hSb := HTb.out _ hE
    obtain ⟨Pa', xa', hv1, hA0, -, -, hrA⟩ := hSa
    obtain ⟨Pb', xb', hv2, hB0, -, -, hrB⟩ := hSb
    injection hv1 with v1 v2 v3
    injection hv2 with v4 v5 v6
    subst v1 v4
    clear v2 v3 v5 v6
    have HE := hE
    obtain ⟨zA, hzA⟩ : ∃ zA, zA = vA.heap.size := ⟨_, rfl⟩
    have hKp : Keep (fun k => k < zA) vA vA := Keep.refl _ _
    go_wp2_with (refine stop_load 23 (.tmp 101) rfl ?_)
    refine ⟨?_⟩
    refine wpList_load_mid rfl 23 (.tmp 101) rfl w.heap.size (0) (by rfl) (hcells a) _ hm0 Tryd.underlying23 rfl (size32l _ ha) ?_
    simp only [Act.put, List.setIfInBounds_toArray, List.set_cons_zero, List.set_cons_succ]
    unfold hcells
    try unfold sumV
    go_wp2_with (refine stop_store 23 (.tmp 15) (.tmp 102) rfl ?_)
    refine ⟨?_⟩
    change wpList _ _ _ _ _ (vA.alloc (.cells ((zerosB 32).map byteV).toArray 23))
    have hC0 : ArrB (vA.alloc (.cells ((zerosB 32).map byteV).toArray 23)) vA.heap.size 23 (zerosB 32) := Blk.new _ _ _
    refine wpList_store_row rfl 23 (.tmp 15) (.tmp 102) rfl vA.heap.size ((a).map byteV).toArray (by rfl) (by rfl) 23 _ hC0 (size32.trans (by simp [ha])) (by simp [ha, zerosB]) (by simp [byteV, Value.oneCell']) ?_
    simp only [Act.put, List.setIfInBounds_toArray, List.set_cons_zero, List.set_cons_succ]
    have hC : ArrB ((vA.alloc (.cells ((zerosB 32).map byteV).toArray 23)).setRow vA.heap.size ((a).map byteV).toArray) vA.heap.size 23 (a) := Blk.row hC0 _
    have e15 : Ext vA ((vA.alloc (.cells ((zerosB 32).map byteV).toArray 23)).setRow vA.heap.size ((a).map byteV).toArray) := ((Ext.refl vA).alloc _).row (Nat.le_refl _) _
    clear hC0
    generalize (vA.alloc (.cells ((zerosB 32).map byteV).toArray 23)).setRow vA.heap.size ((a).map byteV).toArray = v14 at *
    have g16l := Blk.lt hC
    obtain ⟨g16, g16e⟩ : ∃ g16, g16 = vA.heap.size := ⟨_, rfl⟩
    rw [← g16e] at hC g16l
    try rw [← g16e]
    have g16b : vA.heap.size ≤ g16 := by omega
    replace hX := Blk.below hX e15 (Blk.lt hX)
    replace hM := Blk.below hM e15 (Blk.lt hM)
    replace hL := Blk.below hL e15 (Blk.lt hL)
    replace hR := Blk.below hR e15 (Blk.lt hR)
    replace hKp := hKp.trans (Keep.of_ext e15)
    replace hE := hE.trans e15
    replace c0 : v14.cell? ⟨w.heap.size + 1, 0, none⟩ = some (.int .i64 m) := Blk.cell hM 0
    replace c1 : v14.cell? ⟨w.heap.size + 1, 1, none⟩ = some (.int .i64 n) := Blk.cell hM 1
    replace c2 : v14.cell? ⟨w.heap.size + 1 + 1, 0, none⟩ = some (.slice Pa la.length xa) := Blk.cell hL 0
    replace c3 : v14.cell? ⟨w.heap.size + 1 + 1, 1, none⟩ = some (.slice Pb lb.length xb) := Blk.cell hL 1
    replace hm0 : v14.rangeAt w.heap.size 0 (hcells a) := blk_mid hX hall 0 (by simp)
    replace hm1 : v14.rangeAt w.heap.size 32 (hcells b) := blk_mid hX hall 1 (by simp)
    clear e15
    clear g16e
    have hgC : zA ≤ g16 := by omega
    go_wp2_with (refine stop_load 23 (.tmp 103) rfl ?_)
    refine ⟨?_⟩
    refine wpList_load_mid rfl 23 (.tmp 103) rfl w.heap.size (32) (by rfl) (hcells b) _ hm1 Tryd.underlying23 rfl (size32l _ hb) ?_
    simp only [Act.put, List.setIfInBounds_toArray, List.set_cons_zero, List.set_cons_succ]
    unfold hcells
    try unfold sumV
    go_wp2_with (refine stop_store 23 (.tmp 16) (.tmp 104) rfl ?_)
    refine ⟨?_⟩
    change wpList _ _ _ _ _ (v14.alloc (.cells ((zerosB 32).map byteV).toArray 23))
    have hD0 : ArrB (v14.alloc (.cells ((zerosB 32).map byteV).toArray 23)) v14.heap.size 23 (zerosB 32) := Blk.new _ _ _
    refine wpList_store_row rfl 23 (.tmp 16) (.tmp 104) rfl v14.heap.size ((b).map byteV).toArray (by rfl) (by rfl) 23 _ hD0 (size32.trans (by simp [hb])) (by simp [hb, zerosB]) (by simp [byteV, Value.oneCell']) ?_
    simp only [Act.put, List.setIfInBounds_toArray, List.set_cons_zero, List.set_cons_succ]
    have hD : ArrB ((v14.alloc (.cells ((zerosB 32).map byteV).toArray 23)).setRow v14.heap.size ((b).map byteV).toArray) v14.heap.size 23 (b) := Blk.row hD0 _
    have e18 : Ext v14 ((v14.alloc (.cells ((zerosB 32).map byteV).toArray 23)).setRow v14.heap.size ((b).map byteV).toArray) := ((Ext.refl v14).alloc _).row (Nat.le_refl _) _
    clear hD0
    generalize (v14.alloc (.cells ((zerosB 32).map byteV).toArray 23)).setRow v14.heap.size ((b).map byteV).toArray = v17 at *
    have g19l := Blk.lt hD
    obtain ⟨g19, g19e⟩ : ∃ g19, g19 = v14.heap.size := ⟨_, rfl⟩
    rw [← g19e] at hD g19l
    try rw [← g19e]
    have g19b : v14.heap.size ≤ g19 := by omega
    replace hX := Blk.below hX e18 (Blk.lt hX)
    replace hM := Blk.below hM e18 (Blk.lt hM)
    replace hL := Blk.below hL e18 (Blk.lt hL)
    replace hR := Blk.below hR e18 (Blk.lt hR)
    replace hKp := hKp.trans (Keep.of_ext e18)
    replace hC := Blk.below hC e18 (Blk.lt hC)
    replace hE := hE.trans e18
    replace c0 : v17.cell? ⟨w.heap.size + 1, 0, none⟩ = some (.int .i64 m) := Blk.cell hM 0
    replace c1 : v17.cell? ⟨w.heap.size + 1, 1, none⟩ = some (.int .i64 n) := Blk.cell hM 1
    replace c2 : v17.cell? ⟨w.heap.size + 1 + 1, 0, none⟩ = some (.slice Pa la.length xa) := Blk.cell hL 0
    replace c3 : v17.cell? ⟨w.heap.size + 1 + 1, 1, none⟩ = some (.slice Pb lb.length xb) := Blk.cell hL 1
    replace hm0 : v17.rangeAt w.heap.size 0 (hcells a) := blk_mid hX hall 0 (by simp)
    replace hm1 : v17.rangeAt w.heap.size 32 (hcells b) := blk_mid hX hall 1 (by simp)
    clear e18
    clear g19e
    have hgD : zA ≤ g19 := by have := hKp.size; omega
    have hgCD : g16 ≠ g19 := by omega
    clear hX hM hL c0 c1 c2 c3 hm0 hm1 hR
    clear hE
    have hr0 := hrdT
    rw [← hzA] at hrdT hrA hrB
    clear hr0
    have h0I : ((0 : Nat) : Int) ≤ (N : Int) := by omega
    go_wp2_with fail
    go_loopw [17] (fun s17 wr => ∃ (k : Nat) (cc dc : List UInt8), k ≤ N ∧ s17 = .int .i64 (k : Int) ∧ cc.length = 32 ∧ dc.length = 32 ∧ ArrB wr g16 23 cc ∧ ArrB wr g19 23 dc ∧ Keep (fun k => k < zA) vA wr ∧ Way.foldW nodeB cc (T.drop k) (A.drop k) = Way.foldW nodeB dc (T.drop k) (B.drop k) ∧ (cc ≠ dc ∨ A.drop k ≠ B.drop k)) (fun s17 _ => N - (intOf s17).toNat)
    case atStart => exact ⟨0, a, b, Nat.zero_le _, rfl, ha, hb, hC, hD, hKp, by
      rw [List.drop_zero, List.drop_zero, List.drop_zero]
      have := HOK.out
      rw [← HY.out]
      exact (of_decide_eq_true this.symm).symm, Hne.out⟩
    case round =>
      clear hC hD hKp heq
      obtain ⟨wo, rfl⟩ : ∃ wo : World, wo = wr := ⟨_, rfl⟩
      obtain ⟨k, cc, dc, hk, rfl, hcl, hdl, hC, hD, hKp, hfo, hnk⟩ := hrel
      by_cases hlt : k < N
      · have hltI : (k : Int) < (N : Int) := by omega
        have hkT : k < T.length := by rw [HTl.out]; exact hlt
        have hkA : k < A.length := by rw [HXa.out]; exact hlt
        have hkB : k < B.length := by rw [HXb.out]; exact hlt
        obtain ⟨b1, o1, rfl, hb1, hmA0⟩ := rds_mid hrA hAa hkA
        obtain ⟨b2, o2, rfl, hb2, hmB0⟩ := rds_mid hrB hAb hkB
        obtain ⟨b3, o3, rfl, hb3, hcT⟩ := hrdT (map_ne Value.bool hkT)
        have hcT0 : vA.cell? ⟨b3, o3 + k, none⟩ = some (.bool T[k]) := hcT k (.bool T[k]) (by simp [hkT])
        have hTlI : (k : Int) < (T.length : Int) := by omega
        have hAlI : (k : Int) < (A.length : Int) := by omega
        have hBlI : (k : Int) < (B.length : Int) := by omega
        have hp : A[k].length = 32 := hAa _ (List.getElem_mem hkA)
        have hq : B[k].length = 32 := hAb _ (List.getElem_mem hkB)
        have HM := Lib.hid (meet_step T A B k hkT hkA hkB cc dc hcl hdl hAa hAb hfo hnk)
        generalize A[k] = p at *
        generalize B[k] = q at *
        generalize T[k] = tk at *
        clear hcT hfo hnk
        have hmA : wo.rangeAt b1 (o1 + k * 32) (hcells p) := fun i u hu => (World.cell?_of_block (hKp.block b1 (by omega) hb1)).trans (hmA0 i u hu)
        have hmB : wo.rangeAt b2 (o2 + k * 32) (hcells q) := fun i u hu => (World.cell?_of_block (hKp.block b2 (by omega) hb2)).trans (hmB0 i u hu)
        have hcT : wo.cell? ⟨b3, o3 + k, none⟩ = some (.bool tk) := (World.cell?_of_block (hKp.block b3 (by omega) hb3)).trans hcT0
        have hbA : b1 < wo.heap.size := by have := hKp.size; omega
        have hbB : b2 < wo.heap.size := by have := hKp.size; omega
        cases tk
        · skip
          go_wp2_with fail
          refine region_mix0 (by kernel_rfl) (by kernel_rfl) (fun x => ?_)
          refine mix_row (by rfl) (by rfl) 23 (.tmp 15) rfl g16 (by rfl) 23 _ _ hC Tryd.underlying23 rfl (size32.trans (by simp [hcl])) ?_
          simp only [Act.put, List.setIfInBounds_toArray, List.set_cons_zero, List.set_cons_succ]
          iterate 3 (first | (refine mix_quiet (by rfl) (by rfl) (fun K hK => ?_); go_big_quiet_op; refine hK _ ?_; clear hK K) | (refine mix_skip (by rfl) ?_; simp only [Act.put, List.setIfInBounds_toArray, List.set_cons_zero, List.set_cons_succ]))
          refine mix_mid (by rfl) (by rfl) 23 (.tmp 113) rfl b1 (o1 + k * 32) (by rfl) _ _ hmA hbA Tryd.underlying23 rfl (size32l _ hp) ?_
          simp only [Act.put, List.setIfInBounds_toArray, List.set_cons_zero, List.set_cons_succ]
          unfold hcells
          (refine mix_loud (by rfl) (by rfl) (fun K E hK => ?_); go_big_op)
          change Calls _ _ #[sumV cc, sumV p] _ _
          refine (refPreimage_calls cc p hcl hp _).mono ?_; rintro e w5 ⟨rfl, hd⟩
          obtain ⟨x', rfl⟩ := more_ext _ hd; clear hd
          refine hK _ _ ⟨_, rfl⟩ ?_; clear hK K E
          repeat (first | (refine mix_quiet (by rfl) (by rfl) (fun K hK => ?_); go_big_quiet_op; refine hK _ ?_; clear hK K) | (refine mix_skip (by rfl) ?_; simp only [Act.put, List.setIfInBounds_toArray, List.set_cons_zero, List.set_cons_succ]))
          refine mix_nil ?_
          have e21 := grow_ext x'
          generalize grow wo x' = v20 at *
          replace hC := Blk.below hC e21 (Blk.lt hC)
          replace hD := Blk.below hD e21 (Blk.lt hD)
          replace hKp := hKp.trans (Keep.of_ext e21)
          replace hmA : v20.rangeAt b1 (o1 + k * 32) (hcells p) := fun i u hu => (World.cell?_of_block (hKp.block b1 (by omega) hb1)).trans (hmA0 i u hu)
          replace hmB : v20.rangeAt b2 (o2 + k * 32) (hcells q) := fun i u hu => (World.cell?_of_block (hKp.block b2 (by omega) hb2)).trans (hmB0 i u hu)
          replace hcT : v20.cell? ⟨b3, o3 + k, none⟩ = some (.bool false) := (World.cell?_of_block (hKp.block b3 (by omega) hb3)).trans hcT0
          replace hbA : b1 < v20.heap.size := by have := hKp.size; omega
          replace hbB : b2 < v20.heap.size := by have := hKp.size; omega
          clear e21
          go_wp2_with fail
          refine region_mix0 (by kernel_rfl) (by kernel_rfl) (fun x => ?_)
          refine mix_row (by rfl) (by rfl) 23 (.tmp 16) rfl g19 (by rfl) 23 _ _ hD Tryd.underlying23 rfl (size32.trans (by simp [hdl])) ?_
          simp only [Act.put, List.setIfInBounds_toArray, List.set_cons_zero, List.set_cons_succ]
          iterate 3 (first | (refine mix_quiet (by rfl) (by rfl) (fun K hK => ?_); go_big_quiet_op; refine hK _ ?_; clear hK K) | (refine mix_skip (by rfl) ?_; simp only [Act.put, List.setIfInBounds_toArray, List.set_cons_zero, List.set_cons_succ]))
          refine mix_mid (by rfl) (by rfl) 23 (.tmp 119) rfl b2 (o2 + k * 32) (by rfl) _ _ hmB hbB Tryd.underlying23 rfl (size32l _ hq) ?_
          simp only [Act.put, List.setIfInBounds_toArray, List.set_cons_zero, List.set_cons_succ]
          unfold hcells
          (refine mix_loud (by rfl) (by rfl) (fun K E hK => ?_); go_big_op)
          change Calls _ _ #[sumV dc, sumV q] _ _
          refine (refPreimage_calls dc q hdl hq _).mono ?_; rintro e w5 ⟨rfl, hd⟩
          obtain ⟨x', rfl⟩ := more_ext _ hd; clear hd
          refine hK _ _ ⟨_, rfl⟩ ?_; clear hK K E
          repeat (first | (refine mix_quiet (by rfl) (by rfl) (fun K hK => ?_); go_big_quiet_op; refine hK _ ?_; clear hK K) | (refine mix_skip (by rfl) ?_; simp only [Act.put, List.setIfInBounds_toArray, List.set_cons_zero, List.set_cons_succ]))
          refine mix_nil ?_
          have e23 := grow_ext x'
          generalize grow v20 x' = v22 at *
          replace hC := Blk.below hC e23 (Blk.lt hC)
          replace hD := Blk.below hD e23 (Blk.lt hD)
          replace hKp := hKp.trans (Keep.of_ext e23)
          replace hmA : v22.rangeAt b1 (o1 + k * 32) (hcells p) := fun i u hu => (World.cell?_of_block (hKp.block b1 (by omega) hb1)).trans (hmA0 i u hu)
          replace hmB : v22.rangeAt b2 (o2 + k * 32) (hcells q) := fun i u hu => (World.cell?_of_block (hKp.block b2 (by omega) hb2)).trans (hmB0 i u hu)
          replace hcT : v22.cell? ⟨b3, o3 + k, none⟩ = some (.bool false) := (World.cell?_of_block (hKp.block b3 (by omega) hb3)).trans hcT0
          replace hbA : b1 < v22.heap.size := by have := hKp.size; omega
          replace hbB : b2 < v22.heap.size := by have := hKp.size; omega
          clear e23
          have hsl : (preB cc p).length = 65 := by rw [preB_length]; omega
          have hul : (preB dc q).length = 65 := by rw [preB_length]; omega
          have HM2 := Lib.hid (HM.out (preB cc p) (preB dc q) rfl rfl)
          generalize preB cc p = s at *
          generalize preB dc q = u at *
          have hs32 := shaOf_length s
          have hu32 := shaOf_length u
          have heq := fun w : World => eq_sum (shaOf s) (shaOf u) hs32 hu32 w
          go_wp2_with fail
          refine (refOf_calls s _ (by omega)).mono ?_; rintro e v25 ⟨rfl, e24⟩
          replace hC := Blk.below hC e24 (Blk.lt hC)
          replace hD := Blk.below hD e24 (Blk.lt hD)
          replace hKp := hKp.trans (Keep.of_ext e24)
          replace hmA : v25.rangeAt b1 (o1 + k * 32) (hcells p) := fun i u hu => (World.cell?_of_block (hKp.block b1 (by omega) hb1)).trans (hmA0 i u hu)
          replace hmB : v25.rangeAt b2 (o2 + k * 32) (hcells q) := fun i u hu => (World.cell?_of_block (hKp.block b2 (by omega) hb2)).trans (hmB0 i u hu)
          replace hcT : v25.cell? ⟨b3, o3 + k, none⟩ = some (.bool false) := (World.cell?_of_block (hKp.block b3 (by omega) hb3)).trans hcT0
          replace hbA : b1 < v25.heap.size := by have := hKp.size; omega
          replace hbB : b2 < v25.heap.size := by have := hKp.size; omega
          clear e24
          clear hmA hmB hcT hbA hbB hmA0 hmB0 hcT0
          unfold sumV
          go_wp2_with (refine stop_store 23 (.tmp 15) (.tmp 139) rfl ?_)
          refine ⟨?_⟩
          refine wpList_store_row rfl 23 (.tmp 15) (.tmp 139) rfl g16 ((shaOf s).map byteV).toArray (by rfl) (by rfl) 23 _ hC (size32.trans (by simp [hs32])) (by simp [hs32, hcl]) (by simp [byteV, Value.oneCell']) ?_
          simp only [Act.put, List.setIfInBounds_toArray, List.set_cons_zero, List.set_cons_succ]
          have hCn : ArrB (v25.setRow g16 ((shaOf s).map byteV).toArray) g16 23 (shaOf s) := Blk.row hC _
          have hCnu : Upd g16 v25 (v25.setRow g16 ((shaOf s).map byteV).toArray) := (Upd.refl _ _).row _
          generalize v25.setRow g16 ((shaOf s).map byteV).toArray = v26 at *
          replace hD := Blk.kept (S := fun k => k ≠ g16) hD (.of_upd hCnu (fun h => h rfl)) (by omega)
          replace hKp := hKp.trans (Keep.of_upd (S := fun k => k < zA) hCnu (fun h => absurd h (by omega)))
          clear hC hCnu
          have hC := hCn
          clear hCn
          go_wp2_with fail
          refine (refOf_calls u _ (by omega)).mono ?_; rintro e v28 ⟨rfl, e27⟩
          replace hC := Blk.below hC e27 (Blk.lt hC)
          replace hD := Blk.below hD e27 (Blk.lt hD)
          replace hKp := hKp.trans (Keep.of_ext e27)
          clear e27
          unfold sumV
          go_wp2_with (refine stop_store 23 (.tmp 16) (.tmp 141) rfl ?_)
          refine ⟨?_⟩
          refine wpList_store_row rfl 23 (.tmp 16) (.tmp 141) rfl g19 ((shaOf u).map byteV).toArray (by rfl) (by rfl) 23 _ hD (size32.trans (by simp [hu32])) (by simp [hu32, hdl]) (by simp [byteV, Value.oneCell']) ?_
          simp only [Act.put, List.setIfInBounds_toArray, List.set_cons_zero, List.set_cons_succ]
          have hDn : ArrB (v28.setRow g19 ((shaOf u).map byteV).toArray) g19 23 (shaOf u) := Blk.row hD _
          have hDnu : Upd g19 v28 (v28.setRow g19 ((shaOf u).map byteV).toArray) := (Upd.refl _ _).row _
          generalize v28.setRow g19 ((shaOf u).map byteV).toArray = v29 at *
          replace hC := Blk.kept (S := fun k => k ≠ g19) hC (.of_upd hDnu (fun h => h rfl)) (by omega)
          replace hKp := hKp.trans (Keep.of_upd (S := fun k => k < zA) hDnu (fun h => absurd h (by omega)))
          clear hD hDnu
          have hD := hDn
          clear hDn
          by_cases hsu : s = u
          · subst hsu
            clear heq
            have Hst := Lib.hid (HM2.out.2 (fun h => h.1 rfl))
            have hbb : (s == s) = true := by simp
            go_wp2_with fail
            go_roundw
            case rel => exact ⟨k + 1, shaOf s, shaOf s, by omega, by go_num, hs32, hs32, hC, hD, hKp, HM2.out.1, Hst.out⟩
            case measure => simp [intOf]; omega
          · have hbb : (s == u) = false := by rw [beq_eq_false_iff_ne]; exact hsu
            by_cases hh : shaOf s = shaOf u
            · have dh : decide (shaOf s = shaOf u) = true := decide_eq_true hh
              rw [dh] at heq
              clear dh hh
              go_wp2_with (refine stop_load 23 (.tmp 15) rfl ?_)
              refine ⟨?_⟩
              refine list_want (by rfl) (fun K hK => ?_)
              refine wp_load_row 23 (.tmp 15) rfl g16 (by rfl) 23 _ (0, 0) _ hC Tryd.underlying23 rfl (size32.trans (by simp [hs32])) ?_
              refine hK _ _ ?_; clear hK K
              simp only [Act.put, List.setIfInBounds_toArray, List.set_cons_zero, List.set_cons_succ]
              go_wp2_with (refine stop_load 23 (.tmp 16) rfl ?_)
              refine ⟨?_⟩
              refine list_want (by rfl) (fun K hK => ?_)
              refine wp_load_row 23 (.tmp 16) rfl g19 (by rfl) 23 _ (0, 0) _ hD Tryd.underlying23 rfl (size32.trans (by simp [hu32])) ?_
              refine hK _ _ ?_; clear hK K
              simp only [Act.put, List.setIfInBounds_toArray, List.set_cons_zero, List.set_cons_succ]
              go_wp2_with fail
              go_ret
              exact ⟨rfl, ((Keep.of_ext (S := fun k => k < w.heap.size) HE).trans (hKp.mono (fun k _ h => by have := HE.size; omega))).ext⟩
            · have dh : decide (shaOf s = shaOf u) = false := decide_eq_false hh
              have Hst := Lib.hid (HM2.out.2 (fun h => hh h.2))
              rw [dh] at heq
              clear dh hh
              go_wp2_with (refine stop_load 23 (.tmp 15) rfl ?_)
              refine ⟨?_⟩
              refine list_want (by rfl) (fun K hK => ?_)
              refine wp_load_row 23 (.tmp 15) rfl g16 (by rfl) 23 _ (0, 0) _ hC Tryd.underlying23 rfl (size32.trans (by simp [hs32])) ?_
              refine hK _ _ ?_; clear hK K
              simp only [Act.put, List.setIfInBounds_toArray, List.set_cons_zero, List.set_cons_succ]
              go_wp2_with (refine stop_load 23 (.tmp 16) rfl ?_)
              refine ⟨?_⟩
              refine list_want (by rfl) (fun K hK => ?_)
              refine wp_load_row 23 (.tmp 16) rfl g19 (by rfl) 23 _ (0, 0) _ hD Tryd.underlying23 rfl (size32.trans (by simp [hu32])) ?_
              refine hK _ _ ?_; clear hK K
              simp only [Act.put, List.setIfInBounds_toArray, List.set_cons_zero, List.set_cons_succ]
              go_wp2_with fail
              go_roundw
              case rel => exact ⟨k + 1, shaOf s, shaOf u, by omega, by go_num, hs32, hu32, hC, hD, hKp, HM2.out.1, Hst.out⟩
              case measure => simp [intOf]; omega
        · skip
          go_wp2_with fail
          refine region_mix0 (by kernel_rfl) (by kernel_rfl) (fun x => ?_)
          refine mix_row (by rfl) (by rfl) 23 (.tmp 15) rfl g16 (by rfl) 23 _ _ hC Tryd.underlying23 rfl (size32.trans (by simp [hcl])) ?_
          simp only [Act.put, List.setIfInBounds_toArray, List.set_cons_zero, List.set_cons_succ]
          iterate 3 (first | (refine mix_quiet (by rfl) (by rfl) (fun K hK => ?_); go_big_quiet_op; refine hK _ ?_; clear hK K) | (refine mix_skip (by rfl) ?_; simp only [Act.put, List.setIfInBounds_toArray, List.set_cons_zero, List.set_cons_succ]))
          refine mix_mid (by rfl) (by rfl) 23 (.tmp 113) rfl b1 (o1 + k * 32) (by rfl) _ _ hmA hbA Tryd.underlying23 rfl (size32l _ hp) ?_
          simp only [Act.put, List.setIfInBounds_toArray, List.set_cons_zero, List.set_cons_succ]
          unfold hcells
          (refine mix_loud (by rfl) (by rfl) (fun K E hK => ?_); go_big_op)
          change Calls _ _ #[sumV cc, sumV p] _ _
          refine (refPreimage_calls cc p hcl hp _).mono ?_; rintro e w5 ⟨rfl, hd⟩
          obtain ⟨x', rfl⟩ := more_ext _ hd; clear hd
          refine hK _ _ ⟨_, rfl⟩ ?_; clear hK K E
          repeat (first | (refine mix_quiet (by rfl) (by rfl) (fun K hK => ?_); go_big_quiet_op; refine hK _ ?_; clear hK K) | (refine mix_skip (by rfl) ?_; simp only [Act.put, List.setIfInBounds_toArray, List.set_cons_zero, List.set_cons_succ]))
          refine mix_nil ?_
          have e21 := grow_ext x'
          generalize grow wo x' = v20 at *
          replace hC := Blk.below hC e21 (Blk.lt hC)
          replace hD := Blk.below hD e21 (Blk.lt hD)
          replace hKp := hKp.trans (Keep.of_ext e21)
          replace hmA : v20.rangeAt b1 (o1 + k * 32) (hcells p) := fun i u hu => (World.cell?_of_block (hKp.block b1 (by omega) hb1)).trans (hmA0 i u hu)
          replace hmB : v20.rangeAt b2 (o2 + k * 32) (hcells q) := fun i u hu => (World.cell?_of_block (hKp.block b2 (by omega) hb2)).trans (hmB0 i u hu)
          replace hcT : v20.cell? ⟨b3, o3 + k, none⟩ = some (.bool true) := (World.cell?_of_block (hKp.block b3 (by omega) hb3)).trans hcT0
          replace hbA : b1 < v20.heap.size := by have := hKp.size; omega
          replace hbB : b2 < v20.heap.size := by have := hKp.size; omega
          clear e21
          go_wp2_with fail
          refine region_mix0 (by kernel_rfl) (by kernel_rfl) (fun x => ?_)
          refine mix_row (by rfl) (by rfl) 23 (.tmp 16) rfl g19 (by rfl) 23 _ _ hD Tryd.underlying23 rfl (size32.trans (by simp [hdl])) ?_
          simp only [Act.put, List.setIfInBounds_toArray, List.set_cons_zero, List.set_cons_succ]
          iterate 3 (first | (refine mix_quiet (by rfl) (by rfl) (fun K hK => ?_); go_big_quiet_op; refine hK _ ?_; clear hK K) | (refine mix_skip (by rfl) ?_; simp only [Act.put, List.setIfInBounds_toArray, List.set_cons_zero, List.set_cons_succ]))
          refine mix_mid (by rfl) (by rfl) 23 (.tmp 119) rfl b2 (o2 + k * 32) (by rfl) _ _ hmB hbB Tryd.underlying23 rfl (size32l _ hq) ?_
          simp only [Act.put, List.setIfInBounds_toArray, List.set_cons_zero, List.set_cons_succ]
          unfold hcells
          (refine mix_loud (by rfl) (by rfl) (fun K E hK => ?_); go_big_op)
          change Calls _ _ #[sumV dc, sumV q] _ _
          refine (refPreimage_calls dc q hdl hq _).mono ?_; rintro e w5 ⟨rfl, hd⟩
          obtain ⟨x', rfl⟩ := more_ext _ hd; clear hd
          refine hK _ _ ⟨_, rfl⟩ ?_; clear hK K E
          repeat (first | (refine mix_quiet (by rfl) (by rfl) (fun K hK => ?_); go_big_quiet_op; refine hK _ ?_; clear hK K) | (refine mix_skip (by rfl) ?_; simp only [Act.put, List.setIfInBounds_toArray, List.set_cons_zero, List.set_cons_succ]))
          refine mix_nil ?_
          have e23 := grow_ext x'
          generalize grow v20 x' = v22 at *
          replace hC := Blk.below hC e23 (Blk.lt hC)
          replace hD := Blk.below hD e23 (Blk.lt hD)
          replace hKp := hKp.trans (Keep.of_ext e23)
          replace hmA : v22.rangeAt b1 (o1 + k * 32) (hcells p) := fun i u hu => (World.cell?_of_block (hKp.block b1 (by omega) hb1)).trans (hmA0 i u hu)
          replace hmB : v22.rangeAt b2 (o2 + k * 32) (hcells q) := fun i u hu => (World.cell?_of_block (hKp.block b2 (by omega) hb2)).trans (hmB0 i u hu)
          replace hcT : v22.cell? ⟨b3, o3 + k, none⟩ = some (.bool true) := (World.cell?_of_block (hKp.block b3 (by omega) hb3)).trans hcT0
          replace hbA : b1 < v22.heap.size := by have := hKp.size; omega
          replace hbB : b2 < v22.heap.size := by have := hKp.size; omega
          clear e23
          go_wp2_with fail
          refine region_mix0 (by kernel_rfl) (by kernel_rfl) (fun x => ?_)
          iterate 3 (first | (refine mix_quiet (by rfl) (by rfl) (fun K hK => ?_); go_big_quiet_op; refine hK _ ?_; clear hK K) | (refine mix_skip (by rfl) ?_; simp only [Act.put, List.setIfInBounds_toArray, List.set_cons_zero, List.set_cons_succ]))
          refine mix_mid (by rfl) (by rfl) 23 (.tmp 128) rfl b1 (o1 + k * 32) (by rfl) _ _ hmA hbA Tryd.underlying23 rfl (size32l _ hp) ?_
          simp only [Act.put, List.setIfInBounds_toArray, List.set_cons_zero, List.set_cons_succ]
          refine mix_row (by rfl) (by rfl) 23 (.tmp 15) rfl g16 (by rfl) 23 _ _ hC Tryd.underlying23 rfl (size32.trans (by simp [hcl])) ?_
          simp only [Act.put, List.setIfInBounds_toArray, List.set_cons_zero, List.set_cons_succ]
          unfold hcells
          (refine mix_loud (by rfl) (by rfl) (fun K E hK => ?_); go_big_op)
          change Calls _ _ #[sumV p, sumV cc] _ _
          refine (refPreimage_calls p cc hp hcl _).mono ?_; rintro e w5 ⟨rfl, hd⟩
          obtain ⟨x', rfl⟩ := more_ext _ hd; clear hd
          refine hK _ _ ⟨_, rfl⟩ ?_; clear hK K E
          repeat (first | (refine mix_quiet (by rfl) (by rfl) (fun K hK => ?_); go_big_quiet_op; refine hK _ ?_; clear hK K) | (refine mix_skip (by rfl) ?_; simp only [Act.put, List.setIfInBounds_toArray, List.set_cons_zero, List.set_cons_succ]))
          refine mix_nil ?_
          have e25 := grow_ext x'
          generalize grow v22 x' = v24 at *
          replace hC := Blk.below hC e25 (Blk.lt hC)
          replace hD := Blk.below hD e25 (Blk.lt hD)
          replace hKp := hKp.trans (Keep.of_ext e25)
          replace hmA : v24.rangeAt b1 (o1 + k * 32) (hcells p) := fun i u hu => (World.cell?_of_block (hKp.block b1 (by omega) hb1)).trans (hmA0 i u hu)
          replace hmB : v24.rangeAt b2 (o2 + k * 32) (hcells q) := fun i u hu => (World.cell?_of_block (hKp.block b2 (by omega) hb2)).trans (hmB0 i u hu)
          replace hcT : v24.cell? ⟨b3, o3 + k, none⟩ = some (.bool true) := (World.cell?_of_block (hKp.block b3 (by omega) hb3)).trans hcT0
          replace hbA : b1 < v24.heap.size := by have := hKp.size; omega
          replace hbB : b2 < v24.heap.size := by have := hKp.size; omega
          clear e25
          go_wp2_with fail
          refine region_mix0 (by kernel_rfl) (by kernel_rfl) (fun x => ?_)
          iterate 3 (first | (refine mix_quiet (by rfl) (by rfl) (fun K hK => ?_); go_big_quiet_op; refine hK _ ?_; clear hK K) | (refine mix_skip (by rfl) ?_; simp only [Act.put, List.setIfInBounds_toArray, List.set_cons_zero, List.set_cons_succ]))
          refine mix_mid (by rfl) (by rfl) 23 (.tmp 134) rfl b2 (o2 + k * 32) (by rfl) _ _ hmB hbB Tryd.underlying23 rfl (size32l _ hq) ?_
          simp only [Act.put, List.setIfInBounds_toArray, List.set_cons_zero, List.set_cons_succ]
          refine mix_row (by rfl) (by rfl) 23 (.tmp 16) rfl g19 (by rfl) 23 _ _ hD Tryd.underlying23 rfl (size32.trans (by simp [hdl])) ?_
          simp only [Act.put, List.setIfInBounds_toArray, List.set_cons_zero, List.set_cons_succ]
          unfold hcells
          (refine mix_loud (by rfl) (by rfl) (fun K E hK => ?_); go_big_op)
          change Calls _ _ #[sumV q, sumV dc] _ _
          refine (refPreimage_calls q dc hq hdl _).mono ?_; rintro e w5 ⟨rfl, hd⟩
          obtain ⟨x', rfl⟩ := more_ext _ hd; clear hd
          refine hK _ _ ⟨_, rfl⟩ ?_; clear hK K E
          repeat (first | (refine mix_quiet (by rfl) (by rfl) (fun K hK => ?_); go_big_quiet_op; refine hK _ ?_; clear hK K) | (refine mix_skip (by rfl) ?_; simp only [Act.put, List.setIfInBounds_toArray, List.set_cons_zero, List.set_cons_succ]))
          refine mix_nil ?_
          have e27 := grow_ext x'
          generalize grow v24 x' = v26 at *
          replace hC := Blk.below hC e27 (Blk.lt hC)
          replace hD := Blk.below hD e27 (Blk.lt hD)
          replace hKp := hKp.trans (Keep.of_ext e27)
          replace hmA : v26.rangeAt b1 (o1 + k * 32) (hcells p) := fun i u hu => (World.cell?_of_block (hKp.block b1 (by omega) hb1)).trans (hmA0 i u hu)
          replace hmB : v26.rangeAt b2 (o2 + k * 32) (hcells q) := fun i u hu => (World.cell?_of_block (hKp.block b2 (by omega) hb2)).trans (hmB0 i u hu)
          replace hcT : v26.cell? ⟨b3, o3 + k, none⟩ = some (.bool true) := (World.cell?_of_block (hKp.block b3 (by omega) hb3)).trans hcT0
          replace hbA : b1 < v26.heap.size := by have := hKp.size; omega
          replace hbB : b2 < v26.heap.size := by have := hKp.size; omega
          clear e27
          have hsl : (preB p cc).length = 65 := by rw [preB_length]; omega
          have hul : (preB q dc).length = 65 := by rw [preB_length]; omega
          have HM2 := Lib.hid (HM.out (preB p cc) (preB q dc) rfl rfl)
          generalize preB p cc = s at *
          generalize preB q dc = u at *
          have hs32 := shaOf_length s
          have hu32 := shaOf_length u
          have heq := fun w : World => eq_sum (shaOf s) (shaOf u) hs32 hu32 w
          go_wp2_with fail
          refine (refOf_calls s _ (by omega)).mono ?_; rintro e v29 ⟨rfl, e28⟩
          replace hC := Blk.below hC e28 (Blk.lt hC)
          replace hD := Blk.below hD e28 (Blk.lt hD)
          replace hKp := hKp.trans (Keep.of_ext e28)
          replace hmA : v29.rangeAt b1 (o1 + k * 32) (hcells p) := fun i u hu => (World.cell?_of_block (hKp.block b1 (by omega) hb1)).trans (hmA0 i u hu)
          replace hmB : v29.rangeAt b2 (o2 + k * 32) (hcells q) := fun i u hu => (World.cell?_of_block (hKp.block b2 (by omega) hb2)).trans (hmB0 i u hu)
          replace hcT : v29.cell? ⟨b3, o3 + k, none⟩ = some (.bool true) := (World.cell?_of_block (hKp.block b3 (by omega) hb3)).trans hcT0
          replace hbA : b1 < v29.heap.size := by have := hKp.size; omega
          replace hbB : b2 < v29.heap.size := by have := hKp.size; omega
          clear e28
          clear hmA hmB hcT hbA hbB hmA0 hmB0 hcT0
          unfold sumV
          go_wp2_with (refine stop_store 23 (.tmp 15) (.tmp 139) rfl ?_)
          refine ⟨?_⟩
          refine wpList_store_row rfl 23 (.tmp 15) (.tmp 139) rfl g16 ((shaOf s).map byteV).toArray (by rfl) (by rfl) 23 _ hC (size32.trans (by simp [hs32])) (by simp [hs32, hcl]) (by simp [byteV, Value.oneCell']) ?_
          simp only [Act.put, List.setIfInBounds_toArray, List.set_cons_zero, List.set_cons_succ]
          have hCn : ArrB (v29.setRow g16 ((shaOf s).map byteV).toArray) g16 23 (shaOf s) := Blk.row hC _
          have hCnu : Upd g16 v29 (v29.setRow g16 ((shaOf s).map byteV).toArray) := (Upd.refl _ _).row _
          generalize v29.setRow g16 ((shaOf s).map byteV).toArray = v30 at *
          replace hD := Blk.kept (S := fun k => k ≠ g16) hD (.of_upd hCnu (fun h => h rfl)) (by omega)
          replace hKp := hKp.trans (Keep.of_upd (S := fun k => k < zA) hCnu (fun h => absurd h (by omega)))
          clear hC hCnu
          have hC := hCn
          clear hCn
          go_wp2_with fail
          refine (refOf_calls u _ (by omega)).mono ?_; rintro e v32 ⟨rfl, e31⟩
          replace hC := Blk.below hC e31 (Blk.lt hC)
          replace hD := Blk.below hD e31 (Blk.lt hD)
          replace hKp := hKp.trans (Keep.of_ext e31)
          clear e31
          unfold sumV
          go_wp2_with (refine stop_store 23 (.tmp 16) (.tmp 141) rfl ?_)
          refine ⟨?_⟩
          refine wpList_store_row rfl 23 (.tmp 16) (.tmp 141) rfl g19 ((shaOf u).map byteV).toArray (by rfl) (by rfl) 23 _ hD (size32.trans (by simp [hu32])) (by simp [hu32, hdl]) (by simp [byteV, Value.oneCell']) ?_
          simp only [Act.put, List.setIfInBounds_toArray, List.set_cons_zero, List.set_cons_succ]
          have hDn : ArrB (v32.setRow g19 ((shaOf u).map byteV).toArray) g19 23 (shaOf u) := Blk.row hD _
          have hDnu : Upd g19 v32 (v32.setRow g19 ((shaOf u).map byteV).toArray) := (Upd.refl _ _).row _
          generalize v32.setRow g19 ((shaOf u).map byteV).toArray = v33 at *
          replace hC := Blk.kept (S := fun k => k ≠ g19) hC (.of_upd hDnu (fun h => h rfl)) (by omega)
          replace hKp := hKp.trans (Keep.of_upd (S := fun k => k < zA) hDnu (fun h => absurd h (by omega)))
          clear hD hDnu
          have hD := hDn
          clear hDn
          by_cases hsu : s = u
          · subst hsu
            clear heq
            have Hst := Lib.hid (HM2.out.2 (fun h => h.1 rfl))
            have hbb : (s == s) = true := by simp
            go_wp2_with fail
            go_roundw
            case rel => exact ⟨k + 1, shaOf s, shaOf s, by omega, by go_num, hs32, hs32, hC, hD, hKp, HM2.out.1, Hst.out⟩
            case measure => simp [intOf]; omega
          · have hbb : (s == u) = false := by rw [beq_eq_false_iff_ne]; exact hsu
            by_cases hh : shaOf s = shaOf u
            · have dh : decide (shaOf s = shaOf u) = true := decide_eq_true hh
              rw [dh] at heq
              clear dh hh
              go_wp2_with (refine stop_load 23 (.tmp 15) rfl ?_)
              refine ⟨?_⟩
              refine list_want (by rfl) (fun K hK => ?_)
              refine wp_load_row 23 (.tmp 15) rfl g16 (by rfl) 23 _ (0, 0) _ hC Tryd.underlying23 rfl (size32.trans (by simp [hs32])) ?_
              refine hK _ _ ?_; clear hK K
              simp only [Act.put, List.setIfInBounds_toArray, List.set_cons_zero, List.set_cons_succ]
              go_wp2_with (refine stop_load 23 (.tmp 16) rfl ?_)
              refine ⟨?_⟩
              refine list_want (by rfl) (fun K hK => ?_)
              refine wp_load_row 23 (.tmp 16) rfl g19 (by rfl) 23 _ (0, 0) _ hD Tryd.underlying23 rfl (size32.trans (by simp [hu32])) ?_
              refine hK _ _ ?_; clear hK K
              simp only [Act.put, List.setIfInBounds_toArray, List.set_cons_zero, List.set_cons_succ]
              go_wp2_with fail
              go_ret
              exact ⟨rfl, ((Keep.of_ext (S := fun k => k < w.heap.size) HE).trans (hKp.mono (fun k _ h => by have := HE.size; omega))).ext⟩
            · have dh : decide (shaOf s = shaOf u) = false := decide_eq_false hh
              have Hst := Lib.hid (HM2.out.2 (fun h => hh h.2))
              rw [dh] at heq
              clear dh hh
              go_wp2_with (refine stop_load 23 (.tmp 15) rfl ?_)
              refine ⟨?_⟩
              refine list_want (by rfl) (fun K hK => ?_)
              refine wp_load_row 23 (.tmp 15) rfl g16 (by rfl) 23 _ (0, 0) _ hC Tryd.underlying23 rfl (size32.trans (by simp [hs32])) ?_
              refine hK _ _ ?_; clear hK K
              simp only [Act.put, List.setIfInBounds_toArray, List.set_cons_zero, List.set_cons_succ]
              go_wp2_with (refine stop_load 23 (.tmp 16) rfl ?_)
              refine ⟨?_⟩
              refine list_want (by rfl) (fun K hK => ?_)
              refine wp_load_row 23 (.tmp 16) rfl g19 (by rfl) 23 _ (0, 0) _ hD Tryd.underlying23 rfl (size32.trans (by simp [hu32])) ?_
              refine hK _ _ ?_; clear hK K
              simp only [Act.put, List.setIfInBounds_toArray, List.set_cons_zero, List.set_cons_succ]
              go_wp2_with fail
              go_roundw
              case rel => exact ⟨k + 1, shaOf s, shaOf u, by omega, by go_num, hs32, hu32, hC, hD, hKp, HM2.out.1, Hst.out⟩
              case measure => simp [intOf]; omega
      · exfalso
        obtain rfl : k = N := by omega
        rw [List.drop_of_length_le (by rw [HTl.out]; exact Nat.le_refl _), List.drop_of_length_le (by rw [HXa.out]; exact Nat.le_refl _), List.drop_of_length_le (by rw [HXb.out]; exact Nat.le_refl _), Way.foldW_nil, Way.foldW_nil] at hfo
        rw [List.drop_of_length_le (by rw [HXa.out]; exact Nat.le_refl _), List.drop_of_length_le (by rw [HXb.out]; exact Nat.le_refl _)] at hnk
        rcases hnk with h | h
        · exact h hfo
        · exact h rfl

set_option maxRecDepth 100000 in
theorem contract (H : Type) (enc : TypeId × Value → H) (W : World) (base : Nat) (args : Array Value) (ds gs : List (DataW H)) (before : List MemPlace)
    (hval0 : ∀ (j : Nat) t v, Tryd.f7.params[j]? = some t → args[j]? = some v → Value.okWide Tryd.prog W .any base t v)
    (hW : DataW.Whole enc Tryd.prog Tryd.f7.params.toList Rows.proofOneSpec.vars false W args.toList ds gs before) (hL : laidMetH Tryd.prog Rows.proofOneRow.laid W) :
    Calls Tryd.prog 7 args W fun e W' => ∃ v, e = .returned v ∧ Rows.proofOneSpec.post enc Tryd.prog Tryd.f7 false true false false W args v W' := by
  have K : Keys W := keys_of hL
  have hval : ∀ (j : Nat) t v, Tryd.f7.params[j]? = some t → args[j]? = some v → Value.okWide Tryd.prog W .any base t v := hval0
  have hW' := hW
  obtain ⟨p, q, hA0, hV, rfl, hfz, hnd⟩ := hW
  have hA : DataW.TrodAll enc Tryd.prog W 0 (fun _ => true) true Tryd.f7.params.toList args.toList ds p := hA0
  rw [Tryd.params7] at hA hval
  obtain ⟨v0, vs0, d0, ds0, p0, q0, hargs, rfl, rfl, hx0, r0⟩ := trodAll_cons hA
  obtain ⟨v1, vs1, d1, ds1, p1, q1, rfl, rfl, rfl, hx1, r1⟩ := trodAll_cons r0
  obtain ⟨v2, vs2, d2, ds2, p2, q2, rfl, rfl, rfl, hx2, r2⟩ := trodAll_cons r1
  obtain ⟨rfl, rfl, rfl⟩ := trodAll_nil r2
  obtain rfl : args = #[v0, v1, v2] := by cases args; simp_all
  obtain ⟨rfl, rfl⟩ := trodVars_none hV
  obtain ⟨a1, a2, rfl, ha1, ha2⟩ := op_sum2 (hval 0 41 v0 rfl rfl) (tr_of hx0)
  obtain ⟨b1, b2, rfl, hb1, hb2⟩ := op_i2 (hval 1 24 v1 rfl rfl) (tr_of hx1)
  obtain ⟨zc1, zc2, z1, z2, rfl, hzs1, hza1, hzs2, hza2⟩ := op_sls2 (hval 2 42 v2 rfl rfl) (tr_of hx2)
  refine (walk a1 a2 ha1 ha2 b1 b2 hb1 hb2 zc1 zc2 z1 z2 W K hzs1 hzs2 hza1 hza2).mono fun e W' ⟨he, hg⟩ => ?_
  subst he
  exact ⟨_, rfl, law_post hW' rfl rfl (by kernel_rfl) rfl rfl rfl hg⟩

theorem laid_met (os : Os) : laidMet Tryd.prog Rows.proofOneRow.laid ((keysWorld os).forCall (fun _ _ => 0) ⟨#[], #[.agg (Array.replicate 64 (.int .u8 0)), .agg #[.int .i64 0, .int .i64 0], .agg #[.slice none 0 0, .slice none 0 0]], []⟩).memory :=
  laidMet_of_run' 8 (by kernel_rfl) (by kernel_rfl)
theorem reads (os : Os) {H : Type} (enc : TypeId × Value → H) : ∃ x, DataW.whole enc Tryd.prog ((keysWorld os).forCall (fun _ _ => 0) ⟨#[], #[.agg (Array.replicate 64 (.int .u8 0)), .agg #[.int .i64 0, .int .i64 0], .agg #[.slice none 0 0, .slice none 0 0]], []⟩).memory Tryd.f7.params.toList Rows.proofOneSpec.vars false (#[.agg (Array.replicate 64 (.int .u8 0)), .agg #[.int .i64 0, .int .i64 0], .agg #[.slice none 0 0, .slice none 0 0]] : Array Value).toList 8 = some x :=
  Option.isSome_iff_exists.1 (by kernel_rfl)
set_option maxRecDepth 100000 in
theorem lifted (os : Os) (started : os.Started) (H : Type) (enc : TypeId × Value → H) (F : Stop.Interp) :
    ReturnsInHanded {} Tryd.checked os 7 .any ((OpenSpec.ofChange Rows.proofOneSpec).preRow enc Tryd.prog Tryd.f7 Rows.proofOneRow.domain false Rows.proofOneRow.laid) (((OpenSpec.ofChange Rows.proofOneSpec).at F).post enc Tryd.prog Tryd.f7 false true false false) := by
  obtain ⟨x, hx⟩ := reads os enc
  refine returnsInHanded_of_row (C := Tryd.checked) (s := OpenSpec.ofChange Rows.proofOneSpec) own_ started (by kernel_rfl) Tryd.func7
    (witness_row_at (enc := enc) (C := Tryd.checked) false (keysWorld os) #[.agg (Array.replicate 64 (.int .u8 0)), .agg #[.int .i64 0, .int .i64 0], .agg #[.slice none 0 0, .slice none 0 0]] rfl (by kernel_rfl) (by kernel_rfl) (by kernel_rfl)
      (OpenSpec.preRow_of_cond 8 hx rfl (fun k hk => by cases hk) (by kernel_rfl) (laid_met os))) ?_
  intro W base args ds gs before hval hW _ _ _ hL _ _
  exact contract H enc W base args ds gs before hval hW hL

theorem said : Rows.ProofOneSaid :=
  OpenClaim.holds_of_cond 7 Tryd.f7 rfl rfl rfl rfl rfl rfl rfl ⟨rfl, rfl, rfl, rfl, rfl⟩ rfl rfl rfl rfl rfl (by kernel_rfl) Tryd.func7 (by kernel_rfl)
    (of_decide_eq_true (by kernel_rfl)) (by unfold Func.isWrapper; first | (rw [if_pos (by decide +kernel)]; kernel_rfl) | (rw [if_neg (by decide +kernel)]; exact ⟨rfl, rfl⟩))
    (fun os started H enc _ F => by rw [OpenClaim.pre_eq_preRow]; exact lifted os started H enc F)
theorem plain (f : FuncId) (fn : Func) (hf : Tryd.pinned.checked.prog.funcNamed "scrinium/scriniumlaw12.ProofOne" = some f) (hfn : Tryd.pinned.checked.prog.funcs[f]? = some fn) :
    false = Tryd.pinned.checked.prog.looks [] ∧ ∀ (j : Nat) t, fn.params[j]? = some t → Tryd.pinned.checked.prog.wantsStandIn t = false := by
  obtain rfl : f = 7 := Option.some.inj ((show Tryd.prog.funcNamed "scrinium/scriniumlaw12.ProofOne" = some 7 by kernel_rfl).symm.trans hf) |>.symm
  obtain rfl : fn = Tryd.f7 := (Option.some.inj (Tryd.func7.symm.trans hfn)).symm
  refine ⟨by kernel_rfl, fun j t ht => ?_⟩
  rw [Tryd.params7] at ht
  have hm : t ∈ ([41, 24, 42] : List TypeId) := by simpa using Array.mem_of_getElem? ht
  have hall : (([41, 24, 42] : List TypeId).all fun u => !Tryd.prog.wantsStandIn u) = true := by kernel_rfl
  exact (show Tryd.prog.wantsStandIn t = false by simpa using List.all_eq_true.1 hall t hm)
theorem proved : Rows.ProofOneCardSaid :=
  Claim7.holds_tied_plain_at .later [] _ _ _ _ said (fun _ h => by cases h) (by kernel_rfl) (fun _ h => by cases h) proofOne_row_tie rfl ⟨rfl, rfl⟩ (by kernel_rfl) rfl plain (by kernel_rfl)

end Go.Proofs.YtfpipdopgepelaaDoor.proofOne
