/-
  scriniumlaw13.TwinTrees: no condition.
-/
import Derived.Test.YtfpipdopgepelaaDoorTwinM
import Derived.Test.YtfpipdopgepelaaDoorOpR
import Derived.Test.YtfpipdopgepelaaDoorEqA
import Derived.Test.YtfpipdopgepelaaDoorLaw
import Derived.Deep.DeepCutAuto
set_option linter.unusedVariables false
set_option maxRecDepth 100000
set_option linter.unusedSimpArgs false
namespace Go.Proofs.YtfpipdopgepelaaDoor.twinTrees
open Go.ChangeShapes Go.WideShapes Go.ChangeAt Go.RowKit
attribute [local go_sem] bs_size bs_toList2 bs_append bs_extract_end bs_extract_begin bs_get wrap64_b grow_cell grow_frozen

/-! ### Plain law -/
theorem in_tell (x y : List UInt8) (a b : List (List UInt8)) (T : List Bool) (hx : x.length = 32) (hy : y.length = 32) (ha : AllH a) (hb : AllH b) (h1 : T.length = a.length) (h2 : T.length = b.length) :
    (∀ p q, firstO (wayS x T a) (wayS y T b) = some (p, q) → p ≠ q ∧ shaOf p = shaOf q ∧ p.length = 65 ∧ q.length = 65) ∧
    (firstO (wayS x T a) (wayS y T b) = none → (Way.bothW nodeB x x T a).2 = (Way.bothW nodeB y y T b).2 → (Way.bothW nodeB x x T a).1 = (Way.bothW nodeB y y T b).1) := by
  refine ⟨fun p q h => ?_, fun h he => ?_⟩
  · obtain ⟨p', q', e, f1, f2, f3, f4⟩ := first_facts (by rw [h]; rfl) 65 (wayS_bound T a x hx ha) (wayS_bound T b y hy hb)
    rw [h] at e
    injection e with e
    injection e with e1 e2
    subst e1 e2
    exact ⟨f1, f2, f3, f4⟩
  · by_cases hs : x = y ∧ a = b
    · rw [hs.1, hs.2]
    · have := meet32 T a b x y hx hy ha hb h1 h2 (by rw [← Way.bothW_second nodeB T a x x, ← Way.bothW_second nodeB T b y y]; exact he) (by
        by_cases h' : x = y
        · exact .inr (fun h2 => hs ⟨h', h2⟩)
        · exact .inl h')
      rw [h] at this
      cases this
theorem trees_tell (m n : Int) (x y : List UInt8) (hx : x.length = 32) (hy : y.length = 32) (a b : List (List UInt8)) (ha : AllH a) (hb : AllH b) (h1 : Way.linksI m n = (a.length : Int)) (h2 : Way.linksI m n = (b.length : Int)) :
    (∀ p q, treesP m n x y a b = some (p, q) → p ≠ q ∧ shaOf p = shaOf q ∧ p.length = 65 ∧ q.length = 65) ∧
    (treesP m n x y a b = none → (bothP x m n a).1.2 = (bothP y m n b).1.2 → (bothP x m n a).1.1 = (bothP y m n b).1.1) := by
  have e1 : bothP x m n a = _ := if_pos h1
  have e2 : bothP y m n b = _ := if_pos h2
  have hok := both_ok x m n a (by rw [e1])
  obtain ⟨hm1, hm2, hm3, hm4⟩ := hok
  have hlab : a.length = b.length := by omega
  have hrl : (Way.parts m.toNat n.toNat).reverse.length = (Way.parts m.toNat n.toNat).length := List.length_reverse
  have hcond : Way.wholeB (Way.parts m.toNat n.toNat) = true ↔ a.length ≤ (Way.parts m.toNat n.toNat).reverse.length := by
    have h3 := h1
    unfold Way.linksI at h3
    rw [if_neg (by omega)] at h3
    constructor
    · intro hw; rw [if_pos hw] at h3; omega
    · intro hle
      by_cases hw : Way.wholeB (Way.parts m.toNat n.toNat) = true
      · exact hw
      · rw [if_neg hw] at h3; omega
  have key : (∀ p q, treesIn x y a b (Way.parts m.toNat n.toNat).reverse = some (p, q) → p ≠ q ∧ shaOf p = shaOf q ∧ p.length = 65 ∧ q.length = 65) ∧
      (treesIn x y a b (Way.parts m.toNat n.toNat).reverse = none → (Way.both nodeB x m.toNat n.toNat true a).2 = (Way.both nodeB y m.toNat n.toNat true b).2 → (Way.both nodeB x m.toNat n.toNat true a).1 = (Way.both nodeB y m.toNat n.toNat true b).1) := by
    unfold treesIn Way.both
    simp only [Bool.true_and]
    by_cases hw : Way.wholeB (Way.parts m.toNat n.toNat) = true
    · rw [if_pos (hcond.1 hw), if_pos hw, if_pos hw]
      have := hcond.1 hw
      exact in_tell x y a b _ hx hy ha hb (by omega) (by omega)
    · have hnl : ¬ a.length ≤ (Way.parts m.toNat n.toNat).reverse.length := fun h => hw (hcond.2 h)
      rw [if_neg hnl, if_neg hw, if_neg hw]
      exact in_tell _ _ _ _ _ (headD_length a ha x hx) (headD_length b hb y hy) (tail_all ha) (tail_all hb) (by rw [List.length_tail]; omega) (by rw [List.length_tail]; omega)
  have ht : treesP m n x y a b = if decide ((Way.both nodeB x m.toNat n.toNat true a).2 = (Way.both nodeB y m.toNat n.toNat true b).2) then treesIn x y a b (Way.parts m.toNat n.toNat).reverse else none := by
    unfold treesP
    rw [e1, e2]
    simp
  rw [ht, e1, e2]
  by_cases hd : (Way.both nodeB x m.toNat n.toNat true a).2 = (Way.both nodeB y m.toNat n.toNat true b).2
  · rw [if_pos (by simpa using hd)]
    exact key
  · rw [if_neg (by simpa using hd)]
    exact ⟨fun p q h => (by cases h), fun _ h => absurd h hd⟩

/-! ### The walk -/
set_option maxHeartbeats 8000000 in
theorem walk (xa ya : List UInt8) (hxa : xa.length = 32) (hya : ya.length = 32) (m n : Int) (hmm : -9223372036854775808 ≤ m ∧ m ≤ 9223372036854775807) (hn : -9223372036854775808 ≤ n ∧ n ≤ 9223372036854775807) (ca cb : Value) (la lb : List (List UInt8)) (one : Bool) (w : World) (KW : Keys w) (hSa : SlS w w.heap.size ca la) (hSb : SlS w w.heap.size cb lb) (hla : AllH la) (hlb : AllH lb) :
    Calls Tryd.prog 15 #[.agg #[.int .i64 m, .int .i64 n], .agg (flatS [xa, ya]).toArray, .agg #[ca, cb, .bool one]] w fun e w' => e = .returned (.bool true) ∧ Ext w w' := by
  have hgw := guard_sum
  have hgt := guard_twins
  have hht := held_twins
  have hall : AllH [xa, ya] := AllH.cons hxa (AllH.cons hya AllH.nil)
  have hFa := hSa
  have hFb := hSb
  obtain ⟨Pa, ka, rfl, hPa, hca, hca63, hra⟩ := hSa
  obtain ⟨Pb, kb, rfl, hPb, hcb, hcb63, hrb⟩ := hSb
  go_enter Tryd.func15, Tryd.ntmps15
  go_wp2_with fail
  have hM : Blk (((w.alloc (.cells #[.int .i64 m, .int .i64 n] 24)).alloc (.cells (flatS [xa, ya]).toArray 41)).alloc (.cells #[.slice Pa la.length ka, .slice Pb lb.length kb, .bool one] 55)) w.heap.size 24 #[.int .i64 m, .int .i64 n] := Blk.alloc (Blk.alloc (Blk.new _ _ _) _) _
  have hX : Blk (((w.alloc (.cells #[.int .i64 m, .int .i64 n] 24)).alloc (.cells (flatS [xa, ya]).toArray 41)).alloc (.cells #[.slice Pa la.length ka, .slice Pb lb.length kb, .bool one] 55)) (w.heap.size + 1) 41 (flatS [xa, ya]).toArray := by
    have := Blk.new (w.alloc (.cells #[.int .i64 m, .int .i64 n] 24)) 41 (flatS [xa, ya]).toArray
    rw [alloc_size] at this
    exact Blk.alloc this _
  have hL : Blk (((w.alloc (.cells #[.int .i64 m, .int .i64 n] 24)).alloc (.cells (flatS [xa, ya]).toArray 41)).alloc (.cells #[.slice Pa la.length ka, .slice Pb lb.length kb, .bool one] 55)) (w.heap.size + 1 + 1) 55 #[.slice Pa la.length ka, .slice Pb lb.length kb, .bool one] := by
    have := Blk.new ((w.alloc (.cells #[.int .i64 m, .int .i64 n] 24)).alloc (.cells (flatS [xa, ya]).toArray 41)) 55 #[.slice Pa la.length ka, .slice Pb lb.length kb, .bool one]
    simp only [alloc_size] at this
    exact this
  have hE : Ext w (((w.alloc (.cells #[.int .i64 m, .int .i64 n] 24)).alloc (.cells (flatS [xa, ya]).toArray 41)).alloc (.cells #[.slice Pa la.length ka, .slice Pb lb.length kb, .bool one] 55)) := (((Ext.refl w).alloc _).alloc _).alloc _
  generalize (((w.alloc (.cells #[.int .i64 m, .int .i64 n] 24)).alloc (.cells (flatS [xa, ya]).toArray 41)).alloc (.cells #[.slice Pa la.length ka, .slice Pb lb.length kb, .bool one] 55)) = w1 at *
  refine (awake13_calls _ (KW.ext hE)).mono ?_; rintro e v2 ⟨rfl, e1⟩
  replace hX := Blk.below hX e1 (Blk.lt hX)
  replace hM := Blk.below hM e1 (Blk.lt hM)
  replace hL := Blk.below hL e1 (Blk.lt hL)
  replace hE := hE.trans e1
  clear e1
  have c0 : v2.cell? ⟨w.heap.size, 0, none⟩ = some (.int .i64 m) := Blk.cell hM 0
  have c1 : v2.cell? ⟨w.heap.size, 1, none⟩ = some (.int .i64 n) := Blk.cell hM 1
  have c2 : v2.cell? ⟨w.heap.size + 1 + 1, 0, none⟩ = some (.slice Pa la.length ka) := Blk.cell hL 0
  have c3 : v2.cell? ⟨w.heap.size + 1 + 1, 1, none⟩ = some (.slice Pb lb.length kb) := Blk.cell hL 1
  have c4 : v2.cell? ⟨w.heap.size + 1 + 1, 2, none⟩ = some (.bool one) := Blk.cell hL 2
  have hm0 : v2.rangeAt (w.heap.size + 1) 0 (hcells xa) := blk_mid hX hall 0 (by simp)
  have hm1 : v2.rangeAt (w.heap.size + 1) 32 (hcells ya) := blk_mid hX hall 1 (by simp)
  have hMl := Blk.lt hM
  have hLl := Blk.lt hL
  have hXl := Blk.lt hX
  go_wp2_with fail
  refine (refLinksLong_calls m n _).mono ?_; rintro e v4 ⟨rfl, rfl⟩
  obtain ⟨L, hLg⟩ : ∃ L, L = Way.linksI m n := ⟨_, rfl⟩
  rw [← hLg]
  have HL := Lib.hid hLg
  clear hLg
  by_cases h0 : L < 0
  · skip
    go_wp2_with fail
    go_ret
    exact ⟨rfl, hE⟩
  by_cases h1 : 50 < L
  · skip
    go_wp2_with fail
    go_ret
    exact ⟨rfl, hE⟩
  obtain ⟨N, rfl⟩ : ∃ N : Nat, L = (N : Int) := ⟨L.toNat, by omega⟩
  have hN : N ≤ 50 := by omega
  by_cases h2 : (la.length : Int) < (N : Int)
  · skip
    go_wp2_with fail
    go_ret
    exact ⟨rfl, hE⟩
  by_cases h3 : (lb.length : Int) < (N : Int)
  · skip
    go_wp2_with fail
    go_ret
    exact ⟨rfl, hE⟩
  have kx1 : (N : Int) ≤ (ka : Int) := by omega
  have kx2 : (N : Int) ≤ (kb : Int) := by omega
  have hXa : (la.take N).length = N := by rw [List.length_take]; omega
  have hXb : (lb.take N).length = N := by rw [List.length_take]; omega
  have hTa : ∀ W : World, Ext w W → SlS W W.heap.size (.slice Pa N ka) (la.take N) := fun W hW => by
    rcases hPa with ⟨_, hl0, hx0⟩ | ⟨b', off, rfl⟩
    · have hN0 : N = 0 := by rw [hl0] at h2; simp at h2; omega
      subst hN0
      have := hFa.ext hW
      rw [List.take_zero]
      rw [hl0] at this
      exact this
    · exact (sls_take hla hca hca63 (hra.below hW (Nat.le_refl _)) N (by omega)).more hW.size
  have hTb : ∀ W : World, Ext w W → SlS W W.heap.size (.slice Pb N kb) (lb.take N) := fun W hW => by
    rcases hPb with ⟨_, hl0, hx0⟩ | ⟨b', off, rfl⟩
    · have hN0 : N = 0 := by rw [hl0] at h3; simp at h3; omega
      subst hN0
      have := hFb.ext hW
      rw [List.take_zero]
      rw [hl0] at this
      exact this
    · exact (sls_take hlb hcb hcb63 (hrb.below hW (Nat.le_refl _)) N (by omega)).more hW.size
  have hAa := hla.take N
  have hAb := hlb.take N
  clear hra hrb hFa hFb
  generalize la.take N = A at *
  generalize lb.take N = B at *
  have HTa := Lib.hid hTa
  have HTb := Lib.hid hTb
  have HXa := Lib.hid hXa
  have HXb := Lib.hid hXb
  clear hTa hTb hXa hXb
  cases one
  · skip
    have htl := trees_tell m n xa ya hxa hya A B hAa hAb (by rw [← HL.out, HXa.out]) (by rw [← HL.out, HXb.out])
    have hp32 := bothP_length xa hxa m n A hAa
    have hr32 := bothP_length ya hya m n B hAb
    obtain ⟨P, hP⟩ : ∃ P, P = bothP xa m n A := ⟨_, rfl⟩
    obtain ⟨Q, hQ⟩ : ∃ Q, Q = bothP ya m n B := ⟨_, rfl⟩
    obtain ⟨R, hR⟩ : ∃ R, R = treesP m n xa ya A B := ⟨_, rfl⟩
    rw [← hP, ← hQ, ← hR] at htl
    rw [← hP] at hp32
    rw [← hQ] at hr32
    have HP := Lib.hid hP
    have HQ := Lib.hid hQ
    have HR := Lib.hid hR
    clear hP hQ hR
    obtain ⟨⟨c, d⟩, i⟩ := P
    obtain ⟨⟨e0, f0⟩, j⟩ := Q
    obtain ⟨hc32, hd32⟩ := hp32
    obtain ⟨he32, hf32⟩ := hr32
    dsimp only at htl hc32 hd32 he32 hf32
    have heqd := fun w : World => eq_sum d f0 hd32 hf32 w
    have heqc := fun w : World => eq_sum c e0 hc32 he32 w
    cases R
    · by_cases hdf : d = f0
      · have dd : decide (d = f0) = true := decide_eq_true hdf
        have dc : decide (c = e0) = true := decide_eq_true (htl.2 rfl hdf)
        rw [dd] at heqd
        rw [dc] at heqc
        clear dd dc htl hdf
        go_wp2_with (refine stop_load 23 (.tmp 59) rfl ?_)
        refine ⟨?_⟩
        refine wpList_load_mid rfl 23 (.tmp 59) rfl (w.heap.size + 1) (0) (by rfl) (hcells xa) _ hm0 Tryd.underlying23 rfl (size32l _ hxa) ?_
        simp only [Act.put, List.setIfInBounds_toArray, List.set_cons_zero, List.set_cons_succ]
        unfold hcells
        go_wp2_with fail
        change Calls _ _ #[sumV xa, _, _, _] _ _
        refine (refBoth_sls xa hxa m n _ A hAa (by rw [HXa.out]; omega) _ (HTa.out _ hE)).mono ?_; rw [← HP.out]; rintro e v6 ⟨rfl, e5⟩
        replace hX := Blk.below hX e5 (Blk.lt hX)
        replace hM := Blk.below hM e5 (Blk.lt hM)
        replace hL := Blk.below hL e5 (Blk.lt hL)
        replace hE := hE.trans e5
        replace c0 : v6.cell? ⟨w.heap.size, 0, none⟩ = some (.int .i64 m) := Blk.cell hM 0
        replace c1 : v6.cell? ⟨w.heap.size, 1, none⟩ = some (.int .i64 n) := Blk.cell hM 1
        replace c2 : v6.cell? ⟨w.heap.size + 1 + 1, 0, none⟩ = some (.slice Pa la.length ka) := Blk.cell hL 0
        replace c3 : v6.cell? ⟨w.heap.size + 1 + 1, 1, none⟩ = some (.slice Pb lb.length kb) := Blk.cell hL 1
        replace c4 : v6.cell? ⟨w.heap.size + 1 + 1, 2, none⟩ = some (.bool false) := Blk.cell hL 2
        replace hm0 : v6.rangeAt (w.heap.size + 1) 0 (hcells xa) := blk_mid hX hall 0 (by simp)
        replace hm1 : v6.rangeAt (w.heap.size + 1) 32 (hcells ya) := blk_mid hX hall 1 (by simp)
        replace hMl := Blk.lt hM
        replace hLl := Blk.lt hL
        replace hXl := Blk.lt hX
        clear e5
        unfold sumV
        go_wp2_with (refine stop_store 23 (.tmp 11) (.tmp 67) rfl ?_)
        refine ⟨?_⟩
        change wpList _ _ _ _ _ (twoW v6)
        refine wpList_store_row rfl 23 (.tmp 11) (.tmp 67) rfl v6.heap.size ((c).map byteV).toArray (by rfl) (by rfl) 23 _ (twoW_facts v6).1 (size32.trans (by simp [hc32])) (by simp [hc32, zerosB]) (by simp [byteV, Value.oneCell']) ?_
        simp only [Act.put, List.setIfInBounds_toArray, List.set_cons_zero, List.set_cons_succ]
        obtain ⟨hC, hD0, hD, e8⟩ := two_rows v6 c d
        go_wp2_with (refine stop_store 23 (.tmp 12) (.tmp 68) rfl ?_)
        refine ⟨?_⟩
        refine wpList_store_row rfl 23 (.tmp 12) (.tmp 68) rfl (v6.heap.size + 1) ((d).map byteV).toArray (by rfl) (by rfl) 23 _ hD0 (size32.trans (by simp [hd32])) (by simp [hd32, zerosB]) (by simp [byteV, Value.oneCell']) ?_
        simp only [Act.put, List.setIfInBounds_toArray, List.set_cons_zero, List.set_cons_succ]
        clear hD0
        obtain ⟨g9, g9e⟩ : ∃ g9, g9 = v6.heap.size := ⟨_, rfl⟩
        rw [← g9e] at hC hD e8 ⊢
        generalize ((twoW v6).setRow g9 ((c).map byteV).toArray).setRow (g9 + 1) ((d).map byteV).toArray = v7 at *
        replace hX := Blk.below hX e8 (Blk.lt hX)
        replace hM := Blk.below hM e8 (Blk.lt hM)
        replace hL := Blk.below hL e8 (Blk.lt hL)
        replace hE := hE.trans e8
        replace c0 : v7.cell? ⟨w.heap.size, 0, none⟩ = some (.int .i64 m) := Blk.cell hM 0
        replace c1 : v7.cell? ⟨w.heap.size, 1, none⟩ = some (.int .i64 n) := Blk.cell hM 1
        replace c2 : v7.cell? ⟨w.heap.size + 1 + 1, 0, none⟩ = some (.slice Pa la.length ka) := Blk.cell hL 0
        replace c3 : v7.cell? ⟨w.heap.size + 1 + 1, 1, none⟩ = some (.slice Pb lb.length kb) := Blk.cell hL 1
        replace c4 : v7.cell? ⟨w.heap.size + 1 + 1, 2, none⟩ = some (.bool false) := Blk.cell hL 2
        replace hm0 : v7.rangeAt (w.heap.size + 1) 0 (hcells xa) := blk_mid hX hall 0 (by simp)
        replace hm1 : v7.rangeAt (w.heap.size + 1) 32 (hcells ya) := blk_mid hX hall 1 (by simp)
        replace hMl := Blk.lt hM
        replace hLl := Blk.lt hL
        replace hXl := Blk.lt hX
        clear e8
        clear g9e
        go_wp2_with (refine stop_load 23 (.tmp 71) rfl ?_)
        refine ⟨?_⟩
        refine wpList_load_mid rfl 23 (.tmp 71) rfl (w.heap.size + 1) (32) (by rfl) (hcells ya) _ hm1 Tryd.underlying23 rfl (size32l _ hya) ?_
        simp only [Act.put, List.setIfInBounds_toArray, List.set_cons_zero, List.set_cons_succ]
        unfold hcells
        go_wp2_with fail
        change Calls _ _ #[sumV ya, _, _, _] _ _
        refine (refBoth_sls ya hya m n _ B hAb (by rw [HXb.out]; omega) _ (HTb.out _ hE)).mono ?_; rw [← HQ.out]; rintro e v11 ⟨rfl, e10⟩
        replace hX := Blk.below hX e10 (Blk.lt hX)
        replace hM := Blk.below hM e10 (Blk.lt hM)
        replace hL := Blk.below hL e10 (Blk.lt hL)
        replace hC := Blk.below hC e10 (Blk.lt hC)
        replace hD := Blk.below hD e10 (Blk.lt hD)
        replace hE := hE.trans e10
        replace c0 : v11.cell? ⟨w.heap.size, 0, none⟩ = some (.int .i64 m) := Blk.cell hM 0
        replace c1 : v11.cell? ⟨w.heap.size, 1, none⟩ = some (.int .i64 n) := Blk.cell hM 1
        replace c2 : v11.cell? ⟨w.heap.size + 1 + 1, 0, none⟩ = some (.slice Pa la.length ka) := Blk.cell hL 0
        replace c3 : v11.cell? ⟨w.heap.size + 1 + 1, 1, none⟩ = some (.slice Pb lb.length kb) := Blk.cell hL 1
        replace c4 : v11.cell? ⟨w.heap.size + 1 + 1, 2, none⟩ = some (.bool false) := Blk.cell hL 2
        replace hm0 : v11.rangeAt (w.heap.size + 1) 0 (hcells xa) := blk_mid hX hall 0 (by simp)
        replace hm1 : v11.rangeAt (w.heap.size + 1) 32 (hcells ya) := blk_mid hX hall 1 (by simp)
        replace hMl := Blk.lt hM
        replace hLl := Blk.lt hL
        replace hXl := Blk.lt hX
        clear e10
        unfold sumV
        go_wp2_with (refine stop_store 23 (.tmp 14) (.tmp 79) rfl ?_)
        refine ⟨?_⟩
        change wpList _ _ _ _ _ (twoW v11)
        refine wpList_store_row rfl 23 (.tmp 14) (.tmp 79) rfl v11.heap.size ((e0).map byteV).toArray (by rfl) (by rfl) 23 _ (twoW_facts v11).1 (size32.trans (by simp [he32])) (by simp [he32, zerosB]) (by simp [byteV, Value.oneCell']) ?_
        simp only [Act.put, List.setIfInBounds_toArray, List.set_cons_zero, List.set_cons_succ]
        obtain ⟨hG, hH0, hH, e13⟩ := two_rows v11 e0 f0
        go_wp2_with (refine stop_store 23 (.tmp 15) (.tmp 80) rfl ?_)
        refine ⟨?_⟩
        refine wpList_store_row rfl 23 (.tmp 15) (.tmp 80) rfl (v11.heap.size + 1) ((f0).map byteV).toArray (by rfl) (by rfl) 23 _ hH0 (size32.trans (by simp [hf32])) (by simp [hf32, zerosB]) (by simp [byteV, Value.oneCell']) ?_
        simp only [Act.put, List.setIfInBounds_toArray, List.set_cons_zero, List.set_cons_succ]
        clear hH0
        obtain ⟨g14, g14e⟩ : ∃ g14, g14 = v11.heap.size := ⟨_, rfl⟩
        rw [← g14e] at hG hH e13 ⊢
        generalize ((twoW v11).setRow g14 ((e0).map byteV).toArray).setRow (g14 + 1) ((f0).map byteV).toArray = v12 at *
        replace hX := Blk.below hX e13 (Blk.lt hX)
        replace hM := Blk.below hM e13 (Blk.lt hM)
        replace hL := Blk.below hL e13 (Blk.lt hL)
        replace hC := Blk.below hC e13 (Blk.lt hC)
        replace hD := Blk.below hD e13 (Blk.lt hD)
        replace hE := hE.trans e13
        replace c0 : v12.cell? ⟨w.heap.size, 0, none⟩ = some (.int .i64 m) := Blk.cell hM 0
        replace c1 : v12.cell? ⟨w.heap.size, 1, none⟩ = some (.int .i64 n) := Blk.cell hM 1
        replace c2 : v12.cell? ⟨w.heap.size + 1 + 1, 0, none⟩ = some (.slice Pa la.length ka) := Blk.cell hL 0
        replace c3 : v12.cell? ⟨w.heap.size + 1 + 1, 1, none⟩ = some (.slice Pb lb.length kb) := Blk.cell hL 1
        replace c4 : v12.cell? ⟨w.heap.size + 1 + 1, 2, none⟩ = some (.bool false) := Blk.cell hL 2
        replace hm0 : v12.rangeAt (w.heap.size + 1) 0 (hcells xa) := blk_mid hX hall 0 (by simp)
        replace hm1 : v12.rangeAt (w.heap.size + 1) 32 (hcells ya) := blk_mid hX hall 1 (by simp)
        replace hMl := Blk.lt hM
        replace hLl := Blk.lt hL
        replace hXl := Blk.lt hX
        clear e13
        clear g14e
        go_wp2_with (refine stop_load 23 (.tmp 87) rfl ?_)
        refine ⟨?_⟩
        change wpList _ _ _ _ _ (v12.alloc (.cells #[.string (bs []), .string (bs [])] 57))
        have hO := Blk.new v12 57 #[.string (bs []), .string (bs [])]
        have e17 : Ext v12 (v12.alloc (.cells #[.string (bs []), .string (bs [])] 57)) := (Ext.refl v12).alloc _
        obtain ⟨g16, g16e⟩ : ∃ g16, g16 = v12.heap.size := ⟨_, rfl⟩
        try rw [← v12z]
        try rw [← g16e]
        rw [← g16e] at hO
        have v15z : (v12.alloc (.cells #[.string (bs []), .string (bs [])] 57)).heap.size = g16 + 1 := by rw [alloc_size, ← g16e]
        have g16b : v12.heap.size ≤ g16 := by omega
        generalize v12.alloc (.cells #[.string (bs []), .string (bs [])] 57) = v15 at *
        clear g16e
        replace hX := Blk.below hX e17 (Blk.lt hX)
        replace hM := Blk.below hM e17 (Blk.lt hM)
        replace hL := Blk.below hL e17 (Blk.lt hL)
        replace hC := Blk.below hC e17 (Blk.lt hC)
        replace hD := Blk.below hD e17 (Blk.lt hD)
        replace hG := Blk.below hG e17 (Blk.lt hG)
        replace hH := Blk.below hH e17 (Blk.lt hH)
        replace hE := hE.trans e17
        replace c0 : v15.cell? ⟨w.heap.size, 0, none⟩ = some (.int .i64 m) := Blk.cell hM 0
        replace c1 : v15.cell? ⟨w.heap.size, 1, none⟩ = some (.int .i64 n) := Blk.cell hM 1
        replace c2 : v15.cell? ⟨w.heap.size + 1 + 1, 0, none⟩ = some (.slice Pa la.length ka) := Blk.cell hL 0
        replace c3 : v15.cell? ⟨w.heap.size + 1 + 1, 1, none⟩ = some (.slice Pb lb.length kb) := Blk.cell hL 1
        replace c4 : v15.cell? ⟨w.heap.size + 1 + 1, 2, none⟩ = some (.bool false) := Blk.cell hL 2
        replace hm0 : v15.rangeAt (w.heap.size + 1) 0 (hcells xa) := blk_mid hX hall 0 (by simp)
        replace hm1 : v15.rangeAt (w.heap.size + 1) 32 (hcells ya) := blk_mid hX hall 1 (by simp)
        replace hMl := Blk.lt hM
        replace hLl := Blk.lt hL
        replace hXl := Blk.lt hX
        clear e17
        have co0 : v15.cell? ⟨g16, 0, none⟩ = some (.string (bs [])) := Blk.cell hO 0
        have co1 : v15.cell? ⟨g16, 1, none⟩ = some (.string (bs [])) := Blk.cell hO 1
        have col := Blk.lt hO
        refine wpList_load_mid rfl 23 (.tmp 87) rfl (w.heap.size + 1) (0) (by rfl) (hcells xa) _ hm0 Tryd.underlying23 rfl (size32l _ hxa) ?_
        simp only [Act.put, List.setIfInBounds_toArray, List.set_cons_zero, List.set_cons_succ]
        unfold hcells
        go_wp2_with (refine stop_load 23 (.tmp 89) rfl ?_)
        refine ⟨?_⟩
        refine wpList_load_mid rfl 23 (.tmp 89) rfl (w.heap.size + 1) (32) (by rfl) (hcells ya) _ hm1 Tryd.underlying23 rfl (size32l _ hya) ?_
        simp only [Act.put, List.setIfInBounds_toArray, List.set_cons_zero, List.set_cons_succ]
        unfold hcells
        go_wp2_with fail
        change Calls _ _ #[_, _, sumV xa, sumV ya, _, _] _ _
        refine (Trees_calls m n hn.2 xa ya hxa hya _ _ A B hAa hAb (by rw [HXa.out]; omega) (by rw [HXb.out]; omega) _ (KW.ext hE) (HTa.out _ hE) (HTb.out _ hE)).mono ?_; rw [← HR.out, twC_none]; rintro e v19 ⟨rfl, e18⟩
        replace hX := Blk.below hX e18 (Blk.lt hX)
        replace hM := Blk.below hM e18 (Blk.lt hM)
        replace hL := Blk.below hL e18 (Blk.lt hL)
        replace hC := Blk.below hC e18 (Blk.lt hC)
        replace hD := Blk.below hD e18 (Blk.lt hD)
        replace hG := Blk.below hG e18 (Blk.lt hG)
        replace hH := Blk.below hH e18 (Blk.lt hH)
        replace hO := Blk.below hO e18 (Blk.lt hO)
        replace hE := hE.trans e18
        replace c0 : v19.cell? ⟨w.heap.size, 0, none⟩ = some (.int .i64 m) := Blk.cell hM 0
        replace c1 : v19.cell? ⟨w.heap.size, 1, none⟩ = some (.int .i64 n) := Blk.cell hM 1
        replace c2 : v19.cell? ⟨w.heap.size + 1 + 1, 0, none⟩ = some (.slice Pa la.length ka) := Blk.cell hL 0
        replace c3 : v19.cell? ⟨w.heap.size + 1 + 1, 1, none⟩ = some (.slice Pb lb.length kb) := Blk.cell hL 1
        replace c4 : v19.cell? ⟨w.heap.size + 1 + 1, 2, none⟩ = some (.bool false) := Blk.cell hL 2
        replace hm0 : v19.rangeAt (w.heap.size + 1) 0 (hcells xa) := blk_mid hX hall 0 (by simp)
        replace hm1 : v19.rangeAt (w.heap.size + 1) 32 (hcells ya) := blk_mid hX hall 1 (by simp)
        replace hMl := Blk.lt hM
        replace hLl := Blk.lt hL
        replace hXl := Blk.lt hX
        replace co0 : v19.cell? ⟨g16, 0, none⟩ = some (.string (bs [])) := Blk.cell hO 0
        replace co1 : v19.cell? ⟨g16, 1, none⟩ = some (.string (bs [])) := Blk.cell hO 1
        replace col := Blk.lt hO
        clear e18
        go_wp2_with (refine stop_load 23 (.tmp 12) rfl ?_)
        refine ⟨?_⟩
        change wpList _ _ _ _ _ (v19.alloc (.cells #[.string (bs []), .string (bs [])] 57))
        have hP := Blk.new v19 57 #[.string (bs []), .string (bs [])]
        have e22 : Ext v19 (v19.alloc (.cells #[.string (bs []), .string (bs [])] 57)) := (Ext.refl v19).alloc _
        obtain ⟨g21, g21e⟩ : ∃ g21, g21 = v19.heap.size := ⟨_, rfl⟩
        try rw [← v19z]
        try rw [← g21e]
        rw [← g21e] at hP
        have v20z : (v19.alloc (.cells #[.string (bs []), .string (bs [])] 57)).heap.size = g21 + 1 := by rw [alloc_size, ← g21e]
        have g21b : v19.heap.size ≤ g21 := by omega
        generalize v19.alloc (.cells #[.string (bs []), .string (bs [])] 57) = v20 at *
        clear g21e
        replace hX := Blk.below hX e22 (Blk.lt hX)
        replace hM := Blk.below hM e22 (Blk.lt hM)
        replace hL := Blk.below hL e22 (Blk.lt hL)
        replace hC := Blk.below hC e22 (Blk.lt hC)
        replace hD := Blk.below hD e22 (Blk.lt hD)
        replace hG := Blk.below hG e22 (Blk.lt hG)
        replace hH := Blk.below hH e22 (Blk.lt hH)
        replace hO := Blk.below hO e22 (Blk.lt hO)
        replace hE := hE.trans e22
        replace c0 : v20.cell? ⟨w.heap.size, 0, none⟩ = some (.int .i64 m) := Blk.cell hM 0
        replace c1 : v20.cell? ⟨w.heap.size, 1, none⟩ = some (.int .i64 n) := Blk.cell hM 1
        replace c2 : v20.cell? ⟨w.heap.size + 1 + 1, 0, none⟩ = some (.slice Pa la.length ka) := Blk.cell hL 0
        replace c3 : v20.cell? ⟨w.heap.size + 1 + 1, 1, none⟩ = some (.slice Pb lb.length kb) := Blk.cell hL 1
        replace c4 : v20.cell? ⟨w.heap.size + 1 + 1, 2, none⟩ = some (.bool false) := Blk.cell hL 2
        replace hm0 : v20.rangeAt (w.heap.size + 1) 0 (hcells xa) := blk_mid hX hall 0 (by simp)
        replace hm1 : v20.rangeAt (w.heap.size + 1) 32 (hcells ya) := blk_mid hX hall 1 (by simp)
        replace hMl := Blk.lt hM
        replace hLl := Blk.lt hL
        replace hXl := Blk.lt hX
        replace co0 : v20.cell? ⟨g16, 0, none⟩ = some (.string (bs [])) := Blk.cell hO 0
        replace co1 : v20.cell? ⟨g16, 1, none⟩ = some (.string (bs [])) := Blk.cell hO 1
        replace col := Blk.lt hO
        clear e22
        have cp0 : v20.cell? ⟨g21, 0, none⟩ = some (.string (bs [])) := Blk.cell hP 0
        have cp1 : v20.cell? ⟨g21, 1, none⟩ = some (.string (bs [])) := Blk.cell hP 1
        have cpl := Blk.lt hP
        refine list_want (by rfl) (fun K hK => ?_)
        refine wp_load_row 23 (.tmp 12) rfl (g9 + 1) (by rfl) 23 _ (0, 0) _ hD Tryd.underlying23 rfl (size32.trans (by simp [hd32])) ?_
        refine hK _ _ ?_; clear hK K
        simp only [Act.put, List.setIfInBounds_toArray, List.set_cons_zero, List.set_cons_succ]
        go_wp2_with (refine stop_load 23 (.tmp 15) rfl ?_)
        refine ⟨?_⟩
        refine list_want (by rfl) (fun K hK => ?_)
        refine wp_load_row 23 (.tmp 15) rfl (g14 + 1) (by rfl) 23 _ (0, 0) _ hH Tryd.underlying23 rfl (size32.trans (by simp [hf32])) ?_
        refine hK _ _ ?_; clear hK K
        simp only [Act.put, List.setIfInBounds_toArray, List.set_cons_zero, List.set_cons_succ]
        go_wp2_with (refine stop_load 23 (.tmp 11) rfl ?_)
        refine ⟨?_⟩
        refine list_want (by rfl) (fun K hK => ?_)
        refine wp_load_row 23 (.tmp 11) rfl g9 (by rfl) 23 _ (0, 0) _ hC Tryd.underlying23 rfl (size32.trans (by simp [hc32])) ?_
        refine hK _ _ ?_; clear hK K
        simp only [Act.put, List.setIfInBounds_toArray, List.set_cons_zero, List.set_cons_succ]
        go_wp2_with (refine stop_load 23 (.tmp 14) rfl ?_)
        refine ⟨?_⟩
        refine list_want (by rfl) (fun K hK => ?_)
        refine wp_load_row 23 (.tmp 14) rfl g14 (by rfl) 23 _ (0, 0) _ hG Tryd.underlying23 rfl (size32.trans (by simp [he32])) ?_
        refine hK _ _ ?_; clear hK K
        simp only [Act.put, List.setIfInBounds_toArray, List.set_cons_zero, List.set_cons_succ]
        go_wp2_with fail
        go_ret
        exact ⟨rfl, hE⟩
      · have dd : decide (d = f0) = false := decide_eq_false hdf
        rw [dd] at heqd
        clear dd htl hdf
        go_wp2_with (refine stop_load 23 (.tmp 59) rfl ?_)
        refine ⟨?_⟩
        refine wpList_load_mid rfl 23 (.tmp 59) rfl (w.heap.size + 1) (0) (by rfl) (hcells xa) _ hm0 Tryd.underlying23 rfl (size32l _ hxa) ?_
        simp only [Act.put, List.setIfInBounds_toArray, List.set_cons_zero, List.set_cons_succ]
        unfold hcells
        go_wp2_with fail
        change Calls _ _ #[sumV xa, _, _, _] _ _
        refine (refBoth_sls xa hxa m n _ A hAa (by rw [HXa.out]; omega) _ (HTa.out _ hE)).mono ?_; rw [← HP.out]; rintro e v6 ⟨rfl, e5⟩
        replace hX := Blk.below hX e5 (Blk.lt hX)
        replace hM := Blk.below hM e5 (Blk.lt hM)
        replace hL := Blk.below hL e5 (Blk.lt hL)
        replace hE := hE.trans e5
        replace c0 : v6.cell? ⟨w.heap.size, 0, none⟩ = some (.int .i64 m) := Blk.cell hM 0
        replace c1 : v6.cell? ⟨w.heap.size, 1, none⟩ = some (.int .i64 n) := Blk.cell hM 1
        replace c2 : v6.cell? ⟨w.heap.size + 1 + 1, 0, none⟩ = some (.slice Pa la.length ka) := Blk.cell hL 0
        replace c3 : v6.cell? ⟨w.heap.size + 1 + 1, 1, none⟩ = some (.slice Pb lb.length kb) := Blk.cell hL 1
        replace c4 : v6.cell? ⟨w.heap.size + 1 + 1, 2, none⟩ = some (.bool false) := Blk.cell hL 2
        replace hm0 : v6.rangeAt (w.heap.size + 1) 0 (hcells xa) := blk_mid hX hall 0 (by simp)
        replace hm1 : v6.rangeAt (w.heap.size + 1) 32 (hcells ya) := blk_mid hX hall 1 (by simp)
        replace hMl := Blk.lt hM
        replace hLl := Blk.lt hL
        replace hXl := Blk.lt hX
        clear e5
        unfold sumV
        go_wp2_with (refine stop_store 23 (.tmp 11) (.tmp 67) rfl ?_)
        refine ⟨?_⟩
        change wpList _ _ _ _ _ (twoW v6)
        refine wpList_store_row rfl 23 (.tmp 11) (.tmp 67) rfl v6.heap.size ((c).map byteV).toArray (by rfl) (by rfl) 23 _ (twoW_facts v6).1 (size32.trans (by simp [hc32])) (by simp [hc32, zerosB]) (by simp [byteV, Value.oneCell']) ?_
        simp only [Act.put, List.setIfInBounds_toArray, List.set_cons_zero, List.set_cons_succ]
        obtain ⟨hC, hD0, hD, e8⟩ := two_rows v6 c d
        go_wp2_with (refine stop_store 23 (.tmp 12) (.tmp 68) rfl ?_)
        refine ⟨?_⟩
        refine wpList_store_row rfl 23 (.tmp 12) (.tmp 68) rfl (v6.heap.size + 1) ((d).map byteV).toArray (by rfl) (by rfl) 23 _ hD0 (size32.trans (by simp [hd32])) (by simp [hd32, zerosB]) (by simp [byteV, Value.oneCell']) ?_
        simp only [Act.put, List.setIfInBounds_toArray, List.set_cons_zero, List.set_cons_succ]
        clear hD0
        obtain ⟨g9, g9e⟩ : ∃ g9, g9 = v6.heap.size := ⟨_, rfl⟩
        rw [← g9e] at hC hD e8 ⊢
        generalize ((twoW v6).setRow g9 ((c).map byteV).toArray).setRow (g9 + 1) ((d).map byteV).toArray = v7 at *
        replace hX := Blk.below hX e8 (Blk.lt hX)
        replace hM := Blk.below hM e8 (Blk.lt hM)
        replace hL := Blk.below hL e8 (Blk.lt hL)
        replace hE := hE.trans e8
        replace c0 : v7.cell? ⟨w.heap.size, 0, none⟩ = some (.int .i64 m) := Blk.cell hM 0
        replace c1 : v7.cell? ⟨w.heap.size, 1, none⟩ = some (.int .i64 n) := Blk.cell hM 1
        replace c2 : v7.cell? ⟨w.heap.size + 1 + 1, 0, none⟩ = some (.slice Pa la.length ka) := Blk.cell hL 0
        replace c3 : v7.cell? ⟨w.heap.size + 1 + 1, 1, none⟩ = some (.slice Pb lb.length kb) := Blk.cell hL 1
        replace c4 : v7.cell? ⟨w.heap.size + 1 + 1, 2, none⟩ = some (.bool false) := Blk.cell hL 2
        replace hm0 : v7.rangeAt (w.heap.size + 1) 0 (hcells xa) := blk_mid hX hall 0 (by simp)
        replace hm1 : v7.rangeAt (w.heap.size + 1) 32 (hcells ya) := blk_mid hX hall 1 (by simp)
        replace hMl := Blk.lt hM
        replace hLl := Blk.lt hL
        replace hXl := Blk.lt hX
        clear e8
        clear g9e
        go_wp2_with (refine stop_load 23 (.tmp 71) rfl ?_)
        refine ⟨?_⟩
        refine wpList_load_mid rfl 23 (.tmp 71) rfl (w.heap.size + 1) (32) (by rfl) (hcells ya) _ hm1 Tryd.underlying23 rfl (size32l _ hya) ?_
        simp only [Act.put, List.setIfInBounds_toArray, List.set_cons_zero, List.set_cons_succ]
        unfold hcells
        go_wp2_with fail
        change Calls _ _ #[sumV ya, _, _, _] _ _
        refine (refBoth_sls ya hya m n _ B hAb (by rw [HXb.out]; omega) _ (HTb.out _ hE)).mono ?_; rw [← HQ.out]; rintro e v11 ⟨rfl, e10⟩
        replace hX := Blk.below hX e10 (Blk.lt hX)
        replace hM := Blk.below hM e10 (Blk.lt hM)
        replace hL := Blk.below hL e10 (Blk.lt hL)
        replace hC := Blk.below hC e10 (Blk.lt hC)
        replace hD := Blk.below hD e10 (Blk.lt hD)
        replace hE := hE.trans e10
        replace c0 : v11.cell? ⟨w.heap.size, 0, none⟩ = some (.int .i64 m) := Blk.cell hM 0
        replace c1 : v11.cell? ⟨w.heap.size, 1, none⟩ = some (.int .i64 n) := Blk.cell hM 1
        replace c2 : v11.cell? ⟨w.heap.size + 1 + 1, 0, none⟩ = some (.slice Pa la.length ka) := Blk.cell hL 0
        replace c3 : v11.cell? ⟨w.heap.size + 1 + 1, 1, none⟩ = some (.slice Pb lb.length kb) := Blk.cell hL 1
        replace c4 : v11.cell? ⟨w.heap.size + 1 + 1, 2, none⟩ = some (.bool false) := Blk.cell hL 2
        replace hm0 : v11.rangeAt (w.heap.size + 1) 0 (hcells xa) := blk_mid hX hall 0 (by simp)
        replace hm1 : v11.rangeAt (w.heap.size + 1) 32 (hcells ya) := blk_mid hX hall 1 (by simp)
        replace hMl := Blk.lt hM
        replace hLl := Blk.lt hL
        replace hXl := Blk.lt hX
        clear e10
        unfold sumV
        go_wp2_with (refine stop_store 23 (.tmp 14) (.tmp 79) rfl ?_)
        refine ⟨?_⟩
        change wpList _ _ _ _ _ (twoW v11)
        refine wpList_store_row rfl 23 (.tmp 14) (.tmp 79) rfl v11.heap.size ((e0).map byteV).toArray (by rfl) (by rfl) 23 _ (twoW_facts v11).1 (size32.trans (by simp [he32])) (by simp [he32, zerosB]) (by simp [byteV, Value.oneCell']) ?_
        simp only [Act.put, List.setIfInBounds_toArray, List.set_cons_zero, List.set_cons_succ]
        obtain ⟨hG, hH0, hH, e13⟩ := two_rows v11 e0 f0
        go_wp2_with (refine stop_store 23 (.tmp 15) (.tmp 80) rfl ?_)
        refine ⟨?_⟩
        refine wpList_store_row rfl 23 (.tmp 15) (.tmp 80) rfl (v11.heap.size + 1) ((f0).map byteV).toArray (by rfl) (by rfl) 23 _ hH0 (size32.trans (by simp [hf32])) (by simp [hf32, zerosB]) (by simp [byteV, Value.oneCell']) ?_
        simp only [Act.put, List.setIfInBounds_toArray, List.set_cons_zero, List.set_cons_succ]
        clear hH0
        obtain ⟨g14, g14e⟩ : ∃ g14, g14 = v11.heap.size := ⟨_, rfl⟩
        rw [← g14e] at hG hH e13 ⊢
        generalize ((twoW v11).setRow g14 ((e0).map byteV).toArray).setRow (g14 + 1) ((f0).map byteV).toArray = v12 at *
        replace hX := Blk.below hX e13 (Blk.lt hX)
        replace hM := Blk.below hM e13 (Blk.lt hM)
        replace hL := Blk.below hL e13 (Blk.lt hL)
        replace hC := Blk.below hC e13 (Blk.lt hC)
        replace hD := Blk.below hD e13 (Blk.lt hD)
        replace hE := hE.trans e13
        replace c0 : v12.cell? ⟨w.heap.size, 0, none⟩ = some (.int .i64 m) := Blk.cell hM 0
        replace c1 : v12.cell? ⟨w.heap.size, 1, none⟩ = some (.int .i64 n) := Blk.cell hM 1
        replace c2 : v12.cell? ⟨w.heap.size + 1 + 1, 0, none⟩ = some (.slice Pa la.length ka) := Blk.cell hL 0
        replace c3 : v12.cell? ⟨w.heap.size + 1 + 1, 1, none⟩ = some (.slice Pb lb.length kb) := Blk.cell hL 1
        replace c4 : v12.cell? ⟨w.heap.size + 1 + 1, 2, none⟩ = some (.bool false) := Blk.cell hL 2
        replace hm0 : v12.rangeAt (w.heap.size + 1) 0 (hcells xa) := blk_mid hX hall 0 (by simp)
        replace hm1 : v12.rangeAt (w.heap.size + 1) 32 (hcells ya) := blk_mid hX hall 1 (by simp)
        replace hMl := Blk.lt hM
        replace hLl := Blk.lt hL
        replace hXl := Blk.lt hX
        clear e13
        clear g14e
        go_wp2_with (refine stop_load 23 (.tmp 87) rfl ?_)
        refine ⟨?_⟩
        change wpList _ _ _ _ _ (v12.alloc (.cells #[.string (bs []), .string (bs [])] 57))
        have hO := Blk.new v12 57 #[.string (bs []), .string (bs [])]
        have e17 : Ext v12 (v12.alloc (.cells #[.string (bs []), .string (bs [])] 57)) := (Ext.refl v12).alloc _
        obtain ⟨g16, g16e⟩ : ∃ g16, g16 = v12.heap.size := ⟨_, rfl⟩
        try rw [← v12z]
        try rw [← g16e]
        rw [← g16e] at hO
        have v15z : (v12.alloc (.cells #[.string (bs []), .string (bs [])] 57)).heap.size = g16 + 1 := by rw [alloc_size, ← g16e]
        have g16b : v12.heap.size ≤ g16 := by omega
        generalize v12.alloc (.cells #[.string (bs []), .string (bs [])] 57) = v15 at *
        clear g16e
        replace hX := Blk.below hX e17 (Blk.lt hX)
        replace hM := Blk.below hM e17 (Blk.lt hM)
        replace hL := Blk.below hL e17 (Blk.lt hL)
        replace hC := Blk.below hC e17 (Blk.lt hC)
        replace hD := Blk.below hD e17 (Blk.lt hD)
        replace hG := Blk.below hG e17 (Blk.lt hG)
        replace hH := Blk.below hH e17 (Blk.lt hH)
        replace hE := hE.trans e17
        replace c0 : v15.cell? ⟨w.heap.size, 0, none⟩ = some (.int .i64 m) := Blk.cell hM 0
        replace c1 : v15.cell? ⟨w.heap.size, 1, none⟩ = some (.int .i64 n) := Blk.cell hM 1
        replace c2 : v15.cell? ⟨w.heap.size + 1 + 1, 0, none⟩ = some (.slice Pa la.length ka) := Blk.cell hL 0
        replace c3 : v15.cell? ⟨w.heap.size + 1 + 1, 1, none⟩ = some (.slice Pb lb.length kb) := Blk.cell hL 1
        replace c4 : v15.cell? ⟨w.heap.size + 1 + 1, 2, none⟩ = some (.bool false) := Blk.cell hL 2
        replace hm0 : v15.rangeAt (w.heap.size + 1) 0 (hcells xa) := blk_mid hX hall 0 (by simp)
        replace hm1 : v15.rangeAt (w.heap.size + 1) 32 (hcells ya) := blk_mid hX hall 1 (by simp)
        replace hMl := Blk.lt hM
        replace hLl := Blk.lt hL
        replace hXl := Blk.lt hX
        clear e17
        have co0 : v15.cell? ⟨g16, 0, none⟩ = some (.string (bs [])) := Blk.cell hO 0
        have co1 : v15.cell? ⟨g16, 1, none⟩ = some (.string (bs [])) := Blk.cell hO 1
        have col := Blk.lt hO
        refine wpList_load_mid rfl 23 (.tmp 87) rfl (w.heap.size + 1) (0) (by rfl) (hcells xa) _ hm0 Tryd.underlying23 rfl (size32l _ hxa) ?_
        simp only [Act.put, List.setIfInBounds_toArray, List.set_cons_zero, List.set_cons_succ]
        unfold hcells
        go_wp2_with (refine stop_load 23 (.tmp 89) rfl ?_)
        refine ⟨?_⟩
        refine wpList_load_mid rfl 23 (.tmp 89) rfl (w.heap.size + 1) (32) (by rfl) (hcells ya) _ hm1 Tryd.underlying23 rfl (size32l _ hya) ?_
        simp only [Act.put, List.setIfInBounds_toArray, List.set_cons_zero, List.set_cons_succ]
        unfold hcells
        go_wp2_with fail
        change Calls _ _ #[_, _, sumV xa, sumV ya, _, _] _ _
        refine (Trees_calls m n hn.2 xa ya hxa hya _ _ A B hAa hAb (by rw [HXa.out]; omega) (by rw [HXb.out]; omega) _ (KW.ext hE) (HTa.out _ hE) (HTb.out _ hE)).mono ?_; rw [← HR.out, twC_none]; rintro e v19 ⟨rfl, e18⟩
        replace hX := Blk.below hX e18 (Blk.lt hX)
        replace hM := Blk.below hM e18 (Blk.lt hM)
        replace hL := Blk.below hL e18 (Blk.lt hL)
        replace hC := Blk.below hC e18 (Blk.lt hC)
        replace hD := Blk.below hD e18 (Blk.lt hD)
        replace hG := Blk.below hG e18 (Blk.lt hG)
        replace hH := Blk.below hH e18 (Blk.lt hH)
        replace hO := Blk.below hO e18 (Blk.lt hO)
        replace hE := hE.trans e18
        replace c0 : v19.cell? ⟨w.heap.size, 0, none⟩ = some (.int .i64 m) := Blk.cell hM 0
        replace c1 : v19.cell? ⟨w.heap.size, 1, none⟩ = some (.int .i64 n) := Blk.cell hM 1
        replace c2 : v19.cell? ⟨w.heap.size + 1 + 1, 0, none⟩ = some (.slice Pa la.length ka) := Blk.cell hL 0
        replace c3 : v19.cell? ⟨w.heap.size + 1 + 1, 1, none⟩ = some (.slice Pb lb.length kb) := Blk.cell hL 1
        replace c4 : v19.cell? ⟨w.heap.size + 1 + 1, 2, none⟩ = some (.bool false) := Blk.cell hL 2
        replace hm0 : v19.rangeAt (w.heap.size + 1) 0 (hcells xa) := blk_mid hX hall 0 (by simp)
        replace hm1 : v19.rangeAt (w.heap.size + 1) 32 (hcells ya) := blk_mid hX hall 1 (by simp)
        replace hMl := Blk.lt hM
        replace hLl := Blk.lt hL
        replace hXl := Blk.lt hX
        replace co0 : v19.cell? ⟨g16, 0, none⟩ = some (.string (bs [])) := Blk.cell hO 0
        replace co1 : v19.cell? ⟨g16, 1, none⟩ = some (.string (bs [])) := Blk.cell hO 1
        replace col := Blk.lt hO
        clear e18
        go_wp2_with (refine stop_load 23 (.tmp 12) rfl ?_)
        refine ⟨?_⟩
        change wpList _ _ _ _ _ (v19.alloc (.cells #[.string (bs []), .string (bs [])] 57))
        have hP := Blk.new v19 57 #[.string (bs []), .string (bs [])]
        have e22 : Ext v19 (v19.alloc (.cells #[.string (bs []), .string (bs [])] 57)) := (Ext.refl v19).alloc _
        obtain ⟨g21, g21e⟩ : ∃ g21, g21 = v19.heap.size := ⟨_, rfl⟩
        try rw [← v19z]
        try rw [← g21e]
        rw [← g21e] at hP
        have v20z : (v19.alloc (.cells #[.string (bs []), .string (bs [])] 57)).heap.size = g21 + 1 := by rw [alloc_size, ← g21e]
        have g21b : v19.heap.size ≤ g21 := by omega
        generalize v19.alloc (.cells #[.string (bs []), .string (bs [])] 57) = v20 at *
        clear g21e
        replace hX := Blk.below hX e22 (Blk.lt hX)
        replace hM := Blk.below hM e22 (Blk.lt hM)
        replace hL := Blk.below hL e22 (Blk.lt hL)
        replace hC := Blk.below hC e22 (Blk.lt hC)
        replace hD := Blk.below hD e22 (Blk.lt hD)
        replace hG := Blk.below hG e22 (Blk.lt hG)
        replace hH := Blk.below hH e22 (Blk.lt hH)
        replace hO := Blk.below hO e22 (Blk.lt hO)
        replace hE := hE.trans e22
        replace c0 : v20.cell? ⟨w.heap.size, 0, none⟩ = some (.int .i64 m) := Blk.cell hM 0
        replace c1 : v20.cell? ⟨w.heap.size, 1, none⟩ = some (.int .i64 n) := Blk.cell hM 1
        replace c2 : v20.cell? ⟨w.heap.size + 1 + 1, 0, none⟩ = some (.slice Pa la.length ka) := Blk.cell hL 0
        replace c3 : v20.cell? ⟨w.heap.size + 1 + 1, 1, none⟩ = some (.slice Pb lb.length kb) := Blk.cell hL 1
        replace c4 : v20.cell? ⟨w.heap.size + 1 + 1, 2, none⟩ = some (.bool false) := Blk.cell hL 2
        replace hm0 : v20.rangeAt (w.heap.size + 1) 0 (hcells xa) := blk_mid hX hall 0 (by simp)
        replace hm1 : v20.rangeAt (w.heap.size + 1) 32 (hcells ya) := blk_mid hX hall 1 (by simp)
        replace hMl := Blk.lt hM
        replace hLl := Blk.lt hL
        replace hXl := Blk.lt hX
        replace co0 : v20.cell? ⟨g16, 0, none⟩ = some (.string (bs [])) := Blk.cell hO 0
        replace co1 : v20.cell? ⟨g16, 1, none⟩ = some (.string (bs [])) := Blk.cell hO 1
        replace col := Blk.lt hO
        clear e22
        have cp0 : v20.cell? ⟨g21, 0, none⟩ = some (.string (bs [])) := Blk.cell hP 0
        have cp1 : v20.cell? ⟨g21, 1, none⟩ = some (.string (bs [])) := Blk.cell hP 1
        have cpl := Blk.lt hP
        refine list_want (by rfl) (fun K hK => ?_)
        refine wp_load_row 23 (.tmp 12) rfl (g9 + 1) (by rfl) 23 _ (0, 0) _ hD Tryd.underlying23 rfl (size32.trans (by simp [hd32])) ?_
        refine hK _ _ ?_; clear hK K
        simp only [Act.put, List.setIfInBounds_toArray, List.set_cons_zero, List.set_cons_succ]
        go_wp2_with (refine stop_load 23 (.tmp 15) rfl ?_)
        refine ⟨?_⟩
        refine list_want (by rfl) (fun K hK => ?_)
        refine wp_load_row 23 (.tmp 15) rfl (g14 + 1) (by rfl) 23 _ (0, 0) _ hH Tryd.underlying23 rfl (size32.trans (by simp [hf32])) ?_
        refine hK _ _ ?_; clear hK K
        simp only [Act.put, List.setIfInBounds_toArray, List.set_cons_zero, List.set_cons_succ]
        go_wp2_with fail
        go_ret
        exact ⟨rfl, hE⟩
    · rename_i pq
      obtain ⟨pp, qq⟩ := pq
      have hpp := htl.1 pp qq rfl
      clear htl
      go_wp2_with (refine stop_load 23 (.tmp 59) rfl ?_)
      refine ⟨?_⟩
      refine wpList_load_mid rfl 23 (.tmp 59) rfl (w.heap.size + 1) (0) (by rfl) (hcells xa) _ hm0 Tryd.underlying23 rfl (size32l _ hxa) ?_
      simp only [Act.put, List.setIfInBounds_toArray, List.set_cons_zero, List.set_cons_succ]
      unfold hcells
      go_wp2_with fail
      change Calls _ _ #[sumV xa, _, _, _] _ _
      refine (refBoth_sls xa hxa m n _ A hAa (by rw [HXa.out]; omega) _ (HTa.out _ hE)).mono ?_; rw [← HP.out]; rintro e v6 ⟨rfl, e5⟩
      replace hX := Blk.below hX e5 (Blk.lt hX)
      replace hM := Blk.below hM e5 (Blk.lt hM)
      replace hL := Blk.below hL e5 (Blk.lt hL)
      replace hE := hE.trans e5
      replace c0 : v6.cell? ⟨w.heap.size, 0, none⟩ = some (.int .i64 m) := Blk.cell hM 0
      replace c1 : v6.cell? ⟨w.heap.size, 1, none⟩ = some (.int .i64 n) := Blk.cell hM 1
      replace c2 : v6.cell? ⟨w.heap.size + 1 + 1, 0, none⟩ = some (.slice Pa la.length ka) := Blk.cell hL 0
      replace c3 : v6.cell? ⟨w.heap.size + 1 + 1, 1, none⟩ = some (.slice Pb lb.length kb) := Blk.cell hL 1
      replace c4 : v6.cell? ⟨w.heap.size + 1 + 1, 2, none⟩ = some (.bool false) := Blk.cell hL 2
      replace hm0 : v6.rangeAt (w.heap.size + 1) 0 (hcells xa) := blk_mid hX hall 0 (by simp)
      replace hm1 : v6.rangeAt (w.heap.size + 1) 32 (hcells ya) := blk_mid hX hall 1 (by simp)
      replace hMl := Blk.lt hM
      replace hLl := Blk.lt hL
      replace hXl := Blk.lt hX
      clear e5
      unfold sumV
      go_wp2_with (refine stop_store 23 (.tmp 11) (.tmp 67) rfl ?_)
      refine ⟨?_⟩
      change wpList _ _ _ _ _ (twoW v6)
      refine wpList_store_row rfl 23 (.tmp 11) (.tmp 67) rfl v6.heap.size ((c).map byteV).toArray (by rfl) (by rfl) 23 _ (twoW_facts v6).1 (size32.trans (by simp [hc32])) (by simp [hc32, zerosB]) (by simp [byteV, Value.oneCell']) ?_
      simp only [Act.put, List.setIfInBounds_toArray, List.set_cons_zero, List.set_cons_succ]
      obtain ⟨hC, hD0, hD, e8⟩ := two_rows v6 c d
      go_wp2_with (refine stop_store 23 (.tmp 12) (.tmp 68) rfl ?_)
      refine ⟨?_⟩
      refine wpList_store_row rfl 23 (.tmp 12) (.tmp 68) rfl (v6.heap.size + 1) ((d).map byteV).toArray (by rfl) (by rfl) 23 _ hD0 (size32.trans (by simp [hd32])) (by simp [hd32, zerosB]) (by simp [byteV, Value.oneCell']) ?_
      simp only [Act.put, List.setIfInBounds_toArray, List.set_cons_zero, List.set_cons_succ]
      clear hD0
      obtain ⟨g9, g9e⟩ : ∃ g9, g9 = v6.heap.size := ⟨_, rfl⟩
      rw [← g9e] at hC hD e8 ⊢
      generalize ((twoW v6).setRow g9 ((c).map byteV).toArray).setRow (g9 + 1) ((d).map byteV).toArray = v7 at *
      replace hX := Blk.below hX e8 (Blk.lt hX)
      replace hM := Blk.below hM e8 (Blk.lt hM)
      replace hL := Blk.below hL e8 (Blk.lt hL)
      replace hE := hE.trans e8
      replace c0 : v7.cell? ⟨w.heap.size, 0, none⟩ = some (.int .i64 m) := Blk.cell hM 0
      replace c1 : v7.cell? ⟨w.heap.size, 1, none⟩ = some (.int .i64 n) := Blk.cell hM 1
      replace c2 : v7.cell? ⟨w.heap.size + 1 + 1, 0, none⟩ = some (.slice Pa la.length ka) := Blk.cell hL 0
      replace c3 : v7.cell? ⟨w.heap.size + 1 + 1, 1, none⟩ = some (.slice Pb lb.length kb) := Blk.cell hL 1
      replace c4 : v7.cell? ⟨w.heap.size + 1 + 1, 2, none⟩ = some (.bool false) := Blk.cell hL 2
      replace hm0 : v7.rangeAt (w.heap.size + 1) 0 (hcells xa) := blk_mid hX hall 0 (by simp)
      replace hm1 : v7.rangeAt (w.heap.size + 1) 32 (hcells ya) := blk_mid hX hall 1 (by simp)
      replace hMl := Blk.lt hM
      replace hLl := Blk.lt hL
      replace hXl := Blk.lt hX
      clear e8
      clear g9e
      go_wp2_with (refine stop_load 23 (.tmp 71) rfl ?_)
      refine ⟨?_⟩
      refine wpList_load_mid rfl 23 (.tmp 71) rfl (w.heap.size + 1) (32) (by rfl) (hcells ya) _ hm1 Tryd.underlying23 rfl (size32l _ hya) ?_
      simp only [Act.put, List.setIfInBounds_toArray, List.set_cons_zero, List.set_cons_succ]
      unfold hcells
      go_wp2_with fail
      change Calls _ _ #[sumV ya, _, _, _] _ _
      refine (refBoth_sls ya hya m n _ B hAb (by rw [HXb.out]; omega) _ (HTb.out _ hE)).mono ?_; rw [← HQ.out]; rintro e v11 ⟨rfl, e10⟩
      replace hX := Blk.below hX e10 (Blk.lt hX)
      replace hM := Blk.below hM e10 (Blk.lt hM)
      replace hL := Blk.below hL e10 (Blk.lt hL)
      replace hC := Blk.below hC e10 (Blk.lt hC)
      replace hD := Blk.below hD e10 (Blk.lt hD)
      replace hE := hE.trans e10
      replace c0 : v11.cell? ⟨w.heap.size, 0, none⟩ = some (.int .i64 m) := Blk.cell hM 0
      replace c1 : v11.cell? ⟨w.heap.size, 1, none⟩ = some (.int .i64 n) := Blk.cell hM 1
      replace c2 : v11.cell? ⟨w.heap.size + 1 + 1, 0, none⟩ = some (.slice Pa la.length ka) := Blk.cell hL 0
      replace c3 : v11.cell? ⟨w.heap.size + 1 + 1, 1, none⟩ = some (.slice Pb lb.length kb) := Blk.cell hL 1
      replace c4 : v11.cell? ⟨w.heap.size + 1 + 1, 2, none⟩ = some (.bool false) := Blk.cell hL 2
      replace hm0 : v11.rangeAt (w.heap.size + 1) 0 (hcells xa) := blk_mid hX hall 0 (by simp)
      replace hm1 : v11.rangeAt (w.heap.size + 1) 32 (hcells ya) := blk_mid hX hall 1 (by simp)
      replace hMl := Blk.lt hM
      replace hLl := Blk.lt hL
      replace hXl := Blk.lt hX
      clear e10
      unfold sumV
      go_wp2_with (refine stop_store 23 (.tmp 14) (.tmp 79) rfl ?_)
      refine ⟨?_⟩
      change wpList _ _ _ _ _ (twoW v11)
      refine wpList_store_row rfl 23 (.tmp 14) (.tmp 79) rfl v11.heap.size ((e0).map byteV).toArray (by rfl) (by rfl) 23 _ (twoW_facts v11).1 (size32.trans (by simp [he32])) (by simp [he32, zerosB]) (by simp [byteV, Value.oneCell']) ?_
      simp only [Act.put, List.setIfInBounds_toArray, List.set_cons_zero, List.set_cons_succ]
      obtain ⟨hG, hH0, hH, e13⟩ := two_rows v11 e0 f0
      go_wp2_with (refine stop_store 23 (.tmp 15) (.tmp 80) rfl ?_)
      refine ⟨?_⟩
      refine wpList_store_row rfl 23 (.tmp 15) (.tmp 80) rfl (v11.heap.size + 1) ((f0).map byteV).toArray (by rfl) (by rfl) 23 _ hH0 (size32.trans (by simp [hf32])) (by simp [hf32, zerosB]) (by simp [byteV, Value.oneCell']) ?_
      simp only [Act.put, List.setIfInBounds_toArray, List.set_cons_zero, List.set_cons_succ]
      clear hH0
      obtain ⟨g14, g14e⟩ : ∃ g14, g14 = v11.heap.size := ⟨_, rfl⟩
      rw [← g14e] at hG hH e13 ⊢
      generalize ((twoW v11).setRow g14 ((e0).map byteV).toArray).setRow (g14 + 1) ((f0).map byteV).toArray = v12 at *
      replace hX := Blk.below hX e13 (Blk.lt hX)
      replace hM := Blk.below hM e13 (Blk.lt hM)
      replace hL := Blk.below hL e13 (Blk.lt hL)
      replace hC := Blk.below hC e13 (Blk.lt hC)
      replace hD := Blk.below hD e13 (Blk.lt hD)
      replace hE := hE.trans e13
      replace c0 : v12.cell? ⟨w.heap.size, 0, none⟩ = some (.int .i64 m) := Blk.cell hM 0
      replace c1 : v12.cell? ⟨w.heap.size, 1, none⟩ = some (.int .i64 n) := Blk.cell hM 1
      replace c2 : v12.cell? ⟨w.heap.size + 1 + 1, 0, none⟩ = some (.slice Pa la.length ka) := Blk.cell hL 0
      replace c3 : v12.cell? ⟨w.heap.size + 1 + 1, 1, none⟩ = some (.slice Pb lb.length kb) := Blk.cell hL 1
      replace c4 : v12.cell? ⟨w.heap.size + 1 + 1, 2, none⟩ = some (.bool false) := Blk.cell hL 2
      replace hm0 : v12.rangeAt (w.heap.size + 1) 0 (hcells xa) := blk_mid hX hall 0 (by simp)
      replace hm1 : v12.rangeAt (w.heap.size + 1) 32 (hcells ya) := blk_mid hX hall 1 (by simp)
      replace hMl := Blk.lt hM
      replace hLl := Blk.lt hL
      replace hXl := Blk.lt hX
      clear e13
      clear g14e
      go_wp2_with (refine stop_load 23 (.tmp 87) rfl ?_)
      refine ⟨?_⟩
      change wpList _ _ _ _ _ (v12.alloc (.cells #[.string (bs []), .string (bs [])] 57))
      have hO := Blk.new v12 57 #[.string (bs []), .string (bs [])]
      have e17 : Ext v12 (v12.alloc (.cells #[.string (bs []), .string (bs [])] 57)) := (Ext.refl v12).alloc _
      obtain ⟨g16, g16e⟩ : ∃ g16, g16 = v12.heap.size := ⟨_, rfl⟩
      try rw [← v12z]
      try rw [← g16e]
      rw [← g16e] at hO
      have v15z : (v12.alloc (.cells #[.string (bs []), .string (bs [])] 57)).heap.size = g16 + 1 := by rw [alloc_size, ← g16e]
      have g16b : v12.heap.size ≤ g16 := by omega
      generalize v12.alloc (.cells #[.string (bs []), .string (bs [])] 57) = v15 at *
      clear g16e
      replace hX := Blk.below hX e17 (Blk.lt hX)
      replace hM := Blk.below hM e17 (Blk.lt hM)
      replace hL := Blk.below hL e17 (Blk.lt hL)
      replace hC := Blk.below hC e17 (Blk.lt hC)
      replace hD := Blk.below hD e17 (Blk.lt hD)
      replace hG := Blk.below hG e17 (Blk.lt hG)
      replace hH := Blk.below hH e17 (Blk.lt hH)
      replace hE := hE.trans e17
      replace c0 : v15.cell? ⟨w.heap.size, 0, none⟩ = some (.int .i64 m) := Blk.cell hM 0
      replace c1 : v15.cell? ⟨w.heap.size, 1, none⟩ = some (.int .i64 n) := Blk.cell hM 1
      replace c2 : v15.cell? ⟨w.heap.size + 1 + 1, 0, none⟩ = some (.slice Pa la.length ka) := Blk.cell hL 0
      replace c3 : v15.cell? ⟨w.heap.size + 1 + 1, 1, none⟩ = some (.slice Pb lb.length kb) := Blk.cell hL 1
      replace c4 : v15.cell? ⟨w.heap.size + 1 + 1, 2, none⟩ = some (.bool false) := Blk.cell hL 2
      replace hm0 : v15.rangeAt (w.heap.size + 1) 0 (hcells xa) := blk_mid hX hall 0 (by simp)
      replace hm1 : v15.rangeAt (w.heap.size + 1) 32 (hcells ya) := blk_mid hX hall 1 (by simp)
      replace hMl := Blk.lt hM
      replace hLl := Blk.lt hL
      replace hXl := Blk.lt hX
      clear e17
      have co0 : v15.cell? ⟨g16, 0, none⟩ = some (.string (bs [])) := Blk.cell hO 0
      have co1 : v15.cell? ⟨g16, 1, none⟩ = some (.string (bs [])) := Blk.cell hO 1
      have col := Blk.lt hO
      refine wpList_load_mid rfl 23 (.tmp 87) rfl (w.heap.size + 1) (0) (by rfl) (hcells xa) _ hm0 Tryd.underlying23 rfl (size32l _ hxa) ?_
      simp only [Act.put, List.setIfInBounds_toArray, List.set_cons_zero, List.set_cons_succ]
      unfold hcells
      go_wp2_with (refine stop_load 23 (.tmp 89) rfl ?_)
      refine ⟨?_⟩
      refine wpList_load_mid rfl 23 (.tmp 89) rfl (w.heap.size + 1) (32) (by rfl) (hcells ya) _ hm1 Tryd.underlying23 rfl (size32l _ hya) ?_
      simp only [Act.put, List.setIfInBounds_toArray, List.set_cons_zero, List.set_cons_succ]
      unfold hcells
      go_wp2_with fail
      change Calls _ _ #[_, _, sumV xa, sumV ya, _, _] _ _
      refine (Trees_calls m n hn.2 xa ya hxa hya _ _ A B hAa hAb (by rw [HXa.out]; omega) (by rw [HXb.out]; omega) _ (KW.ext hE) (HTa.out _ hE) (HTb.out _ hE)).mono ?_; rw [← HR.out, twC_some]; rintro e v19 ⟨rfl, e18⟩
      replace hX := Blk.below hX e18 (Blk.lt hX)
      replace hM := Blk.below hM e18 (Blk.lt hM)
      replace hL := Blk.below hL e18 (Blk.lt hL)
      replace hC := Blk.below hC e18 (Blk.lt hC)
      replace hD := Blk.below hD e18 (Blk.lt hD)
      replace hG := Blk.below hG e18 (Blk.lt hG)
      replace hH := Blk.below hH e18 (Blk.lt hH)
      replace hO := Blk.below hO e18 (Blk.lt hO)
      replace hE := hE.trans e18
      replace c0 : v19.cell? ⟨w.heap.size, 0, none⟩ = some (.int .i64 m) := Blk.cell hM 0
      replace c1 : v19.cell? ⟨w.heap.size, 1, none⟩ = some (.int .i64 n) := Blk.cell hM 1
      replace c2 : v19.cell? ⟨w.heap.size + 1 + 1, 0, none⟩ = some (.slice Pa la.length ka) := Blk.cell hL 0
      replace c3 : v19.cell? ⟨w.heap.size + 1 + 1, 1, none⟩ = some (.slice Pb lb.length kb) := Blk.cell hL 1
      replace c4 : v19.cell? ⟨w.heap.size + 1 + 1, 2, none⟩ = some (.bool false) := Blk.cell hL 2
      replace hm0 : v19.rangeAt (w.heap.size + 1) 0 (hcells xa) := blk_mid hX hall 0 (by simp)
      replace hm1 : v19.rangeAt (w.heap.size + 1) 32 (hcells ya) := blk_mid hX hall 1 (by simp)
      replace hMl := Blk.lt hM
      replace hLl := Blk.lt hL
      replace hXl := Blk.lt hX
      replace co0 : v19.cell? ⟨g16, 0, none⟩ = some (.string (bs [])) := Blk.cell hO 0
      replace co1 : v19.cell? ⟨g16, 1, none⟩ = some (.string (bs [])) := Blk.cell hO 1
      replace col := Blk.lt hO
      clear e18
      have hpq0 : (pp == qq) = false := by rw [beq_eq_false_iff_ne]; exact hpp.1
      have heqh := fun w : World => eq_sum (shaOf pp) (shaOf qq) (shaOf_length pp) (shaOf_length qq) w
      have dh : decide (shaOf pp = shaOf qq) = true := decide_eq_true hpp.2.1
      rw [dh] at heqh
      have hq1 : pp.length = 65 := hpp.2.2.1
      have hq2 : qq.length = 65 := hpp.2.2.2
      clear dh hpp
      go_wp2_with fail
      change Code.wp _ _ _ _ (v19.alloc (.cells #[.string (bs pp), .string (bs qq)] 57))
      have hP := Blk.new v19 57 #[.string (bs pp), .string (bs qq)]
      have e22 : Ext v19 (v19.alloc (.cells #[.string (bs pp), .string (bs qq)] 57)) := (Ext.refl v19).alloc _
      obtain ⟨g21, g21e⟩ : ∃ g21, g21 = v19.heap.size := ⟨_, rfl⟩
      try rw [← v19z]
      try rw [← g21e]
      rw [← g21e] at hP
      have v20z : (v19.alloc (.cells #[.string (bs pp), .string (bs qq)] 57)).heap.size = g21 + 1 := by rw [alloc_size, ← g21e]
      have g21b : v19.heap.size ≤ g21 := by omega
      generalize v19.alloc (.cells #[.string (bs pp), .string (bs qq)] 57) = v20 at *
      clear g21e
      replace hX := Blk.below hX e22 (Blk.lt hX)
      replace hM := Blk.below hM e22 (Blk.lt hM)
      replace hL := Blk.below hL e22 (Blk.lt hL)
      replace hC := Blk.below hC e22 (Blk.lt hC)
      replace hD := Blk.below hD e22 (Blk.lt hD)
      replace hG := Blk.below hG e22 (Blk.lt hG)
      replace hH := Blk.below hH e22 (Blk.lt hH)
      replace hO := Blk.below hO e22 (Blk.lt hO)
      replace hE := hE.trans e22
      replace c0 : v20.cell? ⟨w.heap.size, 0, none⟩ = some (.int .i64 m) := Blk.cell hM 0
      replace c1 : v20.cell? ⟨w.heap.size, 1, none⟩ = some (.int .i64 n) := Blk.cell hM 1
      replace c2 : v20.cell? ⟨w.heap.size + 1 + 1, 0, none⟩ = some (.slice Pa la.length ka) := Blk.cell hL 0
      replace c3 : v20.cell? ⟨w.heap.size + 1 + 1, 1, none⟩ = some (.slice Pb lb.length kb) := Blk.cell hL 1
      replace c4 : v20.cell? ⟨w.heap.size + 1 + 1, 2, none⟩ = some (.bool false) := Blk.cell hL 2
      replace hm0 : v20.rangeAt (w.heap.size + 1) 0 (hcells xa) := blk_mid hX hall 0 (by simp)
      replace hm1 : v20.rangeAt (w.heap.size + 1) 32 (hcells ya) := blk_mid hX hall 1 (by simp)
      replace hMl := Blk.lt hM
      replace hLl := Blk.lt hL
      replace hXl := Blk.lt hX
      replace co0 : v20.cell? ⟨g16, 0, none⟩ = some (.string (bs [])) := Blk.cell hO 0
      replace co1 : v20.cell? ⟨g16, 1, none⟩ = some (.string (bs [])) := Blk.cell hO 1
      replace col := Blk.lt hO
      clear e22
      have cp0 : v20.cell? ⟨g21, 0, none⟩ = some (.string (bs pp)) := Blk.cell hP 0
      have cp1 : v20.cell? ⟨g21, 1, none⟩ = some (.string (bs qq)) := Blk.cell hP 1
      have cpl := Blk.lt hP
      refine region_mix0 (by kernel_rfl) (by kernel_rfl) (fun y0 => ?_)
      iterate 11 (first | (refine mix_quiet (by rfl) (by rfl) (fun K hK => ?_); go_big_quiet_op; refine hK _ ?_; clear hK K) | (refine mix_skip (by rfl) ?_; simp only [Act.put, List.setIfInBounds_toArray, List.set_cons_zero, List.set_cons_succ]))
      (refine mix_loud (by rfl) (by rfl) (fun K E hK => ?_); go_big_op)
      refine (refOf_calls pp _ (by omega)).mono ?_; rintro e w5 ⟨rfl, hd⟩
      obtain ⟨x', rfl⟩ := more_ext _ hd; clear hd
      refine hK _ _ ⟨_, rfl⟩ ?_; clear hK K E
      iterate 2 (first | (refine mix_quiet (by rfl) (by rfl) (fun K hK => ?_); go_big_quiet_op; refine hK _ ?_; clear hK K) | (refine mix_skip (by rfl) ?_; simp only [Act.put, List.setIfInBounds_toArray, List.set_cons_zero, List.set_cons_succ]))
      (refine mix_loud (by rfl) (by rfl) (fun K E hK => ?_); go_big_op)
      refine (refOf_calls qq _ (by omega)).mono ?_; rintro e w5 ⟨rfl, hd⟩
      obtain ⟨x', rfl⟩ := more_ext _ hd; clear hd
      refine hK _ _ ⟨_, rfl⟩ ?_; clear hK K E
      unfold sumV
      repeat (first | (refine mix_quiet (by rfl) (by rfl) (fun K hK => ?_); go_big_quiet_op; refine hK _ ?_; clear hK K) | (refine mix_skip (by rfl) ?_; simp only [Act.put, List.setIfInBounds_toArray, List.set_cons_zero, List.set_cons_succ]))
      refine mix_nil ?_
      have hE9 := hE.trans (grow_ext x')
      go_wp2_with fail
      go_ret
      exact ⟨rfl, hE9⟩
  · skip
    have htl := trees_tell m n xa ya hxa hya A A hAa hAa (by rw [← HL.out, HXa.out]) (by rw [← HL.out, HXa.out])
    have hp32 := bothP_length xa hxa m n A hAa
    have hr32 := bothP_length ya hya m n A hAa
    obtain ⟨P, hP⟩ : ∃ P, P = bothP xa m n A := ⟨_, rfl⟩
    obtain ⟨Q, hQ⟩ : ∃ Q, Q = bothP ya m n A := ⟨_, rfl⟩
    obtain ⟨R, hR⟩ : ∃ R, R = treesP m n xa ya A A := ⟨_, rfl⟩
    rw [← hP, ← hQ, ← hR] at htl
    rw [← hP] at hp32
    rw [← hQ] at hr32
    have HP := Lib.hid hP
    have HQ := Lib.hid hQ
    have HR := Lib.hid hR
    clear hP hQ hR
    obtain ⟨⟨c, d⟩, i⟩ := P
    obtain ⟨⟨e0, f0⟩, j⟩ := Q
    obtain ⟨hc32, hd32⟩ := hp32
    obtain ⟨he32, hf32⟩ := hr32
    dsimp only at htl hc32 hd32 he32 hf32
    have heqd := fun w : World => eq_sum d f0 hd32 hf32 w
    have heqc := fun w : World => eq_sum c e0 hc32 he32 w
    cases R
    · by_cases hdf : d = f0
      · have dd : decide (d = f0) = true := decide_eq_true hdf
        have dc : decide (c = e0) = true := decide_eq_true (htl.2 rfl hdf)
        rw [dd] at heqd
        rw [dc] at heqc
        clear dd dc htl hdf
        go_wp2_with (refine stop_load 23 (.tmp 59) rfl ?_)
        refine ⟨?_⟩
        refine wpList_load_mid rfl 23 (.tmp 59) rfl (w.heap.size + 1) (0) (by rfl) (hcells xa) _ hm0 Tryd.underlying23 rfl (size32l _ hxa) ?_
        simp only [Act.put, List.setIfInBounds_toArray, List.set_cons_zero, List.set_cons_succ]
        unfold hcells
        go_wp2_with fail
        change Calls _ _ #[sumV xa, _, _, _] _ _
        refine (refBoth_sls xa hxa m n _ A hAa (by rw [HXa.out]; omega) _ (HTa.out _ hE)).mono ?_; rw [← HP.out]; rintro e v6 ⟨rfl, e5⟩
        replace hX := Blk.below hX e5 (Blk.lt hX)
        replace hM := Blk.below hM e5 (Blk.lt hM)
        replace hL := Blk.below hL e5 (Blk.lt hL)
        replace hE := hE.trans e5
        replace c0 : v6.cell? ⟨w.heap.size, 0, none⟩ = some (.int .i64 m) := Blk.cell hM 0
        replace c1 : v6.cell? ⟨w.heap.size, 1, none⟩ = some (.int .i64 n) := Blk.cell hM 1
        replace c2 : v6.cell? ⟨w.heap.size + 1 + 1, 0, none⟩ = some (.slice Pa la.length ka) := Blk.cell hL 0
        replace c3 : v6.cell? ⟨w.heap.size + 1 + 1, 1, none⟩ = some (.slice Pb lb.length kb) := Blk.cell hL 1
        replace c4 : v6.cell? ⟨w.heap.size + 1 + 1, 2, none⟩ = some (.bool true) := Blk.cell hL 2
        replace hm0 : v6.rangeAt (w.heap.size + 1) 0 (hcells xa) := blk_mid hX hall 0 (by simp)
        replace hm1 : v6.rangeAt (w.heap.size + 1) 32 (hcells ya) := blk_mid hX hall 1 (by simp)
        replace hMl := Blk.lt hM
        replace hLl := Blk.lt hL
        replace hXl := Blk.lt hX
        clear e5
        unfold sumV
        go_wp2_with (refine stop_store 23 (.tmp 11) (.tmp 67) rfl ?_)
        refine ⟨?_⟩
        change wpList _ _ _ _ _ (twoW v6)
        refine wpList_store_row rfl 23 (.tmp 11) (.tmp 67) rfl v6.heap.size ((c).map byteV).toArray (by rfl) (by rfl) 23 _ (twoW_facts v6).1 (size32.trans (by simp [hc32])) (by simp [hc32, zerosB]) (by simp [byteV, Value.oneCell']) ?_
        simp only [Act.put, List.setIfInBounds_toArray, List.set_cons_zero, List.set_cons_succ]
        obtain ⟨hC, hD0, hD, e8⟩ := two_rows v6 c d
        go_wp2_with (refine stop_store 23 (.tmp 12) (.tmp 68) rfl ?_)
        refine ⟨?_⟩
        refine wpList_store_row rfl 23 (.tmp 12) (.tmp 68) rfl (v6.heap.size + 1) ((d).map byteV).toArray (by rfl) (by rfl) 23 _ hD0 (size32.trans (by simp [hd32])) (by simp [hd32, zerosB]) (by simp [byteV, Value.oneCell']) ?_
        simp only [Act.put, List.setIfInBounds_toArray, List.set_cons_zero, List.set_cons_succ]
        clear hD0
        obtain ⟨g9, g9e⟩ : ∃ g9, g9 = v6.heap.size := ⟨_, rfl⟩
        rw [← g9e] at hC hD e8 ⊢
        generalize ((twoW v6).setRow g9 ((c).map byteV).toArray).setRow (g9 + 1) ((d).map byteV).toArray = v7 at *
        replace hX := Blk.below hX e8 (Blk.lt hX)
        replace hM := Blk.below hM e8 (Blk.lt hM)
        replace hL := Blk.below hL e8 (Blk.lt hL)
        replace hE := hE.trans e8
        replace c0 : v7.cell? ⟨w.heap.size, 0, none⟩ = some (.int .i64 m) := Blk.cell hM 0
        replace c1 : v7.cell? ⟨w.heap.size, 1, none⟩ = some (.int .i64 n) := Blk.cell hM 1
        replace c2 : v7.cell? ⟨w.heap.size + 1 + 1, 0, none⟩ = some (.slice Pa la.length ka) := Blk.cell hL 0
        replace c3 : v7.cell? ⟨w.heap.size + 1 + 1, 1, none⟩ = some (.slice Pb lb.length kb) := Blk.cell hL 1
        replace c4 : v7.cell? ⟨w.heap.size + 1 + 1, 2, none⟩ = some (.bool true) := Blk.cell hL 2
        replace hm0 : v7.rangeAt (w.heap.size + 1) 0 (hcells xa) := blk_mid hX hall 0 (by simp)
        replace hm1 : v7.rangeAt (w.heap.size + 1) 32 (hcells ya) := blk_mid hX hall 1 (by simp)
        replace hMl := Blk.lt hM
        replace hLl := Blk.lt hL
        replace hXl := Blk.lt hX
        clear e8
        clear g9e
        go_wp2_with (refine stop_load 23 (.tmp 71) rfl ?_)
        refine ⟨?_⟩
        refine wpList_load_mid rfl 23 (.tmp 71) rfl (w.heap.size + 1) (32) (by rfl) (hcells ya) _ hm1 Tryd.underlying23 rfl (size32l _ hya) ?_
        simp only [Act.put, List.setIfInBounds_toArray, List.set_cons_zero, List.set_cons_succ]
        unfold hcells
        go_wp2_with fail
        change Calls _ _ #[sumV ya, _, _, _] _ _
        refine (refBoth_sls ya hya m n _ A hAa (by rw [HXa.out]; omega) _ (HTa.out _ hE)).mono ?_; rw [← HQ.out]; rintro e v11 ⟨rfl, e10⟩
        replace hX := Blk.below hX e10 (Blk.lt hX)
        replace hM := Blk.below hM e10 (Blk.lt hM)
        replace hL := Blk.below hL e10 (Blk.lt hL)
        replace hC := Blk.below hC e10 (Blk.lt hC)
        replace hD := Blk.below hD e10 (Blk.lt hD)
        replace hE := hE.trans e10
        replace c0 : v11.cell? ⟨w.heap.size, 0, none⟩ = some (.int .i64 m) := Blk.cell hM 0
        replace c1 : v11.cell? ⟨w.heap.size, 1, none⟩ = some (.int .i64 n) := Blk.cell hM 1
        replace c2 : v11.cell? ⟨w.heap.size + 1 + 1, 0, none⟩ = some (.slice Pa la.length ka) := Blk.cell hL 0
        replace c3 : v11.cell? ⟨w.heap.size + 1 + 1, 1, none⟩ = some (.slice Pb lb.length kb) := Blk.cell hL 1
        replace c4 : v11.cell? ⟨w.heap.size + 1 + 1, 2, none⟩ = some (.bool true) := Blk.cell hL 2
        replace hm0 : v11.rangeAt (w.heap.size + 1) 0 (hcells xa) := blk_mid hX hall 0 (by simp)
        replace hm1 : v11.rangeAt (w.heap.size + 1) 32 (hcells ya) := blk_mid hX hall 1 (by simp)
        replace hMl := Blk.lt hM
        replace hLl := Blk.lt hL
        replace hXl := Blk.lt hX
        clear e10
        unfold sumV
        go_wp2_with (refine stop_store 23 (.tmp 14) (.tmp 79) rfl ?_)
        refine ⟨?_⟩
        change wpList _ _ _ _ _ (twoW v11)
        refine wpList_store_row rfl 23 (.tmp 14) (.tmp 79) rfl v11.heap.size ((e0).map byteV).toArray (by rfl) (by rfl) 23 _ (twoW_facts v11).1 (size32.trans (by simp [he32])) (by simp [he32, zerosB]) (by simp [byteV, Value.oneCell']) ?_
        simp only [Act.put, List.setIfInBounds_toArray, List.set_cons_zero, List.set_cons_succ]
        obtain ⟨hG, hH0, hH, e13⟩ := two_rows v11 e0 f0
        go_wp2_with (refine stop_store 23 (.tmp 15) (.tmp 80) rfl ?_)
        refine ⟨?_⟩
        refine wpList_store_row rfl 23 (.tmp 15) (.tmp 80) rfl (v11.heap.size + 1) ((f0).map byteV).toArray (by rfl) (by rfl) 23 _ hH0 (size32.trans (by simp [hf32])) (by simp [hf32, zerosB]) (by simp [byteV, Value.oneCell']) ?_
        simp only [Act.put, List.setIfInBounds_toArray, List.set_cons_zero, List.set_cons_succ]
        clear hH0
        obtain ⟨g14, g14e⟩ : ∃ g14, g14 = v11.heap.size := ⟨_, rfl⟩
        rw [← g14e] at hG hH e13 ⊢
        generalize ((twoW v11).setRow g14 ((e0).map byteV).toArray).setRow (g14 + 1) ((f0).map byteV).toArray = v12 at *
        replace hX := Blk.below hX e13 (Blk.lt hX)
        replace hM := Blk.below hM e13 (Blk.lt hM)
        replace hL := Blk.below hL e13 (Blk.lt hL)
        replace hC := Blk.below hC e13 (Blk.lt hC)
        replace hD := Blk.below hD e13 (Blk.lt hD)
        replace hE := hE.trans e13
        replace c0 : v12.cell? ⟨w.heap.size, 0, none⟩ = some (.int .i64 m) := Blk.cell hM 0
        replace c1 : v12.cell? ⟨w.heap.size, 1, none⟩ = some (.int .i64 n) := Blk.cell hM 1
        replace c2 : v12.cell? ⟨w.heap.size + 1 + 1, 0, none⟩ = some (.slice Pa la.length ka) := Blk.cell hL 0
        replace c3 : v12.cell? ⟨w.heap.size + 1 + 1, 1, none⟩ = some (.slice Pb lb.length kb) := Blk.cell hL 1
        replace c4 : v12.cell? ⟨w.heap.size + 1 + 1, 2, none⟩ = some (.bool true) := Blk.cell hL 2
        replace hm0 : v12.rangeAt (w.heap.size + 1) 0 (hcells xa) := blk_mid hX hall 0 (by simp)
        replace hm1 : v12.rangeAt (w.heap.size + 1) 32 (hcells ya) := blk_mid hX hall 1 (by simp)
        replace hMl := Blk.lt hM
        replace hLl := Blk.lt hL
        replace hXl := Blk.lt hX
        clear e13
        clear g14e
        go_wp2_with (refine stop_load 23 (.tmp 87) rfl ?_)
        refine ⟨?_⟩
        change wpList _ _ _ _ _ (v12.alloc (.cells #[.string (bs []), .string (bs [])] 57))
        have hO := Blk.new v12 57 #[.string (bs []), .string (bs [])]
        have e17 : Ext v12 (v12.alloc (.cells #[.string (bs []), .string (bs [])] 57)) := (Ext.refl v12).alloc _
        obtain ⟨g16, g16e⟩ : ∃ g16, g16 = v12.heap.size := ⟨_, rfl⟩
        try rw [← v12z]
        try rw [← g16e]
        rw [← g16e] at hO
        have v15z : (v12.alloc (.cells #[.string (bs []), .string (bs [])] 57)).heap.size = g16 + 1 := by rw [alloc_size, ← g16e]
        have g16b : v12.heap.size ≤ g16 := by omega
        generalize v12.alloc (.cells #[.string (bs []), .string (bs [])] 57) = v15 at *
        clear g16e
        replace hX := Blk.below hX e17 (Blk.lt hX)
        replace hM := Blk.below hM e17 (Blk.lt hM)
        replace hL := Blk.below hL e17 (Blk.lt hL)
        replace hC := Blk.below hC e17 (Blk.lt hC)
        replace hD := Blk.below hD e17 (Blk.lt hD)
        replace hG := Blk.below hG e17 (Blk.lt hG)
        replace hH := Blk.below hH e17 (Blk.lt hH)
        replace hE := hE.trans e17
        replace c0 : v15.cell? ⟨w.heap.size, 0, none⟩ = some (.int .i64 m) := Blk.cell hM 0
        replace c1 : v15.cell? ⟨w.heap.size, 1, none⟩ = some (.int .i64 n) := Blk.cell hM 1
        replace c2 : v15.cell? ⟨w.heap.size + 1 + 1, 0, none⟩ = some (.slice Pa la.length ka) := Blk.cell hL 0
        replace c3 : v15.cell? ⟨w.heap.size + 1 + 1, 1, none⟩ = some (.slice Pb lb.length kb) := Blk.cell hL 1
        replace c4 : v15.cell? ⟨w.heap.size + 1 + 1, 2, none⟩ = some (.bool true) := Blk.cell hL 2
        replace hm0 : v15.rangeAt (w.heap.size + 1) 0 (hcells xa) := blk_mid hX hall 0 (by simp)
        replace hm1 : v15.rangeAt (w.heap.size + 1) 32 (hcells ya) := blk_mid hX hall 1 (by simp)
        replace hMl := Blk.lt hM
        replace hLl := Blk.lt hL
        replace hXl := Blk.lt hX
        clear e17
        have co0 : v15.cell? ⟨g16, 0, none⟩ = some (.string (bs [])) := Blk.cell hO 0
        have co1 : v15.cell? ⟨g16, 1, none⟩ = some (.string (bs [])) := Blk.cell hO 1
        have col := Blk.lt hO
        refine wpList_load_mid rfl 23 (.tmp 87) rfl (w.heap.size + 1) (0) (by rfl) (hcells xa) _ hm0 Tryd.underlying23 rfl (size32l _ hxa) ?_
        simp only [Act.put, List.setIfInBounds_toArray, List.set_cons_zero, List.set_cons_succ]
        unfold hcells
        go_wp2_with (refine stop_load 23 (.tmp 89) rfl ?_)
        refine ⟨?_⟩
        refine wpList_load_mid rfl 23 (.tmp 89) rfl (w.heap.size + 1) (32) (by rfl) (hcells ya) _ hm1 Tryd.underlying23 rfl (size32l _ hya) ?_
        simp only [Act.put, List.setIfInBounds_toArray, List.set_cons_zero, List.set_cons_succ]
        unfold hcells
        go_wp2_with fail
        change Calls _ _ #[_, _, sumV xa, sumV ya, _, _] _ _
        refine (Trees_calls m n hn.2 xa ya hxa hya _ _ A A hAa hAa (by rw [HXa.out]; omega) (by rw [HXa.out]; omega) _ (KW.ext hE) (HTa.out _ hE) (HTa.out _ hE)).mono ?_; rw [← HR.out, twC_none]; rintro e v19 ⟨rfl, e18⟩
        replace hX := Blk.below hX e18 (Blk.lt hX)
        replace hM := Blk.below hM e18 (Blk.lt hM)
        replace hL := Blk.below hL e18 (Blk.lt hL)
        replace hC := Blk.below hC e18 (Blk.lt hC)
        replace hD := Blk.below hD e18 (Blk.lt hD)
        replace hG := Blk.below hG e18 (Blk.lt hG)
        replace hH := Blk.below hH e18 (Blk.lt hH)
        replace hO := Blk.below hO e18 (Blk.lt hO)
        replace hE := hE.trans e18
        replace c0 : v19.cell? ⟨w.heap.size, 0, none⟩ = some (.int .i64 m) := Blk.cell hM 0
        replace c1 : v19.cell? ⟨w.heap.size, 1, none⟩ = some (.int .i64 n) := Blk.cell hM 1
        replace c2 : v19.cell? ⟨w.heap.size + 1 + 1, 0, none⟩ = some (.slice Pa la.length ka) := Blk.cell hL 0
        replace c3 : v19.cell? ⟨w.heap.size + 1 + 1, 1, none⟩ = some (.slice Pb lb.length kb) := Blk.cell hL 1
        replace c4 : v19.cell? ⟨w.heap.size + 1 + 1, 2, none⟩ = some (.bool true) := Blk.cell hL 2
        replace hm0 : v19.rangeAt (w.heap.size + 1) 0 (hcells xa) := blk_mid hX hall 0 (by simp)
        replace hm1 : v19.rangeAt (w.heap.size + 1) 32 (hcells ya) := blk_mid hX hall 1 (by simp)
        replace hMl := Blk.lt hM
        replace hLl := Blk.lt hL
        replace hXl := Blk.lt hX
        replace co0 : v19.cell? ⟨g16, 0, none⟩ = some (.string (bs [])) := Blk.cell hO 0
        replace co1 : v19.cell? ⟨g16, 1, none⟩ = some (.string (bs [])) := Blk.cell hO 1
        replace col := Blk.lt hO
        clear e18
        go_wp2_with (refine stop_load 23 (.tmp 12) rfl ?_)
        refine ⟨?_⟩
        change wpList _ _ _ _ _ (v19.alloc (.cells #[.string (bs []), .string (bs [])] 57))
        have hP := Blk.new v19 57 #[.string (bs []), .string (bs [])]
        have e22 : Ext v19 (v19.alloc (.cells #[.string (bs []), .string (bs [])] 57)) := (Ext.refl v19).alloc _
        obtain ⟨g21, g21e⟩ : ∃ g21, g21 = v19.heap.size := ⟨_, rfl⟩
        try rw [← v19z]
        try rw [← g21e]
        rw [← g21e] at hP
        have v20z : (v19.alloc (.cells #[.string (bs []), .string (bs [])] 57)).heap.size = g21 + 1 := by rw [alloc_size, ← g21e]
        have g21b : v19.heap.size ≤ g21 := by omega
        generalize v19.alloc (.cells #[.string (bs []), .string (bs [])] 57) = v20 at *
        clear g21e
        replace hX := Blk.below hX e22 (Blk.lt hX)
        replace hM := Blk.below hM e22 (Blk.lt hM)
        replace hL := Blk.below hL e22 (Blk.lt hL)
        replace hC := Blk.below hC e22 (Blk.lt hC)
        replace hD := Blk.below hD e22 (Blk.lt hD)
        replace hG := Blk.below hG e22 (Blk.lt hG)
        replace hH := Blk.below hH e22 (Blk.lt hH)
        replace hO := Blk.below hO e22 (Blk.lt hO)
        replace hE := hE.trans e22
        replace c0 : v20.cell? ⟨w.heap.size, 0, none⟩ = some (.int .i64 m) := Blk.cell hM 0
        replace c1 : v20.cell? ⟨w.heap.size, 1, none⟩ = some (.int .i64 n) := Blk.cell hM 1
        replace c2 : v20.cell? ⟨w.heap.size + 1 + 1, 0, none⟩ = some (.slice Pa la.length ka) := Blk.cell hL 0
        replace c3 : v20.cell? ⟨w.heap.size + 1 + 1, 1, none⟩ = some (.slice Pb lb.length kb) := Blk.cell hL 1
        replace c4 : v20.cell? ⟨w.heap.size + 1 + 1, 2, none⟩ = some (.bool true) := Blk.cell hL 2
        replace hm0 : v20.rangeAt (w.heap.size + 1) 0 (hcells xa) := blk_mid hX hall 0 (by simp)
        replace hm1 : v20.rangeAt (w.heap.size + 1) 32 (hcells ya) := blk_mid hX hall 1 (by simp)
        replace hMl := Blk.lt hM
        replace hLl := Blk.lt hL
        replace hXl := Blk.lt hX
        replace co0 : v20.cell? ⟨g16, 0, none⟩ = some (.string (bs [])) := Blk.cell hO 0
        replace co1 : v20.cell? ⟨g16, 1, none⟩ = some (.string (bs [])) := Blk.cell hO 1
        replace col := Blk.lt hO
        clear e22
        have cp0 : v20.cell? ⟨g21, 0, none⟩ = some (.string (bs [])) := Blk.cell hP 0
        have cp1 : v20.cell? ⟨g21, 1, none⟩ = some (.string (bs [])) := Blk.cell hP 1
        have cpl := Blk.lt hP
        refine list_want (by rfl) (fun K hK => ?_)
        refine wp_load_row 23 (.tmp 12) rfl (g9 + 1) (by rfl) 23 _ (0, 0) _ hD Tryd.underlying23 rfl (size32.trans (by simp [hd32])) ?_
        refine hK _ _ ?_; clear hK K
        simp only [Act.put, List.setIfInBounds_toArray, List.set_cons_zero, List.set_cons_succ]
        go_wp2_with (refine stop_load 23 (.tmp 15) rfl ?_)
        refine ⟨?_⟩
        refine list_want (by rfl) (fun K hK => ?_)
        refine wp_load_row 23 (.tmp 15) rfl (g14 + 1) (by rfl) 23 _ (0, 0) _ hH Tryd.underlying23 rfl (size32.trans (by simp [hf32])) ?_
        refine hK _ _ ?_; clear hK K
        simp only [Act.put, List.setIfInBounds_toArray, List.set_cons_zero, List.set_cons_succ]
        go_wp2_with (refine stop_load 23 (.tmp 11) rfl ?_)
        refine ⟨?_⟩
        refine list_want (by rfl) (fun K hK => ?_)
        refine wp_load_row 23 (.tmp 11) rfl g9 (by rfl) 23 _ (0, 0) _ hC Tryd.underlying23 rfl (size32.trans (by simp [hc32])) ?_
        refine hK _ _ ?_; clear hK K
        simp only [Act.put, List.setIfInBounds_toArray, List.set_cons_zero, List.set_cons_succ]
        go_wp2_with (refine stop_load 23 (.tmp 14) rfl ?_)
        refine ⟨?_⟩
        refine list_want (by rfl) (fun K hK => ?_)
        refine wp_load_row 23 (.tmp 14) rfl g14 (by rfl) 23 _ (0, 0) _ hG Tryd.underlying23 rfl (size32.trans (by simp [he32])) ?_
        refine hK _ _ ?_; clear hK K
        simp only [Act.put, List.setIfInBounds_toArray, List.set_cons_zero, List.set_cons_succ]
        go_wp2_with fail
        go_ret
        exact ⟨rfl, hE⟩
      · have dd : decide (d = f0) = false := decide_eq_false hdf
        rw [dd] at heqd
        clear dd htl hdf
        go_wp2_with (refine stop_load 23 (.tmp 59) rfl ?_)
        refine ⟨?_⟩
        refine wpList_load_mid rfl 23 (.tmp 59) rfl (w.heap.size + 1) (0) (by rfl) (hcells xa) _ hm0 Tryd.underlying23 rfl (size32l _ hxa) ?_
        simp only [Act.put, List.setIfInBounds_toArray, List.set_cons_zero, List.set_cons_succ]
        unfold hcells
        go_wp2_with fail
        change Calls _ _ #[sumV xa, _, _, _] _ _
        refine (refBoth_sls xa hxa m n _ A hAa (by rw [HXa.out]; omega) _ (HTa.out _ hE)).mono ?_; rw [← HP.out]; rintro e v6 ⟨rfl, e5⟩
        replace hX := Blk.below hX e5 (Blk.lt hX)
        replace hM := Blk.below hM e5 (Blk.lt hM)
        replace hL := Blk.below hL e5 (Blk.lt hL)
        replace hE := hE.trans e5
        replace c0 : v6.cell? ⟨w.heap.size, 0, none⟩ = some (.int .i64 m) := Blk.cell hM 0
        replace c1 : v6.cell? ⟨w.heap.size, 1, none⟩ = some (.int .i64 n) := Blk.cell hM 1
        replace c2 : v6.cell? ⟨w.heap.size + 1 + 1, 0, none⟩ = some (.slice Pa la.length ka) := Blk.cell hL 0
        replace c3 : v6.cell? ⟨w.heap.size + 1 + 1, 1, none⟩ = some (.slice Pb lb.length kb) := Blk.cell hL 1
        replace c4 : v6.cell? ⟨w.heap.size + 1 + 1, 2, none⟩ = some (.bool true) := Blk.cell hL 2
        replace hm0 : v6.rangeAt (w.heap.size + 1) 0 (hcells xa) := blk_mid hX hall 0 (by simp)
        replace hm1 : v6.rangeAt (w.heap.size + 1) 32 (hcells ya) := blk_mid hX hall 1 (by simp)
        replace hMl := Blk.lt hM
        replace hLl := Blk.lt hL
        replace hXl := Blk.lt hX
        clear e5
        unfold sumV
        go_wp2_with (refine stop_store 23 (.tmp 11) (.tmp 67) rfl ?_)
        refine ⟨?_⟩
        change wpList _ _ _ _ _ (twoW v6)
        refine wpList_store_row rfl 23 (.tmp 11) (.tmp 67) rfl v6.heap.size ((c).map byteV).toArray (by rfl) (by rfl) 23 _ (twoW_facts v6).1 (size32.trans (by simp [hc32])) (by simp [hc32, zerosB]) (by simp [byteV, Value.oneCell']) ?_
        simp only [Act.put, List.setIfInBounds_toArray, List.set_cons_zero, List.set_cons_succ]
        obtain ⟨hC, hD0, hD, e8⟩ := two_rows v6 c d
        go_wp2_with (refine stop_store 23 (.tmp 12) (.tmp 68) rfl ?_)
        refine ⟨?_⟩
        refine wpList_store_row rfl 23 (.tmp 12) (.tmp 68) rfl (v6.heap.size + 1) ((d).map byteV).toArray (by rfl) (by rfl) 23 _ hD0 (size32.trans (by simp [hd32])) (by simp [hd32, zerosB]) (by simp [byteV, Value.oneCell']) ?_
        simp only [Act.put, List.setIfInBounds_toArray, List.set_cons_zero, List.set_cons_succ]
        clear hD0
        obtain ⟨g9, g9e⟩ : ∃ g9, g9 = v6.heap.size := ⟨_, rfl⟩
        rw [← g9e] at hC hD e8 ⊢
        generalize ((twoW v6).setRow g9 ((c).map byteV).toArray).setRow (g9 + 1) ((d).map byteV).toArray = v7 at *
        replace hX := Blk.below hX e8 (Blk.lt hX)
        replace hM := Blk.below hM e8 (Blk.lt hM)
        replace hL := Blk.below hL e8 (Blk.lt hL)
        replace hE := hE.trans e8
        replace c0 : v7.cell? ⟨w.heap.size, 0, none⟩ = some (.int .i64 m) := Blk.cell hM 0
        replace c1 : v7.cell? ⟨w.heap.size, 1, none⟩ = some (.int .i64 n) := Blk.cell hM 1
        replace c2 : v7.cell? ⟨w.heap.size + 1 + 1, 0, none⟩ = some (.slice Pa la.length ka) := Blk.cell hL 0
        replace c3 : v7.cell? ⟨w.heap.size + 1 + 1, 1, none⟩ = some (.slice Pb lb.length kb) := Blk.cell hL 1
        replace c4 : v7.cell? ⟨w.heap.size + 1 + 1, 2, none⟩ = some (.bool true) := Blk.cell hL 2
        replace hm0 : v7.rangeAt (w.heap.size + 1) 0 (hcells xa) := blk_mid hX hall 0 (by simp)
        replace hm1 : v7.rangeAt (w.heap.size + 1) 32 (hcells ya) := blk_mid hX hall 1 (by simp)
        replace hMl := Blk.lt hM
        replace hLl := Blk.lt hL
        replace hXl := Blk.lt hX
        clear e8
        clear g9e
        go_wp2_with (refine stop_load 23 (.tmp 71) rfl ?_)
        refine ⟨?_⟩
        refine wpList_load_mid rfl 23 (.tmp 71) rfl (w.heap.size + 1) (32) (by rfl) (hcells ya) _ hm1 Tryd.underlying23 rfl (size32l _ hya) ?_
        simp only [Act.put, List.setIfInBounds_toArray, List.set_cons_zero, List.set_cons_succ]
        unfold hcells
        go_wp2_with fail
        change Calls _ _ #[sumV ya, _, _, _] _ _
        refine (refBoth_sls ya hya m n _ A hAa (by rw [HXa.out]; omega) _ (HTa.out _ hE)).mono ?_; rw [← HQ.out]; rintro e v11 ⟨rfl, e10⟩
        replace hX := Blk.below hX e10 (Blk.lt hX)
        replace hM := Blk.below hM e10 (Blk.lt hM)
        replace hL := Blk.below hL e10 (Blk.lt hL)
        replace hC := Blk.below hC e10 (Blk.lt hC)
        replace hD := Blk.below hD e10 (Blk.lt hD)
        replace hE := hE.trans e10
        replace c0 : v11.cell? ⟨w.heap.size, 0, none⟩ = some (.int .i64 m) := Blk.cell hM 0
        replace c1 : v11.cell? ⟨w.heap.size, 1, none⟩ = some (.int .i64 n) := Blk.cell hM 1
        replace c2 : v11.cell? ⟨w.heap.size + 1 + 1, 0, none⟩ = some (.slice Pa la.length ka) := Blk.cell hL 0
        replace c3 : v11.cell? ⟨w.heap.size + 1 + 1, 1, none⟩ = some (.slice Pb lb.length kb) := Blk.cell hL 1
        replace c4 : v11.cell? ⟨w.heap.size + 1 + 1, 2, none⟩ = some (.bool true) := Blk.cell hL 2
        replace hm0 : v11.rangeAt (w.heap.size + 1) 0 (hcells xa) := blk_mid hX hall 0 (by simp)
        replace hm1 : v11.rangeAt (w.heap.size + 1) 32 (hcells ya) := blk_mid hX hall 1 (by simp)
        replace hMl := Blk.lt hM
        replace hLl := Blk.lt hL
        replace hXl := Blk.lt hX
        clear e10
        unfold sumV
        go_wp2_with (refine stop_store 23 (.tmp 14) (.tmp 79) rfl ?_)
        refine ⟨?_⟩
        change wpList _ _ _ _ _ (twoW v11)
        refine wpList_store_row rfl 23 (.tmp 14) (.tmp 79) rfl v11.heap.size ((e0).map byteV).toArray (by rfl) (by rfl) 23 _ (twoW_facts v11).1 (size32.trans (by simp [he32])) (by simp [he32, zerosB]) (by simp [byteV, Value.oneCell']) ?_
        simp only [Act.put, List.setIfInBounds_toArray, List.set_cons_zero, List.set_cons_succ]
        obtain ⟨hG, hH0, hH, e13⟩ := two_rows v11 e0 f0
        go_wp2_with (refine stop_store 23 (.tmp 15) (.tmp 80) rfl ?_)
        refine ⟨?_⟩
        refine wpList_store_row rfl 23 (.tmp 15) (.tmp 80) rfl (v11.heap.size + 1) ((f0).map byteV).toArray (by rfl) (by rfl) 23 _ hH0 (size32.trans (by simp [hf32])) (by simp [hf32, zerosB]) (by simp [byteV, Value.oneCell']) ?_
        simp only [Act.put, List.setIfInBounds_toArray, List.set_cons_zero, List.set_cons_succ]
        clear hH0
        obtain ⟨g14, g14e⟩ : ∃ g14, g14 = v11.heap.size := ⟨_, rfl⟩
        rw [← g14e] at hG hH e13 ⊢
        generalize ((twoW v11).setRow g14 ((e0).map byteV).toArray).setRow (g14 + 1) ((f0).map byteV).toArray = v12 at *
        replace hX := Blk.below hX e13 (Blk.lt hX)
        replace hM := Blk.below hM e13 (Blk.lt hM)
        replace hL := Blk.below hL e13 (Blk.lt hL)
        replace hC := Blk.below hC e13 (Blk.lt hC)
        replace hD := Blk.below hD e13 (Blk.lt hD)
        replace hE := hE.trans e13
        replace c0 : v12.cell? ⟨w.heap.size, 0, none⟩ = some (.int .i64 m) := Blk.cell hM 0
        replace c1 : v12.cell? ⟨w.heap.size, 1, none⟩ = some (.int .i64 n) := Blk.cell hM 1
        replace c2 : v12.cell? ⟨w.heap.size + 1 + 1, 0, none⟩ = some (.slice Pa la.length ka) := Blk.cell hL 0
        replace c3 : v12.cell? ⟨w.heap.size + 1 + 1, 1, none⟩ = some (.slice Pb lb.length kb) := Blk.cell hL 1
        replace c4 : v12.cell? ⟨w.heap.size + 1 + 1, 2, none⟩ = some (.bool true) := Blk.cell hL 2
        replace hm0 : v12.rangeAt (w.heap.size + 1) 0 (hcells xa) := blk_mid hX hall 0 (by simp)
        replace hm1 : v12.rangeAt (w.heap.size + 1) 32 (hcells ya) := blk_mid hX hall 1 (by simp)
        replace hMl := Blk.lt hM
        replace hLl := Blk.lt hL
        replace hXl := Blk.lt hX
        clear e13
        clear g14e
        go_wp2_with (refine stop_load 23 (.tmp 87) rfl ?_)
        refine ⟨?_⟩
        change wpList _ _ _ _ _ (v12.alloc (.cells #[.string (bs []), .string (bs [])] 57))
        have hO := Blk.new v12 57 #[.string (bs []), .string (bs [])]
        have e17 : Ext v12 (v12.alloc (.cells #[.string (bs []), .string (bs [])] 57)) := (Ext.refl v12).alloc _
        obtain ⟨g16, g16e⟩ : ∃ g16, g16 = v12.heap.size := ⟨_, rfl⟩
        try rw [← v12z]
        try rw [← g16e]
        rw [← g16e] at hO
        have v15z : (v12.alloc (.cells #[.string (bs []), .string (bs [])] 57)).heap.size = g16 + 1 := by rw [alloc_size, ← g16e]
        have g16b : v12.heap.size ≤ g16 := by omega
        generalize v12.alloc (.cells #[.string (bs []), .string (bs [])] 57) = v15 at *
        clear g16e
        replace hX := Blk.below hX e17 (Blk.lt hX)
        replace hM := Blk.below hM e17 (Blk.lt hM)
        replace hL := Blk.below hL e17 (Blk.lt hL)
        replace hC := Blk.below hC e17 (Blk.lt hC)
        replace hD := Blk.below hD e17 (Blk.lt hD)
        replace hG := Blk.below hG e17 (Blk.lt hG)
        replace hH := Blk.below hH e17 (Blk.lt hH)
        replace hE := hE.trans e17
        replace c0 : v15.cell? ⟨w.heap.size, 0, none⟩ = some (.int .i64 m) := Blk.cell hM 0
        replace c1 : v15.cell? ⟨w.heap.size, 1, none⟩ = some (.int .i64 n) := Blk.cell hM 1
        replace c2 : v15.cell? ⟨w.heap.size + 1 + 1, 0, none⟩ = some (.slice Pa la.length ka) := Blk.cell hL 0
        replace c3 : v15.cell? ⟨w.heap.size + 1 + 1, 1, none⟩ = some (.slice Pb lb.length kb) := Blk.cell hL 1
        replace c4 : v15.cell? ⟨w.heap.size + 1 + 1, 2, none⟩ = some (.bool true) := Blk.cell hL 2
        replace hm0 : v15.rangeAt (w.heap.size + 1) 0 (hcells xa) := blk_mid hX hall 0 (by simp)
        replace hm1 : v15.rangeAt (w.heap.size + 1) 32 (hcells ya) := blk_mid hX hall 1 (by simp)
        replace hMl := Blk.lt hM
        replace hLl := Blk.lt hL
        replace hXl := Blk.lt hX
        clear e17
        have co0 : v15.cell? ⟨g16, 0, none⟩ = some (.string (bs [])) := Blk.cell hO 0
        have co1 : v15.cell? ⟨g16, 1, none⟩ = some (.string (bs [])) := Blk.cell hO 1
        have col := Blk.lt hO
        refine wpList_load_mid rfl 23 (.tmp 87) rfl (w.heap.size + 1) (0) (by rfl) (hcells xa) _ hm0 Tryd.underlying23 rfl (size32l _ hxa) ?_
        simp only [Act.put, List.setIfInBounds_toArray, List.set_cons_zero, List.set_cons_succ]
        unfold hcells
        go_wp2_with (refine stop_load 23 (.tmp 89) rfl ?_)
        refine ⟨?_⟩
        refine wpList_load_mid rfl 23 (.tmp 89) rfl (w.heap.size + 1) (32) (by rfl) (hcells ya) _ hm1 Tryd.underlying23 rfl (size32l _ hya) ?_
        simp only [Act.put, List.setIfInBounds_toArray, List.set_cons_zero, List.set_cons_succ]
        unfold hcells
        go_wp2_with fail
        change Calls _ _ #[_, _, sumV xa, sumV ya, _, _] _ _
        refine (Trees_calls m n hn.2 xa ya hxa hya _ _ A A hAa hAa (by rw [HXa.out]; omega) (by rw [HXa.out]; omega) _ (KW.ext hE) (HTa.out _ hE) (HTa.out _ hE)).mono ?_; rw [← HR.out, twC_none]; rintro e v19 ⟨rfl, e18⟩
        replace hX := Blk.below hX e18 (Blk.lt hX)
        replace hM := Blk.below hM e18 (Blk.lt hM)
        replace hL := Blk.below hL e18 (Blk.lt hL)
        replace hC := Blk.below hC e18 (Blk.lt hC)
        replace hD := Blk.below hD e18 (Blk.lt hD)
        replace hG := Blk.below hG e18 (Blk.lt hG)
        replace hH := Blk.below hH e18 (Blk.lt hH)
        replace hO := Blk.below hO e18 (Blk.lt hO)
        replace hE := hE.trans e18
        replace c0 : v19.cell? ⟨w.heap.size, 0, none⟩ = some (.int .i64 m) := Blk.cell hM 0
        replace c1 : v19.cell? ⟨w.heap.size, 1, none⟩ = some (.int .i64 n) := Blk.cell hM 1
        replace c2 : v19.cell? ⟨w.heap.size + 1 + 1, 0, none⟩ = some (.slice Pa la.length ka) := Blk.cell hL 0
        replace c3 : v19.cell? ⟨w.heap.size + 1 + 1, 1, none⟩ = some (.slice Pb lb.length kb) := Blk.cell hL 1
        replace c4 : v19.cell? ⟨w.heap.size + 1 + 1, 2, none⟩ = some (.bool true) := Blk.cell hL 2
        replace hm0 : v19.rangeAt (w.heap.size + 1) 0 (hcells xa) := blk_mid hX hall 0 (by simp)
        replace hm1 : v19.rangeAt (w.heap.size + 1) 32 (hcells ya) := blk_mid hX hall 1 (by simp)
        replace hMl := Blk.lt hM
        replace hLl := Blk.lt hL
        replace hXl := Blk.lt hX
        replace co0 : v19.cell? ⟨g16, 0, none⟩ = some (.string (bs [])) := Blk.cell hO 0
        replace co1 : v19.cell? ⟨g16, 1, none⟩ = some (.string (bs [])) := Blk.cell hO 1
        replace col := Blk.lt hO
        clear e18
        go_wp2_with (refine stop_load 23 (.tmp 12) rfl ?_)
        refine ⟨?_⟩
        change wpList _ _ _ _ _ (v19.alloc (.cells #[.string (bs []), .string (bs [])] 57))
        have hP := Blk.new v19 57 #[.string (bs []), .string (bs [])]
        have e22 : Ext v19 (v19.alloc (.cells #[.string (bs []), .string (bs [])] 57)) := (Ext.refl v19).alloc _
        obtain ⟨g21, g21e⟩ : ∃ g21, g21 = v19.heap.size := ⟨_, rfl⟩
        try rw [← v19z]
        try rw [← g21e]
        rw [← g21e] at hP
        have v20z : (v19.alloc (.cells #[.string (bs []), .string (bs [])] 57)).heap.size = g21 + 1 := by rw [alloc_size, ← g21e]
        have g21b : v19.heap.size ≤ g21 := by omega
        generalize v19.alloc (.cells #[.string (bs []), .string (bs [])] 57) = v20 at *
        clear g21e
        replace hX := Blk.below hX e22 (Blk.lt hX)
        replace hM := Blk.below hM e22 (Blk.lt hM)
        replace hL := Blk.below hL e22 (Blk.lt hL)
        replace hC := Blk.below hC e22 (Blk.lt hC)
        replace hD := Blk.below hD e22 (Blk.lt hD)
        replace hG := Blk.below hG e22 (Blk.lt hG)
        replace hH := Blk.below hH e22 (Blk.lt hH)
        replace hO := Blk.below hO e22 (Blk.lt hO)
        replace hE := hE.trans e22
        replace c0 : v20.cell? ⟨w.heap.size, 0, none⟩ = some (.int .i64 m) := Blk.cell hM 0
        replace c1 : v20.cell? ⟨w.heap.size, 1, none⟩ = some (.int .i64 n) := Blk.cell hM 1
        replace c2 : v20.cell? ⟨w.heap.size + 1 + 1, 0, none⟩ = some (.slice Pa la.length ka) := Blk.cell hL 0
        replace c3 : v20.cell? ⟨w.heap.size + 1 + 1, 1, none⟩ = some (.slice Pb lb.length kb) := Blk.cell hL 1
        replace c4 : v20.cell? ⟨w.heap.size + 1 + 1, 2, none⟩ = some (.bool true) := Blk.cell hL 2
        replace hm0 : v20.rangeAt (w.heap.size + 1) 0 (hcells xa) := blk_mid hX hall 0 (by simp)
        replace hm1 : v20.rangeAt (w.heap.size + 1) 32 (hcells ya) := blk_mid hX hall 1 (by simp)
        replace hMl := Blk.lt hM
        replace hLl := Blk.lt hL
        replace hXl := Blk.lt hX
        replace co0 : v20.cell? ⟨g16, 0, none⟩ = some (.string (bs [])) := Blk.cell hO 0
        replace co1 : v20.cell? ⟨g16, 1, none⟩ = some (.string (bs [])) := Blk.cell hO 1
        replace col := Blk.lt hO
        clear e22
        have cp0 : v20.cell? ⟨g21, 0, none⟩ = some (.string (bs [])) := Blk.cell hP 0
        have cp1 : v20.cell? ⟨g21, 1, none⟩ = some (.string (bs [])) := Blk.cell hP 1
        have cpl := Blk.lt hP
        refine list_want (by rfl) (fun K hK => ?_)
        refine wp_load_row 23 (.tmp 12) rfl (g9 + 1) (by rfl) 23 _ (0, 0) _ hD Tryd.underlying23 rfl (size32.trans (by simp [hd32])) ?_
        refine hK _ _ ?_; clear hK K
        simp only [Act.put, List.setIfInBounds_toArray, List.set_cons_zero, List.set_cons_succ]
        go_wp2_with (refine stop_load 23 (.tmp 15) rfl ?_)
        refine ⟨?_⟩
        refine list_want (by rfl) (fun K hK => ?_)
        refine wp_load_row 23 (.tmp 15) rfl (g14 + 1) (by rfl) 23 _ (0, 0) _ hH Tryd.underlying23 rfl (size32.trans (by simp [hf32])) ?_
        refine hK _ _ ?_; clear hK K
        simp only [Act.put, List.setIfInBounds_toArray, List.set_cons_zero, List.set_cons_succ]
        go_wp2_with fail
        go_ret
        exact ⟨rfl, hE⟩
    · rename_i pq
      obtain ⟨pp, qq⟩ := pq
      have hpp := htl.1 pp qq rfl
      clear htl
      go_wp2_with (refine stop_load 23 (.tmp 59) rfl ?_)
      refine ⟨?_⟩
      refine wpList_load_mid rfl 23 (.tmp 59) rfl (w.heap.size + 1) (0) (by rfl) (hcells xa) _ hm0 Tryd.underlying23 rfl (size32l _ hxa) ?_
      simp only [Act.put, List.setIfInBounds_toArray, List.set_cons_zero, List.set_cons_succ]
      unfold hcells
      go_wp2_with fail
      change Calls _ _ #[sumV xa, _, _, _] _ _
      refine (refBoth_sls xa hxa m n _ A hAa (by rw [HXa.out]; omega) _ (HTa.out _ hE)).mono ?_; rw [← HP.out]; rintro e v6 ⟨rfl, e5⟩
      replace hX := Blk.below hX e5 (Blk.lt hX)
      replace hM := Blk.below hM e5 (Blk.lt hM)
      replace hL := Blk.below hL e5 (Blk.lt hL)
      replace hE := hE.trans e5
      replace c0 : v6.cell? ⟨w.heap.size, 0, none⟩ = some (.int .i64 m) := Blk.cell hM 0
      replace c1 : v6.cell? ⟨w.heap.size, 1, none⟩ = some (.int .i64 n) := Blk.cell hM 1
      replace c2 : v6.cell? ⟨w.heap.size + 1 + 1, 0, none⟩ = some (.slice Pa la.length ka) := Blk.cell hL 0
      replace c3 : v6.cell? ⟨w.heap.size + 1 + 1, 1, none⟩ = some (.slice Pb lb.length kb) := Blk.cell hL 1
      replace c4 : v6.cell? ⟨w.heap.size + 1 + 1, 2, none⟩ = some (.bool true) := Blk.cell hL 2
      replace hm0 : v6.rangeAt (w.heap.size + 1) 0 (hcells xa) := blk_mid hX hall 0 (by simp)
      replace hm1 : v6.rangeAt (w.heap.size + 1) 32 (hcells ya) := blk_mid hX hall 1 (by simp)
      replace hMl := Blk.lt hM
      replace hLl := Blk.lt hL
      replace hXl := Blk.lt hX
      clear e5
      unfold sumV
      go_wp2_with (refine stop_store 23 (.tmp 11) (.tmp 67) rfl ?_)
      refine ⟨?_⟩
      change wpList _ _ _ _ _ (twoW v6)
      refine wpList_store_row rfl 23 (.tmp 11) (.tmp 67) rfl v6.heap.size ((c).map byteV).toArray (by rfl) (by rfl) 23 _ (twoW_facts v6).1 (size32.trans (by simp [hc32])) (by simp [hc32, zerosB]) (by simp [byteV, Value.oneCell']) ?_
      simp only [Act.put, List.setIfInBounds_toArray, List.set_cons_zero, List.set_cons_succ]
      obtain ⟨hC, hD0, hD, e8⟩ := two_rows v6 c d
      go_wp2_with (refine stop_store 23 (.tmp 12) (.tmp 68) rfl ?_)
      refine ⟨?_⟩
      refine wpList_store_row rfl 23 (.tmp 12) (.tmp 68) rfl (v6.heap.size + 1) ((d).map byteV).toArray (by rfl) (by rfl) 23 _ hD0 (size32.trans (by simp [hd32])) (by simp [hd32, zerosB]) (by simp [byteV, Value.oneCell']) ?_
      simp only [Act.put, List.setIfInBounds_toArray, List.set_cons_zero, List.set_cons_succ]
      clear hD0
      obtain ⟨g9, g9e⟩ : ∃ g9, g9 = v6.heap.size := ⟨_, rfl⟩
      rw [← g9e] at hC hD e8 ⊢
      generalize ((twoW v6).setRow g9 ((c).map byteV).toArray).setRow (g9 + 1) ((d).map byteV).toArray = v7 at *
      replace hX := Blk.below hX e8 (Blk.lt hX)
      replace hM := Blk.below hM e8 (Blk.lt hM)
      replace hL := Blk.below hL e8 (Blk.lt hL)
      replace hE := hE.trans e8
      replace c0 : v7.cell? ⟨w.heap.size, 0, none⟩ = some (.int .i64 m) := Blk.cell hM 0
      replace c1 : v7.cell? ⟨w.heap.size, 1, none⟩ = some (.int .i64 n) := Blk.cell hM 1
      replace c2 : v7.cell? ⟨w.heap.size + 1 + 1, 0, none⟩ = some (.slice Pa la.length ka) := Blk.cell hL 0
      replace c3 : v7.cell? ⟨w.heap.size + 1 + 1, 1, none⟩ = some (.slice Pb lb.length kb) := Blk.cell hL 1
      replace c4 : v7.cell? ⟨w.heap.size + 1 + 1, 2, none⟩ = some (.bool true) := Blk.cell hL 2
      replace hm0 : v7.rangeAt (w.heap.size + 1) 0 (hcells xa) := blk_mid hX hall 0 (by simp)
      replace hm1 : v7.rangeAt (w.heap.size + 1) 32 (hcells ya) := blk_mid hX hall 1 (by simp)
      replace hMl := Blk.lt hM
      replace hLl := Blk.lt hL
      replace hXl := Blk.lt hX
      clear e8
      clear g9e
      go_wp2_with (refine stop_load 23 (.tmp 71) rfl ?_)
      refine ⟨?_⟩
      refine wpList_load_mid rfl 23 (.tmp 71) rfl (w.heap.size + 1) (32) (by rfl) (hcells ya) _ hm1 Tryd.underlying23 rfl (size32l _ hya) ?_
      simp only [Act.put, List.setIfInBounds_toArray, List.set_cons_zero, List.set_cons_succ]
      unfold hcells
      go_wp2_with fail
      change Calls _ _ #[sumV ya, _, _, _] _ _
      refine (refBoth_sls ya hya m n _ A hAa (by rw [HXa.out]; omega) _ (HTa.out _ hE)).mono ?_; rw [← HQ.out]; rintro e v11 ⟨rfl, e10⟩
      replace hX := Blk.below hX e10 (Blk.lt hX)
      replace hM := Blk.below hM e10 (Blk.lt hM)
      replace hL := Blk.below hL e10 (Blk.lt hL)
      replace hC := Blk.below hC e10 (Blk.lt hC)
      replace hD := Blk.below hD e10 (Blk.lt hD)
      replace hE := hE.trans e10
      replace c0 : v11.cell? ⟨w.heap.size, 0, none⟩ = some (.int .i64 m) := Blk.cell hM 0
      replace c1 : v11.cell? ⟨w.heap.size, 1, none⟩ = some (.int .i64 n) := Blk.cell hM 1
      replace c2 : v11.cell? ⟨w.heap.size + 1 + 1, 0, none⟩ = some (.slice Pa la.length ka) := Blk.cell hL 0
      replace c3 : v11.cell? ⟨w.heap.size + 1 + 1, 1, none⟩ = some (.slice Pb lb.length kb) := Blk.cell hL 1
      replace c4 : v11.cell? ⟨w.heap.size + 1 + 1, 2, none⟩ = some (.bool true) := Blk.cell hL 2
      replace hm0 : v11.rangeAt (w.heap.size + 1) 0 (hcells xa) := blk_mid hX hall 0 (by simp)
      replace hm1 : v11.rangeAt (w.heap.size + 1) 32 (hcells ya) := blk_mid hX hall 1 (by simp)
      replace hMl := Blk.lt hM
      replace hLl := Blk.lt hL
      replace hXl := Blk.lt hX
      clear e10
      unfold sumV
      go_wp2_with (refine stop_store 23 (.tmp 14) (.tmp 79) rfl ?_)
      refine ⟨?_⟩
      change wpList _ _ _ _ _ (twoW v11)
      refine wpList_store_row rfl 23 (.tmp 14) (.tmp 79) rfl v11.heap.size ((e0).map byteV).toArray (by rfl) (by rfl) 23 _ (twoW_facts v11).1 (size32.trans (by simp [he32])) (by simp [he32, zerosB]) (by simp [byteV, Value.oneCell']) ?_
      simp only [Act.put, List.setIfInBounds_toArray, List.set_cons_zero, List.set_cons_succ]
      obtain ⟨hG, hH0, hH, e13⟩ := two_rows v11 e0 f0
      go_wp2_with (refine stop_store 23 (.tmp 15) (.tmp 80) rfl ?_)
      refine ⟨?_⟩
      refine wpList_store_row rfl 23 (.tmp 15) (.tmp 80) rfl (v11.heap.size + 1) ((f0).map byteV).toArray (by rfl) (by rfl) 23 _ hH0 (size32.trans (by simp [hf32])) (by simp [hf32, zerosB]) (by simp [byteV, Value.oneCell']) ?_
      simp only [Act.put, List.setIfInBounds_toArray, List.set_cons_zero, List.set_cons_succ]
      clear hH0
      obtain ⟨g14, g14e⟩ : ∃ g14, g14 = v11.heap.size := ⟨_, rfl⟩
      rw [← g14e] at hG hH e13 ⊢
      generalize ((twoW v11).setRow g14 ((e0).map byteV).toArray).setRow (g14 + 1) ((f0).map byteV).toArray = v12 at *
      replace hX := Blk.below hX e13 (Blk.lt hX)
      replace hM := Blk.below hM e13 (Blk.lt hM)
      replace hL := Blk.below hL e13 (Blk.lt hL)
      replace hC := Blk.below hC e13 (Blk.lt hC)
      replace hD := Blk.below hD e13 (Blk.lt hD)
      replace hE := hE.trans e13
      replace c0 : v12.cell? ⟨w.heap.size, 0, none⟩ = some (.int .i64 m) := Blk.cell hM 0
      replace c1 : v12.cell? ⟨w.heap.size, 1, none⟩ = some (.int .i64 n) := Blk.cell hM 1
      replace c2 : v12.cell? ⟨w.heap.size + 1 + 1, 0, none⟩ = some (.slice Pa la.length ka) := Blk.cell hL 0
      replace c3 : v12.cell? ⟨w.heap.size + 1 + 1, 1, none⟩ = some (.slice Pb lb.length kb) := Blk.cell hL 1
      replace c4 : v12.cell? ⟨w.heap.size + 1 + 1, 2, none⟩ = some (.bool true) := Blk.cell hL 2
      replace hm0 : v12.rangeAt (w.heap.size + 1) 0 (hcells xa) := blk_mid hX hall 0 (by simp)
      replace hm1 : v12.rangeAt (w.heap.size + 1) 32 (hcells ya) := blk_mid hX hall 1 (by simp)
      replace hMl := Blk.lt hM
      replace hLl := Blk.lt hL
      replace hXl := Blk.lt hX
      clear e13
      clear g14e
      go_wp2_with (refine stop_load 23 (.tmp 87) rfl ?_)
      refine ⟨?_⟩
      change wpList _ _ _ _ _ (v12.alloc (.cells #[.string (bs []), .string (bs [])] 57))
      have hO := Blk.new v12 57 #[.string (bs []), .string (bs [])]
      have e17 : Ext v12 (v12.alloc (.cells #[.string (bs []), .string (bs [])] 57)) := (Ext.refl v12).alloc _
      obtain ⟨g16, g16e⟩ : ∃ g16, g16 = v12.heap.size := ⟨_, rfl⟩
      try rw [← v12z]
      try rw [← g16e]
      rw [← g16e] at hO
      have v15z : (v12.alloc (.cells #[.string (bs []), .string (bs [])] 57)).heap.size = g16 + 1 := by rw [alloc_size, ← g16e]
      have g16b : v12.heap.size ≤ g16 := by omega
      generalize v12.alloc (.cells #[.string (bs []), .string (bs [])] 57) = v15 at *
      clear g16e
      replace hX := Blk.below hX e17 (Blk.lt hX)
      replace hM := Blk.below hM e17 (Blk.lt hM)
      replace hL := Blk.below hL e17 (Blk.lt hL)
      replace hC := Blk.below hC e17 (Blk.lt hC)
      replace hD := Blk.below hD e17 (Blk.lt hD)
      replace hG := Blk.below hG e17 (Blk.lt hG)
      replace hH := Blk.below hH e17 (Blk.lt hH)
      replace hE := hE.trans e17
      replace c0 : v15.cell? ⟨w.heap.size, 0, none⟩ = some (.int .i64 m) := Blk.cell hM 0
      replace c1 : v15.cell? ⟨w.heap.size, 1, none⟩ = some (.int .i64 n) := Blk.cell hM 1
      replace c2 : v15.cell? ⟨w.heap.size + 1 + 1, 0, none⟩ = some (.slice Pa la.length ka) := Blk.cell hL 0
      replace c3 : v15.cell? ⟨w.heap.size + 1 + 1, 1, none⟩ = some (.slice Pb lb.length kb) := Blk.cell hL 1
      replace c4 : v15.cell? ⟨w.heap.size + 1 + 1, 2, none⟩ = some (.bool true) := Blk.cell hL 2
      replace hm0 : v15.rangeAt (w.heap.size + 1) 0 (hcells xa) := blk_mid hX hall 0 (by simp)
      replace hm1 : v15.rangeAt (w.heap.size + 1) 32 (hcells ya) := blk_mid hX hall 1 (by simp)
      replace hMl := Blk.lt hM
      replace hLl := Blk.lt hL
      replace hXl := Blk.lt hX
      clear e17
      have co0 : v15.cell? ⟨g16, 0, none⟩ = some (.string (bs [])) := Blk.cell hO 0
      have co1 : v15.cell? ⟨g16, 1, none⟩ = some (.string (bs [])) := Blk.cell hO 1
      have col := Blk.lt hO
      refine wpList_load_mid rfl 23 (.tmp 87) rfl (w.heap.size + 1) (0) (by rfl) (hcells xa) _ hm0 Tryd.underlying23 rfl (size32l _ hxa) ?_
      simp only [Act.put, List.setIfInBounds_toArray, List.set_cons_zero, List.set_cons_succ]
      unfold hcells
      go_wp2_with (refine stop_load 23 (.tmp 89) rfl ?_)
      refine ⟨?_⟩
      refine wpList_load_mid rfl 23 (.tmp 89) rfl (w.heap.size + 1) (32) (by rfl) (hcells ya) _ hm1 Tryd.underlying23 rfl (size32l _ hya) ?_
      simp only [Act.put, List.setIfInBounds_toArray, List.set_cons_zero, List.set_cons_succ]
      unfold hcells
      go_wp2_with fail
      change Calls _ _ #[_, _, sumV xa, sumV ya, _, _] _ _
      refine (Trees_calls m n hn.2 xa ya hxa hya _ _ A A hAa hAa (by rw [HXa.out]; omega) (by rw [HXa.out]; omega) _ (KW.ext hE) (HTa.out _ hE) (HTa.out _ hE)).mono ?_; rw [← HR.out, twC_some]; rintro e v19 ⟨rfl, e18⟩
      replace hX := Blk.below hX e18 (Blk.lt hX)
      replace hM := Blk.below hM e18 (Blk.lt hM)
      replace hL := Blk.below hL e18 (Blk.lt hL)
      replace hC := Blk.below hC e18 (Blk.lt hC)
      replace hD := Blk.below hD e18 (Blk.lt hD)
      replace hG := Blk.below hG e18 (Blk.lt hG)
      replace hH := Blk.below hH e18 (Blk.lt hH)
      replace hO := Blk.below hO e18 (Blk.lt hO)
      replace hE := hE.trans e18
      replace c0 : v19.cell? ⟨w.heap.size, 0, none⟩ = some (.int .i64 m) := Blk.cell hM 0
      replace c1 : v19.cell? ⟨w.heap.size, 1, none⟩ = some (.int .i64 n) := Blk.cell hM 1
      replace c2 : v19.cell? ⟨w.heap.size + 1 + 1, 0, none⟩ = some (.slice Pa la.length ka) := Blk.cell hL 0
      replace c3 : v19.cell? ⟨w.heap.size + 1 + 1, 1, none⟩ = some (.slice Pb lb.length kb) := Blk.cell hL 1
      replace c4 : v19.cell? ⟨w.heap.size + 1 + 1, 2, none⟩ = some (.bool true) := Blk.cell hL 2
      replace hm0 : v19.rangeAt (w.heap.size + 1) 0 (hcells xa) := blk_mid hX hall 0 (by simp)
      replace hm1 : v19.rangeAt (w.heap.size + 1) 32 (hcells ya) := blk_mid hX hall 1 (by simp)
      replace hMl := Blk.lt hM
      replace hLl := Blk.lt hL
      replace hXl := Blk.lt hX
      replace co0 : v19.cell? ⟨g16, 0, none⟩ = some (.string (bs [])) := Blk.cell hO 0
      replace co1 : v19.cell? ⟨g16, 1, none⟩ = some (.string (bs [])) := Blk.cell hO 1
      replace col := Blk.lt hO
      clear e18
      have hpq0 : (pp == qq) = false := by rw [beq_eq_false_iff_ne]; exact hpp.1
      have heqh := fun w : World => eq_sum (shaOf pp) (shaOf qq) (shaOf_length pp) (shaOf_length qq) w
      have dh : decide (shaOf pp = shaOf qq) = true := decide_eq_true hpp.2.1
      rw [dh] at heqh
      have hq1 : pp.length = 65 := hpp.2.2.1
      have hq2 : qq.length = 65 := hpp.2.2.2
      clear dh hpp
      go_wp2_with fail
      change Code.wp _ _ _ _ (v19.alloc (.cells #[.string (bs pp), .string (bs qq)] 57))
      have hP := Blk.new v19 57 #[.string (bs pp), .string (bs qq)]
      have e22 : Ext v19 (v19.alloc (.cells #[.string (bs pp), .string (bs qq)] 57)) := (Ext.refl v19).alloc _
      obtain ⟨g21, g21e⟩ : ∃ g21, g21 = v19.heap.size := ⟨_, rfl⟩
      try rw [← v19z]
      try rw [← g21e]
      rw [← g21e] at hP
      have v20z : (v19.alloc (.cells #[.string (bs pp), .string (bs qq)] 57)).heap.size = g21 + 1 := by rw [alloc_size, ← g21e]
      have g21b : v19.heap.size ≤ g21 := by omega
      generalize v19.alloc (.cells #[.string (bs pp), .string (bs qq)] 57) = v20 at *
      clear g21e
      replace hX := Blk.below hX e22 (Blk.lt hX)
      replace hM := Blk.below hM e22 (Blk.lt hM)
      replace hL := Blk.below hL e22 (Blk.lt hL)
      replace hC := Blk.below hC e22 (Blk.lt hC)
      replace hD := Blk.below hD e22 (Blk.lt hD)
      replace hG := Blk.below hG e22 (Blk.lt hG)
      replace hH := Blk.below hH e22 (Blk.lt hH)
      replace hO := Blk.below hO e22 (Blk.lt hO)
      replace hE := hE.trans e22
      replace c0 : v20.cell? ⟨w.heap.size, 0, none⟩ = some (.int .i64 m) := Blk.cell hM 0
      replace c1 : v20.cell? ⟨w.heap.size, 1, none⟩ = some (.int .i64 n) := Blk.cell hM 1
      replace c2 : v20.cell? ⟨w.heap.size + 1 + 1, 0, none⟩ = some (.slice Pa la.length ka) := Blk.cell hL 0
      replace c3 : v20.cell? ⟨w.heap.size + 1 + 1, 1, none⟩ = some (.slice Pb lb.length kb) := Blk.cell hL 1
      replace c4 : v20.cell? ⟨w.heap.size + 1 + 1, 2, none⟩ = some (.bool true) := Blk.cell hL 2
      replace hm0 : v20.rangeAt (w.heap.size + 1) 0 (hcells xa) := blk_mid hX hall 0 (by simp)
      replace hm1 : v20.rangeAt (w.heap.size + 1) 32 (hcells ya) := blk_mid hX hall 1 (by simp)
      replace hMl := Blk.lt hM
      replace hLl := Blk.lt hL
      replace hXl := Blk.lt hX
      replace co0 : v20.cell? ⟨g16, 0, none⟩ = some (.string (bs [])) := Blk.cell hO 0
      replace co1 : v20.cell? ⟨g16, 1, none⟩ = some (.string (bs [])) := Blk.cell hO 1
      replace col := Blk.lt hO
      clear e22
      have cp0 : v20.cell? ⟨g21, 0, none⟩ = some (.string (bs pp)) := Blk.cell hP 0
      have cp1 : v20.cell? ⟨g21, 1, none⟩ = some (.string (bs qq)) := Blk.cell hP 1
      have cpl := Blk.lt hP
      refine region_mix0 (by kernel_rfl) (by kernel_rfl) (fun y0 => ?_)
      iterate 11 (first | (refine mix_quiet (by rfl) (by rfl) (fun K hK => ?_); go_big_quiet_op; refine hK _ ?_; clear hK K) | (refine mix_skip (by rfl) ?_; simp only [Act.put, List.setIfInBounds_toArray, List.set_cons_zero, List.set_cons_succ]))
      (refine mix_loud (by rfl) (by rfl) (fun K E hK => ?_); go_big_op)
      refine (refOf_calls pp _ (by omega)).mono ?_; rintro e w5 ⟨rfl, hd⟩
      obtain ⟨x', rfl⟩ := more_ext _ hd; clear hd
      refine hK _ _ ⟨_, rfl⟩ ?_; clear hK K E
      iterate 2 (first | (refine mix_quiet (by rfl) (by rfl) (fun K hK => ?_); go_big_quiet_op; refine hK _ ?_; clear hK K) | (refine mix_skip (by rfl) ?_; simp only [Act.put, List.setIfInBounds_toArray, List.set_cons_zero, List.set_cons_succ]))
      (refine mix_loud (by rfl) (by rfl) (fun K E hK => ?_); go_big_op)
      refine (refOf_calls qq _ (by omega)).mono ?_; rintro e w5 ⟨rfl, hd⟩
      obtain ⟨x', rfl⟩ := more_ext _ hd; clear hd
      refine hK _ _ ⟨_, rfl⟩ ?_; clear hK K E
      unfold sumV
      repeat (first | (refine mix_quiet (by rfl) (by rfl) (fun K hK => ?_); go_big_quiet_op; refine hK _ ?_; clear hK K) | (refine mix_skip (by rfl) ?_; simp only [Act.put, List.setIfInBounds_toArray, List.set_cons_zero, List.set_cons_succ]))
      refine mix_nil ?_
      have hE9 := hE.trans (grow_ext x')
      go_wp2_with fail
      go_ret
      exact ⟨rfl, hE9⟩

set_option maxRecDepth 100000 in
theorem contract (H : Type) (enc : TypeId × Value → H) (W : World) (base : Nat) (args : Array Value) (ds gs : List (DataW H)) (before : List MemPlace)
    (hval0 : ∀ (j : Nat) t v, Tryd.f15.params[j]? = some t → args[j]? = some v → Value.okWide Tryd.prog W .any base t v)
    (hW : DataW.Whole enc Tryd.prog Tryd.f15.params.toList Rows.twinTreesSpec.vars false W args.toList ds gs before) (hL : laidMetH Tryd.prog Rows.twinTreesRow.laid W) :
    Calls Tryd.prog 15 args W fun e W' => ∃ v, e = .returned v ∧ Rows.twinTreesSpec.post enc Tryd.prog Tryd.f15 false true false false W args v W' := by
  have K : Keys W := keys_of hL
  have hval : ∀ (j : Nat) t v, Tryd.f15.params[j]? = some t → args[j]? = some v → Value.okWide Tryd.prog W .any base t v := hval0
  have hW' := hW
  obtain ⟨p, q, hA0, hV, rfl, hfz, hnd⟩ := hW
  have hA : DataW.TrodAll enc Tryd.prog W 0 (fun _ => true) true Tryd.f15.params.toList args.toList ds p := hA0
  rw [Tryd.params15] at hA hval
  obtain ⟨v0, vs0, d0, ds0, p0, q0, hargs, rfl, rfl, hx0, r0⟩ := trodAll_cons hA
  obtain ⟨v1, vs1, d1, ds1, p1, q1, rfl, rfl, rfl, hx1, r1⟩ := trodAll_cons r0
  obtain ⟨v2, vs2, d2, ds2, p2, q2, rfl, rfl, rfl, hx2, r2⟩ := trodAll_cons r1
  obtain ⟨rfl, rfl, rfl⟩ := trodAll_nil r2
  obtain rfl : args = #[v0, v1, v2] := by cases args; simp_all
  obtain ⟨rfl, rfl⟩ := trodVars_none hV
  obtain ⟨q1, q2, rfl, hq1, hq2⟩ := op_i2 (hval 0 24 v0 rfl rfl) (tr_of hx0)
  obtain ⟨a1, a2, rfl, ha1, ha2⟩ := op_sum2 (hval 1 41 v1 rfl rfl) (tr_of hx1)
  obtain ⟨zc1, zc2, z1, z2, zo, rfl, hzs1, hza1, hzs2, hza2⟩ := op_rows (hval 2 55 v2 rfl rfl) (tr_of hx2)
  refine (walk a1 a2 ha1 ha2 q1 q2 hq1 hq2 zc1 zc2 z1 z2 zo W K hzs1 hzs2 hza1 hza2).mono fun e W' ⟨he, hg⟩ => ?_
  subst he
  exact ⟨_, rfl, law_post hW' rfl rfl (by kernel_rfl) rfl rfl rfl hg⟩

theorem laid_met (os : Os) : laidMet Tryd.prog Rows.twinTreesRow.laid ((keysWorld os).forCall (fun _ _ => 0) ⟨#[], #[.agg #[.int .i64 0, .int .i64 0], .agg (Array.replicate 64 (.int .u8 0)), .agg #[.slice none 0 0, .slice none 0 0, .bool false]], []⟩).memory :=
  laidMet_of_run' 8 (by kernel_rfl) (by kernel_rfl)
theorem reads (os : Os) {H : Type} (enc : TypeId × Value → H) : ∃ x, DataW.whole enc Tryd.prog ((keysWorld os).forCall (fun _ _ => 0) ⟨#[], #[.agg #[.int .i64 0, .int .i64 0], .agg (Array.replicate 64 (.int .u8 0)), .agg #[.slice none 0 0, .slice none 0 0, .bool false]], []⟩).memory Tryd.f15.params.toList Rows.twinTreesSpec.vars false (#[.agg #[.int .i64 0, .int .i64 0], .agg (Array.replicate 64 (.int .u8 0)), .agg #[.slice none 0 0, .slice none 0 0, .bool false]] : Array Value).toList 8 = some x :=
  Option.isSome_iff_exists.1 (by kernel_rfl)
set_option maxRecDepth 100000 in
theorem lifted (os : Os) (started : os.Started) (H : Type) (enc : TypeId × Value → H) (F : Stop.Interp) :
    ReturnsInHanded {} Tryd.checked os 15 .any ((OpenSpec.ofChange Rows.twinTreesSpec).preRow enc Tryd.prog Tryd.f15 Rows.twinTreesRow.domain false Rows.twinTreesRow.laid) (((OpenSpec.ofChange Rows.twinTreesSpec).at F).post enc Tryd.prog Tryd.f15 false true false false) := by
  obtain ⟨x, hx⟩ := reads os enc
  refine returnsInHanded_of_row (C := Tryd.checked) (s := OpenSpec.ofChange Rows.twinTreesSpec) own_ started (by kernel_rfl) Tryd.func15
    (witness_row_at (enc := enc) (C := Tryd.checked) false (keysWorld os) #[.agg #[.int .i64 0, .int .i64 0], .agg (Array.replicate 64 (.int .u8 0)), .agg #[.slice none 0 0, .slice none 0 0, .bool false]] rfl (by kernel_rfl) (by kernel_rfl) (by kernel_rfl)
      (OpenSpec.preRow_of_cond 8 hx rfl (fun k hk => by cases hk) (by kernel_rfl) (laid_met os))) ?_
  intro W base args ds gs before hval hW _ _ _ hL _ _
  exact contract H enc W base args ds gs before hval hW hL

theorem said : Rows.TwinTreesSaid :=
  OpenClaim.holds_of_cond 15 Tryd.f15 rfl rfl rfl rfl rfl rfl rfl ⟨rfl, rfl, rfl, rfl, rfl⟩ rfl rfl rfl rfl rfl (by kernel_rfl) Tryd.func15 (by kernel_rfl)
    (of_decide_eq_true (by kernel_rfl)) (by unfold Func.isWrapper; first | (rw [if_pos (by decide +kernel)]; kernel_rfl) | (rw [if_neg (by decide +kernel)]; exact ⟨rfl, rfl⟩))
    (fun os started H enc _ F => by rw [OpenClaim.pre_eq_preRow]; exact lifted os started H enc F)
theorem plain (f : FuncId) (fn : Func) (hf : Tryd.pinned.checked.prog.funcNamed "scrinium/scriniumlaw13.TwinTrees" = some f) (hfn : Tryd.pinned.checked.prog.funcs[f]? = some fn) :
    false = Tryd.pinned.checked.prog.looks [] ∧ ∀ (j : Nat) t, fn.params[j]? = some t → Tryd.pinned.checked.prog.wantsStandIn t = false := by
  obtain rfl : f = 15 := Option.some.inj ((show Tryd.prog.funcNamed "scrinium/scriniumlaw13.TwinTrees" = some 15 by kernel_rfl).symm.trans hf) |>.symm
  obtain rfl : fn = Tryd.f15 := (Option.some.inj (Tryd.func15.symm.trans hfn)).symm
  refine ⟨by kernel_rfl, fun j t ht => ?_⟩
  rw [Tryd.params15] at ht
  have hm : t ∈ ([24, 41, 55] : List TypeId) := by simpa using Array.mem_of_getElem? ht
  have hall : (([24, 41, 55] : List TypeId).all fun u => !Tryd.prog.wantsStandIn u) = true := by kernel_rfl
  exact (show Tryd.prog.wantsStandIn t = false by simpa using List.all_eq_true.1 hall t hm)
theorem proved : Rows.TwinTreesCardSaid :=
  Claim7.holds_tied_plain_at .later [] _ _ _ _ said (fun _ h => by cases h) (by kernel_rfl) (fun _ h => by cases h) twinTrees_row_tie rfl ⟨rfl, rfl⟩ (by kernel_rfl) rfl plain (by kernel_rfl)

end Go.Proofs.YtfpipdopgepelaaDoor.twinTrees
