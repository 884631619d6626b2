/-
  The walks of the document's Both and Goes.
-/
import Derived.Test.YtfpipdopgepelaaDoorRefBoth
set_option linter.unusedVariables false
set_option maxRecDepth 100000
set_option linter.unusedSimpArgs false
namespace Go.Proofs.YtfpipdopgepelaaDoor
open Go.ChangeShapes Go.WideShapes Go.ChangeAt Go.RowKit
attribute [local go_sem] bs_size bs_toList2 bs_append bs_extract_end bs_extract_begin bs_get wrap64_b grow_cell grow_frozen

set_option maxHeartbeats 2000000 in
theorem refBoth_none (a : List UInt8) (ha : a.length = 32) (m n : Int) (A : Option Addr) (cap : Nat) (l : List (List UInt8)) (hll : l.length ≤ 1000000) (w : World)
    (hlg : Way.linksI m n ≠ (l.length : Int)) : Calls Tryd.prog 21 #[sumV a, .int .i64 m, .int .i64 n, .slice A l.length cap] w fun e w' => e = .returned (.tuple #[sumV (zerosB 32), sumV (zerosB 32), .bool false]) ∧ Ext w w' := by
  have hfold := fold_sum a ha
  have hzz : (zerosB 32).length = 32 := rfl
  unfold sumV
  go_enter Tryd.func21, Tryd.ntmps21
  obtain ⟨hX, hY, hZ, hE, hz⟩ := rbW0_facts a w
  go_wp2_with fail
  change Calls _ _ _ (rbW0 a w) _
  generalize rbW0 a w = w1 at *
  refine (refLinksLong_calls m n _).mono ?_; rintro e w2 ⟨rfl, rfl⟩
  have dl : (Way.linksI m n != (l.length : Int)) = true := by simpa using hlg
  generalize Way.linksI m n = L at *
  go_wp2_with (refine stop_store 23 (.tmp 8) (.tmp 20) rfl ?_)
  refine ⟨?_⟩
  refine wpList_store_row rfl 23 (.tmp 8) (.tmp 20) rfl (w.heap.size + 1) ((zerosB 32).map byteV).toArray (by rfl) (by rfl) 23 _ hY (size32.trans (by simp [hzz])) (by simp [hzz, hzz]) (by simp [byteV, Value.oneCell']) ?_
  simp only [Act.put, List.setIfInBounds_toArray, List.set_cons_zero, List.set_cons_succ]
  have hY3 : ArrB (w1.setRow (w.heap.size + 1) ((zerosB 32).map byteV).toArray) (w.heap.size + 1) 23 (zerosB 32) := Blk.row hY _
  have hY3u : Upd (w.heap.size + 1) w1 (w1.setRow (w.heap.size + 1) ((zerosB 32).map byteV).toArray) := (Upd.refl _ _).row _
  generalize w1.setRow (w.heap.size + 1) ((zerosB 32).map byteV).toArray = w3 at *
  have hZ3 := Blk.kept (S := fun k => k ≠ w.heap.size + 1) hZ (.of_upd hY3u (fun h => h rfl)) (by omega)
  have hE3 := hE.upd hY3u (by omega)
  clear hY3u hY hZ hE
  go_wp2_with (refine stop_store 23 (.tmp 9) (.tmp 21) rfl ?_)
  refine ⟨?_⟩
  refine wpList_store_row rfl 23 (.tmp 9) (.tmp 21) rfl (w.heap.size + 1 + 1) ((zerosB 32).map byteV).toArray (by rfl) (by rfl) 23 _ hZ3 (size32.trans (by simp [hzz])) (by simp [hzz, hzz]) (by simp [byteV, Value.oneCell']) ?_
  simp only [Act.put, List.setIfInBounds_toArray, List.set_cons_zero, List.set_cons_succ]
  have hZ4 : ArrB (w3.setRow (w.heap.size + 1 + 1) ((zerosB 32).map byteV).toArray) (w.heap.size + 1 + 1) 23 (zerosB 32) := Blk.row hZ3 _
  have hZ4u : Upd (w.heap.size + 1 + 1) w3 (w3.setRow (w.heap.size + 1 + 1) ((zerosB 32).map byteV).toArray) := (Upd.refl _ _).row _
  generalize w3.setRow (w.heap.size + 1 + 1) ((zerosB 32).map byteV).toArray = w4 at *
  have hY4 := Blk.kept (S := fun k => k ≠ w.heap.size + 1 + 1) hY3 (.of_upd hZ4u (fun h => h rfl)) (by omega)
  have hE4 := hE3.upd hZ4u (by omega)
  go_wp2_with fail
  (try simp only [Exit.inBlock, Exit.then]); refine bodyPost_ret (res_two_t rfl _ _ (w.heap.size + 1) (w.heap.size + 1 + 1) 23 23 _ _ _ rfl rfl hY4 hZ4 Tryd.underlying23 rfl (size32.trans (by simp [hzz])) (size32.trans (by simp [hzz]))) rfl ?_
  exact ⟨rfl, hE4⟩

set_option maxHeartbeats 2000000 in
theorem refBoth_some (a : List UInt8) (ha : a.length = 32) (m n : Nat) (h1 : 1 ≤ m) (h2 : m ≤ n) (h3 : n ≤ 1099511627776) (A : Option Addr) (cap : Nat) (l : List (List UInt8)) (hl : AllH l) (hll : l.length ≤ 1000000) (w : World) (hrd : Rd w w.heap.size A (flatS l))
    (hlg : Way.linksI (m : Int) (n : Int) = (l.length : Int)) : Calls Tryd.prog 21 #[sumV a, .int .i64 (m : Int), .int .i64 (n : Int), .slice A l.length cap] w fun e w' => e = .returned (.tuple #[sumV (Way.both nodeB a m n true l).1, sumV (Way.both nodeB a m n true l).2, .bool true]) ∧ Ext w w' := by
  have hneed : Way.needL m n true = l.length := by
    unfold Way.linksI at hlg
    rw [if_neg (by omega)] at hlg
    simp only [Int.toNat_natCast] at hlg
    unfold Way.needL
    simp only [Bool.true_and]
    split at hlg <;> split <;> first | omega | contradiction
  have hb := refboth_calls a ha A cap l hl hll n m true h1 h2 h3 (by omega)
  rw [hneed, List.take_length] at hb
  obtain ⟨hx, hy⟩ := both_len a ha m n true l hl
  generalize Way.both nodeB a m n true l = p at *
  obtain ⟨x, y⟩ := p
  dsimp only at hx hy hb ⊢
  have hfold := fold_sum a ha
  have hzz : (zerosB 32).length = 32 := rfl
  unfold sumV
  go_enter Tryd.func21, Tryd.ntmps21
  obtain ⟨hX, hY, hZ, hE, hz⟩ := rbW0_facts a w
  go_wp2_with fail
  change Calls _ _ _ (rbW0 a w) _
  generalize rbW0 a w = w1 at *
  refine (refLinksLong_calls (m : Int) (n : Int) _).mono ?_; rw [hlg]; rintro e w2 ⟨rfl, rfl⟩
  go_wp2_with (refine stop_load 23 (.tmp 4) rfl ?_)
  refine ⟨?_⟩
  refine wpList_load_row rfl 23 (.tmp 4) rfl w.heap.size (by rfl) 23 _ (0, 0) _ hX Tryd.underlying23 rfl (size32.trans (by simp [ha])) ?_
  simp only [Act.put, List.setIfInBounds_toArray, List.set_cons_zero, List.set_cons_succ]
  go_wp2_with fail
  change Calls _ _ #[sumV a, _, _, _, _] _ _
  refine (hb _ ((hrd.below hE (Nat.le_refl _)).more hE.size)).mono ?_; rintro e w2 ⟨rfl, e2⟩
  have hY2 := Blk.below hY e2 (Blk.lt hY)
  have hZ2 := Blk.below hZ e2 (Blk.lt hZ)
  have hE2 := hE.trans e2
  have hs2 := e2.size
  clear hX hY hZ hE e2 hb
  unfold sumV
  go_wp2_with (refine stop_store 23 (.tmp 11) (.tmp 28) rfl ?_)
  refine ⟨?_⟩
  change wpList _ _ _ _ _ (twoW w2)
  obtain ⟨p1, p2, p3⟩ := twoW_facts w2
  have hgx : w.heap.size + 3 ≤ w2.heap.size := by omega
  have hY3 := Blk.below hY2 p3 (Blk.lt hY2)
  have hZ3 := Blk.below hZ2 p3 (Blk.lt hZ2)
  have hE3 := hE2.trans p3
  generalize w2.heap.size = gx at *
  clear hY2 hZ2 hE2 p3
  generalize twoW w2 = w3 at *
  go_wp2_with (refine stop_store 23 (.tmp 11) (.tmp 28) rfl ?_)
  refine ⟨?_⟩
  refine wpList_store_row rfl 23 (.tmp 11) (.tmp 28) rfl gx ((x).map byteV).toArray (by rfl) (by rfl) 23 _ p1 (size32.trans (by simp [hx])) (by simp [hx, hzz]) (by simp [byteV, Value.oneCell']) ?_
  simp only [Act.put, List.setIfInBounds_toArray, List.set_cons_zero, List.set_cons_succ]
  have hX : ArrB (w3.setRow gx ((x).map byteV).toArray) gx 23 (x) := Blk.row p1 _
  have hXu : Upd gx w3 (w3.setRow gx ((x).map byteV).toArray) := (Upd.refl _ _).row _
  generalize w3.setRow gx ((x).map byteV).toArray = w4 at *
  have hY4 := Blk.kept (S := fun k => k ≠ gx) hY3 (.of_upd hXu (fun h => h rfl)) (by omega)
  have hZ4 := Blk.kept (S := fun k => k ≠ gx) hZ3 (.of_upd hXu (fun h => h rfl)) (by omega)
  have q2 := Blk.kept (S := fun k => k ≠ gx) p2 (.of_upd hXu (fun h => h rfl)) (by omega)
  have hE4 := hE3.upd hXu (by omega)
  clear hY3 hZ3 hE3 hXu p1 p2
  go_wp2_with (refine stop_store 23 (.tmp 12) (.tmp 29) rfl ?_)
  refine ⟨?_⟩
  refine wpList_store_row rfl 23 (.tmp 12) (.tmp 29) rfl (gx + 1) ((y).map byteV).toArray (by rfl) (by rfl) 23 _ q2 (size32.trans (by simp [hy])) (by simp [hy, hzz]) (by simp [byteV, Value.oneCell']) ?_
  simp only [Act.put, List.setIfInBounds_toArray, List.set_cons_zero, List.set_cons_succ]
  have hV : ArrB (w4.setRow (gx + 1) ((y).map byteV).toArray) (gx + 1) 23 (y) := Blk.row q2 _
  have hVu : Upd (gx + 1) w4 (w4.setRow (gx + 1) ((y).map byteV).toArray) := (Upd.refl _ _).row _
  generalize w4.setRow (gx + 1) ((y).map byteV).toArray = w5 at *
  have hY5 := Blk.kept (S := fun k => k ≠ gx + 1) hY4 (.of_upd hVu (fun h => h rfl)) (by omega)
  have hZ5 := Blk.kept (S := fun k => k ≠ gx + 1) hZ4 (.of_upd hVu (fun h => h rfl)) (by omega)
  have hx5 := Blk.kept (S := fun k => k ≠ gx + 1) hX (.of_upd hVu (fun h => h rfl)) (by omega)
  have hE5 := hE4.upd hVu (by omega)
  clear hY4 hZ4 hE4 hVu q2 hX
  obtain ⟨wb, hwb⟩ : ∃ wb, wb = w5 := ⟨_, rfl⟩
  subst hwb
  go_wp2_with fail
  refine region_keep0 (fun k => k ≠ w.heap.size + 1 ∧ k ≠ w.heap.size + 1 + 1) (by kernel_rfl) (by kernel_rfl) ?_
  have K0 : Keep (fun k => k ≠ w.heap.size + 1 ∧ k ≠ w.heap.size + 1 + 1) wb wb.drew := (Keep.refl _ wb).drew
  have iY := Blk.drew hY5
  have iZ := Blk.drew hZ5
  refine held_row (by rfl) (by rfl) 23 (.tmp 11) rfl (gx) (by rfl) 23 _ _ hx5 ⟨by omega, by omega⟩ Tryd.underlying23 rfl (size32.trans (by simp [hx])) ?_
  simp only [Act.put, List.setIfInBounds_toArray, List.set_cons_zero, List.set_cons_succ]
  refine held_row (by rfl) (by rfl) 23 (.tmp 12) rfl (gx + 1) (by rfl) 23 _ _ hV ⟨by omega, by omega⟩ Tryd.underlying23 rfl (size32.trans (by simp [hy])) ?_
  simp only [Act.put, List.setIfInBounds_toArray, List.set_cons_zero, List.set_cons_succ]
  have jk : Keep (fun k => k ≠ w.heap.size + 1 ∧ k ≠ w.heap.size + 1 + 1) wb (wb.drew.setRow (w.heap.size + 1) ((x).map byteV).toArray) := K0.trans (Keep.of_upd ((Upd.refl _ _).row _) (fun h => h.1 rfl))
  refine mix_store_row (by rfl) (by rfl) 23 (.tmp 8) (.tmp 31) rfl (w.heap.size + 1) ((x).map byteV).toArray (by rfl) (by rfl) 23 _ iY (size32.trans (by simp [hx])) (by simp [hx, zerosB]) (by simp [byteV, Value.oneCell']) (held_of jk) ?_
  simp only [Act.put, List.setIfInBounds_toArray, List.set_cons_zero, List.set_cons_succ]
  have oY : ArrB (wb.drew.setRow (w.heap.size + 1) ((x).map byteV).toArray) (w.heap.size + 1) 23 (x) := Blk.row iY _
  have oZ : ArrB (wb.drew.setRow (w.heap.size + 1) ((x).map byteV).toArray) (w.heap.size + 1 + 1) 23 (zerosB 32) := Blk.rowFar iZ (by omega) _
  generalize wb.drew.setRow (w.heap.size + 1) ((x).map byteV).toArray = wj at *
  have kk : Keep (fun k => k ≠ w.heap.size + 1 ∧ k ≠ w.heap.size + 1 + 1) wb (wj.setRow (w.heap.size + 1 + 1) ((y).map byteV).toArray) := jk.trans (Keep.of_upd ((Upd.refl _ _).row _) (fun h => h.2 rfl))
  refine mix_store_row (by rfl) (by rfl) 23 (.tmp 9) (.tmp 32) rfl (w.heap.size + 1 + 1) ((y).map byteV).toArray (by rfl) (by rfl) 23 _ oZ (size32.trans (by simp [hy])) (by simp [hy, zerosB]) (by simp [byteV, Value.oneCell']) (held_of kk) ?_
  simp only [Act.put, List.setIfInBounds_toArray, List.set_cons_zero, List.set_cons_succ]
  have rY : ArrB (wj.setRow (w.heap.size + 1 + 1) ((y).map byteV).toArray) (w.heap.size + 1) 23 (x) := Blk.rowFar oY (by omega) _
  have rZ : ArrB (wj.setRow (w.heap.size + 1 + 1) ((y).map byteV).toArray) (w.heap.size + 1 + 1) 23 (y) := Blk.row oZ _
  generalize wj.setRow (w.heap.size + 1 + 1) ((y).map byteV).toArray = wk at *
  iterate 1 (first | (refine mix_quiet (by rfl) (by rfl) (fun K hK => ?_); go_big_quiet_op; refine hK _ ?_; clear hK K) | (refine mix_skip (by rfl) ?_; simp only [Act.put, List.setIfInBounds_toArray, List.set_cons_zero, List.set_cons_succ]))
  refine mix_nil ?_
  have hk7 : Keep (fun k => k < w.heap.size) w wk := (Keep.of_ext hE5).trans (kk.mono (fun k _ h => ⟨by omega, by omega⟩))
  go_wp2_with fail
  (try simp only [Exit.inBlock, Exit.then]); refine bodyPost_ret (res_two_t rfl _ _ (w.heap.size + 1) (w.heap.size + 1 + 1) 23 23 _ _ _ rfl rfl rY rZ Tryd.underlying23 rfl (size32.trans (by simp [hx])) (size32.trans (by simp [hy]))) rfl ?_
  exact ⟨rfl, hk7.ext⟩

theorem refBoth_calls (a : List UInt8) (ha : a.length = 32) (m n : Int) (A : Option Addr) (cap : Nat) (l : List (List UInt8)) (hl : AllH l) (hll : l.length ≤ 1000000) (w : World) (hrd : Rd w w.heap.size A (flatS l)) :
    Calls Tryd.prog 21 #[sumV a, .int .i64 m, .int .i64 n, .slice A l.length cap] w fun e w' => e = .returned (.tuple #[sumV (bothP a m n l).1.1, sumV (bothP a m n l).1.2, .bool (bothP a m n l).2]) ∧ Ext w w' := by
  by_cases hlg : Way.linksI m n = (l.length : Int)
  · rw [show bothP a m n l = _ from if_pos hlg]
    have hin : ¬ (m < 1 ∨ n < m ∨ 1099511627776 < n) := fun hc => by
      have : Way.linksI m n = -1 := if_pos hc
      omega
    obtain ⟨mN, rfl⟩ : ∃ k : Nat, m = (k : Int) := ⟨m.toNat, by omega⟩
    obtain ⟨nN, rfl⟩ : ∃ k : Nat, n = (k : Int) := ⟨n.toNat, by omega⟩
    simp only [Int.toNat_natCast]
    exact refBoth_some a ha mN nN (by omega) (by omega) (by omega) A cap l hl hll w hrd hlg
  · rw [show bothP a m n l = _ from if_neg hlg]
    exact refBoth_none a ha m n A cap l hll w hlg

set_option maxHeartbeats 1000000 in
theorem refGoes_calls (a b : List UInt8) (ha : a.length = 32) (hb : b.length = 32) (m n : Int) (A : Option Addr) (cap : Nat) (l : List (List UInt8)) (hl : AllH l) (hll : l.length ≤ 1000000) (w : World) (hrd : Rd w w.heap.size A (flatS l)) :
    Calls Tryd.prog 24 #[sumV a, .int .i64 m, sumV b, .int .i64 n, .slice A l.length cap] w fun e w' => e = .returned (.bool (goesB a m b n l)) ∧ Ext w w' := by
  unfold goesB
  have hpl := bothP_length a ha m n l hl
  obtain ⟨p, hp⟩ : ∃ p, p = bothP a m n l := ⟨_, rfl⟩
  rw [← hp] at hpl ⊢
  have Hp := Lib.hid hp
  clear hp
  obtain ⟨⟨x, y⟩, ok⟩ := p
  obtain ⟨hx, hy⟩ := hpl
  dsimp only at hx hy
  have hfolda := fold_sum a ha
  have hfoldb := fold_sum b hb
  have hgw := guard_sum
  have heq1 := fun w : World => eq_sum x a hx ha w
  have heq2 := fun w : World => eq_sum y b hy hb w
  have hzz : (zerosB 32).length = 32 := rfl
  unfold sumV
  go_enter Tryd.func24, Tryd.ntmps24
  have hX0 : ArrB ((w.alloc (.cells (a.map byteV).toArray 23)).alloc (.cells (b.map byteV).toArray 23)) w.heap.size 23 a := Blk.alloc (Blk.new _ _ _) _
  have hL0 : ArrB ((w.alloc (.cells (a.map byteV).toArray 23)).alloc (.cells (b.map byteV).toArray 23)) (w.heap.size + 1) 23 b := by
    have := Blk.new (w.alloc (.cells (a.map byteV).toArray 23)) 23 (b.map byteV).toArray
    rw [alloc_size] at this
    exact this
  have hE0 : Ext w ((w.alloc (.cells (a.map byteV).toArray 23)).alloc (.cells (b.map byteV).toArray 23)) := ((Ext.refl w).alloc _).alloc _
  go_wp2_with (refine stop_load 23 (.tmp 5) rfl ?_)
  refine ⟨?_⟩
  refine wpList_load_row rfl 23 (.tmp 5) rfl w.heap.size (by rfl) 23 _ (0, 0) _ hX0 Tryd.underlying23 rfl (size32.trans (by simp [ha])) ?_
  simp only [Act.put, List.setIfInBounds_toArray, List.set_cons_zero, List.set_cons_succ]
  generalize (w.alloc (.cells (a.map byteV).toArray 23)).alloc (.cells (b.map byteV).toArray 23) = w1 at *
  go_wp2_with fail
  change Calls _ _ #[sumV a, _, _, _] _ _
  refine (refBoth_calls a ha m n A cap l hl hll _ ((hrd.below hE0 (Nat.le_refl _)).more hE0.size)).mono ?_; rw [← Hp.out]; rintro e w2 ⟨rfl, e2⟩
  have hX2 := Blk.below hX0 e2 (Blk.lt hX0)
  have hL2 := Blk.below hL0 e2 (Blk.lt hL0)
  have hE2 := hE0.trans e2
  have hxl := Blk.lt hX2
  have hll2 := Blk.lt hL2
  clear hX0 hL0 hE0 e2
  unfold sumV
  go_wp2_with (refine stop_store 23 (.tmp 11) (.tmp 20) rfl ?_)
  refine ⟨?_⟩
  change wpList _ _ _ _ _ (twoW w2)
  obtain ⟨p1, p2, p3⟩ := twoW_facts w2
  have hX3 := Blk.below hX2 p3 hxl
  have hL3 := Blk.below hL2 p3 hll2
  have hE3 := hE2.trans p3
  have hsz := hE2.size
  have hwp := Blk.lt p1
  generalize w2.heap.size = gx at *
  clear hX2 hL2 hE2 p3
  generalize twoW w2 = w3 at *
  go_wp2_with (refine stop_store 23 (.tmp 11) (.tmp 20) rfl ?_)
  refine ⟨?_⟩
  refine wpList_store_row rfl 23 (.tmp 11) (.tmp 20) rfl gx ((x).map byteV).toArray (by rfl) (by rfl) 23 _ p1 (size32.trans (by simp [hx])) (by simp [hx, hzz]) (by simp [byteV, Value.oneCell']) ?_
  simp only [Act.put, List.setIfInBounds_toArray, List.set_cons_zero, List.set_cons_succ]
  have hX : ArrB (w3.setRow gx ((x).map byteV).toArray) gx 23 (x) := Blk.row p1 _
  have hXu : Upd gx w3 (w3.setRow gx ((x).map byteV).toArray) := (Upd.refl _ _).row _
  generalize w3.setRow gx ((x).map byteV).toArray = w4 at *
  have hX4 := Blk.kept (S := fun k => k ≠ gx) hX3 (.of_upd hXu (fun h => h rfl)) (by omega)
  have hL4 := Blk.kept (S := fun k => k ≠ gx) hL3 (.of_upd hXu (fun h => h rfl)) (by omega)
  have q2 := Blk.kept (S := fun k => k ≠ gx) p2 (.of_upd hXu (fun h => h rfl)) (by omega)
  have hE4 := hE3.upd hXu (by omega)
  clear hX3 hL3 hE3 hXu p1 p2
  go_wp2_with (refine stop_store 23 (.tmp 12) (.tmp 21) rfl ?_)
  refine ⟨?_⟩
  refine wpList_store_row rfl 23 (.tmp 12) (.tmp 21) rfl (gx + 1) ((y).map byteV).toArray (by rfl) (by rfl) 23 _ q2 (size32.trans (by simp [hy])) (by simp [hy, hzz]) (by simp [byteV, Value.oneCell']) ?_
  simp only [Act.put, List.setIfInBounds_toArray, List.set_cons_zero, List.set_cons_succ]
  have hY : ArrB (w4.setRow (gx + 1) ((y).map byteV).toArray) (gx + 1) 23 (y) := Blk.row q2 _
  have hYu : Upd (gx + 1) w4 (w4.setRow (gx + 1) ((y).map byteV).toArray) := (Upd.refl _ _).row _
  generalize w4.setRow (gx + 1) ((y).map byteV).toArray = w5 at *
  have hX5 := Blk.kept (S := fun k => k ≠ gx + 1) hX4 (.of_upd hYu (fun h => h rfl)) (by omega)
  have hL5 := Blk.kept (S := fun k => k ≠ gx + 1) hL4 (.of_upd hYu (fun h => h rfl)) (by omega)
  have hx5 := Blk.kept (S := fun k => k ≠ gx + 1) hX (.of_upd hYu (fun h => h rfl)) (by omega)
  have hE5 := hE4.upd hYu (by omega)
  clear hX4 hL4 hE4 hYu q2 hX
  cases ok
  · go_wp2_with fail
    go_ret
    exact ⟨rfl, hE5⟩
  · skip
    go_wp2_with (refine stop_load 23 (.tmp 11) rfl ?_)
    refine ⟨?_⟩
    refine list_want (by rfl) (fun K hK => ?_)
    refine wp_load_row 23 (.tmp 11) rfl gx (by rfl) 23 _ (0, 0) _ hx5 Tryd.underlying23 rfl (size32.trans (by simp [hx])) ?_
    refine hK _ _ ?_; clear hK K
    simp only [Act.put, List.setIfInBounds_toArray, List.set_cons_zero, List.set_cons_succ]
    go_wp2_with (refine stop_load 23 (.tmp 5) rfl ?_)
    refine ⟨?_⟩
    refine list_want (by rfl) (fun K hK => ?_)
    refine wp_load_row 23 (.tmp 5) rfl w.heap.size (by rfl) 23 _ (0, 0) _ hX5 Tryd.underlying23 rfl (size32.trans (by simp [ha])) ?_
    refine hK _ _ ?_; clear hK K
    simp only [Act.put, List.setIfInBounds_toArray, List.set_cons_zero, List.set_cons_succ]
    by_cases he : x = a
    · have d1 : decide (x = a) = true := decide_eq_true he
      rw [d1] at heq1
      have D1 := Lib.hid d1
      clear he d1
      go_wp2_with (refine stop_load 23 (.tmp 12) rfl ?_)
      refine ⟨?_⟩
      refine list_want (by rfl) (fun K hK => ?_)
      refine wp_load_row 23 (.tmp 12) rfl (gx + 1) (by rfl) 23 _ (0, 0) _ hY Tryd.underlying23 rfl (size32.trans (by simp [hy])) ?_
      refine hK _ _ ?_; clear hK K
      simp only [Act.put, List.setIfInBounds_toArray, List.set_cons_zero, List.set_cons_succ]
      go_wp2_with (refine stop_load 23 (.tmp 7) rfl ?_)
      refine ⟨?_⟩
      refine list_want (by rfl) (fun K hK => ?_)
      refine wp_load_row 23 (.tmp 7) rfl (w.heap.size + 1) (by rfl) 23 _ (0, 0) _ hL5 Tryd.underlying23 rfl (size32.trans (by simp [hb])) ?_
      refine hK _ _ ?_; clear hK K
      simp only [Act.put, List.setIfInBounds_toArray, List.set_cons_zero, List.set_cons_succ]
      go_wp2_with fail
      go_ret
      exact ⟨by simp [D1.out], hE5⟩
    · have d1 : decide (x = a) = false := decide_eq_false he
      rw [d1] at heq1
      have D1 := Lib.hid d1
      clear he d1
      go_wp2_with fail
      go_ret
      exact ⟨by simp [D1.out], hE5⟩

end Go.Proofs.YtfpipdopgepelaaDoor
