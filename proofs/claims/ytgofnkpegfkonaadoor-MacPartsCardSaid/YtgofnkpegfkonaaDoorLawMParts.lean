/-
  scriniumlaw03.MacParts: how a text is cut into parts does not matter, nor do bytes 0 behind a short key; a long key is as good as its hash. No condition.
-/
import Derived.Test.YtgofnkpegfkonaaDoorMacA
import Derived.Test.YtgofnkpegfkonaaDoorFew2
import Derived.Deep.DeepCutAuto
import Derived.Test.YtgofnkpegfkonaaDoorMix6
set_option linter.unusedVariables false
set_option linter.unusedSimpArgs false
namespace Go.Proofs.YtgofnkpegfkonaaDoor.macParts
open Go.ChangeShapes Go.WideShapes Go.ChangeAt Go.RowKit
attribute [local go_sem] bs_size bs_toList2 bs_append bs_extract_end bs_extract_begin bs_get wrap64_b grow_cell grow_frozen

theorem keyB_sha (key : List UInt8) : keyB (shaOf key) = shaOf key := keyB_short _ (by rw [shaOf_length]; omega)
theorem padB_long (key : List UInt8) (h : 64 < key.length) : padB (shaOf key) = padB key := by
  unfold padB
  rw [keyB_sha, keyB_long key h]
theorem macOf_long (key t : List UInt8) (h : 64 < key.length) : macOf (shaOf key) t = macOf key t := by
  unfold macOf
  rw [padB_long key h]
theorem padB_zeros (key : List UInt8) (n : Nat) (h : key.length + n ≤ 64) : padB (key ++ zerosB n) = padB key := by
  unfold padB
  rw [keyB_short key (by omega), keyB_short (key ++ zerosB n) (by simp [zerosB]; omega), List.append_assoc]
  congr 1
  unfold zerosB
  rw [List.length_append, List.length_replicate, List.replicate_append_replicate]
  congr 1
  omega
theorem macOf_zeros (key t : List UInt8) (n : Nat) (h : key.length + n ≤ 64) : macOf (key ++ zerosB n) t = macOf key t := by
  unfold macOf
  rw [padB_zeros key n h]
section
variable {H : Type} {enc : TypeId × Value → H} {W : World} {base : Nat} {v : Value}
theorem op_s2 (hv : Value.okWide Tryd.prog W .any base 53 v) (h : Tr enc W 53 v.cells.toList) : ∃ a b : List UInt8, v = .agg #[.string (bs a), .string (bs b)] ∧ a.length ≤ 9223372036854775807 ∧ b.length ≤ 9223372036854775807 := by
  have hk : Tryd.prog.cellsOf 9 = 1 := by kernel_rfl
  have hk2 : Tryd.prog.cellsOf 53 = 2 := by kernel_rfl
  obtain ⟨hl, hel⟩ := tr_array Tryd.underlying53 h
  rw [hk] at hel
  rw [hk2] at hl
  obtain ⟨cs, rfl, hs⟩ := okWide_arr Tryd.underlying53 hv
  obtain ⟨cs⟩ := cs
  match cs, hl with
  | [x, y], _ =>
    obtain ⟨l1, h1, n1⟩ := tr_string Tryd.underlying9 (hel 0 (by omega))
    obtain ⟨l2, h2, n2⟩ := tr_string Tryd.underlying9 (hel 1 (by omega))
    simp [Value.cells] at h1 h2
    subst h1 h2
    unfold maxLen at n1 n2
    exact ⟨l1, l2, rfl, by omega, by omega⟩
end


set_option maxRecDepth 100000 in
set_option maxHeartbeats 4000000 in
theorem walk (key a b : List UInt8) (z : Int) (hk0 : key.length ≤ 9223372036854775807) (ha0 : a.length ≤ 9223372036854775807) (hb0 : b.length ≤ 9223372036854775807) (w : World) (KW : Keys w) :
    Calls Tryd.prog 10 #[.string (bs key), .agg #[.string (bs a), .string (bs b)], .int .i64 z] w fun e w' => e = .returned (.bool true) ∧ Ext w w' := by
  go_enter Tryd.func10, Tryd.ntmps10
  go_wp2_with fail
  have hS0 := Blk.new w 53 #[.string (bs a), .string (bs b)]
  have hE0 := (Ext.refl w).alloc (.cells #[.string (bs a), .string (bs b)] 53)
  generalize w.alloc (.cells #[.string (bs a), .string (bs b)] 53) = w0 at *
  refine (awake03_calls _ (KW.ext hE0)).mono ?_; rintro e w1 ⟨rfl, e1⟩
  have hS1 := Blk.below hS0 e1 hS0.lt
  have hE1 := hE0.trans e1
  have c0 : w1.cell? ⟨w.heap.size, 0, none⟩ = some (.string (bs a)) := Blk.cell hS1 0
  have c1 : w1.cell? ⟨w.heap.size, 1, none⟩ = some (.string (bs b)) := Blk.cell hS1 1
  have hgl := hS1.lt
  clear hS0 hS1 hE0 e1
  go_wp2_with fail
  refine (short03_calls key 100 _ hk0 (by omega)).mono ?_; rintro e w2 ⟨rfl, rfl⟩
  have hk : (key.take 100).length ≤ 100 := by simp; omega
  generalize key.take 100 = key at *
  go_wp2_with fail
  refine (short03_calls a 100 _ ha0 (by omega)).mono ?_; rintro e w2 ⟨rfl, rfl⟩
  have ha : (a.take 100).length ≤ 100 := by simp; omega
  go_wp2_with fail
  refine (short03_calls b 100 _ hb0 (by omega)).mono ?_; rintro e w2 ⟨rfl, rfl⟩
  have hb : (b.take 100).length ≤ 100 := by simp; omega
  clear c0 c1
  generalize a.take 100 = a at *
  generalize b.take 100 = b at *
  have hj : joinB [a ++ b] = a ++ b := by simp [joinB]
  have hj2 : joinB [a, b] = a ++ b := by simp [joinB]
  have hj3 : joinB [a, [], b] = a ++ b := by simp [joinB]
  have hRd : Rd (w1.alloc (.cells #[.string (bs a), .string (bs b)] 9)) (w1.alloc (.cells #[.string (bs a), .string (bs b)] 9)).heap.size (some ⟨w1.heap.size, 0, none⟩) ([a, b].map strV) := Blk.rd (Blk.new w1 _ _)
  go_wp2_with fail
  refine (MOf_calls key (by omega) [a, b] _ 2 _ (KW.ext (hE1.alloc _)) hRd (by simp) (by rw [hj2]; simp; omega)).mono ?_; rw [hj2]; rintro e w2 ⟨rfl, e2⟩
  have hE2 := (hE1.alloc (.cells #[.string (bs a), .string (bs b)] 9)).trans e2
  have hml := macOf_length key (a ++ b)
  obtain ⟨mac, hmac⟩ : ∃ mac, mac = macOf key (a ++ b) := ⟨_, rfl⟩
  rw [← hmac] at hml ⊢
  have Hmac := Lib.hid hmac
  clear hE1 e2 hmac hRd hgl hk0 ha0 hb0
  have hmz : (mac.map byteV).toArray.size = 32 := by simp [hml]
  unfold sumV
  go_wp2_with (refine stop_store 33 (.tmp 10) (.tmp 25) rfl ?_)
  refine ⟨?_⟩
  change wpList _ _ _ _ _ (w2.alloc (.cells ((zerosB 32).map byteV).toArray 33))
  refine wpList_store_row rfl 33 (.tmp 10) (.tmp 25) rfl w2.heap.size _ (by rfl) (by rfl) 33 _ (Blk.new w2 _ _) (size32.trans (by rw [hmz])) (by rw [hmz]; rfl) (by simp [byteV, Value.oneCell']) ?_
  simp only [Act.put, List.setIfInBounds_toArray, List.set_cons_zero, List.set_cons_succ]
  have hX : ArrB ((w2.alloc (.cells ((zerosB 32).map byteV).toArray 33)).setRow w2.heap.size (mac.map byteV).toArray) w2.heap.size 33 mac := Blk.row (Blk.new w2 33 ((zerosB 32).map byteV).toArray) (mac.map byteV).toArray
  have hE : Ext w ((w2.alloc (.cells ((zerosB 32).map byteV).toArray 33)).setRow w2.heap.size (mac.map byteV).toArray) := (hE2.alloc _).row hE2.size _
  clear hE2
  generalize (w2.alloc (.cells ((zerosB 32).map byteV).toArray 33)).setRow w2.heap.size (mac.map byteV).toArray = w4 at *
  generalize w2.heap.size = gx at *
  have hKs : ∀ x : More w4, Keys (grow w4 x) := fun x => KW.ext (hE.trans (grow_ext x))
  have hgw := guard_sum
  have heq1 := fun w : World => eq_sum mac mac hml hml w
  have hab : ¬ (9223372036854775807 < a.length + b.length) := by omega
  have hab2 : a.length + b.length ≤ 200 := by omega
  go_wp2_with fail
  refine region_plan 17 (Plan.run [0, 1, 2, 3, 4, 5, 6, 7, 8, 9, 10, 11, 12, 13, 14, 15, 16] .nil) (by kernel_rfl) (by kernel_rfl) (fun y0 => ?_); simp only [Plan.run, List.drop_succ_cons, List.drop_zero, List.drop_nil]
  refine plan_row (by simp only [List.getElem?_toArray, List.getElem?_cons_zero, List.getElem?_cons_succ]; rfl) (by rfl) (by rfl) 33 (.tmp 10) rfl gx (by rfl) _ _ _ hX Tryd.underlying33 rfl (size32.trans (by simp [hml])) ?_
  simp only [Act.put, List.setIfInBounds_toArray, List.set_cons_zero, List.set_cons_succ]
  iterate 4 (first | (refine plan_quiet (by simp only [List.getElem?_toArray, List.getElem?_cons_zero, List.getElem?_cons_succ]; rfl) (by rfl) (by rfl) (fun K hK => ?_); go_big_quiet_op; refine hK _ ?_; clear hK K) | (refine plan_skip (by simp only [List.getElem?_toArray, List.getElem?_cons_zero, List.getElem?_cons_succ]; rfl) (by rfl) ?_; simp only [Act.put, List.setIfInBounds_toArray, List.set_cons_zero, List.set_cons_succ]))
  refine plan_one ?_
  (refine plan_loud (by simp only [List.getElem?_toArray, List.getElem?_cons_zero, List.getElem?_cons_succ]; rfl) (by rfl) (by rfl) (fun K E hK => ?_); go_big_op)
  obtain ⟨y1, hy1⟩ := more_of ((grow_ext y0).alloc (.cells #[.string (bs (a ++ b))] 9))
  have h5 : Rd ((grow w4 y0).alloc (.cells #[.string (bs (a ++ b))] 9)) ((grow w4 y0).alloc (.cells #[.string (bs (a ++ b))] 9)).heap.size (some ⟨(grow w4 y0).heap.size, 0, none⟩) ([a ++ b].map strV) := Blk.rd (Blk.new _ _ _)
  rw [hy1] at h5 ⊢
  clear hy1; generalize (grow w4 y0).heap.size = g5 at *
  refine hK _ _ ⟨_, rfl⟩ ?_; clear hK K E
  refine plan_one ?_
  (refine plan_loud (by simp only [List.getElem?_toArray, List.getElem?_cons_zero, List.getElem?_cons_succ]; rfl) (by rfl) (by rfl) (fun K E hK => ?_); go_big_op)
  refine (MOf_calls key (by omega) [a ++ b] _ 1 (grow w4 y1) (hKs _) h5 (by simp) (by rw [hj]; simp; omega)).mono ?_; rw [hj, ← Hmac.out]; unfold sumV; rintro e w3 ⟨rfl, hd⟩
  obtain ⟨y2, rfl⟩ := more_ext y1 hd; clear hd
  refine hK _ _ ⟨_, rfl⟩ ?_; clear hK K E
  clear h5
  iterate 2 (first | (refine plan_quiet (by simp only [List.getElem?_toArray, List.getElem?_cons_zero, List.getElem?_cons_succ]; rfl) (by rfl) (by rfl) (fun K hK => ?_); go_big_quiet_op; refine hK _ ?_; clear hK K) | (refine plan_skip (by simp only [List.getElem?_toArray, List.getElem?_cons_zero, List.getElem?_cons_succ]; rfl) (by rfl) ?_; simp only [Act.put, List.setIfInBounds_toArray, List.set_cons_zero, List.set_cons_succ]))
  refine plan_row (by simp only [List.getElem?_toArray, List.getElem?_cons_zero, List.getElem?_cons_succ]; rfl) (by rfl) (by rfl) 33 (.tmp 10) rfl gx (by rfl) _ _ _ hX Tryd.underlying33 rfl (size32.trans (by simp [hml])) ?_
  simp only [Act.put, List.setIfInBounds_toArray, List.set_cons_zero, List.set_cons_succ]
  iterate 3 (first | (refine plan_quiet (by simp only [List.getElem?_toArray, List.getElem?_cons_zero, List.getElem?_cons_succ]; rfl) (by rfl) (by rfl) (fun K hK => ?_); go_big_quiet_op; refine hK _ ?_; clear hK K) | (refine plan_skip (by simp only [List.getElem?_toArray, List.getElem?_cons_zero, List.getElem?_cons_succ]; rfl) (by rfl) ?_; simp only [Act.put, List.setIfInBounds_toArray, List.set_cons_zero, List.set_cons_succ]))
  refine plan_one ?_
  (refine plan_loud (by simp only [List.getElem?_toArray, List.getElem?_cons_zero, List.getElem?_cons_succ]; rfl) (by rfl) (by rfl) (fun K E hK => ?_); go_big_op)
  obtain ⟨y3, hy3⟩ := more_of ((grow_ext y2).alloc (.cells #[.string (bs a), .string ⟨#[]⟩, .string (bs b)] 9))
  have h13 : Rd ((grow w4 y2).alloc (.cells #[.string (bs a), .string ⟨#[]⟩, .string (bs b)] 9)) ((grow w4 y2).alloc (.cells #[.string (bs a), .string ⟨#[]⟩, .string (bs b)] 9)).heap.size (some ⟨(grow w4 y2).heap.size, 0, none⟩) ([a, [], b].map strV) := Blk.rd (Blk.new _ _ _)
  rw [hy3] at h13 ⊢
  clear hy3; generalize (grow w4 y2).heap.size = g13 at *
  refine hK _ _ ⟨_, rfl⟩ ?_; clear hK K E
  refine plan_one ?_
  (refine plan_loud (by simp only [List.getElem?_toArray, List.getElem?_cons_zero, List.getElem?_cons_succ]; rfl) (by rfl) (by rfl) (fun K E hK => ?_); go_big_op)
  refine (MOf_calls key (by omega) [a, [], b] _ 3 (grow w4 y3) (hKs _) h13 (by simp) (by rw [hj3]; simp; omega)).mono ?_; rw [hj3, ← Hmac.out]; unfold sumV; rintro e w3 ⟨rfl, hd⟩
  obtain ⟨y4, rfl⟩ := more_ext y3 hd; clear hd
  refine hK _ _ ⟨_, rfl⟩ ?_; clear hK K E
  clear h13
  iterate 2 (first | (refine plan_quiet (by simp only [List.getElem?_toArray, List.getElem?_cons_zero, List.getElem?_cons_succ]; rfl) (by rfl) (by rfl) (fun K hK => ?_); go_big_quiet_op; refine hK _ ?_; clear hK K) | (refine plan_skip (by simp only [List.getElem?_toArray, List.getElem?_cons_zero, List.getElem?_cons_succ]; rfl) (by rfl) ?_; simp only [Act.put, List.setIfInBounds_toArray, List.set_cons_zero, List.set_cons_succ]))
  refine plan_nil ?_
  have hX5 := Blk.grow y4 hX
  have hE5 := hE.trans (grow_ext y4)
  clear hKs hX hE
  generalize grow w4 y4 = w5 at *

  have hKs : ∀ x : More w5, Keys (grow w5 x) := fun x => KW.ext (hE5.trans (grow_ext x))
  by_cases hlong : 64 < key.length
  · have h1 : (64 : Int) < (key.length : Int) := by omega
    go_wp2_with fail
    refine region_plan 23 (Plan.run [0, 1, 2, 3, 6, 7, 8] (.two 4 9 (Plan.run [] (.two 5 9 (Plan.run [9, 10, 11, 12, 13, 14, 16, 15, 17, 18, 19, 20, 21, 22] .nil) (Plan.run [5, 10, 11, 12, 13, 14, 16, 15, 17, 18, 19, 20, 21, 22] .nil))) (Plan.run [4, 5, 10, 11, 12, 13, 14, 16, 15, 17, 18, 19, 20, 21, 22] .nil))) (by kernel_rfl) (by kernel_rfl) (fun y0 => ?_); simp only [Plan.run, List.drop_succ_cons, List.drop_zero, List.drop_nil]
    iterate 2 (first | (refine plan_quiet (by simp only [List.getElem?_toArray, List.getElem?_cons_zero, List.getElem?_cons_succ]; rfl) (by rfl) (by rfl) (fun K hK => ?_); go_big_quiet_op; refine hK _ ?_; clear hK K) | (refine plan_skip (by simp only [List.getElem?_toArray, List.getElem?_cons_zero, List.getElem?_cons_succ]; rfl) (by rfl) ?_; simp only [Act.put, List.setIfInBounds_toArray, List.set_cons_zero, List.set_cons_succ]))
    refine plan_row (by simp only [List.getElem?_toArray, List.getElem?_cons_zero, List.getElem?_cons_succ]; rfl) (by rfl) (by rfl) 33 (.tmp 10) rfl gx (by rfl) _ _ _ hX5 Tryd.underlying33 rfl (size32.trans (by simp [hml])) ?_
    simp only [Act.put, List.setIfInBounds_toArray, List.set_cons_zero, List.set_cons_succ]
    iterate 4 (first | (refine plan_quiet (by simp only [List.getElem?_toArray, List.getElem?_cons_zero, List.getElem?_cons_succ]; rfl) (by rfl) (by rfl) (fun K hK => ?_); go_big_quiet_op; refine hK _ ?_; clear hK K) | (refine plan_skip (by simp only [List.getElem?_toArray, List.getElem?_cons_zero, List.getElem?_cons_succ]; rfl) (by rfl) ?_; simp only [Act.put, List.setIfInBounds_toArray, List.set_cons_zero, List.set_cons_succ]))
    refine plan_two ?_ ?_
    · (refine plan_loud (by simp only [List.getElem?_toArray, List.getElem?_cons_zero, List.getElem?_cons_succ]; rfl) (by rfl) (by rfl) (fun K E hK => ?_); go_big_op)
      refine (refOf_calls key (grow w5 y0) (by omega)).mono ?_; rintro e w3 ⟨rfl, hd⟩
      obtain ⟨y1, rfl⟩ := more_ext y0 hd; clear hd
      refine hK _ _ ⟨_, rfl⟩ ?_; clear hK K E
      have hdl := shaOf_length key
      refine plan_two ?_ ?_
      · (refine plan_loud (by simp only [List.getElem?_toArray, List.getElem?_cons_zero, List.getElem?_cons_succ]; rfl) (by rfl) (by rfl) (fun K E hK => ?_); go_big_op)
        refine (refBytes_calls (shaOf key) hdl (grow w5 y1)).mono ?_; rintro e w3 ⟨rfl, hd⟩
        obtain ⟨y2, rfl⟩ := more_ext y1 hd; clear hd
        refine hK _ _ ⟨_, rfl⟩ ?_; clear hK K E
        refine plan_one ?_
        (refine plan_loud (by simp only [List.getElem?_toArray, List.getElem?_cons_zero, List.getElem?_cons_succ]; rfl) (by rfl) (by rfl) (fun K E hK => ?_); go_big_op)
        obtain ⟨y3, hy3⟩ := more_of ((grow_ext y2).alloc (.cells #[.string (bs (a ++ b))] 9))
        have h9 : Rd ((grow w5 y2).alloc (.cells #[.string (bs (a ++ b))] 9)) ((grow w5 y2).alloc (.cells #[.string (bs (a ++ b))] 9)).heap.size (some ⟨(grow w5 y2).heap.size, 0, none⟩) ([a ++ b].map strV) := Blk.rd (Blk.new _ _ _)
        rw [hy3] at h9 ⊢
        clear hy3; generalize (grow w5 y2).heap.size = g9 at *
        refine hK _ _ ⟨_, rfl⟩ ?_; clear hK K E
        refine plan_one ?_
        (refine plan_loud (by simp only [List.getElem?_toArray, List.getElem?_cons_zero, List.getElem?_cons_succ]; rfl) (by rfl) (by rfl) (fun K E hK => ?_); go_big_op)
        refine (MOf_calls (shaOf key) (by omega) [a ++ b] _ 1 (grow w5 y3) (hKs _) h9 (by simp) (by rw [hj]; simp; omega)).mono ?_; rw [hj, macOf_long key _ hlong, ← Hmac.out]; unfold sumV; rintro e w3 ⟨rfl, hd⟩
        obtain ⟨y4, rfl⟩ := more_ext y3 hd; clear hd
        refine hK _ _ ⟨_, rfl⟩ ?_; clear hK K E
        clear h9
        iterate 5 (first | (refine plan_quiet (by simp only [List.getElem?_toArray, List.getElem?_cons_zero, List.getElem?_cons_succ]; rfl) (by rfl) (by rfl) (fun K hK => ?_); go_big_quiet_op; refine hK _ ?_; clear hK K) | (refine plan_skip (by simp only [List.getElem?_toArray, List.getElem?_cons_zero, List.getElem?_cons_succ]; rfl) (by rfl) ?_; simp only [Act.put, List.setIfInBounds_toArray, List.set_cons_zero, List.set_cons_succ]))
        refine plan_one ?_
        (refine plan_loud (by simp only [List.getElem?_toArray, List.getElem?_cons_zero, List.getElem?_cons_succ]; rfl) (by rfl) (by rfl) (fun K E hK => ?_); go_big_op)
        refine (Pad_calls key (by omega) (grow w5 y4) (hKs _)).mono ?_; rintro e w3 ⟨rfl, hd⟩
        obtain ⟨y5, rfl⟩ := more_ext y4 hd; clear hd
        refine hK _ _ ⟨_, rfl⟩ ?_; clear hK K E
        refine plan_one ?_
        (refine plan_loud (by simp only [List.getElem?_toArray, List.getElem?_cons_zero, List.getElem?_cons_succ]; rfl) (by rfl) (by rfl) (fun K E hK => ?_); go_big_op)
        refine (refOf_calls key (grow w5 y5) (by omega)).mono ?_; rintro e w3 ⟨rfl, hd⟩
        obtain ⟨y6, rfl⟩ := more_ext y5 hd; clear hd
        refine hK _ _ ⟨_, rfl⟩ ?_; clear hK K E
        refine plan_one ?_
        (refine plan_loud (by simp only [List.getElem?_toArray, List.getElem?_cons_zero, List.getElem?_cons_succ]; rfl) (by rfl) (by rfl) (fun K E hK => ?_); go_big_op)
        refine (refBytes_calls (shaOf key) hdl (grow w5 y6)).mono ?_; rintro e w3 ⟨rfl, hd⟩
        obtain ⟨y7, rfl⟩ := more_ext y6 hd; clear hd
        refine hK _ _ ⟨_, rfl⟩ ?_; clear hK K E
        refine plan_one ?_
        (refine plan_loud (by simp only [List.getElem?_toArray, List.getElem?_cons_zero, List.getElem?_cons_succ]; rfl) (by rfl) (by rfl) (fun K E hK => ?_); go_big_op)
        refine (Pad_calls (shaOf key) (by omega) (grow w5 y7) (hKs _)).mono ?_; rw [padB_long key hlong]; rintro e w3 ⟨rfl, hd⟩
        obtain ⟨y8, rfl⟩ := more_ext y7 hd; clear hd
        refine hK _ _ ⟨_, rfl⟩ ?_; clear hK K E
        iterate 3 (first | (refine plan_quiet (by simp only [List.getElem?_toArray, List.getElem?_cons_zero, List.getElem?_cons_succ]; rfl) (by rfl) (by rfl) (fun K hK => ?_); go_big_quiet_op; refine hK _ ?_; clear hK K) | (refine plan_skip (by simp only [List.getElem?_toArray, List.getElem?_cons_zero, List.getElem?_cons_succ]; rfl) (by rfl) ?_; simp only [Act.put, List.setIfInBounds_toArray, List.set_cons_zero, List.set_cons_succ]))
        refine plan_nil ?_
        go_wp2_with fail
        go_ret
        exact ⟨rfl, hE5.trans (grow_ext _)⟩
      · (refine plan_loud (by simp only [List.getElem?_toArray, List.getElem?_cons_zero, List.getElem?_cons_succ]; rfl) (by rfl) (by rfl) (fun K E hK => ?_); go_big_op)
        obtain ⟨y9, hy9⟩ := more_of ((grow_ext y1).alloc (.cells #[.string (bs (a ++ b))] 9))
        have h9 : Rd ((grow w5 y1).alloc (.cells #[.string (bs (a ++ b))] 9)) ((grow w5 y1).alloc (.cells #[.string (bs (a ++ b))] 9)).heap.size (some ⟨(grow w5 y1).heap.size, 0, none⟩) ([a ++ b].map strV) := Blk.rd (Blk.new _ _ _)
        rw [hy9] at h9 ⊢
        clear hy9; generalize (grow w5 y1).heap.size = g9 at *
        refine hK _ _ ⟨_, rfl⟩ ?_; clear hK K E
        refine plan_one ?_
        (refine plan_loud (by simp only [List.getElem?_toArray, List.getElem?_cons_zero, List.getElem?_cons_succ]; rfl) (by rfl) (by rfl) (fun K E hK => ?_); go_big_op)
        refine (refBytes_calls (shaOf key) hdl (grow w5 y9)).mono ?_; rintro e w3 ⟨rfl, hd⟩
        replace h9 := (h9.below hd (Nat.le_refl _)).more hd.size
        obtain ⟨y10, rfl⟩ := more_ext y9 hd; clear hd
        refine hK _ _ ⟨_, rfl⟩ ?_; clear hK K E
        refine plan_one ?_
        (refine plan_loud (by simp only [List.getElem?_toArray, List.getElem?_cons_zero, List.getElem?_cons_succ]; rfl) (by rfl) (by rfl) (fun K E hK => ?_); go_big_op)
        refine (MOf_calls (shaOf key) (by omega) [a ++ b] _ 1 (grow w5 y10) (hKs _) h9 (by simp) (by rw [hj]; simp; omega)).mono ?_; rw [hj, macOf_long key _ hlong, ← Hmac.out]; unfold sumV; rintro e w3 ⟨rfl, hd⟩
        obtain ⟨y11, rfl⟩ := more_ext y10 hd; clear hd
        refine hK _ _ ⟨_, rfl⟩ ?_; clear hK K E
        clear h9
        iterate 5 (first | (refine plan_quiet (by simp only [List.getElem?_toArray, List.getElem?_cons_zero, List.getElem?_cons_succ]; rfl) (by rfl) (by rfl) (fun K hK => ?_); go_big_quiet_op; refine hK _ ?_; clear hK K) | (refine plan_skip (by simp only [List.getElem?_toArray, List.getElem?_cons_zero, List.getElem?_cons_succ]; rfl) (by rfl) ?_; simp only [Act.put, List.setIfInBounds_toArray, List.set_cons_zero, List.set_cons_succ]))
        refine plan_one ?_
        (refine plan_loud (by simp only [List.getElem?_toArray, List.getElem?_cons_zero, List.getElem?_cons_succ]; rfl) (by rfl) (by rfl) (fun K E hK => ?_); go_big_op)
        refine (Pad_calls key (by omega) (grow w5 y11) (hKs _)).mono ?_; rintro e w3 ⟨rfl, hd⟩
        obtain ⟨y12, rfl⟩ := more_ext y11 hd; clear hd
        refine hK _ _ ⟨_, rfl⟩ ?_; clear hK K E
        refine plan_one ?_
        (refine plan_loud (by simp only [List.getElem?_toArray, List.getElem?_cons_zero, List.getElem?_cons_succ]; rfl) (by rfl) (by rfl) (fun K E hK => ?_); go_big_op)
        refine (refOf_calls key (grow w5 y12) (by omega)).mono ?_; rintro e w3 ⟨rfl, hd⟩
        obtain ⟨y13, rfl⟩ := more_ext y12 hd; clear hd
        refine hK _ _ ⟨_, rfl⟩ ?_; clear hK K E
        refine plan_one ?_
        (refine plan_loud (by simp only [List.getElem?_toArray, List.getElem?_cons_zero, List.getElem?_cons_succ]; rfl) (by rfl) (by rfl) (fun K E hK => ?_); go_big_op)
        refine (refBytes_calls (shaOf key) hdl (grow w5 y13)).mono ?_; rintro e w3 ⟨rfl, hd⟩
        obtain ⟨y14, rfl⟩ := more_ext y13 hd; clear hd
        refine hK _ _ ⟨_, rfl⟩ ?_; clear hK K E
        refine plan_one ?_
        (refine plan_loud (by simp only [List.getElem?_toArray, List.getElem?_cons_zero, List.getElem?_cons_succ]; rfl) (by rfl) (by rfl) (fun K E hK => ?_); go_big_op)
        refine (Pad_calls (shaOf key) (by omega) (grow w5 y14) (hKs _)).mono ?_; rw [padB_long key hlong]; rintro e w3 ⟨rfl, hd⟩
        obtain ⟨y15, rfl⟩ := more_ext y14 hd; clear hd
        refine hK _ _ ⟨_, rfl⟩ ?_; clear hK K E
        iterate 3 (first | (refine plan_quiet (by simp only [List.getElem?_toArray, List.getElem?_cons_zero, List.getElem?_cons_succ]; rfl) (by rfl) (by rfl) (fun K hK => ?_); go_big_quiet_op; refine hK _ ?_; clear hK K) | (refine plan_skip (by simp only [List.getElem?_toArray, List.getElem?_cons_zero, List.getElem?_cons_succ]; rfl) (by rfl) ?_; simp only [Act.put, List.setIfInBounds_toArray, List.set_cons_zero, List.set_cons_succ]))
        refine plan_nil ?_
        go_wp2_with fail
        go_ret
        exact ⟨rfl, hE5.trans (grow_ext _)⟩
    · (refine plan_loud (by simp only [List.getElem?_toArray, List.getElem?_cons_zero, List.getElem?_cons_succ]; rfl) (by rfl) (by rfl) (fun K E hK => ?_); go_big_op)
      obtain ⟨y16, hy16⟩ := more_of ((grow_ext y0).alloc (.cells #[.string (bs (a ++ b))] 9))
      have h9 : Rd ((grow w5 y0).alloc (.cells #[.string (bs (a ++ b))] 9)) ((grow w5 y0).alloc (.cells #[.string (bs (a ++ b))] 9)).heap.size (some ⟨(grow w5 y0).heap.size, 0, none⟩) ([a ++ b].map strV) := Blk.rd (Blk.new _ _ _)
      rw [hy16] at h9 ⊢
      clear hy16; generalize (grow w5 y0).heap.size = g9 at *
      refine hK _ _ ⟨_, rfl⟩ ?_; clear hK K E
      refine plan_one ?_
      (refine plan_loud (by simp only [List.getElem?_toArray, List.getElem?_cons_zero, List.getElem?_cons_succ]; rfl) (by rfl) (by rfl) (fun K E hK => ?_); go_big_op)
      refine (refOf_calls key (grow w5 y16) (by omega)).mono ?_; rintro e w3 ⟨rfl, hd⟩
      replace h9 := (h9.below hd (Nat.le_refl _)).more hd.size
      obtain ⟨y17, rfl⟩ := more_ext y16 hd; clear hd
      refine hK _ _ ⟨_, rfl⟩ ?_; clear hK K E
      have hdl := shaOf_length key
      refine plan_one ?_
      (refine plan_loud (by simp only [List.getElem?_toArray, List.getElem?_cons_zero, List.getElem?_cons_succ]; rfl) (by rfl) (by rfl) (fun K E hK => ?_); go_big_op)
      refine (refBytes_calls (shaOf key) hdl (grow w5 y17)).mono ?_; rintro e w3 ⟨rfl, hd⟩
      replace h9 := (h9.below hd (Nat.le_refl _)).more hd.size
      obtain ⟨y18, rfl⟩ := more_ext y17 hd; clear hd
      refine hK _ _ ⟨_, rfl⟩ ?_; clear hK K E
      refine plan_one ?_
      (refine plan_loud (by simp only [List.getElem?_toArray, List.getElem?_cons_zero, List.getElem?_cons_succ]; rfl) (by rfl) (by rfl) (fun K E hK => ?_); go_big_op)
      refine (MOf_calls (shaOf key) (by omega) [a ++ b] _ 1 (grow w5 y18) (hKs _) h9 (by simp) (by rw [hj]; simp; omega)).mono ?_; rw [hj, macOf_long key _ hlong, ← Hmac.out]; unfold sumV; rintro e w3 ⟨rfl, hd⟩
      obtain ⟨y19, rfl⟩ := more_ext y18 hd; clear hd
      refine hK _ _ ⟨_, rfl⟩ ?_; clear hK K E
      clear h9
      iterate 5 (first | (refine plan_quiet (by simp only [List.getElem?_toArray, List.getElem?_cons_zero, List.getElem?_cons_succ]; rfl) (by rfl) (by rfl) (fun K hK => ?_); go_big_quiet_op; refine hK _ ?_; clear hK K) | (refine plan_skip (by simp only [List.getElem?_toArray, List.getElem?_cons_zero, List.getElem?_cons_succ]; rfl) (by rfl) ?_; simp only [Act.put, List.setIfInBounds_toArray, List.set_cons_zero, List.set_cons_succ]))
      refine plan_one ?_
      (refine plan_loud (by simp only [List.getElem?_toArray, List.getElem?_cons_zero, List.getElem?_cons_succ]; rfl) (by rfl) (by rfl) (fun K E hK => ?_); go_big_op)
      refine (Pad_calls key (by omega) (grow w5 y19) (hKs _)).mono ?_; rintro e w3 ⟨rfl, hd⟩
      obtain ⟨y20, rfl⟩ := more_ext y19 hd; clear hd
      refine hK _ _ ⟨_, rfl⟩ ?_; clear hK K E
      refine plan_one ?_
      (refine plan_loud (by simp only [List.getElem?_toArray, List.getElem?_cons_zero, List.getElem?_cons_succ]; rfl) (by rfl) (by rfl) (fun K E hK => ?_); go_big_op)
      refine (refOf_calls key (grow w5 y20) (by omega)).mono ?_; rintro e w3 ⟨rfl, hd⟩
      obtain ⟨y21, rfl⟩ := more_ext y20 hd; clear hd
      refine hK _ _ ⟨_, rfl⟩ ?_; clear hK K E
      refine plan_one ?_
      (refine plan_loud (by simp only [List.getElem?_toArray, List.getElem?_cons_zero, List.getElem?_cons_succ]; rfl) (by rfl) (by rfl) (fun K E hK => ?_); go_big_op)
      refine (refBytes_calls (shaOf key) hdl (grow w5 y21)).mono ?_; rintro e w3 ⟨rfl, hd⟩
      obtain ⟨y22, rfl⟩ := more_ext y21 hd; clear hd
      refine hK _ _ ⟨_, rfl⟩ ?_; clear hK K E
      refine plan_one ?_
      (refine plan_loud (by simp only [List.getElem?_toArray, List.getElem?_cons_zero, List.getElem?_cons_succ]; rfl) (by rfl) (by rfl) (fun K E hK => ?_); go_big_op)
      refine (Pad_calls (shaOf key) (by omega) (grow w5 y22) (hKs _)).mono ?_; rw [padB_long key hlong]; rintro e w3 ⟨rfl, hd⟩
      obtain ⟨y23, rfl⟩ := more_ext y22 hd; clear hd
      refine hK _ _ ⟨_, rfl⟩ ?_; clear hK K E
      iterate 3 (first | (refine plan_quiet (by simp only [List.getElem?_toArray, List.getElem?_cons_zero, List.getElem?_cons_succ]; rfl) (by rfl) (by rfl) (fun K hK => ?_); go_big_quiet_op; refine hK _ ?_; clear hK K) | (refine plan_skip (by simp only [List.getElem?_toArray, List.getElem?_cons_zero, List.getElem?_cons_succ]; rfl) (by rfl) ?_; simp only [Act.put, List.setIfInBounds_toArray, List.set_cons_zero, List.set_cons_succ]))
      refine plan_nil ?_
      go_wp2_with fail
      go_ret
      exact ⟨rfl, hE5.trans (grow_ext _)⟩

  · have h1 : ¬ (64 : Int) < (key.length : Int) := by omega
    obtain ⟨i0, hi, hz0, hz1, hz2⟩ := info_parts info_u8
    have hD : (0 : Int) < 65 - (key.length : Int) := by omega
    have hq1 := Int.tmod_lt_of_pos z hD
    have hq2 : -(65 - (key.length : Int)) < z.tmod (65 - (key.length : Int)) := by
      have e := Int.natAbs_tmod z (65 - (key.length : Int))
      have := Nat.mod_lt z.natAbs (show 0 < (65 - (key.length : Int)).natAbs by omega)
      omega
    have Hlong := Lib.hid hlong; clear hlong
    rcases (show z.tmod (65 - (key.length : Int)) < 0 ∨ 0 ≤ z.tmod (65 - (key.length : Int)) from by omega) with hneg | hpos
    · obtain ⟨n, hq⟩ : ∃ n : Nat, z.tmod (65 - (key.length : Int)) = -(n : Int) := ⟨(-(z.tmod (65 - (key.length : Int)))).toNat, by omega⟩
      rw [hq] at hneg hq1 hq2
      have hnl : key.length + n ≤ 64 := by omega
      have hzl : (zerosB n).length = n := by simp [zerosB]
      have hkz : ¬ (9223372036854775807 < key.length + (zerosB n).length) := by omega
      have hkz2 : ¬ (9223372036854775807 < key.length + n) := by omega
      have hpl := padB_length key
      have hplI : ((padB key).length : Int) = 64 := by omega
      have Hzl := Lib.hid hzl; clear hzl
      go_wp2_with fail
      clear hq hneg
      refine region_planC 22 (Plan.run [0, 1, 2, 3, 4, 8, 9, 10] (.two 5 11 (Plan.run [] (.two 6 11 (Plan.run [7, 11, 12, 13, 14, 15, 16, 17, 18, 19, 20, 21] .nil) (Plan.run [6, 7, 12, 13, 14, 15, 16, 17, 18, 19, 20, 21] .nil))) (Plan.run [5, 6, 7, 12, 13, 14, 15, 16, 17, 18, 19, 20, 21] .nil))) (by kernel_rfl) (by kernel_rfl) (fun y0 => ?_); simp only [Plan.run, List.drop_succ_cons, List.drop_zero, List.drop_nil]
      iterate 2 (first | (refine planC_quiet (by simp only [List.getElem?_toArray, List.getElem?_cons_zero, List.getElem?_cons_succ]; rfl) (by rfl) (by rfl) (fun K hK => ?_); go_big_quiet_op; refine hK _ ?_; clear hK K) | (refine planC_skip (by simp only [List.getElem?_toArray, List.getElem?_cons_zero, List.getElem?_cons_succ]; rfl) (by rfl) ?_; simp only [Act.put, List.setIfInBounds_toArray, List.set_cons_zero, List.set_cons_succ]))
      refine planC_row (by simp only [List.getElem?_toArray, List.getElem?_cons_zero, List.getElem?_cons_succ]; rfl) (by rfl) (by rfl) 33 (.tmp 10) rfl gx (by rfl) _ _ _ hX5 Tryd.underlying33 rfl (size32.trans (by simp [hml])) ?_
      simp only [Act.put, List.setIfInBounds_toArray, List.set_cons_zero, List.set_cons_succ]
      iterate 5 (first | (refine planC_quiet (by simp only [List.getElem?_toArray, List.getElem?_cons_zero, List.getElem?_cons_succ]; rfl) (by rfl) (by rfl) (fun K hK => ?_); go_big_quiet_op; refine hK _ ?_; clear hK K) | (refine planC_skip (by simp only [List.getElem?_toArray, List.getElem?_cons_zero, List.getElem?_cons_succ]; rfl) (by rfl) ?_; simp only [Act.put, List.setIfInBounds_toArray, List.set_cons_zero, List.set_cons_succ]))
      refine planC_two ?_ ?_
      · obtain ⟨wm, hrun, hown, hgr⟩ := run_make_full (P := Tryd.prog) (grow w5 y0) (grow w5 y0).heap.size 37 5 i0 (.int .u8 0) 1 Tryd.underlying37 hi hz0 hz1 .i64 .i64 n (by rw [hz2]; omega) (by unfold maxLen; omega) (Nat.le_refl _)
        (refine planC_loud (by simp only [List.getElem?_toArray, List.getElem?_cons_zero, List.getElem?_cons_succ]; rfl) (by rfl) (by rfl) (fun K E hK => ?_); go_big_op)
        clear hrun; rw [made_bytes] at hown
        have hd : Ext (grow w5 y0) wm := ⟨hgr.os, hgr.tape, hgr.output, hgr.size, fun k hk => hgr.block k hk (by simp)⟩
        have h5 : Rd wm wm.heap.size (some ⟨(grow w5 y0).heap.size, 0, none⟩) ((zerosB n).map byteV) := Rd.of_own hown
        clear hown hgr
        obtain ⟨y1, rfl⟩ := more_ext y0 hd; clear hd
        generalize (grow w5 y0).heap.size = g5 at *
        refine hK _ _ ⟨_, rfl⟩ ?_; clear hK K E
        refine planC_two ?_ ?_
        · have hcv := conv_bytes (grow w5 y1) _ _ (zerosB n) n n (by simp [zerosB]) h5
          (refine planC_loud (by simp only [List.getElem?_toArray, List.getElem?_cons_zero, List.getElem?_cons_succ]; rfl) (by rfl) (by rfl) (fun K E hK => ?_); go_big_op)
          refine hK _ _ ⟨_, rfl⟩ ?_; clear hK K E
          clear h5
          clear hcv
          iterate 1 (first | (refine planC_quiet (by simp only [List.getElem?_toArray, List.getElem?_cons_zero, List.getElem?_cons_succ]; rfl) (by rfl) (by rfl) (fun K hK => ?_); go_big_quiet_op; refine hK _ ?_; clear hK K) | (refine planC_skip (by simp only [List.getElem?_toArray, List.getElem?_cons_zero, List.getElem?_cons_succ]; rfl) (by rfl) ?_; simp only [Act.put, List.setIfInBounds_toArray, List.set_cons_zero, List.set_cons_succ]))
          refine planC_one ?_
          (refine planC_loud (by simp only [List.getElem?_toArray, List.getElem?_cons_zero, List.getElem?_cons_succ]; rfl) (by rfl) (by rfl) (fun K E hK => ?_); go_big_op)
          obtain ⟨y3, hy3⟩ := more_of ((grow_ext y1).alloc (.cells #[.string (bs (a ++ b))] 9))
          have h11 : Rd ((grow w5 y1).alloc (.cells #[.string (bs (a ++ b))] 9)) ((grow w5 y1).alloc (.cells #[.string (bs (a ++ b))] 9)).heap.size (some ⟨(grow w5 y1).heap.size, 0, none⟩) ([a ++ b].map strV) := Blk.rd (Blk.new _ _ _)
          rw [hy3] at h11 ⊢
          clear hy3; generalize (grow w5 y1).heap.size = g11 at *
          refine hK _ _ ⟨_, rfl⟩ ?_; clear hK K E
          refine planC_one ?_
          (refine planC_loud (by simp only [List.getElem?_toArray, List.getElem?_cons_zero, List.getElem?_cons_succ]; rfl) (by rfl) (by rfl) (fun K E hK => ?_); go_big_op)
          refine (MOf_calls (key ++ zerosB n) (by simp [zerosB]; omega) [a ++ b] _ 1 (grow w5 y3) (hKs _) h11 (by simp) (by rw [hj]; simp; omega)).mono ?_; rw [hj, macOf_zeros key _ n (by omega), ← Hmac.out]; unfold sumV; rintro e w3 ⟨rfl, hd⟩
          obtain ⟨y4, rfl⟩ := more_ext y3 hd; clear hd
          refine hK _ _ ⟨_, rfl⟩ ?_; clear hK K E
          clear h11
          iterate 4 (first | (refine planC_quiet (by simp only [List.getElem?_toArray, List.getElem?_cons_zero, List.getElem?_cons_succ]; rfl) (by rfl) (by rfl) (fun K hK => ?_); go_big_quiet_op; refine hK _ ?_; clear hK K) | (refine planC_skip (by simp only [List.getElem?_toArray, List.getElem?_cons_zero, List.getElem?_cons_succ]; rfl) (by rfl) ?_; simp only [Act.put, List.setIfInBounds_toArray, List.set_cons_zero, List.set_cons_succ]))
          refine planC_one ?_
          (refine planC_loud (by simp only [List.getElem?_toArray, List.getElem?_cons_zero, List.getElem?_cons_succ]; rfl) (by rfl) (by rfl) (fun K E hK => ?_); go_big_op)
          refine (Pad_calls key (by omega) (grow w5 y4) (hKs _)).mono ?_; rintro e w3 ⟨rfl, hd⟩
          obtain ⟨y5, rfl⟩ := more_ext y4 hd; clear hd
          refine hK _ _ ⟨_, rfl⟩ ?_; clear hK K E
          iterate 4 (first | (refine planC_quiet (by simp only [List.getElem?_toArray, List.getElem?_cons_zero, List.getElem?_cons_succ]; rfl) (by rfl) (by rfl) (fun K hK => ?_); go_big_quiet_op; refine hK _ ?_; clear hK K) | (refine planC_skip (by simp only [List.getElem?_toArray, List.getElem?_cons_zero, List.getElem?_cons_succ]; rfl) (by rfl) ?_; simp only [Act.put, List.setIfInBounds_toArray, List.set_cons_zero, List.set_cons_succ]))
          refine planC_nil ?_
          go_wp2_with fail
          go_ret
          exact ⟨by simp, hE5.trans (grow_ext _)⟩
        · (refine planC_loud (by simp only [List.getElem?_toArray, List.getElem?_cons_zero, List.getElem?_cons_succ]; rfl) (by rfl) (by rfl) (fun K E hK => ?_); go_big_op)
          obtain ⟨y6, hy6⟩ := more_of ((grow_ext y1).alloc (.cells #[.string (bs (a ++ b))] 9))
          have h11 : Rd ((grow w5 y1).alloc (.cells #[.string (bs (a ++ b))] 9)) ((grow w5 y1).alloc (.cells #[.string (bs (a ++ b))] 9)).heap.size (some ⟨(grow w5 y1).heap.size, 0, none⟩) ([a ++ b].map strV) := Blk.rd (Blk.new _ _ _)
          replace h5 := (h5.below ((Ext.refl _).alloc (.cells #[.string (bs (a ++ b))] 9)) (Nat.le_refl _)).more ((Ext.refl _).alloc (.cells #[.string (bs (a ++ b))] 9)).size
          rw [hy6] at h11 h5 ⊢
          clear hy6; generalize (grow w5 y1).heap.size = g11 at *
          refine hK _ _ ⟨_, rfl⟩ ?_; clear hK K E
          refine planC_one ?_
          have hcv := conv_bytes (grow w5 y6) _ _ (zerosB n) n n (by simp [zerosB]) h5
          (refine planC_loud (by simp only [List.getElem?_toArray, List.getElem?_cons_zero, List.getElem?_cons_succ]; rfl) (by rfl) (by rfl) (fun K E hK => ?_); go_big_op)
          refine hK _ _ ⟨_, rfl⟩ ?_; clear hK K E
          clear h5
          clear hcv
          iterate 1 (first | (refine planC_quiet (by simp only [List.getElem?_toArray, List.getElem?_cons_zero, List.getElem?_cons_succ]; rfl) (by rfl) (by rfl) (fun K hK => ?_); go_big_quiet_op; refine hK _ ?_; clear hK K) | (refine planC_skip (by simp only [List.getElem?_toArray, List.getElem?_cons_zero, List.getElem?_cons_succ]; rfl) (by rfl) ?_; simp only [Act.put, List.setIfInBounds_toArray, List.set_cons_zero, List.set_cons_succ]))
          refine planC_one ?_
          (refine planC_loud (by simp only [List.getElem?_toArray, List.getElem?_cons_zero, List.getElem?_cons_succ]; rfl) (by rfl) (by rfl) (fun K E hK => ?_); go_big_op)
          refine (MOf_calls (key ++ zerosB n) (by simp [zerosB]; omega) [a ++ b] _ 1 (grow w5 y6) (hKs _) h11 (by simp) (by rw [hj]; simp; omega)).mono ?_; rw [hj, macOf_zeros key _ n (by omega), ← Hmac.out]; unfold sumV; rintro e w3 ⟨rfl, hd⟩
          obtain ⟨y8, rfl⟩ := more_ext y6 hd; clear hd
          refine hK _ _ ⟨_, rfl⟩ ?_; clear hK K E
          clear h11
          iterate 4 (first | (refine planC_quiet (by simp only [List.getElem?_toArray, List.getElem?_cons_zero, List.getElem?_cons_succ]; rfl) (by rfl) (by rfl) (fun K hK => ?_); go_big_quiet_op; refine hK _ ?_; clear hK K) | (refine planC_skip (by simp only [List.getElem?_toArray, List.getElem?_cons_zero, List.getElem?_cons_succ]; rfl) (by rfl) ?_; simp only [Act.put, List.setIfInBounds_toArray, List.set_cons_zero, List.set_cons_succ]))
          refine planC_one ?_
          (refine planC_loud (by simp only [List.getElem?_toArray, List.getElem?_cons_zero, List.getElem?_cons_succ]; rfl) (by rfl) (by rfl) (fun K E hK => ?_); go_big_op)
          refine (Pad_calls key (by omega) (grow w5 y8) (hKs _)).mono ?_; rintro e w3 ⟨rfl, hd⟩
          obtain ⟨y9, rfl⟩ := more_ext y8 hd; clear hd
          refine hK _ _ ⟨_, rfl⟩ ?_; clear hK K E
          iterate 4 (first | (refine planC_quiet (by simp only [List.getElem?_toArray, List.getElem?_cons_zero, List.getElem?_cons_succ]; rfl) (by rfl) (by rfl) (fun K hK => ?_); go_big_quiet_op; refine hK _ ?_; clear hK K) | (refine planC_skip (by simp only [List.getElem?_toArray, List.getElem?_cons_zero, List.getElem?_cons_succ]; rfl) (by rfl) ?_; simp only [Act.put, List.setIfInBounds_toArray, List.set_cons_zero, List.set_cons_succ]))
          refine planC_nil ?_
          go_wp2_with fail
          go_ret
          exact ⟨by simp, hE5.trans (grow_ext _)⟩
      · (refine planC_loud (by simp only [List.getElem?_toArray, List.getElem?_cons_zero, List.getElem?_cons_succ]; rfl) (by rfl) (by rfl) (fun K E hK => ?_); go_big_op)
        obtain ⟨y10, hy10⟩ := more_of ((grow_ext y0).alloc (.cells #[.string (bs (a ++ b))] 9))
        have h11 : Rd ((grow w5 y0).alloc (.cells #[.string (bs (a ++ b))] 9)) ((grow w5 y0).alloc (.cells #[.string (bs (a ++ b))] 9)).heap.size (some ⟨(grow w5 y0).heap.size, 0, none⟩) ([a ++ b].map strV) := Blk.rd (Blk.new _ _ _)
        rw [hy10] at h11 ⊢
        clear hy10; generalize (grow w5 y0).heap.size = g11 at *
        refine hK _ _ ⟨_, rfl⟩ ?_; clear hK K E
        refine planC_one ?_
        obtain ⟨wm, hrun, hown, hgr⟩ := run_make_full (P := Tryd.prog) (grow w5 y10) (grow w5 y10).heap.size 37 5 i0 (.int .u8 0) 1 Tryd.underlying37 hi hz0 hz1 .i64 .i64 n (by rw [hz2]; omega) (by unfold maxLen; omega) (Nat.le_refl _)
        (refine planC_loud (by simp only [List.getElem?_toArray, List.getElem?_cons_zero, List.getElem?_cons_succ]; rfl) (by rfl) (by rfl) (fun K E hK => ?_); go_big_op)
        clear hrun; rw [made_bytes] at hown
        have hd : Ext (grow w5 y10) wm := ⟨hgr.os, hgr.tape, hgr.output, hgr.size, fun k hk => hgr.block k hk (by simp)⟩
        have h5 : Rd wm wm.heap.size (some ⟨(grow w5 y10).heap.size, 0, none⟩) ((zerosB n).map byteV) := Rd.of_own hown
        clear hown hgr
        replace h11 := (h11.below hd (Nat.le_refl _)).more hd.size
        obtain ⟨y11, rfl⟩ := more_ext y10 hd; clear hd
        generalize (grow w5 y10).heap.size = g5 at *
        refine hK _ _ ⟨_, rfl⟩ ?_; clear hK K E
        refine planC_one ?_
        have hcv := conv_bytes (grow w5 y11) _ _ (zerosB n) n n (by simp [zerosB]) h5
        (refine planC_loud (by simp only [List.getElem?_toArray, List.getElem?_cons_zero, List.getElem?_cons_succ]; rfl) (by rfl) (by rfl) (fun K E hK => ?_); go_big_op)
        refine hK _ _ ⟨_, rfl⟩ ?_; clear hK K E
        clear h5
        clear hcv
        iterate 1 (first | (refine planC_quiet (by simp only [List.getElem?_toArray, List.getElem?_cons_zero, List.getElem?_cons_succ]; rfl) (by rfl) (by rfl) (fun K hK => ?_); go_big_quiet_op; refine hK _ ?_; clear hK K) | (refine planC_skip (by simp only [List.getElem?_toArray, List.getElem?_cons_zero, List.getElem?_cons_succ]; rfl) (by rfl) ?_; simp only [Act.put, List.setIfInBounds_toArray, List.set_cons_zero, List.set_cons_succ]))
        refine planC_one ?_
        (refine planC_loud (by simp only [List.getElem?_toArray, List.getElem?_cons_zero, List.getElem?_cons_succ]; rfl) (by rfl) (by rfl) (fun K E hK => ?_); go_big_op)
        refine (MOf_calls (key ++ zerosB n) (by simp [zerosB]; omega) [a ++ b] _ 1 (grow w5 y11) (hKs _) h11 (by simp) (by rw [hj]; simp; omega)).mono ?_; rw [hj, macOf_zeros key _ n (by omega), ← Hmac.out]; unfold sumV; rintro e w3 ⟨rfl, hd⟩
        obtain ⟨y13, rfl⟩ := more_ext y11 hd; clear hd
        refine hK _ _ ⟨_, rfl⟩ ?_; clear hK K E
        clear h11
        iterate 4 (first | (refine planC_quiet (by simp only [List.getElem?_toArray, List.getElem?_cons_zero, List.getElem?_cons_succ]; rfl) (by rfl) (by rfl) (fun K hK => ?_); go_big_quiet_op; refine hK _ ?_; clear hK K) | (refine planC_skip (by simp only [List.getElem?_toArray, List.getElem?_cons_zero, List.getElem?_cons_succ]; rfl) (by rfl) ?_; simp only [Act.put, List.setIfInBounds_toArray, List.set_cons_zero, List.set_cons_succ]))
        refine planC_one ?_
        (refine planC_loud (by simp only [List.getElem?_toArray, List.getElem?_cons_zero, List.getElem?_cons_succ]; rfl) (by rfl) (by rfl) (fun K E hK => ?_); go_big_op)
        refine (Pad_calls key (by omega) (grow w5 y13) (hKs _)).mono ?_; rintro e w3 ⟨rfl, hd⟩
        obtain ⟨y14, rfl⟩ := more_ext y13 hd; clear hd
        refine hK _ _ ⟨_, rfl⟩ ?_; clear hK K E
        iterate 4 (first | (refine planC_quiet (by simp only [List.getElem?_toArray, List.getElem?_cons_zero, List.getElem?_cons_succ]; rfl) (by rfl) (by rfl) (fun K hK => ?_); go_big_quiet_op; refine hK _ ?_; clear hK K) | (refine planC_skip (by simp only [List.getElem?_toArray, List.getElem?_cons_zero, List.getElem?_cons_succ]; rfl) (by rfl) ?_; simp only [Act.put, List.setIfInBounds_toArray, List.set_cons_zero, List.set_cons_succ]))
        refine planC_nil ?_
        go_wp2_with fail
        go_ret
        exact ⟨by simp, hE5.trans (grow_ext _)⟩

    · obtain ⟨n, hq⟩ : ∃ n : Nat, z.tmod (65 - (key.length : Int)) = (n : Int) := ⟨(z.tmod (65 - (key.length : Int))).toNat, by omega⟩
      rw [hq] at hpos hq1 hq2
      have hnl : key.length + n ≤ 64 := by omega
      have hzl : (zerosB n).length = n := by simp [zerosB]
      have hkz : ¬ (9223372036854775807 < key.length + (zerosB n).length) := by omega
      have hkz2 : ¬ (9223372036854775807 < key.length + n) := by omega
      have hpl := padB_length key
      have hplI : ((padB key).length : Int) = 64 := by omega
      have Hzl := Lib.hid hzl; clear hzl
      go_wp2_with fail
      clear hq
      refine region_planC 22 (Plan.run [0, 1, 2, 3, 4, 8, 9, 10] (.two 5 11 (Plan.run [] (.two 6 11 (Plan.run [7, 11, 12, 13, 14, 15, 16, 17, 18, 19, 20, 21] .nil) (Plan.run [6, 7, 12, 13, 14, 15, 16, 17, 18, 19, 20, 21] .nil))) (Plan.run [5, 6, 7, 12, 13, 14, 15, 16, 17, 18, 19, 20, 21] .nil))) (by kernel_rfl) (by kernel_rfl) (fun y0 => ?_); simp only [Plan.run, List.drop_succ_cons, List.drop_zero, List.drop_nil]
      iterate 2 (first | (refine planC_quiet (by simp only [List.getElem?_toArray, List.getElem?_cons_zero, List.getElem?_cons_succ]; rfl) (by rfl) (by rfl) (fun K hK => ?_); go_big_quiet_op; refine hK _ ?_; clear hK K) | (refine planC_skip (by simp only [List.getElem?_toArray, List.getElem?_cons_zero, List.getElem?_cons_succ]; rfl) (by rfl) ?_; simp only [Act.put, List.setIfInBounds_toArray, List.set_cons_zero, List.set_cons_succ]))
      refine planC_row (by simp only [List.getElem?_toArray, List.getElem?_cons_zero, List.getElem?_cons_succ]; rfl) (by rfl) (by rfl) 33 (.tmp 10) rfl gx (by rfl) _ _ _ hX5 Tryd.underlying33 rfl (size32.trans (by simp [hml])) ?_
      simp only [Act.put, List.setIfInBounds_toArray, List.set_cons_zero, List.set_cons_succ]
      iterate 5 (first | (refine planC_quiet (by simp only [List.getElem?_toArray, List.getElem?_cons_zero, List.getElem?_cons_succ]; rfl) (by rfl) (by rfl) (fun K hK => ?_); go_big_quiet_op; refine hK _ ?_; clear hK K) | (refine planC_skip (by simp only [List.getElem?_toArray, List.getElem?_cons_zero, List.getElem?_cons_succ]; rfl) (by rfl) ?_; simp only [Act.put, List.setIfInBounds_toArray, List.set_cons_zero, List.set_cons_succ]))
      refine planC_two ?_ ?_
      · obtain ⟨wm, hrun, hown, hgr⟩ := run_make_full (P := Tryd.prog) (grow w5 y0) (grow w5 y0).heap.size 37 5 i0 (.int .u8 0) 1 Tryd.underlying37 hi hz0 hz1 .i64 .i64 n (by rw [hz2]; omega) (by unfold maxLen; omega) (Nat.le_refl _)
        (refine planC_loud (by simp only [List.getElem?_toArray, List.getElem?_cons_zero, List.getElem?_cons_succ]; rfl) (by rfl) (by rfl) (fun K E hK => ?_); go_big_op)
        clear hrun; rw [made_bytes] at hown
        have hd : Ext (grow w5 y0) wm := ⟨hgr.os, hgr.tape, hgr.output, hgr.size, fun k hk => hgr.block k hk (by simp)⟩
        have h5 : Rd wm wm.heap.size (some ⟨(grow w5 y0).heap.size, 0, none⟩) ((zerosB n).map byteV) := Rd.of_own hown
        clear hown hgr
        obtain ⟨y1, rfl⟩ := more_ext y0 hd; clear hd
        generalize (grow w5 y0).heap.size = g5 at *
        refine hK _ _ ⟨_, rfl⟩ ?_; clear hK K E
        refine planC_two ?_ ?_
        · have hcv := conv_bytes (grow w5 y1) _ _ (zerosB n) n n (by simp [zerosB]) h5
          (refine planC_loud (by simp only [List.getElem?_toArray, List.getElem?_cons_zero, List.getElem?_cons_succ]; rfl) (by rfl) (by rfl) (fun K E hK => ?_); go_big_op)
          refine hK _ _ ⟨_, rfl⟩ ?_; clear hK K E
          clear h5
          clear hcv
          iterate 1 (first | (refine planC_quiet (by simp only [List.getElem?_toArray, List.getElem?_cons_zero, List.getElem?_cons_succ]; rfl) (by rfl) (by rfl) (fun K hK => ?_); go_big_quiet_op; refine hK _ ?_; clear hK K) | (refine planC_skip (by simp only [List.getElem?_toArray, List.getElem?_cons_zero, List.getElem?_cons_succ]; rfl) (by rfl) ?_; simp only [Act.put, List.setIfInBounds_toArray, List.set_cons_zero, List.set_cons_succ]))
          refine planC_one ?_
          (refine planC_loud (by simp only [List.getElem?_toArray, List.getElem?_cons_zero, List.getElem?_cons_succ]; rfl) (by rfl) (by rfl) (fun K E hK => ?_); go_big_op)
          obtain ⟨y3, hy3⟩ := more_of ((grow_ext y1).alloc (.cells #[.string (bs (a ++ b))] 9))
          have h11 : Rd ((grow w5 y1).alloc (.cells #[.string (bs (a ++ b))] 9)) ((grow w5 y1).alloc (.cells #[.string (bs (a ++ b))] 9)).heap.size (some ⟨(grow w5 y1).heap.size, 0, none⟩) ([a ++ b].map strV) := Blk.rd (Blk.new _ _ _)
          rw [hy3] at h11 ⊢
          clear hy3; generalize (grow w5 y1).heap.size = g11 at *
          refine hK _ _ ⟨_, rfl⟩ ?_; clear hK K E
          refine planC_one ?_
          (refine planC_loud (by simp only [List.getElem?_toArray, List.getElem?_cons_zero, List.getElem?_cons_succ]; rfl) (by rfl) (by rfl) (fun K E hK => ?_); go_big_op)
          refine (MOf_calls (key ++ zerosB n) (by simp [zerosB]; omega) [a ++ b] _ 1 (grow w5 y3) (hKs _) h11 (by simp) (by rw [hj]; simp; omega)).mono ?_; rw [hj, macOf_zeros key _ n (by omega), ← Hmac.out]; unfold sumV; rintro e w3 ⟨rfl, hd⟩
          obtain ⟨y4, rfl⟩ := more_ext y3 hd; clear hd
          refine hK _ _ ⟨_, rfl⟩ ?_; clear hK K E
          clear h11
          iterate 4 (first | (refine planC_quiet (by simp only [List.getElem?_toArray, List.getElem?_cons_zero, List.getElem?_cons_succ]; rfl) (by rfl) (by rfl) (fun K hK => ?_); go_big_quiet_op; refine hK _ ?_; clear hK K) | (refine planC_skip (by simp only [List.getElem?_toArray, List.getElem?_cons_zero, List.getElem?_cons_succ]; rfl) (by rfl) ?_; simp only [Act.put, List.setIfInBounds_toArray, List.set_cons_zero, List.set_cons_succ]))
          refine planC_one ?_
          (refine planC_loud (by simp only [List.getElem?_toArray, List.getElem?_cons_zero, List.getElem?_cons_succ]; rfl) (by rfl) (by rfl) (fun K E hK => ?_); go_big_op)
          refine (Pad_calls key (by omega) (grow w5 y4) (hKs _)).mono ?_; rintro e w3 ⟨rfl, hd⟩
          obtain ⟨y5, rfl⟩ := more_ext y4 hd; clear hd
          refine hK _ _ ⟨_, rfl⟩ ?_; clear hK K E
          iterate 4 (first | (refine planC_quiet (by simp only [List.getElem?_toArray, List.getElem?_cons_zero, List.getElem?_cons_succ]; rfl) (by rfl) (by rfl) (fun K hK => ?_); go_big_quiet_op; refine hK _ ?_; clear hK K) | (refine planC_skip (by simp only [List.getElem?_toArray, List.getElem?_cons_zero, List.getElem?_cons_succ]; rfl) (by rfl) ?_; simp only [Act.put, List.setIfInBounds_toArray, List.set_cons_zero, List.set_cons_succ]))
          refine planC_nil ?_
          go_wp2_with fail
          go_ret
          exact ⟨by simp, hE5.trans (grow_ext _)⟩
        · (refine planC_loud (by simp only [List.getElem?_toArray, List.getElem?_cons_zero, List.getElem?_cons_succ]; rfl) (by rfl) (by rfl) (fun K E hK => ?_); go_big_op)
          obtain ⟨y6, hy6⟩ := more_of ((grow_ext y1).alloc (.cells #[.string (bs (a ++ b))] 9))
          have h11 : Rd ((grow w5 y1).alloc (.cells #[.string (bs (a ++ b))] 9)) ((grow w5 y1).alloc (.cells #[.string (bs (a ++ b))] 9)).heap.size (some ⟨(grow w5 y1).heap.size, 0, none⟩) ([a ++ b].map strV) := Blk.rd (Blk.new _ _ _)
          replace h5 := (h5.below ((Ext.refl _).alloc (.cells #[.string (bs (a ++ b))] 9)) (Nat.le_refl _)).more ((Ext.refl _).alloc (.cells #[.string (bs (a ++ b))] 9)).size
          rw [hy6] at h11 h5 ⊢
          clear hy6; generalize (grow w5 y1).heap.size = g11 at *
          refine hK _ _ ⟨_, rfl⟩ ?_; clear hK K E
          refine planC_one ?_
          have hcv := conv_bytes (grow w5 y6) _ _ (zerosB n) n n (by simp [zerosB]) h5
          (refine planC_loud (by simp only [List.getElem?_toArray, List.getElem?_cons_zero, List.getElem?_cons_succ]; rfl) (by rfl) (by rfl) (fun K E hK => ?_); go_big_op)
          refine hK _ _ ⟨_, rfl⟩ ?_; clear hK K E
          clear h5
          clear hcv
          iterate 1 (first | (refine planC_quiet (by simp only [List.getElem?_toArray, List.getElem?_cons_zero, List.getElem?_cons_succ]; rfl) (by rfl) (by rfl) (fun K hK => ?_); go_big_quiet_op; refine hK _ ?_; clear hK K) | (refine planC_skip (by simp only [List.getElem?_toArray, List.getElem?_cons_zero, List.getElem?_cons_succ]; rfl) (by rfl) ?_; simp only [Act.put, List.setIfInBounds_toArray, List.set_cons_zero, List.set_cons_succ]))
          refine planC_one ?_
          (refine planC_loud (by simp only [List.getElem?_toArray, List.getElem?_cons_zero, List.getElem?_cons_succ]; rfl) (by rfl) (by rfl) (fun K E hK => ?_); go_big_op)
          refine (MOf_calls (key ++ zerosB n) (by simp [zerosB]; omega) [a ++ b] _ 1 (grow w5 y6) (hKs _) h11 (by simp) (by rw [hj]; simp; omega)).mono ?_; rw [hj, macOf_zeros key _ n (by omega), ← Hmac.out]; unfold sumV; rintro e w3 ⟨rfl, hd⟩
          obtain ⟨y8, rfl⟩ := more_ext y6 hd; clear hd
          refine hK _ _ ⟨_, rfl⟩ ?_; clear hK K E
          clear h11
          iterate 4 (first | (refine planC_quiet (by simp only [List.getElem?_toArray, List.getElem?_cons_zero, List.getElem?_cons_succ]; rfl) (by rfl) (by rfl) (fun K hK => ?_); go_big_quiet_op; refine hK _ ?_; clear hK K) | (refine planC_skip (by simp only [List.getElem?_toArray, List.getElem?_cons_zero, List.getElem?_cons_succ]; rfl) (by rfl) ?_; simp only [Act.put, List.setIfInBounds_toArray, List.set_cons_zero, List.set_cons_succ]))
          refine planC_one ?_
          (refine planC_loud (by simp only [List.getElem?_toArray, List.getElem?_cons_zero, List.getElem?_cons_succ]; rfl) (by rfl) (by rfl) (fun K E hK => ?_); go_big_op)
          refine (Pad_calls key (by omega) (grow w5 y8) (hKs _)).mono ?_; rintro e w3 ⟨rfl, hd⟩
          obtain ⟨y9, rfl⟩ := more_ext y8 hd; clear hd
          refine hK _ _ ⟨_, rfl⟩ ?_; clear hK K E
          iterate 4 (first | (refine planC_quiet (by simp only [List.getElem?_toArray, List.getElem?_cons_zero, List.getElem?_cons_succ]; rfl) (by rfl) (by rfl) (fun K hK => ?_); go_big_quiet_op; refine hK _ ?_; clear hK K) | (refine planC_skip (by simp only [List.getElem?_toArray, List.getElem?_cons_zero, List.getElem?_cons_succ]; rfl) (by rfl) ?_; simp only [Act.put, List.setIfInBounds_toArray, List.set_cons_zero, List.set_cons_succ]))
          refine planC_nil ?_
          go_wp2_with fail
          go_ret
          exact ⟨by simp, hE5.trans (grow_ext _)⟩
      · (refine planC_loud (by simp only [List.getElem?_toArray, List.getElem?_cons_zero, List.getElem?_cons_succ]; rfl) (by rfl) (by rfl) (fun K E hK => ?_); go_big_op)
        obtain ⟨y10, hy10⟩ := more_of ((grow_ext y0).alloc (.cells #[.string (bs (a ++ b))] 9))
        have h11 : Rd ((grow w5 y0).alloc (.cells #[.string (bs (a ++ b))] 9)) ((grow w5 y0).alloc (.cells #[.string (bs (a ++ b))] 9)).heap.size (some ⟨(grow w5 y0).heap.size, 0, none⟩) ([a ++ b].map strV) := Blk.rd (Blk.new _ _ _)
        rw [hy10] at h11 ⊢
        clear hy10; generalize (grow w5 y0).heap.size = g11 at *
        refine hK _ _ ⟨_, rfl⟩ ?_; clear hK K E
        refine planC_one ?_
        obtain ⟨wm, hrun, hown, hgr⟩ := run_make_full (P := Tryd.prog) (grow w5 y10) (grow w5 y10).heap.size 37 5 i0 (.int .u8 0) 1 Tryd.underlying37 hi hz0 hz1 .i64 .i64 n (by rw [hz2]; omega) (by unfold maxLen; omega) (Nat.le_refl _)
        (refine planC_loud (by simp only [List.getElem?_toArray, List.getElem?_cons_zero, List.getElem?_cons_succ]; rfl) (by rfl) (by rfl) (fun K E hK => ?_); go_big_op)
        clear hrun; rw [made_bytes] at hown
        have hd : Ext (grow w5 y10) wm := ⟨hgr.os, hgr.tape, hgr.output, hgr.size, fun k hk => hgr.block k hk (by simp)⟩
        have h5 : Rd wm wm.heap.size (some ⟨(grow w5 y10).heap.size, 0, none⟩) ((zerosB n).map byteV) := Rd.of_own hown
        clear hown hgr
        replace h11 := (h11.below hd (Nat.le_refl _)).more hd.size
        obtain ⟨y11, rfl⟩ := more_ext y10 hd; clear hd
        generalize (grow w5 y10).heap.size = g5 at *
        refine hK _ _ ⟨_, rfl⟩ ?_; clear hK K E
        refine planC_one ?_
        have hcv := conv_bytes (grow w5 y11) _ _ (zerosB n) n n (by simp [zerosB]) h5
        (refine planC_loud (by simp only [List.getElem?_toArray, List.getElem?_cons_zero, List.getElem?_cons_succ]; rfl) (by rfl) (by rfl) (fun K E hK => ?_); go_big_op)
        refine hK _ _ ⟨_, rfl⟩ ?_; clear hK K E
        clear h5
        clear hcv
        iterate 1 (first | (refine planC_quiet (by simp only [List.getElem?_toArray, List.getElem?_cons_zero, List.getElem?_cons_succ]; rfl) (by rfl) (by rfl) (fun K hK => ?_); go_big_quiet_op; refine hK _ ?_; clear hK K) | (refine planC_skip (by simp only [List.getElem?_toArray, List.getElem?_cons_zero, List.getElem?_cons_succ]; rfl) (by rfl) ?_; simp only [Act.put, List.setIfInBounds_toArray, List.set_cons_zero, List.set_cons_succ]))
        refine planC_one ?_
        (refine planC_loud (by simp only [List.getElem?_toArray, List.getElem?_cons_zero, List.getElem?_cons_succ]; rfl) (by rfl) (by rfl) (fun K E hK => ?_); go_big_op)
        refine (MOf_calls (key ++ zerosB n) (by simp [zerosB]; omega) [a ++ b] _ 1 (grow w5 y11) (hKs _) h11 (by simp) (by rw [hj]; simp; omega)).mono ?_; rw [hj, macOf_zeros key _ n (by omega), ← Hmac.out]; unfold sumV; rintro e w3 ⟨rfl, hd⟩
        obtain ⟨y13, rfl⟩ := more_ext y11 hd; clear hd
        refine hK _ _ ⟨_, rfl⟩ ?_; clear hK K E
        clear h11
        iterate 4 (first | (refine planC_quiet (by simp only [List.getElem?_toArray, List.getElem?_cons_zero, List.getElem?_cons_succ]; rfl) (by rfl) (by rfl) (fun K hK => ?_); go_big_quiet_op; refine hK _ ?_; clear hK K) | (refine planC_skip (by simp only [List.getElem?_toArray, List.getElem?_cons_zero, List.getElem?_cons_succ]; rfl) (by rfl) ?_; simp only [Act.put, List.setIfInBounds_toArray, List.set_cons_zero, List.set_cons_succ]))
        refine planC_one ?_
        (refine planC_loud (by simp only [List.getElem?_toArray, List.getElem?_cons_zero, List.getElem?_cons_succ]; rfl) (by rfl) (by rfl) (fun K E hK => ?_); go_big_op)
        refine (Pad_calls key (by omega) (grow w5 y13) (hKs _)).mono ?_; rintro e w3 ⟨rfl, hd⟩
        obtain ⟨y14, rfl⟩ := more_ext y13 hd; clear hd
        refine hK _ _ ⟨_, rfl⟩ ?_; clear hK K E
        iterate 4 (first | (refine planC_quiet (by simp only [List.getElem?_toArray, List.getElem?_cons_zero, List.getElem?_cons_succ]; rfl) (by rfl) (by rfl) (fun K hK => ?_); go_big_quiet_op; refine hK _ ?_; clear hK K) | (refine planC_skip (by simp only [List.getElem?_toArray, List.getElem?_cons_zero, List.getElem?_cons_succ]; rfl) (by rfl) ?_; simp only [Act.put, List.setIfInBounds_toArray, List.set_cons_zero, List.set_cons_succ]))
        refine planC_nil ?_
        go_wp2_with fail
        go_ret
        exact ⟨by simp, hE5.trans (grow_ext _)⟩


set_option maxRecDepth 100000 in
theorem contract (H : Type) (enc : TypeId × Value → H) (W : World) (base : Nat) (args : Array Value) (ds gs : List (DataW H)) (before : List MemPlace)
    (hval0 : ∀ (j : Nat) t v, Tryd.f10.params[j]? = some t → args[j]? = some v → Value.okWide Tryd.prog W .any base t v)
    (hW : DataW.Whole enc Tryd.prog Tryd.f10.params.toList Rows.macPartsSpec.vars false W args.toList ds gs before) (hL : laidMetH Tryd.prog Rows.macPartsRow.laid W) :
    Calls Tryd.prog 10 args W fun e W' => ∃ v, e = .returned v ∧ Rows.macPartsSpec.post enc Tryd.prog Tryd.f10 false true false false W args v W' := by
  have K : Keys W := keys_of hL
  have hval : ∀ (j : Nat) t v, Tryd.f10.params[j]? = some t → args[j]? = some v → Value.okWide Tryd.prog W .any base t v := hval0
  have hW' := hW
  obtain ⟨p, q, hA0, hV, rfl, hfz, hnd⟩ := hW
  have hA : DataW.TrodAll enc Tryd.prog W 0 (fun _ => true) true Tryd.f10.params.toList args.toList ds p := hA0
  rw [Tryd.params10] at hA hval
  obtain ⟨v0, vs0, d0, ds0, p0, q0, hargs, rfl, rfl, hx0, r0⟩ := trodAll_cons hA
  obtain ⟨v1, vs1, d1, ds1, p1, q1, rfl, rfl, rfl, hx1, r1⟩ := trodAll_cons r0
  obtain ⟨v2, vs2, d2, ds2, p2, q2, rfl, rfl, rfl, hx2, r2⟩ := trodAll_cons r1
  obtain ⟨rfl, rfl, rfl⟩ := trodAll_nil r2
  obtain rfl : args = #[v0, v1, v2] := by cases args; simp_all
  obtain ⟨rfl, rfl⟩ := trodVars_none hV
  obtain ⟨key, rfl, hkey⟩ := op_str (hval 0 9 v0 rfl rfl) (tr_of hx0)
  obtain ⟨s1, s2, rfl, hs1, hs2⟩ := op_s2 (hval 1 53 v1 rfl rfl) (tr_of hx1)
  obtain ⟨z, rfl, hz0, hz1⟩ := op_int (hval 2 3 v2 rfl rfl) (tr_of hx2)
  refine (walk key s1 s2 z hkey hs1 hs2 W K).mono fun e W' ⟨he, hg⟩ => ?_
  subst he
  exact ⟨_, rfl, law_post hW' rfl rfl (by kernel_rfl) rfl rfl rfl hg⟩

theorem laid_met (os : Os) : laidMet Tryd.prog Rows.macPartsRow.laid ((keysWorld os).forCall (fun _ _ => 0) ⟨#[], #[.string .empty, .agg #[.string .empty, .string .empty], .int .i64 0], []⟩).memory :=
  laidMet_of_run' 8 (by kernel_rfl) (by kernel_rfl)
theorem reads (os : Os) {H : Type} (enc : TypeId × Value → H) : ∃ x, DataW.whole enc Tryd.prog ((keysWorld os).forCall (fun _ _ => 0) ⟨#[], #[.string .empty, .agg #[.string .empty, .string .empty], .int .i64 0], []⟩).memory Tryd.f10.params.toList Rows.macPartsSpec.vars false (#[.string .empty, .agg #[.string .empty, .string .empty], .int .i64 0] : Array Value).toList 8 = some x :=
  Option.isSome_iff_exists.1 (by kernel_rfl)
set_option maxRecDepth 100000 in
theorem lifted (os : Os) (started : os.Started) (H : Type) (enc : TypeId × Value → H) (F : Stop.Interp) :
    ReturnsInHanded {} Tryd.checked os 10 .any ((OpenSpec.ofChange Rows.macPartsSpec).preRow enc Tryd.prog Tryd.f10 Rows.macPartsRow.domain false Rows.macPartsRow.laid) (((OpenSpec.ofChange Rows.macPartsSpec).at F).post enc Tryd.prog Tryd.f10 false true false false) := by
  obtain ⟨x, hx⟩ := reads os enc
  refine returnsInHanded_of_row (C := Tryd.checked) (s := OpenSpec.ofChange Rows.macPartsSpec) own_ started (by kernel_rfl) Tryd.func10
    (witness_row_at (enc := enc) (C := Tryd.checked) false (keysWorld os) #[.string .empty, .agg #[.string .empty, .string .empty], .int .i64 0] rfl (by kernel_rfl) (by kernel_rfl) (by kernel_rfl)
      (OpenSpec.preRow_of_cond 8 hx rfl (fun k hk => by cases hk) (by kernel_rfl) (laid_met os))) ?_
  intro W base args ds gs before hval hW _ _ _ hL _ _
  exact contract H enc W base args ds gs before hval hW hL

theorem said : Rows.MacPartsSaid :=
  OpenClaim.holds_of_cond 10 Tryd.f10 rfl rfl rfl rfl rfl rfl rfl ⟨rfl, rfl, rfl, rfl, rfl⟩ rfl rfl rfl rfl rfl (by kernel_rfl) Tryd.func10 (by kernel_rfl)
    (of_decide_eq_true (by kernel_rfl)) (by unfold Func.isWrapper; first | (rw [if_pos (by decide +kernel)]; kernel_rfl) | (rw [if_neg (by decide +kernel)]; exact ⟨rfl, rfl⟩))
    (fun os started H enc _ F => by rw [OpenClaim.pre_eq_preRow]; exact lifted os started H enc F)
theorem plain (f : FuncId) (fn : Func) (hf : Tryd.pinned.checked.prog.funcNamed "scrinium/scriniumlaw03.MacParts" = some f) (hfn : Tryd.pinned.checked.prog.funcs[f]? = some fn) :
    false = Tryd.pinned.checked.prog.looks [] ∧ ∀ (j : Nat) t, fn.params[j]? = some t → Tryd.pinned.checked.prog.wantsStandIn t = false := by
  obtain rfl : f = 10 := Option.some.inj ((show Tryd.prog.funcNamed "scrinium/scriniumlaw03.MacParts" = some 10 by kernel_rfl).symm.trans hf) |>.symm
  obtain rfl : fn = Tryd.f10 := (Option.some.inj (Tryd.func10.symm.trans hfn)).symm
  refine ⟨by kernel_rfl, fun j t ht => ?_⟩
  rw [Tryd.params10] at ht
  have hm : t ∈ ([9, 53, 3] : List TypeId) := by simpa using Array.mem_of_getElem? ht
  have hall : (([9, 53, 3] : List TypeId).all fun u => !Tryd.prog.wantsStandIn u) = true := by kernel_rfl
  exact (show Tryd.prog.wantsStandIn t = false by simpa using List.all_eq_true.1 hall t hm)
theorem proved : Rows.MacPartsCardSaid :=
  Claim7.holds_tied_plain_at .later [] _ _ _ _ said (fun _ h => by cases h) (by kernel_rfl) (fun _ h => by cases h) macParts_row_tie rfl ⟨rfl, rfl⟩ (by kernel_rfl) rfl plain (by kernel_rfl)

end Go.Proofs.YtgofnkpegfkonaaDoor.macParts
