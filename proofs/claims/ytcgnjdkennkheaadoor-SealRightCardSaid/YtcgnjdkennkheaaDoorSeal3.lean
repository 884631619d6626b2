/-
  The walks of seal's signed, HeadBytes, StoneBytes, HeadRight, StoneRight, Head, Stone.
-/
import Derived.Test.YtcgnjdkennkheaaDoorSeal2
import Derived.Test.YtcgnjdkennkheaaDoorMac3
set_option linter.unusedVariables false
set_option maxRecDepth 100000
set_option linter.unusedSimpArgs false
namespace Go.Proofs.YtcgnjdkennkheaaDoor
open Go.RowKit
open Seal (Fz Hd St)
attribute [local go_sem] bs_size bs_toList2 bs_append bs_extract_end bs_extract_begin bs_get wrap64_b grow_cell grow_frozen

theorem list_wantS {P : Program} {ops : Array Oper} {Q : Exit → Act → World → Prop} {a : Act} {w : World} {rest : List Oper} {o : Oper} (hw : Region.wanted o (yielded ops a.tmps) = true)
    (h : ∀ K : Act → World → Prop, (∀ a w, wpList P ops Q rest a w → K a w) → o.wp P a w K Q) : wpList P ops Q (o :: rest) a w := wpList_step fun K hK => by rw [if_pos hw]; exact h K hK
theorem joinB_one (s : List UInt8) : joinB [s] = s := by simp [joinB]
theorem joinB_two (s t : List UInt8) : joinB [s, t] = s ++ t := by simp [joinB]
namespace Seal
/-- What is signed. -/
def signB (key s : List UInt8) (e : Int) : List UInt8 := if e = 0 then macOf key s else List.replicate 32 0
theorem signB_length (key s : List UInt8) (e : Int) : (signB key s e).length = 32 := by
  unfold signB
  split
  · exact macOf_length _ _
  · simp
def Hd.sign (key : List UInt8) (size : Int) (root : List UInt8) (clock : Int) : Hd := ⟨size, root, clock, signB key (Hd.saysB ⟨size, root, clock, List.replicate 32 0⟩) (Hd.outE ⟨size, root, clock, List.replicate 32 0⟩)⟩
def St.sign (key : List UInt8) (f : Fz) (t : Int) : St := ⟨f, t, signB key (St.saysB ⟨f, t, List.replicate 32 0⟩) (St.outE ⟨f, t, List.replicate 32 0⟩)⟩
def Hd.rightB (key : List UInt8) (f : Hd) : Bool := decide (f.may ∧ f.mac = macOf key f.says)
def St.rightB (key : List UInt8) (f : St) : Bool := decide (f.may ∧ f.mac = macOf key f.says)
theorem Hd.saysB_length (f : Hd) (h : f.root.length = 32) : f.saysB.length ≤ 100 := by
  unfold Hd.saysB
  split
  · have := Hd.says_length f h; omega
  · simp
theorem St.saysB_length (f : St) (h : f.fz.root.length = 32) : f.saysB.length ≤ 100 := by
  unfold St.saysB
  split
  · exact St.says_length f h
  · simp
theorem Hd.outE_cases (f : Hd) : f.outE = 0 ∨ f.outE = 1 := by
  unfold Hd.outE
  split
  · exact .inl rfl
  · exact .inr rfl
theorem St.outE_cases (f : St) : f.outE = 0 ∨ f.outE = 1 := by
  unfold St.outE
  split
  · exact .inl rfl
  · exact .inr rfl
end Seal

theorem signed_calls (key s : List UInt8) (q : Int) (hq : q = 0 ∨ q = 1) (hk : key.length ≤ 4611686018427387904) (hs : s.length ≤ 1000000) (w : World) (KW : Keys w) : Calls Tryd.prog 34 #[.string (bs key), .string (bs s), .int .i64 q] w fun e w' => e = .returned (sumV (Seal.signB key s q)) ∧ Ext w w' := by
  have hB0 : ArrB (w.alloc (.cells ((zerosB 32).map byteV).toArray 23)) w.heap.size 23 (zerosB 32) := by
    have := Blk.new w 23 ((zerosB 32).map byteV).toArray
    exact this
  have hE0 : Ext w (w.alloc (.cells ((zerosB 32).map byteV).toArray 23)) := (Ext.refl w).alloc _
  obtain ⟨z, hz⟩ : ∃ z, z = Seal.signB key s q := ⟨_, rfl⟩
  rw [← hz]
  have hml : (z.map byteV).toArray.size = 32 := by rw [hz]; simp [Seal.signB_length]
  rcases hq with rfl | rfl
  · have hz2 : z = macOf key (joinB [s]) := by rw [hz, joinB_one]; rfl
    have Hz := Lib.hid hz2; clear hz hz2
    go_enter Tryd.func34, Tryd.ntmps34
    have Hml := Lib.hid hml; have Hhs := Lib.hid hs; clear hml hs
    go_wp2_with fail
    have hml := Hml.out; have hs := Hhs.out; clear Hml Hhs
    have hA : ∀ W : World, Rd (W.alloc (.cells #[.string (bs s)] 9)) (W.alloc (.cells #[.string (bs s)] 9)).heap.size (some ⟨W.heap.size, 0, none⟩) ([s].map strV) := fun W => Blk.rd (Blk.new W _ _)
    have hsz : w.heap.size + 1 = (w.alloc (.cells ((zerosB 32).map byteV).toArray 23)).heap.size := (alloc_size _ _).symm
    rw [hsz]
    change Calls _ _ _ ((w.alloc (.cells ((zerosB 32).map byteV).toArray 23)).alloc (.cells #[.string (bs s)] 9)) _
    clear hsz
    generalize (w.alloc (.cells ((zerosB 32).map byteV).toArray 23)) = w0 at *
    refine (MOf_calls key hk [s] _ 1 _ (KW.ext (hE0.alloc _)) (hA _) (by simp) (by rw [joinB_one]; omega)).mono ?_; rw [← Hz.out]; rintro e w1 ⟨rfl, e1⟩
    have hR1 := Blk.below (Blk.alloc hB0 _) e1 (Blk.lt (Blk.alloc hB0 _))
    have hE1 := (hE0.alloc _).trans e1
    clear Hz hA
    unfold sumV
    go_wp2_with (refine stop_store 23 (.tmp 6) (.tmp 13) rfl ?_)
    refine ⟨?_⟩
    refine wpList_store_row rfl 23 (.tmp 6) (.tmp 13) rfl w.heap.size _ (by rfl) (by rfl) 23 _ hR1 (size32.trans (by rw [hml])) (by rw [hml]; simp [zerosB]) (by simp [byteV, Value.oneCell']) ?_
    simp only [Act.put, List.setIfInBounds_toArray, List.set_cons_zero, List.set_cons_succ]
    go_wp2_with fail
    (try simp only [Exit.inBlock, Exit.then])
    exact bodyPost_ret (results_cell_row rfl _ _ w.heap.size 23 _ (0, 0) _ rfl (Blk.row hR1 _) Tryd.underlying23 rfl (size32.trans (by rw [hml]))) rfl ⟨rfl, hE1.row (by omega) _⟩
  · have hz2 : z = zerosB 32 := hz
    subst hz2
    unfold sumV
    go_enter Tryd.func34, Tryd.ntmps34
    go_wp2_with (refine stop_store 23 (.tmp 6) (.tmp 9) rfl ?_)
    refine ⟨?_⟩
    change wpList _ _ _ _ _ (w.alloc (.cells ((zerosB 32).map byteV).toArray 23))
    generalize (w.alloc (.cells ((zerosB 32).map byteV).toArray 23)) = w0 at *
    refine wpList_store_row rfl 23 (.tmp 6) (.tmp 9) rfl w.heap.size ((zerosB 32).map byteV).toArray (by rfl) (by rfl) 23 _ hB0 (size32.trans (by rw [hml])) (by rfl) (by simp [byteV, Value.oneCell']) ?_
    simp only [Act.put, List.setIfInBounds_toArray, List.set_cons_zero, List.set_cons_succ]
    go_wp2_with fail
    (try simp only [Exit.inBlock, Exit.then])
    exact bodyPost_ret (results_cell_row rfl _ _ w.heap.size 23 _ (0, 0) _ rfl (Blk.row hB0 ((zerosB 32).map byteV).toArray) Tryd.underlying23 rfl (size32.trans (by rw [hml]))) rfl ⟨rfl, hE0.row (by omega) _⟩

set_option maxHeartbeats 1000000 in
theorem HeadBytes_calls (f : Hd) (hf : f.root.length = 32) (hg : f.mac.length = 32) (w : World) : Calls Tryd.prog 20 #[f.v] w fun e w' => e = .returned (.tuple #[.string (bs f.outB), .int .i64 f.outE]) ∧ Ext w w' := by
  have hB0 : HdAt (w.alloc (.cells f.cells.toArray 25)) w.heap.size f := by
    have := Blk.new w 25 f.cells.toArray
    exact this
  have hE0 : Ext w (w.alloc (.cells f.cells.toArray 25)) := (Ext.refl w).alloc _
  by_cases hm : f.may
  · obtain ⟨hs, ho, he⟩ := Seal.Hd.out_ok f hm
    have hj : joinB [f.says, Oct.text f.mac] = f.bytes := by rw [joinB_two]; rfl
    have hjl : (joinB [f.says, Oct.text f.mac]).length ≤ 140737488355328 := by
      rw [joinB_two, List.length_append]
      have a := Seal.text_le f.mac
      have b := Seal.Hd.says_length f hf
      omega
    rw [ho, he, ← hj]
    clear hj hm
    unfold Seal.Hd.v
    go_enter Tryd.func20, Tryd.ntmps20
    go_wp2_with (refine stop_load 25 (.tmp 1) rfl ?_)
    refine ⟨?_⟩
    change wpList _ _ _ _ _ (w.alloc (.cells f.cells.toArray 25))
    generalize (w.alloc (.cells f.cells.toArray 25)) = w0 at *
    refine wpList_load_row rfl 25 (.tmp 1) rfl w.heap.size (by rfl) 25 _ (0, 0) _ hB0 Tryd.underlying25 rfl (Seal.size_hd f hf hg) ?_
    simp only [Act.put, List.setIfInBounds_toArray, List.set_cons_zero, List.set_cons_succ]
    go_wp2_with fail
    change Calls _ _ #[f.v] _ _
    refine (headSays_calls f hf _).mono ?_; rw [hs, he]; rintro e w1 ⟨rfl, e1⟩
    have hB1 := HdAt.ext hB0 e1
    have hE1 := hE0.trans e1
    clear hB0 hE0 e1 hs ho he
    have hmac := HdAt.mac hB1 hf
    have hlt := Blk.lt hB1
    go_wp2_with (refine stop_load 23 (.tmp 15) rfl ?_)
    refine ⟨?_⟩
    refine wpList_load_mid rfl 23 (.tmp 15) rfl w.heap.size 34 (by rfl) (hcells f.mac) _ hmac Tryd.underlying23 rfl (size32l _ hg) ?_
    simp only [Act.put, List.setIfInBounds_toArray, List.set_cons_zero, List.set_cons_succ]
    go_wp2_with fail
    change Calls _ _ #[sumV f.mac] _ _
    refine (sSum_calls f.mac hg _).mono ?_; rintro e w2 ⟨rfl, e2⟩
    have hE2 := hE1.trans e2
    go_wp2_with fail
    have hRd : Rd (w2.alloc (.cells #[.string (bs f.says), .string (bs (Oct.text f.mac))] 9)) (w2.alloc (.cells #[.string (bs f.says), .string (bs (Oct.text f.mac))] 9)).heap.size (some ⟨w2.heap.size, 0, none⟩) ([f.says, Oct.text f.mac].map strV) := Blk.rd (Blk.new w2 _ _)
    refine (Says_calls [f.says, Oct.text f.mac] w2.heap.size 2 _ hRd (Blk.new w2 _ _).lt (by simp) (by simp) hjl).mono ?_; rintro e w3 ⟨rfl, e3⟩
    go_wp2_with fail
    go_ret2
    exact ⟨rfl, (hE2.alloc _).trans e3⟩
  · obtain ⟨hs, ho, he⟩ := Seal.Hd.out_no f hm
    rw [ho, he]
    clear hm
    unfold Seal.Hd.v
    go_enter Tryd.func20, Tryd.ntmps20
    go_wp2_with (refine stop_load 25 (.tmp 1) rfl ?_)
    refine ⟨?_⟩
    change wpList _ _ _ _ _ (w.alloc (.cells f.cells.toArray 25))
    generalize (w.alloc (.cells f.cells.toArray 25)) = w0 at *
    refine wpList_load_row rfl 25 (.tmp 1) rfl w.heap.size (by rfl) 25 _ (0, 0) _ hB0 Tryd.underlying25 rfl (Seal.size_hd f hf hg) ?_
    simp only [Act.put, List.setIfInBounds_toArray, List.set_cons_zero, List.set_cons_succ]
    go_wp2_with fail
    change Calls _ _ #[f.v] _ _
    refine (headSays_calls f hf _).mono ?_; rw [hs, he]; rintro e w1 ⟨rfl, e1⟩
    have hB1 := HdAt.ext hB0 e1
    have hE1 := hE0.trans e1
    clear hB0 hE0 e1 hs ho he
    go_wp2_with fail
    go_ret2
    exact ⟨rfl, hE1⟩

set_option maxHeartbeats 1000000 in
theorem StoneBytes_calls (f : St) (hf : f.fz.root.length = 32) (hg : f.mac.length = 32) (w : World) : Calls Tryd.prog 21 #[f.v] w fun e w' => e = .returned (.tuple #[.string (bs f.outB), .int .i64 f.outE]) ∧ Ext w w' := by
  have hB0 : StAt (w.alloc (.cells f.cells.toArray 29)) w.heap.size f := by
    have := Blk.new w 29 f.cells.toArray
    exact this
  have hE0 : Ext w (w.alloc (.cells f.cells.toArray 29)) := (Ext.refl w).alloc _
  by_cases hm : f.may
  · obtain ⟨hs, ho, he⟩ := Seal.St.out_ok f hm
    have hj : joinB [f.says, Oct.text f.mac] = f.bytes := by rw [joinB_two]; rfl
    have hjl : (joinB [f.says, Oct.text f.mac]).length ≤ 140737488355328 := by
      rw [joinB_two, List.length_append]
      have a := Seal.text_le f.mac
      have b := Seal.St.says_length f hf
      omega
    rw [ho, he, ← hj]
    clear hj hm
    unfold Seal.St.v
    go_enter Tryd.func21, Tryd.ntmps21
    go_wp2_with (refine stop_load 29 (.tmp 1) rfl ?_)
    refine ⟨?_⟩
    change wpList _ _ _ _ _ (w.alloc (.cells f.cells.toArray 29))
    generalize (w.alloc (.cells f.cells.toArray 29)) = w0 at *
    refine wpList_load_row rfl 29 (.tmp 1) rfl w.heap.size (by rfl) 29 _ (0, 0) _ hB0 Tryd.underlying29 rfl (Seal.size_st f hf hg) ?_
    simp only [Act.put, List.setIfInBounds_toArray, List.set_cons_zero, List.set_cons_succ]
    go_wp2_with fail
    change Calls _ _ #[f.v] _ _
    refine (stoneSays_calls f hf _).mono ?_; rw [hs, he]; rintro e w1 ⟨rfl, e1⟩
    have hB1 := StAt.ext hB0 e1
    have hE1 := hE0.trans e1
    clear hB0 hE0 e1 hs ho he
    have hmac := StAt.mac hB1 hf
    have hlt := Blk.lt hB1
    go_wp2_with (refine stop_load 23 (.tmp 15) rfl ?_)
    refine ⟨?_⟩
    refine wpList_load_mid rfl 23 (.tmp 15) rfl w.heap.size 35 (by rfl) (hcells f.mac) _ hmac Tryd.underlying23 rfl (size32l _ hg) ?_
    simp only [Act.put, List.setIfInBounds_toArray, List.set_cons_zero, List.set_cons_succ]
    go_wp2_with fail
    change Calls _ _ #[sumV f.mac] _ _
    refine (sSum_calls f.mac hg _).mono ?_; rintro e w2 ⟨rfl, e2⟩
    have hE2 := hE1.trans e2
    go_wp2_with fail
    have hRd : Rd (w2.alloc (.cells #[.string (bs f.says), .string (bs (Oct.text f.mac))] 9)) (w2.alloc (.cells #[.string (bs f.says), .string (bs (Oct.text f.mac))] 9)).heap.size (some ⟨w2.heap.size, 0, none⟩) ([f.says, Oct.text f.mac].map strV) := Blk.rd (Blk.new w2 _ _)
    refine (Says_calls [f.says, Oct.text f.mac] w2.heap.size 2 _ hRd (Blk.new w2 _ _).lt (by simp) (by simp) hjl).mono ?_; rintro e w3 ⟨rfl, e3⟩
    go_wp2_with fail
    go_ret2
    exact ⟨rfl, (hE2.alloc _).trans e3⟩
  · obtain ⟨hs, ho, he⟩ := Seal.St.out_no f hm
    rw [ho, he]
    clear hm
    unfold Seal.St.v
    go_enter Tryd.func21, Tryd.ntmps21
    go_wp2_with (refine stop_load 29 (.tmp 1) rfl ?_)
    refine ⟨?_⟩
    change wpList _ _ _ _ _ (w.alloc (.cells f.cells.toArray 29))
    generalize (w.alloc (.cells f.cells.toArray 29)) = w0 at *
    refine wpList_load_row rfl 29 (.tmp 1) rfl w.heap.size (by rfl) 29 _ (0, 0) _ hB0 Tryd.underlying29 rfl (Seal.size_st f hf hg) ?_
    simp only [Act.put, List.setIfInBounds_toArray, List.set_cons_zero, List.set_cons_succ]
    go_wp2_with fail
    change Calls _ _ #[f.v] _ _
    refine (stoneSays_calls f hf _).mono ?_; rw [hs, he]; rintro e w1 ⟨rfl, e1⟩
    have hB1 := StAt.ext hB0 e1
    have hE1 := hE0.trans e1
    clear hB0 hE0 e1 hs ho he
    go_wp2_with fail
    go_ret2
    exact ⟨rfl, hE1⟩

set_option maxHeartbeats 1000000 in
theorem HeadRight_calls (key : List UInt8) (hk : key.length ≤ 4611686018427387904) (f : Hd) (hf : f.root.length = 32) (hg : f.mac.length = 32) (w : World) (KW : Keys w) : Calls Tryd.prog 15 #[.string (bs key), f.v] w fun e w' => e = .returned (.bool (f.rightB key)) ∧ Ext w w' := by
  have hB0 : HdAt (w.alloc (.cells f.cells.toArray 25)) w.heap.size f := by
    have := Blk.new w 25 f.cells.toArray
    exact this
  have hE0 : Ext w (w.alloc (.cells f.cells.toArray 25)) := (Ext.refl w).alloc _
  obtain ⟨r, hr⟩ : ∃ r, r = f.rightB key := ⟨_, rfl⟩
  rw [← hr]
  by_cases hm : f.may
  · obtain ⟨hs, ho, he⟩ := Seal.Hd.out_ok f hm
    have hr2 : decide (f.mac = macOf key (joinB [f.says])) = r := by
      rw [hr, joinB_one]
      unfold Seal.Hd.rightB
      rw [Bool.eq_iff_iff, decide_eq_true_eq, decide_eq_true_eq]
      exact ⟨fun h => ⟨hm, h⟩, fun h => h.2⟩
    have hsl := Seal.Hd.says_length f hf
    have Hr := Lib.hid hr2; clear hr hr2 hm
    unfold Seal.Hd.v
    go_enter Tryd.func15, Tryd.ntmps15
    go_wp2_with (refine stop_load 25 (.tmp 3) rfl ?_)
    refine ⟨?_⟩
    change wpList _ _ _ _ _ (w.alloc (.cells f.cells.toArray 25))
    generalize (w.alloc (.cells f.cells.toArray 25)) = w0 at *
    refine wpList_load_row rfl 25 (.tmp 3) rfl w.heap.size (by rfl) 25 _ (0, 0) _ hB0 Tryd.underlying25 rfl (Seal.size_hd f hf hg) ?_
    simp only [Act.put, List.setIfInBounds_toArray, List.set_cons_zero, List.set_cons_succ]
    go_wp2_with fail
    change Calls _ _ #[f.v] _ _
    refine (headSays_calls f hf _).mono ?_; rw [hs, he]; rintro e w1 ⟨rfl, e1⟩
    have hB1 := HdAt.ext hB0 e1
    have hE1 := hE0.trans e1
    clear hB0 hE0 e1 hs ho he
    have hmac := HdAt.mac hB1 hf
    have hlt := Blk.lt hB1
    generalize f.says = sy at *
    go_wp2_with (refine stop_load 23 (.tmp 16) rfl ?_)
    refine ⟨?_⟩
    refine list_wantS (by rfl) (fun K hK => ?_)
    refine wp_load_mid 23 (.tmp 16) rfl w.heap.size 34 (by rfl) (hcells f.mac) _ hmac Tryd.underlying23 rfl (size32l _ hg) ?_
    refine hK _ _ ?_; clear hK K
    simp only [Act.put, List.setIfInBounds_toArray, List.set_cons_zero, List.set_cons_succ]
    go_wp2_with fail
    change Calls _ _ #[.string (bs key), sumV f.mac, _] _ _
    have hRd : Rd (w1.alloc (.cells #[.string (bs sy)] 9)) (w1.alloc (.cells #[.string (bs sy)] 9)).heap.size (some ⟨w1.heap.size, 0, none⟩) ([sy].map strV) := Blk.rd (Blk.new w1 _ _)
    refine (MacRight_calls key f.mac hk hg [sy] _ 1 _ (KW.ext (hE1.alloc _)) hRd (by simp) (by rw [joinB_one]; omega)).mono ?_; rw [Hr.out]; rintro e w2 ⟨rfl, e2⟩
    go_wp2_with fail
    go_ret
    exact ⟨rfl, (hE1.alloc _).trans e2⟩
  · obtain ⟨hs, ho, he⟩ := Seal.Hd.out_no f hm
    have hr2 : r = false := by
      rw [hr]
      unfold Seal.Hd.rightB
      rw [decide_eq_false_iff_not]
      exact fun h => hm h.1
    subst hr2
    clear hm hr
    unfold Seal.Hd.v
    go_enter Tryd.func15, Tryd.ntmps15
    go_wp2_with (refine stop_load 25 (.tmp 3) rfl ?_)
    refine ⟨?_⟩
    change wpList _ _ _ _ _ (w.alloc (.cells f.cells.toArray 25))
    generalize (w.alloc (.cells f.cells.toArray 25)) = w0 at *
    refine wpList_load_row rfl 25 (.tmp 3) rfl w.heap.size (by rfl) 25 _ (0, 0) _ hB0 Tryd.underlying25 rfl (Seal.size_hd f hf hg) ?_
    simp only [Act.put, List.setIfInBounds_toArray, List.set_cons_zero, List.set_cons_succ]
    go_wp2_with fail
    change Calls _ _ #[f.v] _ _
    refine (headSays_calls f hf _).mono ?_; rw [hs, he]; rintro e w1 ⟨rfl, e1⟩
    have hB1 := HdAt.ext hB0 e1
    have hE1 := hE0.trans e1
    clear hB0 hE0 e1 hs ho he
    go_wp2_with fail
    go_ret
    exact ⟨rfl, hE1⟩

set_option maxHeartbeats 1000000 in
theorem StoneRight_calls (key : List UInt8) (hk : key.length ≤ 4611686018427387904) (f : St) (hf : f.fz.root.length = 32) (hg : f.mac.length = 32) (w : World) (KW : Keys w) : Calls Tryd.prog 17 #[.string (bs key), f.v] w fun e w' => e = .returned (.bool (f.rightB key)) ∧ Ext w w' := by
  have hB0 : StAt (w.alloc (.cells f.cells.toArray 29)) w.heap.size f := by
    have := Blk.new w 29 f.cells.toArray
    exact this
  have hE0 : Ext w (w.alloc (.cells f.cells.toArray 29)) := (Ext.refl w).alloc _
  obtain ⟨r, hr⟩ : ∃ r, r = f.rightB key := ⟨_, rfl⟩
  rw [← hr]
  by_cases hm : f.may
  · obtain ⟨hs, ho, he⟩ := Seal.St.out_ok f hm
    have hr2 : decide (f.mac = macOf key (joinB [f.says])) = r := by
      rw [hr, joinB_one]
      unfold Seal.St.rightB
      rw [Bool.eq_iff_iff, decide_eq_true_eq, decide_eq_true_eq]
      exact ⟨fun h => ⟨hm, h⟩, fun h => h.2⟩
    have hsl := Seal.St.says_length f hf
    have Hr := Lib.hid hr2; clear hr hr2 hm
    unfold Seal.St.v
    go_enter Tryd.func17, Tryd.ntmps17
    go_wp2_with (refine stop_load 29 (.tmp 3) rfl ?_)
    refine ⟨?_⟩
    change wpList _ _ _ _ _ (w.alloc (.cells f.cells.toArray 29))
    generalize (w.alloc (.cells f.cells.toArray 29)) = w0 at *
    refine wpList_load_row rfl 29 (.tmp 3) rfl w.heap.size (by rfl) 29 _ (0, 0) _ hB0 Tryd.underlying29 rfl (Seal.size_st f hf hg) ?_
    simp only [Act.put, List.setIfInBounds_toArray, List.set_cons_zero, List.set_cons_succ]
    go_wp2_with fail
    change Calls _ _ #[f.v] _ _
    refine (stoneSays_calls f hf _).mono ?_; rw [hs, he]; rintro e w1 ⟨rfl, e1⟩
    have hB1 := StAt.ext hB0 e1
    have hE1 := hE0.trans e1
    clear hB0 hE0 e1 hs ho he
    have hmac := StAt.mac hB1 hf
    have hlt := Blk.lt hB1
    generalize f.says = sy at *
    go_wp2_with (refine stop_load 23 (.tmp 16) rfl ?_)
    refine ⟨?_⟩
    refine list_wantS (by rfl) (fun K hK => ?_)
    refine wp_load_mid 23 (.tmp 16) rfl w.heap.size 35 (by rfl) (hcells f.mac) _ hmac Tryd.underlying23 rfl (size32l _ hg) ?_
    refine hK _ _ ?_; clear hK K
    simp only [Act.put, List.setIfInBounds_toArray, List.set_cons_zero, List.set_cons_succ]
    go_wp2_with fail
    change Calls _ _ #[.string (bs key), sumV f.mac, _] _ _
    have hRd : Rd (w1.alloc (.cells #[.string (bs sy)] 9)) (w1.alloc (.cells #[.string (bs sy)] 9)).heap.size (some ⟨w1.heap.size, 0, none⟩) ([sy].map strV) := Blk.rd (Blk.new w1 _ _)
    refine (MacRight_calls key f.mac hk hg [sy] _ 1 _ (KW.ext (hE1.alloc _)) hRd (by simp) (by rw [joinB_one]; omega)).mono ?_; rw [Hr.out]; rintro e w2 ⟨rfl, e2⟩
    go_wp2_with fail
    go_ret
    exact ⟨rfl, (hE1.alloc _).trans e2⟩
  · obtain ⟨hs, ho, he⟩ := Seal.St.out_no f hm
    have hr2 : r = false := by
      rw [hr]
      unfold Seal.St.rightB
      rw [decide_eq_false_iff_not]
      exact fun h => hm h.1
    subst hr2
    clear hm hr
    unfold Seal.St.v
    go_enter Tryd.func17, Tryd.ntmps17
    go_wp2_with (refine stop_load 29 (.tmp 3) rfl ?_)
    refine ⟨?_⟩
    change wpList _ _ _ _ _ (w.alloc (.cells f.cells.toArray 29))
    generalize (w.alloc (.cells f.cells.toArray 29)) = w0 at *
    refine wpList_load_row rfl 29 (.tmp 3) rfl w.heap.size (by rfl) 29 _ (0, 0) _ hB0 Tryd.underlying29 rfl (Seal.size_st f hf hg) ?_
    simp only [Act.put, List.setIfInBounds_toArray, List.set_cons_zero, List.set_cons_succ]
    go_wp2_with fail
    change Calls _ _ #[f.v] _ _
    refine (stoneSays_calls f hf _).mono ?_; rw [hs, he]; rintro e w1 ⟨rfl, e1⟩
    have hB1 := StAt.ext hB0 e1
    have hE1 := hE0.trans e1
    clear hB0 hE0 e1 hs ho he
    go_wp2_with fail
    go_ret
    exact ⟨rfl, hE1⟩

end Go.Proofs.YtcgnjdkennkheaaDoor
