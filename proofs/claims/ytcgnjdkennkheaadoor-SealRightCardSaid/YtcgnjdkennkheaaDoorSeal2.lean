/-
  The walks of seal's says, number, sum, within, FreezeBytes, headSays, stoneSays.
-/
import Derived.Test.YtcgnjdkennkheaaDoorSealB
import Derived.Test.YtcgnjdkennkheaaDoorLeaf1
import Derived.Test.YtcgnjdkennkheaaDoorShelf
import Derived.Test.YtcgnjdkennkheaaDoorHex
import Derived.Test.YtcgnjdkennkheaaDoorOct2
set_option linter.unusedVariables false
set_option maxRecDepth 100000
set_option linter.unusedSimpArgs false
namespace Go.Proofs.YtcgnjdkennkheaaDoor
open Go.RowKit
open Seal (Fz Hd St)
attribute [local go_sem] bs_size bs_toList2 bs_append bs_extract_end bs_extract_begin bs_get wrap64_b grow_cell grow_frozen

theorem join_flat : ∀ (l : List (List UInt8)), Lib.join l [] = joinB l
  | [] => rfl
  | x :: l => by
    rw [Lib.join_cons]
    unfold Lib.joinTail joinB
    simp
theorem Says_calls (l : List (List UInt8)) (b cap : Nat) (w : World) (hA : Rd w w.heap.size (some ⟨b, 0, none⟩) (l.map strV)) (hb : b < w.heap.size) (hn : l.length ≤ 100) (hcap : l.length ≤ cap) (hs : (joinB l).length ≤ 140737488355328) :
    Calls Tryd.prog 41 #[.slice (some ⟨b, 0, none⟩) l.length cap] w fun e w' => e = .returned (.string (bs (joinB l))) ∧ Ext w w' := by
  have hm : (l.map bs).map (fun s : ByteArray => s.data.toList) = l := by
    rw [List.map_map]
    conv => rhs; rw [← List.map_id l]
    exact List.map_congr_left fun x _ => bs_toList x
  have hj := Tryd.strings_Join b 0 cap (l.map bs) ⟨#[]⟩ w (fun j x hx => by
    rw [List.getElem?_map] at hx
    obtain ⟨y, hy, rfl⟩ := Option.map_eq_some_iff.1 hx
    have hne : l.map strV ≠ [] := by
      intro e
      rw [List.map_eq_nil_iff] at e
      rw [e] at hy
      simp at hy
    obtain ⟨b', off', e, _, hc⟩ := hA hne
    injection e with e
    injection e with e1 e2
    subst e1 e2
    exact hc j _ (by rw [List.getElem?_map, hy]; rfl)) hb (by rw [List.length_map]; omega) (by rw [List.length_map]; exact hcap) (by
    rw [hm]
    show (Lib.join l []).length ≤ _
    rw [join_flat]
    exact hs)
  rw [hm, List.length_map] at hj
  have hjj : Lib.join l (⟨#[]⟩ : ByteArray).data.toList = joinB l := join_flat l
  rw [hjj] at hj
  clear hm hjj
  go_enter Tryd.func41, Tryd.ntmps41
  go_wp2_with fail
  refine hj.mono ?_; rintro e w1 ⟨rfl, e1⟩
  go_wp2_with fail
  go_ret
  exact ⟨rfl, e1⟩
theorem u64_wrapS (t : Int) : IntKind.u64.wrap t = (Seal.u64 t : Int) := by
  have e : IntKind.u64.wrap t = t % 18446744073709551616 := rfl
  rw [e]
  unfold Seal.u64
  omega
theorem Number_calls (n : Int) (w : World) : Calls Tryd.prog 42 #[.int .i64 n] w fun e w' => e = .returned (.string (bs (Oct.put (Seal.u64 n)))) ∧ Ext w w' := by
  have hw := u64_wrapS n
  have hu := Seal.u64_lt n
  go_enter Tryd.func42, Tryd.ntmps42
  go_wp2_with fail
  refine (Put_calls (Seal.u64 n) _ (by omega) (by omega)).mono ?_; rintro e w1 ⟨rfl, e1⟩
  rw [Int.toNat_natCast]
  go_wp2_with fail
  go_ret
  exact ⟨rfl, e1⟩
theorem sSum_calls (s : List UInt8) (hs : s.length = 32) (w : World) : Calls Tryd.prog 43 #[sumV s] w fun e w' => e = .returned (.string (bs (Oct.text s))) ∧ Ext w w' := by
  unfold sumV
  go_enter Tryd.func43, Tryd.ntmps43
  have hB0 : ArrB (w.alloc (.cells (s.map byteV).toArray 23)) w.heap.size 23 s := Blk.new _ _ _
  have hE0 := (Ext.refl w).alloc (.cells (s.map byteV).toArray 23)
  go_wp2_with (refine stop_load 23 (.tmp 1) rfl ?_)
  refine ⟨?_⟩
  change wpList _ _ _ _ _ (w.alloc (.cells (s.map byteV).toArray 23))
  generalize w.alloc (.cells (s.map byteV).toArray 23) = w0 at *
  go_wp2_with (refine stop_load 23 (.tmp 1) rfl ?_)
  refine ⟨?_⟩
  refine wpList_load_row rfl 23 (.tmp 1) rfl w.heap.size (by rfl) 23 _ (0, 0) _ hB0 Tryd.underlying23 rfl (size32.trans (by simp [hs])) ?_
  simp only [Act.put, List.setIfInBounds_toArray, List.set_cons_zero, List.set_cons_succ]
  go_wp2_with fail
  change Calls _ _ #[sumV s] _ _
  refine (Bytes_calls s hs _).mono ?_; rintro e w1 ⟨rfl, e1⟩
  go_wp2_with fail
  refine (Text_calls s _ (by omega)).mono ?_; rintro e w2 ⟨rfl, e2⟩
  go_wp2_with fail
  go_ret
  exact ⟨rfl, (hE0.trans e1).trans e2⟩
theorem within_to (n most : Int) (b : Bool) (hb : decide (0 ≤ n ∧ n ≤ most) = b) (w : World) :
    Calls Tryd.prog 40 #[.int .i64 n, .int .i64 most] w fun e w' => e = .returned (.bool b) ∧ w = w' := by
  subst hb
  go_enter Tryd.func40, Tryd.ntmps40
  go_wp2
  all_goals
    go_ret
    refine ⟨ret_bool ?_, rfl⟩
    rw [Bool.eq_iff_iff]
    simp
    omega

namespace Seal
def Fz.outB (f : Fz) : List UInt8 := if f.may then f.bytes else []
def Fz.outE (f : Fz) : Int := if f.may then 0 else 1
def Hd.saysB (f : Hd) : List UInt8 := if f.may then f.says else []
def Hd.outB (f : Hd) : List UInt8 := if f.may then f.bytes else []
def Hd.outE (f : Hd) : Int := if f.may then 0 else 1
def St.saysB (f : St) : List UInt8 := if f.may then f.says else []
def St.outB (f : St) : List UInt8 := if f.may then f.bytes else []
def St.outE (f : St) : Int := if f.may then 0 else 1
theorem Fz.out_ok (f : Fz) (h : f.may) : f.outB = f.bytes ∧ f.outE = 0 := ⟨if_pos h, if_pos h⟩
theorem Fz.out_no (f : Fz) (h : ¬ f.may) : f.outB = [] ∧ f.outE = 1 := ⟨if_neg h, if_neg h⟩
theorem Hd.out_ok (f : Hd) (h : f.may) : f.saysB = f.says ∧ f.outB = f.bytes ∧ f.outE = 0 := ⟨if_pos h, if_pos h, if_pos h⟩
theorem Hd.out_no (f : Hd) (h : ¬ f.may) : f.saysB = [] ∧ f.outB = [] ∧ f.outE = 1 := ⟨if_neg h, if_neg h, if_neg h⟩
theorem St.out_ok (f : St) (h : f.may) : f.saysB = f.says ∧ f.outB = f.bytes ∧ f.outE = 0 := ⟨if_pos h, if_pos h, if_pos h⟩
theorem St.out_no (f : St) (h : ¬ f.may) : f.saysB = [] ∧ f.outB = [] ∧ f.outE = 1 := ⟨if_neg h, if_neg h, if_neg h⟩
theorem put_le (n : Nat) : (Oct.put n).length ≤ 9 := by
  have := Oct.put_length n
  have := Oct.need_le n
  omega
theorem text_le (s : List UInt8) : (Oct.text s).length ≤ 9 + s.length := by
  unfold Oct.text
  rw [List.length_append]
  have := put_le s.length
  omega
theorem Hd.says_length (h : Hd) (h1 : h.root.length = 32) : h.says.length ≤ 70 := by
  have a := put_le (u64 h.size)
  have b := put_le (u64 h.clock)
  have c := text_le h.root
  unfold Hd.says
  simp only [List.length_cons, List.length_append]
  omega
theorem St.says_length (t : St) (h1 : t.fz.root.length = 32) : t.says.length ≤ 100 := by
  have a := put_le (u64 t.at_)
  have b := text_le t.fz.bytes
  have c := Fz.bytes_length t.fz h1
  unfold St.says
  simp only [List.length_cons, List.length_append]
  omega
end Seal

set_option maxHeartbeats 1000000 in
theorem FreezeBytes_calls (f : Fz) (hf : f.root.length = 32) (w : World) : Calls Tryd.prog 19 #[f.v] w fun e w' => e = .returned (.tuple #[.string (bs f.outB), .int .i64 f.outE]) ∧ Ext w w' := by
  have hB0 : FzAt (w.alloc (.cells f.cells.toArray 27)) w.heap.size f := by
    have := Blk.new w 27 f.cells.toArray
    exact this
  have hE0 : Ext w (w.alloc (.cells f.cells.toArray 27)) := (Ext.refl w).alloc _
  have c0 := hB0.c0
  have c1 := hB0.c1
  by_cases hm : f.may
  · skip
    obtain ⟨ho, he⟩ := Seal.Fz.out_ok f hm
    rw [ho, he]
    have d1 : decide (0 ≤ f.win ∧ f.win ≤ 1125899906842624) = true := by simp; exact ⟨hm.1, hm.2.1⟩
    have d2 : decide (0 ≤ f.cnt ∧ f.cnt ≤ 4000) = true := by have := hm.2.2; simp; omega
    have d3 : (f.cnt == 0) = false := by have := hm.2.2; rw [beq_eq_false_iff_ne]; omega
    have hj : Seal.Fz.bytes f = joinB [[70], Oct.put (Seal.u64 f.win), Oct.put (Seal.u64 f.cnt), Oct.text f.root] := by unfold Seal.Fz.bytes joinB; simp
    have hjl : (joinB [[70], Oct.put (Seal.u64 f.win), Oct.put (Seal.u64 f.cnt), Oct.text f.root]).length ≤ 140737488355328 := by rw [← hj]; have := Seal.Fz.bytes_length f hf; omega
    rw [hj]
    clear ho he hm hj
    unfold Seal.Fz.v
    go_enter Tryd.func19, Tryd.ntmps19
    go_wp2_with (go_at_call 40; refine (within_to _ _ _ (by assumption) _).mono ?_; rintro e w' ⟨rfl, rfl⟩)
    have hlt : w.heap.size < (w.alloc (.cells f.cells.toArray 27)).heap.size := Blk.lt hB0
    change (Code.region _ _ _).wp _ _ _ (w.alloc (.cells f.cells.toArray 27))
    generalize (w.alloc (.cells f.cells.toArray 27)) = w0 at *
    have hroot := hB0.root
    refine region_mix0 (by kernel_rfl) (by kernel_rfl) (fun x => ?_)
    repeat (first | (refine mix_quiet (by rfl) (by rfl) (fun K hK => ?_); go_big_quiet_op; refine hK _ ?_; clear hK K) | (refine mix_skip (by rfl) ?_; simp only [Act.put, List.setIfInBounds_toArray, List.set_cons_zero, List.set_cons_succ]))
    (refine mix_loud (by rfl) (by rfl) (fun K E hK => ?_); go_big_op)
    refine (Number_calls f.win _).mono ?_; rintro e w3 ⟨rfl, hd⟩
    obtain ⟨x1, rfl⟩ := more_ext x hd
    refine hK _ _ ⟨_, rfl⟩ ?_; clear hK K E hd
    repeat (first | (refine mix_quiet (by rfl) (by rfl) (fun K hK => ?_); go_big_quiet_op; refine hK _ ?_; clear hK K) | (refine mix_skip (by rfl) ?_; simp only [Act.put, List.setIfInBounds_toArray, List.set_cons_zero, List.set_cons_succ]))
    (refine mix_loud (by rfl) (by rfl) (fun K E hK => ?_); go_big_op)
    refine (Number_calls f.cnt _).mono ?_; rintro e w3 ⟨rfl, hd⟩
    obtain ⟨x2, rfl⟩ := more_ext x1 hd
    refine hK _ _ ⟨_, rfl⟩ ?_; clear hK K E hd
    iterate 1 (first | (refine mix_quiet (by rfl) (by rfl) (fun K hK => ?_); go_big_quiet_op; refine hK _ ?_; clear hK K) | (refine mix_skip (by rfl) ?_; simp only [Act.put, List.setIfInBounds_toArray, List.set_cons_zero, List.set_cons_succ]))
    refine mix_mid (by rfl) (by rfl) 23 (.tmp 25) rfl w.heap.size 2 (by rfl) (hcells f.root) _ hroot hlt Tryd.underlying23 rfl (size32l _ hf) ?_
    simp only [Act.put, List.setIfInBounds_toArray, List.set_cons_zero, List.set_cons_succ]
    (refine mix_loud (by rfl) (by rfl) (fun K E hK => ?_); go_big_op)
    refine (sSum_calls f.root hf _).mono ?_; rintro e w3 ⟨rfl, hd⟩
    obtain ⟨x3, rfl⟩ := more_ext x2 hd
    refine hK _ _ ⟨_, rfl⟩ ?_; clear hK K E hd
    (refine mix_loud (by rfl) (by rfl) (fun K E hK => ?_); go_big_op)
    obtain ⟨x4, hy1⟩ := more_of ((grow_ext x3).alloc (.cells #[.string ⟨#[70]⟩, .string (bs (Oct.put (Seal.u64 f.win))), .string (bs (Oct.put (Seal.u64 f.cnt))), .string (bs (Oct.text f.root))] 9))
    have hRd : Rd ((grow w0 x3).alloc (.cells #[.string ⟨#[70]⟩, .string (bs (Oct.put (Seal.u64 f.win))), .string (bs (Oct.put (Seal.u64 f.cnt))), .string (bs (Oct.text f.root))] 9)) ((grow w0 x3).alloc (.cells #[.string ⟨#[70]⟩, .string (bs (Oct.put (Seal.u64 f.win))), .string (bs (Oct.put (Seal.u64 f.cnt))), .string (bs (Oct.text f.root))] 9)).heap.size (some ⟨(grow w0 x3).heap.size, 0, none⟩) ([[70], Oct.put (Seal.u64 f.win), Oct.put (Seal.u64 f.cnt), Oct.text f.root].map strV) := Blk.rd (Blk.new (grow w0 x3) _ _)
    have hRdb : (grow w0 x3).heap.size < ((grow w0 x3).alloc (.cells #[.string ⟨#[70]⟩, .string (bs (Oct.put (Seal.u64 f.win))), .string (bs (Oct.put (Seal.u64 f.cnt))), .string (bs (Oct.text f.root))] 9)).heap.size := (Blk.new (grow w0 x3) _ _).lt
    rw [hy1] at hRd hRdb ⊢
    clear hy1
    generalize (grow w0 x3).heap.size = gs at *
    refine hK _ _ ⟨_, rfl⟩ ?_; clear hK K E
    (refine mix_loud (by rfl) (by rfl) (fun K E hK => ?_); go_big_op)
    refine (Says_calls [[70], Oct.put (Seal.u64 f.win), Oct.put (Seal.u64 f.cnt), Oct.text f.root] gs 4 _ hRd hRdb (by simp) (by simp) hjl).mono ?_; rintro e w3 ⟨rfl, hd⟩
    obtain ⟨x5, rfl⟩ := more_ext x4 hd
    refine hK _ _ ⟨_, rfl⟩ ?_; clear hK K E hd
    repeat (first | (refine mix_quiet (by rfl) (by rfl) (fun K hK => ?_); go_big_quiet_op; refine hK _ ?_; clear hK K) | (refine mix_skip (by rfl) ?_; simp only [Act.put, List.setIfInBounds_toArray, List.set_cons_zero, List.set_cons_succ]))
    refine mix_nil ?_
    go_wp2_with fail
    go_ret2
    exact ⟨rfl, hE0.trans (grow_ext _)⟩
  · obtain ⟨ho, he⟩ := Seal.Fz.out_no f hm
    rw [ho, he]
    unfold Seal.Fz.may at hm
    by_cases h1 : 0 ≤ f.win ∧ f.win ≤ 1125899906842624
    · have d1 : decide (0 ≤ f.win ∧ f.win ≤ 1125899906842624) = true := by simpa using h1
      by_cases h2 : f.cnt = 0
      · have d3 : (f.cnt == 0) = true := by rw [beq_iff_eq]; exact h2
        clear h1 h2 hm ho he
        unfold Seal.Fz.v
        go_enter Tryd.func19, Tryd.ntmps19
        go_wp2_with (go_at_call 40; refine (within_to _ _ _ (by assumption) _).mono ?_; rintro e w' ⟨rfl, rfl⟩)
        go_ret2
        exact ⟨rfl, hE0⟩
      · have d3 : (f.cnt == 0) = false := by rw [beq_eq_false_iff_ne]; exact h2
        have d2 : decide (0 ≤ f.cnt ∧ f.cnt ≤ 4000) = false := by rw [decide_eq_false_iff_not]; omega
        clear h1 h2 hm ho he
        unfold Seal.Fz.v
        go_enter Tryd.func19, Tryd.ntmps19
        go_wp2_with (go_at_call 40; refine (within_to _ _ _ (by assumption) _).mono ?_; rintro e w' ⟨rfl, rfl⟩)
        go_ret2
        exact ⟨rfl, hE0⟩
    · have d1 : decide (0 ≤ f.win ∧ f.win ≤ 1125899906842624) = false := by simpa using h1
      clear h1 hm ho he
      unfold Seal.Fz.v
      go_enter Tryd.func19, Tryd.ntmps19
      go_wp2_with (go_at_call 40; refine (within_to _ _ _ (by assumption) _).mono ?_; rintro e w' ⟨rfl, rfl⟩)
      go_ret2
      exact ⟨rfl, hE0⟩

theorem FreezeLeaf_calls (f : Fz) (hf : f.root.length = 32) (w : World) (KW : Keys w) : Calls Tryd.prog 31 #[f.v] w fun e w' => e = .returned (sumV (leafB f.outB)) ∧ Ext w w' := by
  have hB0 : FzAt ((w.alloc (.cells f.cells.toArray 27)).alloc (.cells ((zerosB 32).map byteV).toArray 23)) w.heap.size f := by
    have := Blk.new w 27 f.cells.toArray
    exact Blk.alloc (this) _
  have hB1 : ArrB ((w.alloc (.cells f.cells.toArray 27)).alloc (.cells ((zerosB 32).map byteV).toArray 23)) (w.heap.size + 1) 23 (zerosB 32) := by
    have := Blk.new (w.alloc (.cells f.cells.toArray 27)) 23 ((zerosB 32).map byteV).toArray
    rw [alloc_size] at this
    exact this
  have hE0 : Ext w ((w.alloc (.cells f.cells.toArray 27)).alloc (.cells ((zerosB 32).map byteV).toArray 23)) := ((Ext.refl w).alloc _).alloc _
  have hol : f.outB.length ≤ 70 := by
    unfold Seal.Fz.outB
    split
    · exact Seal.Fz.bytes_length f hf
    · simp
  obtain ⟨d, hd⟩ : ∃ d, d = f.outB := ⟨_, rfl⟩
  rw [← hd] at hol ⊢
  have Hd := Lib.hid hd; clear hd
  obtain ⟨z, hz⟩ : ∃ z, z = leafB d := ⟨_, rfl⟩
  rw [← hz]
  have Hz := Lib.hid hz; clear hz
  unfold Seal.Fz.v
  go_enter Tryd.func31, Tryd.ntmps31
  go_wp2_with (refine stop_load 27 (.tmp 1) rfl ?_)
  refine ⟨?_⟩
  change wpList _ _ _ _ _ ((w.alloc (.cells f.cells.toArray 27)).alloc (.cells ((zerosB 32).map byteV).toArray 23))
  generalize ((w.alloc (.cells f.cells.toArray 27)).alloc (.cells ((zerosB 32).map byteV).toArray 23)) = w0 at *
  refine wpList_load_row rfl 27 (.tmp 1) rfl w.heap.size (by rfl) 27 _ (0, 0) _ hB0 Tryd.underlying27 rfl (Seal.size_fz f hf) ?_
  simp only [Act.put, List.setIfInBounds_toArray, List.set_cons_zero, List.set_cons_succ]
  go_wp2_with fail
  change Calls _ _ #[f.v] _ _
  refine (FreezeBytes_calls f hf _).mono ?_; rw [← Hd.out]; rintro e w1 ⟨rfl, e1⟩
  generalize f.outE = q at *
  have hE1 := hE0.trans e1
  have hR1 := Blk.below hB1 e1 hB1.lt
  go_wp2_with fail
  refine (Leaf_calls d (by omega) _ (KW.ext hE1)).mono ?_; rw [← Hz.out]; rintro e w2 ⟨rfl, e2⟩
  have hR2 := Blk.below hR1 e2 (Blk.lt hR1)
  have hE2 := hE1.trans e2
  have hml : (z.map byteV).toArray.size = 32 := by rw [Hz.out]; simp [leafB_length]
  clear Hz
  unfold sumV
  go_wp2_with (refine stop_store 23 (.tmp 2) (.tmp 11) rfl ?_)
  refine ⟨?_⟩
  refine wpList_store_row rfl 23 (.tmp 2) (.tmp 11) rfl (w.heap.size + 1) _ (by rfl) (by rfl) 23 _ hR2 (size32.trans (by rw [hml])) (by rw [hml]; simp [zerosB]) (by simp [byteV, Value.oneCell']) ?_
  simp only [Act.put, List.setIfInBounds_toArray, List.set_cons_zero, List.set_cons_succ]
  go_wp2_with fail
  (try simp only [Exit.inBlock, Exit.then])
  exact bodyPost_ret (results_cell_row rfl _ _ (w.heap.size + 1) 23 _ (0, 0) _ rfl (Blk.row hR2 _) Tryd.underlying23 rfl (size32.trans (by rw [hml]))) rfl ⟨rfl, hE2.row (by omega) _⟩

set_option maxHeartbeats 1000000 in
theorem headSays_calls (f : Hd) (hf : f.root.length = 32) (w : World) : Calls Tryd.prog 33 #[f.v] w fun e w' => e = .returned (.tuple #[.string (bs f.saysB), .int .i64 f.outE]) ∧ Ext w w' := by
  have hB0 : HdAt (w.alloc (.cells f.cells.toArray 25)) w.heap.size f := by
    have := Blk.new w 25 f.cells.toArray
    exact this
  have hE0 : Ext w (w.alloc (.cells f.cells.toArray 25)) := (Ext.refl w).alloc _
  have c0 := hB0.c0
  have c1 := hB0.c33 hf
  by_cases hm : f.may
  · skip
    obtain ⟨ho, -, he⟩ := Seal.Hd.out_ok f hm
    rw [ho, he]
    have d1 : decide (0 ≤ f.size ∧ f.size ≤ 1099511627776) = true := by simp; exact ⟨hm.1, hm.2.1⟩
    have d2 : decide (0 ≤ f.clock ∧ f.clock ≤ 1125899906842624) = true := by have := hm.2.2; simp; omega
    have hj : Seal.Hd.says f = joinB [[72], Oct.put (Seal.u64 f.size), Oct.text f.root, Oct.put (Seal.u64 f.clock)] := by unfold Seal.Hd.says joinB; simp
    have hjl : (joinB [[72], Oct.put (Seal.u64 f.size), Oct.text f.root, Oct.put (Seal.u64 f.clock)]).length ≤ 140737488355328 := by rw [← hj]; have := Seal.Hd.says_length f hf; omega
    rw [hj]
    clear ho he hm hj
    unfold Seal.Hd.v
    go_enter Tryd.func33, Tryd.ntmps33
    go_wp2_with (go_at_call 40; refine (within_to _ _ _ (by assumption) _).mono ?_; rintro e w' ⟨rfl, rfl⟩)
    have hlt : w.heap.size < (w.alloc (.cells f.cells.toArray 25)).heap.size := Blk.lt hB0
    change (Code.region _ _ _).wp _ _ _ (w.alloc (.cells f.cells.toArray 25))
    generalize (w.alloc (.cells f.cells.toArray 25)) = w0 at *
    have hroot := hB0.root
    refine region_mix0 (by kernel_rfl) (by kernel_rfl) (fun x => ?_)
    repeat (first | (refine mix_quiet (by rfl) (by rfl) (fun K hK => ?_); go_big_quiet_op; refine hK _ ?_; clear hK K) | (refine mix_skip (by rfl) ?_; simp only [Act.put, List.setIfInBounds_toArray, List.set_cons_zero, List.set_cons_succ]))
    (refine mix_loud (by rfl) (by rfl) (fun K E hK => ?_); go_big_op)
    refine (Number_calls f.size _).mono ?_; rintro e w3 ⟨rfl, hd⟩
    obtain ⟨x1, rfl⟩ := more_ext x hd
    refine hK _ _ ⟨_, rfl⟩ ?_; clear hK K E hd
    iterate 1 (first | (refine mix_quiet (by rfl) (by rfl) (fun K hK => ?_); go_big_quiet_op; refine hK _ ?_; clear hK K) | (refine mix_skip (by rfl) ?_; simp only [Act.put, List.setIfInBounds_toArray, List.set_cons_zero, List.set_cons_succ]))
    refine mix_mid (by rfl) (by rfl) 23 (.tmp 17) rfl w.heap.size 1 (by rfl) (hcells f.root) _ hroot hlt Tryd.underlying23 rfl (size32l _ hf) ?_
    simp only [Act.put, List.setIfInBounds_toArray, List.set_cons_zero, List.set_cons_succ]
    (refine mix_loud (by rfl) (by rfl) (fun K E hK => ?_); go_big_op)
    refine (sSum_calls f.root hf _).mono ?_; rintro e w3 ⟨rfl, hd⟩
    obtain ⟨x2, rfl⟩ := more_ext x1 hd
    refine hK _ _ ⟨_, rfl⟩ ?_; clear hK K E hd
    repeat (first | (refine mix_quiet (by rfl) (by rfl) (fun K hK => ?_); go_big_quiet_op; refine hK _ ?_; clear hK K) | (refine mix_skip (by rfl) ?_; simp only [Act.put, List.setIfInBounds_toArray, List.set_cons_zero, List.set_cons_succ]))
    (refine mix_loud (by rfl) (by rfl) (fun K E hK => ?_); go_big_op)
    refine (Number_calls f.clock _).mono ?_; rintro e w3 ⟨rfl, hd⟩
    obtain ⟨x3, rfl⟩ := more_ext x2 hd
    refine hK _ _ ⟨_, rfl⟩ ?_; clear hK K E hd
    (refine mix_loud (by rfl) (by rfl) (fun K E hK => ?_); go_big_op)
    obtain ⟨x4, hy1⟩ := more_of ((grow_ext x3).alloc (.cells #[.string ⟨#[72]⟩, .string (bs (Oct.put (Seal.u64 f.size))), .string (bs (Oct.text f.root)), .string (bs (Oct.put (Seal.u64 f.clock)))] 9))
    have hRd : Rd ((grow w0 x3).alloc (.cells #[.string ⟨#[72]⟩, .string (bs (Oct.put (Seal.u64 f.size))), .string (bs (Oct.text f.root)), .string (bs (Oct.put (Seal.u64 f.clock)))] 9)) ((grow w0 x3).alloc (.cells #[.string ⟨#[72]⟩, .string (bs (Oct.put (Seal.u64 f.size))), .string (bs (Oct.text f.root)), .string (bs (Oct.put (Seal.u64 f.clock)))] 9)).heap.size (some ⟨(grow w0 x3).heap.size, 0, none⟩) ([[72], Oct.put (Seal.u64 f.size), Oct.text f.root, Oct.put (Seal.u64 f.clock)].map strV) := Blk.rd (Blk.new (grow w0 x3) _ _)
    have hRdb : (grow w0 x3).heap.size < ((grow w0 x3).alloc (.cells #[.string ⟨#[72]⟩, .string (bs (Oct.put (Seal.u64 f.size))), .string (bs (Oct.text f.root)), .string (bs (Oct.put (Seal.u64 f.clock)))] 9)).heap.size := (Blk.new (grow w0 x3) _ _).lt
    rw [hy1] at hRd hRdb ⊢
    clear hy1
    generalize (grow w0 x3).heap.size = gs at *
    refine hK _ _ ⟨_, rfl⟩ ?_; clear hK K E
    (refine mix_loud (by rfl) (by rfl) (fun K E hK => ?_); go_big_op)
    refine (Says_calls [[72], Oct.put (Seal.u64 f.size), Oct.text f.root, Oct.put (Seal.u64 f.clock)] gs 4 _ hRd hRdb (by simp) (by simp) hjl).mono ?_; rintro e w3 ⟨rfl, hd⟩
    obtain ⟨x5, rfl⟩ := more_ext x4 hd
    refine hK _ _ ⟨_, rfl⟩ ?_; clear hK K E hd
    repeat (first | (refine mix_quiet (by rfl) (by rfl) (fun K hK => ?_); go_big_quiet_op; refine hK _ ?_; clear hK K) | (refine mix_skip (by rfl) ?_; simp only [Act.put, List.setIfInBounds_toArray, List.set_cons_zero, List.set_cons_succ]))
    refine mix_nil ?_
    go_wp2_with fail
    go_ret2
    exact ⟨rfl, hE0.trans (grow_ext _)⟩
  · obtain ⟨ho, -, he⟩ := Seal.Hd.out_no f hm
    rw [ho, he]
    unfold Seal.Hd.may at hm
    by_cases h1 : 0 ≤ f.size ∧ f.size ≤ 1099511627776
    · have d1 : decide (0 ≤ f.size ∧ f.size ≤ 1099511627776) = true := by simpa using h1
      have d2 : decide (0 ≤ f.clock ∧ f.clock ≤ 1125899906842624) = false := by rw [decide_eq_false_iff_not]; omega
      clear h1 hm ho he
      unfold Seal.Hd.v
      go_enter Tryd.func33, Tryd.ntmps33
      go_wp2_with (go_at_call 40; refine (within_to _ _ _ (by assumption) _).mono ?_; rintro e w' ⟨rfl, rfl⟩)
      go_ret2
      exact ⟨rfl, hE0⟩
    · have d1 : decide (0 ≤ f.size ∧ f.size ≤ 1099511627776) = false := by simpa using h1
      clear h1 hm ho he
      unfold Seal.Hd.v
      go_enter Tryd.func33, Tryd.ntmps33
      go_wp2_with (go_at_call 40; refine (within_to _ _ _ (by assumption) _).mono ?_; rintro e w' ⟨rfl, rfl⟩)
      go_ret2
      exact ⟨rfl, hE0⟩

set_option maxHeartbeats 1000000 in
theorem stoneSays_calls (f : St) (hf : f.fz.root.length = 32) (w : World) : Calls Tryd.prog 35 #[f.v] w fun e w' => e = .returned (.tuple #[.string (bs f.saysB), .int .i64 f.outE]) ∧ Ext w w' := by
  have hB0 : StAt (w.alloc (.cells f.cells.toArray 29)) w.heap.size f := by
    have := Blk.new w 29 f.cells.toArray
    exact this
  have hE0 : Ext w (w.alloc (.cells f.cells.toArray 29)) := (Ext.refl w).alloc _
  by_cases hm : f.may
  · skip
    obtain ⟨ho, -, he⟩ := Seal.St.out_ok f hm
    rw [ho, he]
    obtain ⟨hoB, hoE⟩ := Seal.Fz.out_ok f.fz hm.1
    have d2 : decide (0 ≤ f.at_ ∧ f.at_ ≤ 1125899906842624) = true := by have := hm.2; simp; omega
    have hj : Seal.St.says f = joinB [[84], Oct.text f.fz.bytes, Oct.put (Seal.u64 f.at_)] := by unfold Seal.St.says joinB; simp
    have hjl : (joinB [[84], Oct.text f.fz.bytes, Oct.put (Seal.u64 f.at_)]).length ≤ 140737488355328 := by rw [← hj]; have := Seal.St.says_length f hf; omega
    have hfl := Seal.Fz.bytes_length f.fz hf
    rw [hj]
    clear ho he hm hj
    unfold Seal.St.v
    go_enter Tryd.func35, Tryd.ntmps35
    go_wp2_with (refine stop_load 27 (.tmp 7) rfl ?_)
    refine ⟨?_⟩
    change wpList _ _ _ _ _ (w.alloc (.cells f.cells.toArray 29))
    generalize (w.alloc (.cells f.cells.toArray 29)) = w0 at *
    have hfzr := hB0.fz
    refine wpList_load_mid rfl 27 (.tmp 7) rfl w.heap.size 0 (by rfl) (f.fz.cells) _ hfzr Tryd.underlying27 rfl ((Seal.size_fz f.fz hf).trans (by rw [List.size_toArray])) ?_
    simp only [Act.put, List.setIfInBounds_toArray, List.set_cons_zero, List.set_cons_succ]
    go_wp2_with fail
    change Calls _ _ #[f.fz.v] _ _
    refine (FreezeBytes_calls f.fz hf _).mono ?_; rw [hoB, hoE]; rintro e w1 ⟨rfl, e1⟩
    have hB1 := hB0.ext e1
    have hE1 := hE0.trans e1
    have c34 := hB1.c34 hf
    have hlt := Blk.lt hB1
    go_wp2_with (go_at_call 40; refine (within_to _ _ _ (by assumption) _).mono ?_; rintro e w' ⟨rfl, rfl⟩)
    refine region_mix0 (by kernel_rfl) (by kernel_rfl) (fun x => ?_)
    repeat (first | (refine mix_quiet (by rfl) (by rfl) (fun K hK => ?_); go_big_quiet_op; refine hK _ ?_; clear hK K) | (refine mix_skip (by rfl) ?_; simp only [Act.put, List.setIfInBounds_toArray, List.set_cons_zero, List.set_cons_succ]))
    (refine mix_loud (by rfl) (by rfl) (fun K E hK => ?_); go_big_op)
    refine (Text_calls f.fz.bytes _ (by omega)).mono ?_; rintro e w3 ⟨rfl, hd⟩
    obtain ⟨x1, rfl⟩ := more_ext x hd
    refine hK _ _ ⟨_, rfl⟩ ?_; clear hK K E hd
    repeat (first | (refine mix_quiet (by rfl) (by rfl) (fun K hK => ?_); go_big_quiet_op; refine hK _ ?_; clear hK K) | (refine mix_skip (by rfl) ?_; simp only [Act.put, List.setIfInBounds_toArray, List.set_cons_zero, List.set_cons_succ]))
    (refine mix_loud (by rfl) (by rfl) (fun K E hK => ?_); go_big_op)
    refine (Number_calls f.at_ _).mono ?_; rintro e w3 ⟨rfl, hd⟩
    obtain ⟨x2, rfl⟩ := more_ext x1 hd
    refine hK _ _ ⟨_, rfl⟩ ?_; clear hK K E hd
    (refine mix_loud (by rfl) (by rfl) (fun K E hK => ?_); go_big_op)
    obtain ⟨x3, hy1⟩ := more_of ((grow_ext x2).alloc (.cells #[.string ⟨#[84]⟩, .string (bs (Oct.text f.fz.bytes)), .string (bs (Oct.put (Seal.u64 f.at_)))] 9))
    have hRd : Rd ((grow w1 x2).alloc (.cells #[.string ⟨#[84]⟩, .string (bs (Oct.text f.fz.bytes)), .string (bs (Oct.put (Seal.u64 f.at_)))] 9)) ((grow w1 x2).alloc (.cells #[.string ⟨#[84]⟩, .string (bs (Oct.text f.fz.bytes)), .string (bs (Oct.put (Seal.u64 f.at_)))] 9)).heap.size (some ⟨(grow w1 x2).heap.size, 0, none⟩) ([[84], Oct.text f.fz.bytes, Oct.put (Seal.u64 f.at_)].map strV) := Blk.rd (Blk.new (grow w1 x2) _ _)
    have hRdb : (grow w1 x2).heap.size < ((grow w1 x2).alloc (.cells #[.string ⟨#[84]⟩, .string (bs (Oct.text f.fz.bytes)), .string (bs (Oct.put (Seal.u64 f.at_)))] 9)).heap.size := (Blk.new (grow w1 x2) _ _).lt
    rw [hy1] at hRd hRdb ⊢
    clear hy1
    generalize (grow w1 x2).heap.size = gs at *
    refine hK _ _ ⟨_, rfl⟩ ?_; clear hK K E
    (refine mix_loud (by rfl) (by rfl) (fun K E hK => ?_); go_big_op)
    refine (Says_calls [[84], Oct.text f.fz.bytes, Oct.put (Seal.u64 f.at_)] gs 3 _ hRd hRdb (by simp) (by simp) hjl).mono ?_; rintro e w3 ⟨rfl, hd⟩
    obtain ⟨x4, rfl⟩ := more_ext x3 hd
    refine hK _ _ ⟨_, rfl⟩ ?_; clear hK K E hd
    repeat (first | (refine mix_quiet (by rfl) (by rfl) (fun K hK => ?_); go_big_quiet_op; refine hK _ ?_; clear hK K) | (refine mix_skip (by rfl) ?_; simp only [Act.put, List.setIfInBounds_toArray, List.set_cons_zero, List.set_cons_succ]))
    refine mix_nil ?_
    go_wp2_with fail
    go_ret2
    exact ⟨rfl, hE1.trans (grow_ext _)⟩
  · obtain ⟨ho, -, he⟩ := Seal.St.out_no f hm
    rw [ho, he]
    unfold Seal.St.may at hm
    by_cases h1 : f.fz.may
    · obtain ⟨hoB, hoE⟩ := Seal.Fz.out_ok f.fz h1
      have d2 : decide (0 ≤ f.at_ ∧ f.at_ ≤ 1125899906842624) = false := by rw [decide_eq_false_iff_not]; exact fun h => hm ⟨h1, h⟩
      clear h1 hm ho he
      unfold Seal.St.v
      go_enter Tryd.func35, Tryd.ntmps35
      go_wp2_with (refine stop_load 27 (.tmp 7) rfl ?_)
      refine ⟨?_⟩
      change wpList _ _ _ _ _ (w.alloc (.cells f.cells.toArray 29))
      generalize (w.alloc (.cells f.cells.toArray 29)) = w0 at *
      have hfzr := hB0.fz
      refine wpList_load_mid rfl 27 (.tmp 7) rfl w.heap.size 0 (by rfl) (f.fz.cells) _ hfzr Tryd.underlying27 rfl ((Seal.size_fz f.fz hf).trans (by rw [List.size_toArray])) ?_
      simp only [Act.put, List.setIfInBounds_toArray, List.set_cons_zero, List.set_cons_succ]
      go_wp2_with fail
      change Calls _ _ #[f.fz.v] _ _
      refine (FreezeBytes_calls f.fz hf _).mono ?_; rw [hoB, hoE]; rintro e w1 ⟨rfl, e1⟩
      have hB1 := hB0.ext e1
      have hE1 := hE0.trans e1
      have c34 := hB1.c34 hf
      have hlt := Blk.lt hB1
      go_wp2_with (go_at_call 40; refine (within_to _ _ _ (by assumption) _).mono ?_; rintro e w' ⟨rfl, rfl⟩)
      go_ret2
      exact ⟨rfl, hE1⟩
    · obtain ⟨hoB, hoE⟩ := Seal.Fz.out_no f.fz h1
      clear h1 hm ho he
      unfold Seal.St.v
      go_enter Tryd.func35, Tryd.ntmps35
      go_wp2_with (refine stop_load 27 (.tmp 7) rfl ?_)
      refine ⟨?_⟩
      change wpList _ _ _ _ _ (w.alloc (.cells f.cells.toArray 29))
      generalize (w.alloc (.cells f.cells.toArray 29)) = w0 at *
      have hfzr := hB0.fz
      refine wpList_load_mid rfl 27 (.tmp 7) rfl w.heap.size 0 (by rfl) (f.fz.cells) _ hfzr Tryd.underlying27 rfl ((Seal.size_fz f.fz hf).trans (by rw [List.size_toArray])) ?_
      simp only [Act.put, List.setIfInBounds_toArray, List.set_cons_zero, List.set_cons_succ]
      go_wp2_with fail
      change Calls _ _ #[f.fz.v] _ _
      refine (FreezeBytes_calls f.fz hf _).mono ?_; rw [hoB, hoE]; rintro e w1 ⟨rfl, e1⟩
      have hB1 := hB0.ext e1
      have hE1 := hE0.trans e1
      have c34 := hB1.c34 hf
      have hlt := Blk.lt hB1
      go_wp2_with (go_at_call 40; refine (within_to _ _ _ (by assumption) _).mono ?_; rintro e w' ⟨rfl, rfl⟩)
      go_ret2
      exact ⟨rfl, hE1⟩

end Go.Proofs.YtcgnjdkennkheaaDoor
