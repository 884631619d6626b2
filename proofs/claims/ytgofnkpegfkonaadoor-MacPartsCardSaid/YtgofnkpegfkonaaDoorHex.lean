/-
  The walks of Bytes and Hex.
-/
import Derived.Test.YtgofnkpegfkonaaDoorSha8
set_option linter.unusedVariables false
set_option linter.unusedSimpArgs false
namespace Go.Proofs.YtgofnkpegfkonaaDoor
open Go.RowKit
attribute [local go_sem] bs_size bs_toList2 bs_append bs_extract_end bs_extract_begin bs_get wrap64_b grow_cell grow_frozen

theorem Bytes_calls (l : List UInt8) (hl : l.length = 32) (w : World) :
    Calls Tryd.prog 25 #[sumV l] w fun e w' => e = .returned (.string (bs l)) ∧ Ext w w' := by
  have hconv : (convert 37 9 (.slice (some ⟨w.heap.size, 0, none⟩) 32 32)).run Tryd.prog (w.alloc (.cells (l.map byteV).toArray 33)) = .ok (.string (bs l)) (w.alloc (.cells (l.map byteV).toArray 33)) :=
    conv_bytes _ _ _ l 32 32 hl (Blk.rd (Blk.new w _ _))
  unfold sumV
  go_enter Tryd.func25, Tryd.ntmps25
  go_wp2
  go_ret
  exact ⟨rfl, (Ext.refl w).alloc _⟩
theorem refBytes_calls (l : List UInt8) (hl : l.length = 32) (w : World) :
    Calls Tryd.prog 26 #[sumV l] w fun e w' => e = .returned (.string (bs l)) ∧ Ext w w' := by
  have hconv : (convert 37 9 (.slice (some ⟨w.heap.size, 0, none⟩) 32 32)).run Tryd.prog (w.alloc (.cells (l.map byteV).toArray 33)) = .ok (.string (bs l)) (w.alloc (.cells (l.map byteV).toArray 33)) :=
    conv_bytes _ _ _ l 32 32 hl (Blk.rd (Blk.new w _ _))
  unfold sumV
  go_enter Tryd.func26, Tryd.ntmps26
  go_wp2
  go_ret
  exact ⟨rfl, (Ext.refl w).alloc _⟩

set_option maxHeartbeats 2000000 in
set_option maxRecDepth 100000 in
theorem WriteByte_calls (B b : Nat) (l : List Value) (c : Int) (w : World) (h : Lib.IsBuilder 74 5 B b l w) (hlen : l.length + 1 ≤ 140737488355328) (hBw : B ≤ w.heap.size) :
    Calls Tryd.prog 48 #[.pointer (some ⟨b, 0, none⟩), .int .u8 c] w fun e w' => e = .returned .nilIface ∧ (Lib.BuilderAt 74 5 B b (.pointer (some ⟨b, 0, none⟩)) (l ++ [.int .u8 c]) w' ∧ Below B w w') := by
  obtain ⟨i0, hi, hz0, hz1, hz2⟩ := info_parts Builder_Extra_169.infoByte
  go_enter Tryd.func48, Tryd.ntmps48
  go_wp2_with (go_at_call 56; refine (copyCheck_calls B b l _ h).mono ?_)
  rintro e w1 ⟨rfl, h1, hb1⟩
  obtain ⟨hB, v, hbk, hown, hne⟩ := h1
  have c0 : w1.cell? ⟨b, 0, none⟩ = some (.pointer (some ⟨b, 0, none⟩)) := by rw [Lib.cell_of_heap hbk]; rfl
  have c1 : w1.cell? ⟨b, 1, none⟩ = some v := by rw [Lib.cell_of_heap hbk]; rfl
  have hlt : b < w1.heap.size := by
    rcases Nat.lt_or_ge b w1.heap.size with h' | h'
    · exact h'
    · simp [Array.getElem?_eq_none h'] at hbk
  go_wp2_with (at_builtin; refine wpList_append_own _ rfl _ _ 37 rfl B 5 i0 (.int .u8 0) 1 1 Tryd.underlying37 hi hz0 hz1 hz2 rfl (by decide) _ _ _ rfl (hown.alloc _) ⟨w1.heap.size, 0, none⟩ 1 1 [.int .u8 c] rfl rfl ?c1 ?c2 ?c3 ?c4 ?c5 ?_)
  case c1 =>
    intro j u hj
    match j, hj with
    | 0, hj => simp at hj; subst hj; simp [Addr.add]
  case c2 => intro u hu; simp at hu; subst hu; rfl
  case c3 => unfold maxLen; omega
  case c4 => omega
  case c5 => have := hb1.size; simp; omega
  intro v' w2 hown' hgrow _
  have hb2 : w2.heap[b]? = some (.cells #[.pointer (some ⟨b, 0, none⟩), v] 74 (0, 0)) := by
    rw [hgrow.block b (by simp; omega) (fun e => hne e.symm), Below.heap_alloc w1 _ b hlt]
    exact hbk
  have d0 : w2.cell? ⟨b, 0, none⟩ = some (.pointer (some ⟨b, 0, none⟩)) := by rw [Lib.cell_of_heap hb2]; rfl
  have d1 : w2.cell? ⟨b, 1, none⟩ = some v := by rw [Lib.cell_of_heap hb2]; rfl
  have f1 : w2.frozen? ⟨b, 1, none⟩ = false := Lib.frozen_of_heap hb2 1
  obtain ⟨ao, n', cap, rfl⟩ : ∃ ao n' cap, v' = .slice ao n' cap := by
    rcases hown'.2 with ⟨hv, _⟩ | ⟨g, cap, cur, hv, _⟩
    · exact ⟨_, _, _, hv⟩
    · exact ⟨_, _, _, hv⟩
  go_wp2
  go_ret
  refine ⟨rfl, ?_, ?_⟩
  · exact Lib.BuilderAt.put (T := 74) (e := 5) hB hb2 (bs' := l ++ [.int .u8 c]) (by simpa using hown') (by decide)
  · exact ((hb1.alloc (by have := hb1.size; omega) _).grown hgrow (by have := hb1.size; simp; omega) (fun k hk => (hown.lt k hk).1)).setCell (p := ⟨b, 1, none⟩) hB _

def digitsL : List UInt8 := [48, 49, 50, 51, 52, 53, 54, 55, 56, 57, 97, 98, 99, 100, 101, 102]
def hexD (n : Nat) : UInt8 := digitsL.getD n 0
def hexOf (l : List UInt8) : List UInt8 := l.flatMap fun c => [hexD (c.toNat / 16), hexD (c.toNat % 16)]
theorem hexOf_length (l : List UInt8) : (hexOf l).length = 2 * l.length := by
  unfold hexOf
  induction l with
  | nil => rfl
  | cons c l ih => rw [List.flatMap_cons, List.length_append, ih]; simp; omega
theorem hexOf_snoc (l : List UInt8) (c : UInt8) : hexOf (l ++ [c]) = hexOf l ++ [hexD (c.toNat / 16)] ++ [hexD (c.toNat % 16)] := by simp [hexOf]
theorem hexOf_take (l : List UInt8) (k : Nat) (h : k < l.length) : hexOf (l.take (k + 1)) = hexOf (l.take k) ++ [hexD (l[k].toNat / 16)] ++ [hexD (l[k].toNat % 16)] := by
  rw [List.take_succ_eq_append_getElem h, hexOf_snoc]
theorem digits_get (n : Nat) (h : n < digitsL.length) : digitsL[n] = hexD n := by simp [hexD, h]
theorem cdig : (ByteArray.mk #[48, 49, 50, 51, 52, 53, 54, 55, 56, 57, 97, 98, 99, 100, 101, 102]) = bs digitsL := rfl
theorem dig_at (m : Nat) (h : m < (ByteArray.mk #[48, 49, 50, 51, 52, 53, 54, 55, 56, 57, 97, 98, 99, 100, 101, 102]).size) : (ByteArray.mk #[48, 49, 50, 51, 52, 53, 54, 55, 56, 57, 97, 98, 99, 100, 101, 102])[m] = hexD m := by
  have h' : m < digitsL.length := h
  exact (bs_get digitsL m h).trans (digits_get m h')
theorem dig_ext (m : Nat) (h : m < 16) : (ByteArray.mk #[48, 49, 50, 51, 52, 53, 54, 55, 56, 57, 97, 98, 99, 100, 101, 102]).extract m (m + 1) = bs [hexD m] := by
  have h' : m < digitsL.length := h
  rw [cdig, bs_extract, show m + 1 - m = 1 from by omega, ← digits_get m h']
  congr 1
  rw [List.drop_eq_getElem_cons h']
  rfl
theorem index32 (l : List UInt8) (hl : l.length = 32) (i : Nat) (hi : i < l.length) (W : World) : (Instr.index 33 (.agg (l.map byteV).toArray) (.int .i64 (i : Int))).run Tryd.prog W = .ok (.int .u8 (l[i].toNat : Int)) W := by
  have h1 : (i : Int) < 32 := by omega
  have h0 : (0 : Int) ≤ (i : Int) := by omega
  have hi' : i < 32 := by omega
  unfold Instr.index
  simp [go_sem, Tryd.underlying33, Tryd.underlying5, h0, h1, hi, hi', byteV]

set_option maxHeartbeats 1000000 in
set_option maxRecDepth 100000 in
theorem Hex_calls (l : List UInt8) (hl : l.length = 32) (w : World) :
    Calls Tryd.prog 23 #[sumV l] w fun e w' => e = .returned (.string (bs (hexOf l))) ∧ Ext w w' := by
  unfold sumV
  go_enter Tryd.func23, Tryd.ntmps23
  go_wp2_with (refine stop_load 33 (.tmp 1) rfl ?_)
  refine ⟨?_⟩
  have hS : ArrB ((w.alloc (.cells (l.map byteV).toArray 33)).alloc (.cells #[.pointer none, .slice none 0 0] 74)) w.heap.size 33 l := Blk.alloc (Blk.new w _ _) _
  have hN : Lib.IsBuilder 74 5 w.heap.size (w.heap.size + 1) (hexOf (l.take 0) |>.map byteV) ((w.alloc (.cells (l.map byteV).toArray 33)).alloc (.cells #[.pointer none, .slice none 0 0] 74)) :=
    .inl ⟨by omega, .slice none 0 0, by rw [← alloc_size]; exact heap_alloc_new _ _, World.ownsRow_nil _ _ _ _, by intro e; cases e⟩
  have hE := ((Ext.refl w).alloc (.cells (l.map byteV).toArray 33)).alloc (.cells #[.pointer none, .slice none 0 0] 74)
  change wpList _ _ _ _ _ ((w.alloc (.cells (l.map byteV).toArray 33)).alloc (.cells #[.pointer none, .slice none 0 0] 74))
  generalize (w.alloc (.cells (l.map byteV).toArray 33)).alloc (.cells #[.pointer none, .slice none 0 0] 74) = w1 at *
  refine wpList_load_row rfl 33 (.tmp 1) rfl w.heap.size (by rfl) 33 _ (0, 0) _ hS Tryd.underlying33 rfl (size32.trans (by simp [hl])) ?_
  simp only [Act.put, List.setIfInBounds_toArray, List.set_cons_zero, List.set_cons_succ]
  clear hS
  go_wp2_with fail
  go_loopw [7] (fun v wr => ∃ k : Nat, k ≤ 32 ∧ v = .int .i64 (k : Int) ∧ Lib.IsBuilder 74 5 w.heap.size (w.heap.size + 1) ((hexOf (l.take k)).map byteV) wr ∧ Ext w wr) (fun v _ => 32 - (intOf v).toNat)
  case atStart => exact ⟨0, by omega, rfl, hN, hE⟩
  case round =>
    clear hN hE
    obtain ⟨k, hk, rfl, hN, hE⟩ := hrel
    by_cases hlt : k < 32
    · have hkl : k < l.length := by omega
      have hix := index32 l hl k hkl
      have hht := hexOf_take l k hkl
      have Hht := Lib.hid hht; clear hht
      have hlen : ((hexOf (l.take k)).map byteV).length ≤ 64 := by rw [List.length_map, hexOf_length]; simp; omega
      have hc := l[k].toNat_lt
      generalize l[k] = c at *
      have hc1 : c.toNat / 16 < 16 := by omega
      have hc2 : c.toNat % 16 < 16 := by omega
      have hkt : (k : Int) < 32 := by omega
      go_wp2_with fail
      go_at_call 48
      refine (WriteByte_calls w.heap.size (w.heap.size + 1) _ _ _ hN (by omega) hE.size).mono ?_
      rintro e w3 ⟨rfl, hN3, hB3⟩
      rw [dig_at] at hN3
      have hE3 : Ext w w3 := Ext.below hE hB3 (Nat.le_refl _)
      clear hN hE hB3
      go_wp2_with fail
      refine (WriteByte_calls w.heap.size (w.heap.size + 1) _ _ _ (.inr hN3) (by simp only [List.length_append, List.length_singleton]; omega) hE3.size).mono ?_
      rintro e w4 ⟨rfl, hN4, hB4⟩
      rw [dig_at] at hN4
      have hE4 : Ext w w4 := Ext.below hE3 hB4 (Nat.le_refl _)
      clear hN3 hE3 hB4
      go_wp2_with fail
      go_roundw
      case rel =>
        refine ⟨k + 1, by omega, by go_num, ?_, hE4⟩
        rw [Hht.out, List.map_append, List.map_append]
        exact .inr hN4
      case measure => simp [intOf]; omega
    · obtain rfl : k = 32 := by omega
      rw [List.take_of_length_le (by omega)] at hN
      go_wp2_with fail
      refine (String_calls w.heap.size (w.heap.size + 1) (hexOf l) _ hN hE.size).mono ?_
      rintro e w3 ⟨rfl, hE3⟩
      go_wp2_with fail
      go_ret
      exact ⟨rfl, Ext.below hE hE3 (Nat.le_refl _)⟩

set_option maxHeartbeats 1000000 in
set_option maxRecDepth 100000 in
theorem refHex_calls (l : List UInt8) (hl : l.length = 32) (w : World) :
    Calls Tryd.prog 24 #[sumV l] w fun e w' => e = .returned (.string (bs (hexOf l))) ∧ Ext w w' := by
  unfold sumV
  go_enter Tryd.func24, Tryd.ntmps24
  go_wp2_with fail
  have hS0 : ArrB (w.alloc (.cells (l.map byteV).toArray 33)) w.heap.size 33 l := Blk.new w _ _
  have hE0 := (Ext.refl w).alloc (.cells (l.map byteV).toArray 33)
  change Code.wp _ _ _ _ (w.alloc (.cells (l.map byteV).toArray 33))
  generalize w.alloc (.cells (l.map byteV).toArray 33) = w1 at *
  go_loopw [4, 5] (fun t v wr => ∃ k : Nat, k ≤ 32 ∧ v = .int .i64 (k : Int) ∧ t = .string (bs (hexOf (l.take k))) ∧ ArrB wr w.heap.size 33 l ∧ Ext w wr) (fun _ v _ => 32 - (intOf v).toNat)
  case atStart => exact ⟨0, by omega, rfl, rfl, hS0, hE0⟩
  case round =>
    clear hS0 hE0
    obtain ⟨k, hk, rfl, rfl, hS, hE⟩ := hrel
    by_cases hlt : k < 32
    · have hkl : k < l.length := by omega
      have hht := hexOf_take l k hkl
      have Hht := Lib.hid hht; clear hht
      have hlen : (hexOf (l.take k)).length ≤ 64 := by rw [hexOf_length]; simp; omega
      have hcell := hS.cell k hkl
      unfold byteV at hcell
      have hc := l[k].toNat_lt
      generalize l[k] = c at *
      have hc1 : c.toNat / 16 < 16 := by omega
      have hc2 : c.toNat % 16 < 16 := by omega
      have hi1 : (c.toNat : Int) / 16 < 16 := by omega
      have hi2 : (c.toNat : Int) % 16 < 16 := by omega
      have hi3 : 0 ≤ (c.toNat : Int) / 16 := by omega
      have hi4 : 0 ≤ (c.toNat : Int) % 16 := by omega
      have hkt : (k : Int) < 32 := by omega
      have hgl : w.heap.size < wr.heap.size := hS.lt
      generalize hexOf (l.take k) = had at *
      go_wp2_with fail
      refine region_mix0 (by kernel_rfl) (by kernel_rfl) (fun x => ?_)
      repeat (first | (refine mix_quiet (by rfl) (by rfl) (fun K hK => ?_); go_big_quiet_op; refine hK _ ?_; clear hK K) | (refine mix_skip (by rfl) ?_; simp only [Act.put, List.setIfInBounds_toArray, List.set_cons_zero, List.set_cons_succ]))
      refine mix_nil ?_
      rw [dig_ext _ hc1, dig_ext _ hc2, bs_append, bs_append, ← Hht.out]
      go_wp2_with fail
      go_roundw
      case rel => exact ⟨k + 1, by omega, by go_num, rfl, Blk.grow x hS, hE.trans (grow_ext x)⟩
      case measure => simp [intOf]; omega
    · obtain rfl : k = 32 := by omega
      rw [List.take_of_length_le (by omega)]
      go_wp2_with fail
      go_ret
      exact ⟨rfl, hE⟩

end Go.Proofs.YtgofnkpegfkonaaDoor
