/-
  The walks of Bytes and Hex.
-/
import Derived.Test.YtlcimlencoaiiaaDoorSha8
set_option linter.unusedVariables false
set_option maxRecDepth 100000
set_option linter.unusedSimpArgs false
namespace Go.Proofs.YtlcimlencoaiiaaDoor
open Go.RowKit
attribute [local go_sem] bs_size bs_toList2 bs_append bs_extract_end bs_extract_begin bs_get wrap64_b grow_cell grow_frozen

theorem Bytes_calls (l : List UInt8) (hl : l.length = 32) (w : World) :
    Calls Tryd.prog 59 #[sumV l] w fun e w' => e = .returned (.string (bs l)) ∧ Ext w w' := by
  have hconv : (convert 47 9 (.slice (some ⟨w.heap.size, 0, none⟩) 32 32)).run Tryd.prog (w.alloc (.cells (l.map byteV).toArray 23)) = .ok (.string (bs l)) (w.alloc (.cells (l.map byteV).toArray 23)) :=
    conv_bytes _ _ _ l 32 32 hl (Blk.rd (Blk.new w _ _))
  unfold sumV
  go_enter Tryd.func59, Tryd.ntmps59
  go_wp2
  go_ret
  exact ⟨rfl, (Ext.refl w).alloc _⟩
theorem refBytes_calls (l : List UInt8) (hl : l.length = 32) (w : World) :
    Calls Tryd.prog 60 #[sumV l] w fun e w' => e = .returned (.string (bs l)) ∧ Ext w w' := by
  have hconv : (convert 47 9 (.slice (some ⟨w.heap.size, 0, none⟩) 32 32)).run Tryd.prog (w.alloc (.cells (l.map byteV).toArray 23)) = .ok (.string (bs l)) (w.alloc (.cells (l.map byteV).toArray 23)) :=
    conv_bytes _ _ _ l 32 32 hl (Blk.rd (Blk.new w _ _))
  unfold sumV
  go_enter Tryd.func60, Tryd.ntmps60
  go_wp2
  go_ret
  exact ⟨rfl, (Ext.refl w).alloc _⟩

def digitsL : List UInt8 := [48, 49, 50, 51, 52, 53, 54, 55, 56, 57, 97, 98, 99, 100, 101, 102]
def hexD (n : Nat) : UInt8 := digitsL.getD n 0
def hexOf (l : List UInt8) : List UInt8 := l.flatMap fun c => [hexD (c.toNat / 16), hexD (c.toNat % 16)]
theorem hexOf_length (l : List UInt8) : (hexOf l).length = 2 * l.length := by
  unfold hexOf
  induction l with
  | nil => rfl
  | cons c l ih => rw [List.flatMap_cons, List.length_append, ih]; simp; omega
theorem hexOf_snoc (l : List UInt8) (c : UInt8) : hexOf (l ++ [c]) = hexOf l ++ [hexD (c.toNat / 16)] ++ [hexD (c.toNat % 16)] := by simp [hexOf]
theorem hexOf_take (l : List UInt8) (k : Nat) (h : k < l.length) : hexOf (l.take (k + 1)) = hexOf (l.take k) ++ [hexD (l[k].toNat / 16)] ++ [hexD (l[k].toNat % 16)] := by
  rw [List.take_succ_eq_append_getElem h, hexOf_snoc]
theorem digits_get (n : Nat) (h : n < digitsL.length) : digitsL[n] = hexD n := by simp [hexD, h]
theorem cdig : (ByteArray.mk #[48, 49, 50, 51, 52, 53, 54, 55, 56, 57, 97, 98, 99, 100, 101, 102]) = bs digitsL := rfl
theorem dig_at (m : Nat) (h : m < (ByteArray.mk #[48, 49, 50, 51, 52, 53, 54, 55, 56, 57, 97, 98, 99, 100, 101, 102]).size) : (ByteArray.mk #[48, 49, 50, 51, 52, 53, 54, 55, 56, 57, 97, 98, 99, 100, 101, 102])[m] = hexD m := by
  have h' : m < digitsL.length := h
  exact (bs_get digitsL m h).trans (digits_get m h')
theorem dig_ext (m : Nat) (h : m < 16) : (ByteArray.mk #[48, 49, 50, 51, 52, 53, 54, 55, 56, 57, 97, 98, 99, 100, 101, 102]).extract m (m + 1) = bs [hexD m] := by
  have h' : m < digitsL.length := h
  rw [cdig, bs_extract, show m + 1 - m = 1 from by omega, ← digits_get m h']
  congr 1
  rw [List.drop_eq_getElem_cons h']
  rfl
theorem index32 (l : List UInt8) (hl : l.length = 32) (i : Nat) (hi : i < l.length) (W : World) : (Instr.index 23 (.agg (l.map byteV).toArray) (.int .i64 (i : Int))).run Tryd.prog W = .ok (.int .u8 (l[i].toNat : Int)) W := by
  have h1 : (i : Int) < 32 := by omega
  have h0 : (0 : Int) ≤ (i : Int) := by omega
  have hi' : i < 32 := by omega
  unfold Instr.index
  simp [go_sem, Tryd.underlying23, Tryd.underlying5, h0, h1, hi, hi', byteV]

set_option maxHeartbeats 1000000 in
set_option maxRecDepth 100000 in
theorem refHex_calls (l : List UInt8) (hl : l.length = 32) (w : World) :
    Calls Tryd.prog 57 #[sumV l] w fun e w' => e = .returned (.string (bs (hexOf l))) ∧ Ext w w' := by
  unfold sumV
  go_enter Tryd.func57, Tryd.ntmps57
  go_wp2_with fail
  have hS0 : ArrB (w.alloc (.cells (l.map byteV).toArray 23)) w.heap.size 23 l := Blk.new w _ _
  have hE0 := (Ext.refl w).alloc (.cells (l.map byteV).toArray 23)
  change Code.wp _ _ _ _ (w.alloc (.cells (l.map byteV).toArray 23))
  generalize w.alloc (.cells (l.map byteV).toArray 23) = w1 at *
  go_loopw [4, 5] (fun t v wr => ∃ k : Nat, k ≤ 32 ∧ v = .int .i64 (k : Int) ∧ t = .string (bs (hexOf (l.take k))) ∧ ArrB wr w.heap.size 23 l ∧ Ext w wr) (fun _ v _ => 32 - (intOf v).toNat)
  case atStart => exact ⟨0, by omega, rfl, rfl, hS0, hE0⟩
  case round =>
    clear hS0 hE0
    obtain ⟨k, hk, rfl, rfl, hS, hE⟩ := hrel
    by_cases hlt : k < 32
    · have hkl : k < l.length := by omega
      have hht := hexOf_take l k hkl
      have Hht := Lib.hid hht; clear hht
      have hlen : (hexOf (l.take k)).length ≤ 64 := by rw [hexOf_length]; simp; omega
      have hcell := hS.cell k hkl
      unfold byteV at hcell
      have hc := l[k].toNat_lt
      generalize l[k] = c at *
      have hc1 : c.toNat / 16 < 16 := by omega
      have hc2 : c.toNat % 16 < 16 := by omega
      have hi1 : (c.toNat : Int) / 16 < 16 := by omega
      have hi2 : (c.toNat : Int) % 16 < 16 := by omega
      have hi3 : 0 ≤ (c.toNat : Int) / 16 := by omega
      have hi4 : 0 ≤ (c.toNat : Int) % 16 := by omega
      have hkt : (k : Int) < 32 := by omega
      have hgl : w.heap.size < wr.heap.size := hS.lt
      generalize hexOf (l.take k) = had at *
      go_wp2_with fail
      refine region_mix0 (by kernel_rfl) (by kernel_rfl) (fun x => ?_)
      repeat (first | (refine mix_quiet (by rfl) (by rfl) (fun K hK => ?_); go_big_quiet_op; refine hK _ ?_; clear hK K) | (refine mix_skip (by rfl) ?_; simp only [Act.put, List.setIfInBounds_toArray, List.set_cons_zero, List.set_cons_succ]))
      refine mix_nil ?_
      rw [dig_ext _ hc1, dig_ext _ hc2, bs_append, bs_append, ← Hht.out]
      go_wp2_with fail
      go_roundw
      case rel => exact ⟨k + 1, by omega, by go_num, rfl, Blk.grow x hS, hE.trans (grow_ext x)⟩
      case measure => simp [intOf]; omega
    · obtain rfl : k = 32 := by omega
      rw [List.take_of_length_le (by omega)]
      go_wp2_with fail
      go_ret
      exact ⟨rfl, hE⟩

end Go.Proofs.YtlcimlencoaiiaaDoor
