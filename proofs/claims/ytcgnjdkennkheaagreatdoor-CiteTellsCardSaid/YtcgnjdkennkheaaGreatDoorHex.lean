/-
  The walks of Bytes and Hex.
-/
import Derived.Test.YtcgnjdkennkheaaGreatDoorSha8
set_option linter.unusedVariables false
set_option maxRecDepth 100000
set_option linter.unusedSimpArgs false
namespace Go.Proofs.YtcgnjdkennkheaaGreatDoor
open Go.RowKit
attribute [local go_sem] bs_size bs_toList2 bs_append bs_extract_end bs_extract_begin bs_get wrap64_b grow_cell grow_frozen

theorem Bytes_calls (l : List UInt8) (hl : l.length = 32) (w : World) :
    Calls Tryz.prog 75 #[sumV l] w fun e w' => e = .returned (.string (bs l)) ∧ Ext w w' := by
  have hconv : (convert 87 9 (.slice (some ⟨w.heap.size, 0, none⟩) 32 32)).run Tryz.prog (w.alloc (.cells (l.map byteV).toArray 28)) = .ok (.string (bs l)) (w.alloc (.cells (l.map byteV).toArray 28)) :=
    conv_bytes _ _ _ l 32 32 hl (Blk.rd (Blk.new w _ _))
  unfold sumV
  go_enter Tryz.func75, Tryz.ntmps75
  go_wp2
  go_ret
  exact ⟨rfl, (Ext.refl w).alloc _⟩
theorem refBytes_calls (l : List UInt8) (hl : l.length = 32) (w : World) :
    Calls Tryz.prog 69 #[sumV l] w fun e w' => e = .returned (.string (bs l)) ∧ Ext w w' := by
  have hconv : (convert 87 9 (.slice (some ⟨w.heap.size, 0, none⟩) 32 32)).run Tryz.prog (w.alloc (.cells (l.map byteV).toArray 28)) = .ok (.string (bs l)) (w.alloc (.cells (l.map byteV).toArray 28)) :=
    conv_bytes _ _ _ l 32 32 hl (Blk.rd (Blk.new w _ _))
  unfold sumV
  go_enter Tryz.func69, Tryz.ntmps69
  go_wp2
  go_ret
  exact ⟨rfl, (Ext.refl w).alloc _⟩

def digitsL : List UInt8 := [48, 49, 50, 51, 52, 53, 54, 55, 56, 57, 97, 98, 99, 100, 101, 102]
def hexD (n : Nat) : UInt8 := digitsL.getD n 0
def hexOf (l : List UInt8) : List UInt8 := l.flatMap fun c => [hexD (c.toNat / 16), hexD (c.toNat % 16)]
theorem hexOf_length (l : List UInt8) : (hexOf l).length = 2 * l.length := by
  unfold hexOf
  induction l with
  | nil => rfl
  | cons c l ih => rw [List.flatMap_cons, List.length_append, ih]; simp; omega
theorem hexOf_snoc (l : List UInt8) (c : UInt8) : hexOf (l ++ [c]) = hexOf l ++ [hexD (c.toNat / 16)] ++ [hexD (c.toNat % 16)] := by simp [hexOf]
theorem hexOf_take (l : List UInt8) (k : Nat) (h : k < l.length) : hexOf (l.take (k + 1)) = hexOf (l.take k) ++ [hexD (l[k].toNat / 16)] ++ [hexD (l[k].toNat % 16)] := by
  rw [List.take_succ_eq_append_getElem h, hexOf_snoc]
theorem digits_get (n : Nat) (h : n < digitsL.length) : digitsL[n] = hexD n := by simp [hexD, h]
theorem cdig : (ByteArray.mk #[48, 49, 50, 51, 52, 53, 54, 55, 56, 57, 97, 98, 99, 100, 101, 102]) = bs digitsL := rfl
theorem dig_at (m : Nat) (h : m < (ByteArray.mk #[48, 49, 50, 51, 52, 53, 54, 55, 56, 57, 97, 98, 99, 100, 101, 102]).size) : (ByteArray.mk #[48, 49, 50, 51, 52, 53, 54, 55, 56, 57, 97, 98, 99, 100, 101, 102])[m] = hexD m := by
  have h' : m < digitsL.length := h
  exact (bs_get digitsL m h).trans (digits_get m h')
theorem dig_ext (m : Nat) (h : m < 16) : (ByteArray.mk #[48, 49, 50, 51, 52, 53, 54, 55, 56, 57, 97, 98, 99, 100, 101, 102]).extract m (m + 1) = bs [hexD m] := by
  have h' : m < digitsL.length := h
  rw [cdig, bs_extract, show m + 1 - m = 1 from by omega, ← digits_get m h']
  congr 1
  rw [List.drop_eq_getElem_cons h']
  rfl
theorem index32 (l : List UInt8) (hl : l.length = 32) (i : Nat) (hi : i < l.length) (W : World) : (Instr.index 28 (.agg (l.map byteV).toArray) (.int .i64 (i : Int))).run Tryz.prog W = .ok (.int .u8 (l[i].toNat : Int)) W := by
  have h1 : (i : Int) < 32 := by omega
  have h0 : (0 : Int) ≤ (i : Int) := by omega
  have hi' : i < 32 := by omega
  unfold Instr.index
  simp [go_sem, Tryz.underlying28, Tryz.underlying5, h0, h1, hi, hi', byteV]

end Go.Proofs.YtcgnjdkennkheaaGreatDoor
