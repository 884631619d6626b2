/-
  The walks of (*sha.Hash).Sum, New, Len, Of.
-/
import Derived.Test.YtcgnjdkennkheaaSha5
import Derived.Test.YtcgnjdkennkheaaShelf
set_option linter.unusedVariables false
set_option maxRecDepth 100000
set_option linter.unusedSimpArgs false
namespace Go.Proofs.Ytcgnjdkennkheaa
open Go.RowKit
attribute [local go_sem] bs_size bs_toList2 bs_append bs_extract_end bs_extract_begin bs_get wrap64_b grow_cell grow_frozen

/-- An array of bytes at block g. -/
def ArrB (w : World) (g : Nat) (t : TypeId) (l : List UInt8) : Prop := Blk w g t (l.map byteV).toArray
theorem ArrB.set {w : World} {g : Nat} {t : TypeId} {l : List UInt8} (h : ArrB w g t l) (i : Nat) (c : UInt8) : ArrB (w.setCell ⟨g, i, none⟩ (byteV c)) g t (l.set i c) := by
  have := Blk.set_ h i (byteV c)
  simpa [ArrB, List.map_set] using this
theorem ArrB.cell {w : World} {g : Nat} {t : TypeId} {l : List UInt8} (h : ArrB w g t l) (i : Nat) (hi : i < l.length) : w.cell? ⟨g, i, none⟩ = some (byteV l[i]) := by
  rw [Blk.cell h i]
  simp [hi]
def zerosB (n : Nat) : List UInt8 := List.replicate n 0
/-- The first i of l, then zeros. -/
def fillB (l : List UInt8) (i : Nat) : List UInt8 := l.take i ++ zerosB (l.length - i)
theorem fillB_zero (l : List UInt8) : fillB l 0 = zerosB l.length := by simp [fillB]
theorem fillB_all (l : List UInt8) : fillB l l.length = l := by simp [fillB, zerosB]
theorem fillB_length (l : List UInt8) (i : Nat) (h : i ≤ l.length) : (fillB l i).length = l.length := by simp [fillB, zerosB]; omega
theorem fillB_succ (l : List UInt8) (i : Nat) (h : i < l.length) : fillB l (i + 1) = (fillB l i).set i l[i] := by
  unfold fillB zerosB
  apply List.ext_getElem?
  intro j
  have hl : (l.take i).length = i := by simp; omega
  have hl' : (l.take (i + 1)).length = i + 1 := by simp; omega
  by_cases hj : j = i
  · subst hj
    rw [List.getElem?_set_self (by simp; omega), List.getElem?_append_left (by simp; omega)]
    simp [List.getElem?_take, h]
  · rw [List.getElem?_set_ne (by omega)]
    rcases Nat.lt_or_ge j i with h' | h'
    · rw [List.getElem?_append_left (by omega), List.getElem?_append_left (by simp; omega)]
      simp [List.getElem?_take, h', show j < i + 1 from by omega]
    · rw [List.getElem?_append_right (by omega), List.getElem?_append_right (by simp; omega)]
      simp only [List.getElem?_replicate, List.length_take]
      by_cases h64 : j < l.length
      · rw [if_pos (by omega), if_pos (by omega)]
      · rw [if_neg (by omega), if_neg (by omega)]
theorem size32 : (Try.prog.info? 23).map (·.size) = some 32 := by kernel_rfl
def sumV (l : List UInt8) : Value := .agg (l.map byteV).toArray
theorem len8_length (n : Int) : (len8 n).length = 8 := by simp [len8]
theorem len8_get (n : Int) (i : Nat) (hi : i < 8) : (len8 n)[i]'(by rw [len8_length]; exact hi) = UInt8.ofNat ((n * 8 % 18446744073709551616) / 2 ^ (8 * (7 - i)) % 256).toNat := by simp [len8]
theorem byteV_mod (x : Int) : Value.int .u8 (x % 256) = byteV (UInt8.ofNat (x % 256).toNat) := by
  unfold byteV
  have h0 : 0 ≤ x % 256 := Int.emod_nonneg _ (by omega)
  have h1 : x % 256 < 256 := Int.emod_lt_of_pos _ (by omega)
  congr 1
  rw [UInt8.toNat_ofNat', Nat.mod_eq_of_lt (by omega)]
  omega

theorem outB_get (st : List Int) (i : Nat) (hi : i < 32) : (outB st)[i]'(by rw [outB_length]; exact hi) = UInt8.ofNat (wat st (i / 4) / 2 ^ (24 - 8 * (i % 4)) % 256).toNat := by simp [outB]
theorem c128 : (ByteArray.mk #[128]) = bs [128] := rfl
attribute [local go_sem] c128
end Go.Proofs.Ytcgnjdkennkheaa
