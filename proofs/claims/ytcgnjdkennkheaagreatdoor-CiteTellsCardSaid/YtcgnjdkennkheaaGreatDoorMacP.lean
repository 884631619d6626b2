/-
  Plain: keys padded, bytes turned, sums by a key.
-/
import Derived.Test.YtcgnjdkennkheaaGreatDoorSha9
import Derived.Laws.BitsAllLaws
set_option linter.unusedVariables false
set_option maxRecDepth 100000
set_option linter.unusedSimpArgs false
namespace Go.Proofs.YtcgnjdkennkheaaGreatDoor
open Go.RowKit

def keyB (key : List UInt8) : List UInt8 := if 64 < key.length then shaOf key else key
def padB (key : List UInt8) : List UInt8 := keyB key ++ zerosB (64 - (keyB key).length)
def xorB (l : List UInt8) (c : UInt8) : List UInt8 := l.map (· ^^^ c)
def macOf (key s : List UInt8) : List UInt8 := shaOf (xorB (padB key) 92 ++ shaOf (xorB (padB key) 54 ++ s))
theorem keyB_length (key : List UInt8) : (keyB key).length ≤ 64 := by
  unfold keyB
  split
  · rw [shaOf_length]; omega
  · omega
theorem padB_length (key : List UInt8) : (padB key).length = 64 := by
  have := keyB_length key
  unfold padB zerosB
  simp
  omega
theorem xorB_length (l : List UInt8) (c : UInt8) : (xorB l c).length = l.length := by simp [xorB]
theorem macOf_length (key s : List UInt8) : (macOf key s).length = 32 := shaOf_length _
theorem keyB_long (key : List UInt8) (h : 64 < key.length) : keyB key = shaOf key := if_pos h
theorem keyB_short (key : List UInt8) (h : ¬ 64 < key.length) : keyB key = key := if_neg h
/-- The first i bytes turned. -/
def turnB (l : List UInt8) (c : UInt8) (i : Nat) : List UInt8 := xorB (l.take i) c ++ l.drop i
theorem turnB_zero (l : List UInt8) (c : UInt8) : turnB l c 0 = l := by simp [turnB, xorB]
theorem turnB_all (l : List UInt8) (c : UInt8) : turnB l c l.length = xorB l c := by simp [turnB, xorB]
theorem turnB_length (l : List UInt8) (c : UInt8) (i : Nat) : (turnB l c i).length = l.length := by simp [turnB, xorB]; omega
theorem turnB_get (l : List UInt8) (c : UInt8) (i : Nat) (h : i < l.length) : (turnB l c i)[i]'(by rw [turnB_length]; exact h) = l[i] := by
  unfold turnB
  rw [List.getElem_append_right (by simp [xorB]; omega)]
  simp [xorB, Nat.min_eq_left (Nat.le_of_lt h)]
theorem turnB_succ (l : List UInt8) (c : UInt8) (i : Nat) (h : i < l.length) : turnB l c (i + 1) = (turnB l c i).set i (l[i] ^^^ c) := by
  unfold turnB
  rw [List.set_append_right _ _ (by simp [xorB]; omega), List.drop_eq_getElem_cons h]
  have e : i - (xorB (l.take i) c).length = 0 := by simp [xorB]; omega
  rw [e, List.set_cons_zero, List.take_succ_eq_append_getElem h]
  have e2 : xorB (l.take i ++ [l[i]]) c = xorB (l.take i) c ++ [l[i] ^^^ c] := by unfold xorB; rw [List.map_append]; rfl
  rw [e2, List.append_assoc]
  rfl
theorem byte_xor (a b : UInt8) : bits .xor .u8 (a.toNat : Int) (b.toNat : Int) = ((a ^^^ b).toNat : Int) := by
  rw [u8_xor_nat _ _ a.toNat_lt b.toNat_lt, UInt8.toNat_xor]
/-- The first i bytes of xorB, then zeros (an array that is filled). -/
theorem xorB_get (l : List UInt8) (c : UInt8) (i : Nat) (h : i < l.length) : (xorB l c)[i]'(by rw [xorB_length]; exact h) = l[i] ^^^ c := by simp [xorB]

/-! ### Comparing bit by bit -/
/-- All bits in which the first i bytes differ. -/
def unlikeB (a b : List UInt8) : Nat → UInt8
  | 0 => 0
  | i + 1 => unlikeB a b i ||| (a.getD i 0 ^^^ b.getD i 0)
theorem or_zero (x y : UInt8) : x ||| y = 0 ↔ x = 0 ∧ y = 0 := by
  constructor
  · intro h
    have h' : (x ||| y).toBitVec = 0#8 := by rw [h]; rfl
    rw [UInt8.toBitVec_or] at h'
    constructor
    · apply UInt8.toBitVec_inj.1
      apply BitVec.eq_of_getLsbD_eq
      intro i hi
      have := congrArg (fun v => BitVec.getLsbD v i) h'
      simp at this
      simpa using this.1
    · apply UInt8.toBitVec_inj.1
      apply BitVec.eq_of_getLsbD_eq
      intro i hi
      have := congrArg (fun v => BitVec.getLsbD v i) h'
      simp at this
      simpa using this.2
  · rintro ⟨rfl, rfl⟩; rfl
theorem xor_zero (x y : UInt8) : x ^^^ y = 0 ↔ x = y := by
  constructor
  · intro h
    have h' : (x ^^^ y).toBitVec = 0#8 := by rw [h]; rfl
    rw [UInt8.toBitVec_xor] at h'
    apply UInt8.toBitVec_inj.1
    apply BitVec.eq_of_getLsbD_eq
    intro i hi
    have := congrArg (fun v => BitVec.getLsbD v i) h'
    simpa using this
  · rintro rfl; simp
theorem unlikeB_zero (a b : List UInt8) : ∀ n, unlikeB a b n = 0 ↔ ∀ i, i < n → a.getD i 0 = b.getD i 0 := by
  intro n
  induction n with
  | zero => simp [unlikeB]
  | succ n ih =>
    rw [unlikeB, or_zero, ih, xor_zero]
    constructor
    · rintro ⟨h1, h2⟩ i hi
      rcases Nat.lt_or_ge i n with h | h
      · exact h1 i h
      · obtain rfl : i = n := by omega
        exact h2
    · intro h
      exact ⟨fun i hi => h i (by omega), h n (by omega)⟩
theorem unlikeB_eq (a b : List UInt8) (ha : a.length = 32) (hb : b.length = 32) : decide (unlikeB a b 32 = 0) = decide (b = a) := by
  rw [decide_eq_decide, unlikeB_zero]
  constructor
  · intro h
    apply List.ext_getElem (by omega)
    intro i h1 h2
    have := h i (by omega)
    rw [List.getD_eq_getElem?_getD, List.getD_eq_getElem?_getD, List.getElem?_eq_getElem h1, List.getElem?_eq_getElem h2] at this
    exact this.symm
  · rintro rfl; intro i _; rfl
theorem byte_or (a b : UInt8) : bits .or .u8 (a.toNat : Int) (b.toNat : Int) = ((a ||| b).toNat : Int) := by
  rw [u8_or_nat _ _ a.toNat_lt b.toNat_lt, UInt8.toNat_or]

end Go.Proofs.YtcgnjdkennkheaaGreatDoor
