/-
  Plain laws of the two schedules and the two ways to add.
-/
import Derived.Test.YtcgnjdkennkheaaGreatDoorSha2
set_option linter.unusedVariables false
set_option maxRecDepth 100000
set_option linter.unusedSimpArgs false
namespace Go.Proofs.YtcgnjdkennkheaaGreatDoor
open Go.RowKit
def nextR (l : List Int) (t : Nat) : Int := (xorW (xorW (rotr 17 (wat l (t - 2))) (rotr 19 (wat l (t - 2)))) (wat l (t - 2) / 1024) + wat l (t - 7) + xorW (xorW (rotr 7 (wat l (t - 15))) (rotr 18 (wat l (t - 15)))) (wat l (t - 15) / 8) + wat l (t - 16)) % 4294967296
def refW (b : List Int) : Nat → List Int
  | 0 => zeros 64
  | k + 1 => (refW b k).set k (if k < 16 then wat b k else nextR (refW b k) k)
theorem refW_length (b : List Int) (k : Nat) : (refW b k).length = 64 := by
  induction k with
  | zero => simp [refW, zeros]
  | succ k ih => simp [refW, ih]
theorem nextR_eq (l : List Int) (t : Nat) : nextR l t = nextW l t := rfl
theorem refW_head (b : List Int) (hb : b.length = 16) : ∀ k, k ≤ 16 → refW b k = b.take k ++ zeros (64 - k) := by
  intro k
  induction k with
  | zero => intro _; simp [refW]
  | succ k ih =>
    intro hk
    rw [refW, ih (by omega), if_pos (by omega)]
    apply List.ext_getElem?
    intro i
    have hl : (b.take k).length = k := by simp; omega
    by_cases hi : i = k
    · subst hi
      rw [List.getElem?_set_self (by simp [hl, zeros]; omega), List.getElem?_append_left (by simp; omega)]
      simp [List.getElem?_take, wat, hb, show i < 16 from by omega]
    · rw [List.getElem?_set_ne (by omega)]
      rcases Nat.lt_or_ge i k with h | h
      · rw [List.getElem?_append_left (by omega), List.getElem?_append_left (by simp; omega)]
        simp [List.getElem?_take, h, show i < k + 1 from by omega]
      · rw [List.getElem?_append_right (by omega), List.getElem?_append_right (by simp; omega)]
        simp only [zeros, List.getElem?_replicate, List.length_take]
        by_cases h64 : i < 64
        · rw [if_pos (by omega), if_pos (by omega)]
        · rw [if_neg (by omega), if_neg (by omega)]
theorem refW_tail (b : List Int) (hb : b.length = 16) (k : Nat) : refW b (16 + k) = schedK b k := by
  induction k with
  | zero =>
    rw [refW_head b hb _ (Nat.le_refl _), List.take_of_length_le (by omega)]
    rfl
  | succ k ih =>
    show refW b ((16 + k) + 1) = _
    rw [refW, if_neg (by omega), ih, nextR_eq]
    rfl
theorem refW_sched (b : List Int) (hb : b.length = 16) : refW b 64 = schedK b 48 := refW_tail b hb 48

theorem addK_get (s v : List Int) (k i : Nat) : wat (addK s v k) i = if i < k ∧ i < s.length then (wat s i + wat v i) % 4294967296 else wat s i := by
  induction k with
  | zero => simp [addK]
  | succ k ih =>
    have hl := addK_length s v k
    unfold addK
    unfold wat at *
    by_cases hi : i = k
    · subst hi
      rw [List.getD_eq_getElem?_getD]
      by_cases h : i < s.length
      · rw [List.getElem?_set_self (by omega), if_pos ⟨by omega, h⟩]
        simp only [Option.getD_some]
        rw [ih, if_neg (by omega)]
      · rw [if_neg (by omega), List.getElem?_eq_none (by simp; omega), List.getD_eq_getElem?_getD, List.getElem?_eq_none (by omega)]
    · rw [List.getD_eq_getElem?_getD, List.getElem?_set_ne (by omega), ← List.getD_eq_getElem?_getD, ih]
      by_cases h : i < k ∧ i < s.length
      · rw [if_pos h, if_pos (by omega)]
      · rw [if_neg h, if_neg (by omega)]
theorem wat_ext {a b : List Int} (hl : a.length = b.length) (h : ∀ i, i < a.length → wat a i = wat b i) : a = b := by
  apply List.ext_getElem?
  intro i
  rcases Nat.lt_or_ge i a.length with hi | hi
  · have := h i hi
    unfold wat at this
    rw [List.getD_eq_getElem?_getD, List.getD_eq_getElem?_getD, List.getElem?_eq_getElem hi, List.getElem?_eq_getElem (by omega)] at this
    rw [List.getElem?_eq_getElem hi, List.getElem?_eq_getElem (by omega)]
    simpa using this
  · rw [List.getElem?_eq_none hi, List.getElem?_eq_none (by omega)]
theorem eight_eq {v : List Int} (h : v.length = 8) : eight v = v := by
  match v, h with
  | [a, b, c, d, e, f, g, i], _ => rfl
theorem rounds_length (W s : List Int) (hs : s.length = 8) (k : Nat) : (rounds W s k).length = 8 := by
  cases k with
  | zero => exact hs
  | succ k => rfl
theorem step_ref (s b : List Int) (hs : s.length = 8) : step s b = addK (rounds (schedK b 48) s 64) s 8 := by
  unfold step
  have hv := rounds_length (schedK b 48) s hs 64
  rw [eight_eq hv]
  generalize rounds (schedK b 48) s 64 = v at *
  refine wat_ext (by simp [addK_length, hs, hv]) fun i hi => ?_
  rw [addK_length, hs] at hi
  rw [addK_get, addK_get, if_pos (by omega), if_pos (by omega), Int.add_comm]
end Go.Proofs.YtcgnjdkennkheaaGreatDoor
