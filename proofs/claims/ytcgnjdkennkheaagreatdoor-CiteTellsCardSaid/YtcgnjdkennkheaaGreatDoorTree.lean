/-
  Plain: trees over lists: rows, roots by halves, how they agree.
-/
import Derived.Test.YtcgnjdkennkheaaGreatDoorProg
set_option linter.unusedVariables false
set_option maxRecDepth 100000
set_option linter.unusedSimpArgs false
namespace Go.Proofs.YtcgnjdkennkheaaGreatDoor.Tree

section
variable {α : Type} (nd : α → α → α) (e : α)
/-- The row above one. -/
def above : List α → List α
  | [] => []
  | [x] => [x]
  | x :: y :: r => nd x y :: above r
theorem above_length : ∀ l : List α, (above nd l).length = (l.length + 1) / 2
  | [] => by simp [above]
  | [x] => by simp [above]
  | x :: y :: r => by
    simp only [above, List.length_cons, above_length r]
    omega
theorem above_append : ∀ (a b : List α), a.length % 2 = 0 → above nd (a ++ b) = above nd a ++ above nd b
  | [], b, _ => rfl
  | [x], b, h => by simp at h
  | x :: y :: r, b, h => by
    simp only [List.cons_append, above, List.cons.injEq, true_and]
    exact above_append r b (by simp only [List.length_cons] at h; omega)
/-- The first k pairs put together. -/
theorem above_pairs (l : List α) : ∀ k, 2 * k + 1 < l.length → above nd (l.take (2 * (k + 1))) = above nd (l.take (2 * k)) ++ [nd (l[2 * k]?.getD e) (l[2 * k + 1]?.getD e)] := by
  intro k hk
  have h1 : l.take (2 * (k + 1)) = l.take (2 * k) ++ [l[2 * k]'(by omega), l[2 * k + 1]] := by
    rw [show 2 * (k + 1) = 2 * k + 1 + 1 by omega, List.take_succ_eq_append_getElem (by omega), List.take_succ_eq_append_getElem (by omega), List.append_assoc]
    rfl
  rw [h1, above_append _ _ _ (by simp; omega)]
  congr 1
  simp [above, List.getElem?_eq_getElem (show 2 * k < l.length by omega), List.getElem?_eq_getElem hk]
theorem above_odd (l : List α) (h : l.length % 2 = 1) : above nd l = above nd (l.take (2 * (l.length / 2))) ++ [l[l.length - 1]?.getD e] := by
  have h1 : l = l.take (2 * (l.length / 2)) ++ [l[l.length - 1]'(by omega)] := by
    conv => lhs; rw [← List.take_append_drop (2 * (l.length / 2)) l]
    congr 1
    rw [List.drop_eq_getElem_cons (by omega), List.drop_of_length_le (by omega)]
    congr 2
    omega
  conv => lhs; rw [h1]
  rw [above_append _ _ _ (by simp; omega)]
  congr 1
  simp [above, List.getElem?_eq_getElem (show l.length - 1 < l.length by omega)]
theorem above_even (l : List α) (h : l.length % 2 = 0) : above nd l = above nd (l.take (2 * (l.length / 2))) := by
  rw [List.take_of_length_le (by omega)]

/-- The k-th row. -/
def row (l : List α) : Nat → List α
  | 0 => l
  | k + 1 => above nd (row l k)
theorem row_above (l : List α) : ∀ k, row nd (above nd l) k = row nd l (k + 1)
  | 0 => rfl
  | k + 1 => by
    show above nd (row nd (above nd l) k) = above nd (row nd l (k + 1))
    rw [row_above l k]
/-- How many rows there are above the first one. -/
def depthF : Nat → Nat → Nat
  | 0, _ => 0
  | f + 1, n => if n < 2 then 0 else depthF f ((n + 1) / 2) + 1
theorem depthF_more : ∀ (f n : Nat), n ≤ f → depthF (f + 1) n = depthF f n
  | 0, n, h => by
    obtain rfl : n = 0 := by omega
    rfl
  | f + 1, n, h => by
    by_cases h2 : n < 2
    · simp only [depthF, if_pos h2]
    · have e1 : depthF (f + 1 + 1) n = depthF (f + 1) ((n + 1) / 2) + 1 := by conv => lhs; unfold depthF; rw [if_neg h2]
      have e2 : depthF (f + 1) n = depthF f ((n + 1) / 2) + 1 := by conv => lhs; unfold depthF; rw [if_neg h2]
      rw [e1, e2, depthF_more f _ (by omega)]
theorem depthF_any (n : Nat) : ∀ k, depthF (n + k) n = depthF n n
  | 0 => rfl
  | k + 1 => by rw [← Nat.add_assoc, depthF_more _ _ (by omega), depthF_any n k]
def depth (n : Nat) : Nat := depthF n n
theorem depth_lt (n : Nat) (h : n < 2) : depth n = 0 := by
  have h2 : n = 0 ∨ n = 1 := by omega
  rcases h2 with rfl | rfl <;> rfl
theorem depth_ge (n : Nat) (h : 2 ≤ n) : depth n = depth ((n + 1) / 2) + 1 := by
  obtain ⟨m, rfl⟩ : ∃ m, n = m + 1 := ⟨n - 1, by omega⟩
  unfold depth
  rw [depthF, if_neg (by omega)]
  have := depthF_any ((m + 1 + 1) / 2) (m - (m + 1 + 1) / 2)
  rw [show (m + 1 + 1) / 2 + (m - (m + 1 + 1) / 2) = m by omega] at this
  rw [this]
/-- All rows. -/
def levels (l : List α) : List (List α) := (List.range (depth l.length + 1)).map (row nd l)
/-- The last row's first one. -/
def root (l : List α) : α := if l.length = 0 then e else (row nd l (depth l.length)).headD e
theorem row_length (l : List α) : ∀ k, (row nd l (k + 1)).length = ((row nd l k).length + 1) / 2 := fun k => above_length nd _
theorem root_above (l : List α) (h : 2 ≤ l.length) : root nd e l = root nd e (above nd l) := by
  unfold root
  rw [if_neg (by omega), if_neg (by rw [above_length]; omega), depth_ge _ h, above_length, row_above]
theorem row_last (l : List α) : ∀ k n, n = l.length → k + depth (row nd l k).length = depth n → (row nd l k).length < 2 → k = depth n := by
  intro k n _ h h2
  rw [depth_lt _ h2] at h
  omega
theorem last_length : ∀ (n : Nat) (l : List α), l.length = n → 0 < n → (row nd l (depth n)).length = 1 := by
  intro n
  induction n using Nat.strongRecOn with
  | ind n ih =>
    intro l hl hn
    by_cases h : n < 2
    · rw [depth_lt n h]
      show l.length = 1
      omega
    · rw [depth_ge n (by omega), ← row_above]
      exact ih ((n + 1) / 2) (by omega) _ (by rw [above_length, hl]) (by omega)

/-! ### By halves -/
def split (n : Nat) : Nat := if n < 2 then 0 else 2 ^ (n - 1).log2
theorem split_pos (n : Nat) (h : 2 ≤ n) : 0 < split n := by
  unfold split
  rw [if_neg (by omega)]
  exact Nat.pow_pos (by omega)
theorem split_lt (n : Nat) (h : 2 ≤ n) : split n < n := by
  unfold split
  rw [if_neg (by omega)]
  have := Nat.log2_self_le (n := n - 1) (by omega)
  omega
theorem split_half (n : Nat) (h : 2 ≤ n) : n ≤ 2 * split n := by
  unfold split
  rw [if_neg (by omega)]
  have : n - 1 < 2 ^ ((n - 1).log2 + 1) := Nat.lt_log2_self
  rw [Nat.pow_succ] at this
  omega
theorem split_two : split 2 = 1 := by decide
theorem split_up (n : Nat) (h : 3 ≤ n) : split n = 2 * split ((n + 1) / 2) := by
  unfold split
  rw [if_neg (by omega), if_neg (by omega), show (n + 1) / 2 - 1 = (n - 1) / 2 by omega]
  rw [Nat.log2_def (n - 1), if_pos (by omega), Nat.pow_succ]
  omega
/-- A power of two that is less than n, n not above its double, is the split. -/
theorem split_is (n k : Nat) (h1 : 2 ^ k < n) (h2 : n ≤ 2 * 2 ^ k) : split n = 2 ^ k := by
  have hp : 0 < 2 ^ k := Nat.pow_pos (by omega)
  unfold split
  rw [if_neg (by omega)]
  congr 1
  rw [Nat.log2_eq_iff (by omega), Nat.pow_succ]
  omega
def rootF : Nat → List α → α
  | 0, _ => e
  | f + 1, l => match l with
    | [] => e
    | [x] => x
    | l => nd (rootF f (l.take (split l.length))) (rootF f (l.drop (split l.length)))
theorem rootF_two (f : Nat) (l : List α) (h : 2 ≤ l.length) : rootF nd e (f + 1) l = nd (rootF nd e f (l.take (split l.length))) (rootF nd e f (l.drop (split l.length))) := by
  match l, h with
  | x :: y :: r, _ => rfl
theorem rootF_more : ∀ (f : Nat) (l : List α), l.length ≤ f → rootF nd e (f + 1) l = rootF nd e f l
  | 0, l, h => by
    obtain rfl : l = [] := List.eq_nil_of_length_eq_zero (by omega)
    rfl
  | f + 1, l, h => by
    by_cases h2 : 2 ≤ l.length
    · have h3 := split_lt l.length h2
      have h4 := split_pos l.length h2
      rw [rootF_two nd e (f + 1) l h2, rootF_two nd e f l h2, rootF_more f _ (by simp; omega), rootF_more f _ (by simp; omega)]
    · match l, h2 with
      | [], _ => rfl
      | [x], _ => rfl
      | x :: y :: r, h2 => exact absurd (by simp) h2
theorem rootF_any (l : List α) : ∀ k, rootF nd e (l.length + k) l = rootF nd e l.length l
  | 0 => rfl
  | k + 1 => by rw [← Nat.add_assoc, rootF_more nd e _ _ (by omega), rootF_any l k]
def rootR (l : List α) : α := rootF nd e l.length l
theorem rootR_nil : rootR nd e [] = e := rfl
theorem rootR_one (x : α) : rootR nd e [x] = x := rfl
theorem rootR_two (l : List α) (h : 2 ≤ l.length) : rootR nd e l = nd (rootR nd e (l.take (split l.length))) (rootR nd e (l.drop (split l.length))) := by
  have h3 := split_lt l.length h
  have h4 := split_pos l.length h
  obtain ⟨m, hm⟩ : ∃ m, l.length = m + 1 := ⟨l.length - 1, by omega⟩
  unfold rootR
  conv => lhs; rw [hm]
  rw [rootF_two nd e m l h]
  have e1 := rootF_any nd e (l.take (split l.length)) (m - (l.take (split l.length)).length)
  have e2 := rootF_any nd e (l.drop (split l.length)) (m - (l.drop (split l.length)).length)
  rw [show (l.take (split l.length)).length + (m - (l.take (split l.length)).length) = m by simp; omega] at e1
  rw [show (l.drop (split l.length)).length + (m - (l.drop (split l.length)).length) = m by simp; omega] at e2
  rw [e1, e2]
theorem rootR_above : ∀ (n : Nat) (l : List α), l.length = n → 2 ≤ n → rootR nd e l = rootR nd e (above nd l) := by
  intro n
  induction n using Nat.strongRecOn with
  | ind n ih =>
    intro l hl hn
    by_cases h2 : n = 2
    · subst h2
      match l, hl with
      | [x, y], _ => rfl
    · have h3 := split_lt n hn
      have hup := split_up n (by omega)
      have h5 := split_pos ((n + 1) / 2) (by omega)
      have hh := split_half n hn
      have hal : (above nd l).length = (n + 1) / 2 := by rw [above_length, hl]
      have hk : (l.take (split n)).length = split n := by simp; omega
      have habv : above nd l = above nd (l.take (split n)) ++ above nd (l.drop (split n)) := by
        conv => lhs; rw [← List.take_append_drop (split n) l]
        exact above_append nd _ _ (by rw [hk]; omega)
      have hka : (above nd (l.take (split n))).length = split ((n + 1) / 2) := by rw [above_length, hk]; omega
      clear hh
      have ht : (above nd l).take (split ((n + 1) / 2)) = above nd (l.take (split n)) := by rw [habv, ← hka, List.take_left]
      have hdr : (above nd l).drop (split ((n + 1) / 2)) = above nd (l.drop (split n)) := by rw [habv, ← hka, List.drop_left]
      rw [rootR_two nd e l (by omega), rootR_two nd e (above nd l) (by rw [hal]; omega), hl, hal, ht, hdr]
      congr 1
      · exact ih (split n) (by omega) _ hk (by omega)
      · by_cases hd : (l.drop (split n)).length < 2
        · have h1 : (l.drop (split n)).length = 1 := by simp only [List.length_drop] at hd ⊢; omega
          match hq : l.drop (split n), h1 with
          | [x], _ => rfl
        · exact ih (l.drop (split n)).length (by simp; omega) _ rfl (by omega)
/-- The root of the rows is that by halves. -/
theorem root_eq : ∀ (n : Nat) (l : List α), l.length = n → root nd e l = rootR nd e l := by
  intro n
  induction n using Nat.strongRecOn with
  | ind n ih =>
    intro l hl
    by_cases h : n < 2
    · match l, hl with
      | [], _ => rfl
      | [x], _ => rfl
      | x :: y :: r, hl => simp at hl; omega
    · rw [root_above nd e l (by omega), rootR_above nd e n l hl (by omega)]
      exact ih ((n + 1) / 2) (by omega) _ (by rw [above_length, hl])
end

end Go.Proofs.YtcgnjdkennkheaaGreatDoor.Tree
