/-
  Plain law of layers 10, 12 and 13: ways down a tree, and what goes up them. No program in sight.
  Plain law of layers 12 and 13: links; two ways that meet.
  Words for slices of steps of a path.
  A round of a range over a function: what is walked plainly holds there, too, where nothing is deferred.
  slices.Backward over bools: its iterator's contract.
  slices.Backward over steps of a path: its iterator's contract.
  A region that draws its order, in which calls may write blocks that nobody else reads: the blocks of S stay.
  The walk of path.down.
  Slices of bools; the walks of proof.parts, slices.Contains, and the document's Turns and LinksLong.
  The walks of path.whole, path.Long, path.LinksLong; slices.Index over bools.
  The walk of path.Turns.
  The walks of the document's Turns, Long and LinksLong.
  The walks of proof.Fold (with its closure), proof.Right.
  The walk of proof.Right.
  The walk of the document's Fold.
  The walk of proof.Both: beginnings.
  The walk of proof.Goes.
  few and awake of the laws of layer 12; proof.Right and proof.Goes over slices.
  The walk of the document's both (recursion on the number of leaves).
  The walks of the document's Both and Goes.
  Contracts over slice values: Fold, Both, both sides; two arrays laid at once.
  The walks of the document's path, Path, links and Links.
-/
import Derived.Test.YtcgnjdkennkheaaGreatDoorLeafP
import Derived.Test.YtcgnjdkennkheaaGreatDoorSums
import Derived.Test.YtcgnjdkennkheaaGreatDoorMix
import Derived.RangeFuncNested
import Derived.RangeFuncBound
import Derived.RangeFuncCalls
import Derived.RangeFuncLeaves
import Derived.OwnWalkIn
import Derived.TacticsInMore
import Derived.LoopNIn
import Derived.LoopIn
import Derived.OrdersIn
import Derived.Deep.MidRow
import Derived.Test.YtcgnjdkennkheaaGreatDoorUpd
import Derived.Test.YtcgnjdkennkheaaGreatDoorLeafM
import Derived.Deep.DeepCutAuto
import Derived.RegionTactic
import Derived.ChangeAlike
import Derived.Test.YtcgnjdkennkheaaGreatDoorLeaf1
import Derived.Test.YtcgnjdkennkheaaGreatDoorEqA
set_option linter.unusedVariables false
set_option maxRecDepth 100000
set_option linter.unusedSimpArgs false
set_option linter.unusedSectionVars false
namespace Go.Proofs.YtcgnjdkennkheaaGreatDoor
namespace Way

abbrev Step := Bool × Nat × Nat
/-- The steps from all n leaves down to place m (whole: to the part that ends behind m): which side is left behind, how many leaves the part has, the place in it. -/
def downF (whole : Bool) : Nat → Nat → Nat → List Step
  | 0, _, _ => []
  | f + 1, m, n => if n < 2 ∨ (whole = true ∧ m = n) then [] else
      if m < Tree.split n ∨ (whole = true ∧ m = Tree.split n) then (false, Tree.split n, m) :: downF whole f m (Tree.split n)
      else (true, n - Tree.split n, m - Tree.split n) :: downF whole f (m - Tree.split n) (n - Tree.split n)
theorem downF_eq (whole : Bool) (f m n : Nat) : downF whole (f + 1) m n = if n < 2 ∨ (whole = true ∧ m = n) then [] else
      if m < Tree.split n ∨ (whole = true ∧ m = Tree.split n) then (false, Tree.split n, m) :: downF whole f m (Tree.split n)
      else (true, n - Tree.split n, m - Tree.split n) :: downF whole f (m - Tree.split n) (n - Tree.split n) := rfl
theorem downF_more (whole : Bool) : ∀ (f m n : Nat), n ≤ f → downF whole (f + 1) m n = downF whole f m n
  | 0, m, n, h => by
    obtain rfl : n = 0 := by omega
    simp [downF]
  | f + 1, m, n, h => by
    by_cases h1 : n < 2 ∨ (whole = true ∧ m = n)
    · rw [downF_eq whole (f + 1) m n, downF_eq whole f m n, if_pos h1, if_pos h1]
    · have h3 := Tree.split_lt n (by omega)
      have h4 := Tree.split_pos n (by omega)
      rw [downF_eq whole (f + 1) m n, downF_eq whole f m n, if_neg h1, if_neg h1]
      by_cases h2 : m < Tree.split n ∨ (whole = true ∧ m = Tree.split n)
      · rw [if_pos h2, if_pos h2, downF_more whole f m _ (by omega)]
      · rw [if_neg h2, if_neg h2, downF_more whole f _ _ (by omega)]
def down (whole : Bool) (m n : Nat) : List Step := downF whole n m n
theorem downF_is (whole : Bool) (m n : Nat) : ∀ k, downF whole (n + k) m n = down whole m n
  | 0 => rfl
  | k + 1 => by rw [← Nat.add_assoc, downF_more whole _ _ _ (by omega)]; exact downF_is whole m n k
theorem down_done {whole : Bool} {m n : Nat} (h : n < 2 ∨ (whole = true ∧ m = n)) : down whole m n = [] := by
  unfold down
  cases n with
  | zero => rfl
  | succ n => rw [downF, if_pos h]
theorem down_first {whole : Bool} {m n : Nat} (h : ¬ (n < 2 ∨ (whole = true ∧ m = n))) (h2 : m < Tree.split n ∨ (whole = true ∧ m = Tree.split n)) : down whole m n = (false, Tree.split n, m) :: down whole m (Tree.split n) := by
  have h3 := Tree.split_lt n (by omega)
  unfold down
  obtain ⟨f, hf⟩ : ∃ f, n = f + 1 := ⟨n - 1, by omega⟩
  conv => lhs; rw [hf]
  rw [downF, ← hf, if_neg h, if_pos h2]
  have := downF_is whole m (Tree.split n) (f - Tree.split n)
  rw [show Tree.split n + (f - Tree.split n) = f from by omega] at this
  rw [this]
  rfl
theorem down_others {whole : Bool} {m n : Nat} (h : ¬ (n < 2 ∨ (whole = true ∧ m = n))) (h2 : ¬ (m < Tree.split n ∨ (whole = true ∧ m = Tree.split n))) : down whole m n = (true, n - Tree.split n, m - Tree.split n) :: down whole (m - Tree.split n) (n - Tree.split n) := by
  have h3 := Tree.split_lt n (by omega)
  have h4 := Tree.split_pos n (by omega)
  unfold down
  obtain ⟨f, hf⟩ : ∃ f, n = f + 1 := ⟨n - 1, by omega⟩
  conv => lhs; rw [hf]
  rw [downF, ← hf, if_neg h, if_neg h2]
  have := downF_is whole (m - Tree.split n) (n - Tree.split n) (f - (n - Tree.split n))
  rw [show n - Tree.split n + (f - (n - Tree.split n)) = f from by omega] at this
  rw [this]
  rfl
theorem down_length (whole : Bool) : ∀ (n m : Nat), (down whole m n).length ≤ n
  | n, m => by
    by_cases h1 : n < 2 ∨ (whole = true ∧ m = n)
    · rw [down_done h1]; exact Nat.zero_le _
    · have h3 := Tree.split_lt n (by omega)
      have h4 := Tree.split_pos n (by omega)
      by_cases h2 : m < Tree.split n ∨ (whole = true ∧ m = Tree.split n)
      · rw [down_first h1 h2]
        have := down_length whole (Tree.split n) m
        simp; omega
      · rw [down_others h1 h2]
        have := down_length whole (n - Tree.split n) (m - Tree.split n)
        simp; omega
  termination_by n => n
/-- The sides on which what stands beside stands, from the leaf up. -/
def turns (m n : Nat) : List Bool := ((down false m n).map (·.1)).reverse
/-- Of links: does it go into the others?, from all down. -/
def parts (m n : Nat) : List Bool := (down true m n).map (·.1)
theorem parts_done (n : Nat) : parts n n = [] := by unfold parts; rw [down_done (.inr ⟨rfl, rfl⟩)]; rfl
theorem parts_first {m n : Nat} (h : m < n) (h1 : 1 ≤ m) (h2 : m ≤ Tree.split n) : parts m n = false :: parts m (Tree.split n) := by
  unfold parts
  rw [down_first (by omega) (by simp; omega)]
  rfl
theorem parts_others {m n : Nat} (h : m < n) (h1 : 1 ≤ m) (h2 : ¬ m ≤ Tree.split n) : parts m n = true :: parts (m - Tree.split n) (n - Tree.split n) := by
  unfold parts
  rw [down_others (by omega) (by simp; omega)]
  rfl
/-- All parts are the first ones. -/
def wholeB (s : List Bool) : Bool := !s.contains true
def longI (m n : Int) : Int := if m < 0 ∨ n ≤ m ∨ 1099511627776 < n then -1 else ((down false m.toNat n.toNat).length : Int)
def linksI (m n : Int) : Int := if m < 1 ∨ n < m ∨ 1099511627776 < n then -1 else ((parts m.toNat n.toNat).length : Int) + if wholeB (parts m.toNat n.toNat) then 0 else 1
def turnsI (m n : Int) : List Bool := if longI m n < 0 then [] else turns m.toNat n.toNat
theorem turnsI_length (m n : Int) (h : 0 ≤ longI m n) : ((turnsI m n).length : Int) = longI m n := by
  unfold turnsI
  rw [if_neg (by omega)]
  unfold longI at h ⊢
  by_cases hc : m < 0 ∨ n ≤ m ∨ 1099511627776 < n
  · rw [if_pos hc] at h; omega
  · rw [if_neg hc]; simp [turns]

/-! ### Going up -/
section
variable {α : Type} (nd : α → α → α) (e : α)
def foldW : α → List Bool → List α → α
  | x, t :: ts, h :: hs => foldW (if t then nd h x else nd x h) ts hs
  | x, _, _ => x
theorem foldW_nil (x : α) (hs : List α) : foldW nd x [] hs = x := by cases hs <;> rfl
theorem foldW_cons (x : α) (t : Bool) (ts : List Bool) (h : α) (hs : List α) : foldW nd x (t :: ts) (h :: hs) = foldW nd (if t then nd h x else nd x h) ts hs := rfl
theorem foldW_snoc : ∀ (ts : List Bool) (hs : List α) (x : α) (t : Bool) (h : α), ts.length = hs.length → foldW nd x (ts ++ [t]) (hs ++ [h]) = if t then nd h (foldW nd x ts hs) else nd (foldW nd x ts hs) h
  | [], [], x, t, h, _ => rfl
  | [], _ :: _, x, t, h, hl => by simp at hl
  | _ :: _, [], x, t, h, hl => by simp at hl
  | s :: ts, g :: hs, x, t, h, hl => by
    simp only [List.cons_append, foldW_cons]
    exact foldW_snoc ts hs _ t h (by simpa using hl)
/-- The path of a leaf. -/
def pathF : Nat → List α → Nat → List α
  | 0, _, _ => []
  | f + 1, l, m => if l.length < 2 then [] else
      if m < Tree.split l.length then pathF f (l.take (Tree.split l.length)) m ++ [Tree.rootR nd e (l.drop (Tree.split l.length))]
      else pathF f (l.drop (Tree.split l.length)) (m - Tree.split l.length) ++ [Tree.rootR nd e (l.take (Tree.split l.length))]
theorem pathF_eq (f : Nat) (l : List α) (m : Nat) : pathF nd e (f + 1) l m = if l.length < 2 then [] else
      if m < Tree.split l.length then pathF nd e f (l.take (Tree.split l.length)) m ++ [Tree.rootR nd e (l.drop (Tree.split l.length))]
      else pathF nd e f (l.drop (Tree.split l.length)) (m - Tree.split l.length) ++ [Tree.rootR nd e (l.take (Tree.split l.length))] := rfl
theorem pathF_more : ∀ (f : Nat) (l : List α) (m : Nat), l.length ≤ f → pathF nd e (f + 1) l m = pathF nd e f l m
  | 0, l, m, h => by simp [pathF, show l.length < 2 from by omega]
  | f + 1, l, m, h => by
    by_cases h1 : l.length < 2
    · rw [pathF_eq nd e (f + 1) l m, pathF_eq nd e f l m, if_pos h1, if_pos h1]
    · have h3 := Tree.split_lt l.length (by omega)
      have h4 := Tree.split_pos l.length (by omega)
      rw [pathF_eq nd e (f + 1) l m, pathF_eq nd e f l m, if_neg h1, if_neg h1, pathF_more f _ m (by rw [List.length_take]; omega), pathF_more f _ (m - Tree.split l.length) (by rw [List.length_drop]; omega)]
def path (l : List α) (m : Nat) : List α := pathF nd e l.length l m
theorem pathF_is (l : List α) (m : Nat) : ∀ k, pathF nd e (l.length + k) l m = path nd e l m
  | 0 => rfl
  | k + 1 => by rw [← Nat.add_assoc, pathF_more nd e _ _ _ (by omega)]; exact pathF_is l m k
theorem path_short (l : List α) (m : Nat) (h : l.length < 2) : path nd e l m = [] := by
  unfold path
  cases hl : l.length with
  | zero => rfl
  | succ n => rw [pathF, if_pos h]
theorem path_first (l : List α) (m : Nat) (h : ¬ l.length < 2) (h2 : m < Tree.split l.length) : path nd e l m = path nd e (l.take (Tree.split l.length)) m ++ [Tree.rootR nd e (l.drop (Tree.split l.length))] := by
  have h3 := Tree.split_lt l.length (by omega)
  obtain ⟨f, hf⟩ : ∃ f, l.length = f + 1 := ⟨l.length - 1, by omega⟩
  unfold path
  conv => lhs; rw [hf]
  rw [pathF, if_neg h, if_pos h2]
  have ht : (l.take (Tree.split l.length)).length = Tree.split l.length := by rw [List.length_take]; omega
  have := pathF_is nd e (l.take (Tree.split l.length)) m (f - Tree.split l.length)
  rw [ht, show Tree.split l.length + (f - Tree.split l.length) = f from by omega] at this
  rw [this]
  unfold path
  rw [ht]
theorem path_others (l : List α) (m : Nat) (h : ¬ l.length < 2) (h2 : ¬ m < Tree.split l.length) : path nd e l m = path nd e (l.drop (Tree.split l.length)) (m - Tree.split l.length) ++ [Tree.rootR nd e (l.take (Tree.split l.length))] := by
  have h3 := Tree.split_lt l.length (by omega)
  have h4 := Tree.split_pos l.length (by omega)
  obtain ⟨f, hf⟩ : ∃ f, l.length = f + 1 := ⟨l.length - 1, by omega⟩
  unfold path
  conv => lhs; rw [hf]
  rw [pathF, if_neg h, if_neg h2]
  have ht : (l.drop (Tree.split l.length)).length = l.length - Tree.split l.length := by rw [List.length_drop]
  have := pathF_is nd e (l.drop (Tree.split l.length)) (m - Tree.split l.length) (f - (l.length - Tree.split l.length))
  rw [ht, show l.length - Tree.split l.length + (f - (l.length - Tree.split l.length)) = f from by omega] at this
  rw [this]
  unfold path
  rw [ht]
theorem path_length : ∀ (n : Nat) (l : List α) (m : Nat), l.length = n → (path nd e l m).length = (down false m n).length
  | n, l, m, hn => by
    by_cases h1 : n < 2
    · rw [path_short nd e l m (by omega), down_done (.inl h1)]; rfl
    · have h3 := Tree.split_lt n (by omega)
      have h4 := Tree.split_pos n (by omega)
      by_cases h2 : m < Tree.split n
      · rw [path_first nd e l m (by omega) (by rw [hn]; exact h2), down_first (by simp; omega) (.inl h2), hn]
        rw [List.length_append, path_length (Tree.split n) _ m (by rw [List.length_take]; omega)]
        simp
      · rw [path_others nd e l m (by omega) (by rw [hn]; exact h2), down_others (by simp; omega) (by simp; omega), hn]
        rw [List.length_append, path_length (n - Tree.split n) _ _ (by rw [List.length_drop]; omega)]
        simp
  termination_by n => n
/-- Each leaf goes up its path to the root. -/
theorem fold_path : ∀ (n : Nat) (l : List α) (m : Nat) (hm : m < l.length), l.length = n → foldW nd l[m] (turns m n) (path nd e l m) = Tree.rootR nd e l
  | n, l, m, hm, hn => by
    by_cases h1 : n < 2
    · obtain ⟨x, rfl⟩ := List.length_eq_one_iff.1 (show l.length = 1 by omega)
      obtain rfl : m = 0 := by simpa using hm
      rw [path_short nd e _ _ (by simp)]
      unfold turns
      rw [down_done (.inl h1)]
      rfl
    · have h3 := Tree.split_lt n (by omega)
      have h4 := Tree.split_pos n (by omega)
      have hr := Tree.rootR_two nd e l (by omega)
      rw [hn] at hr
      by_cases h2 : m < Tree.split n
      · have hlt : (l.take (Tree.split n)).length = Tree.split n := by rw [List.length_take]; omega
        have ih := fold_path (Tree.split n) (l.take (Tree.split n)) m (by omega) hlt
        rw [List.getElem_take] at ih
        rw [path_first nd e l m (by omega) (by rw [hn]; exact h2), hn]
        unfold turns at ih ⊢
        rw [down_first (by simp; omega) (.inl h2), List.map_cons, List.reverse_cons, foldW_snoc nd _ _ _ _ _ (by rw [List.length_reverse, List.length_map, path_length nd e _ _ m hlt]), ih, hr]
        rfl
      · have hld : (l.drop (Tree.split n)).length = n - Tree.split n := by rw [List.length_drop, hn]
        have ih := fold_path (n - Tree.split n) (l.drop (Tree.split n)) (m - Tree.split n) (by omega) hld
        rw [List.getElem_drop] at ih
        simp only [show Tree.split n + (m - Tree.split n) = m from by omega] at ih
        rw [path_others nd e l m (by omega) (by rw [hn]; exact h2), hn]
        unfold turns at ih ⊢
        rw [down_others (by simp; omega) (by simp; omega), List.map_cons, List.reverse_cons, foldW_snoc nd _ _ _ _ _ (by rw [List.length_reverse, List.length_map, path_length nd e _ _ _ hld]), ih, hr]
        rfl
  termination_by n => n

/-! ### Links -/
def bothW : α → α → List Bool → List α → α × α
  | x, y, t :: ts, h :: hs => if t then bothW (nd h x) (nd h y) ts hs else bothW x (nd y h) ts hs
  | x, y, _, _ => (x, y)
theorem bothW_snoc : ∀ (ts : List Bool) (hs : List α) (x y : α) (t : Bool) (h : α), ts.length = hs.length → bothW nd x y (ts ++ [t]) (hs ++ [h]) = if t then (nd h (bothW nd x y ts hs).1, nd h (bothW nd x y ts hs).2) else ((bothW nd x y ts hs).1, nd (bothW nd x y ts hs).2 h)
  | [], [], x, y, t, h, _ => by cases t <;> rfl
  | [], _ :: _, x, y, t, h, hl => by simp at hl
  | _ :: _, [], x, y, t, h, hl => by simp at hl
  | s :: ts, g :: hs, x, y, t, h, hl => by
    simp only [List.cons_append, bothW]
    cases s
    · exact bothW_snoc ts hs _ _ t h (by simpa using hl)
    · exact bothW_snoc ts hs _ _ t h (by simpa using hl)
/-- The second hash goes up as a path's does. -/
theorem bothW_second : ∀ (ts : List Bool) (hs : List α) (x y : α), (bothW nd x y ts hs).2 = foldW nd y ts hs
  | [], hs, x, y => by cases hs <;> rfl
  | t :: ts, [], x, y => rfl
  | t :: ts, h :: hs, x, y => by
    simp only [bothW, foldW_cons]
    cases t
    · exact bothW_second ts hs _ _
    · exact bothW_second ts hs _ _
end

end Way
end Go.Proofs.YtcgnjdkennkheaaGreatDoor

namespace Go.Proofs.YtcgnjdkennkheaaGreatDoor
namespace Way
section
variable {α : Type} (nd : α → α → α) (e : α)

theorem wholeB_first (s : List Bool) : wholeB (false :: s) = wholeB s := by simp [wholeB]
theorem wholeB_others (s : List Bool) : wholeB (true :: s) = false := by simp [wholeB]
/-- How many hashes links have. -/
def needL (m n : Nat) (whole : Bool) : Nat := (parts m n).length + if whole && wholeB (parts m n) then 0 else 1
theorem needL_done (n : Nat) (whole : Bool) : needL n n whole = if whole then 0 else 1 := by
  unfold needL; rw [parts_done]; cases whole <;> rfl
theorem needL_first {m n : Nat} (h : m < n) (h1 : 1 ≤ m) (h2 : m ≤ Tree.split n) (whole : Bool) : needL m n whole = needL m (Tree.split n) whole + 1 := by
  unfold needL; rw [parts_first h h1 h2, wholeB_first, List.length_cons]; omega
theorem needL_others {m n : Nat} (h : m < n) (h1 : 1 ≤ m) (h2 : ¬ m ≤ Tree.split n) (whole : Bool) : needL m n whole = needL (m - Tree.split n) (n - Tree.split n) false + 1 := by
  unfold needL; rw [parts_others h h1 h2, wholeB_others, List.length_cons]; simp
/-- What links come to. -/
def both (a : α) (m n : Nat) (whole : Bool) (l : List α) : α × α :=
  if whole && wholeB (parts m n) then bothW nd a a (parts m n).reverse l else bothW nd (l.headD a) (l.headD a) (parts m n).reverse l.tail
theorem bothW_nil (x y : α) (l : List α) : bothW nd x y [] l = (x, y) := by cases l <;> rfl
theorem both_done (a : α) (n : Nat) (whole : Bool) (l : List α) : both nd a n n whole l = if whole then (a, a) else (l.headD a, l.headD a) := by
  unfold both
  rw [parts_done]
  cases whole <;> simp [bothW_nil, wholeB]
theorem head_append (l : List α) (x a : α) (h : l ≠ []) : (l ++ [x]).headD a = l.headD a ∧ (l ++ [x]).tail = l.tail ++ [x] := by
  cases l with
  | nil => exact absurd rfl h
  | cons y l => exact ⟨rfl, rfl⟩
theorem both_first {m n : Nat} (h : m < n) (h1 : 1 ≤ m) (h2 : m ≤ Tree.split n) (a : α) (whole : Bool) (l : List α) (x : α) (hl : l.length = needL m (Tree.split n) whole) :
    both nd a m n whole (l ++ [x]) = ((both nd a m (Tree.split n) whole l).1, nd (both nd a m (Tree.split n) whole l).2 x) := by
  unfold both
  rw [parts_first h h1 h2, wholeB_first, List.reverse_cons]
  unfold needL at hl
  by_cases hw : (whole && wholeB (parts m (Tree.split n))) = true
  · rw [if_pos hw] at hl ⊢
    rw [if_pos hw, bothW_snoc nd _ _ _ _ _ _ (by rw [List.length_reverse]; omega)]
    rfl
  · rw [if_neg hw] at hl ⊢
    obtain ⟨e1, e2⟩ := head_append l x a (by rintro rfl; simp at hl)
    rw [if_neg hw, e1, e2, bothW_snoc nd _ _ _ _ _ _ (by rw [List.length_reverse, List.length_tail]; omega)]
    rfl
theorem both_others {m n : Nat} (h : m < n) (h1 : 1 ≤ m) (h2 : ¬ m ≤ Tree.split n) (a : α) (whole : Bool) (l : List α) (x : α) (hl : l.length = needL (m - Tree.split n) (n - Tree.split n) false) :
    both nd a m n whole (l ++ [x]) = (nd x (both nd a (m - Tree.split n) (n - Tree.split n) false l).1, nd x (both nd a (m - Tree.split n) (n - Tree.split n) false l).2) := by
  unfold both
  rw [parts_others h h1 h2, wholeB_others, List.reverse_cons]
  unfold needL at hl
  simp only [Bool.and_false, Bool.false_and, Bool.false_eq_true, if_false] at hl ⊢
  obtain ⟨e1, e2⟩ := head_append l x a (by rintro rfl; simp at hl)
  rw [e1, e2, bothW_snoc nd _ _ _ _ _ _ (by rw [List.length_reverse, List.length_tail]; omega)]
  rfl
/-- The links from m leaves on. -/
def linksF : Nat → List α → Nat → Bool → List α
  | 0, l, m, whole => if m = l.length then (if whole then [] else [Tree.rootR nd e l]) else []
  | f + 1, l, m, whole => if m = l.length then (if whole then [] else [Tree.rootR nd e l]) else
      if m ≤ Tree.split l.length then linksF f (l.take (Tree.split l.length)) m whole ++ [Tree.rootR nd e (l.drop (Tree.split l.length))]
      else linksF f (l.drop (Tree.split l.length)) (m - Tree.split l.length) false ++ [Tree.rootR nd e (l.take (Tree.split l.length))]
theorem linksF_both : ∀ (f : Nat) (l : List α) (m : Nat) (whole : Bool), l.length ≤ f → 1 ≤ m → m ≤ l.length →
    (linksF nd e f l m whole).length = needL m l.length whole ∧ both nd (Tree.rootR nd e (l.take m)) m l.length whole (linksF nd e f l m whole) = (Tree.rootR nd e (l.take m), Tree.rootR nd e l)
  | 0, l, m, whole, hf, h1, h2 => by omega
  | f + 1, l, m, whole, hf, h1, h2 => by
    by_cases hm : m = l.length
    · rw [linksF, if_pos hm]
      subst hm
      rw [needL_done, both_done, List.take_length]
      cases whole <;> exact ⟨rfl, rfl⟩
    · have hlt : m < l.length := by omega
      have h3 := Tree.split_lt l.length (by omega)
      have h4 := Tree.split_pos l.length (by omega)
      have h5 := Tree.split_half l.length (by omega)
      have hr := Tree.rootR_two nd e l (by omega)
      have ht : (l.take (Tree.split l.length)).length = Tree.split l.length := by rw [List.length_take]; omega
      have hd : (l.drop (Tree.split l.length)).length = l.length - Tree.split l.length := by rw [List.length_drop]
      rw [linksF, if_neg hm]
      by_cases hk : m ≤ Tree.split l.length
      · obtain ⟨i1, i2⟩ := linksF_both f (l.take (Tree.split l.length)) m whole (by omega) h1 (by omega)
        rw [ht] at i1 i2
        rw [if_pos hk, List.length_append, i1, needL_first hlt h1 hk, both_first nd hlt h1 hk _ _ _ _ i1]
        rw [List.take_take, Nat.min_eq_left hk] at i2
        rw [i2, hr]
        exact ⟨rfl, rfl⟩
      · obtain ⟨i1, i2⟩ := linksF_both f (l.drop (Tree.split l.length)) (m - Tree.split l.length) false (by omega) (by omega) (by omega)
        rw [hd] at i1 i2
        have hsm : Tree.split m = Tree.split l.length := by
          have hs : Tree.split l.length = 2 ^ (l.length - 1).log2 := by unfold Tree.split; rw [if_neg (by omega)]
          rw [hs]
          exact Tree.split_is m _ (by omega) (by omega)
        have htm : (l.take m).length = m := by rw [List.length_take]; omega
        have hrm := Tree.rootR_two nd e (l.take m) (by omega)
        rw [htm, hsm, List.take_take, Nat.min_eq_left (by omega), List.drop_take] at hrm
        have hb : ∀ a, both nd a (m - Tree.split l.length) (l.length - Tree.split l.length) false (linksF nd e f (l.drop (Tree.split l.length)) (m - Tree.split l.length) false) = both nd (Tree.rootR nd e ((l.drop (Tree.split l.length)).take (m - Tree.split l.length))) (m - Tree.split l.length) (l.length - Tree.split l.length) false (linksF nd e f (l.drop (Tree.split l.length)) (m - Tree.split l.length) false) := fun a => by
          have hne : linksF nd e f (l.drop (Tree.split l.length)) (m - Tree.split l.length) false ≠ [] := by
            intro h0
            rw [h0] at i1
            unfold needL at i1
            simp at i1
          unfold both
          simp only [Bool.false_and, Bool.false_eq_true, if_false]
          cases hq : linksF nd e f (l.drop (Tree.split l.length)) (m - Tree.split l.length) false with
          | nil => exact absurd hq hne
          | cons x r => rfl
        rw [if_neg hk, List.length_append, i1, needL_others hlt h1 hk, both_others nd hlt h1 hk _ _ _ _ i1, hb, i2, hr, hrm]
        exact ⟨rfl, rfl⟩
end

/-! ### Two ways that meet -/
section
variable {α β : Type} [DecidableEq α] [DecidableEq β] (pre : α → α → β) (hash : β → α)
def way : α → List Bool → List α → List β
  | x, t :: ts, h :: hs => (if t then pre h x else pre x h) :: way (hash (if t then pre h x else pre x h)) ts hs
  | _, _, _ => []
theorem way_length : ∀ (ts : List Bool) (hs : List α) (x : α), ts.length = hs.length → (way pre hash x ts hs).length = hs.length
  | [], [], x, _ => rfl
  | [], _ :: _, x, h => by simp at h
  | _ :: _, [], x, h => by simp at h
  | t :: ts, g :: hs, x, h => by
    show (way pre hash _ ts hs).length + 1 = hs.length + 1
    rw [way_length ts hs _ (by simpa using h)]
def twinB (p : β × β) : Bool := decide (p.1 ≠ p.2 ∧ hash p.1 = hash p.2)
/-- The first twins at one place. -/
def first (a b : List β) : Option (β × β) := (a.zip b).find? (twinB hash)
theorem first_some {a b : List β} {p : β × β} (h : first hash a b = some p) : p.1 ≠ p.2 ∧ hash p.1 = hash p.2 := by
  have := List.find?_some h
  simpa [twinB] using this
theorem meet (hinj : ∀ a b c d : α, pre a b = pre c d → a = c ∧ b = d) (ok : α → Prop) : ∀ (ts : List Bool) (hs gs : List α) (x y : α), ts.length = hs.length → ts.length = gs.length →
    foldW (fun a b => hash (pre a b)) x ts hs = foldW (fun a b => hash (pre a b)) y ts gs → (x ≠ y ∨ hs ≠ gs) → (first hash (way pre hash x ts hs) (way pre hash y ts gs)).isSome = true
  | [], [], [], x, y, _, _, hf, hne => by
    rcases hne with h | h
    · exact absurd hf h
    · exact absurd rfl h
  | [], _ :: _, _, x, y, h1, _, _, _ => by simp at h1
  | [], [], _ :: _, x, y, _, h2, _, _ => by simp at h2
  | _ :: _, [], _, x, y, h1, _, _, _ => by simp at h1
  | _ :: _, _ :: _, [], x, y, _, h2, _, _ => by simp at h2
  | t :: ts, h :: hs, g :: gs, x, y, h1, h2, hf, hne => by
    have e1 : ∀ a b : α, (if t then hash (pre b a) else hash (pre a b)) = hash (if t then pre b a else pre a b) := fun a b => by cases t <;> rfl
    rw [foldW_cons, foldW_cons, e1, e1] at hf
    simp only [way]
    by_cases hs0 : (if t then pre h x else pre x h) = (if t then pre g y else pre y g)
    · have hxy : x = y ∧ h = g := by
        cases t
        · exact hinj _ _ _ _ hs0
        · exact (hinj _ _ _ _ hs0).symm
      obtain ⟨rfl, rfl⟩ := hxy
      have hne2 : hs ≠ gs := by
        rcases hne with h' | h'
        · exact absurd rfl h'
        · exact fun e => h' (by rw [e])
      have ih := meet hinj ok ts hs gs _ _ (by simpa using h1) (by simpa using h2) hf (.inr hne2)
      unfold first at ih ⊢
      rw [List.zip_cons_cons, List.find?_cons_of_neg (by simp [twinB])]
      exact ih
    · by_cases hc : hash (if t then pre h x else pre x h) = hash (if t then pre g y else pre y g)
      · unfold first
        rw [List.zip_cons_cons, List.find?_cons_of_pos (by simp only [twinB]; exact decide_eq_true ⟨hs0, hc⟩)]
        rfl
      · have ih := meet hinj ok ts hs gs _ _ (by simpa using h1) (by simpa using h2) hf (.inl hc)
        unfold first at ih ⊢
        rw [List.zip_cons_cons, List.find?_cons_of_neg (by simp [twinB, hc])]
        exact ih
end
end Way
end Go.Proofs.YtcgnjdkennkheaaGreatDoor

namespace Go.Proofs.YtcgnjdkennkheaaGreatDoor
open Go.RowKit

/-- A step's cells: does what stands beside it stand on the left; how many leaves the part has; the place in it. -/
def stepC (s : Way.Step) : List Value := [.bool s.1, .int .i64 (s.2.1 : Int), .int .i64 (s.2.2 : Int)]
def flatSt (l : List Way.Step) : List Value := l.flatMap stepC
theorem stepC_length (s : Way.Step) : (stepC s).length = 3 := rfl
theorem flatSt_append (a b : List Way.Step) : flatSt (a ++ b) = flatSt a ++ flatSt b := by simp [flatSt]
theorem flatSt_one (s : Way.Step) : flatSt [s] = stepC s := by simp [flatSt]
theorem flatSt_length : ∀ l : List Way.Step, (flatSt l).length = l.length * 3
  | [] => rfl
  | s :: l => by
    have := flatSt_length l
    unfold flatSt at *
    rw [List.flatMap_cons, List.length_append, this, stepC_length, List.length_cons]
    omega
theorem flatSt_get : ∀ (l : List Way.Step) (k : Nat) (hk : k < l.length) (j : Nat) (v : Value), (stepC l[k])[j]? = some v → (flatSt l)[k * 3 + j]? = some v
  | [], k, hk, _, _, _ => by simp at hk
  | s :: l, 0, hk, j, v, hv => by
    have hj : j < 3 := by
      have := (List.getElem?_eq_some_iff.1 hv).1
      exact this
    unfold flatSt
    rw [List.flatMap_cons, Nat.zero_mul, Nat.zero_add, List.getElem?_append_left (by rw [stepC_length]; exact hj)]
    exact hv
  | s :: l, k + 1, hk, j, v, hv => by
    have ih := flatSt_get l k (by simpa using hk) j v (by simpa using hv)
    unfold flatSt at ih ⊢
    rw [List.flatMap_cons, List.getElem?_append_right (by rw [stepC_length]; omega), stepC_length, show (k + 1) * 3 + j - 3 = k * 3 + j from by omega]
    exact ih
theorem steps_mid {w : World} {B : Nat} {A : Option Addr} {l : List Way.Step} (h : Rd w B A (flatSt l)) {k : Nat} (hk : k < l.length) : ∃ b off, A = some ⟨b, off, none⟩ ∧ b < B ∧ w.rangeAt b (off + k * 3) (stepC l[k]) := by
  obtain ⟨b, off, e, hb, hc⟩ := h (by
    intro e
    have := congrArg List.length e
    rw [flatSt_length] at this
    simp at this
    omega)
  refine ⟨b, off, e, hb, fun j v hv => ?_⟩
  have := hc (k * 3 + j) v (flatSt_get l k hk j v hv)
  rwa [← Nat.add_assoc] at this
theorem stepC_one (s : Way.Step) : ∀ u ∈ stepC s, u.oneCell' = true := fun u hu => by
  simp [stepC] at hu
  rcases hu with rfl | rfl | rfl <;> rfl

end Go.Proofs.YtcgnjdkennkheaaGreatDoor

namespace Go.Proofs.YtcgnjdkennkheaaGreatDoor
open Go.RowKit

def deferOp : Op → Bool
  | .defer _ => true
  | _ => false
/-- None of these is a defer statement. -/
def noDefer (l : List Oper) : Bool := l.all fun o => !deferOp o.op
theorem noDefer_cons {o : Oper} {l : List Oper} (h : noDefer (o :: l) = true) : (∀ c, o.op ≠ .defer c) ∧ noDefer l = true := by
  simp only [noDefer, List.all_cons, Bool.and_eq_true] at h
  refine ⟨fun c hc => ?_, h.2⟩
  rw [hc] at h
  simp [deferOp] at h
theorem noDefer_at {l : List Oper} (h : noDefer l = true) {i : Nat} {o : Oper} (hi : l.toArray[i]? = some o) : ∀ c, o.op ≠ .defer c := fun c hc => by
  have hm : o ∈ l := List.mem_of_getElem? (i := i) (by simpa using hi)
  have := List.all_eq_true.1 h o hm
  rw [hc] at this
  simp [deferOp] at this

/-- The widest fence, in whatever round. -/
abbrev wideAt (r : Option Nat) : Fence := { Fence.wide with round := r }

section
variable {P : Program} {r : Option Nat} {n : Nat} {ops : Array Oper} {Q : Exit → Act → World → Prop}
theorem calls_at {f : FuncId} {args : Array Value} {w : World} {R : Ending → World → Prop} (h : Calls P f args w R) : CallsIn (wideAt r) n P f args w R := (callsIn_wide (n := n)).2 h
theorem rows_at {row : String} {args : Array Value} {w : World} {R : Value → World → Prop} (h : Rows P row args w R) : RowsIn (wideAt r) n P row args w R := fun c cs _ =>
  let ⟨v, w', q, s⟩ := h c cs
  ⟨v, w', q, stepsIn_wide.2 s⟩
theorem oper_in {o : Oper} {a : Act} {w : World} {K : Act → World → Prop} (hd : ∀ c, o.op ≠ .defer c) (h : o.wp P a w K Q) : o.wpIn (wideAt r) n P a w K Q := by
  unfold Oper.wpIn
  refine ⟨fun _ _ => trivial, ?_⟩
  rw [Oper.semAt_plain _ _ _ hd]
  unfold Oper.wp at h
  generalize (execOp a.eval o).run P w = x at *
  cases x with
  | ok x w' =>
    cases x with
    | value v => exact h
    | skip => exact h
    | defer d => exact h
    | enter f args => exact ⟨fun h => by simp [Fence.wide] at h, (calls_at (r := r) (n := n - 1) h).mono fun e w'' he => by cases e <;> exact he⟩
    | row row args => exact ⟨fun h => by simp [Fence.wide] at h, rows_at h⟩
    | round => exact h.elim
    | _ => exact h.elim
  | halt x w' => cases x <;> exact h
theorem list_in (hq : ¬ LetsOut Q) : ∀ (l : List Oper), noDefer l = true → ∀ {a : Act} {w : World}, wpList P ops Q l a w → wpListIn (wideAt r) n P ops Q l a w
  | [], _, _, _, h => h
  | o :: l, hd, a, w, h => by
    obtain ⟨h1, h2⟩ := noDefer_cons hd
    unfold wpListIn
    unfold wpList at h
    split
    · rename_i hw
      rw [if_pos hw] at h
      exact Oper.wpIn_mono (fun a' w' hh => list_in hq l h2 hh) (oper_in h1 (h.resolve_right (fun x => hq x.2)))
    · rename_i hw
      rw [if_neg hw] at h
      exact ⟨fun _ _ => trivial, list_in hq l h2 h⟩
/-- A region in the text's order. -/
theorem region_in {id : Nat} {l : List Oper} {a : Act} {w : World} (hq : ¬ LetsOut Q) (hd : noDefer l = true) (h : wpList P l.toArray Q l a w) : (Code.region id l.toArray false).wpIn (wideAt r) n P Q a w :=
  wpIn_region_lit (list_in hq l hd h)
theorem any_in {md : Region.Mode} {l : List Oper} (hq : ¬ LetsOut Q) (hd : noDefer l = true) : ∀ (fuel : Nat) (listed : Array Bool) (a : Act) (w : World), wpAny P md l.toArray Q fuel listed a w → wpAnyIn (wideAt r) n P md l.toArray Q fuel listed a w
  | 0, _, _, _, h => h
  | fuel + 1, listed, a, w, h => by
    refine ⟨h.1, fun i hi => ?_⟩
    have hh := h.2 i hi
    unfold wpOp at hh
    unfold wpOpIn
    cases ho : l.toArray[i]? with
    | none =>
      simp only [ho] at hh ⊢
      exact any_in hq hd fuel _ _ _ hh
    | some o =>
      simp only [ho] at hh ⊢
      split
      · rename_i hw
        rw [if_pos hw] at hh
        exact Oper.wpIn_mono (fun a' w' hk => any_in hq hd fuel _ _ _ hk) (oper_in (noDefer_at hd ho) (hh.resolve_right (fun x => hq x.2)))
      · rename_i hw
        rw [if_neg hw] at hh
        exact ⟨fun _ _ => trivial, any_in hq hd fuel _ _ _ hh⟩
/-- A region that draws its order. -/
theorem drawn_in {id : Nat} {l : List Oper} {a : Act} {w : World} (hq : ¬ LetsOut Q) (hm : P.follows .mixedOrders = true) (hd : noDefer l = true)
    (h : wpAny P .any l.toArray Q l.toArray.size (Array.replicate l.toArray.size false) a { w with drawn := w.drawn + 1 }) : (Code.region id l.toArray true).wpIn (wideAt r) n P Q a w :=
  wpIn_region_any hm (any_in hq hd _ _ _ _ h)
/-- A region that draws its order, one lexical walk (region_mix) in a round. -/
theorem region_mix_in {id : Nat} {l : List Oper} {a : Act} {w : World} (m : Nat) (hq : ¬ LetsOut Q) (hd : noDefer l = true) (hm : P.follows .mixedOrders = true) (hB : mixB loudOp .any l.toArray m = true)
    (h : ∀ x, wpMix P l.toArray (fun w' => ∃ x : More w, w' = grow w x) loudOp (fun a' w' => wpList P l.toArray Q (l.drop m) a' w') (l.take m) a (grow w x)) : (Code.region id l.toArray true).wpIn (wideAt r) n P Q a w := by
  obtain ⟨x, hx⟩ := more_of (Ext.refl w).drew
  have hx' : ({ w with drawn := w.drawn + 1 } : World) = grow w x := hx
  exact drawn_in hq hm hd (any_region_mix (S := fun w' => ∃ x : More w, w' = grow w x) m hB ⟨x, hx'⟩ (by rw [hx']; exact h x))
/-- One operation of a list, walked plainly. -/
theorem one_in {o : Oper} {rest : List Oper} {a : Act} {w : World} (hg : o.guard = none) (hd : ∀ c, o.op ≠ .defer c) (h : ∀ K : Act → World → Prop, (∀ a' w', wpListIn (wideAt r) n P ops Q rest a' w' → K a' w') → o.wp P a w K Q) : wpListIn (wideAt r) n P ops Q (o :: rest) a w :=
  wpListIn_plain hg fun K hK => oper_in hd (h K hK)
end

/-! ### What a loop over an iterator keeps -/
theorem Keep.putObj {S : Nat → Prop} (W : World) (l : Nat) (o' : Obj) (h : ¬ S l) : Keep S W (W.putObj l o') :=
  .of_grown (grownBy_putObj' W l o') (fun g e => by injection e with e; subst e; exact h)
theorem KeepsFrom.of_upd {B g : Nat} {W W' : World} (h : Upd g W W') (hg : g < B) : KeepsFrom B W W' :=
  ⟨h.size, fun k o hk h0 _ => (h.block k (Array.getElem?_eq_some_iff.1 h0).1 (fun e => by injection e with e; omega)).trans h0⟩
theorem KeepsFrom.of_keep {B : Nat} {S : Nat → Prop} {W W' : World} (h : Keep S W W') (hS : ∀ k, B ≤ k → S k) : KeepsFrom B W W' :=
  ⟨h.size, fun k o hk h0 _ => (h.block k (Array.getElem?_eq_some_iff.1 h0).1 (hS k hk)).trans h0⟩
theorem KeepsFrom.of_ext {B : Nat} {W W' : World} (h : Ext W W') : KeepsFrom B W W' :=
  ⟨h.size, fun k o hk h0 _ => (h.block k (Array.getElem?_eq_some_iff.1 h0).1).trans h0⟩
/-- A block that is cells is not the one that a loop's book-keeping turns. -/
theorem Blk.own {W W' : World} {row : Option Nat} {g : Nat} {t : TypeId} {cs : Array Value} (h : Blk W g t cs) (hg : W.grownBy W' row) (hr : ∀ r, row = some r → ∃ o : Obj, W.heap[r]? = some o ∧ o.isCells = false) : Blk W' g t cs :=
  h.grown hg (fun e => by
    obtain ⟨o, ho, hc⟩ := hr g e.symm
    have := h.symm.trans ho
    injection this with this
    subst this
    cases hc)
theorem Keep.ownFrom {B : Nat} {S : Nat → Prop} {w W W' : World} {row : Option Nat} (h : Keep S w W) (hg : W.grownBy W' row) (hr : ∀ r, row = some r → B ≤ r) (hS : ∀ k, S k → k < B) : Keep S w W' :=
  h.trans (.of_grown hg (fun g e hs => by have := hr g e; have := hS g hs; omega))

/-- What has come when k rounds are over. -/
def upto {α : Type} (f : Nat → α) (k : Nat) : List α := (List.range k).map f
theorem upto_succ {α : Type} (f : Nat → α) (k : Nat) : upto f (k + 1) = upto f k ++ [f k] := by simp [upto, List.range_succ]
theorem upto_length {α : Type} (f : Nat → α) (k : Nat) : (upto f k).length = k := by simp [upto]

/-- A row of cells loaded in a fence. -/
theorem listIn_mid {F : Fence} {n : Nat} {P : Program} {ops : Array Oper} {rest : List Oper} {o : Oper} {a : Act} {w : World} {Q : Exit → Act → World → Prop} (hg : o.guard = none) (ty : TypeId) (x : Operand) (ho : o.op = .load ty x)
    (b f : Nat) (hx : a.eval x = .pointer (some ⟨b, f, none⟩)) (cs : List Value) (d : TypeDesc) (hc : w.rangeAt b f cs) (hu : P.underlying ty = some d) (hd : d.isRow = true) (hi : (P.info? ty).map (·.size) = some cs.length)
    (h : wpListIn F n P ops Q rest (a.put o.dst (.agg cs.toArray)) w) : wpListIn F n P ops Q (o :: rest) a w := by
  refine wpListIn_plain hg fun K hK => ?_
  unfold Oper.wpIn
  refine ⟨fun f hf => by rw [Oper.about, ho] at hf; simp at hf, ?_⟩
  rw [Oper.semAt_plain F _ _ (by rw [ho]; intro c hc'; cases hc')]
  unfold execOp
  simp only [ho, hx, Instr.loadAt, Instr.sureAddr, Sem.run_bind, Sem.run_pure, Result.andThen_ok, run_loadVar_mid w b f ty cs d hc hu hd hi]
  exact hK _ _ h
theorem stopIn_load {F : Fence} {n : Nat} {P : Program} {ops : Array Oper} {Q : Exit → Act → World → Prop} {o : Oper} {rest : List Oper} {a : Act} {w : World} (ty : TypeId) (x : Operand) (ho : o.op = .load ty x) (h : Stopped (wpListIn F n P ops Q (o :: rest) a w)) : wpListIn F n P ops Q (o :: rest) a w := h.go

end Go.Proofs.YtcgnjdkennkheaaGreatDoor

namespace Go.Proofs.YtcgnjdkennkheaaGreatDoor
open Go.RowKit
attribute [local go_sem] Oper.semAt_some

def backBF (ls : List (Bool)) (k : Nat) : Nat × (Bool) := (ls.length - 1 - k, ls[ls.length - 1 - k]?.getD false)
theorem upto_backB (ls : List (Bool)) : (upto (backBF ls) ls.length).map (fun x => x.2) = ls.reverse := by
  apply List.ext_getElem
  · simp [upto]
  · intro i h1 h2
    have hi : i < ls.length := by simpa using h2
    simp only [upto, List.map_map, List.getElem_map, List.getElem_range, Function.comp, backBF]
    rw [List.getElem?_eq_getElem (by omega), List.getElem_reverse]
    rfl
abbrev backBV (x : Nat × (Bool)) : Array Value := #[.int .i64 (x.1 : Int), .bool x.2]

end Go.Proofs.YtcgnjdkennkheaaGreatDoor

namespace Go.Proofs.YtcgnjdkennkheaaGreatDoor
open Go.RowKit
attribute [local go_sem] Oper.semAt_some

def backSF (ls : List (Way.Step)) (k : Nat) : Nat × (Way.Step) := (ls.length - 1 - k, ls[ls.length - 1 - k]?.getD (false, 0, 0))
theorem upto_backS (ls : List (Way.Step)) : (upto (backSF ls) ls.length).map (fun x => x.2) = ls.reverse := by
  apply List.ext_getElem
  · simp [upto]
  · intro i h1 h2
    have hi : i < ls.length := by simpa using h2
    simp only [upto, List.map_map, List.getElem_map, List.getElem_range, Function.comp, backSF]
    rw [List.getElem?_eq_getElem (by omega), List.getElem_reverse]
    rfl
abbrev backSV (x : Nat × (Way.Step)) : Array Value := #[.int .i64 (x.1 : Int), .agg (stepC x.2).toArray]

set_option maxHeartbeats 2000000 in
theorem backS_in (n : Nat) (hn : 1 ≤ n) (l Bs : Nat) (A : Option Addr) (cap : Nat) (ls : List (Way.Step)) (hn63 : ls.length ≤ 9223372036854775807) (S : Nat → Prop) (J Jx : List (Nat × (Way.Step)) → World → Prop)
    (hY : ∀ pre x W, J pre W → pre.length < ls.length → YieldAt Fence.wide (n - 1) Tryz.prog l (backSV x) W fun e W' =>
      (e = .returned (.bool true) ∧ J (pre ++ [x]) W' ∧ Keep S W W') ∨ (e = .returned (.bool false) ∧ Jx (pre ++ [x]) W'))
    (W : World) (hBs : Blk W Bs 155 #[.slice A ls.length cap]) (hS : S Bs) (hr : Rd W W.heap.size A (flatSt ls)) (hA : ∀ b off, A = some ⟨b, off, none⟩ → S b) (h0 : J [] W) :
    CallsIn Fence.wide n Tryz.prog 128 #[.func (.yield l) #[] #[], .pointer (some ⟨Bs, 0, none⟩)] W fun e W' => (∃ v, e = .returned v) ∧
      ((∃ ys, ys = upto (backSF ls) ls.length ∧ J ys W') ∨ (∃ pre, True ∧ Jx pre W')) := by
  have hBs0 : W.cell? ⟨Bs, 0, none⟩ = some (.slice A ls.length cap) := Blk.cell hBs 0
  refine callsIn_of_wp Tryz.func128 rfl trivial ?_ rfl
  simp only [Tryz.ntmps128, List.size_toArray, List.length_cons, List.length_nil, Nat.reduceAdd, Nat.reduceSub, Array.replicate_succ, Array.replicate_zero, List.push_toArray, List.append_toArray, List.nil_append, List.cons_append]
  gi_wp2
  gi_loopw [3] (fun i wr => ∃ k : Nat, k ≤ ls.length ∧ i = .int .i64 ((ls.length : Int) - 1 - k) ∧ J (upto (backSF ls) k) wr ∧ Keep S W wr)
    (fun i _ => (intOf i + 1).toNat)
  case atStart => exact ⟨0, Nat.zero_le _, by simp, h0, Keep.refl _ _⟩
  case round =>
    obtain ⟨k, hk, rfl, hJs, hnx⟩ := hrel
    obtain ⟨wo, rfl⟩ : ∃ wo : World, wo = wr := ⟨_, rfl⟩
    by_cases hlt : k < ls.length
    · have hpos : (0 : Int) ≤ (ls.length : Int) - 1 - (k : Int) := by omega
      obtain ⟨j, hj⟩ : ∃ j : Nat, j = ls.length - 1 - k := ⟨_, rfl⟩
      have hjI : (ls.length : Int) - 1 - (k : Int) = (j : Int) := by omega
      have hjl : j < ls.length := by omega
      have hB1 := hBs.kept hnx hS
      have hBo : wo.cell? ⟨Bs, 0, none⟩ = some (.slice A ls.length cap) := Blk.cell hB1 0
      obtain ⟨b, off, rfl, hbl, hm⟩ := steps_mid hr hjl
      have hmo : wo.rangeAt b (off + j * 3) (stepC ls[j]) := fun i v hv => (World.cell?_of_block (hnx.block b hbl (hA b off rfl))).trans (hm i v hv)
      clear hm
      obtain ⟨fn, tmps, assign, body, hy, hR⟩ := hY _ (backSF ls k) wo hJs (by rw [upto_length]; exact hlt)
      have hbf : backSF ls k = (j, ls[j]) := by unfold backSF; rw [← hj, List.getElem?_eq_getElem hjl]; rfl
      rw [hbf] at hy hR
      simp only [backSV] at hy
      have Hj := Lib.hid hjI
      have Hbf := Lib.hid hbf
      rw [hjI]
      rw [hjI] at hpos
      clear hbf hj hjI
      generalize ls[j] = q at *
      gi_wp2_with (refine stopIn_load 161 (.tmp 15) rfl ?_)
      refine ⟨?_⟩
      refine listIn_mid rfl 161 (.tmp 15) rfl b (off + j * 3) (by rfl) (stepC q) _ hmo Tryz.underlying161 rfl (by kernel_rfl) ?_
      simp only [Act.put, List.setIfInBounds_toArray, List.set_cons_zero, List.set_cons_succ]
      gi_wp2
      refine hR.mono ?_
      rintro e W3 (⟨rfl, hJ3, hk3⟩ | ⟨rfl, hJx3⟩)
      · clear hBo hBs0
        gi_wp2
        go_roundw
        case rel => exact ⟨k + 1, by omega, by have := Hj.out; congr 1; omega, by rw [upto_succ, Hbf.out]; exact hJ3, hnx.trans hk3⟩
        case measure => simp [intOf]
      · gi_wp2
        refine bodyPost_ret (results_none rfl _ _ _) rfl ?_
        exact ⟨⟨_, rfl⟩, .inr ⟨_, trivial, hJx3⟩⟩
    · obtain rfl : k = ls.length := by omega
      have hneg : ¬ (0 : Int) ≤ (ls.length : Int) - 1 - (ls.length : Int) := by omega
      gi_wp2
      go_end0
      exact ⟨⟨_, rfl⟩, .inl hJs⟩

theorem backS_stops (n : Nat) (hn : 1 ≤ n) (Bs : Nat) (A : Option Addr) (cap : Nat) (ls : List (Way.Step)) (hn63 : ls.length ≤ 9223372036854775807) (S : Nat → Prop) (w : World)
    (hBs : Blk w Bs 155 #[.slice A ls.length cap]) (hS : S Bs) (hr : Rd w w.heap.size A (flatSt ls)) (hA : ∀ b off, A = some ⟨b, off, none⟩ → S b) :
    SeqStopsK Fence.wide n Tryz.prog 128 #[.pointer (some ⟨Bs, 0, none⟩)] backSV (Keep S) (fun ys => ys = upto (backSF ls) ls.length) (fun _ => True) ls.length w := fun l J Jx W hW _ _ hY h0 =>
  backS_in n hn l Bs A cap ls hn63 S J Jx hY W (hBs.below hW hBs.lt) hS ((hr.below hW (Nat.le_refl _)).more hW.size) hA h0

theorem BackwardS_calls (A : Option Addr) (len cap : Nat) (w : World) :
    Calls Tryz.prog 117 #[.slice A len cap] w fun e w' => e = .returned (.func (.func 128) #[] #[.pointer (some ⟨w.heap.size, 0, none⟩)]) ∧ w' = w.alloc (.cells #[.slice A len cap] 155) := by
  go_enter Tryz.func117, Tryz.ntmps117
  go_wp2_with fail
  go_ret
  exact ⟨rfl, rfl⟩

end Go.Proofs.YtcgnjdkennkheaaGreatDoor

namespace Go.Proofs.YtcgnjdkennkheaaGreatDoor
open Go.RowKit

/-- A world in which the blocks of S are as in w. -/
structure Held (S : Nat → Prop) (w : World) where
  world : World
  keep : Keep S w world
instance heldInhabited (S : Nat → Prop) (w : World) : Inhabited (Held S w) := ⟨⟨w, Keep.refl S w⟩⟩
def heldW (S : Nat → Prop) (w : World) (x : Held S w) : World := x.world
section
variable {S : Nat → Prop} {w : World} (x : Held S w)
theorem heldW_keep : Keep S w (heldW S w x) := x.keep
theorem held_of {w' : World} (h : Keep S w w') : ∃ y : Held S w, w' = heldW S w y := ⟨⟨w', h⟩, rfl⟩
variable {P : Program} {id : Nat} {Q : Exit → Act → World → Prop} {a : Act} {l : List Oper}
theorem region_keep (S : Nat → Prop) (n : Nat) (hm : P.follows .mixedOrders = true) (hB : mixB loudOp .any l.toArray n = true)
    (h : wpMix P l.toArray (fun w' => ∃ x : Held S w, w' = heldW S w x) loudOp (fun a' w' => wpList P l.toArray Q (l.drop n) a' w') (l.take n) a w.drew) : (Code.region id l.toArray true).wp P Q a w :=
  wp_region_mix (S := fun w' => ∃ x : Held S w, w' = heldW S w x) n hm hB (held_of (Keep.refl S w).drew) h
theorem region_keep0 (S : Nat → Prop) (hm : P.follows .mixedOrders = true) (hB : mixB loudOp .any l.toArray l.length = true)
    (h : wpMix P l.toArray (fun w' => ∃ x : Held S w, w' = heldW S w x) loudOp (fun a' w' => Q .normal a' w') l a w.drew) : (Code.region id l.toArray true).wp P Q a w := by
  refine region_keep S l.length hm hB ?_
  rw [List.take_length, List.drop_length]
  exact h
end
section
variable {P : Program} {ops : Array Oper} {T : Act → World → Prop} {o : Oper} {rest : List Oper} {a : Act} {w w0 : World} {S : Nat → Prop}
/-- A whole row. -/
theorem held_row (hl : loudOp o = false) (hw : Region.wanted o (yielded ops a.tmps) = true) (ty : TypeId) (p : Operand) (ho : o.op = .load ty p) (g : Nat) (hx : a.eval p = .pointer (some ⟨g, 0, none⟩))
    (t : TypeId) (cs : Array Value) (d : TypeDesc) (hg : Blk w0 g t cs) (hS : S g) (hu : P.underlying ty = some d) (hd : (match d with | .struct _ | .array _ _ => true | _ => false) = true) (hi : (P.info? ty).map (·.size) = some cs.size)
    (h : wpMix P ops (fun w' => ∃ x : Held S w0, w' = heldW S w0 x) loudOp T rest (a.put o.dst (.agg cs)) w) : wpMix P ops (fun w' => ∃ x : Held S w0, w' = heldW S w0 x) loudOp T (o :: rest) a w := by
  refine mix_quiet hl hw fun K hK => ⟨.agg cs, fun w' hs => ?_, hK _ h⟩
  obtain ⟨x, rfl⟩ := hs
  unfold Oper.quietAt execOp
  simp only [ho, hx, Instr.loadAt, Instr.sureAddr, Sem.run_bind, Sem.run_pure, Result.andThen_ok, run_loadVar_row (heldW S w0 x) g t ty cs (0, 0) d (hg.kept (heldW_keep x) hS) hu hd hi]
  exact ⟨rfl, rfl⟩
/-- A range of a row. -/
theorem held_mid (hl : loudOp o = false) (hw : Region.wanted o (yielded ops a.tmps) = true) (ty : TypeId) (p : Operand) (hop : o.op = .load ty p) (b f : Nat) (hx : a.eval p = .pointer (some ⟨b, f, none⟩)) (cs : List Value) (d : TypeDesc)
    (hc : w0.rangeAt b f cs) (hb : b < w0.heap.size) (hS : S b) (hu : P.underlying ty = some d) (hd : d.isRow = true) (hi : (P.info? ty).map (·.size) = some cs.length)
    (h : wpMix P ops (fun w' => ∃ x : Held S w0, w' = heldW S w0 x) loudOp T rest (a.put o.dst (.agg cs.toArray)) w) : wpMix P ops (fun w' => ∃ x : Held S w0, w' = heldW S w0 x) loudOp T (o :: rest) a w := by
  refine mix_quiet hl hw fun K hK => ⟨.agg cs.toArray, fun w' hs => ?_, hK _ h⟩
  obtain ⟨x, rfl⟩ := hs
  have hm : (heldW S w0 x).rangeAt b f cs := fun i v hv => (World.cell?_of_block ((heldW_keep x).block b hb hS)).trans (hc i v hv)
  unfold Oper.quietAt execOp
  simp only [hop, hx, Instr.loadAt, Instr.sureAddr, Sem.run_bind, Sem.run_pure, Result.andThen_ok, run_loadVar_mid (heldW S w0 x) b f ty cs d hm hu hd hi]
  exact ⟨rfl, rfl⟩
end

end Go.Proofs.YtcgnjdkennkheaaGreatDoor

namespace Go.Proofs.YtcgnjdkennkheaaGreatDoor
open Go.ChangeShapes Go.WideShapes Go.ChangeAt Go.RowKit
attribute [local go_sem] bs_size bs_toList2 bs_append bs_extract_end bs_extract_begin bs_get wrap64_b grow_cell grow_frozen

theorem info_step : (Tryz.prog.info? 161).map (fun i => (i.zero, i.size, i.bytes)) = some (some (.agg #[.bool false, .int .i64 0, .int .i64 0]), 3, 24) := by kernel_rfl

theorem owns_base {w : World} {B B' : Nat} {e : TypeId} {size : Nat} {v : Value} {n : Nat} {xs : List Value} (h : w.ownsRow B e size v n xs) (hb : B' ≤ B) : w.ownsRow B' e size v n xs :=
  ⟨h.1, h.2.imp id fun ⟨g, cap, cur, e, hg, hr⟩ => ⟨g, cap, cur, e, Nat.le_trans hb hg, hr⟩⟩
theorem owns_far {w : World} {B g : Nat} {e : TypeId} {size : Nat} {v : Value} {n : Nat} {xs : List Value} (h : w.ownsRow B e size v n xs) (hg : g < B) (u : Value) : (w.setCell ⟨g, 0, none⟩ u).ownsRow B e size v n xs :=
  h.kept (row := some g) ⟨rfl, rfl, rfl, by simp, fun i hi hne => Below.heap_setCell _ _ _ _ (fun e => hne (by rw [e]))⟩ (.inr (fun e => by have := (h.lt g e).1; omega))
theorem owns_drew {w : World} {B : Nat} {e : TypeId} {size : Nat} {v : Value} {n : Nat} {xs : List Value} (h : w.ownsRow B e size v n xs) : w.drew.ownsRow B e size v n xs :=
  h.kept (row := none) ⟨rfl, rfl, rfl, Nat.le_refl _, fun _ _ _ => rfl⟩ (by cases v.ownBlock <;> simp)
/-- append(l, a step) -/
theorem append_step {ops : Array Oper} {rest : List Oper} {o : Oper} {a : Act} {w : World} {Q : Exit → Act → World → Prop} (hgd : o.guard = none) (s x : Operand) (ho : o.op = .call { callee := .builtin .append, args := #[s, x], argTypes := #[155, 155] })
    (v : Value) (l : List Way.Step) (b : Way.Step) (hs : a.eval s = v) (gx : Nat) (hx : a.eval x = .slice (some ⟨gx, 0, none⟩) 1 1) (hgx : gx = w.heap.size) (hn : l.length ≤ 1099511627776) (base : Nat) (hb : base ≤ w.heap.size)
    (h : w.ownsRow base 161 3 v l.length (flatSt l))
    (hK : ∀ v' w', w'.ownsRow base 161 3 v' (l.length + 1) (flatSt (l ++ [b])) → Keep (fun k => some k ≠ v.ownBlock) w w' → w.heap.size + 1 ≤ w'.heap.size → wpList Tryz.prog ops Q rest (a.put o.dst v') w') :
    wpList Tryz.prog ops Q (o :: rest) a (w.alloc (.cells (stepC b).toArray 161)) := by
  subst hgx
  obtain ⟨i0, hi, hz0, hz1, hz2⟩ := info_parts info_step
  refine wpList_append_own _ hgd s x 155 ho base 161 i0 _ 3 24 Tryz.underlying155 hi hz0 hz1 hz2 rfl (by decide) v l.length (flatSt l) hs (h.alloc _) ⟨w.heap.size, 0, none⟩ 1 1 (stepC b) hx rfl (fun j u hj => ?_) (fun u hu => ?_) (by unfold maxLen; omega) (by omega) (by simp; omega) fun v' w' h1 h2 h3 => ?_
  · have hj' := (List.getElem?_eq_some_iff.1 hj).1
    rw [stepC_length] at hj'
    have := (Blk.new w 161 (stepC b).toArray).cell j
    have e : (⟨w.heap.size, 0, none⟩ : Addr).add j = ⟨w.heap.size, j, none⟩ := by
      unfold Addr.add
      by_cases h0 : j = 0
      · subst h0; rfl
      · simp [h0]
    rw [e, this]
    simpa using hj
  · exact stepC_one b u hu
  · refine hK v' w' ?_ (((Keep.refl _ _).alloc _).trans (.of_grown h2 (fun g e hs => hs e.symm))) (by have := h2.size; simpa using this)
    rw [flatSt_append, flatSt_one]
    exact h1

set_option maxHeartbeats 1000000 in
theorem into_calls (b : Bool) (n m : Nat) (go gm gn B : Nat) (vo vm vn : Value) (l : List Way.Step) (hn : l.length ≤ 1099511627776) (w w0 : World) (ho : Blk w go 155 #[vo]) (hm : Blk w gm 3 #[vm]) (hn' : Blk w gn 3 #[vn])
    (hown : w.ownsRow B 161 3 vo l.length (flatSt l)) (h1 : go ≠ gm) (h2 : go ≠ gn) (h3 : gm ≠ gn) (hB : go < B) (hBm : gm < B) (hBn : gn < B) (hBw : B ≤ w.heap.size) (hE : Ext w0 w) (g1 : w0.heap.size ≤ go) (g2 : w0.heap.size ≤ gm) (g3 : w0.heap.size ≤ gn) :
    Calls Tryz.prog 126 #[.agg #[.bool b, .int .i64 (n : Int), .int .i64 (m : Int)], .pointer (some ⟨go, 0, none⟩), .pointer (some ⟨gm, 0, none⟩), .pointer (some ⟨gn, 0, none⟩)] w fun e w' =>
      e = .returned (.tuple #[]) ∧ (∃ v', Blk w' go 155 #[v'] ∧ w'.ownsRow B 161 3 v' (l.length + 1) (flatSt (l ++ [(b, n, m)]))) ∧ Blk w' gm 3 #[.int .i64 (m : Int)] ∧ Blk w' gn 3 #[.int .i64 (n : Int)] ∧ Ext w0 w' ∧ w.heap.size ≤ w'.heap.size := by
  have c0 : w.cell? ⟨go, 0, none⟩ = some vo := Blk.cell ho 0
  have hgl := ho.lt
  have hgm := hm.lt
  have hgn := hn'.lt
  go_enter Tryz.func126, Tryz.ntmps126
  go_wp2_with (refine stop_dst 8 rfl ?_)
  refine ⟨?_⟩
  have hown2 := hown.alloc (.cells (stepC (b, n, m)).toArray 161)
  refine append_step (w := w.alloc (.cells (stepC (b, n, m)).toArray 161)) rfl (.tmp 5) (.tmp 7) rfl vo l (b, n, m) rfl (w.heap.size + 1) rfl (by simp) hn B (by simp; omega) hown2 fun v' w1 hr1 hg1 hs1 => ?_
  have hlt := hown.lt
  have ro : ∀ g, g < B → (fun k => some k ≠ vo.ownBlock) g := fun g hg e => by have := (hlt g e.symm).1; omega
  have ho1 := (ho.alloc (.cells (stepC (b, n, m)).toArray 161)).kept hg1 (ro _ hB)
  have hm1 := (hm.alloc (.cells (stepC (b, n, m)).toArray 161)).kept hg1 (ro _ hBm)
  have hn1 := (hn'.alloc (.cells (stepC (b, n, m)).toArray 161)).kept hg1 (ro _ hBn)
  have hx1 := (Blk.new w 161 (stepC (b, n, m)).toArray).kept hg1 (fun e => by have := (hlt _ e.symm).2; omega)
  have hE1 : Ext w0 w1 := (((Keep.of_ext hE).alloc _).trans (hg1.mono (fun k _ hk e => by have := (hlt k e.symm).1; omega))).ext
  simp only [Act.put, List.setIfInBounds_toArray, List.set_cons_zero, List.set_cons_succ]
  clear hg1 ro hlt ho hm hn' hown hown2 c0 hE
  have hz : w.heap.size < w1.heap.size := by simp at hs1; omega
  have c0 : w1.cell? ⟨go, 0, none⟩ = some vo := Blk.cell ho1 0
  have f0 : w1.frozen? ⟨go, 0, none⟩ = false := ho1.frozen 0
  obtain ⟨A, c, rfl⟩ := own_slice hr1
  go_wp2_with fail
  have ho2 : Blk (w1.setCell ⟨go, 0, none⟩ (.slice A (l.length + 1) c)) go 155 #[.slice A (l.length + 1) c] := ho1.set_ 0 _
  have hm2 := hm1.far (p := ⟨go, 0, none⟩) (Ne.symm h1) (.slice A (l.length + 1) c)
  have hn2 := hn1.far (p := ⟨go, 0, none⟩) (Ne.symm h2) (.slice A (l.length + 1) c)
  have hx2 := hx1.far (p := ⟨go, 0, none⟩) (by simp; omega) (.slice A (l.length + 1) c)
  have hE2 : Ext w0 (w1.setCell ⟨go, 0, none⟩ (.slice A (l.length + 1) c)) := hE1.setCell g1 _
  have hr2 : (w1.setCell ⟨go, 0, none⟩ (.slice A (l.length + 1) c)).ownsRow B 161 3 (.slice A (l.length + 1) c) (l.length + 1) (flatSt (l ++ [(b, n, m)])) := owns_far hr1 hB _
  have hz2 : w.heap.size ≤ (w1.setCell ⟨go, 0, none⟩ (.slice A (l.length + 1) c)).heap.size := by simp; omega
  generalize w1.setCell ⟨go, 0, none⟩ (.slice A (l.length + 1) c) = w2 at *
  clear hr1 ho1 hm1 hn1 hx1 hE1 c0 f0 hs1 hz
  have x0 : w2.cell? ⟨w.heap.size, 2, none⟩ = some (.int .i64 (m : Int)) := hx2.cell 2
  have x1 : w2.cell? ⟨w.heap.size, 1, none⟩ = some (.int .i64 (n : Int)) := hx2.cell 1
  have y0 : w2.cell? ⟨gm, 0, none⟩ = some vm := hm2.cell 0
  have y1 : w2.cell? ⟨gn, 0, none⟩ = some vn := hn2.cell 0
  have z0 : w2.frozen? ⟨gm, 0, none⟩ = false := hm2.frozen 0
  have z1 : w2.frozen? ⟨gn, 0, none⟩ = false := hn2.frozen 0
  go_region
  have hm3 := (((hm2.set_ 0 (.int .i64 (m : Int))).far (p := ⟨gn, 0, none⟩) h3 (.int .i64 (n : Int)))).drew
  have hn3 := (((hn2.far (p := ⟨gm, 0, none⟩) (Ne.symm h3) (.int .i64 (m : Int))).set_ 0 (.int .i64 (n : Int)))).drew
  have ho3 := (((ho2.far (p := ⟨gm, 0, none⟩) h1 (.int .i64 (m : Int))).far (p := ⟨gn, 0, none⟩) h2 (.int .i64 (n : Int)))).drew
  have hr3 := owns_drew (owns_far (owns_far hr2 hBm (.int .i64 (m : Int))) hBn (.int .i64 (n : Int)))
  have hE3 := ((hE2.setCell (p := ⟨gm, 0, none⟩) g2 (.int .i64 (m : Int))).setCell (p := ⟨gn, 0, none⟩) g3 (.int .i64 (n : Int))).drew
  clear hx2 hm2 hn2 ho2 hr2 hE2 x0 x1 y0 y1 z0 z1
  go_end0
  exact ⟨rfl, ⟨_, ho3, hr3⟩, hm3, hn3, hE3, by simpa using hz2⟩

def cellN (w : World) (g : Nat) : Nat := match w.cell? ⟨g, 0, none⟩ with
  | some (.int _ i) => i.toNat
  | _ => 0
theorem cellN_at {w : World} {g : Nat} {t : TypeId} {i : Nat} (h : Blk w g t #[.int .i64 (i : Int)]) : cellN w g = i := by
  have c0 : w.cell? ⟨g, 0, none⟩ = some (.int .i64 (i : Int)) := Blk.cell h 0
  unfold cellN
  rw [c0]
  simp

set_option maxHeartbeats 1000000 in
theorem down_calls (whole : Bool) (m n : Nat) (hn : n ≤ 1099511627776) (hm : m ≤ n) (w : World) :
    Calls Tryz.prog 115 #[.int .i64 (m : Int), .int .i64 (n : Int), .bool whole] w fun e w' => ∃ v, e = .returned v ∧ w'.ownsRow w.heap.size 161 3 v (Way.down whole m n).length (flatSt (Way.down whole m n)) ∧ Ext w w' := by
  obtain ⟨goal, hgoal⟩ : ∃ g, g = Way.down whole m n := ⟨_, rfl⟩
  have hgl : goal.length ≤ n := by rw [hgoal]; exact Way.down_length whole n m
  rw [← hgoal]
  have Hg := Lib.hid hgoal
  clear hgoal
  go_enter Tryz.func115, Tryz.ntmps115
  go_wp2_with fail
  go_step3
  go_wp2_with fail
  have hm0 : Blk (((w.alloc (.cells #[.int .i64 (m : Int)] 3)).alloc (.cells #[.int .i64 (n : Int)] 3)).alloc (.cells #[.slice none 0 0] 155)) w.heap.size 3 #[.int .i64 (m : Int)] := ((Blk.new w _ _).alloc _).alloc _
  have hn0 : Blk (((w.alloc (.cells #[.int .i64 (m : Int)] 3)).alloc (.cells #[.int .i64 (n : Int)] 3)).alloc (.cells #[.slice none 0 0] 155)) (w.heap.size + 1) 3 #[.int .i64 (n : Int)] := by
    have := ((Blk.new (w.alloc (.cells #[.int .i64 (m : Int)] 3)) 3 #[.int .i64 (n : Int)]).alloc (.cells #[.slice none 0 0] 155))
    simpa using this
  have ho0 : Blk (((w.alloc (.cells #[.int .i64 (m : Int)] 3)).alloc (.cells #[.int .i64 (n : Int)] 3)).alloc (.cells #[.slice none 0 0] 155)) (w.heap.size + 1 + 1) 155 #[.slice none 0 0] := by
    have := (Blk.new ((w.alloc (.cells #[.int .i64 (m : Int)] 3)).alloc (.cells #[.int .i64 (n : Int)] 3)) 155 #[.slice none 0 0])
    simpa using this
  have hE0 : Ext w (((w.alloc (.cells #[.int .i64 (m : Int)] 3)).alloc (.cells #[.int .i64 (n : Int)] 3)).alloc (.cells #[.slice none 0 0] 155)) := (((Ext.refl w).alloc _).alloc _).alloc _
  have hz0 : (((w.alloc (.cells #[.int .i64 (m : Int)] 3)).alloc (.cells #[.int .i64 (n : Int)] 3)).alloc (.cells #[.slice none 0 0] 155)).heap.size = w.heap.size + 3 := by simp
  generalize ((w.alloc (.cells #[.int .i64 (m : Int)] 3)).alloc (.cells #[.int .i64 (n : Int)] 3)).alloc (.cells #[.slice none 0 0] 155) = w1 at *
  have hr0 : w1.ownsRow (w.heap.size + 3) 161 3 (.slice none 0 0) ([] : List Way.Step).length (flatSt []) := World.ownsRow_nil _ _ _ _
  generalize hB : w.heap.size = B at *
  go_step3
  go_wp2_with fail
  go_loopw [9] (fun s9 wr => (∃ z, s9 = z) ∧
      ∃ (i j : Nat) (out : List Way.Step) (v : Value), i ≤ j ∧ j ≤ n ∧ out ++ Way.down whole i j = goal ∧ Blk wr B 3 #[.int .i64 (i : Int)] ∧ Blk wr (B + 1) 3 #[.int .i64 (j : Int)] ∧ Blk wr (B + 1 + 1) 155 #[v] ∧ wr.ownsRow (B + 3) 161 3 v out.length (flatSt out) ∧ B + 3 ≤ wr.heap.size ∧ Ext w wr) (fun _ wr => cellN wr (B + 1))
  case atStart => exact ⟨⟨_, rfl⟩, m, n, [], _, hm, Nat.le_refl _, by rw [Hg.out]; rfl, hm0, hn0, ho0, hr0, by omega, hE0⟩
  case round =>
    obtain ⟨wo, rfl⟩ : ∃ wo : World, wo = wr := ⟨_, rfl⟩
    obtain ⟨_, i, j, out, v, hij, hjn, hog, hI, hJ, hO, hR, hz, hE⟩ := hrel
    clear hm0 hn0 ho0 hr0 hE0 hz0
    have hol : out.length ≤ n := by have := congrArg List.length hog; rw [List.length_append] at this; omega
    have hms := cellN_at hJ
    have ci : wo.cell? ⟨B, 0, none⟩ = some (.int .i64 (i : Int)) := Blk.cell hI 0
    have cj : wo.cell? ⟨B + 1, 0, none⟩ = some (.int .i64 (j : Int)) := Blk.cell hJ 0
    have co : wo.cell? ⟨B + 1 + 1, 0, none⟩ = some v := Blk.cell hO 0
    have Hog := Lib.hid hog
    clear hog
    by_cases hdone : j < 2 ∨ (whole = true ∧ i = j)
    · have hgo : out = goal := by rw [← Hog.out, Way.down_done hdone, List.append_nil]
      subst hgo
      rcases hdone with h2 | ⟨rfl, rfl⟩
      · have d1 : decide ((j : Int) < 2) = true := decide_eq_true (by omega)
        go_wp2_with fail
        rw [Exit.noGoto_ret]
        go_ret
        exact ⟨_, rfl, owns_base hR (by omega), hE⟩
      · by_cases h2 : i < 2
        · have d1 : decide ((i : Int) < 2) = true := decide_eq_true (by omega)
          go_wp2_with fail
          rw [Exit.noGoto_ret]
          go_ret
          exact ⟨_, rfl, owns_base hR (by omega), hE⟩
        · have d1 : decide ((i : Int) < 2) = false := decide_eq_false (by omega)
          go_wp2_with fail
          rw [Exit.noGoto_ret]
          go_ret
          exact ⟨_, rfl, owns_base hR (by omega), hE⟩
    · have hj2 : ¬ j < 2 := fun h => hdone (.inl h)
      have d1 : decide ((j : Int) < 2) = false := decide_eq_false (by omega)
      have d2 : (whole && decide (i = j)) = false := by
        cases whole
        · rfl
        · simp only [Bool.true_and, decide_eq_false_iff_not]
          exact fun h => hdone (.inr ⟨rfl, h⟩)
      have hsl := Tree.split_lt j (by omega)
      have hsp := Tree.split_pos j (by omega)
      have HSp := Lib.hid (splitI_nat j (by omega))
      by_cases hk : i < Tree.split j ∨ (whole = true ∧ i = Tree.split j)
      · have Hp := Lib.hid (Way.down_first hdone hk)
        clear hdone
        cases whole
        · have hki : i < Tree.split j := by simpa using hk
          clear hk
          go_wp2_with fail
          refine (Split_calls (j : Int) (by omega) (by omega) _).mono ?_; rw [HSp.out]; rintro e w1 ⟨rfl, rfl⟩
          generalize Tree.split j = k at *
          have q1 : decide ((i : Int) < (k : Int)) = true := decide_eq_true (by omega)
          go_wp2_with fail
          refine (into_calls false k i (B + 1 + 1) B (B + 1) (B + 3) v _ _ out (by omega) wo w hO hI hJ hR (by omega) (by omega) (by omega) (by omega) (by omega) (by omega) hz hE (by omega) (by omega) (by omega)).mono ?_
          rintro e w2 ⟨rfl, ⟨v2, hO2, hR2⟩, hI2, hJ2, hE2, hs2⟩
          clear hO hI hJ hR hE ci cj co
          have hms2 := cellN_at hJ2
          have hz2 : B + 3 ≤ w2.heap.size := Nat.le_trans hz hs2
          go_wp2_with fail
          go_roundw
          case rel => exact ⟨⟨_, rfl⟩, i, k, out ++ [(false, k, i)], v2, by omega, by omega, by rw [← Hog.out, Hp.out]; simp, hI2, hJ2, hO2, by rw [List.length_append]; exact hR2, hz2, hE2⟩
          case measure => rw [hms, hms2]; omega
        · have hne : i ≠ j := by simpa using d2
          have q0 : ((i : Int) == (j : Int)) = false := by simp; omega
          have hki : i ≤ Tree.split j := by rcases hk with h | ⟨-, h⟩ <;> omega
          clear hk
          by_cases hlt : i < Tree.split j
          · skip
            go_wp2_with fail
            refine (Split_calls (j : Int) (by omega) (by omega) _).mono ?_; rw [HSp.out]; rintro e w1 ⟨rfl, rfl⟩
            generalize Tree.split j = k at *
            have q1 : decide ((i : Int) < (k : Int)) = true := decide_eq_true (by omega)
            go_wp2_with fail
            refine (into_calls false k i (B + 1 + 1) B (B + 1) (B + 3) v _ _ out (by omega) wo w hO hI hJ hR (by omega) (by omega) (by omega) (by omega) (by omega) (by omega) hz hE (by omega) (by omega) (by omega)).mono ?_
            rintro e w2 ⟨rfl, ⟨v2, hO2, hR2⟩, hI2, hJ2, hE2, hs2⟩
            clear hO hI hJ hR hE ci cj co
            have hms2 := cellN_at hJ2
            have hz2 : B + 3 ≤ w2.heap.size := Nat.le_trans hz hs2
            go_wp2_with fail
            go_roundw
            case rel => exact ⟨⟨_, rfl⟩, i, k, out ++ [(false, k, i)], v2, by omega, by omega, by rw [← Hog.out, Hp.out]; simp, hI2, hJ2, hO2, by rw [List.length_append]; exact hR2, hz2, hE2⟩
            case measure => rw [hms, hms2]; omega
          · skip
            go_wp2_with fail
            refine (Split_calls (j : Int) (by omega) (by omega) _).mono ?_; rw [HSp.out]; rintro e w1 ⟨rfl, rfl⟩
            generalize Tree.split j = k at *
            have q1 : decide ((i : Int) < (k : Int)) = false := decide_eq_false (by omega)
            have q2 : ((i : Int) == (k : Int)) = true := by simp; omega
            go_wp2_with fail
            refine (into_calls false k i (B + 1 + 1) B (B + 1) (B + 3) v _ _ out (by omega) wo w hO hI hJ hR (by omega) (by omega) (by omega) (by omega) (by omega) (by omega) hz hE (by omega) (by omega) (by omega)).mono ?_
            rintro e w2 ⟨rfl, ⟨v2, hO2, hR2⟩, hI2, hJ2, hE2, hs2⟩
            clear hO hI hJ hR hE ci cj co
            have hms2 := cellN_at hJ2
            have hz2 : B + 3 ≤ w2.heap.size := Nat.le_trans hz hs2
            go_wp2_with fail
            go_roundw
            case rel => exact ⟨⟨_, rfl⟩, i, k, out ++ [(false, k, i)], v2, by omega, by omega, by rw [← Hog.out, Hp.out]; simp, hI2, hJ2, hO2, by rw [List.length_append]; exact hR2, hz2, hE2⟩
            case measure => rw [hms, hms2]; omega
      · have Hp := Lib.hid (Way.down_others hdone hk)
        clear hdone
        cases whole
        · have hki : ¬ i < Tree.split j := fun h => hk (.inl h)
          clear hk
          go_wp2_with fail
          refine (Split_calls (j : Int) (by omega) (by omega) _).mono ?_; rw [HSp.out]; rintro e w1 ⟨rfl, rfl⟩
          generalize Tree.split j = k at *
          have q1 : decide ((i : Int) < (k : Int)) = false := decide_eq_false (by omega)
          have e1 : (i : Int) - (k : Int) = ((i - k : Nat) : Int) := by omega
          have e2 : (j : Int) - (k : Int) = ((j - k : Nat) : Int) := by omega
          go_wp2_with fail
          refine (into_calls true (j - k) (i - k) (B + 1 + 1) B (B + 1) (B + 3) v _ _ out (by omega) wo w hO hI hJ hR (by omega) (by omega) (by omega) (by omega) (by omega) (by omega) hz hE (by omega) (by omega) (by omega)).mono ?_
          rintro e w2 ⟨rfl, ⟨v2, hO2, hR2⟩, hI2, hJ2, hE2, hs2⟩
          clear hO hI hJ hR hE ci cj co
          have hms2 := cellN_at hJ2
          have hz2 : B + 3 ≤ w2.heap.size := Nat.le_trans hz hs2
          go_wp2_with fail
          go_roundw
          case rel => exact ⟨⟨_, rfl⟩, i - k, j - k, out ++ [(true, j - k, i - k)], v2, by omega, by omega, by rw [← Hog.out, Hp.out]; simp, hI2, hJ2, hO2, by rw [List.length_append]; exact hR2, hz2, hE2⟩
          case measure => rw [hms, hms2]; omega
        · have hne : i ≠ j := by simpa using d2
          have q0 : ((i : Int) == (j : Int)) = false := by simp; omega
          have hki : ¬ i < Tree.split j := fun h => hk (.inl h)
          have hki2 : i ≠ Tree.split j := fun h => hk (.inr ⟨rfl, h⟩)
          clear hk
          go_wp2_with fail
          refine (Split_calls (j : Int) (by omega) (by omega) _).mono ?_; rw [HSp.out]; rintro e w1 ⟨rfl, rfl⟩
          generalize Tree.split j = k at *
          have q1 : decide ((i : Int) < (k : Int)) = false := decide_eq_false (by omega)
          have q2 : ((i : Int) == (k : Int)) = false := by simp; omega
          have e1 : (i : Int) - (k : Int) = ((i - k : Nat) : Int) := by omega
          have e2 : (j : Int) - (k : Int) = ((j - k : Nat) : Int) := by omega
          go_wp2_with fail
          refine (into_calls true (j - k) (i - k) (B + 1 + 1) B (B + 1) (B + 3) v _ _ out (by omega) wo w hO hI hJ hR (by omega) (by omega) (by omega) (by omega) (by omega) (by omega) hz hE (by omega) (by omega) (by omega)).mono ?_
          rintro e w2 ⟨rfl, ⟨v2, hO2, hR2⟩, hI2, hJ2, hE2, hs2⟩
          clear hO hI hJ hR hE ci cj co
          have hms2 := cellN_at hJ2
          have hz2 : B + 3 ≤ w2.heap.size := Nat.le_trans hz hs2
          go_wp2_with fail
          go_roundw
          case rel => exact ⟨⟨_, rfl⟩, i - k, j - k, out ++ [(true, j - k, i - k)], v2, by omega, by omega, by rw [← Hog.out, Hp.out]; simp, hI2, hJ2, hO2, by rw [List.length_append]; exact hR2, hz2, hE2⟩
          case measure => rw [hms, hms2]; omega

end Go.Proofs.YtcgnjdkennkheaaGreatDoor

namespace Go.Proofs.YtcgnjdkennkheaaGreatDoor
open Go.ChangeShapes Go.WideShapes Go.ChangeAt Go.RowKit
attribute [local go_sem] bs_size bs_toList2 bs_append bs_extract_end bs_extract_begin bs_get wrap64_b grow_cell grow_frozen

theorem info_bool : (Tryz.prog.info? 4).map (fun i => (i.zero, i.size, i.bytes)) = some (some (.bool false), 1, 1) := by kernel_rfl
abbrev boolsV (l : List Bool) : List Value := l.map Value.bool
/-- A row of bools of the call's own. -/
abbrev OwnB (w : World) (base : Nat) (v : Value) (l : List Bool) : Prop := w.ownsRow base 4 1 v l.length (boolsV l)
theorem ownB_nil (w : World) (base : Nat) : OwnB w base (.slice none 0 0) [] := World.ownsRow_nil _ _ _ _
/-- append(l, b) -/
theorem append_bool {ops : Array Oper} {rest : List Oper} {o : Oper} {a : Act} {w w0 : World} {Q : Exit → Act → World → Prop} (hgd : o.guard = none) (s x : Operand) (ho : o.op = .call { callee := .builtin .append, args := #[s, x], argTypes := #[101, 101] })
    (v : Value) (l : List Bool) (b : Bool) (hs : a.eval s = v) (hx : a.eval x = .slice (some ⟨w.heap.size, 0, none⟩) 1 1) (hn : l.length ≤ 1099511627776) (base : Nat) (hb : base ≤ w.heap.size)
    (h : OwnB w base v l) (hE : Ext w0 w) (hb0 : w0.heap.size ≤ base)
    (hK : ∀ A c w', OwnB w' base (.slice A (l.length + 1) c) (l ++ [b]) → Ext w0 w' → wpList Tryz.prog ops Q rest (a.put o.dst (.slice A (l.length + 1) c)) w') :
    wpList Tryz.prog ops Q (o :: rest) a (w.alloc (.cells #[.bool b] 4)) := by
  obtain ⟨i0, hi, hz0, hz1, hz2⟩ := info_parts info_bool
  refine wpList_append_own _ hgd s x 101 ho base 4 i0 (.bool false) 1 1 Tryz.underlying101 hi hz0 hz1 hz2 rfl (by decide) v l.length (boolsV l) hs (h.alloc _) ⟨w.heap.size, 0, none⟩ 1 1 [.bool b] hx rfl (fun j u hj => ?_) (fun u hu => ?_) (by unfold maxLen; omega) (by omega) (by simp; omega) fun v' w' h1 h2 _ => ?_
  · match j, hj with
    | 0, hj => simp at hj; subst hj; simp [Addr.add]
  · simp at hu; subst hu; rfl
  · obtain ⟨A, c, rfl⟩ := own_slice h1
    refine hK A c w' ?_ ((hE.alloc _).grown h2 (by have := hE.size; simp; omega) (fun g hg => Nat.le_trans hb0 (h.lt g hg).1))
    unfold OwnB boolsV
    rw [List.length_append, List.map_append]
    exact h1

theorem split_nat (n : Nat) (h : 2 ≤ n) : splitI (n : Int) = (Tree.split n : Int) := splitI_nat n h
theorem parts_le (m n : Nat) : (Way.parts m n).length ≤ n := by unfold Way.parts; rw [List.length_map]; exact Way.down_length true n m

end Go.Proofs.YtcgnjdkennkheaaGreatDoor

namespace Go.Proofs.YtcgnjdkennkheaaGreatDoor
open Go.ChangeShapes Go.WideShapes Go.ChangeAt Go.RowKit
attribute [local go_sem] bs_size bs_toList2 bs_append bs_extract_end bs_extract_begin bs_get wrap64_b grow_cell grow_frozen

/-- A row of the call's own, as it is read. -/
theorem own_rd {w : World} {base n size : Nat} {e : TypeId} {v : Value} {xs : List Value} (h : w.ownsRow base e size v n xs) : ∃ A c, v = .slice A n c ∧ Rd w w.heap.size A xs ∧ n ≤ c ∧ c ≤ maxLen ∧ ∀ b off, A = some ⟨b, off, none⟩ → base ≤ b ∧ b < w.heap.size := by
  have h0 := h
  obtain ⟨hl, ⟨rfl, rfl⟩ | ⟨g, cap, cur, rfl, hg, hb, hc, hm, hs, ht⟩⟩ := h
  · refine ⟨none, 0, rfl, fun hx => ?_, Nat.le_refl _, by unfold maxLen; omega, fun b off e => by cases e⟩
    rw [Nat.zero_mul] at hl
    exact absurd (List.length_eq_zero_iff.1 hl) hx
  · have hlt : g < w.heap.size := (Array.getElem?_eq_some_iff.1 hb).1
    refine ⟨some ⟨g, 0, none⟩, cap, rfl, fun _ => ⟨g, 0, rfl, hlt, fun j u hu => ?_⟩, hc, hm, fun b off e => ?_⟩
    · have hj : j < n * size := by rw [← hl]; exact (List.getElem?_eq_some_iff.1 hu).1
      rw [Nat.zero_add, h0.cellAt j hj]
      exact hu
    · injection e with e
      injection e with e1 e2
      subst e1
      exact ⟨hg, hlt⟩

/-- Some step goes into the others. -/
def anyOthers (l : List Way.Step) : Bool := l.any (·.1)
theorem anyOthers_take (l : List Way.Step) (k : Nat) (hk : k < l.length) : anyOthers (l.take (k + 1)) = (anyOthers (l.take k) || l[k].1) := by
  unfold anyOthers
  rw [List.take_succ_eq_append_getElem hk, List.any_append]
  simp
theorem anyOthers_more (l : List Way.Step) (k : Nat) (h : anyOthers (l.take k) = true) : anyOthers l = true := by
  unfold anyOthers at *
  rw [List.any_eq_true] at *
  obtain ⟨x, hx, hp⟩ := h
  exact ⟨x, List.mem_of_mem_take hx, hp⟩
def IdxSt (l : List Way.Step) (w : World) (e : Ending) (w' : World) : Prop := ∃ i : Int, e = .returned (.int .i64 i) ∧ (decide (0 ≤ i) = anyOthers l) ∧ Ext w w'

theorem pLong_calls (m n : Int) (hn63 : n ≤ 9223372036854775807) (w : World) :
    Calls Tryz.prog 100 #[.int .i64 m, .int .i64 n] w fun e w' => e = .returned (.int .i64 (Way.longI m n)) ∧ Ext w w' := by
  go_enter Tryz.func100, Tryz.ntmps100
  by_cases h0 : m < 0
  · have hr : Way.longI m n = -1 := if_pos (.inl h0)
    rw [hr]
    have d0 : decide (m < 0) = true := decide_eq_true h0
    go_wp2_with fail
    go_ret
    exact ⟨rfl, Ext.refl _⟩
  · have d0 : decide (m < 0) = false := decide_eq_false h0
    by_cases h1 : n ≤ m
    · have hr : Way.longI m n = -1 := if_pos (.inr (.inl h1))
      rw [hr]
      have d1 : decide (n ≤ m) = true := decide_eq_true h1
      go_wp2_with fail
      go_ret
      exact ⟨rfl, Ext.refl _⟩
    · have d1 : decide (n ≤ m) = false := decide_eq_false h1
      by_cases h2 : 1099511627776 < n
      · have hr : Way.longI m n = -1 := if_pos (.inr (.inr h2))
        rw [hr]
        have d2 : decide (1099511627776 < n) = true := decide_eq_true h2
        go_wp2_with fail
        go_ret
        exact ⟨rfl, Ext.refl _⟩
      · have d2 : decide (1099511627776 < n) = false := decide_eq_false h2
        have hr : Way.longI m n = ((Way.down false m.toNat n.toNat).length : Int) := if_neg (by omega)
        rw [hr]
        obtain ⟨mN, rfl⟩ : ∃ k : Nat, m = (k : Int) := ⟨m.toNat, by omega⟩
        obtain ⟨nN, rfl⟩ : ∃ k : Nat, n = (k : Int) := ⟨n.toNat, by omega⟩
        simp only [Int.toNat_natCast]
        generalize hl : (Way.down false mN nN).length = L
        have HL := Lib.hid hl
        clear hl
        go_wp2_with fail
        refine (down_calls false mN nN (by omega) (by omega) _).mono ?_; rintro e w1 ⟨v, rfl, hR, hE⟩
        rw [HL.out] at hR
        obtain ⟨A, c, rfl⟩ := own_slice hR
        go_wp2_with fail
        go_ret
        exact ⟨rfl, hE⟩

theorem wholeB_any : ∀ l : List Way.Step, Way.wholeB (l.map (·.1)) = !anyOthers l
  | [] => rfl
  | s :: l => by
    have ih := wholeB_any l
    obtain ⟨b, n, m⟩ := s
    unfold Way.wholeB anyOthers at *
    cases b
    · simpa using ih
    · simp

/-- What slices.Index tells of true. -/
def IdxB (l : List Bool) (w : World) (e : Ending) (w' : World) : Prop := ∃ i : Int, e = .returned (.int .i64 i) ∧ (decide (0 ≤ i) = l.contains true) ∧ w = w'
theorem contains_take (l : List Bool) (k : Nat) (hk : k < l.length) : (l.take (k + 1)).contains true = ((l.take k).contains true || l[k]) := by
  rw [List.take_succ_eq_append_getElem hk]
  generalize l[k] = b
  generalize l.take k = p
  cases b <;> cases h : p.contains true <;> simp_all
theorem contains_more (l : List Bool) (k : Nat) (h : (l.take k).contains true = true) : l.contains true = true := by
  rw [List.contains_iff_mem] at *
  exact List.mem_of_mem_take h

end Go.Proofs.YtcgnjdkennkheaaGreatDoor

namespace Go.Proofs.YtcgnjdkennkheaaGreatDoor
open Go.ChangeShapes Go.WideShapes Go.ChangeAt Go.RowKit
attribute [local go_sem] bs_size bs_toList2 bs_append bs_extract_end bs_extract_begin bs_get wrap64_b grow_cell grow_frozen

/-- A row of the call's own, when a loop's book-keeping turns. -/
theorem owns_book {W W' : World} {row : Option Nat} {B n size : Nat} {e : TypeId} {v : Value} {xs : List Value} (h : W.ownsRow B e size v n xs) (hg : W.grownBy W' row) (hr : ∀ r, row = some r → ∃ o : Obj, W.heap[r]? = some o ∧ o.isCells = false) : W'.ownsRow B e size v n xs := by
  obtain ⟨hl, h0 | ⟨g, cap, cur, hv, hb, hc, rest⟩⟩ := h
  · exact ⟨hl, .inl h0⟩
  · exact ⟨hl, .inr ⟨g, cap, cur, hv, hb, Blk.own hc hg hr, rest⟩⟩

theorem owns_keep {S : Nat → Prop} {W W' : World} {B n size : Nat} {e : TypeId} {v : Value} {xs : List Value} (h : W.ownsRow B e size v n xs) (hk : Keep S W W') (hS : ∀ k, v.ownBlock = some k → S k) : W'.ownsRow B e size v n xs := by
  obtain ⟨hl, h0 | ⟨g, cap, cur, hv, hb, hc, rest⟩⟩ := h
  · exact ⟨hl, .inl h0⟩
  · exact ⟨hl, .inr ⟨g, cap, cur, hv, hb, Blk.kept hc hk (hS g (by rw [hv]; rfl)), rest⟩⟩
theorem ownsRow_ext {W W' : World} {B n size : Nat} {e : TypeId} {v : Value} {xs : List Value} (h : W.ownsRow B e size v n xs) (hk : Ext W W') : W'.ownsRow B e size v n xs := owns_keep h (.of_ext (S := fun _ => True) hk) (fun _ _ => trivial)
theorem own_not {W : World} {B n size : Nat} {e : TypeId} {v : Value} {xs : List Value} (h : W.ownsRow B e size v n xs) {k : Nat} {o : Obj} (hk : W.heap[k]? = some o) (ho : o.isCells = false) : some k ≠ v.ownBlock := by
  intro ek
  obtain ⟨hl, ⟨rfl, h0⟩ | ⟨g, cap, cur, rfl, hb, hc, rest⟩⟩ := h
  · cases ek
  · simp only [Value.ownBlock] at ek
    injection ek with ek
    subst ek
    have := hk.symm.trans hc
    injection this with this
    subst this
    cases ho
theorem KeepsFrom.of_own {W W' : World} {B B' n size : Nat} {e : TypeId} {v : Value} {xs : List Value} (h : W.ownsRow B e size v n xs) (hk : Keep (fun k => some k ≠ v.ownBlock) W W') : KeepsFrom B' W W' :=
  ⟨hk.size, fun k o _ h0 ho => (hk.block k (Array.getElem?_eq_some_iff.1 h0).1 (own_not h h0 ho)).trans h0⟩
/-- append(l, b) -/
theorem append_boolK {ops : Array Oper} {rest : List Oper} {o : Oper} {a : Act} {w : World} {Q : Exit → Act → World → Prop} (hgd : o.guard = none) (s x : Operand) (ho : o.op = .call { callee := .builtin .append, args := #[s, x], argTypes := #[101, 101] })
    (v : Value) (l : List Bool) (b : Bool) (hs : a.eval s = v) (hx : a.eval x = .slice (some ⟨w.heap.size, 0, none⟩) 1 1) (hn : l.length ≤ 1099511627776) (base : Nat) (hb : base ≤ w.heap.size)
    (h : OwnB w base v l)
    (hK : ∀ A c w', OwnB w' base (.slice A (l.length + 1) c) (l ++ [b]) → Keep (fun k => some k ≠ v.ownBlock) w w' → wpList Tryz.prog ops Q rest (a.put o.dst (.slice A (l.length + 1) c)) w') :
    wpList Tryz.prog ops Q (o :: rest) a (w.alloc (.cells #[.bool b] 4)) := by
  obtain ⟨i0, hi, hz0, hz1, hz2⟩ := info_parts info_bool
  refine wpList_append_own _ hgd s x 101 ho base 4 i0 (.bool false) 1 1 Tryz.underlying101 hi hz0 hz1 hz2 rfl (by decide) v l.length (boolsV l) hs (h.alloc _) ⟨w.heap.size, 0, none⟩ 1 1 [.bool b] hx rfl (fun j u hj => ?_) (fun u hu => ?_) (by unfold maxLen; omega) (by omega) (by simp; omega) fun v' w' h1 h2 _ => ?_
  · match j, hj with
    | 0, hj => simp at hj; subst hj; simp [Addr.add]
  · simp at hu; subst hu; rfl
  · obtain ⟨A, c, rfl⟩ := own_slice h1
    refine hK A c w' ?_ (((Keep.refl _ _).alloc _).trans (.of_grown h2 (fun g e hs => hs e.symm)))
    unfold OwnB boolsV
    rw [List.length_append, List.map_append]
    exact h1

/-- The sides that the rounds have met. -/
def sidesOf (pre : List (Nat × Way.Step)) : List Bool := pre.map fun x => x.2.1
theorem sidesOf_snoc (pre : List (Nat × Way.Step)) (x : Nat × Way.Step) : sidesOf (pre ++ [x]) = sidesOf pre ++ [x.2.1] := by simp [sidesOf]
theorem sidesOf_all (l : List Way.Step) : sidesOf (upto (backSF l) l.length) = (l.map (·.1)).reverse := by
  have := congrArg (List.map (·.1)) (upto_backS l)
  rw [List.map_map, List.map_reverse] at this
  exact this

theorem Turns_none (m n : Int) (hn63 : n ≤ 9223372036854775807) (h : Way.longI m n < 0) (w : World) :
    Calls Tryz.prog 103 #[.int .i64 m, .int .i64 n] w fun e w' => ∃ v, e = .returned v ∧ OwnB w' w.heap.size v (Way.turnsI m n) ∧ Ext w w' := by
  have hr : Way.turnsI m n = [] := if_pos h
  rw [hr]
  go_enter Tryz.func103, Tryz.ntmps103
  go_wp2_with fail
  refine (pLong_calls m n hn63 _).mono ?_; rintro e w1 ⟨rfl, hE⟩
  generalize Way.longI m n = L at *
  have d0 : decide (L < 0) = true := decide_eq_true h
  go_wp2_with fail
  go_ret
  exact ⟨_, rfl, ownB_nil _ _, hE⟩

set_option maxHeartbeats 2000000 in
theorem Turns_some (m n : Nat) (hm : m < n) (hn : n ≤ 1099511627776) (w : World) :
    Calls Tryz.prog 103 #[.int .i64 (m : Int), .int .i64 (n : Int)] w fun e w' => ∃ v, e = .returned v ∧ OwnB w' w.heap.size v (Way.turns m n) ∧ Ext w w' := by
  unfold Way.turns
  have hle := Way.down_length false n m
  generalize hl : Way.down false m n = l at *
  have Hl := Lib.hid hl
  clear hl
  refine (callsIn_wide (n := 9)).1 (callsIn_of_wp_marks Tryz.func103 rfl trivial (wpIn_wide.2 ?_) rfl)
  simp only [Tryz.ntmps103, List.size_toArray, List.length_cons, List.length_nil, Nat.reduceAdd, Nat.reduceSub, Array.replicate_succ, Array.replicate_zero, List.push_toArray, List.append_toArray, List.nil_append, List.cons_append]
  go_wp2_with fail
  refine (pLong_calls (m : Int) (n : Int) (by omega) _).mono ?_; rintro e w1 ⟨rfl, hE1⟩
  have hL : 0 ≤ Way.longI (m : Int) (n : Int) := by unfold Way.longI; rw [if_neg (by omega)]; omega
  generalize Way.longI (m : Int) (n : Int) = L at *
  have d0 : decide (L < 0) = false := decide_eq_false (by omega)
  go_wp2_with fail
  have hO0 : Blk (w1.alloc (.cells #[.slice none 0 0] 101)) w1.heap.size 101 #[.slice none 0 0] := Blk.new _ _ _
  have hE2 : Ext w (w1.alloc (.cells #[.slice none 0 0] 101)) := hE1.alloc _
  have hz1 := hE1.size
  have hs2 : w1.heap.size < (w1.alloc (.cells #[.slice none 0 0] 101)).heap.size := by simp
  generalize hgo : w1.heap.size = go at *
  generalize w1.alloc (.cells #[.slice none 0 0] 101) = w2 at *
  refine (down_calls false m n hn (by omega) _).mono ?_; rintro e w3 ⟨v, rfl, hR, hE3⟩
  rw [Hl.out] at hR
  obtain ⟨A, cap, rfl, hrd, hcap, hc63, hA⟩ := own_rd hR
  go_wp2_with fail
  refine (BackwardS_calls _ _ _ _).mono ?_; rintro e w4 ⟨rfl, hw4⟩
  have e4 : Ext w3 w4 := by rw [hw4]; exact (Ext.refl w3).alloc _
  have hBs : Blk w4 w3.heap.size 155 #[.slice A l.length cap] := by rw [hw4]; exact Blk.new _ _ _
  have hs4 : w3.heap.size < w4.heap.size := by rw [hw4]; simp
  have hrd4 : Rd w4 w4.heap.size A (flatSt l) := (hrd.below e4 (Nat.le_refl _)).more (by omega)
  have hO4 := (hO0.below hE3 hO0.lt).below e4 (hO0.below hE3 hO0.lt).lt
  have hE4 := (hE2.trans hE3).trans e4
  have hs3 := hE3.size
  clear hw4 hE1 hE2 hE3 e4 hR hrd hO0 hgo
  go_wp2_with fail
  refine (wpIn_wide (n := 9)).1 ?_
  have hS : ∀ k, k < w4.heap.size → k ≠ go → (fun k => k < w4.heap.size ∧ k ≠ go) k := fun k h1 h2 => ⟨h1, h2⟩
  refine wpIn_rangeFunc_ownH (n := 9) rfl (by omega) (gf := 128) (lb := #[.pointer (some ⟨w3.heap.size, 0, none⟩)]) rfl trivial (enters_of Tryz.func128 (by kernel_rfl) rfl)
    (backS_stops 8 (by omega) w3.heap.size A cap l (by omega) (fun k => k < w4.heap.size ∧ k ≠ go) w4 hBs ⟨by omega, by omega⟩ hrd4 (fun b' off' e => by have := hA b' off' e; exact ⟨by omega, by omega⟩))
    (fun h k => h.trans k) (fun W l o o' hl _ _ _ => Keep.putObj W l o' (fun h => absurd h.1 (by omega))) (Below.refl _ _) (fun _ => rfl)
    (fun pre W => (∃ v, Blk W go 101 #[v] ∧ OwnB W w4.heap.size v (sidesOf pre)) ∧ Keep (fun k => k < w4.heap.size ∧ k ≠ go) w4 W)
    (fun _ _ _ => False)
    (fun s W W' row hs hg hr => ⟨⟨hs.1.choose, Blk.own hs.1.choose_spec.1 hg (fun r e => (hr r e).2), owns_book hs.1.choose_spec.2 hg (fun r e => (hr r e).2)⟩, hs.2.ownFrom hg (fun r e => (hr r e).1) (fun k h => h.1)⟩)
    (fun _ _ _ _ _ hs _ _ => hs)
    ⟨⟨_, hO4, ownB_nil _ _⟩, Keep.refl _ _⟩
    (fun x a' W => ∃ Bx, w4.heap.size ≤ Bx ∧ Blk W Bx 161 (stepC x.2).toArray ∧ a' = { tmps := #[Value.int IntKind.i64 ↑m, Value.int IntKind.i64 ↑n, undef, undef, Value.slice none 0 0, Value.pointer (some { block := go, off := 0 }), undef, Value.pointer (some { block := Bx, off := 0 }), Value.int IntKind.i64 ↑m, Value.int IntKind.i64 ↑n, Value.int IntKind.i64 L, Value.bool false, Value.int IntKind.i64 ↑m, Value.int IntKind.i64 ↑n, Value.slice A l.length cap, Value.func (Fn.func 128) #[] #[Value.pointer (some { block := w3.heap.size, off := 0 })], .int .i64 (x.1 : Int), .agg (stepC x.2).toArray, undef, undef, undef, undef, undef, undef], defers := [] })
    (fun x a' s W W' row hs hg hr => by
      obtain ⟨Bx, h1, h2, h3⟩ := hs
      exact ⟨Bx, h1, Blk.own h2 hg (fun r e => (hr r e).2), h3⟩) ?assign ?body ?done ?stop
  case assign =>
    intro l' pre x W KK hi hGo
    obtain ⟨⟨v, hi1, hi3⟩, hi2⟩ := hi
    have HG := Lib.hid hGo
    clear hGo
    have hz := hi2.size
    refine region_in (r := some l') (n := 7) (fun ⟨a, w, h⟩ => h) (by decide) ?_
    go_wp2_with (refine stop_store 161 (.tmp 7) (.tmp 17) rfl ?_)
    refine ⟨?_⟩
    have hP : Blk (W.alloc (.cells #[.bool false, .int .i64 0, .int .i64 0] 161)) W.heap.size 161 #[.bool false, .int .i64 0, .int .i64 0] := Blk.new _ _ _
    refine wpList_store_row rfl 161 (.tmp 7) (.tmp 17) rfl W.heap.size (stepC x.2).toArray (by rfl) (by rfl) 161 _ hP (by kernel_rfl) (by rfl) (by simp [stepC, Value.oneCell']) ?_
    have hP1 : Blk ((W.alloc (.cells #[.bool false, .int .i64 0, .int .i64 0] 161)).setRow W.heap.size (stepC x.2).toArray) W.heap.size 161 (stepC x.2).toArray := Blk.row hP _
    have hE3 : Ext W ((W.alloc (.cells #[.bool false, .int .i64 0, .int .i64 0] 161)).setRow W.heap.size (stepC x.2).toArray) := ((Ext.refl W).alloc _).row (Nat.le_refl _) _
    generalize (W.alloc (.cells #[.bool false, .int .i64 0, .int .i64 0] 161)).setRow W.heap.size (stepC x.2).toArray = W3 at *
    go_wp2_with fail
    exact HG.out _ _ (KeepsFrom.of_ext hE3) (Keep.of_ext hE3) ⟨⟨v, hi1.below hE3 hi1.lt, ownsRow_ext hi3 hE3⟩, hi2.trans (Keep.of_ext hE3)⟩ ⟨_, by omega, hP1, rfl⟩
  case body =>
    rintro l' pre x a' W hl ⟨rl, hrl⟩ ⟨⟨v, hX, hO⟩, hKp⟩ ⟨Bx, hBx, hP, rfl⟩ hlt
    have hz := hKp.size
    have HS := Lib.hid (sidesOf_snoc pre x)
    have hpl : (sidesOf pre).length ≤ 1099511627776 := by simp [sidesOf]; omega
    obtain ⟨xi, xb, xn, xm⟩ := x
    simp only at HS
    obtain ⟨Av, cv, hv⟩ := own_slice hO
    subst hv
    apply wpIn_block
    refine region_in (r := some l') (n := 7) (fun ⟨a, w, h⟩ => h) (by decide) ?_
    have c0 : W.cell? ⟨go, 0, none⟩ = some (.slice Av (sidesOf pre).length cv) := Blk.cell hX 0
    have c1 : W.cell? ⟨Bx, 0, none⟩ = some (.bool xb) := Blk.cell hP 0
    go_wp2_with (refine stop_dst 22 rfl ?_)
    refine ⟨?_⟩
    refine append_boolK rfl (.tmp 18) (.tmp 21) rfl _ (sidesOf pre) xb rfl rfl hpl w4.heap.size hz hO fun A5 c5 W5 hO5 hk5 => ?_
    simp only [Act.put, List.setIfInBounds_toArray, List.set_cons_zero, List.set_cons_succ]
    have hKF := KeepsFrom.of_own (B' := w4.heap.size) hO hk5
    have hlt5 := hO.lt
    have hX5 := hX.kept hk5 (fun e => by have := (hlt5 go e.symm).1; omega)
    have hk6 : Keep (fun k => k < w4.heap.size ∧ k ≠ go) W W5 := hk5.mono (fun k _ h e => by have := (hlt5 k e.symm).1; omega)
    have c5' : W5.cell? ⟨go, 0, none⟩ = some (.slice Av (sidesOf pre).length cv) := Blk.cell hX5 0
    have f5 : W5.frozen? ⟨go, 0, none⟩ = false := hX5.frozen 0
    clear hO hk5 hlt5 c0 c1
    go_wp2_with fail
    have hX6 : Blk (W5.setCell ⟨go, 0, none⟩ (.slice A5 ((sidesOf pre).length + 1) c5)) go 101 #[.slice A5 ((sidesOf pre).length + 1) c5] := hX5.set_ 0 _
    have hO6 := owns_far hO5 (show go < w4.heap.size by omega) (.slice A5 ((sidesOf pre).length + 1) c5)
    have hk7 : Keep (fun k => k < w4.heap.size ∧ k ≠ go) W (W5.setCell ⟨go, 0, none⟩ (.slice A5 ((sidesOf pre).length + 1) c5)) := hk6.setCell (fun h => h.2 rfl) _
    have hKF7 : KeepsFrom w4.heap.size W (W5.setCell ⟨go, 0, none⟩ (.slice A5 ((sidesOf pre).length + 1) c5)) := hKF.trans (KeepsFrom.of_upd ((Upd.refl go W5).setCell (.inl rfl) _) (by omega))
    refine ⟨hKF7, hk7, ⟨_, hX6, ?_⟩, hKp.trans hk7⟩
    rw [HS.out]
    exact hO6
  case done =>
    rintro D ys W hD rfl ⟨⟨v, hX, hO⟩, hKp⟩ hDef
    rw [sidesOf_all] at hO
    have c0 : W.cell? ⟨go, 0, none⟩ = some v := Blk.cell hX 0
    have el : (l.map (·.1)).reverse.length = l.length := by simp
    obtain ⟨Av, cv, hv⟩ := own_slice hO
    subst hv
    rw [el] at hX c0
    have hO' : W.ownsRow w4.heap.size 4 1 (.slice Av l.length cv) (l.map (·.1)).reverse.length (boolsV (l.map (·.1)).reverse) := by
      have h := hO
      unfold OwnB at h
      rw [el] at h ⊢
      exact h
    clear hO
    have hk : Keep (fun k => k < w.heap.size) w W := (Keep.of_ext hE4).trans (hKp.mono (fun k _ h => ⟨by have := hE4.size; omega, by omega⟩))
    go_wp2_with fail
    refine ⟨by simp, .inl ⟨_, _, rfl, run_takeDeferred hDef, ?_⟩⟩
    have hk5 : Keep (fun k => k ≠ D) W (W.putObj D (.deferred none)) := Keep.putObj _ _ _ (fun h => h rfl)
    refine ⟨_, results_tmp (t := 4) rfl _ _ _, ⟨.slice Av l.length cv, rfl, owns_base (owns_keep hO' hk5 (fun k hk e => ?_)) (by have := hE4.size; omega), (hk.trans (hk5.mono (fun k _ h => by omega))).ext⟩⟩
    subst e
    exact own_not hO' hDef rfl hk.symm
  case stop =>
    rintro D c pre W _ _ h _
    exact h.elim

theorem Turns_calls (m n : Int) (hn63 : n ≤ 9223372036854775807) (w : World) :
    Calls Tryz.prog 103 #[.int .i64 m, .int .i64 n] w fun e w' => ∃ v, e = .returned v ∧ OwnB w' w.heap.size v (Way.turnsI m n) ∧ Ext w w' := by
  by_cases h : Way.longI m n < 0
  · exact Turns_none m n hn63 h w
  · have hr : Way.turnsI m n = Way.turns m.toNat n.toNat := if_neg h
    rw [hr]
    have hin : ¬ (m < 0 ∨ n ≤ m ∨ 1099511627776 < n) := fun hc => h (by unfold Way.longI; rw [if_pos hc]; decide)
    obtain ⟨mN, rfl⟩ : ∃ k : Nat, m = (k : Int) := ⟨m.toNat, by omega⟩
    obtain ⟨nN, rfl⟩ : ∃ k : Nat, n = (k : Int) := ⟨n.toNat, by omega⟩
    simp only [Int.toNat_natCast]
    exact Turns_some mN nN (by omega) (by omega) w

end Go.Proofs.YtcgnjdkennkheaaGreatDoor

namespace Go.Proofs.YtcgnjdkennkheaaGreatDoor
open Go.ChangeShapes Go.WideShapes Go.ChangeAt Go.RowKit
attribute [local go_sem] bs_size bs_toList2 bs_append bs_extract_end bs_extract_begin bs_get wrap64_b grow_cell grow_frozen

abbrev sidesW (m n : Nat) : List Bool := (Way.down false m n).map (·.1)
theorem sidesW_length (m n : Nat) : (sidesW m n).length ≤ n := by rw [List.length_map]; exact Way.down_length false n m

theorem refTurns_none (m n : Int) (h : m < 0 ∨ n ≤ m ∨ 1099511627776 < n) (w : World) :
    Calls Tryz.prog 55 #[.int .i64 m, .int .i64 n] w fun e w' => e = .returned (.slice none 0 0) ∧ w = w' := by
  go_enter Tryz.func55, Tryz.ntmps55
  by_cases h0 : m < 0
  · have d0 : decide (m < 0) = true := decide_eq_true h0
    go_wp2_with fail
    go_ret
    exact ⟨rfl, rfl⟩
  · have d0 : decide (m < 0) = false := decide_eq_false h0
    by_cases h1 : n ≤ m
    · have d1 : decide (n ≤ m) = true := decide_eq_true h1
      go_wp2_with fail
      go_ret
      exact ⟨rfl, rfl⟩
    · have d1 : decide (n ≤ m) = false := decide_eq_false h1
      have h2 : 1099511627776 < n := by omega
      have d2 : decide (1099511627776 < n) = true := decide_eq_true h2
      go_wp2_with fail
      go_ret
      exact ⟨rfl, rfl⟩

set_option maxHeartbeats 2000000 in
theorem refTurns_some (m n : Nat) (hm : m < n) (hn : n ≤ 1099511627776) (w : World) :
    Calls Tryz.prog 55 #[.int .i64 (m : Int), .int .i64 (n : Int)] w fun e w' => ∃ v, e = .returned v ∧ OwnB w' w.heap.size v (Way.turns m n) ∧ Ext w w' := by
  have htn : Way.turns m n = (sidesW m n).reverse := rfl
  rw [htn]
  have hgl := sidesW_length m n
  obtain ⟨goal, hgoal⟩ : ∃ g, g = sidesW m n := ⟨_, rfl⟩
  rw [← hgoal] at hgl ⊢
  have Hg := Lib.hid hgoal
  clear hgoal htn
  go_enter Tryz.func55, Tryz.ntmps55
  have d0 : decide ((m : Int) < 0) = false := decide_eq_false (by omega)
  have d1 : decide ((n : Int) ≤ (m : Int)) = false := decide_eq_false (by omega)
  have d2 : decide ((1099511627776 : Int) < (n : Int)) = false := decide_eq_false (by omega)
  go_wp2_with fail
  have dN : decide (n ≤ m) = false := decide_eq_false (by omega)
  simp only [dN]
  clear d0 d1 d2 dN
  go_loopw [0, 1, 5, 6] (fun s0 s1 s5 _ wr => ∃ (i j : Nat) (out : List Bool), s0 = .int .i64 (i : Int) ∧ s1 = .int .i64 (j : Int) ∧ i < j ∧ j ≤ n ∧ out ++ sidesW i j = goal ∧ OwnB wr w.heap.size s5 out ∧ Ext w wr) (fun _ s1 _ _ _ => (intOf s1).toNat)
  case atStart => exact ⟨m, n, [], rfl, rfl, hm, Nat.le_refl _, by rw [Hg.out]; rfl, ownB_nil _ _, Ext.refl _⟩
  case round =>
    obtain ⟨wo, rfl⟩ : ∃ wo : World, wo = wr := ⟨_, rfl⟩
    obtain ⟨i, j, out, rfl, rfl, hij, hjn, hog, hO, hE⟩ := hrel
    have hol : out.length ≤ n := by have := congrArg List.length hog; rw [List.length_append] at this; omega
    have Hog := Lib.hid hog
    clear hog
    obtain ⟨A, c, hv⟩ := own_slice hO
    subst hv
    have hz := hE.size
    by_cases hj1 : 1 < j
    · have dj : decide ((1 : Int) < (j : Int)) = true := decide_eq_true (by omega)
      have hsl := Tree.split_lt j (by omega)
      have hsp := Tree.split_pos j (by omega)
      have HSp := Lib.hid (split_nat j (by omega))
      by_cases hk : i < Tree.split j
      · have hp : sidesW i j = false :: sidesW i (Tree.split j) := by unfold sidesW; rw [Way.down_first (by simp only [Bool.false_eq_true, false_and, or_false]; omega) (.inl hk)]; rfl
        have Hp := Lib.hid hp
        have dk : decide ((i : Int) < (Tree.split j : Int)) = true := decide_eq_true (by omega)
        clear hp
        go_wp2_with fail
        refine (refSplit_calls (j : Int) (by omega) (by omega) _).mono ?_; rw [HSp.out]; rintro e w1 ⟨rfl, rfl⟩
        generalize Tree.split j = k at *
        go_wp2_with (refine stop_dst 29 rfl ?_)
        refine ⟨?_⟩
        refine append_bool rfl (.tmp 27) (.tmp 28) rfl _ out false rfl rfl (by omega) w.heap.size hz hO hE (Nat.le_refl _) fun A5 c5 w5 hO5 hE5 => ?_
        simp only [Act.put, List.setIfInBounds_toArray, List.set_cons_zero, List.set_cons_succ]
        clear hO hE
        go_wp2_with fail
        go_roundw
        case rel =>
          first
            | exact ⟨i, k, out ++ [false], rfl, rfl, hk, by omega, by rw [← Hog.out, Hp.out]; simp, hO5, hE5⟩
            | (repeat apply Exists.intro
               refine ⟨?_, rfl⟩
               exact ⟨i, k, out ++ [false], rfl, rfl, hk, by omega, by rw [← Hog.out, Hp.out]; simp, hO5, hE5⟩)
        case measure => simp [intOf]; omega
      · have hp : sidesW i j = true :: sidesW (i - Tree.split j) (j - Tree.split j) := by unfold sidesW; rw [Way.down_others (by simp only [Bool.false_eq_true, false_and, or_false]; omega) (by simp only [Bool.false_eq_true, false_and, or_false]; omega)]; rfl
        have Hp := Lib.hid hp
        have dk : decide ((i : Int) < (Tree.split j : Int)) = false := decide_eq_false (by omega)
        clear hp
        go_wp2_with fail
        refine (refSplit_calls (j : Int) (by omega) (by omega) _).mono ?_; rw [HSp.out]; rintro e w1 ⟨rfl, rfl⟩
        generalize Tree.split j = k at *
        go_wp2_with (refine stop_dst 33 rfl ?_)
        refine ⟨?_⟩
        refine append_bool rfl (.tmp 31) (.tmp 32) rfl _ out true rfl rfl (by omega) w.heap.size hz hO hE (Nat.le_refl _) fun A5 c5 w5 hO5 hE5 => ?_
        simp only [Act.put, List.setIfInBounds_toArray, List.set_cons_zero, List.set_cons_succ]
        clear hO hE
        go_wp2_with fail
        go_roundw
        case rel =>
          first
            | exact ⟨i - k, j - k, out ++ [true], by go_num, by go_num, by omega, by omega, by rw [← Hog.out, Hp.out]; simp, hO5, hE5⟩
            | (repeat apply Exists.intro
               refine ⟨?_, rfl⟩
               exact ⟨i - k, j - k, out ++ [true], by go_num, by go_num, by omega, by omega, by rw [← Hog.out, Hp.out]; simp, hO5, hE5⟩)
        case measure => simp [intOf]; omega
    · have dj : decide ((1 : Int) < (j : Int)) = false := decide_eq_false (by omega)
      have hgo : out = goal := by rw [← Hog.out]; unfold sidesW; rw [Way.down_done (.inl (by omega))]; simp
      subst hgo
      clear Hog
      obtain ⟨A', c', hv', hrd, -, -, -⟩ := own_rd hO
      injection hv' with e1 e2 e3
      subst e1
      clear e2 e3
      go_wp2_with fail
      go_loopw [7, 8] (fun s7 s8 wq => ∃ k : Nat, k ≤ out.length ∧ s8 = .int .i64 ((out.length : Int) - 1 - k) ∧ OwnB wq wo.heap.size s7 (out.reverse.take k) ∧ Ext wo wq) (fun _ s8 _ => (intOf s8 + 1).toNat)
      case atStart => exact ⟨0, Nat.zero_le _, by simp, ownB_nil _ _, Ext.refl _⟩
      case round =>
        obtain ⟨wz, rfl⟩ : ∃ wz : World, wz = wr := ⟨_, rfl⟩
        obtain ⟨k, hk, rfl, hO2, hE2⟩ := hrel
        have hzz := hE2.size
        obtain ⟨A2, c2, hv2⟩ := own_slice hO2
        subst hv2
        by_cases hlt : k < out.length
        · have hpos : (0 : Int) ≤ (out.length : Int) - 1 - (k : Int) := by omega
          obtain ⟨q, hq⟩ : ∃ q : Nat, q = out.length - 1 - k := ⟨_, rfl⟩
          have hqI : (out.length : Int) - 1 - (k : Int) = (q : Int) := by omega
          have hql : q < out.length := by omega
          obtain ⟨b, off, rfl, hb, hc⟩ := hrd (map_ne Value.bool hql)
          have c1 : wz.cell? ⟨b, off + q, none⟩ = some (.bool out[q]) := ((ext_cells hE2).1 b _ hb).trans (hc q (.bool out[q]) (by simp [hql]))
          have hrk : out.reverse[k]'(by simpa using hlt) = out[q] := by rw [List.getElem_reverse]; congr 1; omega
          have HT := Lib.hid (show out.reverse.take (k + 1) = out.reverse.take k ++ [out[q]] by rw [List.take_succ_eq_append_getElem (by simpa using hlt), hrk])
          generalize out[q] = sd at *
          have hl2 : (out.reverse.take k).length = k := by rw [List.length_take, List.length_reverse]; omega
          rw [hqI]
          rw [hqI] at hpos
          have HqI := Lib.hid hqI
          clear hqI hq hrk
          have dpos : decide ((0 : Int) ≤ (q : Int)) = true := decide_eq_true hpos
          go_wp2_with (refine stop_dst 53 rfl ?_)
          refine ⟨?_⟩
          refine append_bool rfl (.tmp 47) (.tmp 52) rfl _ (out.reverse.take k) sd rfl rfl (by omega) wo.heap.size hzz hO2 hE2 (Nat.le_refl _) fun A5 c5 w5 hO5 hE5 => ?_
          simp only [Act.put, List.setIfInBounds_toArray, List.set_cons_zero, List.set_cons_succ]
          clear hO2 hE2 c1 hc
          go_wp2_with fail
          go_roundw
          case rel =>
            first
              | exact ⟨k + 1, by omega, by have := HqI.out; congr 1; omega, by rw [HT.out]; exact hO5, hE5⟩
              | (repeat apply Exists.intro
                 refine ⟨?_, rfl⟩
                 exact ⟨k + 1, by omega, by have := HqI.out; congr 1; omega, by rw [HT.out]; exact hO5, hE5⟩)
          case measure => simp [intOf]
        · obtain rfl : k = out.length := by omega
          have hneg : ¬ (0 : Int) ≤ (out.length : Int) - 1 - (out.length : Int) := by omega
          have dneg : decide ((0 : Int) ≤ (out.length : Int) - 1 - (out.length : Int)) = false := decide_eq_false hneg
          have ht : out.reverse.take out.length = out.reverse := by rw [← List.length_reverse, List.take_length]
          rw [ht] at hO2
          have hO3 := owns_base hO2 hz
          have hE3 := hE.trans hE2
          clear hO2 hE2 hO hE ht
          go_wp2_with fail
          go_ret
          rw [show (Value.slice A2 out.reverse.length c2) = .slice A2 out.length c2 by rw [List.length_reverse]] at hO3
          exact ⟨_, rfl, hO3, hE3⟩

theorem refTurns_calls (m n : Int) (w : World) :
    Calls Tryz.prog 55 #[.int .i64 m, .int .i64 n] w fun e w' => ∃ v, e = .returned v ∧ OwnB w' w.heap.size v (Way.turnsI m n) ∧ Ext w w' := by
  by_cases hin : m < 0 ∨ n ≤ m ∨ 1099511627776 < n
  · have hr : Way.turnsI m n = [] := if_pos (by unfold Way.longI; rw [if_pos hin]; decide)
    rw [hr]
    refine (refTurns_none m n hin w).mono ?_
    rintro e w1 ⟨rfl, rfl⟩
    exact ⟨_, rfl, ownB_nil _ _, Ext.refl _⟩
  · have hr : Way.turnsI m n = Way.turns m.toNat n.toNat := if_neg (by unfold Way.longI; rw [if_neg hin]; omega)
    rw [hr]
    obtain ⟨mN, rfl⟩ : ∃ k : Nat, m = (k : Int) := ⟨m.toNat, by omega⟩
    obtain ⟨nN, rfl⟩ : ∃ k : Nat, n = (k : Int) := ⟨n.toNat, by omega⟩
    simp only [Int.toNat_natCast]
    exact refTurns_some mN nN (by omega) (by omega) w

theorem refLong_calls (m n : Int) (w : World) :
    Calls Tryz.prog 106 #[.int .i64 m, .int .i64 n] w fun e w' => e = .returned (.int .i64 (Way.longI m n)) ∧ Ext w w' := by
  go_enter Tryz.func106, Tryz.ntmps106
  by_cases h0 : m < 0
  · have hr : Way.longI m n = -1 := if_pos (.inl h0)
    rw [hr]
    have d0 : decide (m < 0) = true := decide_eq_true h0
    go_wp2_with fail
    go_ret
    exact ⟨rfl, Ext.refl _⟩
  · have d0 : decide (m < 0) = false := decide_eq_false h0
    by_cases h1 : n ≤ m
    · have hr : Way.longI m n = -1 := if_pos (.inr (.inl h1))
      rw [hr]
      have d1 : decide (n ≤ m) = true := decide_eq_true h1
      go_wp2_with fail
      go_ret
      exact ⟨rfl, Ext.refl _⟩
    · have d1 : decide (n ≤ m) = false := decide_eq_false h1
      by_cases h2 : 1099511627776 < n
      · have hr : Way.longI m n = -1 := if_pos (.inr (.inr h2))
        rw [hr]
        have d2 : decide (1099511627776 < n) = true := decide_eq_true h2
        go_wp2_with fail
        go_ret
        exact ⟨rfl, Ext.refl _⟩
      · have d2 : decide (1099511627776 < n) = false := decide_eq_false h2
        have hl : 0 ≤ Way.longI m n := by unfold Way.longI; rw [if_neg (by omega)]; omega
        have ht := Way.turnsI_length m n hl
        obtain ⟨r, hr⟩ : ∃ r, r = Way.longI m n := ⟨_, rfl⟩
        rw [← hr] at ht ⊢
        have HT := Lib.hid ht
        clear hl hr ht
        go_wp2_with fail
        refine (refTurns_calls m n _).mono ?_; rintro e w1 ⟨v, rfl, hR, hE⟩
        obtain ⟨A, c, rfl⟩ := own_slice hR
        go_wp2_with fail
        go_ret
        exact ⟨by rw [← HT.out]; rfl, hE⟩

end Go.Proofs.YtcgnjdkennkheaaGreatDoor

namespace Go.Proofs.YtcgnjdkennkheaaGreatDoor
open Go.ChangeShapes Go.WideShapes Go.ChangeAt Go.RowKit
attribute [local go_sem] bs_size bs_toList2 bs_append bs_extract_end bs_extract_begin bs_get wrap64_b grow_cell grow_frozen

theorem res_cell_t {P : Program} {fn : Func} {p u : Tmp} {ty : TypeId} (h : fn.results = #[.cell p ty, .tmp u]) (tmps : Array Value) (w : World) (g : Nat) (t : TypeId) (cs : Array Value) (d : TypeDesc)
    (hp : tmps.getD p undef = .pointer (some ⟨g, 0, none⟩)) (hg : Blk w g t cs)
    (hu : P.underlying ty = some d) (hd : (match d with | .struct _ | .array _ _ => true | _ => false) = true) (hi : (P.info? ty).map (·.size) = some cs.size) :
    (results fn tmps).run P w = .ok (.tuple #[.agg cs, tmps.getD u undef]) w := by
  have hp' : tmps[p]?.getD undef = .pointer (some ⟨g, 0, none⟩) := by simpa using hp
  simp [results, h, hp', asAddr, run_loadVar_row w g t ty cs (0, 0) d hg hu hd hi]

theorem Keys.keep {S : Nat → Prop} {w w' : World} (K : Keys w) (h : Keep S w w') (hS : S 0) : Keys w' := fun i hi => (World.cell?_of_block (h.block 0 K.lt0 hS)).trans (K i hi)
/-- One turn. -/
abbrev pTurnB (h r : List UInt8) (b : Bool) : List UInt8 := if b then nodeB h r else nodeB r h
theorem pTurnB_length (h r : List UInt8) (b : Bool) : (pTurnB h r b).length = 32 := by unfold pTurnB; split <;> exact nodeB_length _ _

set_option maxHeartbeats 1000000 in
theorem foldTurn_calls (h r : List UInt8) (hh : h.length = 32) (hr : r.length = 32) (b : Bool) (g : Nat) (w : World) (KW : Keys w) (hR : ArrB w g 28 r) :
    Calls Tryz.prog 101 #[sumV h, .bool b, .pointer (some ⟨g, 0, none⟩)] w fun e w' => e = .returned (.tuple #[]) ∧ ArrB w' g 28 (pTurnB h r b) ∧ Upd g w w' := by
  have hfold := fold_sum h hh
  unfold sumV
  go_enter Tryz.func101, Tryz.ntmps101
  have hgl := Blk.lt hR
  have hR1 : ArrB (w.alloc (.cells (h.map byteV).toArray 28)) g 28 r := Blk.alloc hR _
  have hB1 : ArrB (w.alloc (.cells (h.map byteV).toArray 28)) w.heap.size 28 h := Blk.new _ _ _
  have e1 : Ext w (w.alloc (.cells (h.map byteV).toArray 28)) := (Ext.refl w).alloc _
  cases b
  · have ht : pTurnB h r false = nodeB r h := rfl
    rw [ht]
    go_wp2_with (refine stop_load 28 (.tmp 2) rfl ?_)
    refine ⟨?_⟩
    refine wpList_load_row rfl 28 (.tmp 2) rfl g (by rfl) 28 _ (0, 0) _ hR1 Tryz.underlying28 rfl (size32.trans (by simp [hr])) ?_
    simp only [Act.put, List.setIfInBounds_toArray, List.set_cons_zero, List.set_cons_succ]
    go_wp2_with (refine stop_load 28 (.tmp 3) rfl ?_)
    refine ⟨?_⟩
    refine wpList_load_row rfl 28 (.tmp 3) rfl w.heap.size (by rfl) 28 _ (0, 0) _ hB1 Tryz.underlying28 rfl (size32.trans (by simp [hh])) ?_
    simp only [Act.put, List.setIfInBounds_toArray, List.set_cons_zero, List.set_cons_succ]
    generalize w.alloc (.cells (h.map byteV).toArray 28) = w1 at *
    go_wp2_with fail
    change Calls _ _ #[sumV r, sumV h] _ _
    refine (Node_calls _ _ hr hh _ (KW.ext e1)).mono ?_; rintro e w2 ⟨rfl, e2⟩
    have hR2 := Blk.below hR1 e2 (Blk.lt hR1)
    unfold sumV
    go_wp2_with (refine stop_store 28 (.tmp 2) (.tmp 11) rfl ?_)
    refine ⟨?_⟩
    refine wpList_store_row rfl 28 (.tmp 2) (.tmp 11) rfl g ((nodeB r h).map byteV).toArray (by rfl) (by rfl) 28 _ hR2 (size32.trans (by simp [nodeB_length])) (by simp [nodeB_length, hr]) (by simp [byteV, Value.oneCell']) ?_
    simp only [Act.put, List.setIfInBounds_toArray, List.set_cons_zero, List.set_cons_succ]
    have hX : ArrB (w2.setRow g ((nodeB r h).map byteV).toArray) g 28 (nodeB r h) := Blk.row hR2 _
    have hXu : Upd g w2 (w2.setRow g ((nodeB r h).map byteV).toArray) := (Upd.refl _ _).row _
    generalize w2.setRow g ((nodeB r h).map byteV).toArray = w3 at *
    go_wp2_with fail
    go_end0
    exact ⟨rfl, hX, ((Upd.of_ext e1).ext e2).trans hXu⟩
  · have ht : pTurnB h r true = nodeB h r := rfl
    rw [ht]
    go_wp2_with (refine stop_load 28 (.tmp 3) rfl ?_)
    refine ⟨?_⟩
    refine wpList_load_row rfl 28 (.tmp 3) rfl w.heap.size (by rfl) 28 _ (0, 0) _ hB1 Tryz.underlying28 rfl (size32.trans (by simp [hh])) ?_
    simp only [Act.put, List.setIfInBounds_toArray, List.set_cons_zero, List.set_cons_succ]
    go_wp2_with (refine stop_load 28 (.tmp 2) rfl ?_)
    refine ⟨?_⟩
    refine wpList_load_row rfl 28 (.tmp 2) rfl g (by rfl) 28 _ (0, 0) _ hR1 Tryz.underlying28 rfl (size32.trans (by simp [hr])) ?_
    simp only [Act.put, List.setIfInBounds_toArray, List.set_cons_zero, List.set_cons_succ]
    generalize w.alloc (.cells (h.map byteV).toArray 28) = w1 at *
    go_wp2_with fail
    change Calls _ _ #[sumV h, sumV r] _ _
    refine (Node_calls _ _ hh hr _ (KW.ext e1)).mono ?_; rintro e w2 ⟨rfl, e2⟩
    have hR2 := Blk.below hR1 e2 (Blk.lt hR1)
    unfold sumV
    go_wp2_with (refine stop_store 28 (.tmp 2) (.tmp 8) rfl ?_)
    refine ⟨?_⟩
    refine wpList_store_row rfl 28 (.tmp 2) (.tmp 8) rfl g ((nodeB h r).map byteV).toArray (by rfl) (by rfl) 28 _ hR2 (size32.trans (by simp [nodeB_length])) (by simp [nodeB_length, hr]) (by simp [byteV, Value.oneCell']) ?_
    simp only [Act.put, List.setIfInBounds_toArray, List.set_cons_zero, List.set_cons_succ]
    have hX : ArrB (w2.setRow g ((nodeB h r).map byteV).toArray) g 28 (nodeB h r) := Blk.row hR2 _
    have hXu : Upd g w2 (w2.setRow g ((nodeB h r).map byteV).toArray) := (Upd.refl _ _).row _
    generalize w2.setRow g ((nodeB h r).map byteV).toArray = w3 at *
    go_wp2_with fail
    go_end0
    exact ⟨rfl, hX, ((Upd.of_ext e1).ext e2).trans hXu⟩

/-- What proof.Fold tells. -/
def foldP (r : List UInt8) (m n : Int) (l : List (List UInt8)) : List UInt8 × Bool := if Way.longI m n = (l.length : Int) then (Way.foldW nodeB r (Way.turnsI m n) l, true) else (zerosB 32, false)
theorem foldW_length : ∀ (ts : List Bool) (hs : List (List UInt8)) (x : List UInt8), x.length = 32 → (Way.foldW nodeB x ts hs).length = 32
  | [], hs, x, h => by rw [Way.foldW_nil]; exact h
  | t :: ts, [], x, h => h
  | t :: ts, h :: hs, x, hx => by
    rw [Way.foldW_cons]
    exact foldW_length ts hs _ (by split <;> exact nodeB_length _ _)
theorem foldW_take (r : List UInt8) (T : List Bool) (l : List (List UInt8)) (k : Nat) (h1 : k < T.length) (h2 : k < l.length) : Way.foldW nodeB r (T.take (k + 1)) (l.take (k + 1)) = pTurnB l[k] (Way.foldW nodeB r (T.take k) (l.take k)) T[k] := by
  rw [List.take_succ_eq_append_getElem h1, List.take_succ_eq_append_getElem h2, Way.foldW_snoc nodeB _ _ _ _ _ (by rw [List.length_take, List.length_take]; omega)]
theorem foldP_length (r : List UInt8) (hr : r.length = 32) (m n : Int) (l : List (List UInt8)) : (foldP r m n l).1.length = 32 := by
  unfold foldP
  split
  · exact foldW_length _ _ _ hr
  · simp [zerosB]

set_option maxHeartbeats 2000000 in
theorem Fold_some (r : List UInt8) (hr : r.length = 32) (m n : Int) (hn63 : n ≤ 9223372036854775807) (A : Option Addr) (cap : Nat) (l : List (List UInt8)) (hl : AllH l) (hll : l.length ≤ 1000000) (w : World) (KW : Keys w) (hrd : Rd w w.heap.size A (flatS l))
    (hlg : Way.longI m n = (l.length : Int)) : Calls Tryz.prog 87 #[sumV r, .int .i64 m, .int .i64 n, .slice A l.length cap] w fun e w' => e = .returned (.tuple #[sumV (Way.foldW nodeB r (Way.turnsI m n) l), .bool true]) ∧ Ext w w' := by
  obtain ⟨y, hy⟩ : ∃ y, y = Way.foldW nodeB r (Way.turnsI m n) l := ⟨_, rfl⟩
  rw [← hy]
  have hTl : (Way.turnsI m n).length = l.length := by have := Way.turnsI_length m n (by omega); omega
  obtain ⟨T, hT⟩ : ∃ T, T = Way.turnsI m n := ⟨_, rfl⟩
  rw [← hT] at hy hTl
  have Hy := Lib.hid hy
  have HT := Lib.hid hT
  clear hT hy
  have hfold := fold_sum r hr
  unfold sumV
  go_enter Tryz.func87, Tryz.ntmps87
  go_wp2_with fail
  have hX0 : ArrB ((w.alloc (.cells (r.map byteV).toArray 28)).alloc (.cells ((zerosB 32).map byteV).toArray 28)) w.heap.size 28 r := Blk.alloc (Blk.new _ _ _) _
  have hZ0 : ArrB ((w.alloc (.cells (r.map byteV).toArray 28)).alloc (.cells ((zerosB 32).map byteV).toArray 28)) (w.heap.size + 1) 28 (zerosB 32) := by
    have := Blk.new (w.alloc (.cells (r.map byteV).toArray 28)) 28 ((zerosB 32).map byteV).toArray
    rw [alloc_size] at this
    exact this
  have hE0 : Ext w ((w.alloc (.cells (r.map byteV).toArray 28)).alloc (.cells ((zerosB 32).map byteV).toArray 28)) := ((Ext.refl w).alloc _).alloc _
  change Calls _ _ _ ((w.alloc (.cells (r.map byteV).toArray 28)).alloc (.cells ((zerosB 32).map byteV).toArray 28)) _
  generalize (w.alloc (.cells (r.map byteV).toArray 28)).alloc (.cells ((zerosB 32).map byteV).toArray 28) = w1 at *
  refine (pLong_calls m n hn63 _).mono ?_; rintro e w2 ⟨rfl, e2⟩
  have hX2 := Blk.below hX0 e2 (Blk.lt hX0)
  have hZ2 := Blk.below hZ0 e2 (Blk.lt hZ0)
  have hE2 := hE0.trans e2
  have hxl := Blk.lt hX0
  have hzl := Blk.lt hZ0
  have hs1 := hE0.size
  have hs2 := e2.size
  clear hX0 hZ0 hE0 e2
  rw [hlg]
  go_wp2_with fail
  refine (Turns_calls m n hn63 _).mono ?_; rintro e w3 ⟨v, rfl, hO, e3⟩
  rw [← HT.out] at hO
  obtain ⟨B, c, rfl, hrdT, -, -, hBb⟩ := own_rd hO
  have hX3 := Blk.below hX2 e3 (Blk.lt hX2)
  have hZ3 := Blk.below hZ2 e3 (Blk.lt hZ2)
  have hE3 := hE2.trans e3
  have hs3 := e3.size
  have K3 := KW.ext hE3
  have h0l := KW.lt0
  clear hX2 hZ2 hE2 e3 hO
  go_wp2_with fail
  go_loopw [11, 12, 25] (fun _ _ s25 wr => ∃ k : Nat, k ≤ l.length ∧ s25 = .int .i64 (k : Int) ∧ ArrB wr w.heap.size 28 (Way.foldW nodeB r (T.take k) (l.take k)) ∧ Keep (fun k => k < w3.heap.size ∧ k ≠ w.heap.size) w3 wr) (fun _ _ s25 _ => l.length - (intOf s25).toNat)
  case atStart => exact ⟨0, Nat.zero_le _, rfl, by rw [List.take_zero, Way.foldW_nil]; exact hX3, Keep.refl _ _⟩
  case round =>
    obtain ⟨wo, rfl⟩ : ∃ wo : World, wo = wr := ⟨_, rfl⟩
    obtain ⟨k, hk, rfl, hX, hKp⟩ := hrel
    by_cases hlt : k < l.length
    · have hlI : (k : Int) < (l.length : Int) := by omega
      have hltT : k < T.length := by omega
      obtain ⟨bT, oT, rfl, hbT, hcT⟩ := hrdT (map_ne Value.bool hltT)
      have hbb := hBb bT oT rfl
      have cT : wo.cell? ⟨bT, oT + k, none⟩ = some (.bool T[k]) := (World.cell?_of_block (hKp.block bT hbT ⟨hbT, by omega⟩)).trans (hcT k (.bool T[k]) (by simp [hltT]))
      obtain ⟨b, off, rfl, hbl, hm0⟩ := rds_mid hrd hl hlt
      have hm : wo.rangeAt b (off + k * 32) (hcells l[k]) := fun i u hu => (World.cell?_of_block ((hKp.block b (by omega) ⟨by omega, by omega⟩).trans (hE3.block b hbl))).trans (hm0 i u hu)
      have hq : l[k].length = 32 := hl _ (List.getElem_mem hlt)
      have HS := Lib.hid (foldW_take r T l k hltT hlt)
      have hfl := foldW_length (T.take k) (l.take k) r hr
      have Ko : Keys wo := K3.keep hKp ⟨by omega, by omega⟩
      generalize l[k] = q at *
      generalize T[k] = tk at *
      generalize Way.foldW nodeB r (T.take k) (l.take k) = x at *
      clear hm0 hcT
      go_wp2_with (refine stop_load 28 (.tmp 33) rfl ?_)
      refine ⟨?_⟩
      refine wpList_load_mid rfl 28 (.tmp 33) rfl b (off + k * 32) (by rfl) (hcells q) _ hm Tryz.underlying28 rfl (size32l _ hq) ?_
      simp only [Act.put, List.setIfInBounds_toArray, List.set_cons_zero, List.set_cons_succ]
      unfold hcells
      go_wp2_with fail
      change Calls _ _ #[sumV q, _, _] _ _
      refine (foldTurn_calls q x hq hfl tk w.heap.size _ Ko hX).mono ?_; rintro e w5 ⟨rfl, hX5, hU⟩
      have hK5 : Keep (fun k => k < w3.heap.size ∧ k ≠ w.heap.size) w3 w5 := hKp.trans (.of_upd hU (fun h => h.2 rfl))
      rw [← HS.out] at hX5
      clear hX hKp hm cT
      go_wp2_with fail
      go_roundw
      case rel =>
        first
          | exact ⟨k + 1, by omega, by go_num, hX5, hK5⟩
          | (repeat apply Exists.intro
             refine ⟨?_, rfl⟩
             exact ⟨k + 1, by omega, by go_num, hX5, hK5⟩)
      case measure => simp [intOf]; omega
    · obtain rfl : k = l.length := by omega
      have hX' : ArrB wo w.heap.size 28 y := by
        rw [Hy.out]
        have := hX
        rw [List.take_length, ← hTl, List.take_length] at this
        exact this
      have hyl : y.length = 32 := by rw [Hy.out]; exact foldW_length _ _ _ hr
      have hZ4 : ArrB wo (w.heap.size + 1) 28 (zerosB 32) := Blk.kept hZ3 hKp ⟨by omega, by omega⟩
      have hk4 : Keep (fun k => k < w.heap.size) w wo := (Keep.of_ext hE3).trans (hKp.mono (fun k _ h => ⟨by omega, by omega⟩))
      clear hX hKp
      go_wp2_with (refine stop_load 28 (.tmp 4) rfl ?_)
      refine ⟨?_⟩
      refine wpList_load_row rfl 28 (.tmp 4) rfl w.heap.size (by rfl) 28 _ (0, 0) _ hX' Tryz.underlying28 rfl (size32.trans (by simp [hyl])) ?_
      simp only [Act.put, List.setIfInBounds_toArray, List.set_cons_zero, List.set_cons_succ]
      have hzz : (zerosB 32).length = 32 := rfl
      go_wp2_with (refine stop_store 28 (.tmp 8) (.tmp 38) rfl ?_)
      refine ⟨?_⟩
      refine wpList_store_row rfl 28 (.tmp 8) (.tmp 38) rfl (w.heap.size + 1) ((y).map byteV).toArray (by rfl) (by rfl) 28 _ hZ4 (size32.trans (by simp [hyl])) (by simp [hyl, hzz]) (by simp [byteV, Value.oneCell']) ?_
      simp only [Act.put, List.setIfInBounds_toArray, List.set_cons_zero, List.set_cons_succ]
      have hR6 : ArrB (wo.setRow (w.heap.size + 1) ((y).map byteV).toArray) (w.heap.size + 1) 28 (y) := Blk.row hZ4 _
      have hR6u : Upd (w.heap.size + 1) wo (wo.setRow (w.heap.size + 1) ((y).map byteV).toArray) := (Upd.refl _ _).row _
      generalize wo.setRow (w.heap.size + 1) ((y).map byteV).toArray = w6 at *
      go_wp2_with fail
      have hk6 : Keep (fun k => k < w.heap.size) w w6 := hk4.trans (Keep.of_upd hR6u (fun h => absurd h (by omega)))
      (try simp only [Exit.inBlock, Exit.then]); refine bodyPost_ret (res_cell_t rfl _ _ (w.heap.size + 1) 28 _ _ rfl hR6 Tryz.underlying28 rfl (size32.trans (by simp [hyl]))) rfl ?_
      exact ⟨rfl, hk6.ext⟩

set_option maxHeartbeats 2000000 in
theorem Fold_none (r : List UInt8) (hr : r.length = 32) (m n : Int) (hn63 : n ≤ 9223372036854775807) (A : Option Addr) (cap : Nat) (l : List (List UInt8)) (hl : AllH l) (hll : l.length ≤ 1000000) (w : World) (KW : Keys w) (hrd : Rd w w.heap.size A (flatS l))
    (hlg : Way.longI m n ≠ (l.length : Int)) : Calls Tryz.prog 87 #[sumV r, .int .i64 m, .int .i64 n, .slice A l.length cap] w fun e w' => e = .returned (.tuple #[sumV (zerosB 32), .bool false]) ∧ Ext w w' := by
  have hfold := fold_sum r hr
  unfold sumV
  go_enter Tryz.func87, Tryz.ntmps87
  go_wp2_with fail
  have hX0 : ArrB ((w.alloc (.cells (r.map byteV).toArray 28)).alloc (.cells ((zerosB 32).map byteV).toArray 28)) w.heap.size 28 r := Blk.alloc (Blk.new _ _ _) _
  have hZ0 : ArrB ((w.alloc (.cells (r.map byteV).toArray 28)).alloc (.cells ((zerosB 32).map byteV).toArray 28)) (w.heap.size + 1) 28 (zerosB 32) := by
    have := Blk.new (w.alloc (.cells (r.map byteV).toArray 28)) 28 ((zerosB 32).map byteV).toArray
    rw [alloc_size] at this
    exact this
  have hE0 : Ext w ((w.alloc (.cells (r.map byteV).toArray 28)).alloc (.cells ((zerosB 32).map byteV).toArray 28)) := ((Ext.refl w).alloc _).alloc _
  change Calls _ _ _ ((w.alloc (.cells (r.map byteV).toArray 28)).alloc (.cells ((zerosB 32).map byteV).toArray 28)) _
  generalize (w.alloc (.cells (r.map byteV).toArray 28)).alloc (.cells ((zerosB 32).map byteV).toArray 28) = w1 at *
  refine (pLong_calls m n hn63 _).mono ?_; rintro e w2 ⟨rfl, e2⟩
  have hX2 := Blk.below hX0 e2 (Blk.lt hX0)
  have hZ2 := Blk.below hZ0 e2 (Blk.lt hZ0)
  have hE2 := hE0.trans e2
  have hxl := Blk.lt hX0
  have hzl := Blk.lt hZ0
  have hs1 := hE0.size
  have hs2 := e2.size
  clear hX0 hZ0 hE0 e2
  have dl : (Way.longI m n != (l.length : Int)) = true := by simpa using hlg
  generalize Way.longI m n = L at *
  have hzz : (zerosB 32).length = 32 := rfl
  go_wp2_with (refine stop_store 28 (.tmp 8) (.tmp 19) rfl ?_)
  refine ⟨?_⟩
  refine wpList_store_row rfl 28 (.tmp 8) (.tmp 19) rfl (w.heap.size + 1) ((zerosB 32).map byteV).toArray (by rfl) (by rfl) 28 _ hZ2 (size32.trans (by simp [hzz])) (by simp [hzz, hzz]) (by simp [byteV, Value.oneCell']) ?_
  simp only [Act.put, List.setIfInBounds_toArray, List.set_cons_zero, List.set_cons_succ]
  have hR6 : ArrB (w2.setRow (w.heap.size + 1) ((zerosB 32).map byteV).toArray) (w.heap.size + 1) 28 (zerosB 32) := Blk.row hZ2 _
  have hR6u : Upd (w.heap.size + 1) w2 (w2.setRow (w.heap.size + 1) ((zerosB 32).map byteV).toArray) := (Upd.refl _ _).row _
  generalize w2.setRow (w.heap.size + 1) ((zerosB 32).map byteV).toArray = w6 at *
  go_wp2_with fail
  (try simp only [Exit.inBlock, Exit.then]); refine bodyPost_ret (res_cell_t rfl _ _ (w.heap.size + 1) 28 _ _ rfl hR6 Tryz.underlying28 rfl (size32.trans (by simp [hzz]))) rfl ?_
  have hk6 : Keep (fun k => k < w.heap.size) w w6 := (Keep.of_ext hE2).trans (Keep.of_upd hR6u (fun h => absurd h (by omega)))
  exact ⟨rfl, hk6.ext⟩

theorem Fold_calls (r : List UInt8) (hr : r.length = 32) (m n : Int) (hn63 : n ≤ 9223372036854775807) (A : Option Addr) (cap : Nat) (l : List (List UInt8)) (hl : AllH l) (hll : l.length ≤ 1000000) (w : World) (KW : Keys w) (hrd : Rd w w.heap.size A (flatS l)) :
    Calls Tryz.prog 87 #[sumV r, .int .i64 m, .int .i64 n, .slice A l.length cap] w fun e w' => e = .returned (.tuple #[sumV (foldP r m n l).1, .bool (foldP r m n l).2]) ∧ Ext w w' := by
  by_cases hlg : Way.longI m n = (l.length : Int)
  · rw [show foldP r m n l = _ from if_pos hlg]
    exact Fold_some r hr m n hn63 A cap l hl hll w KW hrd hlg
  · rw [show foldP r m n l = _ from if_neg hlg]
    exact Fold_none r hr m n hn63 A cap l hl hll w KW hrd hlg

end Go.Proofs.YtcgnjdkennkheaaGreatDoor

namespace Go.Proofs.YtcgnjdkennkheaaGreatDoor
open Go.ChangeShapes Go.WideShapes Go.ChangeAt Go.RowKit
attribute [local go_sem] bs_size bs_toList2 bs_append bs_extract_end bs_extract_begin bs_get wrap64_b grow_cell grow_frozen

theorem list_want {P : Program} {ops : Array Oper} {Q : Exit → Act → World → Prop} {a : Act} {w : World} {rest : List Oper} {o : Oper} (hw : Region.wanted o (yielded ops a.tmps) = true)
    (h : ∀ K : Act → World → Prop, (∀ a w, wpList P ops Q rest a w → K a w) → o.wp P a w K Q) : wpList P ops Q (o :: rest) a w := wpList_step fun K hK => by rw [if_pos hw]; exact h K hK

/-- What proof.Right tells. -/
def rightB (root leaf : List UInt8) (m n : Int) (l : List (List UInt8)) : Bool := (foldP leaf m n l).2 && decide ((foldP leaf m n l).1 = root)

set_option maxHeartbeats 1000000 in
theorem Right_calls (root leaf : List UInt8) (hr : root.length = 32) (hf : leaf.length = 32) (m n : Int) (hn63 : n ≤ 9223372036854775807) (A : Option Addr) (cap : Nat) (l : List (List UInt8)) (hl : AllH l) (hll : l.length ≤ 1000000) (w : World) (KW : Keys w) (hrd : Rd w w.heap.size A (flatS l)) :
    Calls Tryz.prog 45 #[sumV root, sumV leaf, .int .i64 m, .int .i64 n, .slice A l.length cap] w fun e w' => e = .returned (.bool (rightB root leaf m n l)) ∧ Ext w w' := by
  unfold rightB
  have hpl := foldP_length leaf hf m n l
  obtain ⟨p, hp⟩ : ∃ p, p = foldP leaf m n l := ⟨_, rfl⟩
  rw [← hp] at hpl ⊢
  have Hp := Lib.hid hp
  clear hp
  obtain ⟨y, ok⟩ := p
  have hfoldr := fold_sum root hr
  have hfoldf := fold_sum leaf hf
  have hgw := guard_sum
  have heq1 := fun w : World => eq_sum y root hpl hr w
  unfold sumV
  go_enter Tryz.func45, Tryz.ntmps45
  have hX0 : ArrB ((w.alloc (.cells (root.map byteV).toArray 28)).alloc (.cells (leaf.map byteV).toArray 28)) w.heap.size 28 root := Blk.alloc (Blk.new _ _ _) _
  have hL0 : ArrB ((w.alloc (.cells (root.map byteV).toArray 28)).alloc (.cells (leaf.map byteV).toArray 28)) (w.heap.size + 1) 28 leaf := by
    have := Blk.new (w.alloc (.cells (root.map byteV).toArray 28)) 28 (leaf.map byteV).toArray
    rw [alloc_size] at this
    exact this
  have hE0 : Ext w ((w.alloc (.cells (root.map byteV).toArray 28)).alloc (.cells (leaf.map byteV).toArray 28)) := ((Ext.refl w).alloc _).alloc _
  go_wp2_with (refine stop_load 28 (.tmp 6) rfl ?_)
  refine ⟨?_⟩
  refine wpList_load_row rfl 28 (.tmp 6) rfl (w.heap.size + 1) (by rfl) 28 _ (0, 0) _ hL0 Tryz.underlying28 rfl (size32.trans (by simp [hf])) ?_
  simp only [Act.put, List.setIfInBounds_toArray, List.set_cons_zero, List.set_cons_succ]
  generalize (w.alloc (.cells (root.map byteV).toArray 28)).alloc (.cells (leaf.map byteV).toArray 28) = w1 at *
  go_wp2_with fail
  change Calls _ _ #[sumV leaf, _, _, _] _ _
  refine (Fold_calls leaf hf m n hn63 A cap l hl hll _ (KW.ext hE0) ((hrd.below hE0 (Nat.le_refl _)).more hE0.size)).mono ?_; rw [← Hp.out]; rintro e w2 ⟨rfl, e2⟩
  have hX2 := Blk.below hX0 e2 (Blk.lt hX0)
  have hE2 := hE0.trans e2
  clear hX0 hL0 hE0 e2
  unfold sumV
  go_wp2_with (refine stop_store 28 (.tmp 11) (.tmp 19) rfl ?_)
  refine ⟨?_⟩
  change wpList _ _ _ _ _ (w2.alloc (.cells ((zerosB 32).map byteV).toArray 28))
  have hY0 : ArrB (w2.alloc (.cells ((zerosB 32).map byteV).toArray 28)) w2.heap.size 28 (zerosB 32) := Blk.new _ _ _
  refine wpList_store_row rfl 28 (.tmp 11) (.tmp 19) rfl w2.heap.size ((y).map byteV).toArray (by rfl) (by rfl) 28 _ hY0 (size32.trans (by simp [hpl])) (by simp [hpl, zerosB]) (by simp [byteV, Value.oneCell']) ?_
  simp only [Act.put, List.setIfInBounds_toArray, List.set_cons_zero, List.set_cons_succ]
  have hY : ArrB ((w2.alloc (.cells ((zerosB 32).map byteV).toArray 28)).setRow w2.heap.size ((y).map byteV).toArray) w2.heap.size 28 (y) := Blk.row hY0 _
  have e3 : Ext w2 ((w2.alloc (.cells ((zerosB 32).map byteV).toArray 28)).setRow w2.heap.size ((y).map byteV).toArray) := ((Ext.refl w2).alloc _).row (Nat.le_refl _) _
  clear hY0
  generalize (w2.alloc (.cells ((zerosB 32).map byteV).toArray 28)).setRow w2.heap.size ((y).map byteV).toArray = w3 at *
  have hX3 := Blk.below hX2 e3 (Blk.lt hX2)
  have hE3 := hE2.trans e3
  have hyl := hE2.size
  clear hX2 hE2 e3
  generalize w2.heap.size = gy at *
  cases ok
  · go_wp2_with fail
    go_ret
    exact ⟨rfl, hE3⟩
  · skip
    go_wp2_with (refine stop_load 28 (.tmp 11) rfl ?_)
    refine ⟨?_⟩
    refine list_want (by rfl) (fun K hK => ?_)
    refine wp_load_row 28 (.tmp 11) rfl gy (by rfl) 28 _ (0, 0) _ hY Tryz.underlying28 rfl (size32.trans (by simp [hpl])) ?_
    refine hK _ _ ?_; clear hK K
    simp only [Act.put, List.setIfInBounds_toArray, List.set_cons_zero, List.set_cons_succ]
    go_wp2_with (refine stop_load 28 (.tmp 5) rfl ?_)
    refine ⟨?_⟩
    refine list_want (by rfl) (fun K hK => ?_)
    refine wp_load_row 28 (.tmp 5) rfl w.heap.size (by rfl) 28 _ (0, 0) _ hX3 Tryz.underlying28 rfl (size32.trans (by simp [hr])) ?_
    refine hK _ _ ?_; clear hK K
    simp only [Act.put, List.setIfInBounds_toArray, List.set_cons_zero, List.set_cons_succ]
    go_wp2_with fail
    go_ret
    exact ⟨by simp, hE3⟩

end Go.Proofs.YtcgnjdkennkheaaGreatDoor

namespace Go.Proofs.YtcgnjdkennkheaaGreatDoor
open Go.ChangeShapes Go.WideShapes Go.ChangeAt Go.RowKit
attribute [local go_sem] bs_size bs_toList2 bs_append bs_extract_end bs_extract_begin bs_get wrap64_b grow_cell grow_frozen

theorem turnB_false (h r : List UInt8) : pTurnB h r false = nodeB r h := rfl
theorem turnB_true (h r : List UInt8) : pTurnB h r true = nodeB h r := rfl

set_option maxHeartbeats 2000000 in
theorem refFold_some (r : List UInt8) (hr : r.length = 32) (m n : Int) (A : Option Addr) (cap : Nat) (l : List (List UInt8)) (hl : AllH l) (hll : l.length ≤ 1000000) (w : World) (hrd : Rd w w.heap.size A (flatS l))
    (hlg : Way.longI m n = (l.length : Int)) : Calls Tryz.prog 90 #[sumV r, .int .i64 m, .int .i64 n, .slice A l.length cap] w fun e w' => e = .returned (.tuple #[sumV (Way.foldW nodeB r (Way.turnsI m n) l), .bool true]) ∧ Ext w w' := by
  obtain ⟨y, hy⟩ : ∃ y, y = Way.foldW nodeB r (Way.turnsI m n) l := ⟨_, rfl⟩
  rw [← hy]
  have hTl : (Way.turnsI m n).length = l.length := by have := Way.turnsI_length m n (by omega); omega
  obtain ⟨T, hT⟩ : ∃ T, T = Way.turnsI m n := ⟨_, rfl⟩
  rw [← hT] at hy hTl
  have Hy := Lib.hid hy
  have HT := Lib.hid hT
  clear hT hy
  have hfold := fold_sum r hr
  unfold sumV
  go_enter Tryz.func90, Tryz.ntmps90
  go_wp2_with fail
  have hX0 : ArrB ((w.alloc (.cells (r.map byteV).toArray 28)).alloc (.cells ((zerosB 32).map byteV).toArray 28)) w.heap.size 28 r := Blk.alloc (Blk.new _ _ _) _
  have hZ0 : ArrB ((w.alloc (.cells (r.map byteV).toArray 28)).alloc (.cells ((zerosB 32).map byteV).toArray 28)) (w.heap.size + 1) 28 (zerosB 32) := by
    have := Blk.new (w.alloc (.cells (r.map byteV).toArray 28)) 28 ((zerosB 32).map byteV).toArray
    rw [alloc_size] at this
    exact this
  have hE0 : Ext w ((w.alloc (.cells (r.map byteV).toArray 28)).alloc (.cells ((zerosB 32).map byteV).toArray 28)) := ((Ext.refl w).alloc _).alloc _
  change Calls _ _ _ ((w.alloc (.cells (r.map byteV).toArray 28)).alloc (.cells ((zerosB 32).map byteV).toArray 28)) _
  generalize (w.alloc (.cells (r.map byteV).toArray 28)).alloc (.cells ((zerosB 32).map byteV).toArray 28) = w1 at *
  refine (refLong_calls m n _).mono ?_; rintro e w2 ⟨rfl, e2⟩
  have hX2 := Blk.below hX0 e2 (Blk.lt hX0)
  have hZ2 := Blk.below hZ0 e2 (Blk.lt hZ0)
  have hE2 := hE0.trans e2
  have hxl := Blk.lt hX0
  have hzl := Blk.lt hZ0
  have hs1 := hE0.size
  have hs2 := e2.size
  clear hX0 hZ0 hE0 e2
  rw [hlg]
  go_wp2_with fail
  refine (refTurns_calls m n _).mono ?_; rintro e w3 ⟨v, rfl, hO, e3⟩
  rw [← HT.out] at hO
  obtain ⟨B, c, rfl, hrdT, -, -, hBb⟩ := own_rd hO
  have hX3 := Blk.below hX2 e3 (Blk.lt hX2)
  have hZ3 := Blk.below hZ2 e3 (Blk.lt hZ2)
  have hE3 := hE2.trans e3
  have hs3 := e3.size
  clear hX2 hZ2 hE2 e3 hO
  go_wp2_with fail
  go_loopw [11] (fun s11 wr => ∃ k : Nat, k ≤ l.length ∧ s11 = .int .i64 (k : Int) ∧ ArrB wr w.heap.size 28 (Way.foldW nodeB r (T.take k) (l.take k)) ∧ Keep (fun k => k < w3.heap.size ∧ k ≠ w.heap.size) w3 wr) (fun s11 _ => l.length - (intOf s11).toNat)
  case atStart => exact ⟨0, Nat.zero_le _, rfl, by rw [List.take_zero, Way.foldW_nil]; exact hX3, Keep.refl _ _⟩
  case round =>
    obtain ⟨wo, rfl⟩ : ∃ wo : World, wo = wr := ⟨_, rfl⟩
    obtain ⟨k, hk, rfl, hX, hKp⟩ := hrel
    by_cases hlt : k < l.length
    · have hlI : (k : Int) < (l.length : Int) := by omega
      have hltT : k < T.length := by omega
      obtain ⟨bT, oT, rfl, hbT, hcT⟩ := hrdT (map_ne Value.bool hltT)
      have hbb := hBb bT oT rfl
      have cT : wo.cell? ⟨bT, oT + k, none⟩ = some (.bool T[k]) := (World.cell?_of_block (hKp.block bT hbT ⟨hbT, by omega⟩)).trans (hcT k (.bool T[k]) (by simp [hltT]))
      obtain ⟨b, off, rfl, hbl, hm0⟩ := rds_mid hrd hl hlt
      have hm : wo.rangeAt b (off + k * 32) (hcells l[k]) := fun i u hu => (World.cell?_of_block ((hKp.block b (by omega) ⟨by omega, by omega⟩).trans (hE3.block b hbl))).trans (hm0 i u hu)
      have hbo : b < wo.heap.size := by have := hKp.size; omega
      have hq : l[k].length = 32 := hl _ (List.getElem_mem hlt)
      have hS := foldW_take r T l k hltT hlt
      have hfl := foldW_length (T.take k) (l.take k) r hr
      generalize l[k] = q at *
      generalize T[k] = tk at *
      generalize Way.foldW nodeB r (T.take k) (l.take k) = z at *
      clear hm0 hcT
      cases tk
      · rw [turnB_false] at hS
        have HS := Lib.hid hS
        clear hS
        go_wp2_with fail
        refine region_mix 6 (by kernel_rfl) (by kernel_rfl) (fun x => ?_); simp only [List.take_succ_cons, List.take_zero, List.drop_succ_cons, List.drop_zero]
        refine mix_row (by rfl) (by rfl) 28 (.tmp 4) rfl w.heap.size (by rfl) 28 _ _ hX Tryz.underlying28 rfl (size32.trans (by simp [hfl])) ?_
        simp only [Act.put, List.setIfInBounds_toArray, List.set_cons_zero, List.set_cons_succ]
        iterate 3 (first | (refine mix_quiet (by rfl) (by rfl) (fun K hK => ?_); go_big_quiet_op; refine hK _ ?_; clear hK K) | (refine mix_skip (by rfl) ?_; simp only [Act.put, List.setIfInBounds_toArray, List.set_cons_zero, List.set_cons_succ]))
        refine mix_mid (by rfl) (by rfl) 28 (.tmp 41) rfl b (off + k * 32) (by rfl) _ _ hm hbo Tryz.underlying28 rfl (size32l _ hq) ?_
        simp only [Act.put, List.setIfInBounds_toArray, List.set_cons_zero, List.set_cons_succ]
        (refine mix_loud (by rfl) (by rfl) (fun K E hK => ?_); go_big_op)
        change Calls _ _ #[sumV z, sumV q] _ _
        refine (refNode_calls z q hfl hq _).mono ?_; rintro e w5 ⟨rfl, hd⟩
        obtain ⟨x', rfl⟩ := more_ext _ hd; clear hd
        refine hK _ _ ⟨_, rfl⟩ ?_; clear hK K E
        refine mix_nil ?_
        have hX5 := Blk.below hX (grow_ext x') (Blk.lt hX)
        have hK5 := hKp.trans (Keep.of_ext (S := fun k => k < w3.heap.size ∧ k ≠ w.heap.size) (grow_ext x'))
        clear hX hKp hm cT
        generalize grow wo x' = w5 at *
        unfold sumV
        refine wpList_store_row rfl 28 (.tmp 4) (.tmp 43) rfl w.heap.size _ (by rfl) (by rfl) 28 _ hX5 (size32.trans (by simp [nodeB_length])) (by simp [hfl, nodeB_length]) (by simp [byteV, Value.oneCell']) ?_
        have hX6 : ArrB (w5.setRow w.heap.size ((nodeB z q).map byteV).toArray) w.heap.size 28 (nodeB z q) := Blk.row hX5 _
        have hK6 : Keep (fun k => k < w3.heap.size ∧ k ≠ w.heap.size) w3 (w5.setRow w.heap.size ((nodeB z q).map byteV).toArray) := hK5.trans (.of_upd ((Upd.refl w.heap.size w5).row _) (fun h => h.2 rfl))
        generalize w5.setRow w.heap.size ((nodeB z q).map byteV).toArray = w6 at *
        clear hX5 hK5
        rw [← HS.out] at hX6
        simp only [Act.put, List.setIfInBounds_toArray, List.set_cons_zero, List.set_cons_succ]
        go_wp2_with fail
        go_roundw
        case rel =>
          first
            | exact ⟨k + 1, by omega, by go_num, hX6, hK6⟩
            | (repeat apply Exists.intro
               refine ⟨?_, rfl⟩
               exact ⟨k + 1, by omega, by go_num, hX6, hK6⟩)
        case measure => simp [intOf]; omega
      · rw [turnB_true] at hS
        have HS := Lib.hid hS
        clear hS
        go_wp2_with fail
        refine region_mix 6 (by kernel_rfl) (by kernel_rfl) (fun x => ?_); simp only [List.take_succ_cons, List.take_zero, List.drop_succ_cons, List.drop_zero]
        iterate 3 (first | (refine mix_quiet (by rfl) (by rfl) (fun K hK => ?_); go_big_quiet_op; refine hK _ ?_; clear hK K) | (refine mix_skip (by rfl) ?_; simp only [Act.put, List.setIfInBounds_toArray, List.set_cons_zero, List.set_cons_succ]))
        refine mix_mid (by rfl) (by rfl) 28 (.tmp 34) rfl b (off + k * 32) (by rfl) _ _ hm hbo Tryz.underlying28 rfl (size32l _ hq) ?_
        simp only [Act.put, List.setIfInBounds_toArray, List.set_cons_zero, List.set_cons_succ]
        refine mix_row (by rfl) (by rfl) 28 (.tmp 4) rfl w.heap.size (by rfl) 28 _ _ hX Tryz.underlying28 rfl (size32.trans (by simp [hfl])) ?_
        simp only [Act.put, List.setIfInBounds_toArray, List.set_cons_zero, List.set_cons_succ]
        (refine mix_loud (by rfl) (by rfl) (fun K E hK => ?_); go_big_op)
        change Calls _ _ #[sumV q, sumV z] _ _
        refine (refNode_calls q z hq hfl _).mono ?_; rintro e w5 ⟨rfl, hd⟩
        obtain ⟨x', rfl⟩ := more_ext _ hd; clear hd
        refine hK _ _ ⟨_, rfl⟩ ?_; clear hK K E
        refine mix_nil ?_
        have hX5 := Blk.below hX (grow_ext x') (Blk.lt hX)
        have hK5 := hKp.trans (Keep.of_ext (S := fun k => k < w3.heap.size ∧ k ≠ w.heap.size) (grow_ext x'))
        clear hX hKp hm cT
        generalize grow wo x' = w5 at *
        unfold sumV
        refine wpList_store_row rfl 28 (.tmp 4) (.tmp 37) rfl w.heap.size _ (by rfl) (by rfl) 28 _ hX5 (size32.trans (by simp [nodeB_length])) (by simp [hfl, nodeB_length]) (by simp [byteV, Value.oneCell']) ?_
        have hX6 : ArrB (w5.setRow w.heap.size ((nodeB q z).map byteV).toArray) w.heap.size 28 (nodeB q z) := Blk.row hX5 _
        have hK6 : Keep (fun k => k < w3.heap.size ∧ k ≠ w.heap.size) w3 (w5.setRow w.heap.size ((nodeB q z).map byteV).toArray) := hK5.trans (.of_upd ((Upd.refl w.heap.size w5).row _) (fun h => h.2 rfl))
        generalize w5.setRow w.heap.size ((nodeB q z).map byteV).toArray = w6 at *
        clear hX5 hK5
        rw [← HS.out] at hX6
        simp only [Act.put, List.setIfInBounds_toArray, List.set_cons_zero, List.set_cons_succ]
        go_wp2_with fail
        go_roundw
        case rel =>
          first
            | exact ⟨k + 1, by omega, by go_num, hX6, hK6⟩
            | (repeat apply Exists.intro
               refine ⟨?_, rfl⟩
               exact ⟨k + 1, by omega, by go_num, hX6, hK6⟩)
        case measure => simp [intOf]; omega
    · obtain rfl : k = l.length := by omega
      have hX' : ArrB wo w.heap.size 28 y := by
        rw [Hy.out]
        have := hX
        rw [List.take_length, ← hTl, List.take_length] at this
        exact this
      have hyl : y.length = 32 := by rw [Hy.out]; exact foldW_length _ _ _ hr
      have hZ4 : ArrB wo (w.heap.size + 1) 28 (zerosB 32) := Blk.kept hZ3 hKp ⟨by omega, by omega⟩
      have hk4 : Keep (fun k => k < w.heap.size) w wo := (Keep.of_ext hE3).trans (hKp.mono (fun k _ h => ⟨by omega, by omega⟩))
      clear hX hKp
      go_wp2_with (refine stop_load 28 (.tmp 4) rfl ?_)
      refine ⟨?_⟩
      refine wpList_load_row rfl 28 (.tmp 4) rfl w.heap.size (by rfl) 28 _ (0, 0) _ hX' Tryz.underlying28 rfl (size32.trans (by simp [hyl])) ?_
      simp only [Act.put, List.setIfInBounds_toArray, List.set_cons_zero, List.set_cons_succ]
      have hzz : (zerosB 32).length = 32 := rfl
      go_wp2_with (refine stop_store 28 (.tmp 8) (.tmp 44) rfl ?_)
      refine ⟨?_⟩
      refine wpList_store_row rfl 28 (.tmp 8) (.tmp 44) rfl (w.heap.size + 1) ((y).map byteV).toArray (by rfl) (by rfl) 28 _ hZ4 (size32.trans (by simp [hyl])) (by simp [hyl, hzz]) (by simp [byteV, Value.oneCell']) ?_
      simp only [Act.put, List.setIfInBounds_toArray, List.set_cons_zero, List.set_cons_succ]
      have hR6 : ArrB (wo.setRow (w.heap.size + 1) ((y).map byteV).toArray) (w.heap.size + 1) 28 (y) := Blk.row hZ4 _
      have hR6u : Upd (w.heap.size + 1) wo (wo.setRow (w.heap.size + 1) ((y).map byteV).toArray) := (Upd.refl _ _).row _
      generalize wo.setRow (w.heap.size + 1) ((y).map byteV).toArray = w6 at *
      go_wp2_with fail
      have hk6 : Keep (fun k => k < w.heap.size) w w6 := hk4.trans (Keep.of_upd hR6u (fun h => absurd h (by omega)))
      (try simp only [Exit.inBlock, Exit.then]); refine bodyPost_ret (res_cell_t rfl _ _ (w.heap.size + 1) 28 _ _ rfl hR6 Tryz.underlying28 rfl (size32.trans (by simp [hyl]))) rfl ?_
      exact ⟨rfl, hk6.ext⟩

set_option maxHeartbeats 2000000 in
theorem refFold_none (r : List UInt8) (hr : r.length = 32) (m n : Int) (A : Option Addr) (cap : Nat) (l : List (List UInt8)) (hl : AllH l) (hll : l.length ≤ 1000000) (w : World) (hrd : Rd w w.heap.size A (flatS l))
    (hlg : Way.longI m n ≠ (l.length : Int)) : Calls Tryz.prog 90 #[sumV r, .int .i64 m, .int .i64 n, .slice A l.length cap] w fun e w' => e = .returned (.tuple #[sumV (zerosB 32), .bool false]) ∧ Ext w w' := by
  have hfold := fold_sum r hr
  unfold sumV
  go_enter Tryz.func90, Tryz.ntmps90
  go_wp2_with fail
  have hX0 : ArrB ((w.alloc (.cells (r.map byteV).toArray 28)).alloc (.cells ((zerosB 32).map byteV).toArray 28)) w.heap.size 28 r := Blk.alloc (Blk.new _ _ _) _
  have hZ0 : ArrB ((w.alloc (.cells (r.map byteV).toArray 28)).alloc (.cells ((zerosB 32).map byteV).toArray 28)) (w.heap.size + 1) 28 (zerosB 32) := by
    have := Blk.new (w.alloc (.cells (r.map byteV).toArray 28)) 28 ((zerosB 32).map byteV).toArray
    rw [alloc_size] at this
    exact this
  have hE0 : Ext w ((w.alloc (.cells (r.map byteV).toArray 28)).alloc (.cells ((zerosB 32).map byteV).toArray 28)) := ((Ext.refl w).alloc _).alloc _
  change Calls _ _ _ ((w.alloc (.cells (r.map byteV).toArray 28)).alloc (.cells ((zerosB 32).map byteV).toArray 28)) _
  generalize (w.alloc (.cells (r.map byteV).toArray 28)).alloc (.cells ((zerosB 32).map byteV).toArray 28) = w1 at *
  refine (refLong_calls m n _).mono ?_; rintro e w2 ⟨rfl, e2⟩
  have hX2 := Blk.below hX0 e2 (Blk.lt hX0)
  have hZ2 := Blk.below hZ0 e2 (Blk.lt hZ0)
  have hE2 := hE0.trans e2
  have hxl := Blk.lt hX0
  have hzl := Blk.lt hZ0
  have hs1 := hE0.size
  have hs2 := e2.size
  clear hX0 hZ0 hE0 e2
  have dl : (Way.longI m n != (l.length : Int)) = true := by simpa using hlg
  generalize Way.longI m n = L at *
  have hzz : (zerosB 32).length = 32 := rfl
  go_wp2_with (refine stop_store 28 (.tmp 8) (.tmp 18) rfl ?_)
  refine ⟨?_⟩
  refine wpList_store_row rfl 28 (.tmp 8) (.tmp 18) rfl (w.heap.size + 1) ((zerosB 32).map byteV).toArray (by rfl) (by rfl) 28 _ hZ2 (size32.trans (by simp [hzz])) (by simp [hzz, hzz]) (by simp [byteV, Value.oneCell']) ?_
  simp only [Act.put, List.setIfInBounds_toArray, List.set_cons_zero, List.set_cons_succ]
  have hR6 : ArrB (w2.setRow (w.heap.size + 1) ((zerosB 32).map byteV).toArray) (w.heap.size + 1) 28 (zerosB 32) := Blk.row hZ2 _
  have hR6u : Upd (w.heap.size + 1) w2 (w2.setRow (w.heap.size + 1) ((zerosB 32).map byteV).toArray) := (Upd.refl _ _).row _
  generalize w2.setRow (w.heap.size + 1) ((zerosB 32).map byteV).toArray = w6 at *
  go_wp2_with fail
  (try simp only [Exit.inBlock, Exit.then]); refine bodyPost_ret (res_cell_t rfl _ _ (w.heap.size + 1) 28 _ _ rfl hR6 Tryz.underlying28 rfl (size32.trans (by simp [hzz]))) rfl ?_
  have hk6 : Keep (fun k => k < w.heap.size) w w6 := (Keep.of_ext hE2).trans (Keep.of_upd hR6u (fun h => absurd h (by omega)))
  exact ⟨rfl, hk6.ext⟩

theorem refFold_calls (r : List UInt8) (hr : r.length = 32) (m n : Int) (A : Option Addr) (cap : Nat) (l : List (List UInt8)) (hl : AllH l) (hll : l.length ≤ 1000000) (w : World) (hrd : Rd w w.heap.size A (flatS l)) :
    Calls Tryz.prog 90 #[sumV r, .int .i64 m, .int .i64 n, .slice A l.length cap] w fun e w' => e = .returned (.tuple #[sumV (foldP r m n l).1, .bool (foldP r m n l).2]) ∧ Ext w w' := by
  by_cases hlg : Way.longI m n = (l.length : Int)
  · rw [show foldP r m n l = _ from if_pos hlg]
    exact refFold_some r hr m n A cap l hl hll w hrd hlg
  · rw [show foldP r m n l = _ from if_neg hlg]
    exact refFold_none r hr m n A cap l hl hll w hrd hlg

end Go.Proofs.YtcgnjdkennkheaaGreatDoor

namespace Go.Proofs.YtcgnjdkennkheaaGreatDoor
open Go.ChangeShapes Go.WideShapes Go.ChangeAt Go.RowKit
attribute [local go_sem] bs_size bs_toList2 bs_append bs_extract_end bs_extract_begin bs_get wrap64_b grow_cell grow_frozen

theorem res_two_t {P : Program} {fn : Func} {p q u : Tmp} {ty : TypeId} (h : fn.results = #[.cell p ty, .cell q ty, .tmp u]) (tmps : Array Value) (w : World) (g g' : Nat) (t t' : TypeId) (cs cs' : Array Value) (d : TypeDesc)
    (hp : tmps.getD p undef = .pointer (some ⟨g, 0, none⟩)) (hq : tmps.getD q undef = .pointer (some ⟨g', 0, none⟩)) (hg : Blk w g t cs) (hg' : Blk w g' t' cs')
    (hu : P.underlying ty = some d) (hd : (match d with | .struct _ | .array _ _ => true | _ => false) = true) (hi : (P.info? ty).map (·.size) = some cs.size) (hi' : (P.info? ty).map (·.size) = some cs'.size) :
    (results fn tmps).run P w = .ok (.tuple #[.agg cs, .agg cs', tmps.getD u undef]) w := by
  have hp' : tmps[p]?.getD undef = .pointer (some ⟨g, 0, none⟩) := by simpa using hp
  have hq' : tmps[q]?.getD undef = .pointer (some ⟨g', 0, none⟩) := by simpa using hq
  simp [results, h, hp', hq', asAddr, run_loadVar_row w g t ty cs (0, 0) d hg hu hd hi, run_loadVar_row w g' t' ty cs' (0, 0) d hg' hu hd hi']

section
variable {P : Program} {ops : Array Oper} {S : World → Prop} {T : Act → World → Prop} {o : Oper} {r : Plan} {a : Act} {w : World} {i : Nat} {rest : List Oper}
theorem plan_store_row (ho : ops[i]? = some o) (hl : loudOp o = true) (hw : Region.wanted o (yielded ops a.tmps) = true) (ty : TypeId) (x y : Operand) (hop : o.op = .store ty x y) (g : Nat) (cells : Array Value) (hx : a.eval x = .pointer (some ⟨g, 0, none⟩)) (hy : a.eval y = .agg cells)
    (t : TypeId) (old : Array Value) (hg : Blk w g t old) (hi : (P.info? ty).map (·.size) = some cells.size) (hold : old.size = cells.size) (h1 : cells.all (·.oneCell') = true) (hS : S (w.setRow g cells))
    (h : wpPlan P ops S loudOp T r (a.put o.dst undef) (w.setRow g cells)) : wpPlan P ops S loudOp T (.one i r) a w :=
  plan_one (plan_loud ho hl hw fun K E hK => wp_store_row ty x y hop g cells hx hy t old hg hi hold h1 (hK _ _ hS h))
theorem mix_store_row (hl : loudOp o = true) (hw : Region.wanted o (yielded ops a.tmps) = true) (ty : TypeId) (x y : Operand) (hop : o.op = .store ty x y) (g : Nat) (cells : Array Value) (hx : a.eval x = .pointer (some ⟨g, 0, none⟩)) (hy : a.eval y = .agg cells)
    (t : TypeId) (old : Array Value) (hg : Blk w g t old) (hi : (P.info? ty).map (·.size) = some cells.size) (hold : old.size = cells.size) (h1 : cells.all (·.oneCell') = true) (hS : S (w.setRow g cells))
    (h : wpMix P ops S loudOp T rest (a.put o.dst undef) (w.setRow g cells)) : wpMix P ops S loudOp T (o :: rest) a w :=
  mix_loud hl hw fun K E hK => wp_store_row ty x y hop g cells hx hy t old hg hi hold h1 (hK _ _ hS h)
end
/-- Two new arrays with the same content. -/
def twoW (W : World) : World := (W.alloc (.cells ((zerosB 32).map byteV).toArray 28)).alloc (.cells ((zerosB 32).map byteV).toArray 28)
def twoR (W : World) (g g' : Nat) (a : List UInt8) : World := ((twoW W).setRow g (a.map byteV).toArray).setRow g' (a.map byteV).toArray
theorem twoW_facts (W : World) : ArrB (twoW W) W.heap.size 28 (zerosB 32) ∧ ArrB (twoW W) (W.heap.size + 1) 28 (zerosB 32) ∧ Ext W (twoW W) := by
  have h1 := Blk.new W 28 ((zerosB 32).map byteV).toArray
  have h2 := Blk.new (W.alloc (.cells ((zerosB 32).map byteV).toArray 28)) 28 ((zerosB 32).map byteV).toArray
  rw [alloc_size] at h2
  exact ⟨h1.alloc _, h2, ((Ext.refl W).alloc _).alloc _⟩
theorem twoR_facts (W : World) (g g' : Nat) (a : List UInt8) (h : ArrB (twoW W) g 28 (zerosB 32)) (h' : ArrB (twoW W) g' 28 (zerosB 32)) (hne : g ≠ g') (hg : W.heap.size ≤ g) (hg' : W.heap.size ≤ g') :
    ArrB ((twoW W).setRow g (a.map byteV).toArray) g' 28 (zerosB 32) ∧ Ext W ((twoW W).setRow g (a.map byteV).toArray) ∧ ArrB (twoR W g g' a) g 28 a ∧ ArrB (twoR W g g' a) g' 28 a ∧ Ext W (twoR W g g' a) := by
  have e := (twoW_facts W).2.2
  have h1 : ArrB ((twoW W).setRow g (a.map byteV).toArray) g' 28 (zerosB 32) := Blk.rowFar h' (Ne.symm hne) _
  have h2 : ArrB ((twoW W).setRow g (a.map byteV).toArray) g 28 a := Blk.row h _
  exact ⟨h1, e.row hg _, Blk.rowFar h2 hne _, Blk.row h1 _, (e.row hg _).row hg' _⟩

/-- What proof.Both tells. -/
def bothP (a : List UInt8) (m n : Int) (l : List (List UInt8)) : (List UInt8 × List UInt8) × Bool := if Way.linksI m n = (l.length : Int) then (Way.both nodeB a m.toNat n.toNat true l, true) else ((zerosB 32, zerosB 32), false)
theorem bothW_length : ∀ (ts : List Bool) (hs : List (List UInt8)) (x y : List UInt8), x.length = 32 → y.length = 32 → (Way.bothW nodeB x y ts hs).1.length = 32 ∧ (Way.bothW nodeB x y ts hs).2.length = 32
  | [], hs, x, y, h, h' => by rw [Way.bothW_nil]; exact ⟨h, h'⟩
  | t :: ts, [], x, y, h, h' => ⟨h, h'⟩
  | t :: ts, h :: hs, x, y, hx, hy => by
    unfold Way.bothW
    cases t
    · exact bothW_length ts hs _ _ hx (nodeB_length _ _)
    · exact bothW_length ts hs _ _ (nodeB_length _ _) (nodeB_length _ _)
theorem headD_length (l : List (List UInt8)) (hl : AllH l) (a : List UInt8) (ha : a.length = 32) : (l.headD a).length = 32 := by
  cases l with
  | nil => exact ha
  | cons x l => exact hl x (by simp)
theorem bothP_length (a : List UInt8) (ha : a.length = 32) (m n : Int) (l : List (List UInt8)) (hl : AllH l) : (bothP a m n l).1.1.length = 32 ∧ (bothP a m n l).1.2.length = 32 := by
  unfold bothP
  split
  · unfold Way.both
    split
    · exact bothW_length _ _ _ _ ha ha
    · exact bothW_length _ _ _ _ (headD_length l hl a ha) (headD_length l hl a ha)
  · exact ⟨rfl, rfl⟩

def bothW0 (a : List UInt8) (w : World) (v : Value) : World := (((w.alloc (.cells (a.map byteV).toArray 28)).alloc (.cells #[v] 23)).alloc (.cells ((zerosB 32).map byteV).toArray 28)).alloc (.cells ((zerosB 32).map byteV).toArray 28)
theorem bothW0_facts (a : List UInt8) (w : World) (v : Value) : ArrB (bothW0 a w v) w.heap.size 28 a ∧ Blk (bothW0 a w v) (w.heap.size + 1) 23 #[v] ∧ ArrB (bothW0 a w v) (w.heap.size + 1 + 1) 28 (zerosB 32) ∧ ArrB (bothW0 a w v) (w.heap.size + 1 + 1 + 1) 28 (zerosB 32) ∧
    Ext w (bothW0 a w v) ∧ (bothW0 a w v).heap.size = w.heap.size + 4 := by
  have h1 := Blk.new w 28 (a.map byteV).toArray
  have h2 := Blk.new (w.alloc (.cells (a.map byteV).toArray 28)) 23 #[v]
  have h3 := Blk.new ((w.alloc (.cells (a.map byteV).toArray 28)).alloc (.cells #[v] 23)) 28 ((zerosB 32).map byteV).toArray
  have h4 := Blk.new (((w.alloc (.cells (a.map byteV).toArray 28)).alloc (.cells #[v] 23)).alloc (.cells ((zerosB 32).map byteV).toArray 28)) 28 ((zerosB 32).map byteV).toArray
  simp only [alloc_size] at h2 h3 h4
  exact ⟨((h1.alloc _).alloc _).alloc _, (h2.alloc _).alloc _, h3.alloc _, h4, ((((Ext.refl w).alloc _).alloc _).alloc _).alloc _, by unfold bothW0; simp only [alloc_size]⟩

/-- What the rounds have made. -/
def bwOf (z : List UInt8) (q : List (List UInt8)) (pre : List (Nat × Bool)) : List UInt8 × List UInt8 := Way.bothW nodeB z z (pre.map (·.2)) (q.take pre.length)
theorem bwOf_nil (z : List UInt8) (q : List (List UInt8)) : bwOf z q [] = (z, z) := by unfold bwOf; simp [Way.bothW_nil]
theorem bwOf_length (z : List UInt8) (hz : z.length = 32) (q : List (List UInt8)) (pre : List (Nat × Bool)) : (bwOf z q pre).1.length = 32 ∧ (bwOf z q pre).2.length = 32 := bothW_length _ _ _ _ hz hz
theorem bwOf_snoc (z : List UInt8) (q : List (List UInt8)) (pre : List (Nat × Bool)) (x : Nat × Bool) (h : pre.length < q.length) : bwOf z q (pre ++ [x]) = if x.2 then (nodeB q[pre.length] (bwOf z q pre).1, nodeB q[pre.length] (bwOf z q pre).2) else ((bwOf z q pre).1, nodeB (bwOf z q pre).2 q[pre.length]) := by
  unfold bwOf
  rw [List.length_append, List.length_singleton, List.map_append, List.take_succ_eq_append_getElem h]
  exact Way.bothW_snoc nodeB _ _ z z x.2 _ (by rw [List.length_map, List.length_take]; omega)
theorem bwOf_all (z : List UInt8) (q : List (List UInt8)) (s : List Bool) (h : q.length = s.length) : bwOf z q (upto (backBF s) s.length) = Way.bothW nodeB z z s.reverse q := by
  unfold bwOf
  rw [upto_backB, upto_length, ← h, List.take_length]

end Go.Proofs.YtcgnjdkennkheaaGreatDoor

namespace Go.Proofs.YtcgnjdkennkheaaGreatDoor
open Go.ChangeShapes Go.WideShapes Go.ChangeAt Go.RowKit
attribute [local go_sem] bs_size bs_toList2 bs_append bs_extract_end bs_extract_begin bs_get wrap64_b grow_cell grow_frozen

/-- What proof.Goes tells. -/
def goesB (a : List UInt8) (m : Int) (b : List UInt8) (n : Int) (l : List (List UInt8)) : Bool := ((bothP a m n l).2 && decide ((bothP a m n l).1.1 = a)) && decide ((bothP a m n l).1.2 = b)

end Go.Proofs.YtcgnjdkennkheaaGreatDoor

namespace Go.Proofs.YtcgnjdkennkheaaGreatDoor
open Go.ChangeShapes Go.WideShapes Go.ChangeAt Go.RowKit
attribute [local go_sem] bs_size bs_toList2 bs_append bs_extract_end bs_extract_begin bs_get wrap64_b grow_cell grow_frozen

theorem Right_sls (root leaf : List UInt8) (hr : root.length = 32) (hf : leaf.length = 32) (m n : Int) (hn63 : n ≤ 9223372036854775807) (v : Value) (l : List (List UInt8)) (hl : AllH l) (hll : l.length ≤ 1000000) (w : World) (KW : Keys w) (h : SlS w w.heap.size v l) :
    Calls Tryz.prog 45 #[sumV root, sumV leaf, .int .i64 m, .int .i64 n, v] w fun e w' => e = .returned (.bool (rightB root leaf m n l)) ∧ Ext w w' := by
  obtain ⟨A, cap, rfl, hA0, hc, hc63, hr'⟩ := h
  exact Right_calls root leaf hr hf m n hn63 A cap l hl hll w KW hr'
theorem sls_nil (w : World) (B : Nat) : SlS w B (.slice none 0 0) [] := ⟨none, 0, rfl, .inl ⟨.inl rfl, rfl, rfl⟩, Nat.le_refl _, by decide, Rd.nil⟩

theorem root3 (a b c : List UInt8) : rootS [a, b, c] = nodeB (nodeB a b) c := by
  unfold rootS
  rw [Tree.rootR_two nodeB emptyB [a, b, c] (by simp)]
  have h3 : Tree.split ([a, b, c].length) = 2 := by show Tree.split 3 = 2; decide +kernel
  rw [h3]
  show nodeB (Tree.rootR nodeB emptyB [a, b]) (Tree.rootR nodeB emptyB [c]) = _
  rw [Tree.rootR_two nodeB emptyB [a, b] (by simp)]
  have h2 : Tree.split ([a, b].length) = 1 := by show Tree.split 2 = 1; decide +kernel
  rw [h2]
  rfl
theorem l23 : Way.longI 2 3 = 1 := by decide +kernel
theorem t23 : Way.turnsI 2 3 = [true] := by decide +kernel
theorem k23 : Way.linksI 2 3 = 1 := by decide +kernel
theorem k33 : Way.linksI 3 3 = 0 := by decide +kernel
theorem p23 : Way.parts 2 3 = [false] := by decide +kernel
theorem p33 : Way.parts 3 3 = [] := by decide +kernel
theorem aw1 (a c : List UInt8) : rightB (nodeB a c) c 2 3 [a] = true := by
  unfold rightB foldP
  rw [l23, t23, if_pos (by rfl)]
  simp [Way.foldW]
theorem aw2 (a c r : List UInt8) : rightB r c 2 3 [a, a] = false := by
  unfold rightB foldP
  rw [l23, if_neg (by simp)]
  rfl
theorem aw3 (a c : List UInt8) : goesB a 2 (nodeB a c) 3 [c] = true := by
  unfold goesB bothP
  rw [k23, if_pos (by rfl)]
  simp [Way.both, p23, Way.wholeB, Way.bothW]
theorem aw4 (r : List UInt8) : goesB r 3 r 3 [] = true := by
  unfold goesB bothP
  rw [k33, if_pos (by rfl)]
  simp [Way.both, p33, Way.wholeB, Way.bothW]

end Go.Proofs.YtcgnjdkennkheaaGreatDoor

namespace Go.Proofs.YtcgnjdkennkheaaGreatDoor
open Go.ChangeShapes Go.WideShapes Go.ChangeAt Go.RowKit
attribute [local go_sem] bs_size bs_toList2 bs_append bs_extract_end bs_extract_begin bs_get wrap64_b grow_cell grow_frozen

def rbW0 (a : List UInt8) (w : World) : World := ((w.alloc (.cells (a.map byteV).toArray 28)).alloc (.cells ((zerosB 32).map byteV).toArray 28)).alloc (.cells ((zerosB 32).map byteV).toArray 28)
theorem rbW0_facts (a : List UInt8) (w : World) : ArrB (rbW0 a w) w.heap.size 28 a ∧ ArrB (rbW0 a w) (w.heap.size + 1) 28 (zerosB 32) ∧ ArrB (rbW0 a w) (w.heap.size + 1 + 1) 28 (zerosB 32) ∧ Ext w (rbW0 a w) ∧ (rbW0 a w).heap.size = w.heap.size + 3 := by
  have h1 := Blk.new w 28 (a.map byteV).toArray
  have h3 := Blk.new (w.alloc (.cells (a.map byteV).toArray 28)) 28 ((zerosB 32).map byteV).toArray
  have h4 := Blk.new ((w.alloc (.cells (a.map byteV).toArray 28)).alloc (.cells ((zerosB 32).map byteV).toArray 28)) 28 ((zerosB 32).map byteV).toArray
  simp only [alloc_size] at h3 h4
  exact ⟨(h1.alloc _).alloc _, h3.alloc _, h4, (((Ext.refl w).alloc _).alloc _).alloc _, by unfold rbW0; simp only [alloc_size]⟩

theorem both_len (a : List UInt8) (ha : a.length = 32) (m n : Nat) (whole : Bool) (l : List (List UInt8)) (hl : AllH l) : (Way.both nodeB a m n whole l).1.length = 32 ∧ (Way.both nodeB a m n whole l).2.length = 32 := by
  unfold Way.both
  split
  · exact bothW_length _ _ _ _ ha ha
  · exact bothW_length _ _ _ _ (headD_length l hl a ha) (headD_length l hl a ha)

end Go.Proofs.YtcgnjdkennkheaaGreatDoor

namespace Go.Proofs.YtcgnjdkennkheaaGreatDoor
open Go.ChangeShapes Go.WideShapes Go.ChangeAt Go.RowKit
attribute [local go_sem] bs_size bs_toList2 bs_append bs_extract_end bs_extract_begin bs_get wrap64_b grow_cell grow_frozen

end Go.Proofs.YtcgnjdkennkheaaGreatDoor

namespace Go.Proofs.YtcgnjdkennkheaaGreatDoor
open Go.ChangeShapes Go.WideShapes Go.ChangeAt Go.RowKit

theorem two_rows (W : World) (x y : List UInt8) : ArrB (((twoW W).setRow W.heap.size (x.map byteV).toArray).setRow (W.heap.size + 1) (y.map byteV).toArray) W.heap.size 28 x ∧
    ArrB ((twoW W).setRow W.heap.size (x.map byteV).toArray) (W.heap.size + 1) 28 (zerosB 32) ∧
    ArrB (((twoW W).setRow W.heap.size (x.map byteV).toArray).setRow (W.heap.size + 1) (y.map byteV).toArray) (W.heap.size + 1) 28 y ∧
    Ext W (((twoW W).setRow W.heap.size (x.map byteV).toArray).setRow (W.heap.size + 1) (y.map byteV).toArray) := by
  obtain ⟨p1, p2, p3⟩ := twoW_facts W
  have q1 : ArrB ((twoW W).setRow W.heap.size (x.map byteV).toArray) W.heap.size 28 x := Blk.row p1 _
  have q2 : ArrB ((twoW W).setRow W.heap.size (x.map byteV).toArray) (W.heap.size + 1) 28 (zerosB 32) := Blk.rowFar p2 (by omega) _
  exact ⟨Blk.rowFar q1 (by omega) _, q2, Blk.row q2 _, (p3.row (Nat.le_refl _) _).row (by omega) _⟩

theorem Fold_sls (r : List UInt8) (hr : r.length = 32) (m n : Int) (hn63 : n ≤ 9223372036854775807) (v : Value) (l : List (List UInt8)) (hl : AllH l) (hll : l.length ≤ 1000000) (w : World) (KW : Keys w) (h : SlS w w.heap.size v l) :
    Calls Tryz.prog 87 #[sumV r, .int .i64 m, .int .i64 n, v] w fun e w' => e = .returned (.tuple #[sumV (foldP r m n l).1, .bool (foldP r m n l).2]) ∧ Ext w w' := by
  obtain ⟨A, cap, rfl, hA0, hc, hc63, hr'⟩ := h
  exact Fold_calls r hr m n hn63 A cap l hl hll w KW hr'
theorem refFold_sls (r : List UInt8) (hr : r.length = 32) (m n : Int) (v : Value) (l : List (List UInt8)) (hl : AllH l) (hll : l.length ≤ 1000000) (w : World) (h : SlS w w.heap.size v l) :
    Calls Tryz.prog 90 #[sumV r, .int .i64 m, .int .i64 n, v] w fun e w' => e = .returned (.tuple #[sumV (foldP r m n l).1, .bool (foldP r m n l).2]) ∧ Ext w w' := by
  obtain ⟨A, cap, rfl, hA0, hc, hc63, hr'⟩ := h
  exact refFold_calls r hr m n A cap l hl hll w hr'
end Go.Proofs.YtcgnjdkennkheaaGreatDoor

namespace Go.Proofs.YtcgnjdkennkheaaGreatDoor
open Go.RowKit
attribute [local go_sem] bs_size bs_toList2 bs_append bs_extract_end bs_extract_begin bs_get wrap64_b grow_cell grow_frozen

/-- The path of a leaf, the links, over hashes. -/
abbrev pathS (l : List (List UInt8)) (m : Nat) : List (List UInt8) := Way.path nodeB emptyB l m
abbrev linksS (l : List (List UInt8)) (m : Nat) (whole : Bool) : List (List UInt8) := Way.linksF nodeB emptyB l.length l m whole
theorem pathS_le (l : List (List UInt8)) (m : Nat) : (pathS l m).length ≤ l.length := by
  rw [Way.path_length nodeB emptyB l.length l m rfl]
  exact Way.down_length false _ _
theorem linksF_le : ∀ (f : Nat) (l : List (List UInt8)) (m : Nat) (whole : Bool), (Way.linksF nodeB emptyB f l m whole).length ≤ f + 1
  | 0, l, m, whole => by unfold Way.linksF; split <;> (try split) <;> simp
  | f + 1, l, m, whole => by
    unfold Way.linksF
    split
    · split <;> simp
    · split
      · have := linksF_le f (l.take (Tree.split l.length)) m whole
        simp; omega
      · have := linksF_le f (l.drop (Tree.split l.length)) (m - Tree.split l.length) false
        simp; omega
theorem path_all : ∀ (n : Nat) (l : List (List UInt8)) (m : Nat), l.length = n → AllH l → AllH (pathS l m)
  | n, l, m, hn, hl => by
    by_cases h1 : n < 2
    · rw [pathS, Way.path_short nodeB emptyB l m (by omega)]; exact AllH.nil
    · have h3 := Tree.split_lt n (by omega)
      have h4 := Tree.split_pos n (by omega)
      by_cases h2 : m < Tree.split l.length
      · rw [pathS, Way.path_first nodeB emptyB l m (by omega) h2]
        intro x hx
        rcases List.mem_append.1 hx with hx | hx
        · exact path_all (Tree.split n) _ m (by rw [List.length_take, hn]; omega) (hl.take _) x hx
        · rw [List.mem_singleton.1 hx]; exact rootS_length _ (hl.drop _)
      · rw [pathS, Way.path_others nodeB emptyB l m (by omega) h2]
        intro x hx
        rcases List.mem_append.1 hx with hx | hx
        · exact path_all (n - Tree.split n) _ _ (by rw [List.length_drop, hn]) (hl.drop _) x hx
        · rw [List.mem_singleton.1 hx]; exact rootS_length _ (hl.take _)
  termination_by n => n
theorem linksF_all : ∀ (f : Nat) (l : List (List UInt8)) (m : Nat) (whole : Bool), AllH l → AllH (Way.linksF nodeB emptyB f l m whole)
  | 0, l, m, whole, hl => by
    unfold Way.linksF
    split
    · split
      · exact AllH.nil
      · exact AllH.cons (rootS_length _ hl) AllH.nil
    · exact AllH.nil
  | f + 1, l, m, whole, hl => by
    unfold Way.linksF
    split
    · split
      · exact AllH.nil
      · exact AllH.cons (rootS_length _ hl) AllH.nil
    · split
      · intro x hx
        rcases List.mem_append.1 hx with hx | hx
        · exact linksF_all f _ m whole (hl.take _) x hx
        · rw [List.mem_singleton.1 hx]; exact rootS_length _ (hl.drop _)
      · intro x hx
        rcases List.mem_append.1 hx with hx | hx
        · exact linksF_all f _ _ false (hl.drop _) x hx
        · rw [List.mem_singleton.1 hx]; exact rootS_length _ (hl.take _)
theorem own_sum (W : World) (z : List UInt8) (hz : z.length = 32) (base : Nat) (hb : base ≤ W.heap.size) : (W.alloc (.cells (flatS [z]).toArray 28)).ownsRow base 28 32 (.slice (some ⟨W.heap.size, 0, none⟩) 1 1) 1 (flatS [z]) :=
  ⟨by rw [flatS_length _ (AllH.cons hz AllH.nil)]; rfl, .inr ⟨W.heap.size, 1, (flatS [z]).toArray, rfl, hb, Blk.new _ _ _, Nat.le_refl _, by unfold maxLen; omega, by rw [List.size_toArray, flatS_length _ (AllH.cons hz AllH.nil)]; rfl, by rw [List.take_of_length_le (by rw [flatS_length _ (AllH.cons hz AllH.nil)]; simp)]⟩⟩

set_option maxHeartbeats 2000000 in
theorem refpath_all : ∀ (n : Nat) (v : Value) (l : List (List UInt8)) (m : Nat), l.length = n → n ≤ 100000 → m < n → AllH l → ∀ (w : World), SlS w w.heap.size v l →
    Calls Tryz.prog 61 #[v, .int .i64 (m : Int)] w fun e w' => ∃ v', e = .returned v' ∧ w'.ownsRow w.heap.size 28 32 v' (pathS l m).length (flatS (pathS l m)) ∧ Ext w w' := by
  intro n
  induction n using Nat.strongRecOn with
  | ind n ih =>
    intro v l m hn hn2 hmn hl w hS
    subst hn
    obtain ⟨P, hP⟩ : ∃ P, P = pathS l m := ⟨_, rfl⟩
    rw [← hP]
    obtain ⟨A, cap, rfl, hA0, hc, hc63, hr⟩ := hS
    by_cases h1 : l.length < 2
    · have hb1 : ((l.length : Int) == 1) = true := by rw [beq_iff_eq]; omega
      have HP := Lib.hid (hP.trans (Way.path_short nodeB emptyB l m (by omega)))
      clear hP ih
      go_enter Tryz.func61, Tryz.ntmps61
      go_wp2_with fail
      go_ret
      exact ⟨_, rfl, by rw [HP.out]; exact World.ownsRow_nil _ _ _ _, Ext.refl _⟩
    · have hb1 : ((l.length : Int) == 1) = false := by rw [beq_eq_false_iff_ne]; omega
      rcases hA0 with ⟨_, hl0, _⟩ | ⟨b, off, rfl⟩
      · rw [hl0] at hmn; simp at hmn
      have hsl := Tree.split_lt l.length (by omega)
      have hsp := Tree.split_pos l.length (by omega)
      have HSp := Lib.hid (splitI_nat l.length (by omega))
      by_cases hk : m < Tree.split l.length
      · have HP := Lib.hid (hP.trans (Way.path_first nodeB emptyB l m (by omega) hk))
        have hml := pathS_le (l.take (Tree.split l.length)) m
        rw [List.length_take] at hml
        clear hP
        generalize Tree.split l.length = k at *
        have dk : (m : Int) < (k : Int) := by omega
        have hkI : (k : Int) ≤ (l.length : Int) := by omega
        have hkcI : (k : Int) ≤ (cap : Int) := by omega
        have hta := hl.take k
        have hdr := hl.drop k
        have Ih := Lib.hid (ih k (by omega) (.slice (some ⟨b, off, none⟩) k cap) (l.take k) m (by simp; omega) (by omega) (by omega) hta)
        clear ih
        go_enter Tryz.func61, Tryz.ntmps61
        go_wp2_with fail
        refine (refSplit_calls (l.length : Int) (by omega) (by omega) _).mono ?_; rw [HSp.out]; rintro e w2 ⟨rfl, rfl⟩
        have hS1 : ∀ y : More w, SlS (grow w y) (grow w y).heap.size (.slice (some ⟨b, off, none⟩) k cap) (l.take k) := fun y => (sls_take hl hc hc63 (hr.below (grow_ext y) (Nat.le_refl _)) k (by omega)).more (grow_ext y).size
        have hS2 : ∀ y : More w, SlS (grow w y) (grow w y).heap.size (.slice (some ⟨b, off + k * 32, none⟩) (l.length - k) (cap - k)) (l.drop k) := fun y => (sls_drop hl hc hc63 (hr.below (grow_ext y) (Nat.le_refl _)) k).more (grow_ext y).size
        go_wp2_with fail
        refine region_mix 10 (by kernel_rfl) (by kernel_rfl) (fun x => ?_); simp only [List.take_succ_cons, List.take_zero, List.drop_succ_cons, List.drop_zero]
        repeat (first | (refine mix_quiet (by rfl) (by rfl) (fun K hK => ?_); go_big_quiet_op; refine hK _ ?_; clear hK K) | (refine mix_skip (by rfl) ?_; simp only [Act.put, List.setIfInBounds_toArray, List.set_cons_zero, List.set_cons_succ]))
        (refine mix_loud (by rfl) (by rfl) (fun K E hK => ?_); go_big_op)
        refine (Ih.out _ (hS1 _)).mono ?_; rintro e w3 ⟨v3, rfl, hO, hd'⟩
        have hO1 := owns_base hO (B' := w.heap.size) (grow_ext _).size
        clear hO
        obtain ⟨x', rfl⟩ := more_ext _ hd'
        clear hd'
        refine hK _ _ ⟨_, rfl⟩ ?_; clear hK K E
        repeat (first | (refine mix_quiet (by rfl) (by rfl) (fun K hK => ?_); go_big_quiet_op; refine hK _ ?_; clear hK K) | (refine mix_skip (by rfl) ?_; simp only [Act.put, List.setIfInBounds_toArray, List.set_cons_zero, List.set_cons_succ]))
        (refine mix_loud (by rfl) (by rfl) (fun K E hK => ?_); go_big_op)
        refine (refRoot_calls _ (l.drop k) hdr _ (hS2 _)).mono ?_; rintro e w3 ⟨rfl, hd'⟩
        have hO2 := owns_ext hO1 hd'
        clear hO1
        obtain ⟨x2, rfl⟩ := more_ext _ hd'
        clear hd'
        refine hK _ _ ⟨_, rfl⟩ ?_; clear hK K E
        refine mix_loud (by rfl) (by rfl) (fun K E hK => ?_)
        refine wp_buildSums 1 _ rfl [rootS (l.drop k)] (AllH.cons (rootS_length _ hdr) AllH.nil) rfl (by decide) (by decide) (by rfl) ?_
        obtain ⟨x3, hx3⟩ := more_of ((grow_ext x2).alloc (.cells (flatS [rootS (l.drop k)]).toArray 28))
        refine hK _ _ ⟨x3, hx3⟩ ?_; clear hK K E hx3 x3
        simp only [Act.put, List.setIfInBounds_toArray, List.set_cons_zero, List.set_cons_succ]
        refine mix_nil ?_
        have hE2 := grow_ext x2
        refine append_one rfl (.tmp 19) (.tmp 24) rfl _ (pathS (l.take k) m) (rootS (l.drop k)) rfl rfl (rootS_length _ hdr) (by omega) w.heap.size hE2.size _ rfl hO2 hE2 (Nat.le_refl _) fun A5 c5 w5 hO5 hX5 => ?_
        simp only [Act.put, List.setIfInBounds_toArray, List.set_cons_zero, List.set_cons_succ]
        clear hO2 hE2
        go_wp2_with fail
        go_ret
        exact ⟨_, rfl, by rw [HP.out, List.length_append]; exact hO5, hX5⟩
      · have HP := Lib.hid (hP.trans (Way.path_others nodeB emptyB l m (by omega) hk))
        have hml := pathS_le (l.drop (Tree.split l.length)) (m - Tree.split l.length)
        rw [List.length_drop] at hml
        clear hP
        generalize Tree.split l.length = k at *
        have dk : ¬ (m : Int) < (k : Int) := by omega
        have hkI : (k : Int) ≤ (l.length : Int) := by omega
        have hkcI : (k : Int) ≤ (cap : Int) := by omega
        have hta := hl.take k
        have hdr := hl.drop k
        have ih1 := ih (l.length - k) (by omega) (.slice (some ⟨b, off + k * 32, none⟩) (l.length - k) (cap - k)) (l.drop k) (m - k) (by simp) (by omega) (by omega) hdr
        rw [show ((m - k : Nat) : Int) = (m : Int) - (k : Int) by omega] at ih1
        have Ih := Lib.hid ih1
        clear ih ih1
        go_enter Tryz.func61, Tryz.ntmps61
        go_wp2_with fail
        refine (refSplit_calls (l.length : Int) (by omega) (by omega) _).mono ?_; rw [HSp.out]; rintro e w2 ⟨rfl, rfl⟩
        have hS1 : ∀ y : More w, SlS (grow w y) (grow w y).heap.size (.slice (some ⟨b, off, none⟩) k cap) (l.take k) := fun y => (sls_take hl hc hc63 (hr.below (grow_ext y) (Nat.le_refl _)) k (by omega)).more (grow_ext y).size
        have hS2 : ∀ y : More w, SlS (grow w y) (grow w y).heap.size (.slice (some ⟨b, off + k * 32, none⟩) (l.length - k) (cap - k)) (l.drop k) := fun y => (sls_drop hl hc hc63 (hr.below (grow_ext y) (Nat.le_refl _)) k).more (grow_ext y).size
        go_wp2_with fail
        refine region_mix 12 (by kernel_rfl) (by kernel_rfl) (fun x => ?_); simp only [List.take_succ_cons, List.take_zero, List.drop_succ_cons, List.drop_zero]
        repeat (first | (refine mix_quiet (by rfl) (by rfl) (fun K hK => ?_); go_big_quiet_op; refine hK _ ?_; clear hK K) | (refine mix_skip (by rfl) ?_; simp only [Act.put, List.setIfInBounds_toArray, List.set_cons_zero, List.set_cons_succ]))
        (refine mix_loud (by rfl) (by rfl) (fun K E hK => ?_); go_big_op)
        refine (Ih.out _ (hS2 _)).mono ?_; rintro e w3 ⟨v3, rfl, hO, hd'⟩
        have hO1 := owns_base hO (B' := w.heap.size) (grow_ext _).size
        clear hO
        obtain ⟨x', rfl⟩ := more_ext _ hd'
        clear hd'
        refine hK _ _ ⟨_, rfl⟩ ?_; clear hK K E
        repeat (first | (refine mix_quiet (by rfl) (by rfl) (fun K hK => ?_); go_big_quiet_op; refine hK _ ?_; clear hK K) | (refine mix_skip (by rfl) ?_; simp only [Act.put, List.setIfInBounds_toArray, List.set_cons_zero, List.set_cons_succ]))
        (refine mix_loud (by rfl) (by rfl) (fun K E hK => ?_); go_big_op)
        refine (refRoot_calls _ (l.take k) hta _ (hS1 _)).mono ?_; rintro e w3 ⟨rfl, hd'⟩
        have hO2 := owns_ext hO1 hd'
        clear hO1
        obtain ⟨x2, rfl⟩ := more_ext _ hd'
        clear hd'
        refine hK _ _ ⟨_, rfl⟩ ?_; clear hK K E
        refine mix_loud (by rfl) (by rfl) (fun K E hK => ?_)
        refine wp_buildSums 1 _ rfl [rootS (l.take k)] (AllH.cons (rootS_length _ hta) AllH.nil) rfl (by decide) (by decide) (by rfl) ?_
        obtain ⟨x3, hx3⟩ := more_of ((grow_ext x2).alloc (.cells (flatS [rootS (l.take k)]).toArray 28))
        refine hK _ _ ⟨x3, hx3⟩ ?_; clear hK K E hx3 x3
        simp only [Act.put, List.setIfInBounds_toArray, List.set_cons_zero, List.set_cons_succ]
        refine mix_nil ?_
        have hE2 := grow_ext x2
        refine append_one rfl (.tmp 32) (.tmp 37) rfl _ (pathS (l.drop k) (m - k)) (rootS (l.take k)) rfl rfl (rootS_length _ hta) (by omega) w.heap.size hE2.size _ rfl hO2 hE2 (Nat.le_refl _) fun A5 c5 w5 hO5 hX5 => ?_
        simp only [Act.put, List.setIfInBounds_toArray, List.set_cons_zero, List.set_cons_succ]
        clear hO2 hE2
        go_wp2_with fail
        go_ret
        exact ⟨_, rfl, by rw [HP.out, List.length_append]; exact hO5, hX5⟩

theorem refPath_calls (v : Value) (l : List (List UInt8)) (m : Nat) (hll : l.length ≤ 100000) (hm : m < l.length) (hl : AllH l) (w : World) (hS : SlS w w.heap.size v l) :
    Calls Tryz.prog 25 #[v, .int .i64 (m : Int)] w fun e w' => ∃ v', e = .returned (.tuple #[v', .bool true]) ∧ SlS w' w'.heap.size v' (pathS l m) ∧ Ext w w' := by
  have hS0 := hS
  obtain ⟨A, cap, rfl, -⟩ := hS
  have h0 : ¬ (m : Int) < 0 := by omega
  have h1 : decide ((l.length : Int) ≤ (m : Int)) = false := decide_eq_false (by omega)
  go_enter Tryz.func25, Tryz.ntmps25
  go_wp2_with fail
  refine (refpath_all l.length _ l m rfl hll hm hl w hS0).mono ?_; rintro e w2 ⟨v', rfl, hO, e2⟩
  go_wp2_with fail
  go_ret2
  exact ⟨_, rfl, (OwnS.of_own hO).sl, e2⟩
end Go.Proofs.YtcgnjdkennkheaaGreatDoor
