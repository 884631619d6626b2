/-
  Plain law of layers 10, 12 and 13: ways down a tree, and what goes up them. No program in sight.
  Plain law of layers 12 and 13: links; two ways that meet.
  Words for slices of steps of a path.
  A round of a range over a function: what is walked plainly holds there, too, where nothing is deferred.
  slices.Backward over bools: its iterator's contract.
  slices.Backward over steps of a path: its iterator's contract.
  A region that draws its order, in which calls may write blocks that nobody else reads: the blocks of S stay.
  The walk of path.down.
  Slices of bools; the walks of proof.parts, slices.Contains, and the document's Turns and LinksLong.
  The walks of path.whole, path.Long, path.LinksLong; slices.Index over bools.
  The walk of path.Turns.
  The walks of the document's Turns, Long and LinksLong.
  The walks of proof.Fold (with its closure), proof.Right.
  The walk of proof.Right.
  The walk of the document's Fold.
  The walk of proof.Both: beginnings.
  The walk of proof.Goes.
  few and awake of the laws of layer 12; proof.Right and proof.Goes over slices.
-/
import Derived.Test.YtfpipdopgepelaaDoorLeafP
import Derived.Test.YtfpipdopgepelaaDoorSums
import Derived.Test.YtfpipdopgepelaaDoorMix
import Derived.RangeFuncNested
import Derived.RangeFuncBound
import Derived.RangeFuncCalls
import Derived.RangeFuncLeaves
import Derived.OwnWalkIn
import Derived.TacticsInMore
import Derived.LoopNIn
import Derived.LoopIn
import Derived.OrdersIn
import Derived.Deep.MidRow
import Derived.Test.YtfpipdopgepelaaDoorUpd
import Derived.Test.YtfpipdopgepelaaDoorLeaf2
import Derived.Deep.DeepCutAuto
import Derived.RegionTactic
import Derived.ChangeAlike
import Derived.Test.YtfpipdopgepelaaDoorLeaf1
import Derived.Test.YtfpipdopgepelaaDoorEqA
import Derived.Test.YtfpipdopgepelaaDoorLeafA
set_option linter.unusedVariables false
set_option maxRecDepth 100000
set_option linter.unusedSimpArgs false
set_option linter.unusedSectionVars false
namespace Go.Proofs.YtfpipdopgepelaaDoor
namespace Way

abbrev Step := Bool × Nat × Nat
/-- The steps from all n leaves down to place m (whole: to the part that ends behind m): which side is left behind, how many leaves the part has, the place in it. -/
def downF (whole : Bool) : Nat → Nat → Nat → List Step
  | 0, _, _ => []
  | f + 1, m, n => if n < 2 ∨ (whole = true ∧ m = n) then [] else
      if m < Tree.split n ∨ (whole = true ∧ m = Tree.split n) then (false, Tree.split n, m) :: downF whole f m (Tree.split n)
      else (true, n - Tree.split n, m - Tree.split n) :: downF whole f (m - Tree.split n) (n - Tree.split n)
theorem downF_eq (whole : Bool) (f m n : Nat) : downF whole (f + 1) m n = if n < 2 ∨ (whole = true ∧ m = n) then [] else
      if m < Tree.split n ∨ (whole = true ∧ m = Tree.split n) then (false, Tree.split n, m) :: downF whole f m (Tree.split n)
      else (true, n - Tree.split n, m - Tree.split n) :: downF whole f (m - Tree.split n) (n - Tree.split n) := rfl
theorem downF_more (whole : Bool) : ∀ (f m n : Nat), n ≤ f → downF whole (f + 1) m n = downF whole f m n
  | 0, m, n, h => by
    obtain rfl : n = 0 := by omega
    simp [downF]
  | f + 1, m, n, h => by
    by_cases h1 : n < 2 ∨ (whole = true ∧ m = n)
    · rw [downF_eq whole (f + 1) m n, downF_eq whole f m n, if_pos h1, if_pos h1]
    · have h3 := Tree.split_lt n (by omega)
      have h4 := Tree.split_pos n (by omega)
      rw [downF_eq whole (f + 1) m n, downF_eq whole f m n, if_neg h1, if_neg h1]
      by_cases h2 : m < Tree.split n ∨ (whole = true ∧ m = Tree.split n)
      · rw [if_pos h2, if_pos h2, downF_more whole f m _ (by omega)]
      · rw [if_neg h2, if_neg h2, downF_more whole f _ _ (by omega)]
def down (whole : Bool) (m n : Nat) : List Step := downF whole n m n
theorem downF_is (whole : Bool) (m n : Nat) : ∀ k, downF whole (n + k) m n = down whole m n
  | 0 => rfl
  | k + 1 => by rw [← Nat.add_assoc, downF_more whole _ _ _ (by omega)]; exact downF_is whole m n k
theorem down_done {whole : Bool} {m n : Nat} (h : n < 2 ∨ (whole = true ∧ m = n)) : down whole m n = [] := by
  unfold down
  cases n with
  | zero => rfl
  | succ n => rw [downF, if_pos h]
theorem down_first {whole : Bool} {m n : Nat} (h : ¬ (n < 2 ∨ (whole = true ∧ m = n))) (h2 : m < Tree.split n ∨ (whole = true ∧ m = Tree.split n)) : down whole m n = (false, Tree.split n, m) :: down whole m (Tree.split n) := by
  have h3 := Tree.split_lt n (by omega)
  unfold down
  obtain ⟨f, hf⟩ : ∃ f, n = f + 1 := ⟨n - 1, by omega⟩
  conv => lhs; rw [hf]
  rw [downF, ← hf, if_neg h, if_pos h2]
  have := downF_is whole m (Tree.split n) (f - Tree.split n)
  rw [show Tree.split n + (f - Tree.split n) = f from by omega] at this
  rw [this]
  rfl
theorem down_others {whole : Bool} {m n : Nat} (h : ¬ (n < 2 ∨ (whole = true ∧ m = n))) (h2 : ¬ (m < Tree.split n ∨ (whole = true ∧ m = Tree.split n))) : down whole m n = (true, n - Tree.split n, m - Tree.split n) :: down whole (m - Tree.split n) (n - Tree.split n) := by
  have h3 := Tree.split_lt n (by omega)
  have h4 := Tree.split_pos n (by omega)
  unfold down
  obtain ⟨f, hf⟩ : ∃ f, n = f + 1 := ⟨n - 1, by omega⟩
  conv => lhs; rw [hf]
  rw [downF, ← hf, if_neg h, if_neg h2]
  have := downF_is whole (m - Tree.split n) (n - Tree.split n) (f - (n - Tree.split n))
  rw [show n - Tree.split n + (f - (n - Tree.split n)) = f from by omega] at this
  rw [this]
  rfl
theorem down_length (whole : Bool) : ∀ (n m : Nat), (down whole m n).length ≤ n
  | n, m => by
    by_cases h1 : n < 2 ∨ (whole = true ∧ m = n)
    · rw [down_done h1]; exact Nat.zero_le _
    · have h3 := Tree.split_lt n (by omega)
      have h4 := Tree.split_pos n (by omega)
      by_cases h2 : m < Tree.split n ∨ (whole = true ∧ m = Tree.split n)
      · rw [down_first h1 h2]
        have := down_length whole (Tree.split n) m
        simp; omega
      · rw [down_others h1 h2]
        have := down_length whole (n - Tree.split n) (m - Tree.split n)
        simp; omega
  termination_by n => n
/-- The sides on which what stands beside stands, from the leaf up. -/
def turns (m n : Nat) : List Bool := ((down false m n).map (·.1)).reverse
/-- Of links: does it go into the others?, from all down. -/
def parts (m n : Nat) : List Bool := (down true m n).map (·.1)
theorem parts_done (n : Nat) : parts n n = [] := by unfold parts; rw [down_done (.inr ⟨rfl, rfl⟩)]; rfl
theorem parts_first {m n : Nat} (h : m < n) (h1 : 1 ≤ m) (h2 : m ≤ Tree.split n) : parts m n = false :: parts m (Tree.split n) := by
  unfold parts
  rw [down_first (by omega) (by simp; omega)]
  rfl
theorem parts_others {m n : Nat} (h : m < n) (h1 : 1 ≤ m) (h2 : ¬ m ≤ Tree.split n) : parts m n = true :: parts (m - Tree.split n) (n - Tree.split n) := by
  unfold parts
  rw [down_others (by omega) (by simp; omega)]
  rfl
/-- All parts are the first ones. -/
def wholeB (s : List Bool) : Bool := !s.contains true
def longI (m n : Int) : Int := if m < 0 ∨ n ≤ m ∨ 1099511627776 < n then -1 else ((down false m.toNat n.toNat).length : Int)
def linksI (m n : Int) : Int := if m < 1 ∨ n < m ∨ 1099511627776 < n then -1 else ((parts m.toNat n.toNat).length : Int) + if wholeB (parts m.toNat n.toNat) then 0 else 1
def turnsI (m n : Int) : List Bool := if longI m n < 0 then [] else turns m.toNat n.toNat
theorem turnsI_length (m n : Int) (h : 0 ≤ longI m n) : ((turnsI m n).length : Int) = longI m n := by
  unfold turnsI
  rw [if_neg (by omega)]
  unfold longI at h ⊢
  by_cases hc : m < 0 ∨ n ≤ m ∨ 1099511627776 < n
  · rw [if_pos hc] at h; omega
  · rw [if_neg hc]; simp [turns]

/-! ### Going up -/
section
variable {α : Type} (nd : α → α → α) (e : α)
def foldW : α → List Bool → List α → α
  | x, t :: ts, h :: hs => foldW (if t then nd h x else nd x h) ts hs
  | x, _, _ => x
theorem foldW_nil (x : α) (hs : List α) : foldW nd x [] hs = x := by cases hs <;> rfl
theorem foldW_cons (x : α) (t : Bool) (ts : List Bool) (h : α) (hs : List α) : foldW nd x (t :: ts) (h :: hs) = foldW nd (if t then nd h x else nd x h) ts hs := rfl
theorem foldW_snoc : ∀ (ts : List Bool) (hs : List α) (x : α) (t : Bool) (h : α), ts.length = hs.length → foldW nd x (ts ++ [t]) (hs ++ [h]) = if t then nd h (foldW nd x ts hs) else nd (foldW nd x ts hs) h
  | [], [], x, t, h, _ => rfl
  | [], _ :: _, x, t, h, hl => by simp at hl
  | _ :: _, [], x, t, h, hl => by simp at hl
  | s :: ts, g :: hs, x, t, h, hl => by
    simp only [List.cons_append, foldW_cons]
    exact foldW_snoc ts hs _ t h (by simpa using hl)
/-- The path of a leaf. -/
def pathF : Nat → List α → Nat → List α
  | 0, _, _ => []
  | f + 1, l, m => if l.length < 2 then [] else
      if m < Tree.split l.length then pathF f (l.take (Tree.split l.length)) m ++ [Tree.rootR nd e (l.drop (Tree.split l.length))]
      else pathF f (l.drop (Tree.split l.length)) (m - Tree.split l.length) ++ [Tree.rootR nd e (l.take (Tree.split l.length))]
theorem pathF_eq (f : Nat) (l : List α) (m : Nat) : pathF nd e (f + 1) l m = if l.length < 2 then [] else
      if m < Tree.split l.length then pathF nd e f (l.take (Tree.split l.length)) m ++ [Tree.rootR nd e (l.drop (Tree.split l.length))]
      else pathF nd e f (l.drop (Tree.split l.length)) (m - Tree.split l.length) ++ [Tree.rootR nd e (l.take (Tree.split l.length))] := rfl
theorem pathF_more : ∀ (f : Nat) (l : List α) (m : Nat), l.length ≤ f → pathF nd e (f + 1) l m = pathF nd e f l m
  | 0, l, m, h => by simp [pathF, show l.length < 2 from by omega]
  | f + 1, l, m, h => by
    by_cases h1 : l.length < 2
    · rw [pathF_eq nd e (f + 1) l m, pathF_eq nd e f l m, if_pos h1, if_pos h1]
    · have h3 := Tree.split_lt l.length (by omega)
      have h4 := Tree.split_pos l.length (by omega)
      rw [pathF_eq nd e (f + 1) l m, pathF_eq nd e f l m, if_neg h1, if_neg h1, pathF_more f _ m (by rw [List.length_take]; omega), pathF_more f _ (m - Tree.split l.length) (by rw [List.length_drop]; omega)]
def path (l : List α) (m : Nat) : List α := pathF nd e l.length l m
theorem pathF_is (l : List α) (m : Nat) : ∀ k, pathF nd e (l.length + k) l m = path nd e l m
  | 0 => rfl
  | k + 1 => by rw [← Nat.add_assoc, pathF_more nd e _ _ _ (by omega)]; exact pathF_is l m k
theorem path_short (l : List α) (m : Nat) (h : l.length < 2) : path nd e l m = [] := by
  unfold path
  cases hl : l.length with
  | zero => rfl
  | succ n => rw [pathF, if_pos h]
theorem path_first (l : List α) (m : Nat) (h : ¬ l.length < 2) (h2 : m < Tree.split l.length) : path nd e l m = path nd e (l.take (Tree.split l.length)) m ++ [Tree.rootR nd e (l.drop (Tree.split l.length))] := by
  have h3 := Tree.split_lt l.length (by omega)
  obtain ⟨f, hf⟩ : ∃ f, l.length = f + 1 := ⟨l.length - 1, by omega⟩
  unfold path
  conv => lhs; rw [hf]
  rw [pathF, if_neg h, if_pos h2]
  have ht : (l.take (Tree.split l.length)).length = Tree.split l.length := by rw [List.length_take]; omega
  have := pathF_is nd e (l.take (Tree.split l.length)) m (f - Tree.split l.length)
  rw [ht, show Tree.split l.length + (f - Tree.split l.length) = f from by omega] at this
  rw [this]
  unfold path
  rw [ht]
theorem path_others (l : List α) (m : Nat) (h : ¬ l.length < 2) (h2 : ¬ m < Tree.split l.length) : path nd e l m = path nd e (l.drop (Tree.split l.length)) (m - Tree.split l.length) ++ [Tree.rootR nd e (l.take (Tree.split l.length))] := by
  have h3 := Tree.split_lt l.length (by omega)
  have h4 := Tree.split_pos l.length (by omega)
  obtain ⟨f, hf⟩ : ∃ f, l.length = f + 1 := ⟨l.length - 1, by omega⟩
  unfold path
  conv => lhs; rw [hf]
  rw [pathF, if_neg h, if_neg h2]
  have ht : (l.drop (Tree.split l.length)).length = l.length - Tree.split l.length := by rw [List.length_drop]
  have := pathF_is nd e (l.drop (Tree.split l.length)) (m - Tree.split l.length) (f - (l.length - Tree.split l.length))
  rw [ht, show l.length - Tree.split l.length + (f - (l.length - Tree.split l.length)) = f from by omega] at this
  rw [this]
  unfold path
  rw [ht]
theorem path_length : ∀ (n : Nat) (l : List α) (m : Nat), l.length = n → (path nd e l m).length = (down false m n).length
  | n, l, m, hn => by
    by_cases h1 : n < 2
    · rw [path_short nd e l m (by omega), down_done (.inl h1)]; rfl
    · have h3 := Tree.split_lt n (by omega)
      have h4 := Tree.split_pos n (by omega)
      by_cases h2 : m < Tree.split n
      · rw [path_first nd e l m (by omega) (by rw [hn]; exact h2), down_first (by simp; omega) (.inl h2), hn]
        rw [List.length_append, path_length (Tree.split n) _ m (by rw [List.length_take]; omega)]
        simp
      · rw [path_others nd e l m (by omega) (by rw [hn]; exact h2), down_others (by simp; omega) (by simp; omega), hn]
        rw [List.length_append, path_length (n - Tree.split n) _ _ (by rw [List.length_drop]; omega)]
        simp
  termination_by n => n
/-- Each leaf goes up its path to the root. -/
theorem fold_path : ∀ (n : Nat) (l : List α) (m : Nat) (hm : m < l.length), l.length = n → foldW nd l[m] (turns m n) (path nd e l m) = Tree.rootR nd e l
  | n, l, m, hm, hn => by
    by_cases h1 : n < 2
    · obtain ⟨x, rfl⟩ := List.length_eq_one_iff.1 (show l.length = 1 by omega)
      obtain rfl : m = 0 := by simpa using hm
      rw [path_short nd e _ _ (by simp)]
      unfold turns
      rw [down_done (.inl h1)]
      rfl
    · have h3 := Tree.split_lt n (by omega)
      have h4 := Tree.split_pos n (by omega)
      have hr := Tree.rootR_two nd e l (by omega)
      rw [hn] at hr
      by_cases h2 : m < Tree.split n
      · have hlt : (l.take (Tree.split n)).length = Tree.split n := by rw [List.length_take]; omega
        have ih := fold_path (Tree.split n) (l.take (Tree.split n)) m (by omega) hlt
        rw [List.getElem_take] at ih
        rw [path_first nd e l m (by omega) (by rw [hn]; exact h2), hn]
        unfold turns at ih ⊢
        rw [down_first (by simp; omega) (.inl h2), List.map_cons, List.reverse_cons, foldW_snoc nd _ _ _ _ _ (by rw [List.length_reverse, List.length_map, path_length nd e _ _ m hlt]), ih, hr]
        rfl
      · have hld : (l.drop (Tree.split n)).length = n - Tree.split n := by rw [List.length_drop, hn]
        have ih := fold_path (n - Tree.split n) (l.drop (Tree.split n)) (m - Tree.split n) (by omega) hld
        rw [List.getElem_drop] at ih
        simp only [show Tree.split n + (m - Tree.split n) = m from by omega] at ih
        rw [path_others nd e l m (by omega) (by rw [hn]; exact h2), hn]
        unfold turns at ih ⊢
        rw [down_others (by simp; omega) (by simp; omega), List.map_cons, List.reverse_cons, foldW_snoc nd _ _ _ _ _ (by rw [List.length_reverse, List.length_map, path_length nd e _ _ _ hld]), ih, hr]
        rfl
  termination_by n => n

/-! ### Links -/
def bothW : α → α → List Bool → List α → α × α
  | x, y, t :: ts, h :: hs => if t then bothW (nd h x) (nd h y) ts hs else bothW x (nd y h) ts hs
  | x, y, _, _ => (x, y)
theorem bothW_snoc : ∀ (ts : List Bool) (hs : List α) (x y : α) (t : Bool) (h : α), ts.length = hs.length → bothW nd x y (ts ++ [t]) (hs ++ [h]) = if t then (nd h (bothW nd x y ts hs).1, nd h (bothW nd x y ts hs).2) else ((bothW nd x y ts hs).1, nd (bothW nd x y ts hs).2 h)
  | [], [], x, y, t, h, _ => by cases t <;> rfl
  | [], _ :: _, x, y, t, h, hl => by simp at hl
  | _ :: _, [], x, y, t, h, hl => by simp at hl
  | s :: ts, g :: hs, x, y, t, h, hl => by
    simp only [List.cons_append, bothW]
    cases s
    · exact bothW_snoc ts hs _ _ t h (by simpa using hl)
    · exact bothW_snoc ts hs _ _ t h (by simpa using hl)
/-- The second hash goes up as a path's does. -/
theorem bothW_second : ∀ (ts : List Bool) (hs : List α) (x y : α), (bothW nd x y ts hs).2 = foldW nd y ts hs
  | [], hs, x, y => by cases hs <;> rfl
  | t :: ts, [], x, y => rfl
  | t :: ts, h :: hs, x, y => by
    simp only [bothW, foldW_cons]
    cases t
    · exact bothW_second ts hs _ _
    · exact bothW_second ts hs _ _
end

end Way
end Go.Proofs.YtfpipdopgepelaaDoor

namespace Go.Proofs.YtfpipdopgepelaaDoor
namespace Way
section
variable {α : Type} (nd : α → α → α) (e : α)

theorem wholeB_first (s : List Bool) : wholeB (false :: s) = wholeB s := by simp [wholeB]
theorem wholeB_others (s : List Bool) : wholeB (true :: s) = false := by simp [wholeB]
/-- How many hashes links have. -/
def needL (m n : Nat) (whole : Bool) : Nat := (parts m n).length + if whole && wholeB (parts m n) then 0 else 1
theorem needL_done (n : Nat) (whole : Bool) : needL n n whole = if whole then 0 else 1 := by
  unfold needL; rw [parts_done]; cases whole <;> rfl
theorem needL_first {m n : Nat} (h : m < n) (h1 : 1 ≤ m) (h2 : m ≤ Tree.split n) (whole : Bool) : needL m n whole = needL m (Tree.split n) whole + 1 := by
  unfold needL; rw [parts_first h h1 h2, wholeB_first, List.length_cons]; omega
theorem needL_others {m n : Nat} (h : m < n) (h1 : 1 ≤ m) (h2 : ¬ m ≤ Tree.split n) (whole : Bool) : needL m n whole = needL (m - Tree.split n) (n - Tree.split n) false + 1 := by
  unfold needL; rw [parts_others h h1 h2, wholeB_others, List.length_cons]; simp
/-- What links come to. -/
def both (a : α) (m n : Nat) (whole : Bool) (l : List α) : α × α :=
  if whole && wholeB (parts m n) then bothW nd a a (parts m n).reverse l else bothW nd (l.headD a) (l.headD a) (parts m n).reverse l.tail
theorem bothW_nil (x y : α) (l : List α) : bothW nd x y [] l = (x, y) := by cases l <;> rfl
theorem both_done (a : α) (n : Nat) (whole : Bool) (l : List α) : both nd a n n whole l = if whole then (a, a) else (l.headD a, l.headD a) := by
  unfold both
  rw [parts_done]
  cases whole <;> simp [bothW_nil, wholeB]
theorem head_append (l : List α) (x a : α) (h : l ≠ []) : (l ++ [x]).headD a = l.headD a ∧ (l ++ [x]).tail = l.tail ++ [x] := by
  cases l with
  | nil => exact absurd rfl h
  | cons y l => exact ⟨rfl, rfl⟩
theorem both_first {m n : Nat} (h : m < n) (h1 : 1 ≤ m) (h2 : m ≤ Tree.split n) (a : α) (whole : Bool) (l : List α) (x : α) (hl : l.length = needL m (Tree.split n) whole) :
    both nd a m n whole (l ++ [x]) = ((both nd a m (Tree.split n) whole l).1, nd (both nd a m (Tree.split n) whole l).2 x) := by
  unfold both
  rw [parts_first h h1 h2, wholeB_first, List.reverse_cons]
  unfold needL at hl
  by_cases hw : (whole && wholeB (parts m (Tree.split n))) = true
  · rw [if_pos hw] at hl ⊢
    rw [if_pos hw, bothW_snoc nd _ _ _ _ _ _ (by rw [List.length_reverse]; omega)]
    rfl
  · rw [if_neg hw] at hl ⊢
    obtain ⟨e1, e2⟩ := head_append l x a (by rintro rfl; simp at hl)
    rw [if_neg hw, e1, e2, bothW_snoc nd _ _ _ _ _ _ (by rw [List.length_reverse, List.length_tail]; omega)]
    rfl
theorem both_others {m n : Nat} (h : m < n) (h1 : 1 ≤ m) (h2 : ¬ m ≤ Tree.split n) (a : α) (whole : Bool) (l : List α) (x : α) (hl : l.length = needL (m - Tree.split n) (n - Tree.split n) false) :
    both nd a m n whole (l ++ [x]) = (nd x (both nd a (m - Tree.split n) (n - Tree.split n) false l).1, nd x (both nd a (m - Tree.split n) (n - Tree.split n) false l).2) := by
  unfold both
  rw [parts_others h h1 h2, wholeB_others, List.reverse_cons]
  unfold needL at hl
  simp only [Bool.and_false, Bool.false_and, Bool.false_eq_true, if_false] at hl ⊢
  obtain ⟨e1, e2⟩ := head_append l x a (by rintro rfl; simp at hl)
  rw [e1, e2, bothW_snoc nd _ _ _ _ _ _ (by rw [List.length_reverse, List.length_tail]; omega)]
  rfl
/-- The links from m leaves on. -/
def linksF : Nat → List α → Nat → Bool → List α
  | 0, l, m, whole => if m = l.length then (if whole then [] else [Tree.rootR nd e l]) else []
  | f + 1, l, m, whole => if m = l.length then (if whole then [] else [Tree.rootR nd e l]) else
      if m ≤ Tree.split l.length then linksF f (l.take (Tree.split l.length)) m whole ++ [Tree.rootR nd e (l.drop (Tree.split l.length))]
      else linksF f (l.drop (Tree.split l.length)) (m - Tree.split l.length) false ++ [Tree.rootR nd e (l.take (Tree.split l.length))]
theorem linksF_both : ∀ (f : Nat) (l : List α) (m : Nat) (whole : Bool), l.length ≤ f → 1 ≤ m → m ≤ l.length →
    (linksF nd e f l m whole).length = needL m l.length whole ∧ both nd (Tree.rootR nd e (l.take m)) m l.length whole (linksF nd e f l m whole) = (Tree.rootR nd e (l.take m), Tree.rootR nd e l)
  | 0, l, m, whole, hf, h1, h2 => by omega
  | f + 1, l, m, whole, hf, h1, h2 => by
    by_cases hm : m = l.length
    · rw [linksF, if_pos hm]
      subst hm
      rw [needL_done, both_done, List.take_length]
      cases whole <;> exact ⟨rfl, rfl⟩
    · have hlt : m < l.length := by omega
      have h3 := Tree.split_lt l.length (by omega)
      have h4 := Tree.split_pos l.length (by omega)
      have h5 := Tree.split_half l.length (by omega)
      have hr := Tree.rootR_two nd e l (by omega)
      have ht : (l.take (Tree.split l.length)).length = Tree.split l.length := by rw [List.length_take]; omega
      have hd : (l.drop (Tree.split l.length)).length = l.length - Tree.split l.length := by rw [List.length_drop]
      rw [linksF, if_neg hm]
      by_cases hk : m ≤ Tree.split l.length
      · obtain ⟨i1, i2⟩ := linksF_both f (l.take (Tree.split l.length)) m whole (by omega) h1 (by omega)
        rw [ht] at i1 i2
        rw [if_pos hk, List.length_append, i1, needL_first hlt h1 hk, both_first nd hlt h1 hk _ _ _ _ i1]
        rw [List.take_take, Nat.min_eq_left hk] at i2
        rw [i2, hr]
        exact ⟨rfl, rfl⟩
      · obtain ⟨i1, i2⟩ := linksF_both f (l.drop (Tree.split l.length)) (m - Tree.split l.length) false (by omega) (by omega) (by omega)
        rw [hd] at i1 i2
        have hsm : Tree.split m = Tree.split l.length := by
          have hs : Tree.split l.length = 2 ^ (l.length - 1).log2 := by unfold Tree.split; rw [if_neg (by omega)]
          rw [hs]
          exact Tree.split_is m _ (by omega) (by omega)
        have htm : (l.take m).length = m := by rw [List.length_take]; omega
        have hrm := Tree.rootR_two nd e (l.take m) (by omega)
        rw [htm, hsm, List.take_take, Nat.min_eq_left (by omega), List.drop_take] at hrm
        have hb : ∀ a, both nd a (m - Tree.split l.length) (l.length - Tree.split l.length) false (linksF nd e f (l.drop (Tree.split l.length)) (m - Tree.split l.length) false) = both nd (Tree.rootR nd e ((l.drop (Tree.split l.length)).take (m - Tree.split l.length))) (m - Tree.split l.length) (l.length - Tree.split l.length) false (linksF nd e f (l.drop (Tree.split l.length)) (m - Tree.split l.length) false) := fun a => by
          have hne : linksF nd e f (l.drop (Tree.split l.length)) (m - Tree.split l.length) false ≠ [] := by
            intro h0
            rw [h0] at i1
            unfold needL at i1
            simp at i1
          unfold both
          simp only [Bool.false_and, Bool.false_eq_true, if_false]
          cases hq : linksF nd e f (l.drop (Tree.split l.length)) (m - Tree.split l.length) false with
          | nil => exact absurd hq hne
          | cons x r => rfl
        rw [if_neg hk, List.length_append, i1, needL_others hlt h1 hk, both_others nd hlt h1 hk _ _ _ _ i1, hb, i2, hr, hrm]
        exact ⟨rfl, rfl⟩
end

/-! ### Two ways that meet -/
section
variable {α β : Type} [DecidableEq α] [DecidableEq β] (pre : α → α → β) (hash : β → α)
def way : α → List Bool → List α → List β
  | x, t :: ts, h :: hs => (if t then pre h x else pre x h) :: way (hash (if t then pre h x else pre x h)) ts hs
  | _, _, _ => []
theorem way_length : ∀ (ts : List Bool) (hs : List α) (x : α), ts.length = hs.length → (way pre hash x ts hs).length = hs.length
  | [], [], x, _ => rfl
  | [], _ :: _, x, h => by simp at h
  | _ :: _, [], x, h => by simp at h
  | t :: ts, g :: hs, x, h => by
    show (way pre hash _ ts hs).length + 1 = hs.length + 1
    rw [way_length ts hs _ (by simpa using h)]
def twinB (p : β × β) : Bool := decide (p.1 ≠ p.2 ∧ hash p.1 = hash p.2)
/-- The first twins at one place. -/
def first (a b : List β) : Option (β × β) := (a.zip b).find? (twinB hash)
theorem first_some {a b : List β} {p : β × β} (h : first hash a b = some p) : p.1 ≠ p.2 ∧ hash p.1 = hash p.2 := by
  have := List.find?_some h
  simpa [twinB] using this
theorem meet (hinj : ∀ a b c d : α, pre a b = pre c d → a = c ∧ b = d) (ok : α → Prop) : ∀ (ts : List Bool) (hs gs : List α) (x y : α), ts.length = hs.length → ts.length = gs.length →
    foldW (fun a b => hash (pre a b)) x ts hs = foldW (fun a b => hash (pre a b)) y ts gs → (x ≠ y ∨ hs ≠ gs) → (first hash (way pre hash x ts hs) (way pre hash y ts gs)).isSome = true
  | [], [], [], x, y, _, _, hf, hne => by
    rcases hne with h | h
    · exact absurd hf h
    · exact absurd rfl h
  | [], _ :: _, _, x, y, h1, _, _, _ => by simp at h1
  | [], [], _ :: _, x, y, _, h2, _, _ => by simp at h2
  | _ :: _, [], _, x, y, h1, _, _, _ => by simp at h1
  | _ :: _, _ :: _, [], x, y, _, h2, _, _ => by simp at h2
  | t :: ts, h :: hs, g :: gs, x, y, h1, h2, hf, hne => by
    have e1 : ∀ a b : α, (if t then hash (pre b a) else hash (pre a b)) = hash (if t then pre b a else pre a b) := fun a b => by cases t <;> rfl
    rw [foldW_cons, foldW_cons, e1, e1] at hf
    simp only [way]
    by_cases hs0 : (if t then pre h x else pre x h) = (if t then pre g y else pre y g)
    · have hxy : x = y ∧ h = g := by
        cases t
        · exact hinj _ _ _ _ hs0
        · exact (hinj _ _ _ _ hs0).symm
      obtain ⟨rfl, rfl⟩ := hxy
      have hne2 : hs ≠ gs := by
        rcases hne with h' | h'
        · exact absurd rfl h'
        · exact fun e => h' (by rw [e])
      have ih := meet hinj ok ts hs gs _ _ (by simpa using h1) (by simpa using h2) hf (.inr hne2)
      unfold first at ih ⊢
      rw [List.zip_cons_cons, List.find?_cons_of_neg (by simp [twinB])]
      exact ih
    · by_cases hc : hash (if t then pre h x else pre x h) = hash (if t then pre g y else pre y g)
      · unfold first
        rw [List.zip_cons_cons, List.find?_cons_of_pos (by simp only [twinB]; exact decide_eq_true ⟨hs0, hc⟩)]
        rfl
      · have ih := meet hinj ok ts hs gs _ _ (by simpa using h1) (by simpa using h2) hf (.inl hc)
        unfold first at ih ⊢
        rw [List.zip_cons_cons, List.find?_cons_of_neg (by simp [twinB, hc])]
        exact ih
end
end Way
end Go.Proofs.YtfpipdopgepelaaDoor

namespace Go.Proofs.YtfpipdopgepelaaDoor
open Go.RowKit

/-- A step's cells: does what stands beside it stand on the left; how many leaves the part has; the place in it. -/
def stepC (s : Way.Step) : List Value := [.bool s.1, .int .i64 (s.2.1 : Int), .int .i64 (s.2.2 : Int)]
def flatSt (l : List Way.Step) : List Value := l.flatMap stepC
theorem stepC_length (s : Way.Step) : (stepC s).length = 3 := rfl
theorem flatSt_append (a b : List Way.Step) : flatSt (a ++ b) = flatSt a ++ flatSt b := by simp [flatSt]
theorem flatSt_one (s : Way.Step) : flatSt [s] = stepC s := by simp [flatSt]
theorem flatSt_length : ∀ l : List Way.Step, (flatSt l).length = l.length * 3
  | [] => rfl
  | s :: l => by
    have := flatSt_length l
    unfold flatSt at *
    rw [List.flatMap_cons, List.length_append, this, stepC_length, List.length_cons]
    omega
theorem flatSt_get : ∀ (l : List Way.Step) (k : Nat) (hk : k < l.length) (j : Nat) (v : Value), (stepC l[k])[j]? = some v → (flatSt l)[k * 3 + j]? = some v
  | [], k, hk, _, _, _ => by simp at hk
  | s :: l, 0, hk, j, v, hv => by
    have hj : j < 3 := by
      have := (List.getElem?_eq_some_iff.1 hv).1
      exact this
    unfold flatSt
    rw [List.flatMap_cons, Nat.zero_mul, Nat.zero_add, List.getElem?_append_left (by rw [stepC_length]; exact hj)]
    exact hv
  | s :: l, k + 1, hk, j, v, hv => by
    have ih := flatSt_get l k (by simpa using hk) j v (by simpa using hv)
    unfold flatSt at ih ⊢
    rw [List.flatMap_cons, List.getElem?_append_right (by rw [stepC_length]; omega), stepC_length, show (k + 1) * 3 + j - 3 = k * 3 + j from by omega]
    exact ih
theorem steps_mid {w : World} {B : Nat} {A : Option Addr} {l : List Way.Step} (h : Rd w B A (flatSt l)) {k : Nat} (hk : k < l.length) : ∃ b off, A = some ⟨b, off, none⟩ ∧ b < B ∧ w.rangeAt b (off + k * 3) (stepC l[k]) := by
  obtain ⟨b, off, e, hb, hc⟩ := h (by
    intro e
    have := congrArg List.length e
    rw [flatSt_length] at this
    simp at this
    omega)
  refine ⟨b, off, e, hb, fun j v hv => ?_⟩
  have := hc (k * 3 + j) v (flatSt_get l k hk j v hv)
  rwa [← Nat.add_assoc] at this
theorem stepC_one (s : Way.Step) : ∀ u ∈ stepC s, u.oneCell' = true := fun u hu => by
  simp [stepC] at hu
  rcases hu with rfl | rfl | rfl <;> rfl

end Go.Proofs.YtfpipdopgepelaaDoor

namespace Go.Proofs.YtfpipdopgepelaaDoor
open Go.RowKit

def deferOp : Op → Bool
  | .defer _ => true
  | _ => false
/-- None of these is a defer statement. -/
def noDefer (l : List Oper) : Bool := l.all fun o => !deferOp o.op
theorem noDefer_cons {o : Oper} {l : List Oper} (h : noDefer (o :: l) = true) : (∀ c, o.op ≠ .defer c) ∧ noDefer l = true := by
  simp only [noDefer, List.all_cons, Bool.and_eq_true] at h
  refine ⟨fun c hc => ?_, h.2⟩
  rw [hc] at h
  simp [deferOp] at h
theorem noDefer_at {l : List Oper} (h : noDefer l = true) {i : Nat} {o : Oper} (hi : l.toArray[i]? = some o) : ∀ c, o.op ≠ .defer c := fun c hc => by
  have hm : o ∈ l := List.mem_of_getElem? (i := i) (by simpa using hi)
  have := List.all_eq_true.1 h o hm
  rw [hc] at this
  simp [deferOp] at this

/-- The widest fence, in whatever round. -/
abbrev wideAt (r : Option Nat) : Fence := { Fence.wide with round := r }

section
variable {P : Program} {r : Option Nat} {n : Nat} {ops : Array Oper} {Q : Exit → Act → World → Prop}
theorem calls_at {f : FuncId} {args : Array Value} {w : World} {R : Ending → World → Prop} (h : Calls P f args w R) : CallsIn (wideAt r) n P f args w R := (callsIn_wide (n := n)).2 h
theorem rows_at {row : String} {args : Array Value} {w : World} {R : Value → World → Prop} (h : Rows P row args w R) : RowsIn (wideAt r) n P row args w R := fun c cs _ =>
  let ⟨v, w', q, s⟩ := h c cs
  ⟨v, w', q, stepsIn_wide.2 s⟩
theorem oper_in {o : Oper} {a : Act} {w : World} {K : Act → World → Prop} (hd : ∀ c, o.op ≠ .defer c) (h : o.wp P a w K Q) : o.wpIn (wideAt r) n P a w K Q := by
  unfold Oper.wpIn
  refine ⟨fun _ _ => trivial, ?_⟩
  rw [Oper.semAt_plain _ _ _ hd]
  unfold Oper.wp at h
  generalize (execOp a.eval o).run P w = x at *
  cases x with
  | ok x w' =>
    cases x with
    | value v => exact h
    | skip => exact h
    | defer d => exact h
    | enter f args => exact ⟨fun h => by simp [Fence.wide] at h, (calls_at (r := r) (n := n - 1) h).mono fun e w'' he => by cases e <;> exact he⟩
    | row row args => exact ⟨fun h => by simp [Fence.wide] at h, rows_at h⟩
    | round => exact h.elim
    | _ => exact h.elim
  | halt x w' => cases x <;> exact h
theorem list_in (hq : ¬ LetsOut Q) : ∀ (l : List Oper), noDefer l = true → ∀ {a : Act} {w : World}, wpList P ops Q l a w → wpListIn (wideAt r) n P ops Q l a w
  | [], _, _, _, h => h
  | o :: l, hd, a, w, h => by
    obtain ⟨h1, h2⟩ := noDefer_cons hd
    unfold wpListIn
    unfold wpList at h
    split
    · rename_i hw
      rw [if_pos hw] at h
      exact Oper.wpIn_mono (fun a' w' hh => list_in hq l h2 hh) (oper_in h1 (h.resolve_right (fun x => hq x.2)))
    · rename_i hw
      rw [if_neg hw] at h
      exact ⟨fun _ _ => trivial, list_in hq l h2 h⟩
/-- A region in the text's order. -/
theorem region_in {id : Nat} {l : List Oper} {a : Act} {w : World} (hq : ¬ LetsOut Q) (hd : noDefer l = true) (h : wpList P l.toArray Q l a w) : (Code.region id l.toArray false).wpIn (wideAt r) n P Q a w :=
  wpIn_region_lit (list_in hq l hd h)
theorem any_in {md : Region.Mode} {l : List Oper} (hq : ¬ LetsOut Q) (hd : noDefer l = true) : ∀ (fuel : Nat) (listed : Array Bool) (a : Act) (w : World), wpAny P md l.toArray Q fuel listed a w → wpAnyIn (wideAt r) n P md l.toArray Q fuel listed a w
  | 0, _, _, _, h => h
  | fuel + 1, listed, a, w, h => by
    refine ⟨h.1, fun i hi => ?_⟩
    have hh := h.2 i hi
    unfold wpOp at hh
    unfold wpOpIn
    cases ho : l.toArray[i]? with
    | none =>
      simp only [ho] at hh ⊢
      exact any_in hq hd fuel _ _ _ hh
    | some o =>
      simp only [ho] at hh ⊢
      split
      · rename_i hw
        rw [if_pos hw] at hh
        exact Oper.wpIn_mono (fun a' w' hk => any_in hq hd fuel _ _ _ hk) (oper_in (noDefer_at hd ho) (hh.resolve_right (fun x => hq x.2)))
      · rename_i hw
        rw [if_neg hw] at hh
        exact ⟨fun _ _ => trivial, any_in hq hd fuel _ _ _ hh⟩
/-- A region that draws its order. -/
theorem drawn_in {id : Nat} {l : List Oper} {a : Act} {w : World} (hq : ¬ LetsOut Q) (hm : P.follows .mixedOrders = true) (hd : noDefer l = true)
    (h : wpAny P .any l.toArray Q l.toArray.size (Array.replicate l.toArray.size false) a { w with drawn := w.drawn + 1 }) : (Code.region id l.toArray true).wpIn (wideAt r) n P Q a w :=
  wpIn_region_any hm (any_in hq hd _ _ _ _ h)
/-- A region that draws its order, one lexical walk (region_mix) in a round. -/
theorem region_mix_in {id : Nat} {l : List Oper} {a : Act} {w : World} (m : Nat) (hq : ¬ LetsOut Q) (hd : noDefer l = true) (hm : P.follows .mixedOrders = true) (hB : mixB loudOp .any l.toArray m = true)
    (h : ∀ x, wpMix P l.toArray (fun w' => ∃ x : More w, w' = grow w x) loudOp (fun a' w' => wpList P l.toArray Q (l.drop m) a' w') (l.take m) a (grow w x)) : (Code.region id l.toArray true).wpIn (wideAt r) n P Q a w := by
  obtain ⟨x, hx⟩ := more_of (Ext.refl w).drew
  have hx' : ({ w with drawn := w.drawn + 1 } : World) = grow w x := hx
  exact drawn_in hq hm hd (any_region_mix (S := fun w' => ∃ x : More w, w' = grow w x) m hB ⟨x, hx'⟩ (by rw [hx']; exact h x))
/-- One operation of a list, walked plainly. -/
theorem one_in {o : Oper} {rest : List Oper} {a : Act} {w : World} (hg : o.guard = none) (hd : ∀ c, o.op ≠ .defer c) (h : ∀ K : Act → World → Prop, (∀ a' w', wpListIn (wideAt r) n P ops Q rest a' w' → K a' w') → o.wp P a w K Q) : wpListIn (wideAt r) n P ops Q (o :: rest) a w :=
  wpListIn_plain hg fun K hK => oper_in hd (h K hK)
end

/-! ### What a loop over an iterator keeps -/
theorem Keep.putObj {S : Nat → Prop} (W : World) (l : Nat) (o' : Obj) (h : ¬ S l) : Keep S W (W.putObj l o') :=
  .of_grown (grownBy_putObj' W l o') (fun g e => by injection e with e; subst e; exact h)
theorem KeepsFrom.of_upd {B g : Nat} {W W' : World} (h : Upd g W W') (hg : g < B) : KeepsFrom B W W' :=
  ⟨h.size, fun k o hk h0 _ => (h.block k (Array.getElem?_eq_some_iff.1 h0).1 (fun e => by injection e with e; omega)).trans h0⟩
theorem KeepsFrom.of_keep {B : Nat} {S : Nat → Prop} {W W' : World} (h : Keep S W W') (hS : ∀ k, B ≤ k → S k) : KeepsFrom B W W' :=
  ⟨h.size, fun k o hk h0 _ => (h.block k (Array.getElem?_eq_some_iff.1 h0).1 (hS k hk)).trans h0⟩
theorem KeepsFrom.of_ext {B : Nat} {W W' : World} (h : Ext W W') : KeepsFrom B W W' :=
  ⟨h.size, fun k o hk h0 _ => (h.block k (Array.getElem?_eq_some_iff.1 h0).1).trans h0⟩
/-- A block that is cells is not the one that a loop's book-keeping turns. -/
theorem Blk.own {W W' : World} {row : Option Nat} {g : Nat} {t : TypeId} {cs : Array Value} (h : Blk W g t cs) (hg : W.grownBy W' row) (hr : ∀ r, row = some r → ∃ o : Obj, W.heap[r]? = some o ∧ o.isCells = false) : Blk W' g t cs :=
  h.grown hg (fun e => by
    obtain ⟨o, ho, hc⟩ := hr g e.symm
    have := h.symm.trans ho
    injection this with this
    subst this
    cases hc)
theorem Keep.ownFrom {B : Nat} {S : Nat → Prop} {w W W' : World} {row : Option Nat} (h : Keep S w W) (hg : W.grownBy W' row) (hr : ∀ r, row = some r → B ≤ r) (hS : ∀ k, S k → k < B) : Keep S w W' :=
  h.trans (.of_grown hg (fun g e hs => by have := hr g e; have := hS g hs; omega))

/-- What has come when k rounds are over. -/
def upto {α : Type} (f : Nat → α) (k : Nat) : List α := (List.range k).map f
theorem upto_succ {α : Type} (f : Nat → α) (k : Nat) : upto f (k + 1) = upto f k ++ [f k] := by simp [upto, List.range_succ]
theorem upto_length {α : Type} (f : Nat → α) (k : Nat) : (upto f k).length = k := by simp [upto]

/-- A row of cells loaded in a fence. -/
theorem listIn_mid {F : Fence} {n : Nat} {P : Program} {ops : Array Oper} {rest : List Oper} {o : Oper} {a : Act} {w : World} {Q : Exit → Act → World → Prop} (hg : o.guard = none) (ty : TypeId) (x : Operand) (ho : o.op = .load ty x)
    (b f : Nat) (hx : a.eval x = .pointer (some ⟨b, f, none⟩)) (cs : List Value) (d : TypeDesc) (hc : w.rangeAt b f cs) (hu : P.underlying ty = some d) (hd : d.isRow = true) (hi : (P.info? ty).map (·.size) = some cs.length)
    (h : wpListIn F n P ops Q rest (a.put o.dst (.agg cs.toArray)) w) : wpListIn F n P ops Q (o :: rest) a w := by
  refine wpListIn_plain hg fun K hK => ?_
  unfold Oper.wpIn
  refine ⟨fun f hf => by rw [Oper.about, ho] at hf; simp at hf, ?_⟩
  rw [Oper.semAt_plain F _ _ (by rw [ho]; intro c hc'; cases hc')]
  unfold execOp
  simp only [ho, hx, Instr.loadAt, Instr.sureAddr, Sem.run_bind, Sem.run_pure, Result.andThen_ok, run_loadVar_mid w b f ty cs d hc hu hd hi]
  exact hK _ _ h
theorem stopIn_load {F : Fence} {n : Nat} {P : Program} {ops : Array Oper} {Q : Exit → Act → World → Prop} {o : Oper} {rest : List Oper} {a : Act} {w : World} (ty : TypeId) (x : Operand) (ho : o.op = .load ty x) (h : Stopped (wpListIn F n P ops Q (o :: rest) a w)) : wpListIn F n P ops Q (o :: rest) a w := h.go

end Go.Proofs.YtfpipdopgepelaaDoor

namespace Go.Proofs.YtfpipdopgepelaaDoor
open Go.RowKit
attribute [local go_sem] Oper.semAt_some

def backBF (ls : List (Bool)) (k : Nat) : Nat × (Bool) := (ls.length - 1 - k, ls[ls.length - 1 - k]?.getD false)
theorem upto_backB (ls : List (Bool)) : (upto (backBF ls) ls.length).map (fun x => x.2) = ls.reverse := by
  apply List.ext_getElem
  · simp [upto]
  · intro i h1 h2
    have hi : i < ls.length := by simpa using h2
    simp only [upto, List.map_map, List.getElem_map, List.getElem_range, Function.comp, backBF]
    rw [List.getElem?_eq_getElem (by omega), List.getElem_reverse]
    rfl
abbrev backBV (x : Nat × (Bool)) : Array Value := #[.int .i64 (x.1 : Int), .bool x.2]

set_option maxHeartbeats 2000000 in
theorem backB_in (n : Nat) (hn : 1 ≤ n) (l Bs : Nat) (A : Option Addr) (cap : Nat) (ls : List (Bool)) (hn63 : ls.length ≤ 9223372036854775807) (S : Nat → Prop) (J Jx : List (Nat × (Bool)) → World → Prop)
    (hY : ∀ pre x W, J pre W → pre.length < ls.length → YieldAt Fence.wide (n - 1) Tryd.prog l (backBV x) W fun e W' =>
      (e = .returned (.bool true) ∧ J (pre ++ [x]) W' ∧ Keep S W W') ∨ (e = .returned (.bool false) ∧ Jx (pre ++ [x]) W'))
    (W : World) (hBs : Blk W Bs 45 #[.slice A ls.length cap]) (hS : S Bs) (hr : Rd W W.heap.size A (ls.map Value.bool)) (hA : ∀ b off, A = some ⟨b, off, none⟩ → S b) (h0 : J [] W) :
    CallsIn Fence.wide n Tryd.prog 74 #[.func (.yield l) #[] #[], .pointer (some ⟨Bs, 0, none⟩)] W fun e W' => (∃ v, e = .returned v) ∧
      ((∃ ys, ys = upto (backBF ls) ls.length ∧ J ys W') ∨ (∃ pre, True ∧ Jx pre W')) := by
  have hBs0 : W.cell? ⟨Bs, 0, none⟩ = some (.slice A ls.length cap) := Blk.cell hBs 0
  refine callsIn_of_wp Tryd.func74 rfl trivial ?_ rfl
  simp only [Tryd.ntmps74, List.size_toArray, List.length_cons, List.length_nil, Nat.reduceAdd, Nat.reduceSub, Array.replicate_succ, Array.replicate_zero, List.push_toArray, List.append_toArray, List.nil_append, List.cons_append]
  gi_wp2
  gi_loopw [3] (fun i wr => ∃ k : Nat, k ≤ ls.length ∧ i = .int .i64 ((ls.length : Int) - 1 - k) ∧ J (upto (backBF ls) k) wr ∧ Keep S W wr)
    (fun i _ => (intOf i + 1).toNat)
  case atStart => exact ⟨0, Nat.zero_le _, by simp, h0, Keep.refl _ _⟩
  case round =>
    obtain ⟨k, hk, rfl, hJs, hnx⟩ := hrel
    obtain ⟨wo, rfl⟩ : ∃ wo : World, wo = wr := ⟨_, rfl⟩
    by_cases hlt : k < ls.length
    · have hpos : (0 : Int) ≤ (ls.length : Int) - 1 - (k : Int) := by omega
      obtain ⟨j, hj⟩ : ∃ j : Nat, j = ls.length - 1 - k := ⟨_, rfl⟩
      have hjI : (ls.length : Int) - 1 - (k : Int) = (j : Int) := by omega
      have hjl : j < ls.length := by omega
      have hB1 := hBs.kept hnx hS
      have hBo : wo.cell? ⟨Bs, 0, none⟩ = some (.slice A ls.length cap) := Blk.cell hB1 0
      obtain ⟨b, off, rfl, hbl, hm⟩ := hr (map_ne Value.bool hjl)
      have hmo : wo.cell? ⟨b, off + j, none⟩ = some (.bool ls[j]) := (World.cell?_of_block (hnx.block b hbl (hA b off rfl))).trans (hm j _ (by rw [List.getElem?_map, List.getElem?_eq_getElem hjl]; rfl))
      clear hm
      obtain ⟨fn, tmps, assign, body, hy, hR⟩ := hY _ (backBF ls k) wo hJs (by rw [upto_length]; exact hlt)
      have hbf : backBF ls k = (j, ls[j]) := by unfold backBF; rw [← hj, List.getElem?_eq_getElem hjl]; rfl
      rw [hbf] at hy hR
      simp only [backBV] at hy
      have Hj := Lib.hid hjI
      have Hbf := Lib.hid hbf
      rw [hjI]
      rw [hjI] at hpos
      clear hbf hj hjI
      generalize ls[j] = q at *

      gi_wp2
      refine hR.mono ?_
      rintro e W3 (⟨rfl, hJ3, hk3⟩ | ⟨rfl, hJx3⟩)
      · clear hBo hBs0
        gi_wp2
        go_roundw
        case rel => exact ⟨k + 1, by omega, by have := Hj.out; congr 1; omega, by rw [upto_succ, Hbf.out]; exact hJ3, hnx.trans hk3⟩
        case measure => simp [intOf]
      · gi_wp2
        refine bodyPost_ret (results_none rfl _ _ _) rfl ?_
        exact ⟨⟨_, rfl⟩, .inr ⟨_, trivial, hJx3⟩⟩
    · obtain rfl : k = ls.length := by omega
      have hneg : ¬ (0 : Int) ≤ (ls.length : Int) - 1 - (ls.length : Int) := by omega
      gi_wp2
      go_end0
      exact ⟨⟨_, rfl⟩, .inl hJs⟩

theorem backB_stops (n : Nat) (hn : 1 ≤ n) (Bs : Nat) (A : Option Addr) (cap : Nat) (ls : List (Bool)) (hn63 : ls.length ≤ 9223372036854775807) (S : Nat → Prop) (w : World)
    (hBs : Blk w Bs 45 #[.slice A ls.length cap]) (hS : S Bs) (hr : Rd w w.heap.size A (ls.map Value.bool)) (hA : ∀ b off, A = some ⟨b, off, none⟩ → S b) :
    SeqStopsK Fence.wide n Tryd.prog 74 #[.pointer (some ⟨Bs, 0, none⟩)] backBV (Keep S) (fun ys => ys = upto (backBF ls) ls.length) (fun _ => True) ls.length w := fun l J Jx W hW _ _ hY h0 =>
  backB_in n hn l Bs A cap ls hn63 S J Jx hY W (hBs.below hW hBs.lt) hS ((hr.below hW (Nat.le_refl _)).more hW.size) hA h0

theorem BackwardB_calls (A : Option Addr) (len cap : Nat) (w : World) :
    Calls Tryd.prog 53 #[.slice A len cap] w fun e w' => e = .returned (.func (.func 74) #[] #[.pointer (some ⟨w.heap.size, 0, none⟩)]) ∧ w' = w.alloc (.cells #[.slice A len cap] 45) := by
  go_enter Tryd.func53, Tryd.ntmps53
  go_wp2_with fail
  go_ret
  exact ⟨rfl, rfl⟩

end Go.Proofs.YtfpipdopgepelaaDoor

namespace Go.Proofs.YtfpipdopgepelaaDoor
open Go.RowKit
attribute [local go_sem] Oper.semAt_some

def backSF (ls : List (Way.Step)) (k : Nat) : Nat × (Way.Step) := (ls.length - 1 - k, ls[ls.length - 1 - k]?.getD (false, 0, 0))
theorem upto_backS (ls : List (Way.Step)) : (upto (backSF ls) ls.length).map (fun x => x.2) = ls.reverse := by
  apply List.ext_getElem
  · simp [upto]
  · intro i h1 h2
    have hi : i < ls.length := by simpa using h2
    simp only [upto, List.map_map, List.getElem_map, List.getElem_range, Function.comp, backSF]
    rw [List.getElem?_eq_getElem (by omega), List.getElem_reverse]
    rfl
abbrev backSV (x : Nat × (Way.Step)) : Array Value := #[.int .i64 (x.1 : Int), .agg (stepC x.2).toArray]

set_option maxHeartbeats 2000000 in
theorem backS_in (n : Nat) (hn : 1 ≤ n) (l Bs : Nat) (A : Option Addr) (cap : Nat) (ls : List (Way.Step)) (hn63 : ls.length ≤ 9223372036854775807) (S : Nat → Prop) (J Jx : List (Nat × (Way.Step)) → World → Prop)
    (hY : ∀ pre x W, J pre W → pre.length < ls.length → YieldAt Fence.wide (n - 1) Tryd.prog l (backSV x) W fun e W' =>
      (e = .returned (.bool true) ∧ J (pre ++ [x]) W' ∧ Keep S W W') ∨ (e = .returned (.bool false) ∧ Jx (pre ++ [x]) W'))
    (W : World) (hBs : Blk W Bs 93 #[.slice A ls.length cap]) (hS : S Bs) (hr : Rd W W.heap.size A (flatSt ls)) (hA : ∀ b off, A = some ⟨b, off, none⟩ → S b) (h0 : J [] W) :
    CallsIn Fence.wide n Tryd.prog 87 #[.func (.yield l) #[] #[], .pointer (some ⟨Bs, 0, none⟩)] W fun e W' => (∃ v, e = .returned v) ∧
      ((∃ ys, ys = upto (backSF ls) ls.length ∧ J ys W') ∨ (∃ pre, True ∧ Jx pre W')) := by
  have hBs0 : W.cell? ⟨Bs, 0, none⟩ = some (.slice A ls.length cap) := Blk.cell hBs 0
  refine callsIn_of_wp Tryd.func87 rfl trivial ?_ rfl
  simp only [Tryd.ntmps87, List.size_toArray, List.length_cons, List.length_nil, Nat.reduceAdd, Nat.reduceSub, Array.replicate_succ, Array.replicate_zero, List.push_toArray, List.append_toArray, List.nil_append, List.cons_append]
  gi_wp2
  gi_loopw [3] (fun i wr => ∃ k : Nat, k ≤ ls.length ∧ i = .int .i64 ((ls.length : Int) - 1 - k) ∧ J (upto (backSF ls) k) wr ∧ Keep S W wr)
    (fun i _ => (intOf i + 1).toNat)
  case atStart => exact ⟨0, Nat.zero_le _, by simp, h0, Keep.refl _ _⟩
  case round =>
    obtain ⟨k, hk, rfl, hJs, hnx⟩ := hrel
    obtain ⟨wo, rfl⟩ : ∃ wo : World, wo = wr := ⟨_, rfl⟩
    by_cases hlt : k < ls.length
    · have hpos : (0 : Int) ≤ (ls.length : Int) - 1 - (k : Int) := by omega
      obtain ⟨j, hj⟩ : ∃ j : Nat, j = ls.length - 1 - k := ⟨_, rfl⟩
      have hjI : (ls.length : Int) - 1 - (k : Int) = (j : Int) := by omega
      have hjl : j < ls.length := by omega
      have hB1 := hBs.kept hnx hS
      have hBo : wo.cell? ⟨Bs, 0, none⟩ = some (.slice A ls.length cap) := Blk.cell hB1 0
      obtain ⟨b, off, rfl, hbl, hm⟩ := steps_mid hr hjl
      have hmo : wo.rangeAt b (off + j * 3) (stepC ls[j]) := fun i v hv => (World.cell?_of_block (hnx.block b hbl (hA b off rfl))).trans (hm i v hv)
      clear hm
      obtain ⟨fn, tmps, assign, body, hy, hR⟩ := hY _ (backSF ls k) wo hJs (by rw [upto_length]; exact hlt)
      have hbf : backSF ls k = (j, ls[j]) := by unfold backSF; rw [← hj, List.getElem?_eq_getElem hjl]; rfl
      rw [hbf] at hy hR
      simp only [backSV] at hy
      have Hj := Lib.hid hjI
      have Hbf := Lib.hid hbf
      rw [hjI]
      rw [hjI] at hpos
      clear hbf hj hjI
      generalize ls[j] = q at *
      gi_wp2_with (refine stopIn_load 99 (.tmp 15) rfl ?_)
      refine ⟨?_⟩
      refine listIn_mid rfl 99 (.tmp 15) rfl b (off + j * 3) (by rfl) (stepC q) _ hmo Tryd.underlying99 rfl (by kernel_rfl) ?_
      simp only [Act.put, List.setIfInBounds_toArray, List.set_cons_zero, List.set_cons_succ]
      gi_wp2
      refine hR.mono ?_
      rintro e W3 (⟨rfl, hJ3, hk3⟩ | ⟨rfl, hJx3⟩)
      · clear hBo hBs0
        gi_wp2
        go_roundw
        case rel => exact ⟨k + 1, by omega, by have := Hj.out; congr 1; omega, by rw [upto_succ, Hbf.out]; exact hJ3, hnx.trans hk3⟩
        case measure => simp [intOf]
      · gi_wp2
        refine bodyPost_ret (results_none rfl _ _ _) rfl ?_
        exact ⟨⟨_, rfl⟩, .inr ⟨_, trivial, hJx3⟩⟩
    · obtain rfl : k = ls.length := by omega
      have hneg : ¬ (0 : Int) ≤ (ls.length : Int) - 1 - (ls.length : Int) := by omega
      gi_wp2
      go_end0
      exact ⟨⟨_, rfl⟩, .inl hJs⟩

theorem backS_stops (n : Nat) (hn : 1 ≤ n) (Bs : Nat) (A : Option Addr) (cap : Nat) (ls : List (Way.Step)) (hn63 : ls.length ≤ 9223372036854775807) (S : Nat → Prop) (w : World)
    (hBs : Blk w Bs 93 #[.slice A ls.length cap]) (hS : S Bs) (hr : Rd w w.heap.size A (flatSt ls)) (hA : ∀ b off, A = some ⟨b, off, none⟩ → S b) :
    SeqStopsK Fence.wide n Tryd.prog 87 #[.pointer (some ⟨Bs, 0, none⟩)] backSV (Keep S) (fun ys => ys = upto (backSF ls) ls.length) (fun _ => True) ls.length w := fun l J Jx W hW _ _ hY h0 =>
  backS_in n hn l Bs A cap ls hn63 S J Jx hY W (hBs.below hW hBs.lt) hS ((hr.below hW (Nat.le_refl _)).more hW.size) hA h0

theorem BackwardS_calls (A : Option Addr) (len cap : Nat) (w : World) :
    Calls Tryd.prog 70 #[.slice A len cap] w fun e w' => e = .returned (.func (.func 87) #[] #[.pointer (some ⟨w.heap.size, 0, none⟩)]) ∧ w' = w.alloc (.cells #[.slice A len cap] 93) := by
  go_enter Tryd.func70, Tryd.ntmps70
  go_wp2_with fail
  go_ret
  exact ⟨rfl, rfl⟩

end Go.Proofs.YtfpipdopgepelaaDoor

namespace Go.Proofs.YtfpipdopgepelaaDoor
open Go.RowKit

/-- A world in which the blocks of S are as in w. -/
structure Held (S : Nat → Prop) (w : World) where
  world : World
  keep : Keep S w world
instance heldInhabited (S : Nat → Prop) (w : World) : Inhabited (Held S w) := ⟨⟨w, Keep.refl S w⟩⟩
def heldW (S : Nat → Prop) (w : World) (x : Held S w) : World := x.world
section
variable {S : Nat → Prop} {w : World} (x : Held S w)
theorem heldW_keep : Keep S w (heldW S w x) := x.keep
theorem held_of {w' : World} (h : Keep S w w') : ∃ y : Held S w, w' = heldW S w y := ⟨⟨w', h⟩, rfl⟩
variable {P : Program} {id : Nat} {Q : Exit → Act → World → Prop} {a : Act} {l : List Oper}
theorem region_keep (S : Nat → Prop) (n : Nat) (hm : P.follows .mixedOrders = true) (hB : mixB loudOp .any l.toArray n = true)
    (h : wpMix P l.toArray (fun w' => ∃ x : Held S w, w' = heldW S w x) loudOp (fun a' w' => wpList P l.toArray Q (l.drop n) a' w') (l.take n) a w.drew) : (Code.region id l.toArray true).wp P Q a w :=
  wp_region_mix (S := fun w' => ∃ x : Held S w, w' = heldW S w x) n hm hB (held_of (Keep.refl S w).drew) h
theorem region_keep0 (S : Nat → Prop) (hm : P.follows .mixedOrders = true) (hB : mixB loudOp .any l.toArray l.length = true)
    (h : wpMix P l.toArray (fun w' => ∃ x : Held S w, w' = heldW S w x) loudOp (fun a' w' => Q .normal a' w') l a w.drew) : (Code.region id l.toArray true).wp P Q a w := by
  refine region_keep S l.length hm hB ?_
  rw [List.take_length, List.drop_length]
  exact h
end
section
variable {P : Program} {ops : Array Oper} {T : Act → World → Prop} {o : Oper} {rest : List Oper} {a : Act} {w w0 : World} {S : Nat → Prop}
/-- A whole row. -/
theorem held_row (hl : loudOp o = false) (hw : Region.wanted o (yielded ops a.tmps) = true) (ty : TypeId) (p : Operand) (ho : o.op = .load ty p) (g : Nat) (hx : a.eval p = .pointer (some ⟨g, 0, none⟩))
    (t : TypeId) (cs : Array Value) (d : TypeDesc) (hg : Blk w0 g t cs) (hS : S g) (hu : P.underlying ty = some d) (hd : (match d with | .struct _ | .array _ _ => true | _ => false) = true) (hi : (P.info? ty).map (·.size) = some cs.size)
    (h : wpMix P ops (fun w' => ∃ x : Held S w0, w' = heldW S w0 x) loudOp T rest (a.put o.dst (.agg cs)) w) : wpMix P ops (fun w' => ∃ x : Held S w0, w' = heldW S w0 x) loudOp T (o :: rest) a w := by
  refine mix_quiet hl hw fun K hK => ⟨.agg cs, fun w' hs => ?_, hK _ h⟩
  obtain ⟨x, rfl⟩ := hs
  unfold Oper.quietAt execOp
  simp only [ho, hx, Instr.loadAt, Instr.sureAddr, Sem.run_bind, Sem.run_pure, Result.andThen_ok, run_loadVar_row (heldW S w0 x) g t ty cs (0, 0) d (hg.kept (heldW_keep x) hS) hu hd hi]
  exact ⟨rfl, rfl⟩
/-- A range of a row. -/
theorem held_mid (hl : loudOp o = false) (hw : Region.wanted o (yielded ops a.tmps) = true) (ty : TypeId) (p : Operand) (hop : o.op = .load ty p) (b f : Nat) (hx : a.eval p = .pointer (some ⟨b, f, none⟩)) (cs : List Value) (d : TypeDesc)
    (hc : w0.rangeAt b f cs) (hb : b < w0.heap.size) (hS : S b) (hu : P.underlying ty = some d) (hd : d.isRow = true) (hi : (P.info? ty).map (·.size) = some cs.length)
    (h : wpMix P ops (fun w' => ∃ x : Held S w0, w' = heldW S w0 x) loudOp T rest (a.put o.dst (.agg cs.toArray)) w) : wpMix P ops (fun w' => ∃ x : Held S w0, w' = heldW S w0 x) loudOp T (o :: rest) a w := by
  refine mix_quiet hl hw fun K hK => ⟨.agg cs.toArray, fun w' hs => ?_, hK _ h⟩
  obtain ⟨x, rfl⟩ := hs
  have hm : (heldW S w0 x).rangeAt b f cs := fun i v hv => (World.cell?_of_block ((heldW_keep x).block b hb hS)).trans (hc i v hv)
  unfold Oper.quietAt execOp
  simp only [hop, hx, Instr.loadAt, Instr.sureAddr, Sem.run_bind, Sem.run_pure, Result.andThen_ok, run_loadVar_mid (heldW S w0 x) b f ty cs d hm hu hd hi]
  exact ⟨rfl, rfl⟩
end

end Go.Proofs.YtfpipdopgepelaaDoor

namespace Go.Proofs.YtfpipdopgepelaaDoor
open Go.ChangeShapes Go.WideShapes Go.ChangeAt Go.RowKit
attribute [local go_sem] bs_size bs_toList2 bs_append bs_extract_end bs_extract_begin bs_get wrap64_b grow_cell grow_frozen

theorem info_step : (Tryd.prog.info? 99).map (fun i => (i.zero, i.size, i.bytes)) = some (some (.agg #[.bool false, .int .i64 0, .int .i64 0]), 3, 24) := by kernel_rfl

theorem owns_base {w : World} {B B' : Nat} {e : TypeId} {size : Nat} {v : Value} {n : Nat} {xs : List Value} (h : w.ownsRow B e size v n xs) (hb : B' ≤ B) : w.ownsRow B' e size v n xs :=
  ⟨h.1, h.2.imp id fun ⟨g, cap, cur, e, hg, hr⟩ => ⟨g, cap, cur, e, Nat.le_trans hb hg, hr⟩⟩
theorem owns_far {w : World} {B g : Nat} {e : TypeId} {size : Nat} {v : Value} {n : Nat} {xs : List Value} (h : w.ownsRow B e size v n xs) (hg : g < B) (u : Value) : (w.setCell ⟨g, 0, none⟩ u).ownsRow B e size v n xs :=
  h.kept (row := some g) ⟨rfl, rfl, rfl, by simp, fun i hi hne => Below.heap_setCell _ _ _ _ (fun e => hne (by rw [e]))⟩ (.inr (fun e => by have := (h.lt g e).1; omega))
theorem owns_drew {w : World} {B : Nat} {e : TypeId} {size : Nat} {v : Value} {n : Nat} {xs : List Value} (h : w.ownsRow B e size v n xs) : w.drew.ownsRow B e size v n xs :=
  h.kept (row := none) ⟨rfl, rfl, rfl, Nat.le_refl _, fun _ _ _ => rfl⟩ (by cases v.ownBlock <;> simp)
/-- append(l, a step) -/
theorem append_step {ops : Array Oper} {rest : List Oper} {o : Oper} {a : Act} {w : World} {Q : Exit → Act → World → Prop} (hgd : o.guard = none) (s x : Operand) (ho : o.op = .call { callee := .builtin .append, args := #[s, x], argTypes := #[93, 93] })
    (v : Value) (l : List Way.Step) (b : Way.Step) (hs : a.eval s = v) (gx : Nat) (hx : a.eval x = .slice (some ⟨gx, 0, none⟩) 1 1) (hgx : gx = w.heap.size) (hn : l.length ≤ 1099511627776) (base : Nat) (hb : base ≤ w.heap.size)
    (h : w.ownsRow base 99 3 v l.length (flatSt l))
    (hK : ∀ v' w', w'.ownsRow base 99 3 v' (l.length + 1) (flatSt (l ++ [b])) → Keep (fun k => some k ≠ v.ownBlock) w w' → w.heap.size + 1 ≤ w'.heap.size → wpList Tryd.prog ops Q rest (a.put o.dst v') w') :
    wpList Tryd.prog ops Q (o :: rest) a (w.alloc (.cells (stepC b).toArray 99)) := by
  subst hgx
  obtain ⟨i0, hi, hz0, hz1, hz2⟩ := info_parts info_step
  refine wpList_append_own _ hgd s x 93 ho base 99 i0 _ 3 24 Tryd.underlying93 hi hz0 hz1 hz2 rfl (by decide) v l.length (flatSt l) hs (h.alloc _) ⟨w.heap.size, 0, none⟩ 1 1 (stepC b) hx rfl (fun j u hj => ?_) (fun u hu => ?_) (by unfold maxLen; omega) (by omega) (by simp; omega) fun v' w' h1 h2 h3 => ?_
  · have hj' := (List.getElem?_eq_some_iff.1 hj).1
    rw [stepC_length] at hj'
    have := (Blk.new w 99 (stepC b).toArray).cell j
    have e : (⟨w.heap.size, 0, none⟩ : Addr).add j = ⟨w.heap.size, j, none⟩ := by
      unfold Addr.add
      by_cases h0 : j = 0
      · subst h0; rfl
      · simp [h0]
    rw [e, this]
    simpa using hj
  · exact stepC_one b u hu
  · refine hK v' w' ?_ (((Keep.refl _ _).alloc _).trans (.of_grown h2 (fun g e hs => hs e.symm))) (by have := h2.size; simpa using this)
    rw [flatSt_append, flatSt_one]
    exact h1

set_option maxHeartbeats 1000000 in
theorem into_calls (b : Bool) (n m : Nat) (go gm gn B : Nat) (vo vm vn : Value) (l : List Way.Step) (hn : l.length ≤ 1099511627776) (w w0 : World) (ho : Blk w go 93 #[vo]) (hm : Blk w gm 3 #[vm]) (hn' : Blk w gn 3 #[vn])
    (hown : w.ownsRow B 99 3 vo l.length (flatSt l)) (h1 : go ≠ gm) (h2 : go ≠ gn) (h3 : gm ≠ gn) (hB : go < B) (hBm : gm < B) (hBn : gn < B) (hBw : B ≤ w.heap.size) (hE : Ext w0 w) (g1 : w0.heap.size ≤ go) (g2 : w0.heap.size ≤ gm) (g3 : w0.heap.size ≤ gn) :
    Calls Tryd.prog 85 #[.agg #[.bool b, .int .i64 (n : Int), .int .i64 (m : Int)], .pointer (some ⟨go, 0, none⟩), .pointer (some ⟨gm, 0, none⟩), .pointer (some ⟨gn, 0, none⟩)] w fun e w' =>
      e = .returned (.tuple #[]) ∧ (∃ v', Blk w' go 93 #[v'] ∧ w'.ownsRow B 99 3 v' (l.length + 1) (flatSt (l ++ [(b, n, m)]))) ∧ Blk w' gm 3 #[.int .i64 (m : Int)] ∧ Blk w' gn 3 #[.int .i64 (n : Int)] ∧ Ext w0 w' ∧ w.heap.size ≤ w'.heap.size := by
  have c0 : w.cell? ⟨go, 0, none⟩ = some vo := Blk.cell ho 0
  have hgl := ho.lt
  have hgm := hm.lt
  have hgn := hn'.lt
  go_enter Tryd.func85, Tryd.ntmps85
  go_wp2_with (refine stop_dst 8 rfl ?_)
  refine ⟨?_⟩
  have hown2 := hown.alloc (.cells (stepC (b, n, m)).toArray 99)
  refine append_step (w := w.alloc (.cells (stepC (b, n, m)).toArray 99)) rfl (.tmp 5) (.tmp 7) rfl vo l (b, n, m) rfl (w.heap.size + 1) rfl (by simp) hn B (by simp; omega) hown2 fun v' w1 hr1 hg1 hs1 => ?_
  have hlt := hown.lt
  have ro : ∀ g, g < B → (fun k => some k ≠ vo.ownBlock) g := fun g hg e => by have := (hlt g e.symm).1; omega
  have ho1 := (ho.alloc (.cells (stepC (b, n, m)).toArray 99)).kept hg1 (ro _ hB)
  have hm1 := (hm.alloc (.cells (stepC (b, n, m)).toArray 99)).kept hg1 (ro _ hBm)
  have hn1 := (hn'.alloc (.cells (stepC (b, n, m)).toArray 99)).kept hg1 (ro _ hBn)
  have hx1 := (Blk.new w 99 (stepC (b, n, m)).toArray).kept hg1 (fun e => by have := (hlt _ e.symm).2; omega)
  have hE1 : Ext w0 w1 := (((Keep.of_ext hE).alloc _).trans (hg1.mono (fun k _ hk e => by have := (hlt k e.symm).1; omega))).ext
  simp only [Act.put, List.setIfInBounds_toArray, List.set_cons_zero, List.set_cons_succ]
  clear hg1 ro hlt ho hm hn' hown hown2 c0 hE
  have hz : w.heap.size < w1.heap.size := by simp at hs1; omega
  have c0 : w1.cell? ⟨go, 0, none⟩ = some vo := Blk.cell ho1 0
  have f0 : w1.frozen? ⟨go, 0, none⟩ = false := ho1.frozen 0
  obtain ⟨A, c, rfl⟩ := own_slice hr1
  go_wp2_with fail
  have ho2 : Blk (w1.setCell ⟨go, 0, none⟩ (.slice A (l.length + 1) c)) go 93 #[.slice A (l.length + 1) c] := ho1.set_ 0 _
  have hm2 := hm1.far (p := ⟨go, 0, none⟩) (Ne.symm h1) (.slice A (l.length + 1) c)
  have hn2 := hn1.far (p := ⟨go, 0, none⟩) (Ne.symm h2) (.slice A (l.length + 1) c)
  have hx2 := hx1.far (p := ⟨go, 0, none⟩) (by simp; omega) (.slice A (l.length + 1) c)
  have hE2 : Ext w0 (w1.setCell ⟨go, 0, none⟩ (.slice A (l.length + 1) c)) := hE1.setCell g1 _
  have hr2 : (w1.setCell ⟨go, 0, none⟩ (.slice A (l.length + 1) c)).ownsRow B 99 3 (.slice A (l.length + 1) c) (l.length + 1) (flatSt (l ++ [(b, n, m)])) := owns_far hr1 hB _
  have hz2 : w.heap.size ≤ (w1.setCell ⟨go, 0, none⟩ (.slice A (l.length + 1) c)).heap.size := by simp; omega
  generalize w1.setCell ⟨go, 0, none⟩ (.slice A (l.length + 1) c) = w2 at *
  clear hr1 ho1 hm1 hn1 hx1 hE1 c0 f0 hs1 hz
  have x0 : w2.cell? ⟨w.heap.size, 2, none⟩ = some (.int .i64 (m : Int)) := hx2.cell 2
  have x1 : w2.cell? ⟨w.heap.size, 1, none⟩ = some (.int .i64 (n : Int)) := hx2.cell 1
  have y0 : w2.cell? ⟨gm, 0, none⟩ = some vm := hm2.cell 0
  have y1 : w2.cell? ⟨gn, 0, none⟩ = some vn := hn2.cell 0
  have z0 : w2.frozen? ⟨gm, 0, none⟩ = false := hm2.frozen 0
  have z1 : w2.frozen? ⟨gn, 0, none⟩ = false := hn2.frozen 0
  go_region
  have hm3 := (((hm2.set_ 0 (.int .i64 (m : Int))).far (p := ⟨gn, 0, none⟩) h3 (.int .i64 (n : Int)))).drew
  have hn3 := (((hn2.far (p := ⟨gm, 0, none⟩) (Ne.symm h3) (.int .i64 (m : Int))).set_ 0 (.int .i64 (n : Int)))).drew
  have ho3 := (((ho2.far (p := ⟨gm, 0, none⟩) h1 (.int .i64 (m : Int))).far (p := ⟨gn, 0, none⟩) h2 (.int .i64 (n : Int)))).drew
  have hr3 := owns_drew (owns_far (owns_far hr2 hBm (.int .i64 (m : Int))) hBn (.int .i64 (n : Int)))
  have hE3 := ((hE2.setCell (p := ⟨gm, 0, none⟩) g2 (.int .i64 (m : Int))).setCell (p := ⟨gn, 0, none⟩) g3 (.int .i64 (n : Int))).drew
  clear hx2 hm2 hn2 ho2 hr2 hE2 x0 x1 y0 y1 z0 z1
  go_end0
  exact ⟨rfl, ⟨_, ho3, hr3⟩, hm3, hn3, hE3, by simpa using hz2⟩

def cellN (w : World) (g : Nat) : Nat := match w.cell? ⟨g, 0, none⟩ with
  | some (.int _ i) => i.toNat
  | _ => 0
theorem cellN_at {w : World} {g : Nat} {t : TypeId} {i : Nat} (h : Blk w g t #[.int .i64 (i : Int)]) : cellN w g = i := by
  have c0 : w.cell? ⟨g, 0, none⟩ = some (.int .i64 (i : Int)) := Blk.cell h 0
  unfold cellN
  rw [c0]
  simp

set_option maxHeartbeats 1000000 in
theorem down_calls (whole : Bool) (m n : Nat) (hn : n ≤ 1099511627776) (hm : m ≤ n) (w : World) :
    Calls Tryd.prog 68 #[.int .i64 (m : Int), .int .i64 (n : Int), .bool whole] w fun e w' => ∃ v, e = .returned v ∧ w'.ownsRow w.heap.size 99 3 v (Way.down whole m n).length (flatSt (Way.down whole m n)) ∧ Ext w w' := by
  obtain ⟨goal, hgoal⟩ : ∃ g, g = Way.down whole m n := ⟨_, rfl⟩
  have hgl : goal.length ≤ n := by rw [hgoal]; exact Way.down_length whole n m
  rw [← hgoal]
  have Hg := Lib.hid hgoal
  clear hgoal
  go_enter Tryd.func68, Tryd.ntmps68
  go_wp2_with fail
  go_step3
  go_wp2_with fail
  have hm0 : Blk (((w.alloc (.cells #[.int .i64 (m : Int)] 3)).alloc (.cells #[.int .i64 (n : Int)] 3)).alloc (.cells #[.slice none 0 0] 93)) w.heap.size 3 #[.int .i64 (m : Int)] := ((Blk.new w _ _).alloc _).alloc _
  have hn0 : Blk (((w.alloc (.cells #[.int .i64 (m : Int)] 3)).alloc (.cells #[.int .i64 (n : Int)] 3)).alloc (.cells #[.slice none 0 0] 93)) (w.heap.size + 1) 3 #[.int .i64 (n : Int)] := by
    have := ((Blk.new (w.alloc (.cells #[.int .i64 (m : Int)] 3)) 3 #[.int .i64 (n : Int)]).alloc (.cells #[.slice none 0 0] 93))
    simpa using this
  have ho0 : Blk (((w.alloc (.cells #[.int .i64 (m : Int)] 3)).alloc (.cells #[.int .i64 (n : Int)] 3)).alloc (.cells #[.slice none 0 0] 93)) (w.heap.size + 1 + 1) 93 #[.slice none 0 0] := by
    have := (Blk.new ((w.alloc (.cells #[.int .i64 (m : Int)] 3)).alloc (.cells #[.int .i64 (n : Int)] 3)) 93 #[.slice none 0 0])
    simpa using this
  have hE0 : Ext w (((w.alloc (.cells #[.int .i64 (m : Int)] 3)).alloc (.cells #[.int .i64 (n : Int)] 3)).alloc (.cells #[.slice none 0 0] 93)) := (((Ext.refl w).alloc _).alloc _).alloc _
  have hz0 : (((w.alloc (.cells #[.int .i64 (m : Int)] 3)).alloc (.cells #[.int .i64 (n : Int)] 3)).alloc (.cells #[.slice none 0 0] 93)).heap.size = w.heap.size + 3 := by simp
  generalize ((w.alloc (.cells #[.int .i64 (m : Int)] 3)).alloc (.cells #[.int .i64 (n : Int)] 3)).alloc (.cells #[.slice none 0 0] 93) = w1 at *
  have hr0 : w1.ownsRow (w.heap.size + 3) 99 3 (.slice none 0 0) ([] : List Way.Step).length (flatSt []) := World.ownsRow_nil _ _ _ _
  generalize hB : w.heap.size = B at *
  go_step3
  go_wp2_with fail
  go_loopw [9] (fun s9 wr => (∃ z, s9 = z) ∧
      ∃ (i j : Nat) (out : List Way.Step) (v : Value), i ≤ j ∧ j ≤ n ∧ out ++ Way.down whole i j = goal ∧ Blk wr B 3 #[.int .i64 (i : Int)] ∧ Blk wr (B + 1) 3 #[.int .i64 (j : Int)] ∧ Blk wr (B + 1 + 1) 93 #[v] ∧ wr.ownsRow (B + 3) 99 3 v out.length (flatSt out) ∧ B + 3 ≤ wr.heap.size ∧ Ext w wr) (fun _ wr => cellN wr (B + 1))
  case atStart => exact ⟨⟨_, rfl⟩, m, n, [], _, hm, Nat.le_refl _, by rw [Hg.out]; rfl, hm0, hn0, ho0, hr0, by omega, hE0⟩
  case round =>
    obtain ⟨wo, rfl⟩ : ∃ wo : World, wo = wr := ⟨_, rfl⟩
    obtain ⟨_, i, j, out, v, hij, hjn, hog, hI, hJ, hO, hR, hz, hE⟩ := hrel
    clear hm0 hn0 ho0 hr0 hE0 hz0
    have hol : out.length ≤ n := by have := congrArg List.length hog; rw [List.length_append] at this; omega
    have hms := cellN_at hJ
    have ci : wo.cell? ⟨B, 0, none⟩ = some (.int .i64 (i : Int)) := Blk.cell hI 0
    have cj : wo.cell? ⟨B + 1, 0, none⟩ = some (.int .i64 (j : Int)) := Blk.cell hJ 0
    have co : wo.cell? ⟨B + 1 + 1, 0, none⟩ = some v := Blk.cell hO 0
    have Hog := Lib.hid hog
    clear hog
    by_cases hdone : j < 2 ∨ (whole = true ∧ i = j)
    · have hgo : out = goal := by rw [← Hog.out, Way.down_done hdone, List.append_nil]
      subst hgo
      rcases hdone with h2 | ⟨rfl, rfl⟩
      · have d1 : decide ((j : Int) < 2) = true := decide_eq_true (by omega)
        go_wp2_with fail
        rw [Exit.noGoto_ret]
        go_ret
        exact ⟨_, rfl, owns_base hR (by omega), hE⟩
      · by_cases h2 : i < 2
        · have d1 : decide ((i : Int) < 2) = true := decide_eq_true (by omega)
          go_wp2_with fail
          rw [Exit.noGoto_ret]
          go_ret
          exact ⟨_, rfl, owns_base hR (by omega), hE⟩
        · have d1 : decide ((i : Int) < 2) = false := decide_eq_false (by omega)
          go_wp2_with fail
          rw [Exit.noGoto_ret]
          go_ret
          exact ⟨_, rfl, owns_base hR (by omega), hE⟩
    · have hj2 : ¬ j < 2 := fun h => hdone (.inl h)
      have d1 : decide ((j : Int) < 2) = false := decide_eq_false (by omega)
      have d2 : (whole && decide (i = j)) = false := by
        cases whole
        · rfl
        · simp only [Bool.true_and, decide_eq_false_iff_not]
          exact fun h => hdone (.inr ⟨rfl, h⟩)
      have hsl := Tree.split_lt j (by omega)
      have hsp := Tree.split_pos j (by omega)
      have HSp := Lib.hid (splitI_nat j (by omega))
      by_cases hk : i < Tree.split j ∨ (whole = true ∧ i = Tree.split j)
      · have Hp := Lib.hid (Way.down_first hdone hk)
        clear hdone
        cases whole
        · have hki : i < Tree.split j := by simpa using hk
          clear hk
          go_wp2_with fail
          refine (Split_calls (j : Int) (by omega) (by omega) _).mono ?_; rw [HSp.out]; rintro e w1 ⟨rfl, rfl⟩
          generalize Tree.split j = k at *
          have q1 : decide ((i : Int) < (k : Int)) = true := decide_eq_true (by omega)
          go_wp2_with fail
          refine (into_calls false k i (B + 1 + 1) B (B + 1) (B + 3) v _ _ out (by omega) wo w hO hI hJ hR (by omega) (by omega) (by omega) (by omega) (by omega) (by omega) hz hE (by omega) (by omega) (by omega)).mono ?_
          rintro e w2 ⟨rfl, ⟨v2, hO2, hR2⟩, hI2, hJ2, hE2, hs2⟩
          clear hO hI hJ hR hE ci cj co
          have hms2 := cellN_at hJ2
          have hz2 : B + 3 ≤ w2.heap.size := Nat.le_trans hz hs2
          go_wp2_with fail
          go_roundw
          case rel => exact ⟨⟨_, rfl⟩, i, k, out ++ [(false, k, i)], v2, by omega, by omega, by rw [← Hog.out, Hp.out]; simp, hI2, hJ2, hO2, by rw [List.length_append]; exact hR2, hz2, hE2⟩
          case measure => rw [hms, hms2]; omega
        · have hne : i ≠ j := by simpa using d2
          have q0 : ((i : Int) == (j : Int)) = false := by simp; omega
          have hki : i ≤ Tree.split j := by rcases hk with h | ⟨-, h⟩ <;> omega
          clear hk
          by_cases hlt : i < Tree.split j
          · skip
            go_wp2_with fail
            refine (Split_calls (j : Int) (by omega) (by omega) _).mono ?_; rw [HSp.out]; rintro e w1 ⟨rfl, rfl⟩
            generalize Tree.split j = k at *
            have q1 : decide ((i : Int) < (k : Int)) = true := decide_eq_true (by omega)
            go_wp2_with fail
            refine (into_calls false k i (B + 1 + 1) B (B + 1) (B + 3) v _ _ out (by omega) wo w hO hI hJ hR (by omega) (by omega) (by omega) (by omega) (by omega) (by omega) hz hE (by omega) (by omega) (by omega)).mono ?_
            rintro e w2 ⟨rfl, ⟨v2, hO2, hR2⟩, hI2, hJ2, hE2, hs2⟩
            clear hO hI hJ hR hE ci cj co
            have hms2 := cellN_at hJ2
            have hz2 : B + 3 ≤ w2.heap.size := Nat.le_trans hz hs2
            go_wp2_with fail
            go_roundw
            case rel => exact ⟨⟨_, rfl⟩, i, k, out ++ [(false, k, i)], v2, by omega, by omega, by rw [← Hog.out, Hp.out]; simp, hI2, hJ2, hO2, by rw [List.length_append]; exact hR2, hz2, hE2⟩
            case measure => rw [hms, hms2]; omega
          · skip
            go_wp2_with fail
            refine (Split_calls (j : Int) (by omega) (by omega) _).mono ?_; rw [HSp.out]; rintro e w1 ⟨rfl, rfl⟩
            generalize Tree.split j = k at *
            have q1 : decide ((i : Int) < (k : Int)) = false := decide_eq_false (by omega)
            have q2 : ((i : Int) == (k : Int)) = true := by simp; omega
            go_wp2_with fail
            refine (into_calls false k i (B + 1 + 1) B (B + 1) (B + 3) v _ _ out (by omega) wo w hO hI hJ hR (by omega) (by omega) (by omega) (by omega) (by omega) (by omega) hz hE (by omega) (by omega) (by omega)).mono ?_
            rintro e w2 ⟨rfl, ⟨v2, hO2, hR2⟩, hI2, hJ2, hE2, hs2⟩
            clear hO hI hJ hR hE ci cj co
            have hms2 := cellN_at hJ2
            have hz2 : B + 3 ≤ w2.heap.size := Nat.le_trans hz hs2
            go_wp2_with fail
            go_roundw
            case rel => exact ⟨⟨_, rfl⟩, i, k, out ++ [(false, k, i)], v2, by omega, by omega, by rw [← Hog.out, Hp.out]; simp, hI2, hJ2, hO2, by rw [List.length_append]; exact hR2, hz2, hE2⟩
            case measure => rw [hms, hms2]; omega
      · have Hp := Lib.hid (Way.down_others hdone hk)
        clear hdone
        cases whole
        · have hki : ¬ i < Tree.split j := fun h => hk (.inl h)
          clear hk
          go_wp2_with fail
          refine (Split_calls (j : Int) (by omega) (by omega) _).mono ?_; rw [HSp.out]; rintro e w1 ⟨rfl, rfl⟩
          generalize Tree.split j = k at *
          have q1 : decide ((i : Int) < (k : Int)) = false := decide_eq_false (by omega)
          have e1 : (i : Int) - (k : Int) = ((i - k : Nat) : Int) := by omega
          have e2 : (j : Int) - (k : Int) = ((j - k : Nat) : Int) := by omega
          go_wp2_with fail
          refine (into_calls true (j - k) (i - k) (B + 1 + 1) B (B + 1) (B + 3) v _ _ out (by omega) wo w hO hI hJ hR (by omega) (by omega) (by omega) (by omega) (by omega) (by omega) hz hE (by omega) (by omega) (by omega)).mono ?_
          rintro e w2 ⟨rfl, ⟨v2, hO2, hR2⟩, hI2, hJ2, hE2, hs2⟩
          clear hO hI hJ hR hE ci cj co
          have hms2 := cellN_at hJ2
          have hz2 : B + 3 ≤ w2.heap.size := Nat.le_trans hz hs2
          go_wp2_with fail
          go_roundw
          case rel => exact ⟨⟨_, rfl⟩, i - k, j - k, out ++ [(true, j - k, i - k)], v2, by omega, by omega, by rw [← Hog.out, Hp.out]; simp, hI2, hJ2, hO2, by rw [List.length_append]; exact hR2, hz2, hE2⟩
          case measure => rw [hms, hms2]; omega
        · have hne : i ≠ j := by simpa using d2
          have q0 : ((i : Int) == (j : Int)) = false := by simp; omega
          have hki : ¬ i < Tree.split j := fun h => hk (.inl h)
          have hki2 : i ≠ Tree.split j := fun h => hk (.inr ⟨rfl, h⟩)
          clear hk
          go_wp2_with fail
          refine (Split_calls (j : Int) (by omega) (by omega) _).mono ?_; rw [HSp.out]; rintro e w1 ⟨rfl, rfl⟩
          generalize Tree.split j = k at *
          have q1 : decide ((i : Int) < (k : Int)) = false := decide_eq_false (by omega)
          have q2 : ((i : Int) == (k : Int)) = false := by simp; omega
          have e1 : (i : Int) - (k : Int) = ((i - k : Nat) : Int) := by omega
          have e2 : (j : Int) - (k : Int) = ((j - k : Nat) : Int) := by omega
          go_wp2_with fail
          refine (into_calls true (j - k) (i - k) (B + 1 + 1) B (B + 1) (B + 3) v _ _ out (by omega) wo w hO hI hJ hR (by omega) (by omega) (by omega) (by omega) (by omega) (by omega) hz hE (by omega) (by omega) (by omega)).mono ?_
          rintro e w2 ⟨rfl, ⟨v2, hO2, hR2⟩, hI2, hJ2, hE2, hs2⟩
          clear hO hI hJ hR hE ci cj co
          have hms2 := cellN_at hJ2
          have hz2 : B + 3 ≤ w2.heap.size := Nat.le_trans hz hs2
          go_wp2_with fail
          go_roundw
          case rel => exact ⟨⟨_, rfl⟩, i - k, j - k, out ++ [(true, j - k, i - k)], v2, by omega, by omega, by rw [← Hog.out, Hp.out]; simp, hI2, hJ2, hO2, by rw [List.length_append]; exact hR2, hz2, hE2⟩
          case measure => rw [hms, hms2]; omega

end Go.Proofs.YtfpipdopgepelaaDoor

namespace Go.Proofs.YtfpipdopgepelaaDoor
open Go.ChangeShapes Go.WideShapes Go.ChangeAt Go.RowKit
attribute [local go_sem] bs_size bs_toList2 bs_append bs_extract_end bs_extract_begin bs_get wrap64_b grow_cell grow_frozen

theorem info_bool : (Tryd.prog.info? 4).map (fun i => (i.zero, i.size, i.bytes)) = some (some (.bool false), 1, 1) := by kernel_rfl
abbrev boolsV (l : List Bool) : List Value := l.map Value.bool
/-- A row of bools of the call's own. -/
abbrev OwnB (w : World) (base : Nat) (v : Value) (l : List Bool) : Prop := w.ownsRow base 4 1 v l.length (boolsV l)
theorem ownB_nil (w : World) (base : Nat) : OwnB w base (.slice none 0 0) [] := World.ownsRow_nil _ _ _ _
/-- append(l, b) -/
theorem append_bool {ops : Array Oper} {rest : List Oper} {o : Oper} {a : Act} {w w0 : World} {Q : Exit → Act → World → Prop} (hgd : o.guard = none) (s x : Operand) (ho : o.op = .call { callee := .builtin .append, args := #[s, x], argTypes := #[45, 45] })
    (v : Value) (l : List Bool) (b : Bool) (hs : a.eval s = v) (hx : a.eval x = .slice (some ⟨w.heap.size, 0, none⟩) 1 1) (hn : l.length ≤ 1099511627776) (base : Nat) (hb : base ≤ w.heap.size)
    (h : OwnB w base v l) (hE : Ext w0 w) (hb0 : w0.heap.size ≤ base)
    (hK : ∀ A c w', OwnB w' base (.slice A (l.length + 1) c) (l ++ [b]) → Ext w0 w' → wpList Tryd.prog ops Q rest (a.put o.dst (.slice A (l.length + 1) c)) w') :
    wpList Tryd.prog ops Q (o :: rest) a (w.alloc (.cells #[.bool b] 4)) := by
  obtain ⟨i0, hi, hz0, hz1, hz2⟩ := info_parts info_bool
  refine wpList_append_own _ hgd s x 45 ho base 4 i0 (.bool false) 1 1 Tryd.underlying45 hi hz0 hz1 hz2 rfl (by decide) v l.length (boolsV l) hs (h.alloc _) ⟨w.heap.size, 0, none⟩ 1 1 [.bool b] hx rfl (fun j u hj => ?_) (fun u hu => ?_) (by unfold maxLen; omega) (by omega) (by simp; omega) fun v' w' h1 h2 _ => ?_
  · match j, hj with
    | 0, hj => simp at hj; subst hj; simp [Addr.add]
  · simp at hu; subst hu; rfl
  · obtain ⟨A, c, rfl⟩ := own_slice h1
    refine hK A c w' ?_ ((hE.alloc _).grown h2 (by have := hE.size; simp; omega) (fun g hg => Nat.le_trans hb0 (h.lt g hg).1))
    unfold OwnB boolsV
    rw [List.length_append, List.map_append]
    exact h1

theorem split_nat (n : Nat) (h : 2 ≤ n) : splitI (n : Int) = (Tree.split n : Int) := splitI_nat n h
theorem parts_le (m n : Nat) : (Way.parts m n).length ≤ n := by unfold Way.parts; rw [List.length_map]; exact Way.down_length true n m

set_option maxHeartbeats 1000000 in
theorem parts_calls (m n : Nat) (h1 : 1 ≤ m) (h2 : m ≤ n) (h3 : n ≤ 1099511627776) (w : World) :
    Calls Tryd.prog 51 #[.int .i64 (m : Int), .int .i64 (n : Int)] w fun e w' => ∃ v, e = .returned v ∧ OwnB w' w.heap.size v (Way.parts m n) ∧ Ext w w' := by
  obtain ⟨goal, hgoal⟩ : ∃ g, g = Way.parts m n := ⟨_, rfl⟩
  have hgl : goal.length ≤ n := by rw [hgoal]; exact parts_le m n
  rw [← hgoal]
  have Hg := Lib.hid hgoal
  clear hgoal
  go_enter Tryd.func51, Tryd.ntmps51
  go_wp2_with fail
  go_loopw [0, 1, 5, 6, 7] (fun s0 s1 s5 _ _ wr => ∃ (i j : Nat) (out : List Bool), s0 = .int .i64 (i : Int) ∧ s1 = .int .i64 (j : Int) ∧ 1 ≤ i ∧ i ≤ j ∧ j ≤ n ∧ out ++ Way.parts i j = goal ∧ OwnB wr w.heap.size s5 out ∧ Ext w wr) (fun _ s1 _ _ _ _ => (intOf s1).toNat)
  case atStart => exact ⟨m, n, [], rfl, rfl, h1, h2, Nat.le_refl _, by rw [Hg.out]; rfl, ownB_nil _ _, Ext.refl _⟩
  case round =>
    obtain ⟨wo, rfl⟩ : ∃ wo : World, wo = wr := ⟨_, rfl⟩
    obtain ⟨i, j, out, rfl, rfl, hi, hij, hjn, hog, hO, hE⟩ := hrel
    have hol : out.length ≤ n := by have := congrArg List.length hog; rw [List.length_append] at this; omega
    have Hog := Lib.hid hog
    clear hog
    obtain ⟨A, c, hv⟩ := own_slice hO
    subst hv
    by_cases hne : i = j
    · subst hne
      have hgo : out = goal := by rw [← Hog.out, Way.parts_done, List.append_nil]
      subst hgo
      go_wp2_with fail
      go_ret
      exact ⟨_, rfl, hO, hE⟩
    · have hneI : ((i : Int) != (j : Int)) = true := by simp; omega
      have hsl := Tree.split_lt j (by omega)
      have hsp := Tree.split_pos j (by omega)
      have HSp := Lib.hid (split_nat j (by omega))
      have hz := hE.size
      by_cases hk : i ≤ Tree.split j
      · have hp := Way.parts_first (by omega) hi hk
        have Hp := Lib.hid hp
        have hkI : ¬ (Tree.split j : Int) < (i : Int) := by omega
        have hd : decide ((Tree.split j : Int) < (i : Int)) = false := decide_eq_false hkI
        clear hp
        go_wp2_with fail
        refine (Split_calls (j : Int) (by omega) (by omega) _).mono ?_; rw [HSp.out]; rintro e w1 ⟨rfl, rfl⟩
        generalize Tree.split j = k at *
        go_wp2_with (refine stop_dst 19 rfl ?_)
        refine ⟨?_⟩
        have hdN : decide (k < i) = false := decide_eq_false (by omega)
        simp only [hdN]
        refine append_bool rfl (.tmp 16) (.tmp 18) rfl _ out false rfl rfl (by omega) w.heap.size hz hO hE (Nat.le_refl _) fun A5 c5 w5 hO5 hE5 => ?_
        simp only [Act.put, List.setIfInBounds_toArray, List.set_cons_zero, List.set_cons_succ]
        clear hO hE
        go_wp2_with fail
        go_roundw
        case rel => exact ⟨i, k, out ++ [false], rfl, rfl, hi, hk, by omega, by rw [← Hog.out, Hp.out]; simp, hO5, hE5⟩
        case measure => simp [intOf]; omega
      · have hp := Way.parts_others (by omega) hi hk
        have Hp := Lib.hid hp
        have hkI : (Tree.split j : Int) < (i : Int) := by omega
        have hd : decide ((Tree.split j : Int) < (i : Int)) = true := decide_eq_true hkI
        clear hp
        go_wp2_with fail
        refine (Split_calls (j : Int) (by omega) (by omega) _).mono ?_; rw [HSp.out]; rintro e w1 ⟨rfl, rfl⟩
        generalize Tree.split j = k at *
        have e1 : (i : Int) - (k : Int) = ((i - k : Nat) : Int) := by omega
        have e2 : (j : Int) - (k : Int) = ((j - k : Nat) : Int) := by omega
        go_wp2_with (refine stop_dst 19 rfl ?_)
        refine ⟨?_⟩
        refine append_bool rfl (.tmp 16) (.tmp 18) rfl _ out true rfl rfl (by omega) w.heap.size hz hO hE (Nat.le_refl _) fun A5 c5 w5 hO5 hE5 => ?_
        simp only [Act.put, List.setIfInBounds_toArray, List.set_cons_zero, List.set_cons_succ]
        clear hO hE
        go_wp2_with fail
        go_roundw
        case rel => exact ⟨i - k, j - k, out ++ [true], by go_num, by go_num, by omega, by omega, by omega, by rw [← Hog.out, Hp.out]; simp, hO5, hE5⟩
        case measure => simp [intOf]; omega

end Go.Proofs.YtfpipdopgepelaaDoor

namespace Go.Proofs.YtfpipdopgepelaaDoor
open Go.ChangeShapes Go.WideShapes Go.ChangeAt Go.RowKit
attribute [local go_sem] bs_size bs_toList2 bs_append bs_extract_end bs_extract_begin bs_get wrap64_b grow_cell grow_frozen

/-- A row of the call's own, as it is read. -/
theorem own_rd {w : World} {base n size : Nat} {e : TypeId} {v : Value} {xs : List Value} (h : w.ownsRow base e size v n xs) : ∃ A c, v = .slice A n c ∧ Rd w w.heap.size A xs ∧ n ≤ c ∧ c ≤ maxLen ∧ ∀ b off, A = some ⟨b, off, none⟩ → base ≤ b ∧ b < w.heap.size := by
  have h0 := h
  obtain ⟨hl, ⟨rfl, rfl⟩ | ⟨g, cap, cur, rfl, hg, hb, hc, hm, hs, ht⟩⟩ := h
  · refine ⟨none, 0, rfl, fun hx => ?_, Nat.le_refl _, by unfold maxLen; omega, fun b off e => by cases e⟩
    rw [Nat.zero_mul] at hl
    exact absurd (List.length_eq_zero_iff.1 hl) hx
  · have hlt : g < w.heap.size := (Array.getElem?_eq_some_iff.1 hb).1
    refine ⟨some ⟨g, 0, none⟩, cap, rfl, fun _ => ⟨g, 0, rfl, hlt, fun j u hu => ?_⟩, hc, hm, fun b off e => ?_⟩
    · have hj : j < n * size := by rw [← hl]; exact (List.getElem?_eq_some_iff.1 hu).1
      rw [Nat.zero_add, h0.cellAt j hj]
      exact hu
    · injection e with e
      injection e with e1 e2
      subst e1
      exact ⟨hg, hlt⟩

theorem step_whole_calls (s : Way.Step) (w : World) :
    Calls Tryd.prog 89 #[.agg (stepC s).toArray] w fun e w' => e = .returned (.bool s.1) ∧ Ext w w' := by
  obtain ⟨b, n, m⟩ := s
  unfold stepC
  go_enter Tryd.func89, Tryd.ntmps89
  go_wp2_with fail
  go_ret
  exact ⟨rfl, (Ext.refl w).alloc _⟩

/-- Some step goes into the others. -/
def anyOthers (l : List Way.Step) : Bool := l.any (·.1)
theorem anyOthers_take (l : List Way.Step) (k : Nat) (hk : k < l.length) : anyOthers (l.take (k + 1)) = (anyOthers (l.take k) || l[k].1) := by
  unfold anyOthers
  rw [List.take_succ_eq_append_getElem hk, List.any_append]
  simp
theorem anyOthers_more (l : List Way.Step) (k : Nat) (h : anyOthers (l.take k) = true) : anyOthers l = true := by
  unfold anyOthers at *
  rw [List.any_eq_true] at *
  obtain ⟨x, hx, hp⟩ := h
  exact ⟨x, List.mem_of_mem_take hx, hp⟩
def IdxSt (l : List Way.Step) (w : World) (e : Ending) (w' : World) : Prop := ∃ i : Int, e = .returned (.int .i64 i) ∧ (decide (0 ≤ i) = anyOthers l) ∧ Ext w w'

set_option maxHeartbeats 1000000 in
theorem IndexFuncS_calls (A : Option Addr) (cap : Nat) (l : List Way.Step) (w : World) (h : Rd w w.heap.size A (flatSt l)) (hl : l.length ≤ 1099511627776) :
    Calls Tryd.prog 94 #[.slice A l.length cap, .func (.func 89) #[] #[]] w (IdxSt l w) := by
  go_enter Tryd.func94, Tryd.ntmps94
  go_wp2_with fail
  go_loopw [5, 8] (fun s5 s8 wr => ∃ k : Nat, k ≤ l.length ∧ s8 = .int .i64 (k : Int) ∧ anyOthers (l.take k) = false ∧ Ext w wr) (fun _ s8 _ => l.length - (intOf s8).toNat)
  case atStart => exact ⟨0, Nat.zero_le _, rfl, rfl, Ext.refl _⟩
  case round =>
    obtain ⟨wo, rfl⟩ : ∃ wo : World, wo = wr := ⟨_, rfl⟩
    obtain ⟨k, hk, rfl, hs, hE⟩ := hrel
    by_cases hlt : k < l.length
    · have hlI : (k : Int) < (l.length : Int) := by omega
      obtain ⟨b, off, rfl, hb, hm0⟩ := steps_mid h hlt
      have hm : wo.rangeAt b (off + k * 3) (stepC l[k]) := fun i v hv => ((ext_cells hE).1 b _ hb).trans (hm0 i v hv)
      clear hm0
      have HS := Lib.hid (anyOthers_take l k hlt)
      have HM := Lib.hid (anyOthers_more l (k + 1))
      generalize l[k] = q at *
      go_wp2_with (refine stop_load 99 (.tmp 14) rfl ?_)
      refine ⟨?_⟩
      refine wpList_load_mid rfl 99 (.tmp 14) rfl b (off + k * 3) (by rfl) (stepC q) _ hm Tryd.underlying99 rfl (by kernel_rfl) ?_
      simp only [Act.put, List.setIfInBounds_toArray, List.set_cons_zero, List.set_cons_succ]
      clear hm
      go_wp2_with fail
      refine (step_whole_calls q _).mono ?_; rintro e w1 ⟨rfl, hE1⟩
      by_cases hq : q.1 = true
      · have hd : anyOthers (l.take (k + 1)) = true := by rw [HS.out, hq]; simp
        have HD := Lib.hid (HM.out hd)
        clear hd hs
        rw [hq]
        go_wp2_with fail
        go_ret
        exact ⟨_, rfl, by rw [HD.out]; simp, hE.trans hE1⟩
      · have hq : q.1 = false := by simpa using hq
        have hd : anyOthers (l.take (k + 1)) = false := by rw [HS.out, hs, hq]; rfl
        have HD := Lib.hid hd
        have hE2 := hE.trans hE1
        clear hd hs hE hE1
        rw [hq]
        go_wp2_with fail
        go_roundw
        case rel => exact ⟨k + 1, by omega, by go_num, HD.out, hE2⟩
        case measure => simp [intOf]; omega
    · obtain rfl : k = l.length := by omega
      rw [List.take_length] at hs
      have HD := Lib.hid hs
      clear hs
      go_wp2_with fail
      go_ret
      exact ⟨_, rfl, by rw [HD.out]; rfl, hE⟩
theorem ContainsFuncS_calls (A : Option Addr) (cap : Nat) (l : List Way.Step) (w : World) (h : Rd w w.heap.size A (flatSt l)) (hl : l.length ≤ 1099511627776) :
    Calls Tryd.prog 88 #[.slice A l.length cap, .func (.func 89) #[] #[]] w fun e w' => e = .returned (.bool (anyOthers l)) ∧ Ext w w' := by
  go_enter Tryd.func88, Tryd.ntmps88
  go_wp2_with fail
  refine (IndexFuncS_calls A cap l _ h hl).mono ?_; rintro e w1 ⟨i, rfl, hi, hE⟩
  have HI := Lib.hid hi
  clear hi
  go_wp2_with fail
  go_ret
  exact ⟨congrArg (fun b => Ending.returned (.bool b)) HI.out, hE⟩
theorem whole_calls (A : Option Addr) (cap : Nat) (l : List Way.Step) (w : World) (h : Rd w w.heap.size A (flatSt l)) (hl : l.length ≤ 1099511627776) :
    Calls Tryd.prog 71 #[.slice A l.length cap] w fun e w' => e = .returned (.bool (!anyOthers l)) ∧ Ext w w' := by
  go_enter Tryd.func71, Tryd.ntmps71
  go_wp2_with fail
  refine (ContainsFuncS_calls A cap l _ h hl).mono ?_; rintro e w1 ⟨rfl, hE⟩
  go_wp2_with fail
  go_ret
  exact ⟨rfl, hE⟩

theorem Long_calls (m n : Int) (hn63 : n ≤ 9223372036854775807) (w : World) :
    Calls Tryd.prog 46 #[.int .i64 m, .int .i64 n] w fun e w' => e = .returned (.int .i64 (Way.longI m n)) ∧ Ext w w' := by
  go_enter Tryd.func46, Tryd.ntmps46
  by_cases h0 : m < 0
  · have hr : Way.longI m n = -1 := if_pos (.inl h0)
    rw [hr]
    have d0 : decide (m < 0) = true := decide_eq_true h0
    go_wp2_with fail
    go_ret
    exact ⟨rfl, Ext.refl _⟩
  · have d0 : decide (m < 0) = false := decide_eq_false h0
    by_cases h1 : n ≤ m
    · have hr : Way.longI m n = -1 := if_pos (.inr (.inl h1))
      rw [hr]
      have d1 : decide (n ≤ m) = true := decide_eq_true h1
      go_wp2_with fail
      go_ret
      exact ⟨rfl, Ext.refl _⟩
    · have d1 : decide (n ≤ m) = false := decide_eq_false h1
      by_cases h2 : 1099511627776 < n
      · have hr : Way.longI m n = -1 := if_pos (.inr (.inr h2))
        rw [hr]
        have d2 : decide (1099511627776 < n) = true := decide_eq_true h2
        go_wp2_with fail
        go_ret
        exact ⟨rfl, Ext.refl _⟩
      · have d2 : decide (1099511627776 < n) = false := decide_eq_false h2
        have hr : Way.longI m n = ((Way.down false m.toNat n.toNat).length : Int) := if_neg (by omega)
        rw [hr]
        obtain ⟨mN, rfl⟩ : ∃ k : Nat, m = (k : Int) := ⟨m.toNat, by omega⟩
        obtain ⟨nN, rfl⟩ : ∃ k : Nat, n = (k : Int) := ⟨n.toNat, by omega⟩
        simp only [Int.toNat_natCast]
        generalize hl : (Way.down false mN nN).length = L
        have HL := Lib.hid hl
        clear hl
        go_wp2_with fail
        refine (down_calls false mN nN (by omega) (by omega) _).mono ?_; rintro e w1 ⟨v, rfl, hR, hE⟩
        rw [HL.out] at hR
        obtain ⟨A, c, rfl⟩ := own_slice hR
        go_wp2_with fail
        go_ret
        exact ⟨rfl, hE⟩

theorem wholeB_any : ∀ l : List Way.Step, Way.wholeB (l.map (·.1)) = !anyOthers l
  | [] => rfl
  | s :: l => by
    have ih := wholeB_any l
    obtain ⟨b, n, m⟩ := s
    unfold Way.wholeB anyOthers at *
    cases b
    · simpa using ih
    · simp

theorem LinksLong_calls (m n : Int) (hn63 : n ≤ 9223372036854775807) (w : World) :
    Calls Tryd.prog 50 #[.int .i64 m, .int .i64 n] w fun e w' => e = .returned (.int .i64 (Way.linksI m n)) ∧ Ext w w' := by
  go_enter Tryd.func50, Tryd.ntmps50
  by_cases h0 : m < 1
  · have hr : Way.linksI m n = -1 := if_pos (.inl h0)
    rw [hr]
    have d0 : decide (m < 1) = true := decide_eq_true h0
    go_wp2_with fail
    go_ret
    exact ⟨rfl, Ext.refl _⟩
  · have d0 : decide (m < 1) = false := decide_eq_false h0
    by_cases h1 : n < m
    · have hr : Way.linksI m n = -1 := if_pos (.inr (.inl h1))
      rw [hr]
      have d1 : decide (n < m) = true := decide_eq_true h1
      go_wp2_with fail
      go_ret
      exact ⟨rfl, Ext.refl _⟩
    · have d1 : decide (n < m) = false := decide_eq_false h1
      by_cases h2 : 1099511627776 < n
      · have hr : Way.linksI m n = -1 := if_pos (.inr (.inr h2))
        rw [hr]
        have d2 : decide (1099511627776 < n) = true := decide_eq_true h2
        go_wp2_with fail
        go_ret
        exact ⟨rfl, Ext.refl _⟩
      · have d2 : decide (1099511627776 < n) = false := decide_eq_false h2
        have hr : Way.linksI m n = ((Way.parts m.toNat n.toNat).length : Int) + if Way.wholeB (Way.parts m.toNat n.toNat) then 0 else 1 := if_neg (by omega)
        rw [hr]
        obtain ⟨mN, rfl⟩ : ∃ k : Nat, m = (k : Int) := ⟨m.toNat, by omega⟩
        obtain ⟨nN, rfl⟩ : ∃ k : Nat, n = (k : Int) := ⟨n.toNat, by omega⟩
        simp only [Int.toNat_natCast]
        unfold Way.parts
        simp only [wholeB_any, List.length_map]
        have hle := Way.down_length true nN mN
        generalize hl : Way.down true mN nN = L at *
        have HL := Lib.hid hl
        clear hl hr
        obtain ⟨r, hr⟩ : ∃ r : Int, r = (L.length : Int) + if (!anyOthers L) = true then 0 else 1 := ⟨_, rfl⟩
        rw [← hr]
        have Hr := Lib.hid hr
        clear hr
        go_wp2_with fail
        refine (down_calls true mN nN (by omega) (by omega) _).mono ?_; rintro e w1 ⟨v, rfl, hR, hE⟩
        rw [HL.out] at hR
        obtain ⟨A, c, rfl, hrd, -, -, -⟩ := own_rd hR
        go_wp2_with fail
        refine (whole_calls A c L _ hrd (by omega)).mono ?_; rintro e w2 ⟨rfl, hE2⟩
        have hE3 := hE.trans hE2
        clear hR hrd hE hE2
        cases hq : anyOthers L
        · go_wp2_with fail
          go_ret
          exact ⟨by rw [Hr.out, hq]; simp, hE3⟩
        · go_wp2_with fail
          go_ret
          exact ⟨by rw [Hr.out, hq]; simp, hE3⟩

/-- What slices.Index tells of true. -/
def IdxB (l : List Bool) (w : World) (e : Ending) (w' : World) : Prop := ∃ i : Int, e = .returned (.int .i64 i) ∧ (decide (0 ≤ i) = l.contains true) ∧ w = w'
theorem contains_take (l : List Bool) (k : Nat) (hk : k < l.length) : (l.take (k + 1)).contains true = ((l.take k).contains true || l[k]) := by
  rw [List.take_succ_eq_append_getElem hk]
  generalize l[k] = b
  generalize l.take k = p
  cases b <;> cases h : p.contains true <;> simp_all
theorem contains_more (l : List Bool) (k : Nat) (h : (l.take k).contains true = true) : l.contains true = true := by
  rw [List.contains_iff_mem] at *
  exact List.mem_of_mem_take h

set_option maxHeartbeats 1000000 in
theorem IndexB_calls (B : Nat) (A : Option Addr) (cap : Nat) (l : List Bool) (w : World) (h : Rd w B A (boolsV l)) (hl : l.length ≤ 1099511627776) :
    Calls Tryd.prog 73 #[.slice A l.length cap, .bool true] w (IdxB l w) := by
  go_enter Tryd.func73, Tryd.ntmps73
  go_wp2_with fail
  go_loopw [5, 8] (fun s5 s8 wr => ∃ k : Nat, k ≤ l.length ∧ s8 = .int .i64 (k : Int) ∧ (l.take k).contains true = false ∧ w = wr) (fun _ s8 _ => l.length - (intOf s8).toNat)
  case atStart => exact ⟨0, Nat.zero_le _, rfl, rfl, rfl⟩
  case round =>
    obtain ⟨k, hk, rfl, hs, rfl⟩ := hrel
    by_cases hlt : k < l.length
    · have hlI : (k : Int) < (l.length : Int) := by omega
      obtain ⟨b, off, rfl, hb, hc⟩ := h (map_ne Value.bool hlt)
      have c1 := hc k (.bool l[k]) (by simp [hlt])
      have HS := Lib.hid (contains_take l k hlt)
      have HM := Lib.hid (contains_more l (k + 1))
      clear hc
      generalize l[k] = q at *
      cases q
      · have hd : (l.take (k + 1)).contains true = false := by rw [HS.out, hs]; rfl
        have HD := Lib.hid hd
        clear hd hs
        go_wp2_with fail
        go_roundw
        case rel => exact ⟨k + 1, by omega, by go_num, HD.out, trivial⟩
        case measure => simp [intOf]; omega
      · have hd : (l.take (k + 1)).contains true = true := by rw [HS.out]; simp
        have HD := Lib.hid (HM.out hd)
        clear hd hs
        go_wp2_with fail
        go_ret
        exact ⟨_, rfl, by rw [HD.out]; simp, rfl⟩
    · obtain rfl : k = l.length := by omega
      rw [List.take_length] at hs
      have HD := Lib.hid hs
      clear hs
      go_wp2_with fail
      go_ret
      exact ⟨_, rfl, by rw [HD.out]; rfl, rfl⟩
theorem ContainsB_calls (B : Nat) (A : Option Addr) (cap : Nat) (l : List Bool) (w : World) (h : Rd w B A (boolsV l)) (hl : l.length ≤ 1099511627776) :
    Calls Tryd.prog 52 #[.slice A l.length cap, .bool true] w fun e w' => e = .returned (.bool (l.contains true)) ∧ w = w' := by
  go_enter Tryd.func52, Tryd.ntmps52
  go_wp2_with fail
  refine (IndexB_calls B A cap l _ h hl).mono ?_; rintro e w1 ⟨i, rfl, hi, rfl⟩
  have HI := Lib.hid hi
  clear hi
  go_wp2_with fail
  go_ret
  exact ⟨congrArg (fun b => Ending.returned (.bool b)) HI.out, rfl⟩

end Go.Proofs.YtfpipdopgepelaaDoor

namespace Go.Proofs.YtfpipdopgepelaaDoor
open Go.ChangeShapes Go.WideShapes Go.ChangeAt Go.RowKit
attribute [local go_sem] bs_size bs_toList2 bs_append bs_extract_end bs_extract_begin bs_get wrap64_b grow_cell grow_frozen

/-- A row of the call's own, when a loop's book-keeping turns. -/
theorem owns_book {W W' : World} {row : Option Nat} {B n size : Nat} {e : TypeId} {v : Value} {xs : List Value} (h : W.ownsRow B e size v n xs) (hg : W.grownBy W' row) (hr : ∀ r, row = some r → ∃ o : Obj, W.heap[r]? = some o ∧ o.isCells = false) : W'.ownsRow B e size v n xs := by
  obtain ⟨hl, h0 | ⟨g, cap, cur, hv, hb, hc, rest⟩⟩ := h
  · exact ⟨hl, .inl h0⟩
  · exact ⟨hl, .inr ⟨g, cap, cur, hv, hb, Blk.own hc hg hr, rest⟩⟩

theorem owns_keep {S : Nat → Prop} {W W' : World} {B n size : Nat} {e : TypeId} {v : Value} {xs : List Value} (h : W.ownsRow B e size v n xs) (hk : Keep S W W') (hS : ∀ k, v.ownBlock = some k → S k) : W'.ownsRow B e size v n xs := by
  obtain ⟨hl, h0 | ⟨g, cap, cur, hv, hb, hc, rest⟩⟩ := h
  · exact ⟨hl, .inl h0⟩
  · exact ⟨hl, .inr ⟨g, cap, cur, hv, hb, Blk.kept hc hk (hS g (by rw [hv]; rfl)), rest⟩⟩
theorem ownsRow_ext {W W' : World} {B n size : Nat} {e : TypeId} {v : Value} {xs : List Value} (h : W.ownsRow B e size v n xs) (hk : Ext W W') : W'.ownsRow B e size v n xs := owns_keep h (.of_ext (S := fun _ => True) hk) (fun _ _ => trivial)
theorem own_not {W : World} {B n size : Nat} {e : TypeId} {v : Value} {xs : List Value} (h : W.ownsRow B e size v n xs) {k : Nat} {o : Obj} (hk : W.heap[k]? = some o) (ho : o.isCells = false) : some k ≠ v.ownBlock := by
  intro ek
  obtain ⟨hl, ⟨rfl, h0⟩ | ⟨g, cap, cur, rfl, hb, hc, rest⟩⟩ := h
  · cases ek
  · simp only [Value.ownBlock] at ek
    injection ek with ek
    subst ek
    have := hk.symm.trans hc
    injection this with this
    subst this
    cases ho
theorem KeepsFrom.of_own {W W' : World} {B B' n size : Nat} {e : TypeId} {v : Value} {xs : List Value} (h : W.ownsRow B e size v n xs) (hk : Keep (fun k => some k ≠ v.ownBlock) W W') : KeepsFrom B' W W' :=
  ⟨hk.size, fun k o _ h0 ho => (hk.block k (Array.getElem?_eq_some_iff.1 h0).1 (own_not h h0 ho)).trans h0⟩
/-- append(l, b) -/
theorem append_boolK {ops : Array Oper} {rest : List Oper} {o : Oper} {a : Act} {w : World} {Q : Exit → Act → World → Prop} (hgd : o.guard = none) (s x : Operand) (ho : o.op = .call { callee := .builtin .append, args := #[s, x], argTypes := #[45, 45] })
    (v : Value) (l : List Bool) (b : Bool) (hs : a.eval s = v) (hx : a.eval x = .slice (some ⟨w.heap.size, 0, none⟩) 1 1) (hn : l.length ≤ 1099511627776) (base : Nat) (hb : base ≤ w.heap.size)
    (h : OwnB w base v l)
    (hK : ∀ A c w', OwnB w' base (.slice A (l.length + 1) c) (l ++ [b]) → Keep (fun k => some k ≠ v.ownBlock) w w' → wpList Tryd.prog ops Q rest (a.put o.dst (.slice A (l.length + 1) c)) w') :
    wpList Tryd.prog ops Q (o :: rest) a (w.alloc (.cells #[.bool b] 4)) := by
  obtain ⟨i0, hi, hz0, hz1, hz2⟩ := info_parts info_bool
  refine wpList_append_own _ hgd s x 45 ho base 4 i0 (.bool false) 1 1 Tryd.underlying45 hi hz0 hz1 hz2 rfl (by decide) v l.length (boolsV l) hs (h.alloc _) ⟨w.heap.size, 0, none⟩ 1 1 [.bool b] hx rfl (fun j u hj => ?_) (fun u hu => ?_) (by unfold maxLen; omega) (by omega) (by simp; omega) fun v' w' h1 h2 _ => ?_
  · match j, hj with
    | 0, hj => simp at hj; subst hj; simp [Addr.add]
  · simp at hu; subst hu; rfl
  · obtain ⟨A, c, rfl⟩ := own_slice h1
    refine hK A c w' ?_ (((Keep.refl _ _).alloc _).trans (.of_grown h2 (fun g e hs => hs e.symm)))
    unfold OwnB boolsV
    rw [List.length_append, List.map_append]
    exact h1

/-- The sides that the rounds have met. -/
def sidesOf (pre : List (Nat × Way.Step)) : List Bool := pre.map fun x => x.2.1
theorem sidesOf_snoc (pre : List (Nat × Way.Step)) (x : Nat × Way.Step) : sidesOf (pre ++ [x]) = sidesOf pre ++ [x.2.1] := by simp [sidesOf]
theorem sidesOf_all (l : List Way.Step) : sidesOf (upto (backSF l) l.length) = (l.map (·.1)).reverse := by
  have := congrArg (List.map (·.1)) (upto_backS l)
  rw [List.map_map, List.map_reverse] at this
  exact this

theorem Turns_none (m n : Int) (hn63 : n ≤ 9223372036854775807) (h : Way.longI m n < 0) (w : World) :
    Calls Tryd.prog 49 #[.int .i64 m, .int .i64 n] w fun e w' => ∃ v, e = .returned v ∧ OwnB w' w.heap.size v (Way.turnsI m n) ∧ Ext w w' := by
  have hr : Way.turnsI m n = [] := if_pos h
  rw [hr]
  go_enter Tryd.func49, Tryd.ntmps49
  go_wp2_with fail
  refine (Long_calls m n hn63 _).mono ?_; rintro e w1 ⟨rfl, hE⟩
  generalize Way.longI m n = L at *
  have d0 : decide (L < 0) = true := decide_eq_true h
  go_wp2_with fail
  go_ret
  exact ⟨_, rfl, ownB_nil _ _, hE⟩

set_option maxHeartbeats 2000000 in
theorem Turns_some (m n : Nat) (hm : m < n) (hn : n ≤ 1099511627776) (w : World) :
    Calls Tryd.prog 49 #[.int .i64 (m : Int), .int .i64 (n : Int)] w fun e w' => ∃ v, e = .returned v ∧ OwnB w' w.heap.size v (Way.turns m n) ∧ Ext w w' := by
  unfold Way.turns
  have hle := Way.down_length false n m
  generalize hl : Way.down false m n = l at *
  have Hl := Lib.hid hl
  clear hl
  refine (callsIn_wide (n := 9)).1 (callsIn_of_wp_marks Tryd.func49 rfl trivial (wpIn_wide.2 ?_) rfl)
  simp only [Tryd.ntmps49, List.size_toArray, List.length_cons, List.length_nil, Nat.reduceAdd, Nat.reduceSub, Array.replicate_succ, Array.replicate_zero, List.push_toArray, List.append_toArray, List.nil_append, List.cons_append]
  go_wp2_with fail
  refine (Long_calls (m : Int) (n : Int) (by omega) _).mono ?_; rintro e w1 ⟨rfl, hE1⟩
  have hL : 0 ≤ Way.longI (m : Int) (n : Int) := by unfold Way.longI; rw [if_neg (by omega)]; omega
  generalize Way.longI (m : Int) (n : Int) = L at *
  have d0 : decide (L < 0) = false := decide_eq_false (by omega)
  go_wp2_with fail
  have hO0 : Blk (w1.alloc (.cells #[.slice none 0 0] 45)) w1.heap.size 45 #[.slice none 0 0] := Blk.new _ _ _
  have hE2 : Ext w (w1.alloc (.cells #[.slice none 0 0] 45)) := hE1.alloc _
  have hz1 := hE1.size
  have hs2 : w1.heap.size < (w1.alloc (.cells #[.slice none 0 0] 45)).heap.size := by simp
  generalize hgo : w1.heap.size = go at *
  generalize w1.alloc (.cells #[.slice none 0 0] 45) = w2 at *
  refine (down_calls false m n hn (by omega) _).mono ?_; rintro e w3 ⟨v, rfl, hR, hE3⟩
  rw [Hl.out] at hR
  obtain ⟨A, cap, rfl, hrd, hcap, hc63, hA⟩ := own_rd hR
  go_wp2_with fail
  refine (BackwardS_calls _ _ _ _).mono ?_; rintro e w4 ⟨rfl, hw4⟩
  have e4 : Ext w3 w4 := by rw [hw4]; exact (Ext.refl w3).alloc _
  have hBs : Blk w4 w3.heap.size 93 #[.slice A l.length cap] := by rw [hw4]; exact Blk.new _ _ _
  have hs4 : w3.heap.size < w4.heap.size := by rw [hw4]; simp
  have hrd4 : Rd w4 w4.heap.size A (flatSt l) := (hrd.below e4 (Nat.le_refl _)).more (by omega)
  have hO4 := (hO0.below hE3 hO0.lt).below e4 (hO0.below hE3 hO0.lt).lt
  have hE4 := (hE2.trans hE3).trans e4
  have hs3 := hE3.size
  clear hw4 hE1 hE2 hE3 e4 hR hrd hO0 hgo
  go_wp2_with fail
  refine (wpIn_wide (n := 9)).1 ?_
  have hS : ∀ k, k < w4.heap.size → k ≠ go → (fun k => k < w4.heap.size ∧ k ≠ go) k := fun k h1 h2 => ⟨h1, h2⟩
  refine wpIn_rangeFunc_ownH (n := 9) rfl (by omega) (gf := 87) (lb := #[.pointer (some ⟨w3.heap.size, 0, none⟩)]) rfl trivial (enters_of Tryd.func87 (by kernel_rfl) rfl)
    (backS_stops 8 (by omega) w3.heap.size A cap l (by omega) (fun k => k < w4.heap.size ∧ k ≠ go) w4 hBs ⟨by omega, by omega⟩ hrd4 (fun b' off' e => by have := hA b' off' e; exact ⟨by omega, by omega⟩))
    (fun h k => h.trans k) (fun W l o o' hl _ _ _ => Keep.putObj W l o' (fun h => absurd h.1 (by omega))) (Below.refl _ _) (fun _ => rfl)
    (fun pre W => (∃ v, Blk W go 45 #[v] ∧ OwnB W w4.heap.size v (sidesOf pre)) ∧ Keep (fun k => k < w4.heap.size ∧ k ≠ go) w4 W)
    (fun _ _ _ => False)
    (fun s W W' row hs hg hr => ⟨⟨hs.1.choose, Blk.own hs.1.choose_spec.1 hg (fun r e => (hr r e).2), owns_book hs.1.choose_spec.2 hg (fun r e => (hr r e).2)⟩, hs.2.ownFrom hg (fun r e => (hr r e).1) (fun k h => h.1)⟩)
    (fun _ _ _ _ _ hs _ _ => hs)
    ⟨⟨_, hO4, ownB_nil _ _⟩, Keep.refl _ _⟩
    (fun x a' W => ∃ Bx, w4.heap.size ≤ Bx ∧ Blk W Bx 99 (stepC x.2).toArray ∧ a' = { tmps := #[Value.int IntKind.i64 ↑m, Value.int IntKind.i64 ↑n, undef, undef, Value.slice none 0 0, Value.pointer (some { block := go, off := 0 }), undef, Value.pointer (some { block := Bx, off := 0 }), Value.int IntKind.i64 ↑m, Value.int IntKind.i64 ↑n, Value.int IntKind.i64 L, Value.bool false, Value.int IntKind.i64 ↑m, Value.int IntKind.i64 ↑n, Value.slice A l.length cap, Value.func (Fn.func 87) #[] #[Value.pointer (some { block := w3.heap.size, off := 0 })], .int .i64 (x.1 : Int), .agg (stepC x.2).toArray, undef, undef, undef, undef, undef, undef], defers := [] })
    (fun x a' s W W' row hs hg hr => by
      obtain ⟨Bx, h1, h2, h3⟩ := hs
      exact ⟨Bx, h1, Blk.own h2 hg (fun r e => (hr r e).2), h3⟩) ?assign ?body ?done ?stop
  case assign =>
    intro l' pre x W KK hi hGo
    obtain ⟨⟨v, hi1, hi3⟩, hi2⟩ := hi
    have HG := Lib.hid hGo
    clear hGo
    have hz := hi2.size
    refine region_in (r := some l') (n := 7) (fun ⟨a, w, h⟩ => h) (by decide) ?_
    go_wp2_with (refine stop_store 99 (.tmp 7) (.tmp 17) rfl ?_)
    refine ⟨?_⟩
    have hP : Blk (W.alloc (.cells #[.bool false, .int .i64 0, .int .i64 0] 99)) W.heap.size 99 #[.bool false, .int .i64 0, .int .i64 0] := Blk.new _ _ _
    refine wpList_store_row rfl 99 (.tmp 7) (.tmp 17) rfl W.heap.size (stepC x.2).toArray (by rfl) (by rfl) 99 _ hP (by kernel_rfl) (by rfl) (by simp [stepC, Value.oneCell']) ?_
    have hP1 : Blk ((W.alloc (.cells #[.bool false, .int .i64 0, .int .i64 0] 99)).setRow W.heap.size (stepC x.2).toArray) W.heap.size 99 (stepC x.2).toArray := Blk.row hP _
    have hE3 : Ext W ((W.alloc (.cells #[.bool false, .int .i64 0, .int .i64 0] 99)).setRow W.heap.size (stepC x.2).toArray) := ((Ext.refl W).alloc _).row (Nat.le_refl _) _
    generalize (W.alloc (.cells #[.bool false, .int .i64 0, .int .i64 0] 99)).setRow W.heap.size (stepC x.2).toArray = W3 at *
    go_wp2_with fail
    exact HG.out _ _ (KeepsFrom.of_ext hE3) (Keep.of_ext hE3) ⟨⟨v, hi1.below hE3 hi1.lt, ownsRow_ext hi3 hE3⟩, hi2.trans (Keep.of_ext hE3)⟩ ⟨_, by omega, hP1, rfl⟩
  case body =>
    rintro l' pre x a' W hl ⟨rl, hrl⟩ ⟨⟨v, hX, hO⟩, hKp⟩ ⟨Bx, hBx, hP, rfl⟩ hlt
    have hz := hKp.size
    have HS := Lib.hid (sidesOf_snoc pre x)
    have hpl : (sidesOf pre).length ≤ 1099511627776 := by simp [sidesOf]; omega
    obtain ⟨xi, xb, xn, xm⟩ := x
    simp only at HS
    obtain ⟨Av, cv, hv⟩ := own_slice hO
    subst hv
    apply wpIn_block
    refine region_in (r := some l') (n := 7) (fun ⟨a, w, h⟩ => h) (by decide) ?_
    have c0 : W.cell? ⟨go, 0, none⟩ = some (.slice Av (sidesOf pre).length cv) := Blk.cell hX 0
    have c1 : W.cell? ⟨Bx, 0, none⟩ = some (.bool xb) := Blk.cell hP 0
    go_wp2_with (refine stop_dst 22 rfl ?_)
    refine ⟨?_⟩
    refine append_boolK rfl (.tmp 18) (.tmp 21) rfl _ (sidesOf pre) xb rfl rfl hpl w4.heap.size hz hO fun A5 c5 W5 hO5 hk5 => ?_
    simp only [Act.put, List.setIfInBounds_toArray, List.set_cons_zero, List.set_cons_succ]
    have hKF := KeepsFrom.of_own (B' := w4.heap.size) hO hk5
    have hlt5 := hO.lt
    have hX5 := hX.kept hk5 (fun e => by have := (hlt5 go e.symm).1; omega)
    have hk6 : Keep (fun k => k < w4.heap.size ∧ k ≠ go) W W5 := hk5.mono (fun k _ h e => by have := (hlt5 k e.symm).1; omega)
    have c5' : W5.cell? ⟨go, 0, none⟩ = some (.slice Av (sidesOf pre).length cv) := Blk.cell hX5 0
    have f5 : W5.frozen? ⟨go, 0, none⟩ = false := hX5.frozen 0
    clear hO hk5 hlt5 c0 c1
    go_wp2_with fail
    have hX6 : Blk (W5.setCell ⟨go, 0, none⟩ (.slice A5 ((sidesOf pre).length + 1) c5)) go 45 #[.slice A5 ((sidesOf pre).length + 1) c5] := hX5.set_ 0 _
    have hO6 := owns_far hO5 (show go < w4.heap.size by omega) (.slice A5 ((sidesOf pre).length + 1) c5)
    have hk7 : Keep (fun k => k < w4.heap.size ∧ k ≠ go) W (W5.setCell ⟨go, 0, none⟩ (.slice A5 ((sidesOf pre).length + 1) c5)) := hk6.setCell (fun h => h.2 rfl) _
    have hKF7 : KeepsFrom w4.heap.size W (W5.setCell ⟨go, 0, none⟩ (.slice A5 ((sidesOf pre).length + 1) c5)) := hKF.trans (KeepsFrom.of_upd ((Upd.refl go W5).setCell (.inl rfl) _) (by omega))
    refine ⟨hKF7, hk7, ⟨_, hX6, ?_⟩, hKp.trans hk7⟩
    rw [HS.out]
    exact hO6
  case done =>
    rintro D ys W hD rfl ⟨⟨v, hX, hO⟩, hKp⟩ hDef
    rw [sidesOf_all] at hO
    have c0 : W.cell? ⟨go, 0, none⟩ = some v := Blk.cell hX 0
    have el : (l.map (·.1)).reverse.length = l.length := by simp
    obtain ⟨Av, cv, hv⟩ := own_slice hO
    subst hv
    rw [el] at hX c0
    have hO' : W.ownsRow w4.heap.size 4 1 (.slice Av l.length cv) (l.map (·.1)).reverse.length (boolsV (l.map (·.1)).reverse) := by
      have h := hO
      unfold OwnB at h
      rw [el] at h ⊢
      exact h
    clear hO
    have hk : Keep (fun k => k < w.heap.size) w W := (Keep.of_ext hE4).trans (hKp.mono (fun k _ h => ⟨by have := hE4.size; omega, by omega⟩))
    go_wp2_with fail
    refine ⟨by simp, .inl ⟨_, _, rfl, run_takeDeferred hDef, ?_⟩⟩
    have hk5 : Keep (fun k => k ≠ D) W (W.putObj D (.deferred none)) := Keep.putObj _ _ _ (fun h => h rfl)
    refine ⟨_, results_tmp (t := 4) rfl _ _ _, ⟨.slice Av l.length cv, rfl, owns_base (owns_keep hO' hk5 (fun k hk e => ?_)) (by have := hE4.size; omega), (hk.trans (hk5.mono (fun k _ h => by omega))).ext⟩⟩
    subst e
    exact own_not hO' hDef rfl hk.symm
  case stop =>
    rintro D c pre W _ _ h _
    exact h.elim

theorem Turns_calls (m n : Int) (hn63 : n ≤ 9223372036854775807) (w : World) :
    Calls Tryd.prog 49 #[.int .i64 m, .int .i64 n] w fun e w' => ∃ v, e = .returned v ∧ OwnB w' w.heap.size v (Way.turnsI m n) ∧ Ext w w' := by
  by_cases h : Way.longI m n < 0
  · exact Turns_none m n hn63 h w
  · have hr : Way.turnsI m n = Way.turns m.toNat n.toNat := if_neg h
    rw [hr]
    have hin : ¬ (m < 0 ∨ n ≤ m ∨ 1099511627776 < n) := fun hc => h (by unfold Way.longI; rw [if_pos hc]; decide)
    obtain ⟨mN, rfl⟩ : ∃ k : Nat, m = (k : Int) := ⟨m.toNat, by omega⟩
    obtain ⟨nN, rfl⟩ : ∃ k : Nat, n = (k : Int) := ⟨n.toNat, by omega⟩
    simp only [Int.toNat_natCast]
    exact Turns_some mN nN (by omega) (by omega) w

end Go.Proofs.YtfpipdopgepelaaDoor

namespace Go.Proofs.YtfpipdopgepelaaDoor
open Go.ChangeShapes Go.WideShapes Go.ChangeAt Go.RowKit
attribute [local go_sem] bs_size bs_toList2 bs_append bs_extract_end bs_extract_begin bs_get wrap64_b grow_cell grow_frozen

abbrev sidesW (m n : Nat) : List Bool := (Way.down false m n).map (·.1)
theorem sidesW_length (m n : Nat) : (sidesW m n).length ≤ n := by rw [List.length_map]; exact Way.down_length false n m

theorem refTurns_none (m n : Int) (h : m < 0 ∨ n ≤ m ∨ 1099511627776 < n) (w : World) :
    Calls Tryd.prog 30 #[.int .i64 m, .int .i64 n] w fun e w' => e = .returned (.slice none 0 0) ∧ w = w' := by
  go_enter Tryd.func30, Tryd.ntmps30
  by_cases h0 : m < 0
  · have d0 : decide (m < 0) = true := decide_eq_true h0
    go_wp2_with fail
    go_ret
    exact ⟨rfl, rfl⟩
  · have d0 : decide (m < 0) = false := decide_eq_false h0
    by_cases h1 : n ≤ m
    · have d1 : decide (n ≤ m) = true := decide_eq_true h1
      go_wp2_with fail
      go_ret
      exact ⟨rfl, rfl⟩
    · have d1 : decide (n ≤ m) = false := decide_eq_false h1
      have h2 : 1099511627776 < n := by omega
      have d2 : decide (1099511627776 < n) = true := decide_eq_true h2
      go_wp2_with fail
      go_ret
      exact ⟨rfl, rfl⟩

set_option maxHeartbeats 2000000 in
theorem refTurns_some (m n : Nat) (hm : m < n) (hn : n ≤ 1099511627776) (w : World) :
    Calls Tryd.prog 30 #[.int .i64 (m : Int), .int .i64 (n : Int)] w fun e w' => ∃ v, e = .returned v ∧ OwnB w' w.heap.size v (Way.turns m n) ∧ Ext w w' := by
  have htn : Way.turns m n = (sidesW m n).reverse := rfl
  rw [htn]
  have hgl := sidesW_length m n
  obtain ⟨goal, hgoal⟩ : ∃ g, g = sidesW m n := ⟨_, rfl⟩
  rw [← hgoal] at hgl ⊢
  have Hg := Lib.hid hgoal
  clear hgoal htn
  go_enter Tryd.func30, Tryd.ntmps30
  have d0 : decide ((m : Int) < 0) = false := decide_eq_false (by omega)
  have d1 : decide ((n : Int) ≤ (m : Int)) = false := decide_eq_false (by omega)
  have d2 : decide ((1099511627776 : Int) < (n : Int)) = false := decide_eq_false (by omega)
  go_wp2_with fail
  have dN : decide (n ≤ m) = false := decide_eq_false (by omega)
  simp only [dN]
  clear d0 d1 d2 dN
  go_loopw [0, 1, 5, 6] (fun s0 s1 s5 _ wr => ∃ (i j : Nat) (out : List Bool), s0 = .int .i64 (i : Int) ∧ s1 = .int .i64 (j : Int) ∧ i < j ∧ j ≤ n ∧ out ++ sidesW i j = goal ∧ OwnB wr w.heap.size s5 out ∧ Ext w wr) (fun _ s1 _ _ _ => (intOf s1).toNat)
  case atStart => exact ⟨m, n, [], rfl, rfl, hm, Nat.le_refl _, by rw [Hg.out]; rfl, ownB_nil _ _, Ext.refl _⟩
  case round =>
    obtain ⟨wo, rfl⟩ : ∃ wo : World, wo = wr := ⟨_, rfl⟩
    obtain ⟨i, j, out, rfl, rfl, hij, hjn, hog, hO, hE⟩ := hrel
    have hol : out.length ≤ n := by have := congrArg List.length hog; rw [List.length_append] at this; omega
    have Hog := Lib.hid hog
    clear hog
    obtain ⟨A, c, hv⟩ := own_slice hO
    subst hv
    have hz := hE.size
    by_cases hj1 : 1 < j
    · have dj : decide ((1 : Int) < (j : Int)) = true := decide_eq_true (by omega)
      have hsl := Tree.split_lt j (by omega)
      have hsp := Tree.split_pos j (by omega)
      have HSp := Lib.hid (split_nat j (by omega))
      by_cases hk : i < Tree.split j
      · have hp : sidesW i j = false :: sidesW i (Tree.split j) := by unfold sidesW; rw [Way.down_first (by simp only [Bool.false_eq_true, false_and, or_false]; omega) (.inl hk)]; rfl
        have Hp := Lib.hid hp
        have dk : decide ((i : Int) < (Tree.split j : Int)) = true := decide_eq_true (by omega)
        clear hp
        go_wp2_with fail
        refine (refSplit_calls (j : Int) (by omega) (by omega) _).mono ?_; rw [HSp.out]; rintro e w1 ⟨rfl, rfl⟩
        generalize Tree.split j = k at *
        go_wp2_with (refine stop_dst 29 rfl ?_)
        refine ⟨?_⟩
        refine append_bool rfl (.tmp 27) (.tmp 28) rfl _ out false rfl rfl (by omega) w.heap.size hz hO hE (Nat.le_refl _) fun A5 c5 w5 hO5 hE5 => ?_
        simp only [Act.put, List.setIfInBounds_toArray, List.set_cons_zero, List.set_cons_succ]
        clear hO hE
        go_wp2_with fail
        go_roundw
        case rel =>
          first
            | exact ⟨i, k, out ++ [false], rfl, rfl, hk, by omega, by rw [← Hog.out, Hp.out]; simp, hO5, hE5⟩
            | (repeat apply Exists.intro
               refine ⟨?_, rfl⟩
               exact ⟨i, k, out ++ [false], rfl, rfl, hk, by omega, by rw [← Hog.out, Hp.out]; simp, hO5, hE5⟩)
        case measure => simp [intOf]; omega
      · have hp : sidesW i j = true :: sidesW (i - Tree.split j) (j - Tree.split j) := by unfold sidesW; rw [Way.down_others (by simp only [Bool.false_eq_true, false_and, or_false]; omega) (by simp only [Bool.false_eq_true, false_and, or_false]; omega)]; rfl
        have Hp := Lib.hid hp
        have dk : decide ((i : Int) < (Tree.split j : Int)) = false := decide_eq_false (by omega)
        clear hp
        go_wp2_with fail
        refine (refSplit_calls (j : Int) (by omega) (by omega) _).mono ?_; rw [HSp.out]; rintro e w1 ⟨rfl, rfl⟩
        generalize Tree.split j = k at *
        go_wp2_with (refine stop_dst 33 rfl ?_)
        refine ⟨?_⟩
        refine append_bool rfl (.tmp 31) (.tmp 32) rfl _ out true rfl rfl (by omega) w.heap.size hz hO hE (Nat.le_refl _) fun A5 c5 w5 hO5 hE5 => ?_
        simp only [Act.put, List.setIfInBounds_toArray, List.set_cons_zero, List.set_cons_succ]
        clear hO hE
        go_wp2_with fail
        go_roundw
        case rel =>
          first
            | exact ⟨i - k, j - k, out ++ [true], by go_num, by go_num, by omega, by omega, by rw [← Hog.out, Hp.out]; simp, hO5, hE5⟩
            | (repeat apply Exists.intro
               refine ⟨?_, rfl⟩
               exact ⟨i - k, j - k, out ++ [true], by go_num, by go_num, by omega, by omega, by rw [← Hog.out, Hp.out]; simp, hO5, hE5⟩)
        case measure => simp [intOf]; omega
    · have dj : decide ((1 : Int) < (j : Int)) = false := decide_eq_false (by omega)
      have hgo : out = goal := by rw [← Hog.out]; unfold sidesW; rw [Way.down_done (.inl (by omega))]; simp
      subst hgo
      clear Hog
      obtain ⟨A', c', hv', hrd, -, -, -⟩ := own_rd hO
      injection hv' with e1 e2 e3
      subst e1
      clear e2 e3
      go_wp2_with fail
      go_loopw [7, 8] (fun s7 s8 wq => ∃ k : Nat, k ≤ out.length ∧ s8 = .int .i64 ((out.length : Int) - 1 - k) ∧ OwnB wq wo.heap.size s7 (out.reverse.take k) ∧ Ext wo wq) (fun _ s8 _ => (intOf s8 + 1).toNat)
      case atStart => exact ⟨0, Nat.zero_le _, by simp, ownB_nil _ _, Ext.refl _⟩
      case round =>
        obtain ⟨wz, rfl⟩ : ∃ wz : World, wz = wr := ⟨_, rfl⟩
        obtain ⟨k, hk, rfl, hO2, hE2⟩ := hrel
        have hzz := hE2.size
        obtain ⟨A2, c2, hv2⟩ := own_slice hO2
        subst hv2
        by_cases hlt : k < out.length
        · have hpos : (0 : Int) ≤ (out.length : Int) - 1 - (k : Int) := by omega
          obtain ⟨q, hq⟩ : ∃ q : Nat, q = out.length - 1 - k := ⟨_, rfl⟩
          have hqI : (out.length : Int) - 1 - (k : Int) = (q : Int) := by omega
          have hql : q < out.length := by omega
          obtain ⟨b, off, rfl, hb, hc⟩ := hrd (map_ne Value.bool hql)
          have c1 : wz.cell? ⟨b, off + q, none⟩ = some (.bool out[q]) := ((ext_cells hE2).1 b _ hb).trans (hc q (.bool out[q]) (by simp [hql]))
          have hrk : out.reverse[k]'(by simpa using hlt) = out[q] := by rw [List.getElem_reverse]; congr 1; omega
          have HT := Lib.hid (show out.reverse.take (k + 1) = out.reverse.take k ++ [out[q]] by rw [List.take_succ_eq_append_getElem (by simpa using hlt), hrk])
          generalize out[q] = sd at *
          have hl2 : (out.reverse.take k).length = k := by rw [List.length_take, List.length_reverse]; omega
          rw [hqI]
          rw [hqI] at hpos
          have HqI := Lib.hid hqI
          clear hqI hq hrk
          have dpos : decide ((0 : Int) ≤ (q : Int)) = true := decide_eq_true hpos
          go_wp2_with (refine stop_dst 53 rfl ?_)
          refine ⟨?_⟩
          refine append_bool rfl (.tmp 47) (.tmp 52) rfl _ (out.reverse.take k) sd rfl rfl (by omega) wo.heap.size hzz hO2 hE2 (Nat.le_refl _) fun A5 c5 w5 hO5 hE5 => ?_
          simp only [Act.put, List.setIfInBounds_toArray, List.set_cons_zero, List.set_cons_succ]
          clear hO2 hE2 c1 hc
          go_wp2_with fail
          go_roundw
          case rel =>
            first
              | exact ⟨k + 1, by omega, by have := HqI.out; congr 1; omega, by rw [HT.out]; exact hO5, hE5⟩
              | (repeat apply Exists.intro
                 refine ⟨?_, rfl⟩
                 exact ⟨k + 1, by omega, by have := HqI.out; congr 1; omega, by rw [HT.out]; exact hO5, hE5⟩)
          case measure => simp [intOf]
        · obtain rfl : k = out.length := by omega
          have hneg : ¬ (0 : Int) ≤ (out.length : Int) - 1 - (out.length : Int) := by omega
          have dneg : decide ((0 : Int) ≤ (out.length : Int) - 1 - (out.length : Int)) = false := decide_eq_false hneg
          have ht : out.reverse.take out.length = out.reverse := by rw [← List.length_reverse, List.take_length]
          rw [ht] at hO2
          have hO3 := owns_base hO2 hz
          have hE3 := hE.trans hE2
          clear hO2 hE2 hO hE ht
          go_wp2_with fail
          go_ret
          rw [show (Value.slice A2 out.reverse.length c2) = .slice A2 out.length c2 by rw [List.length_reverse]] at hO3
          exact ⟨_, rfl, hO3, hE3⟩

theorem refTurns_calls (m n : Int) (w : World) :
    Calls Tryd.prog 30 #[.int .i64 m, .int .i64 n] w fun e w' => ∃ v, e = .returned v ∧ OwnB w' w.heap.size v (Way.turnsI m n) ∧ Ext w w' := by
  by_cases hin : m < 0 ∨ n ≤ m ∨ 1099511627776 < n
  · have hr : Way.turnsI m n = [] := if_pos (by unfold Way.longI; rw [if_pos hin]; decide)
    rw [hr]
    refine (refTurns_none m n hin w).mono ?_
    rintro e w1 ⟨rfl, rfl⟩
    exact ⟨_, rfl, ownB_nil _ _, Ext.refl _⟩
  · have hr : Way.turnsI m n = Way.turns m.toNat n.toNat := if_neg (by unfold Way.longI; rw [if_neg hin]; omega)
    rw [hr]
    obtain ⟨mN, rfl⟩ : ∃ k : Nat, m = (k : Int) := ⟨m.toNat, by omega⟩
    obtain ⟨nN, rfl⟩ : ∃ k : Nat, n = (k : Int) := ⟨n.toNat, by omega⟩
    simp only [Int.toNat_natCast]
    exact refTurns_some mN nN (by omega) (by omega) w

theorem refLong_calls (m n : Int) (w : World) :
    Calls Tryd.prog 28 #[.int .i64 m, .int .i64 n] w fun e w' => e = .returned (.int .i64 (Way.longI m n)) ∧ Ext w w' := by
  go_enter Tryd.func28, Tryd.ntmps28
  by_cases h0 : m < 0
  · have hr : Way.longI m n = -1 := if_pos (.inl h0)
    rw [hr]
    have d0 : decide (m < 0) = true := decide_eq_true h0
    go_wp2_with fail
    go_ret
    exact ⟨rfl, Ext.refl _⟩
  · have d0 : decide (m < 0) = false := decide_eq_false h0
    by_cases h1 : n ≤ m
    · have hr : Way.longI m n = -1 := if_pos (.inr (.inl h1))
      rw [hr]
      have d1 : decide (n ≤ m) = true := decide_eq_true h1
      go_wp2_with fail
      go_ret
      exact ⟨rfl, Ext.refl _⟩
    · have d1 : decide (n ≤ m) = false := decide_eq_false h1
      by_cases h2 : 1099511627776 < n
      · have hr : Way.longI m n = -1 := if_pos (.inr (.inr h2))
        rw [hr]
        have d2 : decide (1099511627776 < n) = true := decide_eq_true h2
        go_wp2_with fail
        go_ret
        exact ⟨rfl, Ext.refl _⟩
      · have d2 : decide (1099511627776 < n) = false := decide_eq_false h2
        have hl : 0 ≤ Way.longI m n := by unfold Way.longI; rw [if_neg (by omega)]; omega
        have ht := Way.turnsI_length m n hl
        obtain ⟨r, hr⟩ : ∃ r, r = Way.longI m n := ⟨_, rfl⟩
        rw [← hr] at ht ⊢
        have HT := Lib.hid ht
        clear hl hr ht
        go_wp2_with fail
        refine (refTurns_calls m n _).mono ?_; rintro e w1 ⟨v, rfl, hR, hE⟩
        obtain ⟨A, c, rfl⟩ := own_slice hR
        go_wp2_with fail
        go_ret
        exact ⟨by rw [← HT.out]; rfl, hE⟩

set_option maxHeartbeats 2000000 in
theorem refLinksLong_calls (m n : Int) (w : World) :
    Calls Tryd.prog 33 #[.int .i64 m, .int .i64 n] w fun e w' => e = .returned (.int .i64 (Way.linksI m n)) ∧ w = w' := by
  go_enter Tryd.func33, Tryd.ntmps33
  by_cases h0 : m < 1
  · have hr : Way.linksI m n = -1 := if_pos (.inl h0)
    rw [hr]
    have d0 : decide (m < 1) = true := decide_eq_true h0
    go_wp2_with fail
    go_ret
    exact ⟨rfl, rfl⟩
  · have d0 : decide (m < 1) = false := decide_eq_false h0
    by_cases h1 : n < m
    · have hr : Way.linksI m n = -1 := if_pos (.inr (.inl h1))
      rw [hr]
      have d1 : decide (n < m) = true := decide_eq_true h1
      go_wp2_with fail
      go_ret
      exact ⟨rfl, rfl⟩
    · have d1 : decide (n < m) = false := decide_eq_false h1
      by_cases h2 : 1099511627776 < n
      · have hr : Way.linksI m n = -1 := if_pos (.inr (.inr h2))
        rw [hr]
        have d2 : decide (1099511627776 < n) = true := decide_eq_true h2
        go_wp2_with fail
        go_ret
        exact ⟨rfl, rfl⟩
      · have d2 : decide (1099511627776 < n) = false := decide_eq_false h2
        have hr : Way.linksI m n = (Way.needL m.toNat n.toNat true : Int) := by
          unfold Way.linksI Way.needL
          rw [if_neg (by omega), Bool.true_and]
          split <;> simp
        rw [hr]
        obtain ⟨mN, rfl⟩ : ∃ k : Nat, m = (k : Int) := ⟨m.toNat, by omega⟩
        obtain ⟨nN, rfl⟩ : ∃ k : Nat, n = (k : Int) := ⟨n.toNat, by omega⟩
        simp only [Int.toNat_natCast]
        obtain ⟨goal, hgoal⟩ : ∃ g, g = Way.needL mN nN true := ⟨_, rfl⟩
        have hgl : goal ≤ nN + 1 := by
          rw [hgoal]
          unfold Way.needL
          have := parts_le mN nN
          split <;> omega
        rw [← hgoal]
        have Hg := Lib.hid hgoal
        clear hr hgoal
        have hn : nN ≤ 1099511627776 := by omega
        go_wp2_with fail
        go_loopw [0, 1, 5, 6, 7] (fun s0 s1 s5 s6 _ wr => ∃ (i j out : Nat) (wh : Bool), s0 = .int .i64 (i : Int) ∧ s1 = .int .i64 (j : Int) ∧ s5 = .int .i64 (out : Int) ∧ s6 = .bool wh ∧ 1 ≤ i ∧ i ≤ j ∧ j ≤ nN ∧ out + Way.needL i j wh = goal ∧ w = wr) (fun _ s1 _ _ _ _ => (intOf s1).toNat)
        case atStart => exact ⟨mN, nN, 0, true, rfl, rfl, rfl, rfl, by omega, by omega, Nat.le_refl _, by rw [Hg.out]; simp, rfl⟩
        case round =>
          obtain ⟨i, j, out, wh, rfl, rfl, rfl, rfl, hi, hij, hjn, hog, rfl⟩ := hrel
          have hol : out ≤ nN + 1 := by omega
          have Hog := Lib.hid hog
          clear hog
          by_cases hne : i = j
          · subst hne
            have hgo := Hog.out
            rw [Way.needL_done] at hgo
            have Hgo := Lib.hid hgo
            clear hgo
            cases wh
            · go_wp2_with fail
              go_ret
              exact ⟨by rw [← Hgo.out]; rfl, rfl⟩
            · go_wp2_with fail
              go_ret
              exact ⟨by rw [← Hgo.out]; rfl, rfl⟩
          · have hneI : ((i : Int) != (j : Int)) = true := by simp; omega
            have hsl := Tree.split_lt j (by omega)
            have hsp := Tree.split_pos j (by omega)
            have HSp := Lib.hid (split_nat j (by omega))
            by_cases hk : i ≤ Tree.split j
            · have Hp := Lib.hid (Way.needL_first (show i < j by omega) hi hk wh)
              have dk : decide ((i : Int) ≤ (Tree.split j : Int)) = true := decide_eq_true (by omega)
              go_wp2_with fail
              refine (refSplit_calls (j : Int) (by omega) (by omega) _).mono ?_; rw [HSp.out]; rintro e w1 ⟨rfl, rfl⟩
              generalize Tree.split j = k at *
              go_wp2_with fail
              go_roundw
              case rel =>
                first
                  | exact ⟨i, k, out + 1, wh, rfl, rfl, by go_num, rfl, hi, hk, by omega, by have := Hog.out; have := Hp.out; omega, trivial⟩
                  | (repeat apply Exists.intro
                     refine ⟨?_, rfl⟩
                     exact ⟨i, k, out + 1, wh, rfl, rfl, by go_num, rfl, hi, hk, by omega, by have := Hog.out; have := Hp.out; omega, trivial⟩)
              case measure => simp [intOf]; omega
            · have Hp := Lib.hid (Way.needL_others (show i < j by omega) hi hk wh)
              have dk : decide ((i : Int) ≤ (Tree.split j : Int)) = false := decide_eq_false (by omega)
              go_wp2_with fail
              refine (refSplit_calls (j : Int) (by omega) (by omega) _).mono ?_; rw [HSp.out]; rintro e w1 ⟨rfl, rfl⟩
              generalize Tree.split j = k at *
              go_wp2_with fail
              go_roundw
              case rel =>
                first
                  | exact ⟨i - k, j - k, out + 1, false, by go_num, by go_num, by go_num, rfl, by omega, by omega, by omega, by have := Hog.out; have := Hp.out; omega, trivial⟩
                  | (repeat apply Exists.intro
                     refine ⟨?_, rfl⟩
                     exact ⟨i - k, j - k, out + 1, false, by go_num, by go_num, by go_num, rfl, by omega, by omega, by omega, by have := Hog.out; have := Hp.out; omega, trivial⟩)
              case measure => simp [intOf]; omega

end Go.Proofs.YtfpipdopgepelaaDoor

namespace Go.Proofs.YtfpipdopgepelaaDoor
open Go.ChangeShapes Go.WideShapes Go.ChangeAt Go.RowKit
attribute [local go_sem] bs_size bs_toList2 bs_append bs_extract_end bs_extract_begin bs_get wrap64_b grow_cell grow_frozen

theorem res_cell_t {P : Program} {fn : Func} {p u : Tmp} {ty : TypeId} (h : fn.results = #[.cell p ty, .tmp u]) (tmps : Array Value) (w : World) (g : Nat) (t : TypeId) (cs : Array Value) (d : TypeDesc)
    (hp : tmps.getD p undef = .pointer (some ⟨g, 0, none⟩)) (hg : Blk w g t cs)
    (hu : P.underlying ty = some d) (hd : (match d with | .struct _ | .array _ _ => true | _ => false) = true) (hi : (P.info? ty).map (·.size) = some cs.size) :
    (results fn tmps).run P w = .ok (.tuple #[.agg cs, tmps.getD u undef]) w := by
  have hp' : tmps[p]?.getD undef = .pointer (some ⟨g, 0, none⟩) := by simpa using hp
  simp [results, h, hp', asAddr, run_loadVar_row w g t ty cs (0, 0) d hg hu hd hi]

theorem Keys.keep {S : Nat → Prop} {w w' : World} (K : Keys w) (h : Keep S w w') (hS : S 0) : Keys w' := fun i hi => (World.cell?_of_block (h.block 0 K.lt0 hS)).trans (K i hi)
/-- One turn. -/
abbrev turnB (h r : List UInt8) (b : Bool) : List UInt8 := if b then nodeB h r else nodeB r h
theorem turnB_length (h r : List UInt8) (b : Bool) : (turnB h r b).length = 32 := by unfold turnB; split <;> exact nodeB_length _ _

set_option maxHeartbeats 1000000 in
theorem foldTurn_calls (h r : List UInt8) (hh : h.length = 32) (hr : r.length = 32) (b : Bool) (g : Nat) (w : World) (KW : Keys w) (hR : ArrB w g 23 r) :
    Calls Tryd.prog 47 #[sumV h, .bool b, .pointer (some ⟨g, 0, none⟩)] w fun e w' => e = .returned (.tuple #[]) ∧ ArrB w' g 23 (turnB h r b) ∧ Upd g w w' := by
  have hfold := fold_sum h hh
  unfold sumV
  go_enter Tryd.func47, Tryd.ntmps47
  have hgl := Blk.lt hR
  have hR1 : ArrB (w.alloc (.cells (h.map byteV).toArray 23)) g 23 r := Blk.alloc hR _
  have hB1 : ArrB (w.alloc (.cells (h.map byteV).toArray 23)) w.heap.size 23 h := Blk.new _ _ _
  have e1 : Ext w (w.alloc (.cells (h.map byteV).toArray 23)) := (Ext.refl w).alloc _
  cases b
  · have ht : turnB h r false = nodeB r h := rfl
    rw [ht]
    go_wp2_with (refine stop_load 23 (.tmp 2) rfl ?_)
    refine ⟨?_⟩
    refine wpList_load_row rfl 23 (.tmp 2) rfl g (by rfl) 23 _ (0, 0) _ hR1 Tryd.underlying23 rfl (size32.trans (by simp [hr])) ?_
    simp only [Act.put, List.setIfInBounds_toArray, List.set_cons_zero, List.set_cons_succ]
    go_wp2_with (refine stop_load 23 (.tmp 3) rfl ?_)
    refine ⟨?_⟩
    refine wpList_load_row rfl 23 (.tmp 3) rfl w.heap.size (by rfl) 23 _ (0, 0) _ hB1 Tryd.underlying23 rfl (size32.trans (by simp [hh])) ?_
    simp only [Act.put, List.setIfInBounds_toArray, List.set_cons_zero, List.set_cons_succ]
    generalize w.alloc (.cells (h.map byteV).toArray 23) = w1 at *
    go_wp2_with fail
    change Calls _ _ #[sumV r, sumV h] _ _
    refine (Node_calls _ _ hr hh _ (KW.ext e1)).mono ?_; rintro e w2 ⟨rfl, e2⟩
    have hR2 := Blk.below hR1 e2 (Blk.lt hR1)
    unfold sumV
    go_wp2_with (refine stop_store 23 (.tmp 2) (.tmp 11) rfl ?_)
    refine ⟨?_⟩
    refine wpList_store_row rfl 23 (.tmp 2) (.tmp 11) rfl g ((nodeB r h).map byteV).toArray (by rfl) (by rfl) 23 _ hR2 (size32.trans (by simp [nodeB_length])) (by simp [nodeB_length, hr]) (by simp [byteV, Value.oneCell']) ?_
    simp only [Act.put, List.setIfInBounds_toArray, List.set_cons_zero, List.set_cons_succ]
    have hX : ArrB (w2.setRow g ((nodeB r h).map byteV).toArray) g 23 (nodeB r h) := Blk.row hR2 _
    have hXu : Upd g w2 (w2.setRow g ((nodeB r h).map byteV).toArray) := (Upd.refl _ _).row _
    generalize w2.setRow g ((nodeB r h).map byteV).toArray = w3 at *
    go_wp2_with fail
    go_end0
    exact ⟨rfl, hX, ((Upd.of_ext e1).ext e2).trans hXu⟩
  · have ht : turnB h r true = nodeB h r := rfl
    rw [ht]
    go_wp2_with (refine stop_load 23 (.tmp 3) rfl ?_)
    refine ⟨?_⟩
    refine wpList_load_row rfl 23 (.tmp 3) rfl w.heap.size (by rfl) 23 _ (0, 0) _ hB1 Tryd.underlying23 rfl (size32.trans (by simp [hh])) ?_
    simp only [Act.put, List.setIfInBounds_toArray, List.set_cons_zero, List.set_cons_succ]
    go_wp2_with (refine stop_load 23 (.tmp 2) rfl ?_)
    refine ⟨?_⟩
    refine wpList_load_row rfl 23 (.tmp 2) rfl g (by rfl) 23 _ (0, 0) _ hR1 Tryd.underlying23 rfl (size32.trans (by simp [hr])) ?_
    simp only [Act.put, List.setIfInBounds_toArray, List.set_cons_zero, List.set_cons_succ]
    generalize w.alloc (.cells (h.map byteV).toArray 23) = w1 at *
    go_wp2_with fail
    change Calls _ _ #[sumV h, sumV r] _ _
    refine (Node_calls _ _ hh hr _ (KW.ext e1)).mono ?_; rintro e w2 ⟨rfl, e2⟩
    have hR2 := Blk.below hR1 e2 (Blk.lt hR1)
    unfold sumV
    go_wp2_with (refine stop_store 23 (.tmp 2) (.tmp 8) rfl ?_)
    refine ⟨?_⟩
    refine wpList_store_row rfl 23 (.tmp 2) (.tmp 8) rfl g ((nodeB h r).map byteV).toArray (by rfl) (by rfl) 23 _ hR2 (size32.trans (by simp [nodeB_length])) (by simp [nodeB_length, hr]) (by simp [byteV, Value.oneCell']) ?_
    simp only [Act.put, List.setIfInBounds_toArray, List.set_cons_zero, List.set_cons_succ]
    have hX : ArrB (w2.setRow g ((nodeB h r).map byteV).toArray) g 23 (nodeB h r) := Blk.row hR2 _
    have hXu : Upd g w2 (w2.setRow g ((nodeB h r).map byteV).toArray) := (Upd.refl _ _).row _
    generalize w2.setRow g ((nodeB h r).map byteV).toArray = w3 at *
    go_wp2_with fail
    go_end0
    exact ⟨rfl, hX, ((Upd.of_ext e1).ext e2).trans hXu⟩

/-- What proof.Fold tells. -/
def foldP (r : List UInt8) (m n : Int) (l : List (List UInt8)) : List UInt8 × Bool := if Way.longI m n = (l.length : Int) then (Way.foldW nodeB r (Way.turnsI m n) l, true) else (zerosB 32, false)
theorem foldW_length : ∀ (ts : List Bool) (hs : List (List UInt8)) (x : List UInt8), x.length = 32 → (Way.foldW nodeB x ts hs).length = 32
  | [], hs, x, h => by rw [Way.foldW_nil]; exact h
  | t :: ts, [], x, h => h
  | t :: ts, h :: hs, x, hx => by
    rw [Way.foldW_cons]
    exact foldW_length ts hs _ (by split <;> exact nodeB_length _ _)
theorem foldW_take (r : List UInt8) (T : List Bool) (l : List (List UInt8)) (k : Nat) (h1 : k < T.length) (h2 : k < l.length) : Way.foldW nodeB r (T.take (k + 1)) (l.take (k + 1)) = turnB l[k] (Way.foldW nodeB r (T.take k) (l.take k)) T[k] := by
  rw [List.take_succ_eq_append_getElem h1, List.take_succ_eq_append_getElem h2, Way.foldW_snoc nodeB _ _ _ _ _ (by rw [List.length_take, List.length_take]; omega)]
theorem foldP_length (r : List UInt8) (hr : r.length = 32) (m n : Int) (l : List (List UInt8)) : (foldP r m n l).1.length = 32 := by
  unfold foldP
  split
  · exact foldW_length _ _ _ hr
  · simp [zerosB]

set_option maxHeartbeats 2000000 in
theorem Fold_some (r : List UInt8) (hr : r.length = 32) (m n : Int) (hn63 : n ≤ 9223372036854775807) (A : Option Addr) (cap : Nat) (l : List (List UInt8)) (hl : AllH l) (hll : l.length ≤ 1000000) (w : World) (KW : Keys w) (hrd : Rd w w.heap.size A (flatS l))
    (hlg : Way.longI m n = (l.length : Int)) : Calls Tryd.prog 18 #[sumV r, .int .i64 m, .int .i64 n, .slice A l.length cap] w fun e w' => e = .returned (.tuple #[sumV (Way.foldW nodeB r (Way.turnsI m n) l), .bool true]) ∧ Ext w w' := by
  obtain ⟨y, hy⟩ : ∃ y, y = Way.foldW nodeB r (Way.turnsI m n) l := ⟨_, rfl⟩
  rw [← hy]
  have hTl : (Way.turnsI m n).length = l.length := by have := Way.turnsI_length m n (by omega); omega
  obtain ⟨T, hT⟩ : ∃ T, T = Way.turnsI m n := ⟨_, rfl⟩
  rw [← hT] at hy hTl
  have Hy := Lib.hid hy
  have HT := Lib.hid hT
  clear hT hy
  have hfold := fold_sum r hr
  unfold sumV
  go_enter Tryd.func18, Tryd.ntmps18
  go_wp2_with fail
  have hX0 : ArrB ((w.alloc (.cells (r.map byteV).toArray 23)).alloc (.cells ((zerosB 32).map byteV).toArray 23)) w.heap.size 23 r := Blk.alloc (Blk.new _ _ _) _
  have hZ0 : ArrB ((w.alloc (.cells (r.map byteV).toArray 23)).alloc (.cells ((zerosB 32).map byteV).toArray 23)) (w.heap.size + 1) 23 (zerosB 32) := by
    have := Blk.new (w.alloc (.cells (r.map byteV).toArray 23)) 23 ((zerosB 32).map byteV).toArray
    rw [alloc_size] at this
    exact this
  have hE0 : Ext w ((w.alloc (.cells (r.map byteV).toArray 23)).alloc (.cells ((zerosB 32).map byteV).toArray 23)) := ((Ext.refl w).alloc _).alloc _
  change Calls _ _ _ ((w.alloc (.cells (r.map byteV).toArray 23)).alloc (.cells ((zerosB 32).map byteV).toArray 23)) _
  generalize (w.alloc (.cells (r.map byteV).toArray 23)).alloc (.cells ((zerosB 32).map byteV).toArray 23) = w1 at *
  refine (Long_calls m n hn63 _).mono ?_; rintro e w2 ⟨rfl, e2⟩
  have hX2 := Blk.below hX0 e2 (Blk.lt hX0)
  have hZ2 := Blk.below hZ0 e2 (Blk.lt hZ0)
  have hE2 := hE0.trans e2
  have hxl := Blk.lt hX0
  have hzl := Blk.lt hZ0
  have hs1 := hE0.size
  have hs2 := e2.size
  clear hX0 hZ0 hE0 e2
  rw [hlg]
  go_wp2_with fail
  refine (Turns_calls m n hn63 _).mono ?_; rintro e w3 ⟨v, rfl, hO, e3⟩
  rw [← HT.out] at hO
  obtain ⟨B, c, rfl, hrdT, -, -, hBb⟩ := own_rd hO
  have hX3 := Blk.below hX2 e3 (Blk.lt hX2)
  have hZ3 := Blk.below hZ2 e3 (Blk.lt hZ2)
  have hE3 := hE2.trans e3
  have hs3 := e3.size
  have K3 := KW.ext hE3
  have h0l := KW.lt0
  clear hX2 hZ2 hE2 e3 hO
  go_wp2_with fail
  go_loopw [11, 12, 25] (fun _ _ s25 wr => ∃ k : Nat, k ≤ l.length ∧ s25 = .int .i64 (k : Int) ∧ ArrB wr w.heap.size 23 (Way.foldW nodeB r (T.take k) (l.take k)) ∧ Keep (fun k => k < w3.heap.size ∧ k ≠ w.heap.size) w3 wr) (fun _ _ s25 _ => l.length - (intOf s25).toNat)
  case atStart => exact ⟨0, Nat.zero_le _, rfl, by rw [List.take_zero, Way.foldW_nil]; exact hX3, Keep.refl _ _⟩
  case round =>
    obtain ⟨wo, rfl⟩ : ∃ wo : World, wo = wr := ⟨_, rfl⟩
    obtain ⟨k, hk, rfl, hX, hKp⟩ := hrel
    by_cases hlt : k < l.length
    · have hlI : (k : Int) < (l.length : Int) := by omega
      have hltT : k < T.length := by omega
      obtain ⟨bT, oT, rfl, hbT, hcT⟩ := hrdT (map_ne Value.bool hltT)
      have hbb := hBb bT oT rfl
      have cT : wo.cell? ⟨bT, oT + k, none⟩ = some (.bool T[k]) := (World.cell?_of_block (hKp.block bT hbT ⟨hbT, by omega⟩)).trans (hcT k (.bool T[k]) (by simp [hltT]))
      obtain ⟨b, off, rfl, hbl, hm0⟩ := rds_mid hrd hl hlt
      have hm : wo.rangeAt b (off + k * 32) (hcells l[k]) := fun i u hu => (World.cell?_of_block ((hKp.block b (by omega) ⟨by omega, by omega⟩).trans (hE3.block b hbl))).trans (hm0 i u hu)
      have hq : l[k].length = 32 := hl _ (List.getElem_mem hlt)
      have HS := Lib.hid (foldW_take r T l k hltT hlt)
      have hfl := foldW_length (T.take k) (l.take k) r hr
      have Ko : Keys wo := K3.keep hKp ⟨by omega, by omega⟩
      generalize l[k] = q at *
      generalize T[k] = tk at *
      generalize Way.foldW nodeB r (T.take k) (l.take k) = x at *
      clear hm0 hcT
      go_wp2_with (refine stop_load 23 (.tmp 33) rfl ?_)
      refine ⟨?_⟩
      refine wpList_load_mid rfl 23 (.tmp 33) rfl b (off + k * 32) (by rfl) (hcells q) _ hm Tryd.underlying23 rfl (size32l _ hq) ?_
      simp only [Act.put, List.setIfInBounds_toArray, List.set_cons_zero, List.set_cons_succ]
      unfold hcells
      go_wp2_with fail
      change Calls _ _ #[sumV q, _, _] _ _
      refine (foldTurn_calls q x hq hfl tk w.heap.size _ Ko hX).mono ?_; rintro e w5 ⟨rfl, hX5, hU⟩
      have hK5 : Keep (fun k => k < w3.heap.size ∧ k ≠ w.heap.size) w3 w5 := hKp.trans (.of_upd hU (fun h => h.2 rfl))
      rw [← HS.out] at hX5
      clear hX hKp hm cT
      go_wp2_with fail
      go_roundw
      case rel =>
        first
          | exact ⟨k + 1, by omega, by go_num, hX5, hK5⟩
          | (repeat apply Exists.intro
             refine ⟨?_, rfl⟩
             exact ⟨k + 1, by omega, by go_num, hX5, hK5⟩)
      case measure => simp [intOf]; omega
    · obtain rfl : k = l.length := by omega
      have hX' : ArrB wo w.heap.size 23 y := by
        rw [Hy.out]
        have := hX
        rw [List.take_length, ← hTl, List.take_length] at this
        exact this
      have hyl : y.length = 32 := by rw [Hy.out]; exact foldW_length _ _ _ hr
      have hZ4 : ArrB wo (w.heap.size + 1) 23 (zerosB 32) := Blk.kept hZ3 hKp ⟨by omega, by omega⟩
      have hk4 : Keep (fun k => k < w.heap.size) w wo := (Keep.of_ext hE3).trans (hKp.mono (fun k _ h => ⟨by omega, by omega⟩))
      clear hX hKp
      go_wp2_with (refine stop_load 23 (.tmp 4) rfl ?_)
      refine ⟨?_⟩
      refine wpList_load_row rfl 23 (.tmp 4) rfl w.heap.size (by rfl) 23 _ (0, 0) _ hX' Tryd.underlying23 rfl (size32.trans (by simp [hyl])) ?_
      simp only [Act.put, List.setIfInBounds_toArray, List.set_cons_zero, List.set_cons_succ]
      have hzz : (zerosB 32).length = 32 := rfl
      go_wp2_with (refine stop_store 23 (.tmp 8) (.tmp 38) rfl ?_)
      refine ⟨?_⟩
      refine wpList_store_row rfl 23 (.tmp 8) (.tmp 38) rfl (w.heap.size + 1) ((y).map byteV).toArray (by rfl) (by rfl) 23 _ hZ4 (size32.trans (by simp [hyl])) (by simp [hyl, hzz]) (by simp [byteV, Value.oneCell']) ?_
      simp only [Act.put, List.setIfInBounds_toArray, List.set_cons_zero, List.set_cons_succ]
      have hR6 : ArrB (wo.setRow (w.heap.size + 1) ((y).map byteV).toArray) (w.heap.size + 1) 23 (y) := Blk.row hZ4 _
      have hR6u : Upd (w.heap.size + 1) wo (wo.setRow (w.heap.size + 1) ((y).map byteV).toArray) := (Upd.refl _ _).row _
      generalize wo.setRow (w.heap.size + 1) ((y).map byteV).toArray = w6 at *
      go_wp2_with fail
      have hk6 : Keep (fun k => k < w.heap.size) w w6 := hk4.trans (Keep.of_upd hR6u (fun h => absurd h (by omega)))
      (try simp only [Exit.inBlock, Exit.then]); refine bodyPost_ret (res_cell_t rfl _ _ (w.heap.size + 1) 23 _ _ rfl hR6 Tryd.underlying23 rfl (size32.trans (by simp [hyl]))) rfl ?_
      exact ⟨rfl, hk6.ext⟩

set_option maxHeartbeats 2000000 in
theorem Fold_none (r : List UInt8) (hr : r.length = 32) (m n : Int) (hn63 : n ≤ 9223372036854775807) (A : Option Addr) (cap : Nat) (l : List (List UInt8)) (hl : AllH l) (hll : l.length ≤ 1000000) (w : World) (KW : Keys w) (hrd : Rd w w.heap.size A (flatS l))
    (hlg : Way.longI m n ≠ (l.length : Int)) : Calls Tryd.prog 18 #[sumV r, .int .i64 m, .int .i64 n, .slice A l.length cap] w fun e w' => e = .returned (.tuple #[sumV (zerosB 32), .bool false]) ∧ Ext w w' := by
  have hfold := fold_sum r hr
  unfold sumV
  go_enter Tryd.func18, Tryd.ntmps18
  go_wp2_with fail
  have hX0 : ArrB ((w.alloc (.cells (r.map byteV).toArray 23)).alloc (.cells ((zerosB 32).map byteV).toArray 23)) w.heap.size 23 r := Blk.alloc (Blk.new _ _ _) _
  have hZ0 : ArrB ((w.alloc (.cells (r.map byteV).toArray 23)).alloc (.cells ((zerosB 32).map byteV).toArray 23)) (w.heap.size + 1) 23 (zerosB 32) := by
    have := Blk.new (w.alloc (.cells (r.map byteV).toArray 23)) 23 ((zerosB 32).map byteV).toArray
    rw [alloc_size] at this
    exact this
  have hE0 : Ext w ((w.alloc (.cells (r.map byteV).toArray 23)).alloc (.cells ((zerosB 32).map byteV).toArray 23)) := ((Ext.refl w).alloc _).alloc _
  change Calls _ _ _ ((w.alloc (.cells (r.map byteV).toArray 23)).alloc (.cells ((zerosB 32).map byteV).toArray 23)) _
  generalize (w.alloc (.cells (r.map byteV).toArray 23)).alloc (.cells ((zerosB 32).map byteV).toArray 23) = w1 at *
  refine (Long_calls m n hn63 _).mono ?_; rintro e w2 ⟨rfl, e2⟩
  have hX2 := Blk.below hX0 e2 (Blk.lt hX0)
  have hZ2 := Blk.below hZ0 e2 (Blk.lt hZ0)
  have hE2 := hE0.trans e2
  have hxl := Blk.lt hX0
  have hzl := Blk.lt hZ0
  have hs1 := hE0.size
  have hs2 := e2.size
  clear hX0 hZ0 hE0 e2
  have dl : (Way.longI m n != (l.length : Int)) = true := by simpa using hlg
  generalize Way.longI m n = L at *
  have hzz : (zerosB 32).length = 32 := rfl
  go_wp2_with (refine stop_store 23 (.tmp 8) (.tmp 19) rfl ?_)
  refine ⟨?_⟩
  refine wpList_store_row rfl 23 (.tmp 8) (.tmp 19) rfl (w.heap.size + 1) ((zerosB 32).map byteV).toArray (by rfl) (by rfl) 23 _ hZ2 (size32.trans (by simp [hzz])) (by simp [hzz, hzz]) (by simp [byteV, Value.oneCell']) ?_
  simp only [Act.put, List.setIfInBounds_toArray, List.set_cons_zero, List.set_cons_succ]
  have hR6 : ArrB (w2.setRow (w.heap.size + 1) ((zerosB 32).map byteV).toArray) (w.heap.size + 1) 23 (zerosB 32) := Blk.row hZ2 _
  have hR6u : Upd (w.heap.size + 1) w2 (w2.setRow (w.heap.size + 1) ((zerosB 32).map byteV).toArray) := (Upd.refl _ _).row _
  generalize w2.setRow (w.heap.size + 1) ((zerosB 32).map byteV).toArray = w6 at *
  go_wp2_with fail
  (try simp only [Exit.inBlock, Exit.then]); refine bodyPost_ret (res_cell_t rfl _ _ (w.heap.size + 1) 23 _ _ rfl hR6 Tryd.underlying23 rfl (size32.trans (by simp [hzz]))) rfl ?_
  have hk6 : Keep (fun k => k < w.heap.size) w w6 := (Keep.of_ext hE2).trans (Keep.of_upd hR6u (fun h => absurd h (by omega)))
  exact ⟨rfl, hk6.ext⟩

theorem Fold_calls (r : List UInt8) (hr : r.length = 32) (m n : Int) (hn63 : n ≤ 9223372036854775807) (A : Option Addr) (cap : Nat) (l : List (List UInt8)) (hl : AllH l) (hll : l.length ≤ 1000000) (w : World) (KW : Keys w) (hrd : Rd w w.heap.size A (flatS l)) :
    Calls Tryd.prog 18 #[sumV r, .int .i64 m, .int .i64 n, .slice A l.length cap] w fun e w' => e = .returned (.tuple #[sumV (foldP r m n l).1, .bool (foldP r m n l).2]) ∧ Ext w w' := by
  by_cases hlg : Way.longI m n = (l.length : Int)
  · rw [show foldP r m n l = _ from if_pos hlg]
    exact Fold_some r hr m n hn63 A cap l hl hll w KW hrd hlg
  · rw [show foldP r m n l = _ from if_neg hlg]
    exact Fold_none r hr m n hn63 A cap l hl hll w KW hrd hlg

end Go.Proofs.YtfpipdopgepelaaDoor

namespace Go.Proofs.YtfpipdopgepelaaDoor
open Go.ChangeShapes Go.WideShapes Go.ChangeAt Go.RowKit
attribute [local go_sem] bs_size bs_toList2 bs_append bs_extract_end bs_extract_begin bs_get wrap64_b grow_cell grow_frozen

theorem list_want {P : Program} {ops : Array Oper} {Q : Exit → Act → World → Prop} {a : Act} {w : World} {rest : List Oper} {o : Oper} (hw : Region.wanted o (yielded ops a.tmps) = true)
    (h : ∀ K : Act → World → Prop, (∀ a w, wpList P ops Q rest a w → K a w) → o.wp P a w K Q) : wpList P ops Q (o :: rest) a w := wpList_step fun K hK => by rw [if_pos hw]; exact h K hK

/-- What proof.Right tells. -/
def rightB (root leaf : List UInt8) (m n : Int) (l : List (List UInt8)) : Bool := (foldP leaf m n l).2 && decide ((foldP leaf m n l).1 = root)

set_option maxHeartbeats 1000000 in
theorem Right_calls (root leaf : List UInt8) (hr : root.length = 32) (hf : leaf.length = 32) (m n : Int) (hn63 : n ≤ 9223372036854775807) (A : Option Addr) (cap : Nat) (l : List (List UInt8)) (hl : AllH l) (hll : l.length ≤ 1000000) (w : World) (KW : Keys w) (hrd : Rd w w.heap.size A (flatS l)) :
    Calls Tryd.prog 22 #[sumV root, sumV leaf, .int .i64 m, .int .i64 n, .slice A l.length cap] w fun e w' => e = .returned (.bool (rightB root leaf m n l)) ∧ Ext w w' := by
  unfold rightB
  have hpl := foldP_length leaf hf m n l
  obtain ⟨p, hp⟩ : ∃ p, p = foldP leaf m n l := ⟨_, rfl⟩
  rw [← hp] at hpl ⊢
  have Hp := Lib.hid hp
  clear hp
  obtain ⟨y, ok⟩ := p
  have hfoldr := fold_sum root hr
  have hfoldf := fold_sum leaf hf
  have hgw := guard_sum
  have heq1 := fun w : World => eq_sum y root hpl hr w
  unfold sumV
  go_enter Tryd.func22, Tryd.ntmps22
  have hX0 : ArrB ((w.alloc (.cells (root.map byteV).toArray 23)).alloc (.cells (leaf.map byteV).toArray 23)) w.heap.size 23 root := Blk.alloc (Blk.new _ _ _) _
  have hL0 : ArrB ((w.alloc (.cells (root.map byteV).toArray 23)).alloc (.cells (leaf.map byteV).toArray 23)) (w.heap.size + 1) 23 leaf := by
    have := Blk.new (w.alloc (.cells (root.map byteV).toArray 23)) 23 (leaf.map byteV).toArray
    rw [alloc_size] at this
    exact this
  have hE0 : Ext w ((w.alloc (.cells (root.map byteV).toArray 23)).alloc (.cells (leaf.map byteV).toArray 23)) := ((Ext.refl w).alloc _).alloc _
  go_wp2_with (refine stop_load 23 (.tmp 6) rfl ?_)
  refine ⟨?_⟩
  refine wpList_load_row rfl 23 (.tmp 6) rfl (w.heap.size + 1) (by rfl) 23 _ (0, 0) _ hL0 Tryd.underlying23 rfl (size32.trans (by simp [hf])) ?_
  simp only [Act.put, List.setIfInBounds_toArray, List.set_cons_zero, List.set_cons_succ]
  generalize (w.alloc (.cells (root.map byteV).toArray 23)).alloc (.cells (leaf.map byteV).toArray 23) = w1 at *
  go_wp2_with fail
  change Calls _ _ #[sumV leaf, _, _, _] _ _
  refine (Fold_calls leaf hf m n hn63 A cap l hl hll _ (KW.ext hE0) ((hrd.below hE0 (Nat.le_refl _)).more hE0.size)).mono ?_; rw [← Hp.out]; rintro e w2 ⟨rfl, e2⟩
  have hX2 := Blk.below hX0 e2 (Blk.lt hX0)
  have hE2 := hE0.trans e2
  clear hX0 hL0 hE0 e2
  unfold sumV
  go_wp2_with (refine stop_store 23 (.tmp 11) (.tmp 19) rfl ?_)
  refine ⟨?_⟩
  change wpList _ _ _ _ _ (w2.alloc (.cells ((zerosB 32).map byteV).toArray 23))
  have hY0 : ArrB (w2.alloc (.cells ((zerosB 32).map byteV).toArray 23)) w2.heap.size 23 (zerosB 32) := Blk.new _ _ _
  refine wpList_store_row rfl 23 (.tmp 11) (.tmp 19) rfl w2.heap.size ((y).map byteV).toArray (by rfl) (by rfl) 23 _ hY0 (size32.trans (by simp [hpl])) (by simp [hpl, zerosB]) (by simp [byteV, Value.oneCell']) ?_
  simp only [Act.put, List.setIfInBounds_toArray, List.set_cons_zero, List.set_cons_succ]
  have hY : ArrB ((w2.alloc (.cells ((zerosB 32).map byteV).toArray 23)).setRow w2.heap.size ((y).map byteV).toArray) w2.heap.size 23 (y) := Blk.row hY0 _
  have e3 : Ext w2 ((w2.alloc (.cells ((zerosB 32).map byteV).toArray 23)).setRow w2.heap.size ((y).map byteV).toArray) := ((Ext.refl w2).alloc _).row (Nat.le_refl _) _
  clear hY0
  generalize (w2.alloc (.cells ((zerosB 32).map byteV).toArray 23)).setRow w2.heap.size ((y).map byteV).toArray = w3 at *
  have hX3 := Blk.below hX2 e3 (Blk.lt hX2)
  have hE3 := hE2.trans e3
  have hyl := hE2.size
  clear hX2 hE2 e3
  generalize w2.heap.size = gy at *
  cases ok
  · go_wp2_with fail
    go_ret
    exact ⟨rfl, hE3⟩
  · skip
    go_wp2_with (refine stop_load 23 (.tmp 11) rfl ?_)
    refine ⟨?_⟩
    refine list_want (by rfl) (fun K hK => ?_)
    refine wp_load_row 23 (.tmp 11) rfl gy (by rfl) 23 _ (0, 0) _ hY Tryd.underlying23 rfl (size32.trans (by simp [hpl])) ?_
    refine hK _ _ ?_; clear hK K
    simp only [Act.put, List.setIfInBounds_toArray, List.set_cons_zero, List.set_cons_succ]
    go_wp2_with (refine stop_load 23 (.tmp 5) rfl ?_)
    refine ⟨?_⟩
    refine list_want (by rfl) (fun K hK => ?_)
    refine wp_load_row 23 (.tmp 5) rfl w.heap.size (by rfl) 23 _ (0, 0) _ hX3 Tryd.underlying23 rfl (size32.trans (by simp [hr])) ?_
    refine hK _ _ ?_; clear hK K
    simp only [Act.put, List.setIfInBounds_toArray, List.set_cons_zero, List.set_cons_succ]
    go_wp2_with fail
    go_ret
    exact ⟨by simp, hE3⟩

end Go.Proofs.YtfpipdopgepelaaDoor

namespace Go.Proofs.YtfpipdopgepelaaDoor
open Go.ChangeShapes Go.WideShapes Go.ChangeAt Go.RowKit
attribute [local go_sem] bs_size bs_toList2 bs_append bs_extract_end bs_extract_begin bs_get wrap64_b grow_cell grow_frozen

theorem turnB_false (h r : List UInt8) : turnB h r false = nodeB r h := rfl
theorem turnB_true (h r : List UInt8) : turnB h r true = nodeB h r := rfl

set_option maxHeartbeats 2000000 in
theorem refFold_some (r : List UInt8) (hr : r.length = 32) (m n : Int) (A : Option Addr) (cap : Nat) (l : List (List UInt8)) (hl : AllH l) (hll : l.length ≤ 1000000) (w : World) (hrd : Rd w w.heap.size A (flatS l))
    (hlg : Way.longI m n = (l.length : Int)) : Calls Tryd.prog 19 #[sumV r, .int .i64 m, .int .i64 n, .slice A l.length cap] w fun e w' => e = .returned (.tuple #[sumV (Way.foldW nodeB r (Way.turnsI m n) l), .bool true]) ∧ Ext w w' := by
  obtain ⟨y, hy⟩ : ∃ y, y = Way.foldW nodeB r (Way.turnsI m n) l := ⟨_, rfl⟩
  rw [← hy]
  have hTl : (Way.turnsI m n).length = l.length := by have := Way.turnsI_length m n (by omega); omega
  obtain ⟨T, hT⟩ : ∃ T, T = Way.turnsI m n := ⟨_, rfl⟩
  rw [← hT] at hy hTl
  have Hy := Lib.hid hy
  have HT := Lib.hid hT
  clear hT hy
  have hfold := fold_sum r hr
  unfold sumV
  go_enter Tryd.func19, Tryd.ntmps19
  go_wp2_with fail
  have hX0 : ArrB ((w.alloc (.cells (r.map byteV).toArray 23)).alloc (.cells ((zerosB 32).map byteV).toArray 23)) w.heap.size 23 r := Blk.alloc (Blk.new _ _ _) _
  have hZ0 : ArrB ((w.alloc (.cells (r.map byteV).toArray 23)).alloc (.cells ((zerosB 32).map byteV).toArray 23)) (w.heap.size + 1) 23 (zerosB 32) := by
    have := Blk.new (w.alloc (.cells (r.map byteV).toArray 23)) 23 ((zerosB 32).map byteV).toArray
    rw [alloc_size] at this
    exact this
  have hE0 : Ext w ((w.alloc (.cells (r.map byteV).toArray 23)).alloc (.cells ((zerosB 32).map byteV).toArray 23)) := ((Ext.refl w).alloc _).alloc _
  change Calls _ _ _ ((w.alloc (.cells (r.map byteV).toArray 23)).alloc (.cells ((zerosB 32).map byteV).toArray 23)) _
  generalize (w.alloc (.cells (r.map byteV).toArray 23)).alloc (.cells ((zerosB 32).map byteV).toArray 23) = w1 at *
  refine (refLong_calls m n _).mono ?_; rintro e w2 ⟨rfl, e2⟩
  have hX2 := Blk.below hX0 e2 (Blk.lt hX0)
  have hZ2 := Blk.below hZ0 e2 (Blk.lt hZ0)
  have hE2 := hE0.trans e2
  have hxl := Blk.lt hX0
  have hzl := Blk.lt hZ0
  have hs1 := hE0.size
  have hs2 := e2.size
  clear hX0 hZ0 hE0 e2
  rw [hlg]
  go_wp2_with fail
  refine (refTurns_calls m n _).mono ?_; rintro e w3 ⟨v, rfl, hO, e3⟩
  rw [← HT.out] at hO
  obtain ⟨B, c, rfl, hrdT, -, -, hBb⟩ := own_rd hO
  have hX3 := Blk.below hX2 e3 (Blk.lt hX2)
  have hZ3 := Blk.below hZ2 e3 (Blk.lt hZ2)
  have hE3 := hE2.trans e3
  have hs3 := e3.size
  clear hX2 hZ2 hE2 e3 hO
  go_wp2_with fail
  go_loopw [11] (fun s11 wr => ∃ k : Nat, k ≤ l.length ∧ s11 = .int .i64 (k : Int) ∧ ArrB wr w.heap.size 23 (Way.foldW nodeB r (T.take k) (l.take k)) ∧ Keep (fun k => k < w3.heap.size ∧ k ≠ w.heap.size) w3 wr) (fun s11 _ => l.length - (intOf s11).toNat)
  case atStart => exact ⟨0, Nat.zero_le _, rfl, by rw [List.take_zero, Way.foldW_nil]; exact hX3, Keep.refl _ _⟩
  case round =>
    obtain ⟨wo, rfl⟩ : ∃ wo : World, wo = wr := ⟨_, rfl⟩
    obtain ⟨k, hk, rfl, hX, hKp⟩ := hrel
    by_cases hlt : k < l.length
    · have hlI : (k : Int) < (l.length : Int) := by omega
      have hltT : k < T.length := by omega
      obtain ⟨bT, oT, rfl, hbT, hcT⟩ := hrdT (map_ne Value.bool hltT)
      have hbb := hBb bT oT rfl
      have cT : wo.cell? ⟨bT, oT + k, none⟩ = some (.bool T[k]) := (World.cell?_of_block (hKp.block bT hbT ⟨hbT, by omega⟩)).trans (hcT k (.bool T[k]) (by simp [hltT]))
      obtain ⟨b, off, rfl, hbl, hm0⟩ := rds_mid hrd hl hlt
      have hm : wo.rangeAt b (off + k * 32) (hcells l[k]) := fun i u hu => (World.cell?_of_block ((hKp.block b (by omega) ⟨by omega, by omega⟩).trans (hE3.block b hbl))).trans (hm0 i u hu)
      have hbo : b < wo.heap.size := by have := hKp.size; omega
      have hq : l[k].length = 32 := hl _ (List.getElem_mem hlt)
      have hS := foldW_take r T l k hltT hlt
      have hfl := foldW_length (T.take k) (l.take k) r hr
      generalize l[k] = q at *
      generalize T[k] = tk at *
      generalize Way.foldW nodeB r (T.take k) (l.take k) = z at *
      clear hm0 hcT
      cases tk
      · rw [turnB_false] at hS
        have HS := Lib.hid hS
        clear hS
        go_wp2_with fail
        refine region_mix 6 (by kernel_rfl) (by kernel_rfl) (fun x => ?_); simp only [List.take_succ_cons, List.take_zero, List.drop_succ_cons, List.drop_zero]
        refine mix_row (by rfl) (by rfl) 23 (.tmp 4) rfl w.heap.size (by rfl) 23 _ _ hX Tryd.underlying23 rfl (size32.trans (by simp [hfl])) ?_
        simp only [Act.put, List.setIfInBounds_toArray, List.set_cons_zero, List.set_cons_succ]
        iterate 3 (first | (refine mix_quiet (by rfl) (by rfl) (fun K hK => ?_); go_big_quiet_op; refine hK _ ?_; clear hK K) | (refine mix_skip (by rfl) ?_; simp only [Act.put, List.setIfInBounds_toArray, List.set_cons_zero, List.set_cons_succ]))
        refine mix_mid (by rfl) (by rfl) 23 (.tmp 41) rfl b (off + k * 32) (by rfl) _ _ hm hbo Tryd.underlying23 rfl (size32l _ hq) ?_
        simp only [Act.put, List.setIfInBounds_toArray, List.set_cons_zero, List.set_cons_succ]
        (refine mix_loud (by rfl) (by rfl) (fun K E hK => ?_); go_big_op)
        change Calls _ _ #[sumV z, sumV q] _ _
        refine (refNode_calls z q hfl hq _).mono ?_; rintro e w5 ⟨rfl, hd⟩
        obtain ⟨x', rfl⟩ := more_ext _ hd; clear hd
        refine hK _ _ ⟨_, rfl⟩ ?_; clear hK K E
        refine mix_nil ?_
        have hX5 := Blk.below hX (grow_ext x') (Blk.lt hX)
        have hK5 := hKp.trans (Keep.of_ext (S := fun k => k < w3.heap.size ∧ k ≠ w.heap.size) (grow_ext x'))
        clear hX hKp hm cT
        generalize grow wo x' = w5 at *
        unfold sumV
        refine wpList_store_row rfl 23 (.tmp 4) (.tmp 43) rfl w.heap.size _ (by rfl) (by rfl) 23 _ hX5 (size32.trans (by simp [nodeB_length])) (by simp [hfl, nodeB_length]) (by simp [byteV, Value.oneCell']) ?_
        have hX6 : ArrB (w5.setRow w.heap.size ((nodeB z q).map byteV).toArray) w.heap.size 23 (nodeB z q) := Blk.row hX5 _
        have hK6 : Keep (fun k => k < w3.heap.size ∧ k ≠ w.heap.size) w3 (w5.setRow w.heap.size ((nodeB z q).map byteV).toArray) := hK5.trans (.of_upd ((Upd.refl w.heap.size w5).row _) (fun h => h.2 rfl))
        generalize w5.setRow w.heap.size ((nodeB z q).map byteV).toArray = w6 at *
        clear hX5 hK5
        rw [← HS.out] at hX6
        simp only [Act.put, List.setIfInBounds_toArray, List.set_cons_zero, List.set_cons_succ]
        go_wp2_with fail
        go_roundw
        case rel =>
          first
            | exact ⟨k + 1, by omega, by go_num, hX6, hK6⟩
            | (repeat apply Exists.intro
               refine ⟨?_, rfl⟩
               exact ⟨k + 1, by omega, by go_num, hX6, hK6⟩)
        case measure => simp [intOf]; omega
      · rw [turnB_true] at hS
        have HS := Lib.hid hS
        clear hS
        go_wp2_with fail
        refine region_mix 6 (by kernel_rfl) (by kernel_rfl) (fun x => ?_); simp only [List.take_succ_cons, List.take_zero, List.drop_succ_cons, List.drop_zero]
        iterate 3 (first | (refine mix_quiet (by rfl) (by rfl) (fun K hK => ?_); go_big_quiet_op; refine hK _ ?_; clear hK K) | (refine mix_skip (by rfl) ?_; simp only [Act.put, List.setIfInBounds_toArray, List.set_cons_zero, List.set_cons_succ]))
        refine mix_mid (by rfl) (by rfl) 23 (.tmp 34) rfl b (off + k * 32) (by rfl) _ _ hm hbo Tryd.underlying23 rfl (size32l _ hq) ?_
        simp only [Act.put, List.setIfInBounds_toArray, List.set_cons_zero, List.set_cons_succ]
        refine mix_row (by rfl) (by rfl) 23 (.tmp 4) rfl w.heap.size (by rfl) 23 _ _ hX Tryd.underlying23 rfl (size32.trans (by simp [hfl])) ?_
        simp only [Act.put, List.setIfInBounds_toArray, List.set_cons_zero, List.set_cons_succ]
        (refine mix_loud (by rfl) (by rfl) (fun K E hK => ?_); go_big_op)
        change Calls _ _ #[sumV q, sumV z] _ _
        refine (refNode_calls q z hq hfl _).mono ?_; rintro e w5 ⟨rfl, hd⟩
        obtain ⟨x', rfl⟩ := more_ext _ hd; clear hd
        refine hK _ _ ⟨_, rfl⟩ ?_; clear hK K E
        refine mix_nil ?_
        have hX5 := Blk.below hX (grow_ext x') (Blk.lt hX)
        have hK5 := hKp.trans (Keep.of_ext (S := fun k => k < w3.heap.size ∧ k ≠ w.heap.size) (grow_ext x'))
        clear hX hKp hm cT
        generalize grow wo x' = w5 at *
        unfold sumV
        refine wpList_store_row rfl 23 (.tmp 4) (.tmp 37) rfl w.heap.size _ (by rfl) (by rfl) 23 _ hX5 (size32.trans (by simp [nodeB_length])) (by simp [hfl, nodeB_length]) (by simp [byteV, Value.oneCell']) ?_
        have hX6 : ArrB (w5.setRow w.heap.size ((nodeB q z).map byteV).toArray) w.heap.size 23 (nodeB q z) := Blk.row hX5 _
        have hK6 : Keep (fun k => k < w3.heap.size ∧ k ≠ w.heap.size) w3 (w5.setRow w.heap.size ((nodeB q z).map byteV).toArray) := hK5.trans (.of_upd ((Upd.refl w.heap.size w5).row _) (fun h => h.2 rfl))
        generalize w5.setRow w.heap.size ((nodeB q z).map byteV).toArray = w6 at *
        clear hX5 hK5
        rw [← HS.out] at hX6
        simp only [Act.put, List.setIfInBounds_toArray, List.set_cons_zero, List.set_cons_succ]
        go_wp2_with fail
        go_roundw
        case rel =>
          first
            | exact ⟨k + 1, by omega, by go_num, hX6, hK6⟩
            | (repeat apply Exists.intro
               refine ⟨?_, rfl⟩
               exact ⟨k + 1, by omega, by go_num, hX6, hK6⟩)
        case measure => simp [intOf]; omega
    · obtain rfl : k = l.length := by omega
      have hX' : ArrB wo w.heap.size 23 y := by
        rw [Hy.out]
        have := hX
        rw [List.take_length, ← hTl, List.take_length] at this
        exact this
      have hyl : y.length = 32 := by rw [Hy.out]; exact foldW_length _ _ _ hr
      have hZ4 : ArrB wo (w.heap.size + 1) 23 (zerosB 32) := Blk.kept hZ3 hKp ⟨by omega, by omega⟩
      have hk4 : Keep (fun k => k < w.heap.size) w wo := (Keep.of_ext hE3).trans (hKp.mono (fun k _ h => ⟨by omega, by omega⟩))
      clear hX hKp
      go_wp2_with (refine stop_load 23 (.tmp 4) rfl ?_)
      refine ⟨?_⟩
      refine wpList_load_row rfl 23 (.tmp 4) rfl w.heap.size (by rfl) 23 _ (0, 0) _ hX' Tryd.underlying23 rfl (size32.trans (by simp [hyl])) ?_
      simp only [Act.put, List.setIfInBounds_toArray, List.set_cons_zero, List.set_cons_succ]
      have hzz : (zerosB 32).length = 32 := rfl
      go_wp2_with (refine stop_store 23 (.tmp 8) (.tmp 44) rfl ?_)
      refine ⟨?_⟩
      refine wpList_store_row rfl 23 (.tmp 8) (.tmp 44) rfl (w.heap.size + 1) ((y).map byteV).toArray (by rfl) (by rfl) 23 _ hZ4 (size32.trans (by simp [hyl])) (by simp [hyl, hzz]) (by simp [byteV, Value.oneCell']) ?_
      simp only [Act.put, List.setIfInBounds_toArray, List.set_cons_zero, List.set_cons_succ]
      have hR6 : ArrB (wo.setRow (w.heap.size + 1) ((y).map byteV).toArray) (w.heap.size + 1) 23 (y) := Blk.row hZ4 _
      have hR6u : Upd (w.heap.size + 1) wo (wo.setRow (w.heap.size + 1) ((y).map byteV).toArray) := (Upd.refl _ _).row _
      generalize wo.setRow (w.heap.size + 1) ((y).map byteV).toArray = w6 at *
      go_wp2_with fail
      have hk6 : Keep (fun k => k < w.heap.size) w w6 := hk4.trans (Keep.of_upd hR6u (fun h => absurd h (by omega)))
      (try simp only [Exit.inBlock, Exit.then]); refine bodyPost_ret (res_cell_t rfl _ _ (w.heap.size + 1) 23 _ _ rfl hR6 Tryd.underlying23 rfl (size32.trans (by simp [hyl]))) rfl ?_
      exact ⟨rfl, hk6.ext⟩

set_option maxHeartbeats 2000000 in
theorem refFold_none (r : List UInt8) (hr : r.length = 32) (m n : Int) (A : Option Addr) (cap : Nat) (l : List (List UInt8)) (hl : AllH l) (hll : l.length ≤ 1000000) (w : World) (hrd : Rd w w.heap.size A (flatS l))
    (hlg : Way.longI m n ≠ (l.length : Int)) : Calls Tryd.prog 19 #[sumV r, .int .i64 m, .int .i64 n, .slice A l.length cap] w fun e w' => e = .returned (.tuple #[sumV (zerosB 32), .bool false]) ∧ Ext w w' := by
  have hfold := fold_sum r hr
  unfold sumV
  go_enter Tryd.func19, Tryd.ntmps19
  go_wp2_with fail
  have hX0 : ArrB ((w.alloc (.cells (r.map byteV).toArray 23)).alloc (.cells ((zerosB 32).map byteV).toArray 23)) w.heap.size 23 r := Blk.alloc (Blk.new _ _ _) _
  have hZ0 : ArrB ((w.alloc (.cells (r.map byteV).toArray 23)).alloc (.cells ((zerosB 32).map byteV).toArray 23)) (w.heap.size + 1) 23 (zerosB 32) := by
    have := Blk.new (w.alloc (.cells (r.map byteV).toArray 23)) 23 ((zerosB 32).map byteV).toArray
    rw [alloc_size] at this
    exact this
  have hE0 : Ext w ((w.alloc (.cells (r.map byteV).toArray 23)).alloc (.cells ((zerosB 32).map byteV).toArray 23)) := ((Ext.refl w).alloc _).alloc _
  change Calls _ _ _ ((w.alloc (.cells (r.map byteV).toArray 23)).alloc (.cells ((zerosB 32).map byteV).toArray 23)) _
  generalize (w.alloc (.cells (r.map byteV).toArray 23)).alloc (.cells ((zerosB 32).map byteV).toArray 23) = w1 at *
  refine (refLong_calls m n _).mono ?_; rintro e w2 ⟨rfl, e2⟩
  have hX2 := Blk.below hX0 e2 (Blk.lt hX0)
  have hZ2 := Blk.below hZ0 e2 (Blk.lt hZ0)
  have hE2 := hE0.trans e2
  have hxl := Blk.lt hX0
  have hzl := Blk.lt hZ0
  have hs1 := hE0.size
  have hs2 := e2.size
  clear hX0 hZ0 hE0 e2
  have dl : (Way.longI m n != (l.length : Int)) = true := by simpa using hlg
  generalize Way.longI m n = L at *
  have hzz : (zerosB 32).length = 32 := rfl
  go_wp2_with (refine stop_store 23 (.tmp 8) (.tmp 18) rfl ?_)
  refine ⟨?_⟩
  refine wpList_store_row rfl 23 (.tmp 8) (.tmp 18) rfl (w.heap.size + 1) ((zerosB 32).map byteV).toArray (by rfl) (by rfl) 23 _ hZ2 (size32.trans (by simp [hzz])) (by simp [hzz, hzz]) (by simp [byteV, Value.oneCell']) ?_
  simp only [Act.put, List.setIfInBounds_toArray, List.set_cons_zero, List.set_cons_succ]
  have hR6 : ArrB (w2.setRow (w.heap.size + 1) ((zerosB 32).map byteV).toArray) (w.heap.size + 1) 23 (zerosB 32) := Blk.row hZ2 _
  have hR6u : Upd (w.heap.size + 1) w2 (w2.setRow (w.heap.size + 1) ((zerosB 32).map byteV).toArray) := (Upd.refl _ _).row _
  generalize w2.setRow (w.heap.size + 1) ((zerosB 32).map byteV).toArray = w6 at *
  go_wp2_with fail
  (try simp only [Exit.inBlock, Exit.then]); refine bodyPost_ret (res_cell_t rfl _ _ (w.heap.size + 1) 23 _ _ rfl hR6 Tryd.underlying23 rfl (size32.trans (by simp [hzz]))) rfl ?_
  have hk6 : Keep (fun k => k < w.heap.size) w w6 := (Keep.of_ext hE2).trans (Keep.of_upd hR6u (fun h => absurd h (by omega)))
  exact ⟨rfl, hk6.ext⟩

theorem refFold_calls (r : List UInt8) (hr : r.length = 32) (m n : Int) (A : Option Addr) (cap : Nat) (l : List (List UInt8)) (hl : AllH l) (hll : l.length ≤ 1000000) (w : World) (hrd : Rd w w.heap.size A (flatS l)) :
    Calls Tryd.prog 19 #[sumV r, .int .i64 m, .int .i64 n, .slice A l.length cap] w fun e w' => e = .returned (.tuple #[sumV (foldP r m n l).1, .bool (foldP r m n l).2]) ∧ Ext w w' := by
  by_cases hlg : Way.longI m n = (l.length : Int)
  · rw [show foldP r m n l = _ from if_pos hlg]
    exact refFold_some r hr m n A cap l hl hll w hrd hlg
  · rw [show foldP r m n l = _ from if_neg hlg]
    exact refFold_none r hr m n A cap l hl hll w hrd hlg

end Go.Proofs.YtfpipdopgepelaaDoor

namespace Go.Proofs.YtfpipdopgepelaaDoor
open Go.ChangeShapes Go.WideShapes Go.ChangeAt Go.RowKit
attribute [local go_sem] bs_size bs_toList2 bs_append bs_extract_end bs_extract_begin bs_get wrap64_b grow_cell grow_frozen

theorem res_two_t {P : Program} {fn : Func} {p q u : Tmp} {ty : TypeId} (h : fn.results = #[.cell p ty, .cell q ty, .tmp u]) (tmps : Array Value) (w : World) (g g' : Nat) (t t' : TypeId) (cs cs' : Array Value) (d : TypeDesc)
    (hp : tmps.getD p undef = .pointer (some ⟨g, 0, none⟩)) (hq : tmps.getD q undef = .pointer (some ⟨g', 0, none⟩)) (hg : Blk w g t cs) (hg' : Blk w g' t' cs')
    (hu : P.underlying ty = some d) (hd : (match d with | .struct _ | .array _ _ => true | _ => false) = true) (hi : (P.info? ty).map (·.size) = some cs.size) (hi' : (P.info? ty).map (·.size) = some cs'.size) :
    (results fn tmps).run P w = .ok (.tuple #[.agg cs, .agg cs', tmps.getD u undef]) w := by
  have hp' : tmps[p]?.getD undef = .pointer (some ⟨g, 0, none⟩) := by simpa using hp
  have hq' : tmps[q]?.getD undef = .pointer (some ⟨g', 0, none⟩) := by simpa using hq
  simp [results, h, hp', hq', asAddr, run_loadVar_row w g t ty cs (0, 0) d hg hu hd hi, run_loadVar_row w g' t' ty cs' (0, 0) d hg' hu hd hi']

section
variable {P : Program} {ops : Array Oper} {S : World → Prop} {T : Act → World → Prop} {o : Oper} {r : Plan} {a : Act} {w : World} {i : Nat} {rest : List Oper}
theorem plan_store_row (ho : ops[i]? = some o) (hl : loudOp o = true) (hw : Region.wanted o (yielded ops a.tmps) = true) (ty : TypeId) (x y : Operand) (hop : o.op = .store ty x y) (g : Nat) (cells : Array Value) (hx : a.eval x = .pointer (some ⟨g, 0, none⟩)) (hy : a.eval y = .agg cells)
    (t : TypeId) (old : Array Value) (hg : Blk w g t old) (hi : (P.info? ty).map (·.size) = some cells.size) (hold : old.size = cells.size) (h1 : cells.all (·.oneCell') = true) (hS : S (w.setRow g cells))
    (h : wpPlan P ops S loudOp T r (a.put o.dst undef) (w.setRow g cells)) : wpPlan P ops S loudOp T (.one i r) a w :=
  plan_one (plan_loud ho hl hw fun K E hK => wp_store_row ty x y hop g cells hx hy t old hg hi hold h1 (hK _ _ hS h))
theorem mix_store_row (hl : loudOp o = true) (hw : Region.wanted o (yielded ops a.tmps) = true) (ty : TypeId) (x y : Operand) (hop : o.op = .store ty x y) (g : Nat) (cells : Array Value) (hx : a.eval x = .pointer (some ⟨g, 0, none⟩)) (hy : a.eval y = .agg cells)
    (t : TypeId) (old : Array Value) (hg : Blk w g t old) (hi : (P.info? ty).map (·.size) = some cells.size) (hold : old.size = cells.size) (h1 : cells.all (·.oneCell') = true) (hS : S (w.setRow g cells))
    (h : wpMix P ops S loudOp T rest (a.put o.dst undef) (w.setRow g cells)) : wpMix P ops S loudOp T (o :: rest) a w :=
  mix_loud hl hw fun K E hK => wp_store_row ty x y hop g cells hx hy t old hg hi hold h1 (hK _ _ hS h)
end
/-- Two new arrays with the same content. -/
def twoW (W : World) : World := (W.alloc (.cells ((zerosB 32).map byteV).toArray 23)).alloc (.cells ((zerosB 32).map byteV).toArray 23)
def twoR (W : World) (g g' : Nat) (a : List UInt8) : World := ((twoW W).setRow g (a.map byteV).toArray).setRow g' (a.map byteV).toArray
theorem twoW_facts (W : World) : ArrB (twoW W) W.heap.size 23 (zerosB 32) ∧ ArrB (twoW W) (W.heap.size + 1) 23 (zerosB 32) ∧ Ext W (twoW W) := by
  have h1 := Blk.new W 23 ((zerosB 32).map byteV).toArray
  have h2 := Blk.new (W.alloc (.cells ((zerosB 32).map byteV).toArray 23)) 23 ((zerosB 32).map byteV).toArray
  rw [alloc_size] at h2
  exact ⟨h1.alloc _, h2, ((Ext.refl W).alloc _).alloc _⟩
theorem twoR_facts (W : World) (g g' : Nat) (a : List UInt8) (h : ArrB (twoW W) g 23 (zerosB 32)) (h' : ArrB (twoW W) g' 23 (zerosB 32)) (hne : g ≠ g') (hg : W.heap.size ≤ g) (hg' : W.heap.size ≤ g') :
    ArrB ((twoW W).setRow g (a.map byteV).toArray) g' 23 (zerosB 32) ∧ Ext W ((twoW W).setRow g (a.map byteV).toArray) ∧ ArrB (twoR W g g' a) g 23 a ∧ ArrB (twoR W g g' a) g' 23 a ∧ Ext W (twoR W g g' a) := by
  have e := (twoW_facts W).2.2
  have h1 : ArrB ((twoW W).setRow g (a.map byteV).toArray) g' 23 (zerosB 32) := Blk.rowFar h' (Ne.symm hne) _
  have h2 : ArrB ((twoW W).setRow g (a.map byteV).toArray) g 23 a := Blk.row h _
  exact ⟨h1, e.row hg _, Blk.rowFar h2 hne _, Blk.row h1 _, (e.row hg _).row hg' _⟩

/-- What proof.Both tells. -/
def bothP (a : List UInt8) (m n : Int) (l : List (List UInt8)) : (List UInt8 × List UInt8) × Bool := if Way.linksI m n = (l.length : Int) then (Way.both nodeB a m.toNat n.toNat true l, true) else ((zerosB 32, zerosB 32), false)
theorem bothW_length : ∀ (ts : List Bool) (hs : List (List UInt8)) (x y : List UInt8), x.length = 32 → y.length = 32 → (Way.bothW nodeB x y ts hs).1.length = 32 ∧ (Way.bothW nodeB x y ts hs).2.length = 32
  | [], hs, x, y, h, h' => by rw [Way.bothW_nil]; exact ⟨h, h'⟩
  | t :: ts, [], x, y, h, h' => ⟨h, h'⟩
  | t :: ts, h :: hs, x, y, hx, hy => by
    unfold Way.bothW
    cases t
    · exact bothW_length ts hs _ _ hx (nodeB_length _ _)
    · exact bothW_length ts hs _ _ (nodeB_length _ _) (nodeB_length _ _)
theorem headD_length (l : List (List UInt8)) (hl : AllH l) (a : List UInt8) (ha : a.length = 32) : (l.headD a).length = 32 := by
  cases l with
  | nil => exact ha
  | cons x l => exact hl x (by simp)
theorem bothP_length (a : List UInt8) (ha : a.length = 32) (m n : Int) (l : List (List UInt8)) (hl : AllH l) : (bothP a m n l).1.1.length = 32 ∧ (bothP a m n l).1.2.length = 32 := by
  unfold bothP
  split
  · unfold Way.both
    split
    · exact bothW_length _ _ _ _ ha ha
    · exact bothW_length _ _ _ _ (headD_length l hl a ha) (headD_length l hl a ha)
  · exact ⟨rfl, rfl⟩

def bothW0 (a : List UInt8) (w : World) (v : Value) : World := (((w.alloc (.cells (a.map byteV).toArray 23)).alloc (.cells #[v] 25)).alloc (.cells ((zerosB 32).map byteV).toArray 23)).alloc (.cells ((zerosB 32).map byteV).toArray 23)
theorem bothW0_facts (a : List UInt8) (w : World) (v : Value) : ArrB (bothW0 a w v) w.heap.size 23 a ∧ Blk (bothW0 a w v) (w.heap.size + 1) 25 #[v] ∧ ArrB (bothW0 a w v) (w.heap.size + 1 + 1) 23 (zerosB 32) ∧ ArrB (bothW0 a w v) (w.heap.size + 1 + 1 + 1) 23 (zerosB 32) ∧
    Ext w (bothW0 a w v) ∧ (bothW0 a w v).heap.size = w.heap.size + 4 := by
  have h1 := Blk.new w 23 (a.map byteV).toArray
  have h2 := Blk.new (w.alloc (.cells (a.map byteV).toArray 23)) 25 #[v]
  have h3 := Blk.new ((w.alloc (.cells (a.map byteV).toArray 23)).alloc (.cells #[v] 25)) 23 ((zerosB 32).map byteV).toArray
  have h4 := Blk.new (((w.alloc (.cells (a.map byteV).toArray 23)).alloc (.cells #[v] 25)).alloc (.cells ((zerosB 32).map byteV).toArray 23)) 23 ((zerosB 32).map byteV).toArray
  simp only [alloc_size] at h2 h3 h4
  exact ⟨((h1.alloc _).alloc _).alloc _, (h2.alloc _).alloc _, h3.alloc _, h4, ((((Ext.refl w).alloc _).alloc _).alloc _).alloc _, by unfold bothW0; simp only [alloc_size]⟩

set_option maxHeartbeats 2000000 in
theorem Both_none (a : List UInt8) (ha : a.length = 32) (m n : Int) (hn63 : n ≤ 9223372036854775807) (A : Option Addr) (cap : Nat) (l : List (List UInt8)) (hll : l.length ≤ 1000000) (w : World) (KW : Keys w)
    (hlg : Way.linksI m n ≠ (l.length : Int)) : Calls Tryd.prog 20 #[sumV a, .int .i64 m, .int .i64 n, .slice A l.length cap] w fun e w' => e = .returned (.tuple #[sumV (zerosB 32), sumV (zerosB 32), .bool false]) ∧ Ext w w' := by
  have hfold := fold_sum a ha
  have hzz : (zerosB 32).length = 32 := rfl
  unfold sumV
  go_enter Tryd.func20, Tryd.ntmps20
  go_wp2_with fail
  obtain ⟨hX, hV, hY, hZ, hE, hz⟩ := bothW0_facts a w (.slice A l.length cap)
  change Code.wp _ _ _ _ (bothW0 a w (.slice A l.length cap))
  generalize bothW0 a w (.slice A l.length cap) = w1 at *
  have cV : w1.cell? ⟨w.heap.size + 1, 0, none⟩ = some (.slice A l.length cap) := Blk.cell hV 0
  have hvl := hV.lt
  go_step3
  go_wp2_with fail
  refine region_mix0 (by kernel_rfl) (by kernel_rfl) (fun x => ?_)
  iterate 2 (first | (refine mix_quiet (by rfl) (by rfl) (fun K hK => ?_); go_big_quiet_op; refine hK _ ?_; clear hK K) | (refine mix_skip (by rfl) ?_; simp only [Act.put, List.setIfInBounds_toArray, List.set_cons_zero, List.set_cons_succ]))
  (refine mix_loud (by rfl) (by rfl) (fun K E hK => ?_); go_big_op)
  refine (LinksLong_calls m n hn63 _).mono ?_; rintro e w3 ⟨rfl, hd⟩
  obtain ⟨x', rfl⟩ := more_ext _ hd; clear hd
  refine hK _ _ ⟨_, rfl⟩ ?_; clear hK K E
  iterate 3 (first | (refine mix_quiet (by rfl) (by rfl) (fun K hK => ?_); go_big_quiet_op; refine hK _ ?_; clear hK K) | (refine mix_skip (by rfl) ?_; simp only [Act.put, List.setIfInBounds_toArray, List.set_cons_zero, List.set_cons_succ]))
  refine mix_nil ?_
  have hY2 := Blk.below hY (grow_ext x') (Blk.lt hY)
  have hZ2 := Blk.below hZ (grow_ext x') (Blk.lt hZ)
  have hE2 := hE.trans (grow_ext x')
  clear hX hV hY hZ hE cV
  generalize grow w1 x' = w2 at *
  have dl : (Way.linksI m n != (l.length : Int)) = true := by simpa using hlg
  generalize Way.linksI m n = L at *
  go_wp2_with (refine stop_store 23 (.tmp 8) (.tmp 23) rfl ?_)
  refine ⟨?_⟩
  refine wpList_store_row rfl 23 (.tmp 8) (.tmp 23) rfl (w.heap.size + 1 + 1) ((zerosB 32).map byteV).toArray (by rfl) (by rfl) 23 _ hY2 (size32.trans (by simp [hzz])) (by simp [hzz, hzz]) (by simp [byteV, Value.oneCell']) ?_
  simp only [Act.put, List.setIfInBounds_toArray, List.set_cons_zero, List.set_cons_succ]
  have hY3 : ArrB (w2.setRow (w.heap.size + 1 + 1) ((zerosB 32).map byteV).toArray) (w.heap.size + 1 + 1) 23 (zerosB 32) := Blk.row hY2 _
  have hY3u : Upd (w.heap.size + 1 + 1) w2 (w2.setRow (w.heap.size + 1 + 1) ((zerosB 32).map byteV).toArray) := (Upd.refl _ _).row _
  generalize w2.setRow (w.heap.size + 1 + 1) ((zerosB 32).map byteV).toArray = w3 at *
  have hZ3 := hZ2.kept (S := fun k => k ≠ w.heap.size + 1 + 1) (.of_upd hY3u (fun h => h rfl)) (by omega)
  have hE3 := hE2.upd hY3u (by omega)
  clear hY3u hY2 hZ2 hE2
  go_wp2_with (refine stop_store 23 (.tmp 9) (.tmp 24) rfl ?_)
  refine ⟨?_⟩
  refine wpList_store_row rfl 23 (.tmp 9) (.tmp 24) rfl (w.heap.size + 1 + 1 + 1) ((zerosB 32).map byteV).toArray (by rfl) (by rfl) 23 _ hZ3 (size32.trans (by simp [hzz])) (by simp [hzz, hzz]) (by simp [byteV, Value.oneCell']) ?_
  simp only [Act.put, List.setIfInBounds_toArray, List.set_cons_zero, List.set_cons_succ]
  have hZ4 : ArrB (w3.setRow (w.heap.size + 1 + 1 + 1) ((zerosB 32).map byteV).toArray) (w.heap.size + 1 + 1 + 1) 23 (zerosB 32) := Blk.row hZ3 _
  have hZ4u : Upd (w.heap.size + 1 + 1 + 1) w3 (w3.setRow (w.heap.size + 1 + 1 + 1) ((zerosB 32).map byteV).toArray) := (Upd.refl _ _).row _
  generalize w3.setRow (w.heap.size + 1 + 1 + 1) ((zerosB 32).map byteV).toArray = w4 at *
  have hY4 := Blk.kept (S := fun k => k ≠ w.heap.size + 1 + 1 + 1) hY3 (.of_upd hZ4u (fun h => h rfl)) (by omega)
  have hE4 := hE3.upd hZ4u (by omega)
  go_wp2_with fail
  rw [Exit.noGoto_ret]
  (try simp only [Exit.inBlock, Exit.then]); refine bodyPost_ret (res_two_t rfl _ _ (w.heap.size + 1 + 1) (w.heap.size + 1 + 1 + 1) 23 23 _ _ _ rfl rfl hY4 hZ4 Tryd.underlying23 rfl (size32.trans (by simp [hzz])) (size32.trans (by simp [hzz]))) rfl ?_
  exact ⟨rfl, hE4⟩

/-- What the rounds have made. -/
def bwOf (z : List UInt8) (q : List (List UInt8)) (pre : List (Nat × Bool)) : List UInt8 × List UInt8 := Way.bothW nodeB z z (pre.map (·.2)) (q.take pre.length)
theorem bwOf_nil (z : List UInt8) (q : List (List UInt8)) : bwOf z q [] = (z, z) := by unfold bwOf; simp [Way.bothW_nil]
theorem bwOf_length (z : List UInt8) (hz : z.length = 32) (q : List (List UInt8)) (pre : List (Nat × Bool)) : (bwOf z q pre).1.length = 32 ∧ (bwOf z q pre).2.length = 32 := bothW_length _ _ _ _ hz hz
theorem bwOf_snoc (z : List UInt8) (q : List (List UInt8)) (pre : List (Nat × Bool)) (x : Nat × Bool) (h : pre.length < q.length) : bwOf z q (pre ++ [x]) = if x.2 then (nodeB q[pre.length] (bwOf z q pre).1, nodeB q[pre.length] (bwOf z q pre).2) else ((bwOf z q pre).1, nodeB (bwOf z q pre).2 q[pre.length]) := by
  unfold bwOf
  rw [List.length_append, List.length_singleton, List.map_append, List.take_succ_eq_append_getElem h]
  exact Way.bothW_snoc nodeB _ _ z z x.2 _ (by rw [List.length_map, List.length_take]; omega)
theorem bwOf_all (z : List UInt8) (q : List (List UInt8)) (s : List Bool) (h : q.length = s.length) : bwOf z q (upto (backBF s) s.length) = Way.bothW nodeB z z s.reverse q := by
  unfold bwOf
  rw [upto_backB, upto_length, ← h, List.take_length]

set_option maxHeartbeats 4000000 in
theorem Both_some (a : List UInt8) (ha : a.length = 32) (m n : Nat) (h1 : 1 ≤ m) (h2 : m ≤ n) (h3 : n ≤ 1099511627776) (A : Option Addr) (cap : Nat) (l : List (List UInt8)) (hl : AllH l) (hll : l.length ≤ 1000000) (hcap : l.length ≤ cap) (hcap2 : cap ≤ maxLen) (w : World) (KW : Keys w) (hrd : Rd w w.heap.size A (flatS l))
    (hlg : Way.linksI (m : Int) (n : Int) = (l.length : Int)) : Calls Tryd.prog 20 #[sumV a, .int .i64 (m : Int), .int .i64 (n : Int), .slice A l.length cap] w fun e w' => e = .returned (.tuple #[sumV (Way.both nodeB a m n true l).1, sumV (Way.both nodeB a m n true l).2, .bool true]) ∧ Ext w w' := by
  have hneed : l.length = (Way.parts m n).length + if Way.wholeB (Way.parts m n) then 0 else 1 := by
    unfold Way.linksI at hlg
    rw [if_neg (by omega)] at hlg
    simp only [Int.toNat_natCast] at hlg
    split at hlg <;> split <;> first | omega | contradiction
  obtain ⟨xy, hxy⟩ : ∃ xy, xy = Way.both nodeB a m n true l := ⟨_, rfl⟩
  rw [← hxy]
  have hxy' : xy = if Way.wholeB (Way.parts m n) then Way.bothW nodeB a a (Way.parts m n).reverse l else Way.bothW nodeB (l.headD a) (l.headD a) (Way.parts m n).reverse l.tail := by
    rw [hxy]; unfold Way.both; rw [Bool.true_and]
  clear hxy
  have hpl := parts_le m n
  obtain ⟨s, hs⟩ : ∃ s, s = Way.parts m n := ⟨_, rfl⟩
  rw [← hs] at hxy' hneed hpl
  have Hs := Lib.hid hs
  have Hxy := Lib.hid hxy'
  have Hneed := Lib.hid hneed
  clear hs hxy' hneed
  have hfold := fold_sum a ha
  unfold sumV
  refine (callsIn_wide (n := 9)).1 (callsIn_of_wp_marks Tryd.func20 rfl trivial (wpIn_wide.2 ?_) rfl)
  simp only [Tryd.ntmps20, List.size_toArray, List.length_cons, List.length_nil, Nat.reduceAdd, Nat.reduceSub, Array.replicate_succ, Array.replicate_zero, List.push_toArray, List.append_toArray, List.nil_append, List.cons_append]
  go_wp2_with fail
  obtain ⟨hX, hV, hY, hZ, hE, hz⟩ := bothW0_facts a w (.slice A l.length cap)
  change Code.wp _ _ _ _ (bothW0 a w (.slice A l.length cap))
  generalize bothW0 a w (.slice A l.length cap) = w1 at *
  have cV : w1.cell? ⟨w.heap.size + 1, 0, none⟩ = some (.slice A l.length cap) := Blk.cell hV 0
  have hvl := hV.lt
  go_step3
  go_wp2_with fail
  refine region_mix0 (by kernel_rfl) (by kernel_rfl) (fun x => ?_)
  iterate 2 (first | (refine mix_quiet (by rfl) (by rfl) (fun K hK => ?_); go_big_quiet_op; refine hK _ ?_; clear hK K) | (refine mix_skip (by rfl) ?_; simp only [Act.put, List.setIfInBounds_toArray, List.set_cons_zero, List.set_cons_succ]))
  (refine mix_loud (by rfl) (by rfl) (fun K E hK => ?_); go_big_op)
  refine (LinksLong_calls (m : Int) (n : Int) (by omega) _).mono ?_; rintro e w3 ⟨rfl, hd⟩
  obtain ⟨x', rfl⟩ := more_ext _ hd; clear hd
  refine hK _ _ ⟨_, rfl⟩ ?_; clear hK K E
  iterate 3 (first | (refine mix_quiet (by rfl) (by rfl) (fun K hK => ?_); go_big_quiet_op; refine hK _ ?_; clear hK K) | (refine mix_skip (by rfl) ?_; simp only [Act.put, List.setIfInBounds_toArray, List.set_cons_zero, List.set_cons_succ]))
  refine mix_nil ?_
  have hX2 := Blk.below hX (grow_ext x') (Blk.lt hX)
  have hV2 := Blk.below hV (grow_ext x') (Blk.lt hV)
  have hY2 := Blk.below hY (grow_ext x') (Blk.lt hY)
  have hZ2 := Blk.below hZ (grow_ext x') (Blk.lt hZ)
  have hE2 := hE.trans (grow_ext x')
  have hs2 := (grow_ext x').size
  clear hX hV hY hZ hE cV
  generalize grow w1 x' = w2 at *
  rw [hlg]
  go_wp2_with fail
  refine (parts_calls m n h1 h2 h3 _).mono ?_; rw [← Hs.out]; rintro e w3 ⟨v, rfl, hO, e3⟩
  have hX3 := Blk.below hX2 e3 (Blk.lt hX2)
  have hV3 := Blk.below hV2 e3 (Blk.lt hV2)
  have hY3 := Blk.below hY2 e3 (Blk.lt hY2)
  have hZ3 := Blk.below hZ2 e3 (Blk.lt hZ2)
  have hE3 := hE2.trans e3
  have hs3 := e3.size
  obtain ⟨B, c, rfl, hrdB, -, -, hBb⟩ := own_rd hO
  clear hX2 hV2 hY2 hZ2 hE2 e3 hO
  go_upto_region 4 with fail
  go_cut [12, 13] from 28 to 29 (fun s12 s13 wx => ∃ g12 g13 : Nat, s12 = .pointer (some ⟨g12, 0, none⟩) ∧ s13 = .pointer (some ⟨g13, 0, none⟩) ∧ ArrB wx g12 23 a ∧ ArrB wx g13 23 a ∧ g12 ≠ g13 ∧ w3.heap.size ≤ g12 ∧ w3.heap.size ≤ g13 ∧ Ext w3 wx)
  case first =>
    refine region_plan 6 (Plan.run [0, 1] (.two 2 3 (Plan.run [3, 4, 5] .nil) (Plan.run [2, 4, 5] .nil))) (by kernel_rfl) (by kernel_rfl) (fun y0 => ?_); simp only [Plan.run, List.drop_succ_cons, List.drop_zero, List.drop_nil]
    refine plan_row (by simp only [List.getElem?_toArray, List.getElem?_cons_zero, List.getElem?_cons_succ]; rfl) (by rfl) (by rfl) 23 (.tmp 4) rfl w.heap.size (by rfl) _ _ _ hX3 Tryd.underlying23 rfl (size32.trans (by simp [ha])) ?_
    simp only [Act.put, List.setIfInBounds_toArray, List.set_cons_zero, List.set_cons_succ]
    refine plan_row (by simp only [List.getElem?_toArray, List.getElem?_cons_zero, List.getElem?_cons_succ]; rfl) (by rfl) (by rfl) 23 (.tmp 4) rfl w.heap.size (by rfl) _ _ _ hX3 Tryd.underlying23 rfl (size32.trans (by simp [ha])) ?_
    simp only [Act.put, List.setIfInBounds_toArray, List.set_cons_zero, List.set_cons_succ]
    refine plan_two ?_ ?_
    · skip
      (refine plan_loud (by simp only [List.getElem?_toArray, List.getElem?_cons_zero, List.getElem?_cons_succ]; rfl) (by rfl) (by rfl) (fun K E hK => ?_); go_big_op)
      refine hK _ _ (more_of ((grow_ext y0).alloc _)) ?_; clear hK K E
      refine plan_one ?_
      (refine plan_loud (by simp only [List.getElem?_toArray, List.getElem?_cons_zero, List.getElem?_cons_succ]; rfl) (by rfl) (by rfl) (fun K E hK => ?_); go_big_op)
      refine hK _ _ (more_of (((grow_ext y0).alloc _).alloc _)) ?_; clear hK K E
      obtain ⟨p1, p2, p3⟩ := twoW_facts (grow w3 y0)
      obtain ⟨q1, q2, q3, q4, q5⟩ := twoR_facts (grow w3 y0) ((grow w3 y0).heap.size) ((grow w3 y0).heap.size + 1) a p1 p2 (by omega) (by omega) (by omega)
      change wpPlan _ _ _ _ _ _ _ (twoW (grow w3 y0))
      refine plan_store_row (by simp only [List.getElem?_toArray, List.getElem?_cons_zero, List.getElem?_cons_succ]; rfl) (by rfl) (by rfl) 23 (.tmp 12) (.tmp 28) rfl ((grow w3 y0).heap.size) (a.map byteV).toArray (by rfl) (by rfl) 23 _ p1 (size32.trans (by simp [ha])) (by simp [ha, zerosB]) (by simp [byteV, Value.oneCell']) (more_of ((grow_ext y0).trans q2)) ?_
      simp only [Act.put, List.setIfInBounds_toArray, List.set_cons_zero, List.set_cons_succ]
      refine plan_store_row (by simp only [List.getElem?_toArray, List.getElem?_cons_zero, List.getElem?_cons_succ]; rfl) (by rfl) (by rfl) 23 (.tmp 13) (.tmp 29) rfl ((grow w3 y0).heap.size + 1) (a.map byteV).toArray (by rfl) (by rfl) 23 _ q1 (size32.trans (by simp [ha])) (by simp [ha, zerosB]) (by simp [byteV, Value.oneCell']) (more_of ((grow_ext y0).trans q5)) ?_
      simp only [Act.put, List.setIfInBounds_toArray, List.set_cons_zero, List.set_cons_succ]
      change wpPlan _ _ _ _ _ _ _ (twoR (grow w3 y0) ((grow w3 y0).heap.size) ((grow w3 y0).heap.size + 1) a)
      have hgs := (grow_ext y0).size
      generalize twoR (grow w3 y0) ((grow w3 y0).heap.size) ((grow w3 y0).heap.size + 1) a = w9 at *
      refine plan_nil ?_
      go_wp2_with fail
      go_meet
      exact ⟨_, _, by simp, by simp, q3, q4, by omega, by omega, by omega, (grow_ext y0).trans q5⟩
    · skip
      (refine plan_loud (by simp only [List.getElem?_toArray, List.getElem?_cons_zero, List.getElem?_cons_succ]; rfl) (by rfl) (by rfl) (fun K E hK => ?_); go_big_op)
      refine hK _ _ (more_of ((grow_ext y0).alloc _)) ?_; clear hK K E
      refine plan_one ?_
      (refine plan_loud (by simp only [List.getElem?_toArray, List.getElem?_cons_zero, List.getElem?_cons_succ]; rfl) (by rfl) (by rfl) (fun K E hK => ?_); go_big_op)
      refine hK _ _ (more_of (((grow_ext y0).alloc _).alloc _)) ?_; clear hK K E
      obtain ⟨p1, p2, p3⟩ := twoW_facts (grow w3 y0)
      obtain ⟨q1, q2, q3, q4, q5⟩ := twoR_facts (grow w3 y0) ((grow w3 y0).heap.size + 1) ((grow w3 y0).heap.size) a p2 p1 (by omega) (by omega) (by omega)
      change wpPlan _ _ _ _ _ _ _ (twoW (grow w3 y0))
      refine plan_store_row (by simp only [List.getElem?_toArray, List.getElem?_cons_zero, List.getElem?_cons_succ]; rfl) (by rfl) (by rfl) 23 (.tmp 12) (.tmp 28) rfl ((grow w3 y0).heap.size + 1) (a.map byteV).toArray (by rfl) (by rfl) 23 _ p2 (size32.trans (by simp [ha])) (by simp [ha, zerosB]) (by simp [byteV, Value.oneCell']) (more_of ((grow_ext y0).trans q2)) ?_
      simp only [Act.put, List.setIfInBounds_toArray, List.set_cons_zero, List.set_cons_succ]
      refine plan_store_row (by simp only [List.getElem?_toArray, List.getElem?_cons_zero, List.getElem?_cons_succ]; rfl) (by rfl) (by rfl) 23 (.tmp 13) (.tmp 29) rfl ((grow w3 y0).heap.size) (a.map byteV).toArray (by rfl) (by rfl) 23 _ q1 (size32.trans (by simp [ha])) (by simp [ha, zerosB]) (by simp [byteV, Value.oneCell']) (more_of ((grow_ext y0).trans q5)) ?_
      simp only [Act.put, List.setIfInBounds_toArray, List.set_cons_zero, List.set_cons_succ]
      change wpPlan _ _ _ _ _ _ _ (twoR (grow w3 y0) ((grow w3 y0).heap.size + 1) ((grow w3 y0).heap.size) a)
      have hgs := (grow_ext y0).size
      generalize twoR (grow w3 y0) ((grow w3 y0).heap.size + 1) ((grow w3 y0).heap.size) a = w9 at *
      refine plan_nil ?_
      go_wp2_with fail
      go_meet
      exact ⟨_, _, by simp, by simp, q3, q4, by omega, by omega, by omega, (grow_ext y0).trans q5⟩
  case rest =>
    obtain ⟨g12, g13, rfl, rfl, h12, h13, hne, hg12, hg13, e4⟩ := hcut
    obtain ⟨wd, rfl⟩ : ∃ wd : World, wd = wc := ⟨_, rfl⟩
    have hV4 := Blk.below hV3 e4 (Blk.lt hV3)
    have hY4 := Blk.below hY3 e4 (Blk.lt hY3)
    have hZ4 := Blk.below hZ3 e4 (Blk.lt hZ3)
    have hE4 := hE3.trans e4
    have hrd4 : Rd wd wd.heap.size B (boolsV s) := (hrdB.below e4 (Nat.le_refl _)).more e4.size
    have hrdl : Rd wd w.heap.size A (flatS l) := hrd.below hE4 (Nat.le_refl _)
    have hs4 := e4.size
    have hgl12 := Blk.lt h12
    have hgl13 := Blk.lt h13
    have hvl4 := hV4.lt
    have hyl4 := Blk.lt hY4
    have hzl4 := Blk.lt hZ4
    have cV : wd.cell? ⟨w.heap.size + 1, 0, none⟩ = some (.slice A l.length cap) := Blk.cell hV4 0
    have fV := hV4.frozen 0
    clear hX3 hV3 hY3 hZ3 hE3 hrdB
    go_upto_if 31 with fail
    obtain ⟨ct, hct⟩ : ∃ ct, ct = s.contains true := ⟨_, rfl⟩
    refine (ContainsB_calls wd.heap.size B c s _ hrd4 (by omega)).mono ?_; rw [← hct]; rintro e w5 ⟨rfl, rfl⟩
    have Hct := Lib.hid hct
    clear hct
    go_upto_if 31 with fail
    go_cut [] from 30 to 39 (fun wx => ∃ (z : List UInt8) (q : List (List UInt8)) (A' : Option Addr) (c' : Nat), z.length = 32 ∧ ArrB wx g12 23 z ∧ ArrB wx g13 23 z ∧ Blk wx (w.heap.size + 1) 25 #[.slice A' q.length c'] ∧ Rd wx w.heap.size A' (flatS q) ∧ AllH q ∧ q.length = s.length ∧ xy = Way.bothW nodeB z z s.reverse q ∧ q.length ≤ c' ∧ c' ≤ maxLen ∧ Keep (fun k => k < wd.heap.size ∧ k ≠ g12 ∧ k ≠ g13 ∧ k ≠ w.heap.size + 1) wd wx)
    case first =>
      cases ct
      · have hw : Way.wholeB s = true := by unfold Way.wholeB; rw [← Hct.out]; rfl
        go_wp2_with fail
        go_meet
        exact ⟨a, l, A, cap, ha, h12, h13, hV4, hrdl, hl, by have := Hneed.out; rw [if_pos hw] at this; omega, by have := Hxy.out; rw [if_pos hw] at this; exact this, hcap, hcap2, Keep.refl _ _⟩
      · have hw : Way.wholeB s = false := by unfold Way.wholeB; rw [← Hct.out]; rfl
        have hlen : l.length = s.length + 1 := by have := Hneed.out; rw [if_neg (by rw [hw]; decide)] at this; omega
        have Hxy2 := Lib.hid (show xy = Way.bothW nodeB (l.headD a) (l.headD a) s.reverse l.tail by have := Hxy.out; rw [if_neg (by rw [hw]; decide)] at this; exact this)
        have hlI : (0 : Int) < (l.length : Int) := by omega
        obtain ⟨b, off, rfl, hbl, hm⟩ := rds_mid hrdl hl (k := 0) (by omega)
        simp only [Nat.zero_mul, Nat.add_zero] at hm
        have hz32 := headD_length l hl a ha
        have hh : l[0]'(by omega) = l.headD a := by cases l with
          | nil => simp at hlen
          | cons x l => rfl
        rw [hh] at hm
        generalize l.headD a = z at *
        have n1 : w.heap.size + 1 ≠ g12 := by omega
        have n2 : w.heap.size + 1 ≠ g13 := by omega
        have Hlen := Lib.hid hlen
        have hlI1 : (1 : Int) ≤ (l.length : Int) := by omega
        clear hh hlen
        have cVs : ∀ x : Held (fun k => k < wd.heap.size ∧ k ≠ g12 ∧ k ≠ g13) wd, (heldW _ wd x).cell? ⟨w.heap.size + 1, 0, none⟩ = some (.slice (some ⟨b, off, none⟩) l.length cap) := fun x => (World.cell?_of_block ((heldW_keep x).block _ hvl4 ⟨hvl4, n1, n2⟩)).trans cV
        go_wp2_with fail
        refine region_keep0 (fun k => k < wd.heap.size ∧ k ≠ g12 ∧ k ≠ g13) (by kernel_rfl) (by kernel_rfl) ?_
        iterate 2 (first | (refine mix_quiet (by rfl) (by rfl) (fun K hK => ?_); go_big_quiet_op; refine hK _ ?_; clear hK K) | (refine mix_skip (by rfl) ?_; simp only [Act.put, List.setIfInBounds_toArray, List.set_cons_zero, List.set_cons_succ]))
        refine held_mid (by rfl) (by rfl) 23 (.tmp 33) rfl b off (by rfl) (hcells z) _ hm (by omega) ⟨by omega, by omega, by omega⟩ Tryd.underlying23 rfl (size32l _ hz32) ?_
        simp only [Act.put, List.setIfInBounds_toArray, List.set_cons_zero, List.set_cons_succ]
        iterate 2 (first | (refine mix_quiet (by rfl) (by rfl) (fun K hK => ?_); go_big_quiet_op; refine hK _ ?_; clear hK K) | (refine mix_skip (by rfl) ?_; simp only [Act.put, List.setIfInBounds_toArray, List.set_cons_zero, List.set_cons_succ]))
        refine held_mid (by rfl) (by rfl) 23 (.tmp 36) rfl b off (by rfl) (hcells z) _ hm (by omega) ⟨by omega, by omega, by omega⟩ Tryd.underlying23 rfl (size32l _ hz32) ?_
        simp only [Act.put, List.setIfInBounds_toArray, List.set_cons_zero, List.set_cons_succ]
        unfold hcells
        refine mix_store_row (by rfl) (by rfl) 23 (.tmp 12) (.tmp 34) rfl g12 (z.map byteV).toArray (by rfl) (by rfl) 23 _ (Blk.drew h12) (size32.trans (by simp [hz32])) (by simp [ha, hz32]) (by simp [byteV, Value.oneCell']) (held_of ((Keep.refl _ _).drew.trans (Keep.of_upd ((Upd.refl g12 _).row _) (fun h => h.2.1 rfl)))) ?_
        simp only [Act.put, List.setIfInBounds_toArray, List.set_cons_zero, List.set_cons_succ]
        have j12 : ArrB (wd.drew.setRow g12 (z.map byteV).toArray) g12 23 z := Blk.row (Blk.drew h12) _
        have j13 : ArrB (wd.drew.setRow g12 (z.map byteV).toArray) g13 23 a := Blk.rowFar (Blk.drew h13) (Ne.symm hne) _
        have jk : Keep (fun k => k < wd.heap.size ∧ k ≠ g12 ∧ k ≠ g13) wd (wd.drew.setRow g12 (z.map byteV).toArray) := (Keep.refl _ _).drew.trans (Keep.of_upd ((Upd.refl g12 _).row _) (fun h => h.2.1 rfl))
        generalize wd.drew.setRow g12 (z.map byteV).toArray = w6 at *
        refine mix_store_row (by rfl) (by rfl) 23 (.tmp 13) (.tmp 37) rfl g13 (z.map byteV).toArray (by rfl) (by rfl) 23 _ j13 (size32.trans (by simp [hz32])) (by simp [ha, hz32]) (by simp [byteV, Value.oneCell']) (held_of (jk.trans (Keep.of_upd ((Upd.refl g13 _).row _) (fun h => h.2.2 rfl)))) ?_
        simp only [Act.put, List.setIfInBounds_toArray, List.set_cons_zero, List.set_cons_succ]
        have k12 : ArrB (w6.setRow g13 (z.map byteV).toArray) g12 23 z := Blk.rowFar j12 hne _
        have k13 : ArrB (w6.setRow g13 (z.map byteV).toArray) g13 23 z := Blk.row j13 _
        have kk : Keep (fun k => k < wd.heap.size ∧ k ≠ g12 ∧ k ≠ g13) wd (w6.setRow g13 (z.map byteV).toArray) := jk.trans (Keep.of_upd ((Upd.refl g13 _).row _) (fun h => h.2.2 rfl))
        generalize w6.setRow g13 (z.map byteV).toArray = w7 at *
        refine mix_nil ?_
        have kV := hV4.kept kk ⟨hvl4, by omega, by omega⟩
        have cV7 : w7.cell? ⟨w.heap.size + 1, 0, none⟩ = some (.slice (some ⟨b, off, none⟩) l.length cap) := Blk.cell kV 0
        have fV7 := kV.frozen 0
        have hcI : ((l.length : Nat) : Int) ≤ (cap : Int) := by omega
        have hrd7 : Rd w7 w.heap.size (some ⟨b, off, none⟩) (flatS l) := hrdl.kept (S := fun k => k < w.heap.size) (kk.mono (fun k _ h => ⟨by omega, by omega, by omega⟩)) (by omega) (fun k h => h)
        clear hm cVs cV j12 j13 jk
        have hql : l.tail.length = l.length - 1 := List.length_tail
        have hqs : l.length - 1 = s.length := by have := Hlen.out; omega
        have hxy8 := Hxy2.out
        have hnI : (((l.length - 1 : Nat) : Int)) = (l.length : Int) - 1 := by omega
        by_cases hc1 : cap = 1
        · subst hc1
          go_wp2_with fail
          go_meet
          have ht0 : l.tail = [] := List.eq_nil_of_length_eq_zero (by rw [hql]; omega)
          refine ⟨z, l.tail, some ⟨b, off, none⟩, 0, hz32, Blk.far k12 (by simp; omega) _, Blk.far k13 (by simp; omega) _, ?_, ?_, fun x hx => hl x (List.mem_of_mem_tail hx), by rw [hql]; exact hqs, hxy8, by rw [hql]; omega, by unfold maxLen; omega, (kk.mono (fun k _ h => ⟨h.1, h.2.1, h.2.2.1⟩)).setCell (fun h => h.2.2.2 rfl) _⟩
          · rw [hql, hqs]
            exact kV.set_ 0 _
          · rw [ht0]
            exact Rd.nil
        · have hc2 : 1 < cap := by omega
          go_wp2_with fail
          go_meet
          refine ⟨z, l.tail, some ⟨b, off + 32, none⟩, cap - 1, hz32, Blk.far k12 (by simp; omega) _, Blk.far k13 (by simp; omega) _, ?_, ?_, fun x hx => hl x (List.mem_of_mem_tail hx), by rw [hql]; exact hqs, hxy8, by rw [hql]; omega, by omega, (kk.mono (fun k _ h => ⟨h.1, h.2.1, h.2.2.1⟩)).setCell (fun h => h.2.2.2 rfl) _⟩
          · rw [hql, hqs]
            exact kV.set_ 0 _
          · have := rds_drop hrd7 hl 1
            rw [Nat.one_mul, List.drop_one] at this
            exact this.setCell (by simp) _
    case rest =>
      obtain ⟨z, q, A', c', hz32, j12, j13, jV, jrd, hq, hql, hxy, hqc, hc63, jk⟩ := hcut
      obtain ⟨wf, rfl⟩ : ∃ wf : World, wf = wc := ⟨_, rfl⟩
      have Hxy3 := Lib.hid hxy
      have hsf := jk.size
      have jB : Rd wf wf.heap.size B (boolsV s) := fun hx => by
        obtain ⟨b, off, e, hb, hc⟩ := hrd4 hx
        have := hBb b off e
        exact ⟨b, off, e, by omega, fun j u hu => (World.cell?_of_block (jk.block b hb ⟨hb, by omega, by omega, by omega⟩)).trans (hc j u hu)⟩
      have jY := hY4.kept jk ⟨hyl4, by omega, by omega, by omega⟩
      have jZ := hZ4.kept jk ⟨hzl4, by omega, by omega, by omega⟩
      have jE : Ext w wf := ((Keep.of_ext hE4).trans (jk.mono (fun k _ h => ⟨by omega, by omega, by omega, by omega⟩))).ext
      clear hxy h12 h13 hV4 hY4 hZ4 cV fV hrdl
      go_wp2_with fail
      go_step3
      go_wp2_with fail
      refine (BackwardB_calls _ _ _ _).mono ?_; rintro e wg ⟨rfl, hwg⟩
      have eg : Ext wf wg := by rw [hwg]; exact (Ext.refl wf).alloc _
      have hBs : Blk wg wf.heap.size 45 #[.slice B s.length c] := by rw [hwg]; exact Blk.new _ _ _
      have hsg : wf.heap.size < wg.heap.size := by rw [hwg]; simp
      have mB : Rd wg wg.heap.size B (boolsV s) := (jB.below eg (Nat.le_refl _)).more (by omega)
      have m12 := Blk.below j12 eg (Blk.lt j12)
      have m13 := Blk.below j13 eg (Blk.lt j13)
      have mV := jV.below eg jV.lt
      have mY := jY.below eg jY.lt
      have mZ := jZ.below eg jZ.lt
      have mE := jE.trans eg
      have hgl0 := KW.lt0
      have Kg : Keys wg := KW.ext mE
      clear hwg jB j12 j13 jV jY jZ
      have hBl : ∀ b off, B = some ⟨b, off, none⟩ → (fun k => k < wg.heap.size ∧ k ≠ g12 ∧ k ≠ g13 ∧ k ≠ w.heap.size + 1) b := fun b off e => by
        have := hBb b off e
        exact ⟨by omega, by omega, by omega, by omega⟩
      go_wp2_with fail
      refine (wpIn_wide (n := 9)).1 ?_
      refine wpIn_rangeFunc_ownH (n := 9) rfl (by omega) (gf := 74) (lb := #[.pointer (some ⟨wf.heap.size, 0, none⟩)]) rfl trivial (enters_of Tryd.func74 (by kernel_rfl) rfl)
        (backB_stops 8 (by omega) wf.heap.size B c s (by omega) (fun k => k < wg.heap.size ∧ k ≠ g12 ∧ k ≠ g13 ∧ k ≠ w.heap.size + 1) wg hBs ⟨by omega, by omega, by omega, by omega⟩ mB hBl)
        (fun h k => h.trans k) (fun W l o o' hl _ _ _ => Keep.putObj W l o' (fun h => absurd h.1 (by omega))) (Below.refl _ _) (fun _ => rfl)
        (fun pre W => (∃ A1 c1, Blk W (w.heap.size + 1) 25 #[.slice A1 (q.length - pre.length) c1] ∧ Rd wf w.heap.size A1 (flatS (q.drop pre.length)) ∧ q.length - pre.length ≤ c1 ∧ c1 ≤ maxLen) ∧ ArrB W g12 23 (bwOf z q pre).1 ∧ ArrB W g13 23 (bwOf z q pre).2 ∧ Keep (fun k => k < wg.heap.size ∧ k ≠ g12 ∧ k ≠ g13 ∧ k ≠ w.heap.size + 1) wg W)
        (fun _ _ _ => False)
        (fun pre W W' row hs hg hr => by
          obtain ⟨⟨A1, c1, i1, i2, i3, i4⟩, i5, i6, i7⟩ := hs
          exact ⟨⟨A1, c1, Blk.own i1 hg (fun r e => (hr r e).2), i2, i3, i4⟩, Blk.own i5 hg (fun r e => (hr r e).2), Blk.own i6 hg (fun r e => (hr r e).2), i7.ownFrom hg (fun r e => (hr r e).1) (fun k h => h.1)⟩)
        (fun _ _ _ _ _ hs _ _ => hs)
        ⟨⟨A', c', mV, jrd, hqc, hc63⟩, by rw [bwOf_nil]; exact m12, by rw [bwOf_nil]; exact m13, Keep.refl _ _⟩
        (fun x a' W => a' = { tmps := #[Value.agg (List.map byteV a).toArray, Value.int IntKind.i64 ↑m, Value.int IntKind.i64 ↑n, Value.slice A l.length cap, Value.pointer (some { block := w.heap.size, off := 0 }), undef, undef, Value.pointer (some { block := w.heap.size + 1, off := 0 }), Value.pointer (some { block := w.heap.size + 1 + 1, off := 0 }), Value.pointer (some { block := w.heap.size + 1 + 1 + 1, off := 0 }), Value.bool false, Value.slice B s.length c, Value.pointer (some { block := g12, off := 0 }), Value.pointer (some { block := g13, off := 0 }), undef, Value.bool x.2, undef, Value.int IntKind.i64 ↑m, Value.int IntKind.i64 ↑n, Value.int IntKind.i64 ↑l.length, Value.slice A l.length cap, Value.int IntKind.i64 ↑l.length, Value.bool false, undef, undef, Value.int IntKind.i64 ↑m, Value.int IntKind.i64 ↑n, Value.slice B s.length c, u28, u29, u30, u31, u32, u33, u34, u35, u36, u37, u38, u39, Value.slice B s.length c, Value.func (Fn.func 74) #[] #[Value.pointer (some { block := wf.heap.size, off := 0 })], .int .i64 (x.1 : Int), Value.bool x.2, undef, undef, undef, undef, undef, undef, undef, undef, undef, undef, undef, undef, undef, undef, undef, undef, undef, undef], defers := [] })
        (fun x a' pre W W' row hs hg hr => hs) ?assign ?body ?done ?stop
      case assign =>
        intro l' pre x W KK hi hGo
        have HG := Lib.hid hGo
        have Hi := Lib.hid hi
        clear hGo hi
        refine region_in (r := some l') (n := 7) (fun ⟨a, w, h⟩ => h) (by decide) ?_
        go_wp2_with fail
        exact HG.out _ _ (KeepsFrom.refl _ _) (Keep.refl _ _) Hi.out rfl
      case body =>
        rintro l' pre x a' W hl' ⟨rl, hrl⟩ ⟨⟨A1, c1, iV, iR, ic, ic63⟩, i12, i13, iK⟩ rfl hlt
        have hqlt : pre.length < q.length := by omega
        have hS := bwOf_snoc z q pre x hqlt
        obtain ⟨hx1, hx2⟩ := bwOf_length z hz32 q pre
        have ijk := iK
        have hq32 : q[pre.length].length = 32 := hq _ (List.getElem_mem hqlt)
        have hbw1 := bwOf_length z hz32 q pre
        obtain ⟨b, off, rfl, hbl, hm0⟩ := rds_mid iR (AllH.drop hq _) (k := 0) (by rw [List.length_drop]; omega)
        simp only [Nat.zero_mul, Nat.add_zero] at hm0
        rw [show (q.drop pre.length)[0]'(by rw [List.length_drop]; omega) = q[pre.length] by simp] at hm0
        have hKf : Keep (fun k => k < w.heap.size) wf W := (Keep.of_ext eg).trans (iK.mono (fun k _ h => ⟨by omega, by omega, by omega, by omega⟩))
        have hm : W.rangeAt b off (hcells q[pre.length]) := fun i u hu => (World.cell?_of_block (hKf.block b (by omega) hbl)).trans (hm0 i u hu)
        have hsW := iK.size
        have KW3 : Keys W := Kg.keep iK ⟨by omega, by omega, by omega, by omega⟩
        have cV : W.cell? ⟨w.heap.size + 1, 0, none⟩ = some (.slice (some ⟨b, off, none⟩) (q.length - pre.length) c1) := Blk.cell iV 0
        have HSn := Lib.hid hS
        obtain ⟨x1, hx1⟩ : ∃ y, y = (bwOf z q pre).1 := ⟨_, rfl⟩
        obtain ⟨x2, hx2⟩ : ∃ y, y = (bwOf z q pre).2 := ⟨_, rfl⟩
        rw [← hx1] at i12
        rw [← hx2] at i13
        have hl1 : x1.length = 32 := by rw [hx1]; exact hbw1.1
        have hl2 : x2.length = 32 := by rw [hx2]; exact hbw1.2
        have Hx1 := Lib.hid hx1
        have Hx2 := Lib.hid hx2
        clear hx1 hx2 hbw1 hS hm0
        obtain ⟨h, hh⟩ : ∃ h, h = q[pre.length] := ⟨_, rfl⟩
        rw [← hh] at hm hq32
        have Hh := Lib.hid hh
        clear hh
        obtain ⟨len, hlen⟩ : ∃ k, k = q.length - pre.length := ⟨_, rfl⟩
        rw [← hlen] at cV iV ic
        have Hlen := Lib.hid hlen
        have hlpos : 0 < len := by omega
        have hlenI : (0 : Int) < (len : Int) := by omega
        have hlenI1 : (1 : Int) ≤ (len : Int) := by omega
        have hlcI : (len : Int) ≤ (c1 : Int) := by omega
        clear hlen
        have Hql := Lib.hid hql
        have hSx := HSn.out
        rw [← Hh.out, ← Hx1.out, ← Hx2.out] at hSx
        have HSx := Lib.hid hSx
        have HSl := Lib.hid (show (pre ++ [x]).length = pre.length + 1 by simp)
        clear hSx hql
        apply wpIn_block
        generalize hQQ : ownPostG _ _ _ _ _ _ = QQ
        have HQo : ¬ LetsOut QQ := by rw [← hQQ]; exact fun ⟨a, w, h⟩ => h
        have HQn := Lib.hid (show ∀ (a2 : Act) (W5 : World) (A2 : Option Addr) (c2 : Nat), KeepsFrom wg.heap.size W W5 → Keep (fun k => k < wg.heap.size ∧ k ≠ g12 ∧ k ≠ g13 ∧ k ≠ w.heap.size + 1) W W5 → Blk W5 (w.heap.size + 1) 25 #[.slice A2 (len - 1) c2] → Rd wf w.heap.size A2 (flatS (q.drop (pre.length + 1))) → len - 1 ≤ c2 → c2 ≤ maxLen →
            ArrB W5 g12 23 (if x.2 then (nodeB h x1, nodeB h x2) else (x1, nodeB x2 h)).1 → ArrB W5 g13 23 (if x.2 then (nodeB h x1, nodeB h x2) else (x1, nodeB x2 h)).2 → QQ .normal a2 W5 from fun a2 W5 A2 c2 k1 k2 k3 k4 k5 k6 k7 k8 => by
          rw [← hQQ]
          have hll : q.length - (pre ++ [x]).length = len - 1 := by rw [HSl.out, Hlen.out]; omega
          refine ⟨k1, k2, ⟨A2, c2, ?_, ?_, ?_, k6⟩, ?_, ?_, iK.trans k2⟩
          · rw [hll]; exact k3
          · rw [HSl.out]; exact k4
          · rw [hll]; exact k5
          · rw [HSx.out]; exact k7
          · rw [HSx.out]; exact k8)
        clear hQQ
        obtain ⟨xi, xb⟩ := x
        dsimp only at HQn ⊢
        refine wpIn_seq_k (fun K1 hK1 => ?_)
        refine region_in (r := some l') (n := 7) (fun ⟨a, w, h⟩ => HQo ⟨a, w, h⟩) (by decide) ?_
        go_wp2_with (refine stop_load 23 (.tmp 45) rfl ?_)
        refine ⟨?_⟩
        refine wpList_load_mid rfl 23 (.tmp 45) rfl b (off) (by rfl) (hcells h) _ hm Tryd.underlying23 rfl (size32l _ hq32) ?_
        simp only [Act.put, List.setIfInBounds_toArray, List.set_cons_zero, List.set_cons_succ]
        unfold hcells
        go_wp2_with (refine stop_store 23 (.tmp 16) (.tmp 46) rfl ?_)
        refine ⟨?_⟩
        change wpList _ _ _ _ _ (W.alloc (.cells ((zerosB 32).map byteV).toArray 23))
        have hH0 : ArrB (W.alloc (.cells ((zerosB 32).map byteV).toArray 23)) W.heap.size 23 (zerosB 32) := Blk.new _ _ _
        refine wpList_store_row rfl 23 (.tmp 16) (.tmp 46) rfl W.heap.size ((h).map byteV).toArray (by rfl) (by rfl) 23 _ hH0 (size32.trans (by simp [hq32])) (by simp [hq32, zerosB]) (by simp [byteV, Value.oneCell']) ?_
        simp only [Act.put, List.setIfInBounds_toArray, List.set_cons_zero, List.set_cons_succ]
        have hH : ArrB ((W.alloc (.cells ((zerosB 32).map byteV).toArray 23)).setRow W.heap.size ((h).map byteV).toArray) W.heap.size 23 (h) := Blk.row hH0 _
        have eH : Ext W ((W.alloc (.cells ((zerosB 32).map byteV).toArray 23)).setRow W.heap.size ((h).map byteV).toArray) := ((Ext.refl W).alloc _).row (Nat.le_refl _) _
        clear hH0
        generalize (W.alloc (.cells ((zerosB 32).map byteV).toArray 23)).setRow W.heap.size ((h).map byteV).toArray = W2 at *
        have jV := iV.below eH iV.lt
        have n12 := Blk.below i12 eH (Blk.lt i12)
        have n13 := Blk.below i13 eH (Blk.lt i13)
        have hsW2 := eH.size
        have KW4 := KW3.ext eH
        have hHl := Blk.lt hH
        have hHg : wg.heap.size ≤ W.heap.size := hsW
        generalize W.heap.size = gH at *
        show K1 _ _
        refine hK1 _ _ ?_
        clear hK1 K1
        refine wpIn_seq_k (fun K2 hK2 => ?_)
        have rest : ∀ (A2 : Option Addr) (c2 : Nat) (W3 : World), Blk W3 (w.heap.size + 1) 25 #[.slice A2 (len - 1) c2] → Rd wf w.heap.size A2 (flatS (q.drop (pre.length + 1))) → len - 1 ≤ c2 → c2 ≤ maxLen → ArrB W3 g12 23 x1 → ArrB W3 g13 23 x2 → ArrB W3 gH 23 h → KeepsFrom wg.heap.size W W3 → Keep (fun k => k < wg.heap.size ∧ k ≠ g12 ∧ k ≠ g13 ∧ k ≠ w.heap.size + 1) W W3 → Keys W3 →
            K2 { tmps := #[Value.agg (List.map byteV a).toArray, Value.int IntKind.i64 ↑m, Value.int IntKind.i64 ↑n, Value.slice A l.length cap, Value.pointer (some { block := w.heap.size, off := 0 }), undef, undef, Value.pointer (some { block := w.heap.size + 1, off := 0 }), Value.pointer (some { block := w.heap.size + 1 + 1, off := 0 }), Value.pointer (some { block := w.heap.size + 1 + 1 + 1, off := 0 }), Value.bool false, Value.slice B s.length c, Value.pointer (some { block := g12, off := 0 }), Value.pointer (some { block := g13, off := 0 }), undef, Value.bool xb, Value.pointer (some { block := gH, off := 0 }), Value.int IntKind.i64 ↑m, Value.int IntKind.i64 ↑n, Value.int IntKind.i64 ↑l.length, Value.slice A l.length cap, Value.int IntKind.i64 ↑l.length, Value.bool false, undef, undef, Value.int IntKind.i64 ↑m, Value.int IntKind.i64 ↑n, Value.slice B s.length c, u28, u29, u30, u31, u32, u33, u34, u35, u36, u37, u38, u39, Value.slice B s.length c, Value.func (Fn.func 74) #[] #[Value.pointer (some { block := wf.heap.size, off := 0 })], .int .i64 (xi : Int), Value.bool xb, Value.slice (some { block := b, off := off }) len c1, Value.pointer (some { block := b, off := off }), Value.agg (List.map byteV h).toArray, Value.slice (some { block := b, off := off }) len c1, Value.slice A2 (len - 1) c2, undef, undef, undef, undef, undef, undef, undef, undef, undef, undef, undef, undef, undef], defers := [] } W3 := by
          intro A2 c2 W3 k1 k2 k3 k4 k5 k6 k7 k8 k9 k10
          refine hK2 _ _ ?_
          clear hK2 K2
          dsimp only
          have cV3 : W3.cell? ⟨w.heap.size + 1, 0, none⟩ = some (.slice A2 (len - 1) c2) := Blk.cell k1 0
          have hw3 := k9.size
          have n13H : g13 ≠ gH := by omega
          have n12H : g12 ≠ gH := by omega
          refine wpIn_seq_k (fun K3 hK3 => ?_)
          refine wpIn_seq_k (fun K4 hK4 => ?_)
          refine region_in (r := some l') (n := 7) (fun ⟨a, w, h⟩ => HQo ⟨a, w, h⟩) (by decide) ?_
          cases xb
          · go_wp2_with fail
            refine wpIn_cond_true rfl ?_
            refine wpIn_seq_k (fun K5 hK5 => ?_)
            refine region_in (r := some l') (n := 7) (fun ⟨a, w, h⟩ => HQo ⟨a, w, h⟩) (by decide) ?_
            go_wp2_with (refine stop_load 23 (.tmp 13) rfl ?_)
            refine ⟨?_⟩
            refine wpList_load_row rfl 23 (.tmp 13) rfl g13 (by rfl) 23 _ (0, 0) _ k6 Tryd.underlying23 rfl (size32.trans (by simp [hl2])) ?_
            simp only [Act.put, List.setIfInBounds_toArray, List.set_cons_zero, List.set_cons_succ]
            go_wp2_with (refine stop_load 23 (.tmp 16) rfl ?_)
            refine ⟨?_⟩
            refine wpList_load_row rfl 23 (.tmp 16) rfl gH (by rfl) 23 _ (0, 0) _ k7 Tryd.underlying23 rfl (size32.trans (by simp [hq32])) ?_
            simp only [Act.put, List.setIfInBounds_toArray, List.set_cons_zero, List.set_cons_succ]
            go_wp2_with fail
            change Calls _ _ #[sumV x2, sumV h] _ _
            refine (Node_calls x2 h hl2 hq32 _ k10).mono ?_; rintro e W4 ⟨rfl, e4⟩
            have p13 := Blk.below k6 e4 (Blk.lt k6)
            have p12 := Blk.below k5 e4 (Blk.lt k5)
            have pV := k1.below e4 k1.lt
            unfold sumV
            go_wp2_with (refine stop_store 23 (.tmp 13) (.tmp 53) rfl ?_)
            refine ⟨?_⟩
            refine wpList_store_row rfl 23 (.tmp 13) (.tmp 53) rfl g13 ((nodeB x2 h).map byteV).toArray (by rfl) (by rfl) 23 _ p13 (size32.trans (by simp [nodeB_length])) (by simp [nodeB_length, hl2]) (by simp [byteV, Value.oneCell']) ?_
            simp only [Act.put, List.setIfInBounds_toArray, List.set_cons_zero, List.set_cons_succ]
            have r13 : ArrB (W4.setRow g13 ((nodeB x2 h).map byteV).toArray) g13 23 (nodeB x2 h) := Blk.row p13 _
            have r13u : Upd g13 W4 (W4.setRow g13 ((nodeB x2 h).map byteV).toArray) := (Upd.refl _ _).row _
            generalize W4.setRow g13 ((nodeB x2 h).map byteV).toArray = W5 at *
            have r12 := Blk.kept (S := fun k => k ≠ g13) p12 (.of_upd r13u (fun h => h rfl)) hne
            have rV := pV.kept (S := fun k => k ≠ g13) (.of_upd r13u (fun h => h rfl)) (by omega)
            have rK : Keep (fun k => k < wg.heap.size ∧ k ≠ g12 ∧ k ≠ g13 ∧ k ≠ w.heap.size + 1) W W5 := (k9.trans (Keep.of_ext e4)).trans (.of_upd r13u (fun h => h.2.2.1 rfl))
            have rF : KeepsFrom wg.heap.size W W5 := (k8.trans (KeepsFrom.of_ext e4)).trans (KeepsFrom.of_upd r13u (by omega))
            go_wp2_with fail
            refine wpIn_exit ?_
            show QQ .normal _ _
            exact HQn.out _ _ A2 c2 rF rK rV k2 k3 k4 r12 r13
          · go_wp2_with fail
            refine wpIn_cond_false rfl ?_
            refine wpIn_skip ?_
            show K3 _ _
            refine hK3 _ _ ?_
            clear hK3 K3
            have hKs : ∀ y : More W3, Keys (grow W3 y) := fun y => k10.ext (grow_ext y)
            refine region_mix_in (r := some l') (n := 7) 6 (fun ⟨a, w, h⟩ => HQo ⟨a, w, h⟩) (by decide) (by kernel_rfl) (by kernel_rfl) (fun y0 => ?_); simp only [List.take_succ_cons, List.take_zero, List.drop_succ_cons, List.drop_zero]
            refine mix_row (by rfl) (by rfl) 23 (.tmp 16) rfl gH (by rfl) 23 _ _ k7 Tryd.underlying23 rfl (size32.trans (by simp [hq32])) ?_
            simp only [Act.put, List.setIfInBounds_toArray, List.set_cons_zero, List.set_cons_succ]
            refine mix_row (by rfl) (by rfl) 23 (.tmp 12) rfl g12 (by rfl) 23 _ _ k5 Tryd.underlying23 rfl (size32.trans (by simp [hl1])) ?_
            simp only [Act.put, List.setIfInBounds_toArray, List.set_cons_zero, List.set_cons_succ]
            (refine mix_loud (by rfl) (by rfl) (fun K E hK => ?_); go_big_op)
            change Calls _ _ #[sumV h, sumV x1] _ _
            refine (Node_calls h x1 hq32 hl1 (grow W3 y0) (hKs _)).mono ?_; rintro e W4 ⟨rfl, hd⟩
            obtain ⟨y1, rfl⟩ := more_ext y0 hd; clear hd
            refine hK _ _ ⟨_, rfl⟩ ?_; clear hK K E
            unfold sumV
            refine mix_row (by rfl) (by rfl) 23 (.tmp 16) rfl gH (by rfl) 23 _ _ k7 Tryd.underlying23 rfl (size32.trans (by simp [hq32])) ?_
            simp only [Act.put, List.setIfInBounds_toArray, List.set_cons_zero, List.set_cons_succ]
            refine mix_row (by rfl) (by rfl) 23 (.tmp 13) rfl g13 (by rfl) 23 _ _ k6 Tryd.underlying23 rfl (size32.trans (by simp [hl2])) ?_
            simp only [Act.put, List.setIfInBounds_toArray, List.set_cons_zero, List.set_cons_succ]
            (refine mix_loud (by rfl) (by rfl) (fun K E hK => ?_); go_big_op)
            change Calls _ _ #[sumV h, sumV x2] _ _
            refine (Node_calls h x2 hq32 hl2 (grow W3 y1) (hKs _)).mono ?_; rintro e W4 ⟨rfl, hd⟩
            obtain ⟨y2, rfl⟩ := more_ext y1 hd; clear hd
            refine hK _ _ ⟨_, rfl⟩ ?_; clear hK K E
            unfold sumV
            refine mix_nil ?_
            have p13 := Blk.below k6 (grow_ext y2) (Blk.lt k6)
            have p12 := Blk.below k5 (grow_ext y2) (Blk.lt k5)
            have pV := k1.below (grow_ext y2) k1.lt
            have pK : Keep (fun k => k < wg.heap.size ∧ k ≠ g12 ∧ k ≠ g13 ∧ k ≠ w.heap.size + 1) W (grow W3 y2) := k9.trans (Keep.of_ext (grow_ext y2))
            have pF := k8.trans (KeepsFrom.of_ext (B := wg.heap.size) (grow_ext y2))
            clear hKs
            generalize grow W3 y2 = W4 at *
            go_wp2_with (refine stop_store 23 (.tmp 12) (.tmp 56) rfl ?_)
            refine ⟨?_⟩
            refine wpList_store_row rfl 23 (.tmp 12) (.tmp 56) rfl g12 ((nodeB h x1).map byteV).toArray (by rfl) (by rfl) 23 _ p12 (size32.trans (by simp [nodeB_length])) (by simp [nodeB_length, hl1]) (by simp [byteV, Value.oneCell']) ?_
            simp only [Act.put, List.setIfInBounds_toArray, List.set_cons_zero, List.set_cons_succ]
            have r12 : ArrB (W4.setRow g12 ((nodeB h x1).map byteV).toArray) g12 23 (nodeB h x1) := Blk.row p12 _
            have r12u : Upd g12 W4 (W4.setRow g12 ((nodeB h x1).map byteV).toArray) := (Upd.refl _ _).row _
            generalize W4.setRow g12 ((nodeB h x1).map byteV).toArray = W5 at *
            have r13 := Blk.kept (S := fun k => k ≠ g12) p13 (.of_upd r12u (fun h => h rfl)) (Ne.symm hne)
            have rV := pV.kept (S := fun k => k ≠ g12) (.of_upd r12u (fun h => h rfl)) (by omega)
            have rK : Keep (fun k => k < wg.heap.size ∧ k ≠ g12 ∧ k ≠ g13 ∧ k ≠ w.heap.size + 1) W W5 := pK.trans (.of_upd r12u (fun h => h.2.1 rfl))
            have rF : KeepsFrom wg.heap.size W W5 := pF.trans (KeepsFrom.of_upd r12u (by omega))
            go_wp2_with (refine stop_store 23 (.tmp 13) (.tmp 59) rfl ?_)
            refine ⟨?_⟩
            refine wpList_store_row rfl 23 (.tmp 13) (.tmp 59) rfl g13 ((nodeB h x2).map byteV).toArray (by rfl) (by rfl) 23 _ r13 (size32.trans (by simp [nodeB_length])) (by simp [nodeB_length, hl2]) (by simp [byteV, Value.oneCell']) ?_
            simp only [Act.put, List.setIfInBounds_toArray, List.set_cons_zero, List.set_cons_succ]
            have t13 : ArrB (W5.setRow g13 ((nodeB h x2).map byteV).toArray) g13 23 (nodeB h x2) := Blk.row r13 _
            have t13u : Upd g13 W5 (W5.setRow g13 ((nodeB h x2).map byteV).toArray) := (Upd.refl _ _).row _
            generalize W5.setRow g13 ((nodeB h x2).map byteV).toArray = W6 at *
            have t12 := Blk.kept (S := fun k => k ≠ g13) r12 (.of_upd t13u (fun h => h rfl)) hne
            have tV := rV.kept (S := fun k => k ≠ g13) (.of_upd t13u (fun h => h rfl)) (by omega)
            have tK : Keep (fun k => k < wg.heap.size ∧ k ≠ g12 ∧ k ≠ g13 ∧ k ≠ w.heap.size + 1) W W6 := rK.trans (.of_upd t13u (fun h => h.2.2.1 rfl))
            have tF : KeepsFrom wg.heap.size W W6 := rF.trans (KeepsFrom.of_upd t13u (by omega))
            go_wp2_with fail
            show QQ .normal _ _
            exact HQn.out _ _ A2 c2 tF tK tV k2 k3 k4 t12 t13
        clear hK2
        have cV2 : W2.cell? ⟨w.heap.size + 1, 0, none⟩ = some (.slice (some ⟨b, off, none⟩) len c1) := Blk.cell jV 0
        have fV2 := jV.frozen 0
        have hnI : (((len - 1 : Nat) : Int)) = (len : Int) - 1 := by omega
        have iR2 : Rd wf w.heap.size (some ⟨b, off + 32, none⟩) (flatS (q.drop (pre.length + 1))) := by
          have := rds_drop iR (AllH.drop hq _) 1
          rw [Nat.one_mul, List.drop_drop] at this
          exact this
        have hWm : w.heap.size + 1 ≠ gH := by omega
        have n12H : g12 ≠ gH := by omega
        have n13H : g13 ≠ gH := by omega
        have KE : Keep (fun k => k < wg.heap.size ∧ k ≠ g12 ∧ k ≠ g13 ∧ k ≠ w.heap.size + 1) W W2 := Keep.of_ext eH
        have KF : KeepsFrom wg.heap.size W W2 := KeepsFrom.of_ext eH
        have fin : ∀ (A2 : Option Addr) (c2 : Nat), Rd wf w.heap.size A2 (flatS (q.drop (pre.length + 1))) → len - 1 ≤ c2 → c2 ≤ maxLen → K2 { tmps := #[Value.agg (List.map byteV a).toArray, Value.int IntKind.i64 ↑m, Value.int IntKind.i64 ↑n, Value.slice A l.length cap, Value.pointer (some { block := w.heap.size, off := 0 }), undef, undef, Value.pointer (some { block := w.heap.size + 1, off := 0 }), Value.pointer (some { block := w.heap.size + 1 + 1, off := 0 }), Value.pointer (some { block := w.heap.size + 1 + 1 + 1, off := 0 }), Value.bool false, Value.slice B s.length c, Value.pointer (some { block := g12, off := 0 }), Value.pointer (some { block := g13, off := 0 }), undef, Value.bool xb, Value.pointer (some { block := gH, off := 0 }), Value.int IntKind.i64 ↑m, Value.int IntKind.i64 ↑n, Value.int IntKind.i64 ↑l.length, Value.slice A l.length cap, Value.int IntKind.i64 ↑l.length, Value.bool false, undef, undef, Value.int IntKind.i64 ↑m, Value.int IntKind.i64 ↑n, Value.slice B s.length c, u28, u29, u30, u31, u32, u33, u34, u35, u36, u37, u38, u39, Value.slice B s.length c, Value.func (Fn.func 74) #[] #[Value.pointer (some { block := wf.heap.size, off := 0 })], .int .i64 (xi : Int), Value.bool xb, Value.slice (some { block := b, off := off }) len c1, Value.pointer (some { block := b, off := off }), Value.agg (List.map byteV h).toArray, Value.slice (some { block := b, off := off }) len c1, Value.slice A2 (len - 1) c2, undef, undef, undef, undef, undef, undef, undef, undef, undef, undef, undef, undef, undef], defers := [] } (W2.setCell ⟨w.heap.size + 1, 0, none⟩ (.slice A2 (len - 1) c2)) := fun A2 c2 k2 k3 k4 =>
          rest A2 c2 _ (jV.set_ 0 _) k2 k3 k4 (Blk.far n12 (by simp; omega) _) (Blk.far n13 (by simp; omega) _) (Blk.far hH (by simp; omega) _) (KF.trans (KeepsFrom.of_upd ((Upd.refl (w.heap.size + 1) W2).setCell (.inl rfl) _) (by omega))) (KE.setCell (fun h => h.2.2.2 rfl) _) (KW4.keep (S := fun k => k ≠ w.heap.size + 1) (Keep.setCell (Keep.refl _ _) (fun h => h rfl) _) (by omega))
        clear rest
        by_cases hc1 : c1 = 1
        · subst hc1
          obtain rfl : len = 1 := by omega
          refine region_in (r := some l') (n := 7) (fun ⟨a, w, h⟩ => HQo ⟨a, w, h⟩) (by decide) ?_
          go_wp2_with fail
          refine fin _ _ ?_ ?_ ?_
          · have h0 : q.drop (pre.length + 1) = [] := List.drop_eq_nil_of_le (by have := Hlen.out; omega)
            rw [h0]
            exact Rd.nil
          · omega
          · omega
        · have hc2 : 1 < c1 := by omega
          refine region_in (r := some l') (n := 7) (fun ⟨a, w, h⟩ => HQo ⟨a, w, h⟩) (by decide) ?_
          go_wp2_with fail
          exact fin _ _ iR2 (by omega) (by omega)
      case done =>
        rintro D ys W hD rfl ⟨⟨A1, c1, iV, iR, ic, ic63⟩, i12, i13, iK⟩ hDef
        rw [bwOf_all z q s hql, ← Hxy3.out] at i12 i13
        have iY := mY.kept iK ⟨by omega, by omega, by omega, by omega⟩
        have iZ := mZ.kept iK ⟨by omega, by omega, by omega, by omega⟩
        have iE : Keep (fun k => k < w.heap.size) w W := (Keep.of_ext mE).trans (iK.mono (fun k _ h => ⟨by omega, by omega, by omega, by omega⟩))
        have hxl1 : xy.1.length = 32 := by rw [Hxy3.out]; exact (bothW_length _ _ _ _ hz32 hz32).1
        have hxl2 : xy.2.length = 32 := by rw [Hxy3.out]; exact (bothW_length _ _ _ _ hz32 hz32).2
        have hsW := iK.size
        obtain ⟨X, Y⟩ := xy
        dsimp only at i12 i13 hxl1 hxl2
        have g12W := Blk.lt i12
        have g13W := Blk.lt i13
        dsimp only
        go_wp2_with fail
        refine region_keep0 (fun k => k ≠ w.heap.size + 1 + 1 ∧ k ≠ w.heap.size + 1 + 1 + 1) (by kernel_rfl) (by kernel_rfl) ?_
        refine held_row (by rfl) (by rfl) 23 (.tmp 12) rfl g12 (by rfl) 23 _ _ i12 ⟨by omega, by omega⟩ Tryd.underlying23 rfl (size32.trans (by simp [hxl1])) ?_
        simp only [Act.put, List.setIfInBounds_toArray, List.set_cons_zero, List.set_cons_succ]
        refine held_row (by rfl) (by rfl) 23 (.tmp 13) rfl g13 (by rfl) 23 _ _ i13 ⟨by omega, by omega⟩ Tryd.underlying23 rfl (size32.trans (by simp [hxl2])) ?_
        simp only [Act.put, List.setIfInBounds_toArray, List.set_cons_zero, List.set_cons_succ]
        have jk : Keep (fun k => k ≠ w.heap.size + 1 + 1 ∧ k ≠ w.heap.size + 1 + 1 + 1) W (W.drew.setRow (w.heap.size + 1 + 1) (X.map byteV).toArray) := (Keep.refl _ _).drew.trans (Keep.of_upd ((Upd.refl _ _).row _) (fun h => h.1 rfl))
        refine mix_store_row (by rfl) (by rfl) 23 (.tmp 8) (.tmp 60) rfl (w.heap.size + 1 + 1) (X.map byteV).toArray (by rfl) (by rfl) 23 _ (Blk.drew iY) (size32.trans (by simp [hxl1])) (by simp [hxl1, zerosB]) (by simp [byteV, Value.oneCell']) (held_of jk) ?_
        simp only [Act.put, List.setIfInBounds_toArray, List.set_cons_zero, List.set_cons_succ]
        have oY : ArrB (W.drew.setRow (w.heap.size + 1 + 1) (X.map byteV).toArray) (w.heap.size + 1 + 1) 23 X := Blk.row (Blk.drew iY) _
        have oZ : ArrB (W.drew.setRow (w.heap.size + 1 + 1) (X.map byteV).toArray) (w.heap.size + 1 + 1 + 1) 23 (zerosB 32) := Blk.rowFar (Blk.drew iZ) (by omega) _
        generalize W.drew.setRow (w.heap.size + 1 + 1) (X.map byteV).toArray = W6 at *
        have kk : Keep (fun k => k ≠ w.heap.size + 1 + 1 ∧ k ≠ w.heap.size + 1 + 1 + 1) W (W6.setRow (w.heap.size + 1 + 1 + 1) (Y.map byteV).toArray) := jk.trans (Keep.of_upd ((Upd.refl _ _).row _) (fun h => h.2 rfl))
        refine mix_store_row (by rfl) (by rfl) 23 (.tmp 9) (.tmp 61) rfl (w.heap.size + 1 + 1 + 1) (Y.map byteV).toArray (by rfl) (by rfl) 23 _ oZ (size32.trans (by simp [hxl2])) (by simp [hxl2, zerosB]) (by simp [byteV, Value.oneCell']) (held_of kk) ?_
        simp only [Act.put, List.setIfInBounds_toArray, List.set_cons_zero, List.set_cons_succ]
        have rY : ArrB (W6.setRow (w.heap.size + 1 + 1 + 1) (Y.map byteV).toArray) (w.heap.size + 1 + 1) 23 X := Blk.rowFar oY (by omega) _
        have rZ : ArrB (W6.setRow (w.heap.size + 1 + 1 + 1) (Y.map byteV).toArray) (w.heap.size + 1 + 1 + 1) 23 Y := Blk.row oZ _
        generalize W6.setRow (w.heap.size + 1 + 1 + 1) (Y.map byteV).toArray = W7 at *
        iterate 1 (first | (refine mix_quiet (by rfl) (by rfl) (fun K hK => ?_); go_big_quiet_op; refine hK _ ?_; clear hK K) | (refine mix_skip (by rfl) ?_; simp only [Act.put, List.setIfInBounds_toArray, List.set_cons_zero, List.set_cons_succ]))
        refine mix_nil ?_
        have hDl : D < W.heap.size := (Array.getElem?_eq_some_iff.1 hDef).1
        have hDef7 : W7.heap[D]? = some (.deferred (some [])) := (kk.block D hDl ⟨by omega, by omega⟩).trans hDef
        have hk7 : Keep (fun k => k < w.heap.size) w W7 := iE.trans (kk.mono (fun k _ h => ⟨by omega, by omega⟩))
        go_wp2_with fail
        rw [Exit.noGoto_ret]
        refine ⟨by simp, .inl ⟨_, _, rfl, run_takeDeferred hDef7, ?_⟩⟩
        have hk5 : Keep (fun k => k ≠ D) W7 (W7.putObj D (.deferred none)) := Keep.putObj _ _ _ (fun h => h rfl)
        exact ⟨_, res_two_t rfl _ _ (w.heap.size + 1 + 1) (w.heap.size + 1 + 1 + 1) 23 23 _ _ _ rfl rfl (Blk.kept rY hk5 (by omega)) (Blk.kept rZ hk5 (by omega)) Tryd.underlying23 rfl (size32.trans (by simp [hxl1])) (size32.trans (by simp [hxl2])), rfl, (hk7.trans (hk5.mono (fun k _ h => by omega))).ext⟩
      case stop =>
        rintro D c pre W _ _ h _
        exact h.elim

theorem Both_calls (a : List UInt8) (ha : a.length = 32) (m n : Int) (hn63 : n ≤ 9223372036854775807) (A : Option Addr) (cap : Nat) (l : List (List UInt8)) (hl : AllH l) (hll : l.length ≤ 1000000) (hcap : l.length ≤ cap) (hcap2 : cap ≤ maxLen) (w : World) (KW : Keys w) (hrd : Rd w w.heap.size A (flatS l)) :
    Calls Tryd.prog 20 #[sumV a, .int .i64 m, .int .i64 n, .slice A l.length cap] w fun e w' => e = .returned (.tuple #[sumV (bothP a m n l).1.1, sumV (bothP a m n l).1.2, .bool (bothP a m n l).2]) ∧ Ext w w' := by
  by_cases hlg : Way.linksI m n = (l.length : Int)
  · rw [show bothP a m n l = _ from if_pos hlg]
    have hin : ¬ (m < 1 ∨ n < m ∨ 1099511627776 < n) := fun hc => by
      have : Way.linksI m n = -1 := if_pos hc
      omega
    obtain ⟨mN, rfl⟩ : ∃ k : Nat, m = (k : Int) := ⟨m.toNat, by omega⟩
    obtain ⟨nN, rfl⟩ : ∃ k : Nat, n = (k : Int) := ⟨n.toNat, by omega⟩
    simp only [Int.toNat_natCast]
    exact Both_some a ha mN nN (by omega) (by omega) (by omega) A cap l hl hll hcap hcap2 w KW hrd hlg
  · rw [show bothP a m n l = _ from if_neg hlg]
    exact Both_none a ha m n hn63 A cap l hll w KW hlg

end Go.Proofs.YtfpipdopgepelaaDoor

namespace Go.Proofs.YtfpipdopgepelaaDoor
open Go.ChangeShapes Go.WideShapes Go.ChangeAt Go.RowKit
attribute [local go_sem] bs_size bs_toList2 bs_append bs_extract_end bs_extract_begin bs_get wrap64_b grow_cell grow_frozen

/-- What proof.Goes tells. -/
def goesB (a : List UInt8) (m : Int) (b : List UInt8) (n : Int) (l : List (List UInt8)) : Bool := ((bothP a m n l).2 && decide ((bothP a m n l).1.1 = a)) && decide ((bothP a m n l).1.2 = b)

set_option maxHeartbeats 1000000 in
theorem Goes_calls (a b : List UInt8) (ha : a.length = 32) (hb : b.length = 32) (m n : Int) (hn63 : n ≤ 9223372036854775807) (A : Option Addr) (cap : Nat) (l : List (List UInt8)) (hl : AllH l) (hll : l.length ≤ 1000000) (hcap : l.length ≤ cap) (hcap2 : cap ≤ maxLen) (w : World) (KW : Keys w) (hrd : Rd w w.heap.size A (flatS l)) :
    Calls Tryd.prog 23 #[sumV a, .int .i64 m, sumV b, .int .i64 n, .slice A l.length cap] w fun e w' => e = .returned (.bool (goesB a m b n l)) ∧ Ext w w' := by
  unfold goesB
  have hpl := bothP_length a ha m n l hl
  obtain ⟨p, hp⟩ : ∃ p, p = bothP a m n l := ⟨_, rfl⟩
  rw [← hp] at hpl ⊢
  have Hp := Lib.hid hp
  clear hp
  obtain ⟨⟨x, y⟩, ok⟩ := p
  obtain ⟨hx, hy⟩ := hpl
  dsimp only at hx hy
  have hfolda := fold_sum a ha
  have hfoldb := fold_sum b hb
  have hgw := guard_sum
  have heq1 := fun w : World => eq_sum x a hx ha w
  have heq2 := fun w : World => eq_sum y b hy hb w
  have hzz : (zerosB 32).length = 32 := rfl
  unfold sumV
  go_enter Tryd.func23, Tryd.ntmps23
  have hX0 : ArrB ((w.alloc (.cells (a.map byteV).toArray 23)).alloc (.cells (b.map byteV).toArray 23)) w.heap.size 23 a := Blk.alloc (Blk.new _ _ _) _
  have hL0 : ArrB ((w.alloc (.cells (a.map byteV).toArray 23)).alloc (.cells (b.map byteV).toArray 23)) (w.heap.size + 1) 23 b := by
    have := Blk.new (w.alloc (.cells (a.map byteV).toArray 23)) 23 (b.map byteV).toArray
    rw [alloc_size] at this
    exact this
  have hE0 : Ext w ((w.alloc (.cells (a.map byteV).toArray 23)).alloc (.cells (b.map byteV).toArray 23)) := ((Ext.refl w).alloc _).alloc _
  go_wp2_with (refine stop_load 23 (.tmp 5) rfl ?_)
  refine ⟨?_⟩
  refine wpList_load_row rfl 23 (.tmp 5) rfl w.heap.size (by rfl) 23 _ (0, 0) _ hX0 Tryd.underlying23 rfl (size32.trans (by simp [ha])) ?_
  simp only [Act.put, List.setIfInBounds_toArray, List.set_cons_zero, List.set_cons_succ]
  generalize (w.alloc (.cells (a.map byteV).toArray 23)).alloc (.cells (b.map byteV).toArray 23) = w1 at *
  go_wp2_with fail
  change Calls _ _ #[sumV a, _, _, _] _ _
  refine (Both_calls a ha m n hn63 A cap l hl hll hcap hcap2 _ (KW.ext hE0) ((hrd.below hE0 (Nat.le_refl _)).more hE0.size)).mono ?_; rw [← Hp.out]; rintro e w2 ⟨rfl, e2⟩
  have hX2 := Blk.below hX0 e2 (Blk.lt hX0)
  have hL2 := Blk.below hL0 e2 (Blk.lt hL0)
  have hE2 := hE0.trans e2
  have hxl := Blk.lt hX2
  have hll2 := Blk.lt hL2
  clear hX0 hL0 hE0 e2
  unfold sumV
  go_wp2_with (refine stop_store 23 (.tmp 11) (.tmp 20) rfl ?_)
  refine ⟨?_⟩
  change wpList _ _ _ _ _ (twoW w2)
  obtain ⟨p1, p2, p3⟩ := twoW_facts w2
  have hX3 := Blk.below hX2 p3 hxl
  have hL3 := Blk.below hL2 p3 hll2
  have hE3 := hE2.trans p3
  have hsz := hE2.size
  have hwp := Blk.lt p1
  generalize w2.heap.size = gx at *
  clear hX2 hL2 hE2 p3
  generalize twoW w2 = w3 at *
  go_wp2_with (refine stop_store 23 (.tmp 11) (.tmp 20) rfl ?_)
  refine ⟨?_⟩
  refine wpList_store_row rfl 23 (.tmp 11) (.tmp 20) rfl gx ((x).map byteV).toArray (by rfl) (by rfl) 23 _ p1 (size32.trans (by simp [hx])) (by simp [hx, hzz]) (by simp [byteV, Value.oneCell']) ?_
  simp only [Act.put, List.setIfInBounds_toArray, List.set_cons_zero, List.set_cons_succ]
  have hX : ArrB (w3.setRow gx ((x).map byteV).toArray) gx 23 (x) := Blk.row p1 _
  have hXu : Upd gx w3 (w3.setRow gx ((x).map byteV).toArray) := (Upd.refl _ _).row _
  generalize w3.setRow gx ((x).map byteV).toArray = w4 at *
  have hX4 := Blk.kept (S := fun k => k ≠ gx) hX3 (.of_upd hXu (fun h => h rfl)) (by omega)
  have hL4 := Blk.kept (S := fun k => k ≠ gx) hL3 (.of_upd hXu (fun h => h rfl)) (by omega)
  have q2 := Blk.kept (S := fun k => k ≠ gx) p2 (.of_upd hXu (fun h => h rfl)) (by omega)
  have hE4 := hE3.upd hXu (by omega)
  clear hX3 hL3 hE3 hXu p1 p2
  go_wp2_with (refine stop_store 23 (.tmp 12) (.tmp 21) rfl ?_)
  refine ⟨?_⟩
  refine wpList_store_row rfl 23 (.tmp 12) (.tmp 21) rfl (gx + 1) ((y).map byteV).toArray (by rfl) (by rfl) 23 _ q2 (size32.trans (by simp [hy])) (by simp [hy, hzz]) (by simp [byteV, Value.oneCell']) ?_
  simp only [Act.put, List.setIfInBounds_toArray, List.set_cons_zero, List.set_cons_succ]
  have hY : ArrB (w4.setRow (gx + 1) ((y).map byteV).toArray) (gx + 1) 23 (y) := Blk.row q2 _
  have hYu : Upd (gx + 1) w4 (w4.setRow (gx + 1) ((y).map byteV).toArray) := (Upd.refl _ _).row _
  generalize w4.setRow (gx + 1) ((y).map byteV).toArray = w5 at *
  have hX5 := Blk.kept (S := fun k => k ≠ gx + 1) hX4 (.of_upd hYu (fun h => h rfl)) (by omega)
  have hL5 := Blk.kept (S := fun k => k ≠ gx + 1) hL4 (.of_upd hYu (fun h => h rfl)) (by omega)
  have hx5 := Blk.kept (S := fun k => k ≠ gx + 1) hX (.of_upd hYu (fun h => h rfl)) (by omega)
  have hE5 := hE4.upd hYu (by omega)
  clear hX4 hL4 hE4 hYu q2 hX
  cases ok
  · go_wp2_with fail
    go_ret
    exact ⟨rfl, hE5⟩
  · skip
    go_wp2_with (refine stop_load 23 (.tmp 11) rfl ?_)
    refine ⟨?_⟩
    refine list_want (by rfl) (fun K hK => ?_)
    refine wp_load_row 23 (.tmp 11) rfl gx (by rfl) 23 _ (0, 0) _ hx5 Tryd.underlying23 rfl (size32.trans (by simp [hx])) ?_
    refine hK _ _ ?_; clear hK K
    simp only [Act.put, List.setIfInBounds_toArray, List.set_cons_zero, List.set_cons_succ]
    go_wp2_with (refine stop_load 23 (.tmp 5) rfl ?_)
    refine ⟨?_⟩
    refine list_want (by rfl) (fun K hK => ?_)
    refine wp_load_row 23 (.tmp 5) rfl w.heap.size (by rfl) 23 _ (0, 0) _ hX5 Tryd.underlying23 rfl (size32.trans (by simp [ha])) ?_
    refine hK _ _ ?_; clear hK K
    simp only [Act.put, List.setIfInBounds_toArray, List.set_cons_zero, List.set_cons_succ]
    by_cases he : x = a
    · have d1 : decide (x = a) = true := decide_eq_true he
      rw [d1] at heq1
      have D1 := Lib.hid d1
      clear he d1
      go_wp2_with (refine stop_load 23 (.tmp 12) rfl ?_)
      refine ⟨?_⟩
      refine list_want (by rfl) (fun K hK => ?_)
      refine wp_load_row 23 (.tmp 12) rfl (gx + 1) (by rfl) 23 _ (0, 0) _ hY Tryd.underlying23 rfl (size32.trans (by simp [hy])) ?_
      refine hK _ _ ?_; clear hK K
      simp only [Act.put, List.setIfInBounds_toArray, List.set_cons_zero, List.set_cons_succ]
      go_wp2_with (refine stop_load 23 (.tmp 7) rfl ?_)
      refine ⟨?_⟩
      refine list_want (by rfl) (fun K hK => ?_)
      refine wp_load_row 23 (.tmp 7) rfl (w.heap.size + 1) (by rfl) 23 _ (0, 0) _ hL5 Tryd.underlying23 rfl (size32.trans (by simp [hb])) ?_
      refine hK _ _ ?_; clear hK K
      simp only [Act.put, List.setIfInBounds_toArray, List.set_cons_zero, List.set_cons_succ]
      go_wp2_with fail
      go_ret
      exact ⟨by simp [D1.out], hE5⟩
    · have d1 : decide (x = a) = false := decide_eq_false he
      rw [d1] at heq1
      have D1 := Lib.hid d1
      clear he d1
      go_wp2_with fail
      go_ret
      exact ⟨by simp [D1.out], hE5⟩

end Go.Proofs.YtfpipdopgepelaaDoor

namespace Go.Proofs.YtfpipdopgepelaaDoor
open Go.ChangeShapes Go.WideShapes Go.ChangeAt Go.RowKit
attribute [local go_sem] bs_size bs_toList2 bs_append bs_extract_end bs_extract_begin bs_get wrap64_b grow_cell grow_frozen

theorem Right_sls (root leaf : List UInt8) (hr : root.length = 32) (hf : leaf.length = 32) (m n : Int) (hn63 : n ≤ 9223372036854775807) (v : Value) (l : List (List UInt8)) (hl : AllH l) (hll : l.length ≤ 1000000) (w : World) (KW : Keys w) (h : SlS w w.heap.size v l) :
    Calls Tryd.prog 22 #[sumV root, sumV leaf, .int .i64 m, .int .i64 n, v] w fun e w' => e = .returned (.bool (rightB root leaf m n l)) ∧ Ext w w' := by
  obtain ⟨A, cap, rfl, hA0, hc, hc63, hr'⟩ := h
  exact Right_calls root leaf hr hf m n hn63 A cap l hl hll w KW hr'
theorem Goes_sls (a b : List UInt8) (ha : a.length = 32) (hb : b.length = 32) (m n : Int) (hn63 : n ≤ 9223372036854775807) (v : Value) (l : List (List UInt8)) (hl : AllH l) (hll : l.length ≤ 1000000) (w : World) (KW : Keys w) (h : SlS w w.heap.size v l) :
    Calls Tryd.prog 23 #[sumV a, .int .i64 m, sumV b, .int .i64 n, v] w fun e w' => e = .returned (.bool (goesB a m b n l)) ∧ Ext w w' := by
  obtain ⟨A, cap, rfl, hA0, hc, hc63, hr'⟩ := h
  exact Goes_calls a b ha hb m n hn63 A cap l hl hll hc (by unfold maxLen; omega) w KW hr'
theorem sls_nil (w : World) (B : Nat) : SlS w B (.slice none 0 0) [] := ⟨none, 0, rfl, .inl ⟨.inl rfl, rfl, rfl⟩, Nat.le_refl _, by decide, Rd.nil⟩

theorem few12_calls (v : Value) (l : List (List UInt8)) (hl : AllH l) (n : Nat) (hn : n ≤ 1000000) (w : World) (h : SlS w w.heap.size v l) :
    Calls Tryd.prog 17 #[v, .int .i64 (n : Int)] w fun e w' => ∃ v', e = .returned v' ∧ SlS w w.heap.size v' (l.take n) ∧ w = w' := by
  have h0 := h
  obtain ⟨A, cap, rfl, hA0, hc, hc63, hr⟩ := h
  by_cases hlt : n < l.length
  · have hI : (n : Int) < (l.length : Int) := by omega
    rcases hA0 with ⟨_, hl1, _⟩ | ⟨b, off, rfl⟩
    · rw [hl1] at hlt; simp at hlt
    have hcI : (n : Int) ≤ (cap : Int) := by omega
    have hcn : n ≤ cap := by omega
    go_enter Tryd.func17, Tryd.ntmps17
    go_wp2_with fail
    go_ret
    exact ⟨_, rfl, sls_take hl hc hc63 hr n (by omega), rfl⟩
  · have hI : ¬ (n : Int) < (l.length : Int) := by omega
    go_enter Tryd.func17, Tryd.ntmps17
    go_wp2_with fail
    go_ret
    exact ⟨_, rfl, by rw [List.take_of_length_le (by omega)]; exact h0, rfl⟩

theorem root3 (a b c : List UInt8) : rootS [a, b, c] = nodeB (nodeB a b) c := by
  unfold rootS
  rw [Tree.rootR_two nodeB emptyB [a, b, c] (by simp)]
  have h3 : Tree.split ([a, b, c].length) = 2 := by show Tree.split 3 = 2; decide +kernel
  rw [h3]
  show nodeB (Tree.rootR nodeB emptyB [a, b]) (Tree.rootR nodeB emptyB [c]) = _
  rw [Tree.rootR_two nodeB emptyB [a, b] (by simp)]
  have h2 : Tree.split ([a, b].length) = 1 := by show Tree.split 2 = 1; decide +kernel
  rw [h2]
  rfl
theorem l23 : Way.longI 2 3 = 1 := by decide +kernel
theorem t23 : Way.turnsI 2 3 = [true] := by decide +kernel
theorem k23 : Way.linksI 2 3 = 1 := by decide +kernel
theorem k33 : Way.linksI 3 3 = 0 := by decide +kernel
theorem p23 : Way.parts 2 3 = [false] := by decide +kernel
theorem p33 : Way.parts 3 3 = [] := by decide +kernel
theorem aw1 (a c : List UInt8) : rightB (nodeB a c) c 2 3 [a] = true := by
  unfold rightB foldP
  rw [l23, t23, if_pos (by rfl)]
  simp [Way.foldW]
theorem aw2 (a c r : List UInt8) : rightB r c 2 3 [a, a] = false := by
  unfold rightB foldP
  rw [l23, if_neg (by simp)]
  rfl
theorem aw3 (a c : List UInt8) : goesB a 2 (nodeB a c) 3 [c] = true := by
  unfold goesB bothP
  rw [k23, if_pos (by rfl)]
  simp [Way.both, p23, Way.wholeB, Way.bothW]
theorem aw4 (r : List UInt8) : goesB r 3 r 3 [] = true := by
  unfold goesB bothP
  rw [k33, if_pos (by rfl)]
  simp [Way.both, p33, Way.wholeB, Way.bothW]

set_option maxHeartbeats 2000000 in
theorem awake12_calls (w : World) (KW : Keys w) : Calls Tryd.prog 16 #[] w fun e w' => e = .returned (.bool true) ∧ Ext w w' := by
  go_enter Tryd.func16, Tryd.ntmps16
  go_wp2_with fail
  change Calls _ _ #[.string (bs [97])] _ _
  refine (refLeaf_calls [97] (by decide) _).mono ?_; rintro e w3 ⟨rfl, e3⟩
  have ha := leafB_length [97]
  generalize leafB [97] = pa at *
  have hE3 := e3
  unfold sumV
  go_wp2_with (refine stop_store 23 (.tmp 1) (.tmp 6) rfl ?_)
  refine ⟨?_⟩
  change wpList _ _ _ _ _ (w3.alloc (.cells ((zerosB 32).map byteV).toArray 23))
  have hA0 : ArrB (w3.alloc (.cells ((zerosB 32).map byteV).toArray 23)) w3.heap.size 23 (zerosB 32) := Blk.new _ _ _
  refine wpList_store_row rfl 23 (.tmp 1) (.tmp 6) rfl w3.heap.size ((pa).map byteV).toArray (by rfl) (by rfl) 23 _ hA0 (size32.trans (by simp [ha])) (by simp [ha, zerosB]) (by simp [byteV, Value.oneCell']) ?_
  simp only [Act.put, List.setIfInBounds_toArray, List.set_cons_zero, List.set_cons_succ]
  have hA : ArrB ((w3.alloc (.cells ((zerosB 32).map byteV).toArray 23)).setRow w3.heap.size ((pa).map byteV).toArray) w3.heap.size 23 (pa) := Blk.row hA0 _
  have eA : Ext w3 ((w3.alloc (.cells ((zerosB 32).map byteV).toArray 23)).setRow w3.heap.size ((pa).map byteV).toArray) := ((Ext.refl w3).alloc _).row (Nat.le_refl _) _
  clear hA0
  generalize (w3.alloc (.cells ((zerosB 32).map byteV).toArray 23)).setRow w3.heap.size ((pa).map byteV).toArray = w4 at *
  have hE4 := e3.trans eA
  clear hE3 e3 eA
  go_wp2_with fail
  change Calls _ _ #[.string (bs [98])] _ _
  refine (refLeaf_calls [98] (by decide) _).mono ?_; rintro e w5 ⟨rfl, e5⟩
  have hb := leafB_length [98]
  generalize leafB [98] = pb at *
  unfold sumV
  go_wp2_with (refine stop_store 23 (.tmp 2) (.tmp 7) rfl ?_)
  refine ⟨?_⟩
  change wpList _ _ _ _ _ (w5.alloc (.cells ((zerosB 32).map byteV).toArray 23))
  have hB0 : ArrB (w5.alloc (.cells ((zerosB 32).map byteV).toArray 23)) w5.heap.size 23 (zerosB 32) := Blk.new _ _ _
  refine wpList_store_row rfl 23 (.tmp 2) (.tmp 7) rfl w5.heap.size ((pb).map byteV).toArray (by rfl) (by rfl) 23 _ hB0 (size32.trans (by simp [hb])) (by simp [hb, zerosB]) (by simp [byteV, Value.oneCell']) ?_
  simp only [Act.put, List.setIfInBounds_toArray, List.set_cons_zero, List.set_cons_succ]
  have hB : ArrB ((w5.alloc (.cells ((zerosB 32).map byteV).toArray 23)).setRow w5.heap.size ((pb).map byteV).toArray) w5.heap.size 23 (pb) := Blk.row hB0 _
  have eB : Ext w5 ((w5.alloc (.cells ((zerosB 32).map byteV).toArray 23)).setRow w5.heap.size ((pb).map byteV).toArray) := ((Ext.refl w5).alloc _).row (Nat.le_refl _) _
  clear hB0
  generalize (w5.alloc (.cells ((zerosB 32).map byteV).toArray 23)).setRow w5.heap.size ((pb).map byteV).toArray = w6 at *
  have hA := Blk.below hA (e5.trans eB) (Blk.lt hA)
  have hE6 := hE4.trans (e5.trans eB)
  clear hE4 e5 eB
  go_wp2_with fail
  change Calls _ _ #[.string (bs [99])] _ _
  refine (refLeaf_calls [99] (by decide) _).mono ?_; rintro e w7 ⟨rfl, e7⟩
  have hc := leafB_length [99]
  generalize leafB [99] = pc at *
  unfold sumV
  go_wp2_with (refine stop_store 23 (.tmp 3) (.tmp 8) rfl ?_)
  refine ⟨?_⟩
  change wpList _ _ _ _ _ (w7.alloc (.cells ((zerosB 32).map byteV).toArray 23))
  have hC0 : ArrB (w7.alloc (.cells ((zerosB 32).map byteV).toArray 23)) w7.heap.size 23 (zerosB 32) := Blk.new _ _ _
  refine wpList_store_row rfl 23 (.tmp 3) (.tmp 8) rfl w7.heap.size ((pc).map byteV).toArray (by rfl) (by rfl) 23 _ hC0 (size32.trans (by simp [hc])) (by simp [hc, zerosB]) (by simp [byteV, Value.oneCell']) ?_
  simp only [Act.put, List.setIfInBounds_toArray, List.set_cons_zero, List.set_cons_succ]
  have hC : ArrB ((w7.alloc (.cells ((zerosB 32).map byteV).toArray 23)).setRow w7.heap.size ((pc).map byteV).toArray) w7.heap.size 23 (pc) := Blk.row hC0 _
  have eC : Ext w7 ((w7.alloc (.cells ((zerosB 32).map byteV).toArray 23)).setRow w7.heap.size ((pc).map byteV).toArray) := ((Ext.refl w7).alloc _).row (Nat.le_refl _) _
  clear hC0
  generalize (w7.alloc (.cells ((zerosB 32).map byteV).toArray 23)).setRow w7.heap.size ((pc).map byteV).toArray = w8 at *
  have hA := Blk.below hA (e7.trans eC) (Blk.lt hA)
  have hB := Blk.below hB (e7.trans eC) (Blk.lt hB)
  have hE8 := hE6.trans (e7.trans eC)
  clear hE6 e7 eC
  go_wp2_with (refine stop_load 23 (.tmp 1) rfl ?_)
  refine ⟨?_⟩
  refine wpList_load_row rfl 23 (.tmp 1) rfl w3.heap.size (by rfl) 23 _ (0, 0) _ hA Tryd.underlying23 rfl (size32.trans (by simp [ha])) ?_
  simp only [Act.put, List.setIfInBounds_toArray, List.set_cons_zero, List.set_cons_succ]
  go_wp2_with (refine stop_load 23 (.tmp 2) rfl ?_)
  refine ⟨?_⟩
  refine wpList_load_row rfl 23 (.tmp 2) rfl w5.heap.size (by rfl) 23 _ (0, 0) _ hB Tryd.underlying23 rfl (size32.trans (by simp [hb])) ?_
  simp only [Act.put, List.setIfInBounds_toArray, List.set_cons_zero, List.set_cons_succ]
  go_wp2_with fail
  change Calls _ _ #[sumV pa, sumV pb] _ _
  refine (refNode_calls pa pb ha hb _).mono ?_; rintro e w9 ⟨rfl, e9⟩
  have hA := Blk.below hA e9 (Blk.lt hA)
  have hB := Blk.below hB e9 (Blk.lt hB)
  have hC := Blk.below hC e9 (Blk.lt hC)
  have hE9 := hE8.trans e9
  have hd := nodeB_length pa pb
  generalize hnd : nodeB pa pb = nd at *
  have Hnd := Lib.hid hnd
  clear hnd hE8 e9
  unfold sumV
  go_wp2_with (refine stop_store 23 (.tmp 4) (.tmp 11) rfl ?_)
  refine ⟨?_⟩
  change wpList _ _ _ _ _ (w9.alloc (.cells ((zerosB 32).map byteV).toArray 23))
  have hD0 : ArrB (w9.alloc (.cells ((zerosB 32).map byteV).toArray 23)) w9.heap.size 23 (zerosB 32) := Blk.new _ _ _
  refine wpList_store_row rfl 23 (.tmp 4) (.tmp 11) rfl w9.heap.size ((nd).map byteV).toArray (by rfl) (by rfl) 23 _ hD0 (size32.trans (by simp [hd])) (by simp [hd, zerosB]) (by simp [byteV, Value.oneCell']) ?_
  simp only [Act.put, List.setIfInBounds_toArray, List.set_cons_zero, List.set_cons_succ]
  have hD : ArrB ((w9.alloc (.cells ((zerosB 32).map byteV).toArray 23)).setRow w9.heap.size ((nd).map byteV).toArray) w9.heap.size 23 (nd) := Blk.row hD0 _
  have eD : Ext w9 ((w9.alloc (.cells ((zerosB 32).map byteV).toArray 23)).setRow w9.heap.size ((nd).map byteV).toArray) := ((Ext.refl w9).alloc _).row (Nat.le_refl _) _
  clear hD0
  generalize (w9.alloc (.cells ((zerosB 32).map byteV).toArray 23)).setRow w9.heap.size ((nd).map byteV).toArray = w10 at *
  have hA := Blk.below hA eD (Blk.lt hA)
  have hB := Blk.below hB eD (Blk.lt hB)
  have hC := Blk.below hC eD (Blk.lt hC)
  have hE10 := hE9.trans eD
  clear hE9 eD
  go_wp2_with (refine stop_load 23 (.tmp 1) rfl ?_)
  refine ⟨?_⟩
  refine wpList_load_row rfl 23 (.tmp 1) rfl w3.heap.size (by rfl) 23 _ (0, 0) _ hA Tryd.underlying23 rfl (size32.trans (by simp [ha])) ?_
  simp only [Act.put, List.setIfInBounds_toArray, List.set_cons_zero, List.set_cons_succ]
  go_wp2_with (refine stop_load 23 (.tmp 2) rfl ?_)
  refine ⟨?_⟩
  refine wpList_load_row rfl 23 (.tmp 2) rfl w5.heap.size (by rfl) 23 _ (0, 0) _ hB Tryd.underlying23 rfl (size32.trans (by simp [hb])) ?_
  simp only [Act.put, List.setIfInBounds_toArray, List.set_cons_zero, List.set_cons_succ]
  go_wp2_with (refine stop_load 23 (.tmp 3) rfl ?_)
  refine ⟨?_⟩
  refine wpList_load_row rfl 23 (.tmp 3) rfl w7.heap.size (by rfl) 23 _ (0, 0) _ hC Tryd.underlying23 rfl (size32.trans (by simp [hc])) ?_
  simp only [Act.put, List.setIfInBounds_toArray, List.set_cons_zero, List.set_cons_succ]
  go_wp2_with (refine stop_dst 15 rfl ?_)
  refine ⟨?_⟩
  have hall : AllH [pa, pb, pc] := AllH.cons ha (AllH.cons hb (AllH.cons hc AllH.nil))
  refine wpList_buildSums rfl 3 _ rfl [pa, pb, pc] hall rfl (by decide) (by decide) (by rfl) ?_
  simp only [Act.put, List.setIfInBounds_toArray, List.set_cons_zero, List.set_cons_succ]
  have hS := sls_new w10 [pa, pb, pc] 3 rfl (by decide)
  have eS := (Ext.refl w10).alloc (.cells (flatS [pa, pb, pc]).toArray 23)
  have hC := Blk.below hC eS (Blk.lt hC)
  have hD := Blk.below hD eS (Blk.lt hD)
  have hE11 := hE10.trans eS
  generalize w10.alloc (.cells (flatS [pa, pb, pc]).toArray 23) = w11 at *
  clear hE10 eS hA hB
  go_wp2_with fail
  refine (refRoot_calls _ [pa, pb, pc] hall _ hS).mono ?_; rw [root3, Hnd.out]; rintro e w12 ⟨rfl, e12⟩
  have hR := nodeB_length nd pc
  obtain ⟨R, hRe⟩ : ∃ R, R = nodeB nd pc := ⟨_, rfl⟩
  rw [← hRe] at hR ⊢
  have hC := Blk.below hC e12 (Blk.lt hC)
  have hD := Blk.below hD e12 (Blk.lt hD)
  have hE12 := hE11.trans e12
  have b1 := aw1 nd pc
  have b2 := aw2 nd pc R
  have b3 := aw3 nd pc
  have b4 := aw4 R
  rw [← hRe] at b1 b3
  have B1 := Lib.hid b1
  have B2 := Lib.hid b2
  have B3 := Lib.hid b3
  have B4 := Lib.hid b4
  clear hS hE11 e12 hRe b1 b2 b3 b4
  unfold sumV
  go_wp2_with (refine stop_store 23 (.tmp 5) (.tmp 16) rfl ?_)
  refine ⟨?_⟩
  change wpList _ _ _ _ _ (w12.alloc (.cells ((zerosB 32).map byteV).toArray 23))
  have hT0 : ArrB (w12.alloc (.cells ((zerosB 32).map byteV).toArray 23)) w12.heap.size 23 (zerosB 32) := Blk.new _ _ _
  refine wpList_store_row rfl 23 (.tmp 5) (.tmp 16) rfl w12.heap.size ((R).map byteV).toArray (by rfl) (by rfl) 23 _ hT0 (size32.trans (by simp [hR])) (by simp [hR, zerosB]) (by simp [byteV, Value.oneCell']) ?_
  simp only [Act.put, List.setIfInBounds_toArray, List.set_cons_zero, List.set_cons_succ]
  have hT : ArrB ((w12.alloc (.cells ((zerosB 32).map byteV).toArray 23)).setRow w12.heap.size ((R).map byteV).toArray) w12.heap.size 23 (R) := Blk.row hT0 _
  have eT : Ext w12 ((w12.alloc (.cells ((zerosB 32).map byteV).toArray 23)).setRow w12.heap.size ((R).map byteV).toArray) := ((Ext.refl w12).alloc _).row (Nat.le_refl _) _
  clear hT0
  generalize (w12.alloc (.cells ((zerosB 32).map byteV).toArray 23)).setRow w12.heap.size ((R).map byteV).toArray = w13 at *
  have hC := Blk.below hC eT (Blk.lt hC)
  have hD := Blk.below hD eT (Blk.lt hD)
  have hE13 := hE12.trans eT
  clear hE12 eT
  go_wp2_with (refine stop_load 23 (.tmp 5) rfl ?_)
  refine ⟨?_⟩
  refine wpList_load_row rfl 23 (.tmp 5) rfl w12.heap.size (by rfl) 23 _ (0, 0) _ hT Tryd.underlying23 rfl (size32.trans (by simp [hR])) ?_
  simp only [Act.put, List.setIfInBounds_toArray, List.set_cons_zero, List.set_cons_succ]
  go_wp2_with (refine stop_load 23 (.tmp 3) rfl ?_)
  refine ⟨?_⟩
  refine wpList_load_row rfl 23 (.tmp 3) rfl w7.heap.size (by rfl) 23 _ (0, 0) _ hC Tryd.underlying23 rfl (size32.trans (by simp [hc])) ?_
  simp only [Act.put, List.setIfInBounds_toArray, List.set_cons_zero, List.set_cons_succ]
  go_wp2_with (refine stop_load 23 (.tmp 4) rfl ?_)
  refine ⟨?_⟩
  refine wpList_load_row rfl 23 (.tmp 4) rfl w9.heap.size (by rfl) 23 _ (0, 0) _ hD Tryd.underlying23 rfl (size32.trans (by simp [hd])) ?_
  simp only [Act.put, List.setIfInBounds_toArray, List.set_cons_zero, List.set_cons_succ]
  have hpc := hc
  have hnd := hd
  go_wp2_with (refine stop_dst 20 rfl ?_)
  refine ⟨?_⟩
  refine wpList_buildSums rfl 1 _ rfl [nd] (AllH.cons hnd (AllH.nil)) rfl (by decide) (by decide) (by rfl) ?_
  simp only [Act.put, List.setIfInBounds_toArray, List.set_cons_zero, List.set_cons_succ]
  have hS := sls_new w13 [nd] 1 rfl (by decide)
  have eS := (Ext.refl w13).alloc (.cells (flatS [nd]).toArray 23)
  have hT := Blk.below hT eS (Blk.lt hT)
  have hC := Blk.below hC eS (Blk.lt hC)
  have hD := Blk.below hD eS (Blk.lt hD)
  have hE14 := hE13.trans eS
  generalize w13.alloc (.cells (flatS [nd]).toArray 23) = w14 at *
  clear hE13 eS
  go_wp2_with fail
  change Calls _ _ #[sumV R, sumV pc, _, _, _] _ _
  refine (Right_sls R pc hR hpc 2 3 (by decide) _ [nd] (AllH.cons hnd AllH.nil) (by simp) w14 (KW.ext hE14) hS).mono ?_; rw [B1.out]; rintro e w15 ⟨rfl, e2⟩
  have hT := Blk.below hT e2 (Blk.lt hT)
  have hC := Blk.below hC e2 (Blk.lt hC)
  have hD := Blk.below hD e2 (Blk.lt hD)
  have hE15 := hE14.trans e2
  clear hE14 e2
  clear hS
  go_wp2_with (refine stop_load 23 (.tmp 5) rfl ?_)
  refine ⟨?_⟩
  refine list_want (by rfl) (fun K hK => ?_)
  refine wp_load_row 23 (.tmp 5) rfl w12.heap.size (by rfl) 23 _ (0, 0) _ hT Tryd.underlying23 rfl (size32.trans (by simp [hR])) ?_
  refine hK _ _ ?_; clear hK K
  simp only [Act.put, List.setIfInBounds_toArray, List.set_cons_zero, List.set_cons_succ]
  go_wp2_with (refine stop_load 23 (.tmp 3) rfl ?_)
  refine ⟨?_⟩
  refine list_want (by rfl) (fun K hK => ?_)
  refine wp_load_row 23 (.tmp 3) rfl w7.heap.size (by rfl) 23 _ (0, 0) _ hC Tryd.underlying23 rfl (size32.trans (by simp [hpc])) ?_
  refine hK _ _ ?_; clear hK K
  simp only [Act.put, List.setIfInBounds_toArray, List.set_cons_zero, List.set_cons_succ]
  go_wp2_with (refine stop_load 23 (.tmp 4) rfl ?_)
  refine ⟨?_⟩
  refine list_want (by rfl) (fun K hK => ?_)
  refine wp_load_row 23 (.tmp 4) rfl w9.heap.size (by rfl) 23 _ (0, 0) _ hD Tryd.underlying23 rfl (size32.trans (by simp [hnd])) ?_
  refine hK _ _ ?_; clear hK K
  simp only [Act.put, List.setIfInBounds_toArray, List.set_cons_zero, List.set_cons_succ]
  go_wp2_with (refine stop_load 23 (.tmp 4) rfl ?_)
  refine ⟨?_⟩
  refine list_want (by rfl) (fun K hK => ?_)
  refine wp_load_row 23 (.tmp 4) rfl w9.heap.size (by rfl) 23 _ (0, 0) _ hD Tryd.underlying23 rfl (size32.trans (by simp [hnd])) ?_
  refine hK _ _ ?_; clear hK K
  simp only [Act.put, List.setIfInBounds_toArray, List.set_cons_zero, List.set_cons_succ]
  go_wp2_with (refine stop_dst 27 rfl ?_)
  refine ⟨?_⟩
  refine list_want (by rfl) (fun K hK => ?_)
  refine wp_buildSums 2 _ rfl [nd, nd] (AllH.cons hnd (AllH.cons hnd (AllH.nil))) rfl (by decide) (by decide) (by rfl) ?_
  refine hK _ _ ?_; clear hK K
  simp only [Act.put, List.setIfInBounds_toArray, List.set_cons_zero, List.set_cons_succ]
  have hS := sls_new w15 [nd, nd] 2 rfl (by decide)
  have eS := (Ext.refl w15).alloc (.cells (flatS [nd, nd]).toArray 23)
  have hT := Blk.below hT eS (Blk.lt hT)
  have hC := Blk.below hC eS (Blk.lt hC)
  have hD := Blk.below hD eS (Blk.lt hD)
  have hE16 := hE15.trans eS
  generalize w15.alloc (.cells (flatS [nd, nd]).toArray 23) = w16 at *
  clear hE15 eS
  go_wp2_with fail
  change Calls _ _ #[sumV R, sumV pc, _, _, _] _ _
  refine (Right_sls R pc hR hpc 2 3 (by decide) _ [nd, nd] (AllH.cons hnd (AllH.cons hnd AllH.nil)) (by simp) w16 (KW.ext hE16) hS).mono ?_; rw [B2.out]; rintro e w17 ⟨rfl, e2⟩
  have hT := Blk.below hT e2 (Blk.lt hT)
  have hC := Blk.below hC e2 (Blk.lt hC)
  have hD := Blk.below hD e2 (Blk.lt hD)
  have hE17 := hE16.trans e2
  clear hE16 e2
  clear hS
  go_wp2_with (refine stop_load 23 (.tmp 4) rfl ?_)
  refine ⟨?_⟩
  refine list_want (by rfl) (fun K hK => ?_)
  refine wp_load_row 23 (.tmp 4) rfl w9.heap.size (by rfl) 23 _ (0, 0) _ hD Tryd.underlying23 rfl (size32.trans (by simp [hnd])) ?_
  refine hK _ _ ?_; clear hK K
  simp only [Act.put, List.setIfInBounds_toArray, List.set_cons_zero, List.set_cons_succ]
  go_wp2_with (refine stop_load 23 (.tmp 5) rfl ?_)
  refine ⟨?_⟩
  refine list_want (by rfl) (fun K hK => ?_)
  refine wp_load_row 23 (.tmp 5) rfl w12.heap.size (by rfl) 23 _ (0, 0) _ hT Tryd.underlying23 rfl (size32.trans (by simp [hR])) ?_
  refine hK _ _ ?_; clear hK K
  simp only [Act.put, List.setIfInBounds_toArray, List.set_cons_zero, List.set_cons_succ]
  go_wp2_with (refine stop_load 23 (.tmp 3) rfl ?_)
  refine ⟨?_⟩
  refine list_want (by rfl) (fun K hK => ?_)
  refine wp_load_row 23 (.tmp 3) rfl w7.heap.size (by rfl) 23 _ (0, 0) _ hC Tryd.underlying23 rfl (size32.trans (by simp [hpc])) ?_
  refine hK _ _ ?_; clear hK K
  simp only [Act.put, List.setIfInBounds_toArray, List.set_cons_zero, List.set_cons_succ]
  go_wp2_with (refine stop_dst 35 rfl ?_)
  refine ⟨?_⟩
  refine list_want (by rfl) (fun K hK => ?_)
  refine wp_buildSums 1 _ rfl [pc] (AllH.cons hpc (AllH.nil)) rfl (by decide) (by decide) (by rfl) ?_
  refine hK _ _ ?_; clear hK K
  simp only [Act.put, List.setIfInBounds_toArray, List.set_cons_zero, List.set_cons_succ]
  have hS := sls_new w17 [pc] 1 rfl (by decide)
  have eS := (Ext.refl w17).alloc (.cells (flatS [pc]).toArray 23)
  have hT := Blk.below hT eS (Blk.lt hT)
  have hC := Blk.below hC eS (Blk.lt hC)
  have hD := Blk.below hD eS (Blk.lt hD)
  have hE18 := hE17.trans eS
  generalize w17.alloc (.cells (flatS [pc]).toArray 23) = w18 at *
  clear hE17 eS
  go_wp2_with fail
  change Calls _ _ #[sumV nd, _, sumV R, _, _] _ _
  refine (Goes_sls nd R hnd hR 2 3 (by decide) _ [pc] (AllH.cons hpc AllH.nil) (by simp) w18 (KW.ext hE18) hS).mono ?_; rw [B3.out]; rintro e w19 ⟨rfl, e2⟩
  have hT := Blk.below hT e2 (Blk.lt hT)
  have hC := Blk.below hC e2 (Blk.lt hC)
  have hD := Blk.below hD e2 (Blk.lt hD)
  have hE19 := hE18.trans e2
  clear hE18 e2
  clear hS
  go_wp2_with (refine stop_load 23 (.tmp 5) rfl ?_)
  refine ⟨?_⟩
  refine list_want (by rfl) (fun K hK => ?_)
  refine wp_load_row 23 (.tmp 5) rfl w12.heap.size (by rfl) 23 _ (0, 0) _ hT Tryd.underlying23 rfl (size32.trans (by simp [hR])) ?_
  refine hK _ _ ?_; clear hK K
  simp only [Act.put, List.setIfInBounds_toArray, List.set_cons_zero, List.set_cons_succ]
  go_wp2_with (refine stop_load 23 (.tmp 5) rfl ?_)
  refine ⟨?_⟩
  refine list_want (by rfl) (fun K hK => ?_)
  refine wp_load_row 23 (.tmp 5) rfl w12.heap.size (by rfl) 23 _ (0, 0) _ hT Tryd.underlying23 rfl (size32.trans (by simp [hR])) ?_
  refine hK _ _ ?_; clear hK K
  simp only [Act.put, List.setIfInBounds_toArray, List.set_cons_zero, List.set_cons_succ]
  go_wp2_with fail
  change Calls _ _ #[sumV R, _, sumV R, _, _] _ _
  refine (Goes_sls R R hR hR 3 3 (by decide) _ [] AllH.nil (by simp) w19 (KW.ext hE19) (sls_nil _ _)).mono ?_; rw [B4.out]; rintro e w20 ⟨rfl, e2⟩
  have hT := Blk.below hT e2 (Blk.lt hT)
  have hC := Blk.below hC e2 (Blk.lt hC)
  have hD := Blk.below hD e2 (Blk.lt hD)
  have hE20 := hE19.trans e2
  clear hE19 e2
  go_wp2_with fail
  go_ret
  exact ⟨rfl, hE20⟩

end Go.Proofs.YtfpipdopgepelaaDoor
