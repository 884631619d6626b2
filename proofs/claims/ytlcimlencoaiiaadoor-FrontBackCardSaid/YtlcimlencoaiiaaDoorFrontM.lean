/-
  Plain law of layer 11 (front): the peaks of a growing tree. No program in sight.
  Plain: one leaf more, step by step; how many bits are 1.
  A round of a range over a function: what is walked plainly holds there, too, where nothing is deferred.
  Plain: how many bits of a number are 1, as math/bits reckons it: by pairs, by fours, by bytes, and all bytes' sum.
  The walks of math/bits.OnesCount.
  slices.Backward over a row of hashes: its iterator's contract.
  Plain law of layer 1: what is read, and the scanner sound, is what stood there.
  A front at a block; the walks of few, New, Size and Peaks.
  The walk of (*Front).Add.
  The walk of (*Front).Copy.
  The walk of (*Front).Bytes.
  The walk of the document's Bytes of a front.
  The walk of (*Front).Root.
  The walk of front.Read.
  The walks of the document's Root and Peaks of a front.
  The walk of the document's Peaks of a front.
  The walk of the document's Read of a front.
  The chapter's examples of fronts, reckoned; what comes of no front.
  A front of a tree's leaves: its contracts once more; bytes that are read.
-/
import Derived.Test.YtlcimlencoaiiaaDoorLeafP
import Derived.Test.YtlcimlencoaiiaaDoorExt
import Derived.RangeFuncNested
import Derived.RangeFuncBound
import Derived.RangeFuncCalls
import Derived.RangeFuncLeaves
import Derived.OwnWalkIn
import Derived.TacticsInMore
import Derived.LoopNIn
import Derived.LoopIn
import Derived.OrdersIn
import Derived.Deep.MidRow
import Derived.Laws.Bits128
import Derived.Test.YtlcimlencoaiiaaDoorSums
import Derived.Test.YtlcimlencoaiiaaDoorLeaf2
import Derived.Test.YtlcimlencoaiiaaDoorOctL
import Derived.Test.YtlcimlencoaiiaaDoorLeafA
import Derived.Test.YtlcimlencoaiiaaDoorLeafD
import Derived.Test.YtlcimlencoaiiaaDoorEqA
import Derived.Deep.DeepCutAuto
import Derived.Test.YtlcimlencoaiiaaDoorHex
import Derived.Test.YtlcimlencoaiiaaDoorL01
import Derived.Lib.SlBuf
import Derived.Lib.BufferWrite
import Derived.Test.YtlcimlencoaiiaaDoorLeaf7
import Derived.Test.YtlcimlencoaiiaaDoorRef1
set_option linter.unusedVariables false
set_option maxRecDepth 100000
set_option linter.unusedSimpArgs false
set_option linter.unusedSectionVars false
namespace Go.Proofs.YtlcimlencoaiiaaDoor
namespace Tree
variable {α : Type} (nd : α → α → α) (e : α)

theorem above_take (l : List α) (j : Nat) (h : 2 * j ≤ l.length) : above nd (l.take (2 * j)) = (above nd l).take j := by
  have h1 : (l.take (2 * j)).length = 2 * j := by simp; omega
  have h2 := above_append nd (l.take (2 * j)) (l.drop (2 * j)) (by rw [h1]; omega)
  rw [List.take_append_drop] at h2
  have h3 : (above nd (l.take (2 * j))).length = j := by rw [above_length, h1]; omega
  have h4 : (above nd l).take j = above nd (l.take (2 * j)) := by
    rw [h2, List.take_append_of_le_length (by omega)]
    exact List.take_of_length_le (by omega)
  exact h4.symm
theorem above_drop (l : List α) (j : Nat) (h : 2 * j ≤ l.length) : above nd (l.drop (2 * j)) = (above nd l).drop j := by
  have h1 : (l.take (2 * j)).length = 2 * j := by simp; omega
  have h2 := above_append nd (l.take (2 * j)) (l.drop (2 * j)) (by rw [h1]; omega)
  rw [List.take_append_drop] at h2
  have h3 : (above nd (l.take (2 * j))).length = j := by rw [above_length, h1]; omega
  have h4 : (above nd l).drop j = above nd (l.drop (2 * j)) := by
    rw [h2, List.drop_append_of_le_length (by omega), List.drop_of_length_le (l := above nd (l.take (2 * j))) (by omega), List.nil_append]
  exact h4.symm

/-- The peaks: pair by pair; what is left over stands last. -/
def peaksF : Nat → List α → List α
  | 0, _ => []
  | f + 1, l => if l.length = 0 then [] else peaksF f (above nd (l.take (2 * (l.length / 2)))) ++ l.drop (2 * (l.length / 2))
def peaks (l : List α) : List α := peaksF nd l.length l
theorem peaksF_more : ∀ (f : Nat) (l : List α), l.length ≤ f → peaksF nd (f + 1) l = peaksF nd f l
  | 0, l, h => by simp [peaksF, show l.length = 0 from by omega]
  | f + 1, l, h => by
    by_cases h0 : l.length = 0
    · simp [peaksF, h0]
    · have h1 : (above nd (l.take (2 * (l.length / 2)))).length ≤ f := by rw [above_length, List.length_take]; omega
      have ih := peaksF_more f _ h1
      show (if l.length = 0 then [] else peaksF nd (f + 1) (above nd (l.take (2 * (l.length / 2)))) ++ l.drop (2 * (l.length / 2))) = (if l.length = 0 then [] else peaksF nd f (above nd (l.take (2 * (l.length / 2)))) ++ l.drop (2 * (l.length / 2)))
      rw [ih]
theorem peaksF_any (l : List α) : ∀ k, peaksF nd (l.length + k) l = peaks nd l
  | 0 => rfl
  | k + 1 => by rw [← Nat.add_assoc, peaksF_more nd _ _ (by omega)]; exact peaksF_any l k
theorem peaksF_is (f : Nat) (l : List α) (h : l.length ≤ f) : peaksF nd f l = peaks nd l := by
  have := peaksF_any nd l (f - l.length)
  rwa [show l.length + (f - l.length) = f from by omega] at this
theorem peaks_nil : peaks nd ([] : List α) = [] := rfl
theorem peaks_step (l : List α) : peaks nd l = peaks nd (above nd (l.take (2 * (l.length / 2)))) ++ l.drop (2 * (l.length / 2)) := by
  by_cases h0 : l.length = 0
  · rw [List.eq_nil_of_length_eq_zero h0, List.take_nil, List.drop_nil, List.append_nil]; simp [above]
  · have h1 : (above nd (l.take (2 * (l.length / 2)))).length ≤ l.length - 1 := by rw [above_length, List.length_take]; omega
    rw [← peaksF_is nd _ _ h1]
    show peaksF nd l.length l = _
    obtain ⟨k, hk⟩ : ∃ k, l.length = k + 1 := ⟨l.length - 1, by omega⟩
    rw [show peaksF nd l.length l = peaksF nd (k + 1) l from by rw [hk]]
    show (if l.length = 0 then [] else peaksF nd k (above nd (l.take (2 * (l.length / 2)))) ++ l.drop (2 * (l.length / 2))) = _
    rw [if_neg h0, show l.length - 1 = k from by omega]
theorem peaks_even (l : List α) (h : l.length % 2 = 0) : peaks nd l = peaks nd (above nd l) := by
  have := peaks_step nd l
  rwa [show 2 * (l.length / 2) = l.length from by omega, List.take_length, List.drop_length, List.append_nil] at this
theorem peaks_odd (l : List α) (x : α) (h : l.length % 2 = 0) : peaks nd (l ++ [x]) = peaks nd l ++ [x] := by
  rw [peaks_step nd (l ++ [x]), show 2 * ((l ++ [x]).length / 2) = l.length from by simp; omega, List.take_left, List.drop_left, ← peaks_even nd l h]
theorem peaks_two (l : List α) (x y : α) (h : l.length % 2 = 0) : peaks nd (l ++ [x] ++ [y]) = peaks nd (above nd l ++ [nd x y]) := by
  rw [List.append_assoc, peaks_even nd _ (by simp; omega), above_append nd l _ h]
  rfl

/-- One leaf more. -/
def addF : Nat → Nat → List α → α → List α
  | 0, _, p, x => p ++ [x]
  | f + 1, k, p, x => if k % 2 = 0 then p ++ [x] else match p.getLast? with
    | none => p ++ [x]
    | some y => addF f (k / 2) p.dropLast (nd y x)
theorem add_peaks : ∀ (f n : Nat) (l : List α) (x : α), l.length = n → n ≤ f → peaks nd (l ++ [x]) = addF nd f n (peaks nd l) x
  | 0, n, l, x, hl, hf => by
    have : l = [] := List.eq_nil_of_length_eq_zero (by omega)
    rw [this]; exact peaks_odd nd [] x rfl
  | f + 1, n, l, x, hl, hf => by
    by_cases h2 : n % 2 = 0
    · rw [addF, if_pos h2]; exact peaks_odd nd l x (by omega)
    · have hne : l ≠ [] := by intro h0; rw [h0] at hl; simp at hl; omega
      obtain ⟨m, y, rfl⟩ : ∃ m y, l = m ++ [y] := ⟨l.dropLast, l.getLast hne, (List.dropLast_concat_getLast hne).symm⟩
      have hm : m.length + 1 = n := by simpa using hl
      rw [peaks_two nd m y x (by omega), peaks_odd nd m y (by omega), addF, if_neg h2, List.getLast?_append, List.getLast?_singleton, Option.some_or, List.dropLast_concat, peaks_even nd m (by omega)]
      exact add_peaks f (n / 2) (above nd m) (nd y x) (by rw [above_length]; omega) (by omega)

/-- How many bits are 1. -/
def onesF : Nat → Nat → Nat
  | 0, _ => 0
  | f + 1, n => if n = 0 then 0 else n % 2 + onesF f (n / 2)
theorem peaks_count : ∀ (f n : Nat) (l : List α), l.length = n → n ≤ f → (peaks nd l).length = onesF f n
  | 0, n, l, hl, hf => by
    have : l = [] := List.eq_nil_of_length_eq_zero (by omega)
    rw [this]; rfl
  | f + 1, n, l, hl, hf => by
    by_cases h0 : n = 0
    · have : l = [] := List.eq_nil_of_length_eq_zero (by omega)
      rw [this, onesF, if_pos h0]; rfl
    · have ih := peaks_count f (n / 2) (above nd (l.take (2 * (l.length / 2)))) (by rw [above_length, List.length_take]; omega) (by omega)
      rw [peaks_step, List.length_append, ih, List.length_drop, onesF, if_neg h0]
      omega

/-- The first peak is the root of as many leaves as the greatest power of two allows; the others are the rest's. -/
theorem peaks_head : ∀ (n : Nat) (l : List α), l.length = n → 0 < n → peaks nd l = rootR nd e (l.take (2 ^ n.log2)) :: peaks nd (l.drop (2 ^ n.log2))
  | n, l, hl, hn => by
    by_cases h1 : n = 1
    · obtain ⟨x, rfl⟩ := List.length_eq_one_iff.1 (hl.trans h1)
      subst h1
      have h := peaks_odd nd ([] : List α) x rfl
      rw [List.nil_append, peaks_nil, List.nil_append] at h
      rw [h, show Nat.log2 1 = 0 from by decide]
      rfl
    · have hlog : n.log2 = (n / 2).log2 + 1 := by rw [Nat.log2_def n, if_pos (by omega)]
      have hk : 2 ^ n.log2 = 2 * 2 ^ (n / 2).log2 := by rw [hlog, Nat.pow_succ, Nat.mul_comm]
      have hle : 2 ^ (n / 2).log2 ≤ n / 2 := Nat.log2_self_le (by omega)
      have hp : 0 < 2 ^ (n / 2).log2 := Nat.pow_pos (by omega)
      rw [hk]
      generalize hq : 2 ^ (n / 2).log2 = k at *
      have hL : (above nd (l.take (2 * (n / 2)))).length = n / 2 := by rw [above_length, List.length_take]; omega
      have ih := peaks_head (n / 2) (above nd (l.take (2 * (n / 2)))) hL (by omega)
      rw [hq] at ih
      have hlt : (l.take (2 * (n / 2))).length = 2 * (n / 2) := by rw [List.length_take]; omega
      rw [← above_take nd _ _ (by omega), ← above_drop nd _ _ (by omega), List.take_take, Nat.min_eq_left (by omega)] at ih
      have hr : rootR nd e (l.take (2 * k)) = rootR nd e (above nd (l.take (2 * k))) := rootR_above nd e (2 * k) _ (by rw [List.length_take]; omega) (by omega)
      have hs := peaks_step nd l
      rw [hl, ih] at hs
      rw [hs, List.cons_append, hr]
      congr 1
      have hd := peaks_step nd (l.drop (2 * k))
      rw [List.length_drop, hl, show 2 * ((n - 2 * k) / 2) = 2 * (n / 2) - 2 * k from by omega, List.drop_drop, show 2 * k + (2 * (n / 2) - 2 * k) = 2 * (n / 2) from by omega] at hd
      rw [hd, List.drop_take]
  termination_by n => n

/-- The root out of the peaks. -/
def join (p : List α) : α := match p.getLast? with
  | none => e
  | some r => p.dropLast.foldr nd r
theorem join_cons (x : α) (p : List α) (h : p ≠ []) : join nd e (x :: p) = nd x (join nd e p) := by
  obtain ⟨q, y, rfl⟩ : ∃ q y, p = q ++ [y] := ⟨p.dropLast, p.getLast h, (List.dropLast_concat_getLast h).symm⟩
  unfold join
  rw [← List.cons_append, List.getLast?_concat, List.getLast?_concat]
  show ((x :: q) ++ [y]).dropLast.foldr nd y = nd x ((q ++ [y]).dropLast.foldr nd y)
  rw [List.dropLast_concat, List.dropLast_concat]
  rfl
theorem peaks_ne (l : List α) (h : l ≠ []) : peaks nd l ≠ [] := by
  have := peaks_head nd (e := l.head h) l.length l rfl (List.length_pos_iff.2 h)
  rw [this]; simp
theorem join_peaks : ∀ (n : Nat) (l : List α), l.length = n → join nd e (peaks nd l) = rootR nd e l
  | n, l, hl => by
    by_cases h0 : n = 0
    · have : l = [] := List.eq_nil_of_length_eq_zero (by omega)
      rw [this]; rfl
    · have hn : 0 < n := by omega
      have hle : 2 ^ n.log2 ≤ n := Nat.log2_self_le (by omega)
      have hlt : n < 2 ^ (n.log2 + 1) := Nat.lt_log2_self
      have hp : 0 < 2 ^ n.log2 := Nat.pow_pos (by omega)
      rw [Nat.pow_succ] at hlt
      rw [peaks_head nd e n l hl hn]
      by_cases he : n = 2 ^ n.log2
      · rw [List.take_of_length_le (by omega), List.drop_of_length_le (by omega)]
        rfl
      · have hne : l.drop (2 ^ n.log2) ≠ [] := by
          intro h
          have := congrArg List.length h
          rw [List.length_drop] at this
          simp at this
          omega
        rw [join_cons nd e _ _ (peaks_ne nd _ hne), join_peaks (n - 2 ^ n.log2) (l.drop (2 ^ n.log2)) (by rw [List.length_drop]; omega)]
        have := rootR_two nd e l (by omega)
        rw [hl, split_is n n.log2 (by omega) (by omega)] at this
        exact this.symm
  termination_by n => n

end Tree
end Go.Proofs.YtlcimlencoaiiaaDoor

namespace Go.Proofs.YtlcimlencoaiiaaDoor
namespace Tree
variable {α : Type} (nd : α → α → α)

theorem onesF_more : ∀ (f n : Nat), n ≤ f → onesF (f + 1) n = onesF f n
  | 0, n, h => by simp [onesF, show n = 0 from by omega]
  | f + 1, n, h => by
    show (if n = 0 then 0 else n % 2 + onesF (f + 1) (n / 2)) = (if n = 0 then 0 else n % 2 + onesF f (n / 2))
    by_cases h0 : n = 0
    · rw [if_pos h0, if_pos h0]
    · rw [if_neg h0, if_neg h0, onesF_more f (n / 2) (by omega)]
def ones (n : Nat) : Nat := onesF n n
theorem onesF_is (n : Nat) : ∀ k, onesF (n + k) n = ones n
  | 0 => rfl
  | k + 1 => by rw [← Nat.add_assoc, onesF_more _ _ (by omega)]; exact onesF_is n k
theorem ones_zero : ones 0 = 0 := rfl
theorem ones_step (n : Nat) (h : 0 < n) : ones n = n % 2 + ones (n / 2) := by
  obtain ⟨m, rfl⟩ : ∃ m, n = m + 1 := ⟨n - 1, by omega⟩
  show onesF (m + 1) (m + 1) = _
  show (if m + 1 = 0 then 0 else (m + 1) % 2 + onesF m ((m + 1) / 2)) = _
  rw [if_neg (by omega), show m = (m + 1) / 2 + (m - (m + 1) / 2) from by omega]
  rw [show (m + 1) / 2 + (m - (m + 1) / 2) = m from by omega]
  have := onesF_is ((m + 1) / 2) (m - (m + 1) / 2)
  rw [show (m + 1) / 2 + (m - (m + 1) / 2) = m from by omega] at this
  rw [this]
theorem ones_peaks (l : List α) : (peaks nd l).length = ones l.length := peaks_count nd l.length l.length l rfl (Nat.le_refl _)

theorem addF_more : ∀ (f k : Nat) (p : List α) (x : α), k ≤ f → addF nd (f + 1) k p x = addF nd f k p x
  | 0, k, p, x, h => by simp [addF, show k = 0 from by omega]
  | f + 1, k, p, x, h => by
    rw [addF, addF]
    by_cases h2 : k % 2 = 0
    · rw [if_pos h2, if_pos h2]
    · rw [if_neg h2, if_neg h2]
      cases p.getLast? with
      | none => rfl
      | some y => exact addF_more f (k / 2) p.dropLast (nd y x) (by omega)
def add (k : Nat) (p : List α) (x : α) : List α := addF nd k k p x
theorem addF_is (k : Nat) (p : List α) (x : α) : ∀ j, addF nd (k + j) k p x = add nd k p x
  | 0 => rfl
  | j + 1 => by rw [← Nat.add_assoc, addF_more nd _ _ _ _ (by omega)]; exact addF_is k p x j
theorem add_even (k : Nat) (p : List α) (x : α) (h : k % 2 = 0) : add nd k p x = p ++ [x] := by
  unfold add
  cases k with
  | zero => rfl
  | succ k => rw [addF, if_pos h]
theorem add_odd (k : Nat) (p : List α) (y x : α) (h : k % 2 = 1) : add nd k (p ++ [y]) x = add nd (k / 2) p (nd y x) := by
  unfold add
  cases k with
  | zero => cases h
  | succ k =>
    rw [addF, if_neg (by omega), List.getLast?_concat, List.dropLast_concat]
    have := addF_is nd ((k + 1) / 2) p (nd y x) (k - (k + 1) / 2)
    rw [show (k + 1) / 2 + (k - (k + 1) / 2) = k from by omega] at this
    exact this
theorem peaks_add (l : List α) (x : α) : peaks nd (l ++ [x]) = add nd l.length (peaks nd l) x := add_peaks nd l.length l.length l x rfl (Nat.le_refl _)

end Tree
end Go.Proofs.YtlcimlencoaiiaaDoor

namespace Go.Proofs.YtlcimlencoaiiaaDoor
open Go.RowKit

def deferOp : Op → Bool
  | .defer _ => true
  | _ => false
/-- None of these is a defer statement. -/
def noDefer (l : List Oper) : Bool := l.all fun o => !deferOp o.op
theorem noDefer_cons {o : Oper} {l : List Oper} (h : noDefer (o :: l) = true) : (∀ c, o.op ≠ .defer c) ∧ noDefer l = true := by
  simp only [noDefer, List.all_cons, Bool.and_eq_true] at h
  refine ⟨fun c hc => ?_, h.2⟩
  rw [hc] at h
  simp [deferOp] at h
theorem noDefer_at {l : List Oper} (h : noDefer l = true) {i : Nat} {o : Oper} (hi : l.toArray[i]? = some o) : ∀ c, o.op ≠ .defer c := fun c hc => by
  have hm : o ∈ l := List.mem_of_getElem? (i := i) (by simpa using hi)
  have := List.all_eq_true.1 h o hm
  rw [hc] at this
  simp [deferOp] at this

/-- The widest fence, in whatever round. -/
abbrev wideAt (r : Option Nat) : Fence := { Fence.wide with round := r }

section
variable {P : Program} {r : Option Nat} {n : Nat} {ops : Array Oper} {Q : Exit → Act → World → Prop}
theorem calls_at {f : FuncId} {args : Array Value} {w : World} {R : Ending → World → Prop} (h : Calls P f args w R) : CallsIn (wideAt r) n P f args w R := (callsIn_wide (n := n)).2 h
theorem rows_at {row : String} {args : Array Value} {w : World} {R : Value → World → Prop} (h : Rows P row args w R) : RowsIn (wideAt r) n P row args w R := fun c cs _ =>
  let ⟨v, w', q, s⟩ := h c cs
  ⟨v, w', q, stepsIn_wide.2 s⟩
theorem oper_in {o : Oper} {a : Act} {w : World} {K : Act → World → Prop} (hd : ∀ c, o.op ≠ .defer c) (h : o.wp P a w K Q) : o.wpIn (wideAt r) n P a w K Q := by
  unfold Oper.wpIn
  refine ⟨fun _ _ => trivial, ?_⟩
  rw [Oper.semAt_plain _ _ _ hd]
  unfold Oper.wp at h
  generalize (execOp a.eval o).run P w = x at *
  cases x with
  | ok x w' =>
    cases x with
    | value v => exact h
    | skip => exact h
    | defer d => exact h
    | enter f args => exact ⟨fun h => by simp [Fence.wide] at h, (calls_at (r := r) (n := n - 1) h).mono fun e w'' he => by cases e <;> exact he⟩
    | row row args => exact ⟨fun h => by simp [Fence.wide] at h, rows_at h⟩
    | round => exact h.elim
    | _ => exact h.elim
  | halt x w' => cases x <;> exact h
theorem list_in (hq : ¬ LetsOut Q) : ∀ (l : List Oper), noDefer l = true → ∀ {a : Act} {w : World}, wpList P ops Q l a w → wpListIn (wideAt r) n P ops Q l a w
  | [], _, _, _, h => h
  | o :: l, hd, a, w, h => by
    obtain ⟨h1, h2⟩ := noDefer_cons hd
    unfold wpListIn
    unfold wpList at h
    split
    · rename_i hw
      rw [if_pos hw] at h
      exact Oper.wpIn_mono (fun a' w' hh => list_in hq l h2 hh) (oper_in h1 (h.resolve_right (fun x => hq x.2)))
    · rename_i hw
      rw [if_neg hw] at h
      exact ⟨fun _ _ => trivial, list_in hq l h2 h⟩
/-- A region in the text's order. -/
theorem region_in {id : Nat} {l : List Oper} {a : Act} {w : World} (hq : ¬ LetsOut Q) (hd : noDefer l = true) (h : wpList P l.toArray Q l a w) : (Code.region id l.toArray false).wpIn (wideAt r) n P Q a w :=
  wpIn_region_lit (list_in hq l hd h)
theorem any_in {md : Region.Mode} {l : List Oper} (hq : ¬ LetsOut Q) (hd : noDefer l = true) : ∀ (fuel : Nat) (listed : Array Bool) (a : Act) (w : World), wpAny P md l.toArray Q fuel listed a w → wpAnyIn (wideAt r) n P md l.toArray Q fuel listed a w
  | 0, _, _, _, h => h
  | fuel + 1, listed, a, w, h => by
    refine ⟨h.1, fun i hi => ?_⟩
    have hh := h.2 i hi
    unfold wpOp at hh
    unfold wpOpIn
    cases ho : l.toArray[i]? with
    | none =>
      simp only [ho] at hh ⊢
      exact any_in hq hd fuel _ _ _ hh
    | some o =>
      simp only [ho] at hh ⊢
      split
      · rename_i hw
        rw [if_pos hw] at hh
        exact Oper.wpIn_mono (fun a' w' hk => any_in hq hd fuel _ _ _ hk) (oper_in (noDefer_at hd ho) (hh.resolve_right (fun x => hq x.2)))
      · rename_i hw
        rw [if_neg hw] at hh
        exact ⟨fun _ _ => trivial, any_in hq hd fuel _ _ _ hh⟩
/-- A region that draws its order. -/
theorem drawn_in {id : Nat} {l : List Oper} {a : Act} {w : World} (hq : ¬ LetsOut Q) (hm : P.follows .mixedOrders = true) (hd : noDefer l = true)
    (h : wpAny P .any l.toArray Q l.toArray.size (Array.replicate l.toArray.size false) a { w with drawn := w.drawn + 1 }) : (Code.region id l.toArray true).wpIn (wideAt r) n P Q a w :=
  wpIn_region_any hm (any_in hq hd _ _ _ _ h)
/-- One operation of a list, walked plainly. -/
theorem one_in {o : Oper} {rest : List Oper} {a : Act} {w : World} (hg : o.guard = none) (hd : ∀ c, o.op ≠ .defer c) (h : ∀ K : Act → World → Prop, (∀ a' w', wpListIn (wideAt r) n P ops Q rest a' w' → K a' w') → o.wp P a w K Q) : wpListIn (wideAt r) n P ops Q (o :: rest) a w :=
  wpListIn_plain hg fun K hK => oper_in hd (h K hK)
end

/-! ### What a loop over an iterator keeps -/
theorem Keep.putObj {S : Nat → Prop} (W : World) (l : Nat) (o' : Obj) (h : ¬ S l) : Keep S W (W.putObj l o') :=
  .of_grown (grownBy_putObj' W l o') (fun g e => by injection e with e; subst e; exact h)
theorem KeepsFrom.of_upd {B g : Nat} {W W' : World} (h : Upd g W W') (hg : g < B) : KeepsFrom B W W' :=
  ⟨h.size, fun k o hk h0 _ => (h.block k (Array.getElem?_eq_some_iff.1 h0).1 (fun e => by injection e with e; omega)).trans h0⟩
theorem KeepsFrom.of_keep {B : Nat} {S : Nat → Prop} {W W' : World} (h : Keep S W W') (hS : ∀ k, B ≤ k → S k) : KeepsFrom B W W' :=
  ⟨h.size, fun k o hk h0 _ => (h.block k (Array.getElem?_eq_some_iff.1 h0).1 (hS k hk)).trans h0⟩
theorem KeepsFrom.of_ext {B : Nat} {W W' : World} (h : Ext W W') : KeepsFrom B W W' :=
  ⟨h.size, fun k o hk h0 _ => (h.block k (Array.getElem?_eq_some_iff.1 h0).1).trans h0⟩
/-- A block that is cells is not the one that a loop's book-keeping turns. -/
theorem Blk.own {W W' : World} {row : Option Nat} {g : Nat} {t : TypeId} {cs : Array Value} (h : Blk W g t cs) (hg : W.grownBy W' row) (hr : ∀ r, row = some r → ∃ o : Obj, W.heap[r]? = some o ∧ o.isCells = false) : Blk W' g t cs :=
  h.grown hg (fun e => by
    obtain ⟨o, ho, hc⟩ := hr g e.symm
    have := h.symm.trans ho
    injection this with this
    subst this
    cases hc)
theorem Keep.ownFrom {B : Nat} {S : Nat → Prop} {w W W' : World} {row : Option Nat} (h : Keep S w W) (hg : W.grownBy W' row) (hr : ∀ r, row = some r → B ≤ r) (hS : ∀ k, S k → k < B) : Keep S w W' :=
  h.trans (.of_grown hg (fun g e hs => by have := hr g e; have := hS g hs; omega))

/-- What has come when k rounds are over. -/
def upto {α : Type} (f : Nat → α) (k : Nat) : List α := (List.range k).map f
theorem upto_succ {α : Type} (f : Nat → α) (k : Nat) : upto f (k + 1) = upto f k ++ [f k] := by simp [upto, List.range_succ]
theorem upto_length {α : Type} (f : Nat → α) (k : Nat) : (upto f k).length = k := by simp [upto]

/-- A row of cells loaded in a fence. -/
theorem listIn_mid {F : Fence} {n : Nat} {P : Program} {ops : Array Oper} {rest : List Oper} {o : Oper} {a : Act} {w : World} {Q : Exit → Act → World → Prop} (hg : o.guard = none) (ty : TypeId) (x : Operand) (ho : o.op = .load ty x)
    (b f : Nat) (hx : a.eval x = .pointer (some ⟨b, f, none⟩)) (cs : List Value) (d : TypeDesc) (hc : w.rangeAt b f cs) (hu : P.underlying ty = some d) (hd : d.isRow = true) (hi : (P.info? ty).map (·.size) = some cs.length)
    (h : wpListIn F n P ops Q rest (a.put o.dst (.agg cs.toArray)) w) : wpListIn F n P ops Q (o :: rest) a w := by
  refine wpListIn_plain hg fun K hK => ?_
  unfold Oper.wpIn
  refine ⟨fun f hf => by rw [Oper.about, ho] at hf; simp at hf, ?_⟩
  rw [Oper.semAt_plain F _ _ (by rw [ho]; intro c hc'; cases hc')]
  unfold execOp
  simp only [ho, hx, Instr.loadAt, Instr.sureAddr, Sem.run_bind, Sem.run_pure, Result.andThen_ok, run_loadVar_mid w b f ty cs d hc hu hd hi]
  exact hK _ _ h
theorem stopIn_load {F : Fence} {n : Nat} {P : Program} {ops : Array Oper} {Q : Exit → Act → World → Prop} {o : Oper} {rest : List Oper} {a : Act} {w : World} (ty : TypeId) (x : Operand) (ho : o.op = .load ty x) (h : Stopped (wpListIn F n P ops Q (o :: rest) a w)) : wpListIn F n P ops Q (o :: rest) a w := h.go

end Go.Proofs.YtlcimlencoaiiaaDoor

namespace Go.Proofs.YtlcimlencoaiiaaDoor
namespace Pop

theorem and_split (k a b c d : Nat) (ha : a < 2 ^ k) (hb : b < 2 ^ k) : (2 ^ k * c + a) &&& (2 ^ k * d + b) = 2 ^ k * (c &&& d) + (a &&& b) := by
  apply Nat.eq_of_testBit_eq
  intro i
  rw [Nat.testBit_and, Nat.testBit_two_pow_mul_add c ha, Nat.testBit_two_pow_mul_add d hb, Nat.testBit_two_pow_mul_add (c &&& d) (Nat.and_lt_two_pow a hb)]
  by_cases h : i < k
  · rw [if_pos h, if_pos h, if_pos h, Nat.testBit_and]
  · rw [if_neg h, if_neg h, if_neg h, Nat.testBit_and]
theorem and4 (x m : Nat) : x &&& (4 * m + 1) = x % 2 + 4 * (x / 4 &&& m) := by
  have h := and_split 2 (x % 4) 1 (x / 4) m (Nat.mod_lt _ (by decide)) (by decide)
  rw [show (2 : Nat) ^ 2 = 4 from rfl, show 4 * (x / 4) + x % 4 = x from by omega, show x % 4 &&& 1 = x % 2 from by rw [show (1 : Nat) = 2 ^ 1 - 1 from rfl, Nat.and_two_pow_sub_one_eq_mod]; omega] at h
  omega
theorem and16 (x m : Nat) : x &&& (16 * m + 3) = x % 4 + 16 * (x / 16 &&& m) := by
  have h := and_split 4 (x % 16) 3 (x / 16) m (Nat.mod_lt _ (by decide)) (by decide)
  rw [show (2 : Nat) ^ 4 = 16 from rfl, show 16 * (x / 16) + x % 16 = x from by omega, show x % 16 &&& 3 = x % 4 from by rw [show (3 : Nat) = 2 ^ 2 - 1 from rfl, Nat.and_two_pow_sub_one_eq_mod]; omega] at h
  omega
theorem and256 (x m : Nat) : x &&& (256 * m + 15) = x % 16 + 256 * (x / 256 &&& m) := by
  have h := and_split 8 (x % 256) 15 (x / 256) m (Nat.mod_lt _ (by decide)) (by decide)
  rw [show (2 : Nat) ^ 8 = 256 from rfl, show 256 * (x / 256) + x % 256 = x from by omega, show x % 256 &&& 15 = x % 16 from by rw [show (15 : Nat) = 2 ^ 4 - 1 from rfl, Nat.and_two_pow_sub_one_eq_mod]; omega] at h
  omega

def m1 : Nat → Nat
  | 0 => 0
  | j + 1 => 4 * m1 j + 1
def m2 : Nat → Nat
  | 0 => 0
  | j + 1 => 16 * m2 j + 3
def m3 : Nat → Nat
  | 0 => 0
  | j + 1 => 256 * m3 j + 15
def f1 : Nat → Nat → Nat
  | 0, _ => 0
  | j + 1, x => x % 2 + x / 2 % 2 + 4 * f1 j (x / 4)
def f2 : Nat → Nat → Nat
  | 0, _ => 0
  | j + 1, x => (x % 2 + x / 2 % 2 + x / 4 % 2 + x / 8 % 2) + 16 * f2 j (x / 16)
def b8 (x : Nat) : Nat := x % 2 + x / 2 % 2 + x / 4 % 2 + x / 8 % 2 + (x / 16 % 2 + x / 32 % 2 + x / 64 % 2 + x / 128 % 2)
def f3 : Nat → Nat → Nat
  | 0, _ => 0
  | j + 1, x => b8 x + 256 * f3 j (x / 256)
theorem step1 : ∀ (j x : Nat), (x / 2 &&& m1 j) + (x &&& m1 j) = f1 j x
  | 0, x => by simp [m1, f1]
  | j + 1, x => by
    have ih := step1 j (x / 4)
    show (x / 2 &&& (4 * m1 j + 1)) + (x &&& (4 * m1 j + 1)) = x % 2 + x / 2 % 2 + 4 * f1 j (x / 4)
    rw [and4, and4, show x / 2 / 4 = x / 4 / 2 from by omega, ← ih]
    omega
theorem f1_two (j x : Nat) : f1 (2 * (j + 1)) x = x % 2 + x / 2 % 2 + 4 * (x / 4 % 2 + x / 8 % 2) + 16 * f1 (2 * j) (x / 16) := by
  show x % 2 + x / 2 % 2 + 4 * (x / 4 % 2 + x / 4 / 2 % 2 + 4 * f1 (2 * j) (x / 4 / 4)) = _
  rw [show x / 4 / 4 = x / 16 from by omega, show x / 4 / 2 = x / 8 from by omega]
  omega
theorem step2 : ∀ (j x : Nat), (f1 (2 * j) x / 4 &&& m2 j) + (f1 (2 * j) x &&& m2 j) = f2 j x
  | 0, x => by simp [m2, f2, f1]
  | j + 1, x => by
    have ih := step2 j (x / 16)
    rw [f1_two]
    show (_ &&& (16 * m2 j + 3)) + (_ &&& (16 * m2 j + 3)) = (x % 2 + x / 2 % 2 + x / 4 % 2 + x / 8 % 2) + 16 * f2 j (x / 16)
    rw [and16, and16, ← ih]
    generalize f1 (2 * j) (x / 16) = r
    have e1 : (x % 2 + x / 2 % 2 + 4 * (x / 4 % 2 + x / 8 % 2) + 16 * r) / 4 / 16 = r / 4 := by omega
    have e2 : (x % 2 + x / 2 % 2 + 4 * (x / 4 % 2 + x / 8 % 2) + 16 * r) / 16 = r := by omega
    rw [e1, e2]
    omega
theorem f2_le : ∀ (j x : Nat), f2 j x % 16 ≤ 4
  | 0, x => by simp [f2]
  | j + 1, x => by
    show ((x % 2 + x / 2 % 2 + x / 4 % 2 + x / 8 % 2) + 16 * f2 j (x / 16)) % 16 ≤ 4
    generalize f2 j (x / 16) = r
    have h1 := Nat.mod_lt x (show 0 < 2 by decide)
    have h2 := Nat.mod_lt (x / 2) (show 0 < 2 by decide)
    have h3 := Nat.mod_lt (x / 4) (show 0 < 2 by decide)
    have h4 := Nat.mod_lt (x / 8) (show 0 < 2 by decide)
    generalize x % 2 = a at *
    generalize x / 2 % 2 = b at *
    generalize x / 4 % 2 = c at *
    generalize x / 8 % 2 = d at *
    omega
theorem f2_two (j x : Nat) : f2 (2 * (j + 1)) x = x % 2 + x / 2 % 2 + x / 4 % 2 + x / 8 % 2 + 16 * (x / 16 % 2 + x / 32 % 2 + x / 64 % 2 + x / 128 % 2) + 256 * f2 (2 * j) (x / 256) := by
  show (x % 2 + x / 2 % 2 + x / 4 % 2 + x / 8 % 2) + 16 * ((x / 16 % 2 + x / 16 / 2 % 2 + x / 16 / 4 % 2 + x / 16 / 8 % 2) + 16 * f2 (2 * j) (x / 16 / 16)) = _
  rw [show x / 16 / 16 = x / 256 from by omega, show x / 16 / 2 = x / 32 from by omega, show x / 16 / 4 = x / 64 from by omega, show x / 16 / 8 = x / 128 from by omega]
  omega
theorem step3 : ∀ (j x : Nat), (f2 (2 * j) x / 16 + f2 (2 * j) x) &&& m3 j = f3 j x
  | 0, x => by simp [m3, f3]
  | j + 1, x => by
    have ih := step3 j (x / 256)
    have hle := f2_le (2 * j) (x / 256)
    rw [f2_two]
    show _ &&& (256 * m3 j + 15) = b8 x + 256 * f3 j (x / 256)
    rw [and256, ← ih]
    unfold b8
    generalize f2 (2 * j) (x / 256) = r at *
    obtain ⟨p, hp⟩ : ∃ p, p = x % 2 + x / 2 % 2 + x / 4 % 2 + x / 8 % 2 := ⟨_, rfl⟩
    obtain ⟨q, hq⟩ : ∃ q, q = x / 16 % 2 + x / 32 % 2 + x / 64 % 2 + x / 128 % 2 := ⟨_, rfl⟩
    rw [← hp, ← hq]
    have hp4 : p ≤ 4 := by omega
    have hq4 : q ≤ 4 := by omega
    clear hp hq
    have e1 : ((p + 16 * q + 256 * r) / 16 + (p + 16 * q + 256 * r)) / 256 = r / 16 + r := by omega
    have e2 : ((p + 16 * q + 256 * r) / 16 + (p + 16 * q + 256 * r)) % 16 = p + q := by omega
    rw [e1, e2]
theorem b8_le (x : Nat) : b8 x ≤ 8 := by unfold b8; omega
theorem ones8 (x : Nat) : Tree.ones x = b8 x + Tree.ones (x / 256) := by
  have h : ∀ y : Nat, Tree.ones y = y % 2 + Tree.ones (y / 2) := fun y => by
    rcases Nat.eq_zero_or_pos y with rfl | hy
    · rfl
    · exact Tree.ones_step y hy
  have e : Tree.ones x = x % 2 + (x / 2 % 2 + (x / 2 / 2 % 2 + (x / 2 / 2 / 2 % 2 + (x / 2 / 2 / 2 / 2 % 2 + (x / 2 / 2 / 2 / 2 / 2 % 2 + (x / 2 / 2 / 2 / 2 / 2 / 2 % 2 + (x / 2 / 2 / 2 / 2 / 2 / 2 / 2 % 2 + Tree.ones (x / 2 / 2 / 2 / 2 / 2 / 2 / 2 / 2)))))))) := by
    rw [← h, ← h, ← h, ← h, ← h, ← h, ← h, ← h]
  unfold b8
  rw [e]
  simp only [Nat.div_div_eq_div_mul, Nat.reduceMul]
  omega
theorem m1_32 : m1 32 = 6148914691236517205 := by decide
theorem m2_16 : m2 16 = 3689348814741910323 := by decide
theorem m3_8 : m3 8 = 1085102592571150095 := by decide
theorem f3_8 (x : Nat) : f3 8 x = b8 x + 256 * (b8 (x / 256) + 256 * (b8 (x / 256 / 256) + 256 * (b8 (x / 256 / 256 / 256) + 256 * (b8 (x / 256 / 256 / 256 / 256) + 256 * (b8 (x / 256 / 256 / 256 / 256 / 256) + 256 * (b8 (x / 256 / 256 / 256 / 256 / 256 / 256) + 256 * b8 (x / 256 / 256 / 256 / 256 / 256 / 256 / 256))))))) := by
  simp only [f3, Nat.mul_zero, Nat.add_zero]
theorem ones_lt {x : Nat} (h : x < 18446744073709551616) : Tree.ones x = b8 x + (b8 (x / 256) + (b8 (x / 256 / 256) + (b8 (x / 256 / 256 / 256) + (b8 (x / 256 / 256 / 256 / 256) + (b8 (x / 256 / 256 / 256 / 256 / 256) + (b8 (x / 256 / 256 / 256 / 256 / 256 / 256) + b8 (x / 256 / 256 / 256 / 256 / 256 / 256 / 256))))))) := by
  rw [ones8 x, ones8 (x / 256), ones8 (x / 256 / 256), ones8 (x / 256 / 256 / 256), ones8 (x / 256 / 256 / 256 / 256), ones8 (x / 256 / 256 / 256 / 256 / 256), ones8 (x / 256 / 256 / 256 / 256 / 256 / 256), ones8 (x / 256 / 256 / 256 / 256 / 256 / 256 / 256)]
  rw [show x / 256 / 256 / 256 / 256 / 256 / 256 / 256 / 256 = 0 from by omega]
  rfl
/-- The bytes' sum. -/
theorem last_sum (c0 c1 c2 c3 c4 c5 c6 c7 y z u v : Nat) (h0 : c0 ≤ 8) (h1 : c1 ≤ 8) (h2 : c2 ≤ 8) (h3 : c3 ≤ 8) (h4 : c4 ≤ 8) (h5 : c5 ≤ 8) (h6 : c6 ≤ 8) (h7 : c7 ≤ 8)
    (hy : y = c0 + 256 * (c1 + 256 * (c2 + 256 * (c3 + 256 * (c4 + 256 * (c5 + 256 * (c6 + 256 * c7)))))))
    (hz : z = y + y / 256) (hu : u = z + z / 65536) (hv : v = u + u / 4294967296) : v % 128 = c0 + (c1 + (c2 + (c3 + (c4 + (c5 + (c6 + c7)))))) ∧ v < 9223372036854775808 := by
  have e1 : y / 256 = c1 + 256 * (c2 + 256 * (c3 + 256 * (c4 + 256 * (c5 + 256 * (c6 + 256 * c7))))) := by omega
  rw [e1, hy] at hz
  clear e1 hy
  obtain ⟨A, hA⟩ : ∃ A, A = (c0 + c1) + 256 * (c1 + c2) := ⟨_, rfl⟩
  obtain ⟨B, hB⟩ : ∃ B, B = (c2 + c3) + 256 * ((c3 + c4) + 256 * ((c4 + c5) + 256 * ((c5 + c6) + 256 * ((c6 + c7) + 256 * c7)))) := ⟨_, rfl⟩
  have hzA : z = A + 65536 * B := by omega
  have hA2 : A < 65536 := by omega
  have e2 : z / 65536 = B := by omega
  rw [e2] at hu
  clear e2 hz
  obtain ⟨C, hC⟩ : ∃ C, C = (c0 + c1 + c2 + c3) + 256 * ((c1 + c2 + c3 + c4) + 256 * ((c2 + c3 + c4 + c5) + 256 * (c3 + c4 + c5 + c6))) := ⟨_, rfl⟩
  obtain ⟨D, hD⟩ : ∃ D, D = (c4 + c5 + c6 + c7) + 256 * ((c5 + c6 + c7) + 256 * ((c6 + c7) + 256 * c7)) := ⟨_, rfl⟩
  have huC : u = C + 4294967296 * D := by omega
  have hC2 : C < 4294967296 := by omega
  have e3 : u / 4294967296 = D := by omega
  rw [e3] at hv
  clear e3 hu hzA hA hB hA2
  obtain ⟨E, hE⟩ : ∃ E, E = (c1 + c2 + c3 + c4 + (c5 + c6 + c7)) + 256 * ((c2 + c3 + c4 + c5 + (c6 + c7)) + 256 * (c3 + c4 + c5 + c6 + c7)) + 16777216 * D := ⟨_, rfl⟩
  have hvE : v = (c0 + (c1 + (c2 + (c3 + (c4 + (c5 + (c6 + c7))))))) + 256 * E := by omega
  have hD2 : D < 268435456 := by omega
  have hE2 : E < 9007199254740992 := by omega
  clear hC hD huC hC2 hE
  generalize hs : c0 + (c1 + (c2 + (c3 + (c4 + (c5 + (c6 + c7)))))) = s at *
  have hs2 : s ≤ 64 := by omega
  refine ⟨by omega, ?_⟩
  omega
/-- All steps. -/
theorem pop (x : Nat) (hx : x < 18446744073709551616) :
    ∃ x1 x2 x3 x4 x5 x6 : Nat, (x / 2 &&& 6148914691236517205) + (x &&& 6148914691236517205) = x1 ∧ (x1 / 4 &&& 3689348814741910323) + (x1 &&& 3689348814741910323) = x2 ∧
      (x2 / 16 + x2) &&& 1085102592571150095 = x3 ∧ x3 + x3 / 256 = x4 ∧ x4 + x4 / 65536 = x5 ∧ x5 + x5 / 4294967296 = x6 ∧ x6 % 128 = Tree.ones x ∧ x6 < 9223372036854775808 := by
  have e1 := step1 32 x
  have e2 := step2 16 x
  have e3 := step3 8 x
  rw [m1_32] at e1
  rw [m2_16] at e2
  rw [m3_8] at e3
  refine ⟨_, _, _, _, _, _, e1, e2, e3, rfl, rfl, rfl, ?_⟩
  rw [ones_lt hx, f3_8]
  exact last_sum _ _ _ _ _ _ _ _ _ _ _ _ (b8_le _) (b8_le _) (b8_le _) (b8_le _) (b8_le _) (b8_le _) (b8_le _) (b8_le _) rfl rfl rfl rfl

end Pop
end Go.Proofs.YtlcimlencoaiiaaDoor

namespace Go.Proofs.YtlcimlencoaiiaaDoor
open Go.RowKit

theorem nat_top {n : Nat} (h : n < 9223372036854775808) : (n : Int) ≤ 9223372036854775807 := by omega
theorem wrap64_is {n : Int} (h : 0 ≤ n ∧ n ≤ 9223372036854775807) : wrap64 n = n := by
  obtain ⟨h0, h1⟩ := h
  unfold wrap64; omega
set_option maxHeartbeats 1000000 in
theorem OnesCount64_calls (n : Nat) (hn : n < 18446744073709551616) (w : World) :
    Calls Tryd.prog 106 #[.int .u64 (n : Int)] w fun e w' => e = .returned (.int .i64 (Tree.ones n : Int)) ∧ w = w' := by
  obtain ⟨x1, x2, x3, x4, x5, x6, e1, e2, e3, e4, e5, e6, e7, e8⟩ := Pop.pop n hn
  have l1 : n / 2 &&& 6148914691236517205 ≤ 6148914691236517205 := Nat.and_le_right
  have l2 : n &&& 6148914691236517205 ≤ 6148914691236517205 := Nat.and_le_right
  have l3 : x1 / 4 &&& 3689348814741910323 ≤ 3689348814741910323 := Nat.and_le_right
  have l4 : x1 &&& 3689348814741910323 ≤ 3689348814741910323 := Nat.and_le_right
  have a1 : bits .and .u64 ((n : Int) / 2) 6148914691236517205 = ((n / 2 &&& 6148914691236517205 : Nat) : Int) := by have := u64_and_nat (n / 2) 6148914691236517205 (by omega) (by decide); simpa using this
  have a2 : bits .and .u64 (n : Int) 6148914691236517205 = ((n &&& 6148914691236517205 : Nat) : Int) := by have := u64_and_nat n 6148914691236517205 (by omega) (by decide); simpa using this
  have a3 : bits .and .u64 ((x1 : Int) / 4) 3689348814741910323 = ((x1 / 4 &&& 3689348814741910323 : Nat) : Int) := by have := u64_and_nat (x1 / 4) 3689348814741910323 (by omega) (by decide); simpa using this
  have a4 : bits .and .u64 (x1 : Int) 3689348814741910323 = ((x1 &&& 3689348814741910323 : Nat) : Int) := by have := u64_and_nat x1 3689348814741910323 (by omega) (by decide); simpa using this
  obtain ⟨s, hs⟩ : ∃ s, s = x2 / 16 + x2 := ⟨_, rfl⟩
  rw [← hs] at e3
  have a5 : bits .and .u64 (s : Int) 1085102592571150095 = (x3 : Int) := by have := u64_and_nat s 1085102592571150095 (by omega) (by decide); rw [e3] at this; simpa using this
  have a6 : bits .and .i64 (x6 : Int) 127 = (Tree.ones n : Int) := by rw [i64_and127]; omega
  generalize n / 2 &&& 6148914691236517205 = p1 at *
  generalize n &&& 6148914691236517205 = p2 at *
  generalize x1 / 4 &&& 3689348814741910323 = p3 at *
  generalize x1 &&& 3689348814741910323 = p4 at *
  have w1 : IntKind.u64.wrap ((p1 : Int) + (p2 : Int)) = (x1 : Int) := u64_eq (by omega) (by omega) (by omega)
  have w2 : IntKind.u64.wrap ((p3 : Int) + (p4 : Int)) = (x2 : Int) := u64_eq (by omega) (by omega) (by omega)
  have w3 : IntKind.u64.wrap ((x2 : Int) / 16 + (x2 : Int)) = (s : Int) := u64_eq (by omega) (by omega) (by omega)
  have w4 : IntKind.u64.wrap ((x3 : Int) + (x3 : Int) / 256) = (x4 : Int) := u64_eq (by omega) (by omega) (by omega)
  have w5 : IntKind.u64.wrap ((x4 : Int) + (x4 : Int) / 65536) = (x5 : Int) := u64_eq (by omega) (by omega) (by omega)
  have w6 : IntKind.u64.wrap ((x5 : Int) + (x5 : Int) / 4294967296) = (x6 : Int) := u64_eq (by omega) (by omega) (by omega)
  have w7 : wrap64 (x6 : Int) = (x6 : Int) := wrap64_is ⟨Int.natCast_nonneg _, nat_top e8⟩
  have h6 : (x6 : Int) ≤ 9223372036854775807 := nat_top e8
  clear e1 e2 e3 e4 e5 e6 e7 e8 l1 l2 l3 l4 hs
  go_enter Tryd.func106, Tryd.ntmps106
  go_wp2_with fail
  go_ret
  exact ⟨rfl, rfl⟩
theorem OnesCount_calls (n : Nat) (hn : n < 18446744073709551616) (w : World) :
    Calls Tryd.prog 83 #[.int .u64 (n : Int)] w fun e w' => e = .returned (.int .i64 (Tree.ones n : Int)) ∧ w = w' := by
  go_enter Tryd.func83, Tryd.ntmps83
  go_wp2_with fail
  refine (OnesCount64_calls n hn _).mono ?_; rintro e w1 ⟨rfl, rfl⟩
  go_wp2_with fail
  go_ret
  exact ⟨rfl, rfl⟩
end Go.Proofs.YtlcimlencoaiiaaDoor

namespace Go.Proofs.YtlcimlencoaiiaaDoor
open Go.RowKit
attribute [local go_sem] Oper.semAt_some

/-- A hash. -/
structure Hs where
  s : List UInt8
  len : s.length = 32
def hsZero : Hs := ⟨List.replicate 32 0, by decide⟩
def hsAt (ls : List (List UInt8)) (j : Nat) : Hs := if h : (ls[j]?.getD []).length = 32 then ⟨ls[j]?.getD [], h⟩ else hsZero
theorem hsAt_get {ls : List (List UInt8)} (hl : AllH ls) {j : Nat} (hj : j < ls.length) : (hsAt ls j).s = ls[j] := by
  unfold hsAt
  rw [dif_pos (by rw [List.getElem?_eq_getElem hj]; exact hl.get j hj)]
  simp [List.getElem?_eq_getElem hj]
def backF (ls : List (List UInt8)) (k : Nat) : Nat × Hs := (ls.length - 1 - k, hsAt ls (ls.length - 1 - k))
theorem upto_back {ls : List (List UInt8)} (hl : AllH ls) : (upto (backF ls) ls.length).map (fun x => x.2.s) = ls.reverse := by
  apply List.ext_getElem
  · simp [upto]
  · intro i h1 h2
    have hi : i < ls.length := by simpa using h2
    simp only [upto, List.map_map, List.getElem_map, List.getElem_range, Function.comp, backF]
    rw [hsAt_get hl (by omega), List.getElem_reverse]
abbrev backV (x : Nat × Hs) : Array Value := #[.int .i64 (x.1 : Int), sumV x.2.s]

set_option maxHeartbeats 2000000 in
theorem back_in (n : Nat) (hn : 1 ≤ n) (l Bs : Nat) (A : Option Addr) (cap : Nat) (ls : List (List UInt8)) (hl : AllH ls) (hn63 : ls.length ≤ 9223372036854775807) (S : Nat → Prop) (J Jx : List (Nat × Hs) → World → Prop)
    (hY : ∀ pre x W, J pre W → pre.length < ls.length → YieldAt Fence.wide (n - 1) Tryd.prog l (backV x) W fun e W' =>
      (e = .returned (.bool true) ∧ J (pre ++ [x]) W' ∧ Keep S W W') ∨ (e = .returned (.bool false) ∧ Jx (pre ++ [x]) W'))
    (W : World) (hBs : Blk W Bs 29 #[.slice A ls.length cap]) (hS : S Bs) (hr : Rd W W.heap.size A (flatS ls)) (hA : ∀ b off, A = some ⟨b, off, none⟩ → S b) (h0 : J [] W) :
    CallsIn Fence.wide n Tryd.prog 103 #[.func (.yield l) #[] #[], .pointer (some ⟨Bs, 0, none⟩)] W fun e W' => (∃ v, e = .returned v) ∧
      ((∃ ys, ys = upto (backF ls) ls.length ∧ J ys W') ∨ (∃ pre, True ∧ Jx pre W')) := by
  have hBs0 : W.cell? ⟨Bs, 0, none⟩ = some (.slice A ls.length cap) := Blk.cell hBs 0
  refine callsIn_of_wp Tryd.func103 rfl trivial ?_ rfl
  simp only [Tryd.ntmps103, List.size_toArray, List.length_cons, List.length_nil, Nat.reduceAdd, Nat.reduceSub, Array.replicate_succ, Array.replicate_zero, List.push_toArray, List.append_toArray, List.nil_append, List.cons_append]
  gi_wp2
  gi_loopw [3] (fun i wr => ∃ k : Nat, k ≤ ls.length ∧ i = .int .i64 ((ls.length : Int) - 1 - k) ∧ J (upto (backF ls) k) wr ∧ Keep S W wr)
    (fun i _ => (intOf i + 1).toNat)
  case atStart => exact ⟨0, Nat.zero_le _, by simp, h0, Keep.refl _ _⟩
  case round =>
    obtain ⟨k, hk, rfl, hJs, hnx⟩ := hrel
    obtain ⟨wo, rfl⟩ : ∃ wo : World, wo = wr := ⟨_, rfl⟩
    by_cases hlt : k < ls.length
    · have hpos : (0 : Int) ≤ (ls.length : Int) - 1 - (k : Int) := by omega
      obtain ⟨j, hj⟩ : ∃ j : Nat, j = ls.length - 1 - k := ⟨_, rfl⟩
      have hjI : (ls.length : Int) - 1 - (k : Int) = (j : Int) := by omega
      have hjl : j < ls.length := by omega
      have hB1 := hBs.kept hnx hS
      have hBo : wo.cell? ⟨Bs, 0, none⟩ = some (.slice A ls.length cap) := Blk.cell hB1 0
      obtain ⟨b, off, rfl, hbl, hm⟩ := rds_mid hr hl hjl
      have hmo : wo.rangeAt b (off + j * 32) (hcells ls[j]) := fun i v hv => (World.cell?_of_block (hnx.block b hbl (hA b off rfl))).trans (hm i v hv)
      obtain ⟨fn, tmps, assign, body, hy, hR⟩ := hY _ (backF ls k) wo hJs (by rw [upto_length]; exact hlt)
      have hbf : backF ls k = (j, hsAt ls j) := by unfold backF; rw [hj]
      rw [hbf] at hy hR
      simp only [backV] at hy
      have hsj := hsAt_get hl hjl
      have hq := hl.get j hjl
      have Hj := Lib.hid hjI
      have Hbf := Lib.hid hbf
      rw [hjI]
      rw [hjI] at hpos
      clear hbf hm hj hjI
      rw [hsj] at hy
      unfold sumV at hy
      generalize ls[j] = q at *
      gi_wp2_with (refine stopIn_load 23 (.tmp 15) rfl ?_)
      refine ⟨?_⟩
      refine listIn_mid rfl 23 (.tmp 15) rfl b (off + j * 32) (by rfl) (hcells q) _ hmo Tryd.underlying23 rfl (size32l _ hq) ?_
      simp only [Act.put, List.setIfInBounds_toArray, List.set_cons_zero, List.set_cons_succ]
      unfold hcells
      gi_wp2
      refine hR.mono ?_
      rintro e W3 (⟨rfl, hJ3, hk3⟩ | ⟨rfl, hJx3⟩)
      · clear hmo hBo hBs0
        gi_wp2
        go_roundw
        case rel => exact ⟨k + 1, by omega, by have := Hj.out; congr 1; omega, by rw [upto_succ, Hbf.out]; exact hJ3, hnx.trans hk3⟩
        case measure => simp [intOf]
      · gi_wp2
        refine bodyPost_ret (results_none rfl _ _ _) rfl ?_
        exact ⟨⟨_, rfl⟩, .inr ⟨_, trivial, hJx3⟩⟩
    · obtain rfl : k = ls.length := by omega
      have hneg : ¬ (0 : Int) ≤ (ls.length : Int) - 1 - (ls.length : Int) := by omega
      gi_wp2
      go_end0
      exact ⟨⟨_, rfl⟩, .inl hJs⟩

theorem back_stops (n : Nat) (hn : 1 ≤ n) (Bs : Nat) (A : Option Addr) (cap : Nat) (ls : List (List UInt8)) (hl : AllH ls) (hn63 : ls.length ≤ 9223372036854775807) (S : Nat → Prop) (w : World)
    (hBs : Blk w Bs 29 #[.slice A ls.length cap]) (hS : S Bs) (hr : Rd w w.heap.size A (flatS ls)) (hA : ∀ b off, A = some ⟨b, off, none⟩ → S b) :
    SeqStopsK Fence.wide n Tryd.prog 103 #[.pointer (some ⟨Bs, 0, none⟩)] backV (Keep S) (fun ys => ys = upto (backF ls) ls.length) (fun _ => True) ls.length w := fun l J Jx W hW _ _ hY h0 =>
  back_in n hn l Bs A cap ls hl hn63 S J Jx hY W (hBs.below hW hBs.lt) hS ((hr.below hW (Nat.le_refl _)).more hW.size) hA h0

theorem Backward_calls (A : Option Addr) (len cap : Nat) (w : World) :
    Calls Tryd.prog 78 #[.slice A len cap] w fun e w' => e = .returned (.func (.func 103) #[] #[.pointer (some ⟨w.heap.size, 0, none⟩)]) ∧ w' = w.alloc (.cells #[.slice A len cap] 29) := by
  go_enter Tryd.func78, Tryd.ntmps78
  go_wp2_with fail
  go_ret
  exact ⟨rfl, rfl⟩

end Go.Proofs.YtlcimlencoaiiaaDoor

namespace Go.Proofs.YtlcimlencoaiiaaDoor.Oct

theorem be_val : ∀ (m : Nat) (l : List UInt8), l.length = m → be m (val l) = l
  | 0, l, h => by rw [List.eq_nil_of_length_eq_zero h]; rfl
  | m + 1, l, h => by
    rcases List.eq_nil_or_concat l with rfl | ⟨r, c, rfl⟩
    · simp at h
    · rw [List.concat_eq_append] at h ⊢
      have ih := be_val m r (by simpa using h)
      have hc := c.toNat_lt
      rw [val_snoc, be, show (val r * 256 + c.toNat) / 256 = val r from by omega, ih]
      congr 2
      apply UInt8.toNat_inj.1
      rw [UInt8.toNat_ofNat']
      omega
theorem need_val (l : List UInt8) (h8 : l.length ≤ 8) (hh : 0 < l.length → l.head? ≠ some 0) : need (val l) = l.length := by
  have hlt := val_lt l
  have hp := pow_le8 l.length h8
  obtain ⟨a, b⟩ := need_spec (val l) (by omega)
  have hge : 0 < l.length → 256 ^ (l.length - 1) ≤ val l := fun h0 => by
    match l, h0, hh with
    | c :: r, _, hh =>
      have hc : c ≠ 0 := fun e => hh (by simp) (by simp [e])
      have hc' : 0 < c.toNat := Nat.pos_of_ne_zero (fun e => hc (UInt8.toNat_inj.1 (by simpa using e)))
      have h1 := val_append [c] r
      have h2 : val [c] = c.toNat := by simp [val]
      rw [List.singleton_append, h2] at h1
      rw [h1]
      simp only [List.length_cons, Nat.add_sub_cancel]
      exact Nat.le_trans (Nat.le_mul_of_pos_left _ hc') (Nat.le_add_right _ _)
  rcases Nat.lt_trichotomy (need (val l)) l.length with h | h | h
  · have h1 := hge (by omega)
    have h2 := Nat.pow_le_pow_right (n := 256) (by omega) (show need (val l) ≤ l.length - 1 by omega)
    omega
  · exact h
  · have h1 := b (by omega)
    have h2 := Nat.pow_le_pow_right (n := 256) (by omega) (show l.length ≤ need (val l) - 1 by omega)
    omega
theorem long_back (x : Sc) (h : x.long.2.spoil = false) : x.left = put x.long.1 ++ x.long.2.left := by
  unfold Sc.long at h ⊢
  cases hs : x.spoil
  · simp only [hs, Bool.false_eq_true, if_false] at h ⊢
    rcases hl : x.left with _ | ⟨c, r⟩
    · rw [hl] at h; simp [Sc.bad] at h
    · rw [hl] at h
      simp only at h ⊢
      by_cases h1 : 8 < c.toNat ∨ r.length < c.toNat
      · rw [if_pos h1] at h; simp at h
      · rw [if_neg h1] at h ⊢
        by_cases h2 : 0 < c.toNat ∧ r.head? = some 0
        · rw [if_pos h2] at h; simp at h
        · rw [if_neg h2]
          have hlen : (r.take c.toNat).length = c.toNat := by rw [List.length_take]; omega
          have hn := need_val (r.take c.toNat) (by omega) (fun h0 => by
            rw [List.head?_take]
            rw [if_neg (by omega)]
            exact fun e => h2 ⟨by omega, e⟩)
          show c :: r = put (val (r.take c.toNat)) ++ r.drop c.toNat
          unfold put
          rw [hn, hlen, be_val c.toNat _ hlen]
          simp
  · simp [hs] at h
theorem num_back (x : Sc) (most : Int) (h : (x.num most).2.spoil = false) : x.left = put (x.num most).1.toNat ++ (x.num most).2.left ∧ (x.num most).1 < 18446744073709551616 := by
  unfold Sc.num at h ⊢
  by_cases h1 : most < 0 ∨ most < (x.long.1 : Int)
  · rw [if_pos h1] at h; simp [Sc.bad] at h
  · rw [if_neg h1] at h ⊢
    have := long_lt x
    exact ⟨by simpa using long_back x h, by simp only; omega⟩
theorem take_back (x : Sc) (n : Int) (h : (x.take n).2.2.spoil = false) (hn : 0 ≤ n) : x.left = (x.take n).1 ++ (x.take n).2.2.left ∧ (x.take n).1.length = n.toNat := by
  unfold Sc.take at h ⊢
  cases hs : x.spoil
  · simp only [hs, Bool.false_eq_true, if_false] at h ⊢
    by_cases h1 : n < 0 ∨ (x.left.length : Int) < n
    · rw [if_pos h1] at h; simp [Sc.bad] at h
    · rw [if_neg h1]
      simp only [List.take_append_drop, true_and]
      rw [List.length_take]
      omega
  · simp [hs] at h
theorem text_back (x : Sc) (most : Int) (h : (x.text most).2.spoil = false) : x.left = text (x.text most).1 ++ (x.text most).2.left := by
  unfold Sc.text at h ⊢
  cases hs : (x.num most).2.spoil
  · simp only [hs, Bool.false_eq_true, if_false] at h ⊢
    have h1 := (num_back x most hs).1
    obtain ⟨h2, h3⟩ := take_back (x.num most).2 (x.num most).1 h (num_nonneg x most)
    unfold text
    rw [h3, List.append_assoc, ← h2]
    exact h1
  · simp [hs] at h
theorem texts_back : ∀ (n : Nat) (x : Sc), (x.texts n).2.spoil = false → x.left = (x.texts n).1.flatMap text ++ (x.texts n).2.left ∧ (x.texts n).1.length = n
  | 0, x, h => by simp [Sc.texts]
  | n + 1, x, h => by
    cases hs : (x.text 16777216).2.spoil
    · rw [texts_go n x hs] at h ⊢
      obtain ⟨h1, h2⟩ := texts_back n (x.text 16777216).2 h
      refine ⟨?_, by simp [h2]⟩
      simp only [List.flatMap_cons, List.append_assoc]
      rw [← h1]
      exact text_back x 16777216 hs
    · rw [texts_stop n x hs] at h
      rw [hs] at h
      cases h
theorem list_back (x : Sc) (most : Int) (h : (x.list most).2.spoil = false) : x.left = list (x.list most).1 ++ (x.list most).2.left := by
  unfold Sc.list at h ⊢
  cases hs : ((x.num most).2.texts (x.num most).1.toNat).2.spoil
  · simp only [hs, Bool.false_eq_true, if_false] at h ⊢
    obtain ⟨h1, h2⟩ := texts_back _ _ hs
    have h3 : (x.num most).2.spoil = false := by
      rcases hz : (x.num most).1.toNat with _ | k
      · rw [hz] at hs; exact hs
      · rw [hz] at hs
        cases hb : ((x.num most).2.text 16777216).2.spoil
        · exact (text_sound _ _ hb).1
        · rw [texts_stop k _ hb, hb] at hs; cases hs
    have h4 := (num_back x most h3).1
    unfold list
    rw [h2, List.append_assoc, ← h1]
    exact h4
  · simp only [hs, if_true] at h
    cases h
/-- The end: nothing is left, and nothing was spoilt. -/
theorem end_ok (x : Sc) (h : x.endE = 0) : x.spoil = false ∧ x.left = [] := by
  unfold Sc.endE at h
  by_cases h1 : x.spoil = true ∨ x.left ≠ []
  · rw [if_pos h1] at h; cases h
  · cases hs : x.spoil
    · exact ⟨rfl, Classical.not_not.1 fun h2 => h1 (.inr h2)⟩
    · exact absurd (.inl hs) h1
theorem end_nil : (⟨[], false⟩ : Sc).endE = 0 := rfl

end Go.Proofs.YtlcimlencoaiiaaDoor.Oct

namespace Go.Proofs.YtlcimlencoaiiaaDoor
open Go.ChangeShapes Go.WideShapes Go.ChangeAt Go.RowKit
attribute [local go_sem] bs_size bs_toList2 bs_append bs_extract_end bs_extract_begin bs_get wrap64_b grow_cell grow_frozen

/-- A row of the calls' own, nil where it is empty. -/
def OwnN (w : World) (base : Nat) (v : Value) (l : List (List UInt8)) : Prop := w.ownsRow base 23 32 v l.length (flatS l) ∧ (l = [] → v = .slice none 0 0)
theorem OwnN.owns {w : World} {base : Nat} {v : Value} {l : List (List UInt8)} (h : OwnN w base v l) : OwnS w base v l := OwnS.of_own h.1
theorem OwnN.ext {w w' : World} {base : Nat} {v : Value} {l : List (List UInt8)} (h : OwnN w base v l) (e : Ext w w') : OwnN w' base v l := ⟨owns_ext h.1 e, h.2⟩
theorem OwnN.nil (w : World) (base : Nat) : OwnN w base (.slice none 0 0) [] := ⟨World.ownsRow_nil _ _ _ _, fun _ => rfl⟩
theorem OwnN.of {w : World} {base : Nat} {v : Value} {l : List (List UInt8)} (h : OwnS w base v l) (hl : l ≠ []) : OwnN w base v l := ⟨h.own hl, fun e => absurd e hl⟩
theorem OwnN.keep {S : Nat → Prop} {w w' : World} {base : Nat} {v : Value} {l : List (List UInt8)} (h : OwnN w base v l) (hb : Keep S w w') (hS : l ≠ [] → S (blockOf_ v)) : OwnN w' base v l := by
  by_cases hl : l = []
  · rw [h.2 hl, hl]; exact OwnN.nil _ _
  · exact OwnN.of (h.owns.keep hb hS) hl
theorem OwnN.less {w : World} {base base' : Nat} {v : Value} {l : List (List UInt8)} (h : OwnN w base v l) (hb : base' ≤ base) : OwnN w base' v l := by
  by_cases hl : l = []
  · rw [h.2 hl, hl]; exact OwnN.nil _ _
  · exact OwnN.of (h.owns.less hb) hl
/-- The row's block is of another kind than one that holds something else. -/
theorem OwnN.ne {w : World} {base g : Nat} {v : Value} {l : List (List UInt8)} {t : TypeId} {cs : Array Value} (h : OwnN w base v l) (hg : Blk w g t cs) (ht : 23 ≠ t) (hl : l ≠ []) : blockOf_ v ≠ g := fun hk => by
  rcases h.1.2 with ⟨_, h0⟩ | ⟨b, cap, cur, hv, _, hh, _⟩
  · exact hl (List.eq_nil_of_length_eq_zero h0)
  · rw [hv] at hk
    have hbk : b = g := hk
    subst hbk
    have : some (Obj.cells cur 23 (0, 0)) = some (Obj.cells cs t (0, 0)) := hh.symm.trans hg
    injection this with this
    injection this with _ this _
    exact ht this

/-- A front of n leaves with these peaks lies at block g. -/
def FrAt (w : World) (g : Nat) (n : Int) (pk : List (List UInt8)) : Prop := ∃ v, Blk w g 65 #[.int .i64 n, v] ∧ OwnN w 0 v pk
theorem FrAt.ext {w w' : World} {g : Nat} {n : Int} {pk : List (List UInt8)} (h : FrAt w g n pk) (e : Ext w w') : FrAt w' g n pk := by
  obtain ⟨v, h1, h2⟩ := h
  exact ⟨v, h1.below e h1.lt, h2.ext e⟩
theorem FrAt.lt {w : World} {g : Nat} {n : Int} {pk : List (List UInt8)} (h : FrAt w g n pk) : g < w.heap.size := by
  obtain ⟨v, h1, _⟩ := h
  exact h1.lt
/-- A front at another block is not touched. -/
theorem FrAt.upd {w w' : World} {g k : Nat} {n m : Int} {pk qk : List (List UInt8)} (h : FrAt w g n pk) (h' : FrAt w k m qk) (hg : g ≠ k) (e : Upd k w w') : FrAt w' g n pk := by
  obtain ⟨v, h1, h2⟩ := h
  obtain ⟨u, h3, _⟩ := h'
  have hkp : Keep (fun i => i ≠ k) w w' := .of_upd e (fun h => h rfl)
  exact ⟨v, h1.kept hkp hg, h2.keep hkp fun hne => h2.ne h3 (by decide) hne⟩

theorem few11_calls (v : Value) (l : List (List UInt8)) (hl : AllH l) (w : World) (h : SlS w w.heap.size v l) :
    Calls Tryd.prog 44 #[v] w fun e w' => ∃ v', e = .returned v' ∧ SlS w w.heap.size v' (l.take 20) ∧ w = w' := by
  have h0 := h
  obtain ⟨A, cap, rfl, hA0, hc, hc63, hr⟩ := h
  by_cases hlt : 20 < l.length
  · have hI : (20 : Int) < (l.length : Int) := by omega
    rcases hA0 with ⟨_, hl1, _⟩ | ⟨b, off, rfl⟩
    · rw [hl1] at hlt; simp at hlt
    have hcI : (20 : Int) ≤ (cap : Int) := by omega
    have hcn : 20 ≤ cap := by omega
    go_enter Tryd.func44, Tryd.ntmps44
    go_wp2_with fail
    go_ret
    exact ⟨_, rfl, sls_take hl hc hc63 hr 20 (by omega), rfl⟩
  · have hI : ¬ (20 : Int) < (l.length : Int) := by omega
    go_enter Tryd.func44, Tryd.ntmps44
    go_wp2_with fail
    go_ret
    exact ⟨_, rfl, by rw [List.take_of_length_le (by omega)]; exact h0, rfl⟩

theorem cloneNil_calls (w : World) : Calls Tryd.prog 61 #[.slice none 0 0] w fun e w' => e = .returned (.slice none 0 0) ∧ w = w' := by
  have hnil := sums_nil
  go_enter Tryd.func61, Tryd.ntmps61
  go_wp2_with fail
  go_ret
  exact ⟨rfl, rfl⟩
theorem CloneN_calls (v : Value) (l : List (List UInt8)) (hl : AllH l) (hn : l.length ≤ 1000000) (w : World) (h : OwnN w 0 v l) :
    Calls Tryd.prog 61 #[v] w fun e w' => ∃ v', e = .returned v' ∧ OwnN w' w.heap.size v' l ∧ Ext w w' := by
  by_cases h0 : l = []
  · rw [h.2 h0, h0]
    refine (cloneNil_calls w).mono ?_
    rintro e w' ⟨rfl, rfl⟩
    exact ⟨_, rfl, OwnN.nil _ _, Ext.refl _⟩
  · refine (Clone_calls v l hl hn w h.owns.sl).mono ?_
    rintro e w' ⟨v', rfl, hO, e1⟩
    exact ⟨v', rfl, OwnN.of hO h0, e1⟩

theorem frNew_calls (w : World) : Calls Tryd.prog 45 #[] w fun e w' => e = .returned (.pointer (some ⟨w.heap.size, 0, none⟩)) ∧ FrAt w' w.heap.size 0 [] ∧ Ext w w' := by
  go_enter Tryd.func45, Tryd.ntmps45
  go_wp2_with fail
  go_ret
  exact ⟨rfl, ⟨_, Blk.new w _ _, OwnN.nil _ _⟩, (Ext.refl w).alloc _⟩

theorem frSize_calls (g : Nat) (n : Int) (pk : List (List UInt8)) (w : World) (h : FrAt w g n pk) : Calls Tryd.prog 48 #[.pointer (some ⟨g, 0, none⟩)] w fun e w' => e = .returned (.int .i64 n) ∧ w = w' := by
  obtain ⟨v, h1, h2⟩ := h
  have c0 : w.cell? ⟨g, 0, none⟩ = some (.int .i64 n) := Blk.cell h1 0
  go_enter Tryd.func48, Tryd.ntmps48
  go_wp2_with fail
  go_ret
  exact ⟨rfl, rfl⟩

theorem frPeaks_calls (g : Nat) (n : Int) (pk : List (List UInt8)) (hp : AllH pk) (hn : pk.length ≤ 1000000) (w : World) (h : FrAt w g n pk) :
    Calls Tryd.prog 47 #[.pointer (some ⟨g, 0, none⟩)] w fun e w' => ∃ v', e = .returned v' ∧ OwnN w' w.heap.size v' pk ∧ Ext w w' := by
  obtain ⟨v, h1, h2⟩ := h
  have c1 : w.cell? ⟨g, 1, none⟩ = some v := Blk.cell h1 1
  go_enter Tryd.func47, Tryd.ntmps47
  go_wp2_with fail
  refine (CloneN_calls v pk hp hn _ h2).mono ?_; rintro e w1 ⟨v', rfl, hO, e1⟩
  go_wp2_with fail
  go_ret
  exact ⟨_, rfl, hO, e1⟩

end Go.Proofs.YtlcimlencoaiiaaDoor

namespace Go.Proofs.YtlcimlencoaiiaaDoor
open Go.ChangeShapes Go.WideShapes Go.ChangeAt Go.RowKit
attribute [local go_sem] bs_size bs_toList2 bs_append bs_extract_end bs_extract_begin bs_get wrap64_b grow_cell grow_frozen

/-- append(up, x): what changes is the own row at most. -/
theorem append_grow {ops : Array Oper} {rest : List Oper} {o : Oper} {a : Act} {w : World} {Q : Exit → Act → World → Prop} (hgd : o.guard = none) (s x : Operand) (ho : o.op = .call { callee := .builtin .append, args := #[s, x], argTypes := #[29, 29] })
    (v : Value) (l : List (List UInt8)) (y : List UInt8) (hs : a.eval s = v) (hx : a.eval x = .slice (some ⟨w.heap.size, 0, none⟩) 1 1) (hy : y.length = 32) (hn : l.length ≤ 1000000) (base : Nat) (hb : base ≤ w.heap.size) (n : Nat) (hln : l.length = n)
    (h : w.ownsRow base 23 32 v n (flatS l))
    (hK : ∀ A c w', w'.ownsRow base 23 32 (.slice A (n + 1) c) (n + 1) (flatS (l ++ [y])) → (w.alloc (.cells (flatS [y]).toArray 23)).grownBy w' v.ownBlock → wpList Tryd.prog ops Q rest (a.put o.dst (.slice A (n + 1) c)) w') :
    wpList Tryd.prog ops Q (o :: rest) a (w.alloc (.cells (flatS [y]).toArray 23)) := by
  obtain ⟨i0, z, hi, hz0, hz1, hz2, hz3⟩ := info_sum
  refine wpList_append_own _ hgd s x 29 ho base 23 i0 z 32 32 Tryd.underlying29 hi hz0 hz1 hz2 hz3 (by decide) v n (flatS l) hs (h.alloc _) ⟨w.heap.size, 0, none⟩ 1 1 (hcells y) hx (by rw [hcells_length, hy]) (fun j u hj => ?_) (hcells_one y) (by unfold maxLen; omega) (by omega) (by simp; omega) fun v' w' h1 h2 _ => ?_
  · rw [Addr.add_mid, Nat.zero_add, Blk.cell (Blk.new w 23 (flatS [y]).toArray) j, flatS_one]
    simpa using hj
  · obtain ⟨A, c, rfl⟩ := own_slice h1
    rw [← flatS_one, ← flatS_append] at h1
    exact hK A c w' h1 h2

theorem own_take {w : World} {base n cap : Nat} {A : Option Addr} {l : List (List UInt8)} (hl : AllH l) (h : w.ownsRow base 23 32 (.slice A n cap) n (flatS l)) (hn : l.length = n) (j : Nat) (hj : j ≤ n) : w.ownsRow base 23 32 (.slice A j cap) j (flatS (l.take j)) := by
  obtain ⟨e1, e2⟩ := h
  refine ⟨by rw [flatS_length _ (hl.take j), List.length_take, hn, Nat.min_eq_left hj], ?_⟩
  rcases e2 with ⟨hv, h0⟩ | ⟨g, c, cur, hv, hb, hh, hc, hm, hz, ht⟩
  · injection hv with x1 x2 x3
    exact .inl ⟨by rw [x1, x3, show j = 0 from by omega], by omega⟩
  · injection hv with x1 x2 x3
    refine .inr ⟨g, c, cur, by rw [x1, x3], hb, hh, by omega, hm, hz, ?_⟩
    rw [flatS_take l hl j, ← ht, List.take_take, Nat.min_eq_left (by omega)]

set_option maxHeartbeats 2000000 in
theorem frAdd_calls (g n : Nat) (pk : List (List UInt8)) (x : List UInt8) (hp : AllH pk) (hx : x.length = 32) (hn : n < 1099511627776) (hpn : pk.length = Tree.ones n) (hpl : pk.length ≤ 1000) (w : World) (KW : Keys w) (h : FrAt w g (n : Int) pk) :
    Calls Tryd.prog 52 #[.pointer (some ⟨g, 0, none⟩), sumV x] w fun e w' => e = .returned (.int .i64 ((n + 1 : Nat) : Int)) ∧ FrAt w' g ((n + 1 : Nat) : Int) (Tree.add nodeB n pk x) ∧ Upd g w w' := by
  have hfr := h
  obtain ⟨goal, hgoal⟩ : ∃ goal, goal = Tree.add nodeB n pk x := ⟨_, rfl⟩
  rw [← hgoal]
  have Hgoal := Lib.hid hgoal; clear hgoal
  obtain ⟨vp, hB, hO⟩ := h
  have hglt := hB.lt
  have hB0 := Blk.alloc hB (.cells (x.map byteV).toArray 23)
  have c0 : (w.alloc (.cells (x.map byteV).toArray 23)).cell? ⟨g, 0, none⟩ = some (.int .i64 n) := Blk.cell hB0 0
  have c1 : (w.alloc (.cells (x.map byteV).toArray 23)).cell? ⟨g, 1, none⟩ = some vp := Blk.cell hB0 1
  have hX0 : ArrB (w.alloc (.cells (x.map byteV).toArray 23)) w.heap.size 23 x := Blk.new _ _ _
  have hE0 := (Ext.refl w).alloc (.cells (x.map byteV).toArray 23)
  have hgI : decide ((1099511627776 : Int) ≤ (n : Int)) = false := decide_eq_false (by omega)
  have Hpn := Lib.hid hpn; clear hpn
  unfold sumV
  go_enter Tryd.func52, Tryd.ntmps52
  go_wp2_with fail
  go_step3
  go_wp2_with fail
  refine (CloneN_calls vp pk hp (by omega) _ (hO.ext hE0)).mono ?_; rintro e w1 ⟨v1, rfl, hC, e1⟩
  have hB1 := hB0.below e1 hB0.lt
  have hX1 : ArrB w1 w.heap.size 23 x := Blk.below hX0 e1 hX0.lt
  have hE1 := hE0.trans e1
  have hsz : w.heap.size + 1 ≤ w1.heap.size := by have := e1.size; simp at this; omega
  obtain ⟨A, cap, rfl⟩ := own_slice hC.1
  have hC1 : OwnN w1 (w.heap.size + 1) (.slice A pk.length cap) pk := by simpa using hC
  clear c0 c1 hC hX0 hB0 e1 hE0
  obtain ⟨d0, d1⟩ : w1.cell? ⟨g, 0, none⟩ = some (.int .i64 n) ∧ w1.cell? ⟨g, 1, none⟩ = some vp := ⟨Blk.cell hB1 0, Blk.cell hB1 1⟩
  go_wp2_with fail
  go_step3
  go_wp2_with fail
  go_loopw [5, 6] (fun s5 s6 wr => ∃ (k j : Nat) (y : List UInt8), k ≤ n ∧ j ≤ pk.length ∧ s5 = .slice A j cap ∧ s6 = .int .i64 (k : Int) ∧ y.length = 32 ∧ j = Tree.ones k ∧ Tree.add nodeB k (pk.take j) y = goal ∧ Upd w.heap.size w1 wr ∧ ArrB wr w.heap.size 23 y) (fun _ s6 _ => (intOf s6).toNat)
  case atStart => exact ⟨n, pk.length, x, Nat.le_refl _, Nat.le_refl _, rfl, rfl, hx, Hpn.out, by rw [List.take_length, ← Hgoal.out], Upd.refl _ _, hX1⟩
  case round =>
    clear d0 d1
    obtain ⟨wo, rfl⟩ : ∃ wo : World, wo = wr := ⟨_, rfl⟩
    obtain ⟨k, j, y, hk, hj, rfl, rfl, hy, hjk, had, hu, hY⟩ := hrel
    have Hjk := Lib.hid hjk; clear hjk
    by_cases h2 : k % 2 = 0
    · have h2I : (k : Int).tmod 2 = 0 := by rw [Int.tmod_eq_emod_of_nonneg (by omega)]; omega
      have hpk := Tree.add_even nodeB k (pk.take j) y h2
      rw [had] at hpk
      have hBo := hB1.kept (S := fun i => i ≠ w.heap.size) (.of_upd hu (fun h => h rfl)) (by omega)
      have hCo := hC1.keep (S := fun i => i ≠ w.heap.size) (.of_upd hu (fun h => h rfl)) (fun hne => by have := (hC1.owns.block hne).1; omega)
      obtain ⟨d0, d1⟩ : wo.cell? ⟨g, 0, none⟩ = some (.int .i64 n) ∧ wo.cell? ⟨g, 1, none⟩ = some vp := ⟨Blk.cell hBo 0, Blk.cell hBo 1⟩
      have f0 : wo.frozen? ⟨g, 0, none⟩ = false := Blk.frozen hBo 0
      have hB2 : Blk (wo.setCell ⟨g, 0, none⟩ (.int .i64 ((n : Int) + 1))) g 65 #[.int .i64 ((n : Int) + 1), vp] := Blk.set_ hBo 0 _
      have hY2 : ArrB (wo.setCell ⟨g, 0, none⟩ (.int .i64 ((n : Int) + 1))) w.heap.size 23 y := Blk.far hY (p := ⟨g, 0, none⟩) (by simp; omega) _
      go_wp2_with (refine stop_load 23 (.tmp 3) rfl ?_)
      refine ⟨?_⟩
      have hszo := hu.size
      have hjl : (pk.take j).length = j := by rw [List.length_take]; omega
      have hkg : Keep (fun i => i ≠ g) wo (wo.setCell ⟨g, 0, none⟩ (.int .i64 ((n : Int) + 1))) := (Keep.refl _ wo).setCell (p := ⟨g, 0, none⟩) (fun h => h rfl) _
      have hC2 := hCo.keep hkg (fun hne => hCo.ne hBo (by decide) hne)
      refine wpList_load_row rfl 23 (.tmp 3) rfl w.heap.size (by rfl) 23 _ (0, 0) _ hY2 Tryd.underlying23 rfl (size32.trans (by simp [hy])) ?_
      simp only [Act.put, List.setIfInBounds_toArray, List.set_cons_zero, List.set_cons_succ]
      refine wpList_buildSums rfl 1 _ rfl [y] (AllH.cons hy AllH.nil) rfl (by decide) (by decide) (by rfl) ?_
      simp only [Act.put, List.setIfInBounds_toArray, List.set_cons_zero, List.set_cons_succ]
      have hsz2 : wo.heap.size ≤ (wo.setCell ⟨g, 0, none⟩ (.int .i64 ((n : Int) + 1))).heap.size := hkg.size
      have hU2 : Keep (fun i => i < w.heap.size ∧ i ≠ g) w (wo.setCell ⟨g, 0, none⟩ (.int .i64 ((n : Int) + 1))) := ((Keep.of_ext hE1).trans (Keep.of_upd hu (fun h => absurd h.1 (by omega)))).setCell (p := ⟨g, 0, none⟩) (fun h => h.2 rfl) _
      generalize wo.setCell ⟨g, 0, none⟩ (.int .i64 ((n : Int) + 1)) = w2 at *
      refine append_grow rfl (.tmp 51) (.tmp 53) rfl _ (pk.take j) y rfl rfl hy (by omega) (w.heap.size + 1) (by omega) j hjl (own_take hp hC2.1 rfl j hj) fun A5 c5 w5 hO5 hG5 => ?_
      simp only [Act.put, List.setIfInBounds_toArray, List.set_cons_zero, List.set_cons_succ]
      have hrow : ∀ i, (Value.slice A j cap).ownBlock = some i → w.heap.size < i := by
        intro i hi
        rcases hC2.1.2 with ⟨hv, _⟩ | ⟨b, c, cur, hv, hb, _⟩
        · injection hv with x1; rw [x1] at hi; cases hi
        · injection hv with x1
          rw [x1] at hi
          injection hi with hi
          have hi' : b = i := hi
          omega
      have hB2a := Blk.alloc hB2 (.cells (flatS [y]).toArray 23)
      have hB5 := hB2a.kept (Keep.of_grown (S := fun i => i = g) hG5 (fun i hi e => by have := hrow i hi; omega)) rfl
      have hK5 := (hU2.alloc (.cells (flatS [y]).toArray 23)).trans (Keep.of_grown hG5 (fun i hi hs => by have := hrow i hi; omega))
      have hN5 : OwnN w5 (w.heap.size + 1) (.slice A5 (j + 1) c5) (pk.take j ++ [y]) := ⟨by rw [show (pk.take j ++ [y]).length = j + 1 from by simp; omega]; exact hO5, fun e => absurd e (by simp)⟩
      obtain ⟨b0, b1⟩ : w5.cell? ⟨g, 0, none⟩ = some (.int .i64 ((n : Int) + 1)) ∧ w5.cell? ⟨g, 1, none⟩ = some vp := ⟨Blk.cell hB5 0, Blk.cell hB5 1⟩
      have f1 : w5.frozen? ⟨g, 1, none⟩ = false := Blk.frozen hB5 1
      have HB5 := Lib.hid hB5; have HK5 := Lib.hid hK5; have HN5 := Lib.hid hN5; have Hpk := Lib.hid hpk
      clear d0 d1 f0 hB2 hB2a hB5 hK5 hN5 hG5 hO5 hU2 hpk had hrow hY hY2 hC2 hCo hBo hkg hu
      go_wp2_with fail
      rw [Exit.noGoto_ret]
      go_ret
      refine ⟨rfl, ?_, Keep.upd_ (HK5.out.setCell (p := ⟨g, 1, none⟩) (fun h => h.2 rfl) _)⟩
      rw [Hpk.out]
      exact ⟨_, Blk.set_ HB5.out 1 _, (HN5.out.keep ((Keep.refl (fun i => i ≠ g) w5).setCell (p := ⟨g, 1, none⟩) (fun h => h rfl) _) (fun hne => HN5.out.ne HB5.out (by decide) hne)).less (Nat.zero_le _)⟩
    · have h2I : (k : Int).tmod 2 = 1 := by rw [Int.tmod_eq_emod_of_nonneg (by omega)]; omega
      have hon := Tree.ones_step k (by omega)
      have hjk := Hjk.out
      obtain ⟨i, rfl⟩ : ∃ i, j = i + 1 := ⟨j - 1, by omega⟩
      have hCo := hC1.keep (S := fun i => i ≠ w.heap.size) (.of_upd hu (fun h => h rfl)) (fun hne => by have := (hC1.owns.block hne).1; omega)
      obtain ⟨A', cap', hv, hA, hcap, hcap63, hr⟩ := hCo.owns.sl
      injection hv with x1 _ x3
      subst x1 x3
      rcases hA with ⟨_, hl0, _⟩ | ⟨b, off, rfl⟩
      · rw [hl0] at hj; simp at hj
      obtain ⟨hbl, hm⟩ := rds_at hr hp (show i < pk.length by omega)
      have hq := hp.get i (by omega)
      have had2 : Tree.add nodeB (k / 2) (pk.take i) (nodeB pk[i] y) = goal := by
        rw [← had, List.take_succ_eq_append_getElem (show i < pk.length by omega), Tree.add_odd nodeB k _ _ _ (by omega)]
      have hi2 : i = Tree.ones (k / 2) := by omega
      have Hi2 := Lib.hid hi2; have Had2 := Lib.hid had2
      have hKs : ∀ x : More wo, Keys (grow wo x) := fun x => KW.ext ((hE1.upd hu (Nat.le_refl _)).trans (grow_ext x))
      have hic : (i : Int) ≤ (cap : Int) := by omega
      have hic2 : i ≤ cap := by omega
      generalize pk[i] = q at *
      clear had had2 hi2 hon hjk hr hCo
      go_wp2_with fail
      refine region_mix 6 (by kernel_rfl) (by kernel_rfl) (fun x => ?_); simp only [List.take_succ_cons, List.take_zero, List.drop_succ_cons, List.drop_zero]
      iterate 3 (first | (refine mix_quiet (by rfl) (by rfl) (fun K hK => ?_); go_big_quiet_op; refine hK _ ?_; clear hK K) | (refine mix_skip (by rfl) ?_; simp only [Act.put, List.setIfInBounds_toArray, List.set_cons_zero, List.set_cons_succ]))
      refine mix_mid (by rfl) (by rfl) 23 (.tmp 36) rfl b (off + i * 32) (by rfl) _ _ hm hbl Tryd.underlying23 rfl (size32l _ hq) ?_
      simp only [Act.put, List.setIfInBounds_toArray, List.set_cons_zero, List.set_cons_succ]
      refine mix_row (by rfl) (by rfl) 23 (.tmp 3) rfl w.heap.size (by rfl) 23 _ _ hY Tryd.underlying23 rfl (size32.trans (by simp [hy])) ?_
      simp only [Act.put, List.setIfInBounds_toArray, List.set_cons_zero, List.set_cons_succ]
      (refine mix_loud (by rfl) (by rfl) (fun K E hK => ?_); go_big_op)
      change Calls _ _ #[sumV q, sumV y] _ _
      refine (Node_calls q y hq hy _ (hKs _)).mono ?_; rintro e w3 ⟨rfl, hd⟩
      obtain ⟨x', rfl⟩ := more_ext _ hd; clear hd
      refine hK _ _ ⟨_, rfl⟩ ?_; clear hK K E
      refine mix_nil ?_
      have hY3 := hY.below (grow_ext x') hY.lt
      have hu3 := hu.ext (grow_ext x')
      unfold sumV
      refine wpList_store_row rfl 23 (.tmp 3) (.tmp 39) rfl w.heap.size _ (by rfl) (by rfl) 23 _ hY3 (size32.trans (by simp [nodeB_length])) (by simp [hy, nodeB_length]) (by simp [byteV, Value.oneCell']) ?_
      have hY4 : ArrB ((grow wo x').setRow w.heap.size ((nodeB q y).map byteV).toArray) w.heap.size 23 (nodeB q y) := Blk.row hY3 _
      have hu4 := Upd.row hu3 ((nodeB q y).map byteV).toArray
      clear hKs hY hY3 hu hu3 hm
      generalize (grow wo x').setRow w.heap.size ((nodeB q y).map byteV).toArray = w4 at *
      simp only [Act.put, List.setIfInBounds_toArray, List.set_cons_zero, List.set_cons_succ]
      go_wp2_with fail
      go_roundw
      case rel => exact ⟨k / 2, i, nodeB q y, by omega, by omega, rfl, by go_num, nodeB_length _ _, Hi2.out, Had2.out, hu4, hY4⟩
      case measure => simp [intOf]; omega

end Go.Proofs.YtlcimlencoaiiaaDoor

namespace Go.Proofs.YtlcimlencoaiiaaDoor
open Go.ChangeShapes Go.WideShapes Go.ChangeAt Go.RowKit
attribute [local go_sem] bs_size bs_toList2 bs_append bs_extract_end bs_extract_begin bs_get wrap64_b grow_cell grow_frozen

set_option maxHeartbeats 1000000 in
theorem frCopy_calls (g : Nat) (n : Int) (pk : List (List UInt8)) (hp : AllH pk) (hn : pk.length ≤ 1000000) (w : World) (h : FrAt w g n pk) :
    Calls Tryd.prog 53 #[.pointer (some ⟨g, 0, none⟩)] w fun e w' => ∃ g', e = .returned (.pointer (some ⟨g', 0, none⟩)) ∧ w.heap.size ≤ g' ∧ FrAt w' g' n pk ∧ Ext w w' := by
  obtain ⟨v, hB, hO⟩ := h
  have hglt := hB.lt
  have c0 : w.cell? ⟨g, 0, none⟩ = some (.int .i64 n) := Blk.cell hB 0
  have c1 : w.cell? ⟨g, 1, none⟩ = some v := Blk.cell hB 1
  go_enter Tryd.func53, Tryd.ntmps53
  go_wp2_with fail
  refine region_mix 9 (by kernel_rfl) (by kernel_rfl) (fun x => ?_); simp only [List.take_succ_cons, List.take_zero, List.drop_succ_cons, List.drop_zero]
  repeat (first | (refine mix_quiet (by rfl) (by rfl) (fun K hK => ?_); go_big_quiet_op; refine hK _ ?_; clear hK K) | (refine mix_skip (by rfl) ?_; simp only [Act.put, List.setIfInBounds_toArray, List.set_cons_zero, List.set_cons_succ]))
  (refine mix_loud (by rfl) (by rfl) (fun K E hK => ?_); go_big_op)
  refine (CloneN_calls v pk hp hn _ (hO.ext (grow_ext _))).mono ?_; rintro e w3 ⟨v', rfl, hC, hd⟩
  obtain ⟨x', rfl⟩ := more_ext _ hd
  obtain ⟨A, cap, rfl⟩ := own_slice hC.1
  refine hK _ _ ⟨_, rfl⟩ ?_; clear hK K E
  refine mix_nil ?_
  go_wp2_with fail
  go_ret
  exact ⟨_, rfl, (grow_ext x').size, ⟨_, Blk.new _ _ _, (hC.ext ((Ext.refl _).alloc _)).less (Nat.zero_le _)⟩, (grow_ext x').alloc _⟩

end Go.Proofs.YtlcimlencoaiiaaDoor

namespace Go.Proofs.YtlcimlencoaiiaaDoor
open Go.ChangeShapes Go.WideShapes Go.ChangeAt Go.RowKit
attribute [local go_sem] bs_size bs_toList2 bs_append bs_extract_end bs_extract_begin bs_get wrap64_b grow_cell grow_frozen

set_option maxHeartbeats 1000000 in
theorem frBytes_calls (g n : Nat) (pk : List (List UInt8)) (hp : AllH pk) (hn : n ≤ 1099511627776) (hpl : pk.length ≤ 1000) (w : World) (h : FrAt w g (n : Int) pk) :
    Calls Tryd.prog 50 #[.pointer (some ⟨g, 0, none⟩)] w fun e w' => e = .returned (.string (bs (Oct.put n ++ Oct.list pk))) ∧ Ext w w' := by
  obtain ⟨i0, hi, hz0, hz1, hz2⟩ := info_parts info_str
  go_enter Tryd.func50, Tryd.ntmps50
  go_wp2_with fail
  refine (frPeaks_calls g n pk hp (by omega) _ h).mono ?_; rintro e w1 ⟨v', rfl, hC, e1⟩
  obtain ⟨A, cap, rfl⟩ := own_slice hC.1
  obtain ⟨A', cap', hv, hA, hc, hc63, hr⟩ := hC.owns.sl
  injection hv with x1 _ x3
  subst x1 x3
  have hF1 := h.ext e1
  go_wp2_with fail
  go_loopw [3, 9] (fun s3 s9 wr => ∃ k : Nat, k ≤ pk.length ∧ s9 = .int .i64 (k : Int) ∧ wr.ownsRow w1.heap.size 9 1 s3 k ((pk.take k).map strV) ∧ Ext w1 wr) (fun _ s9 _ => pk.length - (intOf s9).toNat)
  case atStart => exact ⟨0, Nat.zero_le _, rfl, World.ownsRow_nil _ _ _ _, Ext.refl _⟩
  case round =>
    obtain ⟨wo, rfl⟩ : ∃ wo : World, wo = wr := ⟨_, rfl⟩
    obtain ⟨k, hk, rfl, hown, hE⟩ := hrel
    by_cases hlt : k < pk.length
    · have hlI : (k : Int) < (pk.length : Int) := by omega
      rcases hA with ⟨_, hl0, _⟩ | ⟨b, off, rfl⟩
      · rw [hl0] at hlt; simp at hlt
      obtain ⟨hbl, hm⟩ := rds_at (hr.below hE (Nat.le_refl _)) hp hlt
      have hq := hp.get k hlt
      go_wp2_with (refine stop_load 23 (.tmp 11) rfl ?_)
      refine ⟨?_⟩
      refine wpList_load_mid rfl 23 (.tmp 11) rfl b (off + k * 32) (by rfl) (hcells pk[k]) _ hm Tryd.underlying23 rfl (size32l _ hq) ?_
      simp only [Act.put, List.setIfInBounds_toArray, List.set_cons_zero, List.set_cons_succ]
      unfold hcells
      have HS := Lib.hid (List.take_succ_eq_append_getElem hlt)
      generalize pk[k] = q at *
      go_wp2_with (refine stop_store 23 (.tmp 5) (.tmp 12) rfl ?_)
      refine ⟨?_⟩
      change wpList _ _ _ _ _ (wo.alloc (.cells ((zerosB 32).map byteV).toArray 23))
      have hZ : ArrB (wo.alloc (.cells ((zerosB 32).map byteV).toArray 23)) wo.heap.size 23 (zerosB 32) := Blk.new _ _ _
      refine wpList_store_row rfl 23 (.tmp 5) (.tmp 12) rfl wo.heap.size _ (by rfl) (by rfl) 23 _ hZ (size32.trans (by simp [hq])) (by simp [hq, zerosB]) (by simp [byteV, Value.oneCell']) ?_
      simp only [Act.put, List.setIfInBounds_toArray, List.set_cons_zero, List.set_cons_succ]
      have hZ2 : ArrB ((wo.alloc (.cells ((zerosB 32).map byteV).toArray 23)).setRow wo.heap.size (q.map byteV).toArray) wo.heap.size 23 q := Blk.row hZ _
      have hX2 : Ext wo ((wo.alloc (.cells ((zerosB 32).map byteV).toArray 23)).setRow wo.heap.size (q.map byteV).toArray) := ((Ext.refl wo).alloc _).row (Nat.le_refl _) _
      have hown2 := owns_ext hown hX2
      have hE2 := hE.trans hX2
      clear hm hbl hZ hown hX2 hE
      generalize (wo.alloc (.cells ((zerosB 32).map byteV).toArray 23)).setRow wo.heap.size (q.map byteV).toArray = w2 at *
      go_wp2_with (refine stop_load 23 (.tmp 5) rfl ?_)
      refine ⟨?_⟩
      refine wpList_load_row rfl 23 (.tmp 5) rfl wo.heap.size (by rfl) 23 _ (0, 0) _ hZ2 Tryd.underlying23 rfl (size32.trans (by simp [hq])) ?_
      simp only [Act.put, List.setIfInBounds_toArray, List.set_cons_zero, List.set_cons_succ]
      go_wp2_with fail
      change Calls _ _ #[sumV q] _ _
      refine (Bytes_calls q hq _).mono ?_; rintro e w3 ⟨rfl, e3⟩
      have hown3 := owns_ext hown2 e3
      have hE3 := hE2.trans e3
      clear hown2 hE2 hZ2 e3
      go_wp2_with (at_builtin; refine wpList_append_own _ rfl _ _ 97 rfl w1.heap.size 9 i0 (.string .empty) 1 16 Tryd.underlying97 hi hz0 hz1 hz2 rfl (by decide) _ _ _ rfl (hown3.alloc _) ⟨w3.heap.size, 0, none⟩ 1 1 [strV q] rfl rfl ?c1 ?c2 ?c3 ?c4 ?c5 ?_)
      case c1 =>
        intro j u hj
        match j, hj with
        | 0, hj => simp at hj; subst hj; simp [Addr.add, strV]
      case c2 => intro u hu; simp at hu; subst hu; rfl
      case c3 => unfold maxLen; omega
      case c4 => omega
      case c5 => have := hE3.size; simp; omega
      intro v' w4 hown' hgrow _
      have hE' : Ext w1 w4 := (hE3.alloc _).grown hgrow (by have := hE3.size; simp; omega) (fun g hg => (hown3.lt g hg).1)
      have hown4 : w4.ownsRow w1.heap.size 9 1 v' (k + 1) ((pk.take (k + 1)).map strV) := by rw [HS.out, List.map_append, List.map_take]; exact hown'
      clear hgrow hown3 hown' hE3
      go_wp2_with fail
      go_roundw
      case rel => exact ⟨k + 1, by omega, by go_num, hown4, hE'⟩
      case measure => simp [intOf]; omega
    · obtain rfl : k = pk.length := by omega
      rw [List.take_length] at hown
      have hlen := hown.1
      obtain ⟨A2, c2, rfl⟩ := own_slice hown
      have hRd := Rd.of_own hown
      go_wp2_with fail
      refine (frSize_calls g n pk _ (hF1.ext hE)).mono ?_; rintro e w3 ⟨rfl, rfl⟩
      go_wp2_with fail
      refine (Put_calls (n : Int) _ (by omega) (by omega)).mono ?_; rintro e w4 ⟨rfl, e4⟩
      rw [Int.toNat_natCast]
      have hll := Oct.list_length_le 32 pk (fun s hs => by
        obtain ⟨i, hi1, rfl⟩ := List.getElem_of_mem hs
        exact Nat.le_of_eq (hp.get i hi1))
      have hput := Oct.put_length n
      have hneed := Oct.need_le n
      have hadd : ¬ (9223372036854775807 < (Oct.put n).length + (Oct.list pk).length) := by omega
      go_wp2_with fail
      refine (List_calls _ A2 c2 pk _ (hRd.below e4 (Nat.le_refl _)) e4.size (by omega)).mono ?_; rintro e w5 ⟨rfl, e5⟩
      clear hput hneed hll hlen
      go_wp2_with fail
      go_ret
      exact ⟨rfl, ((e1.trans hE).trans e4).trans e5⟩

end Go.Proofs.YtlcimlencoaiiaaDoor

namespace Go.Proofs.YtlcimlencoaiiaaDoor
open Go.ChangeShapes Go.WideShapes Go.ChangeAt Go.RowKit
attribute [local go_sem] bs_size bs_toList2 bs_append bs_extract_end bs_extract_begin bs_get wrap64_b grow_cell grow_frozen

set_option maxHeartbeats 1000000 in
theorem refFrBytes_calls (n : Nat) (v : Value) (pk : List (List UInt8)) (hp : AllH pk) (hn : n ≤ 1099511627777) (hpl : pk.length ≤ 1000) (w : World) (h : SlS w w.heap.size v pk) :
    Calls Tryd.prog 51 #[.int .i64 (n : Int), v] w fun e w' => e = .returned (.string (bs (Oct.put n ++ Oct.list pk))) ∧ Ext w w' := by
  obtain ⟨i0, hi, hz0, hz1, hz2⟩ := info_parts info_str
  obtain ⟨A, cap, rfl, hA, hc, hc63, hr⟩ := h
  go_enter Tryd.func51, Tryd.ntmps51
  go_wp2_with fail
  go_loopw [5, 6] (fun s3 s9 wr => ∃ k : Nat, k ≤ pk.length ∧ s9 = .int .i64 (k : Int) ∧ wr.ownsRow w.heap.size 9 1 s3 k ((pk.take k).map strV) ∧ Ext w wr) (fun _ s9 _ => pk.length - (intOf s9).toNat)
  case atStart => exact ⟨0, Nat.zero_le _, rfl, World.ownsRow_nil _ _ _ _, Ext.refl _⟩
  case round =>
    obtain ⟨wo, rfl⟩ : ∃ wo : World, wo = wr := ⟨_, rfl⟩
    obtain ⟨k, hk, rfl, hown, hE⟩ := hrel
    by_cases hlt : k < pk.length
    · have hlI : (k : Int) < (pk.length : Int) := by omega
      rcases hA with ⟨_, hl0, _⟩ | ⟨b, off, rfl⟩
      · rw [hl0] at hlt; simp at hlt
      obtain ⟨hbl, hm⟩ := rds_at (hr.below hE (Nat.le_refl _)) hp hlt
      have hq := hp.get k hlt
      go_wp2_with (refine stop_load 23 (.tmp 16) rfl ?_)
      refine ⟨?_⟩
      refine wpList_load_mid rfl 23 (.tmp 16) rfl b (off + k * 32) (by rfl) (hcells pk[k]) _ hm Tryd.underlying23 rfl (size32l _ hq) ?_
      simp only [Act.put, List.setIfInBounds_toArray, List.set_cons_zero, List.set_cons_succ]
      have HS := Lib.hid (List.take_succ_eq_append_getElem hlt)
      generalize pk[k] = q at *
      clear hm hbl
      go_wp2_with fail
      change Calls _ _ #[sumV q] _ _
      refine (refBytes_calls q hq _).mono ?_; rintro e w3 ⟨rfl, e3⟩
      have hown3 := owns_ext hown e3
      have hE3 := hE.trans e3
      clear hown hE e3
      go_wp2_with (at_builtin; refine wpList_append_own _ rfl _ _ 97 rfl w.heap.size 9 i0 (.string .empty) 1 16 Tryd.underlying97 hi hz0 hz1 hz2 rfl (by decide) _ _ _ rfl (hown3.alloc _) ⟨w3.heap.size, 0, none⟩ 1 1 [strV q] rfl rfl ?c1 ?c2 ?c3 ?c4 ?c5 ?_)
      case c1 =>
        intro j u hj
        match j, hj with
        | 0, hj => simp at hj; subst hj; simp [Addr.add, strV]
      case c2 => intro u hu; simp at hu; subst hu; rfl
      case c3 => unfold maxLen; omega
      case c4 => omega
      case c5 => have := hE3.size; simp; omega
      intro v' w4 hown' hgrow _
      have hE' : Ext w w4 := (hE3.alloc _).grown hgrow (by have := hE3.size; simp; omega) (fun g hg => (hown3.lt g hg).1)
      have hown4 : w4.ownsRow w.heap.size 9 1 v' (k + 1) ((pk.take (k + 1)).map strV) := by rw [HS.out, List.map_append, List.map_take]; exact hown'
      clear hgrow hown3 hown' hE3
      go_wp2_with fail
      go_roundw
      case rel => exact ⟨k + 1, by omega, by go_num, hown4, hE'⟩
      case measure => simp [intOf]; omega
    · obtain rfl : k = pk.length := by omega
      rw [List.take_length] at hown
      have hlen := hown.1
      obtain ⟨A2, c2, rfl⟩ := own_slice hown
      have hRd := Rd.of_own hown
      go_wp2_with fail
      refine (refPut_calls (n : Int) _ (by omega) (by omega)).mono ?_; rintro e w4 ⟨rfl, e4⟩
      rw [Int.toNat_natCast]
      have hll := Oct.list_length_le 32 pk (fun s hs => by
        obtain ⟨i, hi1, rfl⟩ := List.getElem_of_mem hs
        exact Nat.le_of_eq (hp.get i hi1))
      have hput := Oct.put_length n
      have hneed := Oct.need_le n
      have hadd : ¬ (9223372036854775807 < (Oct.put n).length + (Oct.list pk).length) := by omega
      go_wp2_with fail
      refine (refList_calls _ A2 c2 pk _ (hRd.below e4 (Nat.le_refl _)) e4.size (by omega)).mono ?_; rintro e w5 ⟨rfl, e5⟩
      clear hput hneed hll hlen
      go_wp2_with fail
      go_ret
      exact ⟨rfl, (hE.trans e4).trans e5⟩

end Go.Proofs.YtlcimlencoaiiaaDoor

namespace Go.Proofs.YtlcimlencoaiiaaDoor
open Go.ChangeShapes Go.WideShapes Go.ChangeAt Go.RowKit
attribute [local go_sem] bs_size bs_toList2 bs_append bs_extract_end bs_extract_begin bs_get wrap64_b grow_cell grow_frozen

theorem Keys.kept {S : Nat → Prop} {w w' : World} (K : Keys w) (h : Keep S w w') (hS : S 0) : Keys w' := fun i hi => (World.cell?_of_block (h.block 0 K.lt0 hS)).trans (K i hi)
abbrev joinS (p : List (List UInt8)) : List UInt8 := Tree.join nodeB emptyB p
theorem foldr_length : ∀ (q : List (List UInt8)) (r : List UInt8), r.length = 32 → (q.foldr nodeB r).length = 32
  | [], r, h => h
  | x :: q, r, h => nodeB_length _ _
theorem joinS_length (p : List (List UInt8)) (h : AllH p) : (joinS p).length = 32 := by
  unfold joinS Tree.join
  cases hp : p.getLast? with
  | none => exact emptyB_length
  | some r => exact foldr_length _ _ (h r (List.mem_of_getLast? hp))

theorem frRoot_zero (g : Nat) (pk : List (List UInt8)) (w : World) (KW : Keys w) (h : FrAt w g 0 pk) :
    Calls Tryd.prog 49 #[.pointer (some ⟨g, 0, none⟩)] w fun e w' => e = .returned (sumV emptyB) ∧ Ext w w' := by
  have hE0 := (Ext.refl w).alloc (.cells ((zerosB 32).map byteV).toArray 23)
  have hF0 := h.ext hE0
  have hZ : ArrB (w.alloc (.cells ((zerosB 32).map byteV).toArray 23)) w.heap.size 23 (zerosB 32) := Blk.new _ _ _
  go_enter Tryd.func49, Tryd.ntmps49
  go_wp2_with fail
  refine (frSize_calls g 0 pk _ hF0).mono ?_; rintro e w1 ⟨rfl, rfl⟩
  go_wp2_with fail
  refine (Empty_calls _ (KW.ext hE0)).mono ?_; rintro e w1 ⟨rfl, e1⟩
  unfold sumV
  have hZ1 := Blk.below hZ e1 hZ.lt
  go_wp2_with (refine stop_store 23 (.tmp 2) (.tmp 10) rfl ?_)
  refine ⟨?_⟩
  refine wpList_store_row rfl 23 (.tmp 2) (.tmp 10) rfl w.heap.size _ (by rfl) (by rfl) 23 _ hZ1 (size32.trans (by simp [emptyB_length])) (by simp [emptyB_length, zerosB]) (by simp [byteV, Value.oneCell']) ?_
  simp only [Act.put, List.setIfInBounds_toArray, List.set_cons_zero, List.set_cons_succ]
  have hZ2 : ArrB (w1.setRow w.heap.size (emptyB.map byteV).toArray) w.heap.size 23 emptyB := Blk.row hZ1 _
  have hE2 := (hE0.trans e1).row (Nat.le_refl _) (emptyB.map byteV).toArray
  go_wp2_with fail
  exact bodyPost_ret (results_cell_row rfl _ _ w.heap.size 23 _ (0, 0) _ rfl hZ2 Tryd.underlying23 rfl (size32.trans (by simp [emptyB_length]))) rfl ⟨rfl, hE2⟩

def frFold (r : List UInt8) (pre : List (Nat × Hs)) : List UInt8 := (pre.map fun x => x.2.s).foldl (fun r p => nodeB p r) r
theorem frFold_length (r : List UInt8) (hr : r.length = 32) (pre : List (Nat × Hs)) : (frFold r pre).length = 32 := by
  unfold frFold
  generalize (pre.map fun x => x.2.s) = l
  induction l generalizing r with
  | nil => exact hr
  | cons x l ih => exact ih _ (nodeB_length _ _)
theorem frFold_snoc (r : List UInt8) (pre : List (Nat × Hs)) (x : Nat × Hs) : frFold r (pre ++ [x]) = nodeB x.2.s (frFold r pre) := by simp [frFold]
theorem frFold_all (q : List (List UInt8)) (hq : AllH q) (r : List UInt8) : frFold r (upto (backF q) q.length) = joinS (q ++ [r]) := by
  unfold frFold joinS Tree.join
  rw [upto_back hq, List.getLast?_concat, List.foldl_reverse]
  simp

set_option maxHeartbeats 2000000 in
theorem frRoot_some (g n : Nat) (q : List (List UInt8)) (r : List UInt8) (hq : AllH q) (hr : r.length = 32) (hn : 0 < n) (hql : q.length ≤ 1000000) (w : World) (KW : Keys w) (h : FrAt w g (n : Int) (q ++ [r])) :
    Calls Tryd.prog 49 #[.pointer (some ⟨g, 0, none⟩)] w fun e w' => e = .returned (sumV (joinS (q ++ [r]))) ∧ Ext w w' := by
  have hE0 := (Ext.refl w).alloc (.cells ((zerosB 32).map byteV).toArray 23)
  have hF0 := h.ext hE0
  have hZ : ArrB (w.alloc (.cells ((zerosB 32).map byteV).toArray 23)) w.heap.size 23 (zerosB 32) := Blk.new _ _ _
  have hn0 : ((n : Int) == 0) = false := by rw [beq_eq_false_iff_ne]; omega
  refine (callsIn_wide (n := 9)).1 (callsIn_of_wp_marks Tryd.func49 rfl trivial (wpIn_wide.2 ?_) rfl)
  simp only [Tryd.ntmps49, List.size_toArray, List.length_cons, List.length_nil, Nat.reduceAdd, Nat.reduceSub, Array.replicate_succ, Array.replicate_zero, List.push_toArray, List.append_toArray, List.nil_append, List.cons_append]
  go_wp2_with fail
  refine (frSize_calls g n _ _ hF0).mono ?_; rintro e w1 ⟨rfl, rfl⟩
  obtain ⟨vp, hB, hO⟩ := hF0
  obtain ⟨A, cap, hv, hA, hc, hc63, hrd⟩ := hO.owns.sl
  have hlen : (q ++ [r]).length = q.length + 1 := by simp
  rw [hlen] at hv hc
  subst hv
  obtain ⟨b, off, rfl, hbl, hm⟩ := rds_mid hrd (AllH.append hq (AllH.cons hr AllH.nil)) (k := q.length) (by simp)
  rw [show (q ++ [r])[q.length]'(by simp) = r from by simp] at hm
  have hcI : (q.length : Int) ≤ (cap : Int) := by omega
  have hcn : q.length ≤ cap := by omega
  have c1 : (w.alloc (.cells ((zerosB 32).map byteV).toArray 23)).cell? ⟨g, 1, none⟩ = some (.slice (some ⟨b, off, none⟩) (q.length + 1) cap) := Blk.cell hB 1
  have hglt := hB.lt
  clear hlen
  generalize w.alloc (.cells ((zerosB 32).map byteV).toArray 23) = w0 at *
  have hA' : ∀ b' off', (some ⟨b, off, none⟩ : Option Addr) = some ⟨b', off', none⟩ → b' < w0.heap.size := fun b' off' e => by injection e with e; injection e with e; omega
  clear hA
  go_wp2_with (refine stop_load 23 (.tmp 22) rfl ?_)
  refine ⟨?_⟩
  refine wpList_load_mid rfl 23 (.tmp 22) rfl b (off + q.length * 32) (by rfl) (hcells r) _ hm Tryd.underlying23 rfl (size32l _ hr) ?_
  simp only [Act.put, List.setIfInBounds_toArray, List.set_cons_zero, List.set_cons_succ]
  unfold hcells
  go_wp2_with (refine stop_store 23 (.tmp 4) (.tmp 23) rfl ?_)
  refine ⟨?_⟩
  change wpList _ _ _ _ _ (w0.alloc (.cells ((zerosB 32).map byteV).toArray 23))
  have hX : ArrB (w0.alloc (.cells ((zerosB 32).map byteV).toArray 23)) w0.heap.size 23 (zerosB 32) := Blk.new _ _ _
  refine wpList_store_row rfl 23 (.tmp 4) (.tmp 23) rfl w0.heap.size _ (by rfl) (by rfl) 23 _ hX (size32.trans (by simp [hr])) (by simp [hr, zerosB]) (by simp [byteV, Value.oneCell']) ?_
  simp only [Act.put, List.setIfInBounds_toArray, List.set_cons_zero, List.set_cons_succ]
  have hX1 : ArrB ((w0.alloc (.cells ((zerosB 32).map byteV).toArray 23)).setRow w0.heap.size (r.map byteV).toArray) w0.heap.size 23 r := Blk.row hX _
  have e1 : Ext w0 ((w0.alloc (.cells ((zerosB 32).map byteV).toArray 23)).setRow w0.heap.size (r.map byteV).toArray) := ((Ext.refl w0).alloc _).row (Nat.le_refl _) _
  clear hX hm c1
  generalize (w0.alloc (.cells ((zerosB 32).map byteV).toArray 23)).setRow w0.heap.size (r.map byteV).toArray = w1 at *
  have hB1 := hB.below e1 hglt
  have hZ1 := Blk.below hZ e1 hZ.lt
  have c1 : w1.cell? ⟨g, 1, none⟩ = some (.slice (some ⟨b, off, none⟩) (q.length + 1) cap) := Blk.cell hB1 1
  have hsz := e1.size
  have hx1 := hX1.lt
  have hz1 := hZ.lt
  go_wp2_with fail
  refine (Backward_calls _ _ _ _).mono ?_; rintro e w2 ⟨rfl, hw2⟩
  have e2 : Ext w1 w2 := by rw [hw2]; exact (Ext.refl w1).alloc _
  have hBs : Blk w2 w1.heap.size 29 #[.slice (some ⟨b, off, none⟩) q.length cap] := by rw [hw2]; exact Blk.new _ _ _
  have hs2 : w1.heap.size < w2.heap.size := by rw [hw2]; simp
  have hX2 := hX1.below e2 hX1.lt
  have hZ2 := Blk.below hZ1 e2 hZ1.lt
  have hrd2 : Rd w2 w2.heap.size (some ⟨b, off, none⟩) (flatS q) := by
    have h3 := rds_take ((hrd.below e1 (Nat.le_refl _)).below e2 e1.size) (AllH.append hq (AllH.cons hr AllH.nil)) q.length
    rw [List.take_left] at h3
    exact h3.more (by omega)
  have hE2 := (hE0.trans e1).trans e2
  clear hw2 c1 hX1 hZ1 hB1 hB hO hrd hZ
  go_wp2_with fail
  refine (wpIn_wide (n := 9)).1 ?_
  refine wpIn_rangeFunc_ownH (n := 9) rfl (by omega) (gf := 103) (lb := #[.pointer (some ⟨w1.heap.size, 0, none⟩)]) rfl trivial (enters_of Tryd.func103 (by kernel_rfl) rfl)
    (back_stops 8 (by omega) w1.heap.size (some ⟨b, off, none⟩) cap q hq (by omega) (fun k => k < w2.heap.size ∧ k ≠ w0.heap.size) w2 hBs ⟨by omega, by omega⟩ hrd2 (fun b' off' e => by have := hA' b' off' e; exact ⟨by omega, by omega⟩))
    (fun h k => h.trans k) (fun W l o o' hl _ _ _ => Keep.putObj W l o' (fun h => absurd h.1 (by omega))) (Below.refl _ _) (fun _ => rfl)
    (fun pre W => ArrB W w0.heap.size 23 (frFold r pre) ∧ Keep (fun k => k < w2.heap.size ∧ k ≠ w0.heap.size) w2 W)
    (fun _ _ _ => False)
    (fun s W W' row hs hg hr => ⟨Blk.own hs.1 hg (fun r e => (hr r e).2), hs.2.ownFrom hg (fun r e => (hr r e).1) (fun k h => h.1)⟩)
    (fun _ _ _ _ _ hs _ _ => hs)
    ⟨hX2, Keep.refl _ _⟩
    (fun x a' W => ∃ Bx, w2.heap.size ≤ Bx ∧ ArrB W Bx 23 x.2.s ∧ a' = { tmps := #[Value.pointer (some { block := g, off := 0 }), undef, Value.pointer (some { block := w.heap.size, off := 0 }), Value.int IntKind.i64 ↑q.length, Value.pointer (some { block := w0.heap.size, off := 0 }), undef, Value.pointer (some { block := Bx, off := 0 }), Value.pointer (some { block := g, off := 0 }), Value.int IntKind.i64 ↑n, Value.bool false, undef, Value.pointer (some { block := g, off := 0 }), Value.pointer (some { block := g, off := 0 }), Value.pointer (some { block := g, off := 1 }), Value.slice (some { block := b, off := off }) (q.length + 1) cap, Value.int IntKind.i64 (↑q.length + 1), Value.int IntKind.i64 ↑q.length, Value.pointer (some { block := g, off := 0 }), Value.pointer (some { block := g, off := 0 }), Value.pointer (some { block := g, off := 1 }), Value.slice (some { block := b, off := off }) (q.length + 1) cap, Value.int IntKind.i64 ↑q.length, Value.pointer (some { block := b, off := off + q.length * 32 }), Value.agg (List.map byteV r).toArray, Value.pointer (some { block := g, off := 0 }), Value.pointer (some { block := g, off := 0 }), Value.pointer (some { block := g, off := 1 }), Value.slice (some { block := b, off := off }) (q.length + 1) cap, Value.int IntKind.i64 ↑q.length, Value.slice (some { block := b, off := off }) q.length cap, Value.func (Fn.func 103) #[] #[Value.pointer (some { block := w1.heap.size, off := 0 })], .int .i64 (x.1 : Int), sumV x.2.s, undef, undef, undef, undef], defers := [] })
    (fun x a' s W W' row hs hg hr => by
      obtain ⟨Bx, h1, h2, h3⟩ := hs
      exact ⟨Bx, h1, Blk.own h2 hg (fun r e => (hr r e).2), h3⟩) ?assign ?body ?done ?stop
  case assign =>
    intro l pre x W KK hi hGo
    have hi1 := hi.1
    have hi2 := hi.2
    have HG := Lib.hid hGo
    clear hGo hi
    have hq32 := x.2.len
    have hz := hi2.size
    refine region_in (r := some l) (n := 7) (fun ⟨a, w, h⟩ => h) (by decide) ?_
    go_wp2_with (refine stop_store 23 (.tmp 6) (.tmp 32) rfl ?_)
    refine ⟨?_⟩
    change wpList _ _ _ _ _ (W.alloc (.cells ((zerosB 32).map byteV).toArray 23))
    have hP : ArrB (W.alloc (.cells ((zerosB 32).map byteV).toArray 23)) W.heap.size 23 (zerosB 32) := Blk.new _ _ _
    refine wpList_store_row rfl 23 (.tmp 6) (.tmp 32) rfl W.heap.size (x.2.s.map byteV).toArray (by rfl) (by rfl) 23 _ hP (size32.trans (by simp [hq32])) (by simp [hq32, zerosB]) (by simp [byteV, Value.oneCell']) ?_
    have hP1 : ArrB ((W.alloc (.cells ((zerosB 32).map byteV).toArray 23)).setRow W.heap.size (x.2.s.map byteV).toArray) W.heap.size 23 x.2.s := Blk.row hP _
    have hE3 : Ext W ((W.alloc (.cells ((zerosB 32).map byteV).toArray 23)).setRow W.heap.size (x.2.s.map byteV).toArray) := ((Ext.refl W).alloc _).row (Nat.le_refl _) _
    generalize (W.alloc (.cells ((zerosB 32).map byteV).toArray 23)).setRow W.heap.size (x.2.s.map byteV).toArray = W3 at *
    go_wp2_with fail
    exact HG.out _ _ (KeepsFrom.of_ext hE3) (Keep.of_ext hE3) ⟨hi1.below hE3 hi1.lt, hi2.trans (Keep.of_ext hE3)⟩ ⟨_, by omega, hP1, rfl⟩
  case body =>
    rintro l pre x a' W hl ⟨rl, hrl⟩ ⟨hX, hKp⟩ ⟨Bx, hBx, hP, rfl⟩ hlt
    have hq32 := x.2.len
    have hf := frFold_length r hr pre
    have hKW : Keys W := Keys.kept (KW.ext hE2) hKp ⟨by have := hE2.size; omega, by have := (KW.ext hE0).lt0; omega⟩
    have HS := Lib.hid (frFold_snoc r pre x)
    apply wpIn_block
    refine region_in (r := some l) (n := 7) (fun ⟨a, w, h⟩ => h) (by decide) ?_
    go_wp2_with (refine stop_load 23 (.tmp 6) rfl ?_)
    refine ⟨?_⟩
    refine wpList_load_row rfl 23 (.tmp 6) rfl Bx (by rfl) 23 _ (0, 0) _ hP Tryd.underlying23 rfl (size32.trans (by simp [hq32])) ?_
    simp only [Act.put, List.setIfInBounds_toArray, List.set_cons_zero, List.set_cons_succ]
    refine wpList_load_row rfl 23 (.tmp 4) rfl w0.heap.size (by rfl) 23 _ (0, 0) _ hX Tryd.underlying23 rfl (size32.trans (by simp [hf])) ?_
    simp only [Act.put, List.setIfInBounds_toArray, List.set_cons_zero, List.set_cons_succ]
    go_wp2_with fail
    change Calls _ _ #[sumV x.2.s, sumV (frFold r pre)] _ _
    refine (Node_calls _ _ hq32 hf _ hKW).mono ?_; rintro e W3 ⟨rfl, e3⟩
    have hX3 := hX.below e3 hX.lt
    unfold sumV
    go_wp2_with (refine stop_store 23 (.tmp 4) (.tmp 35) rfl ?_)
    refine ⟨?_⟩
    refine wpList_store_row rfl 23 (.tmp 4) (.tmp 35) rfl w0.heap.size _ (by rfl) (by rfl) 23 _ hX3 (size32.trans (by simp [nodeB_length])) (by simp [hf, nodeB_length]) (by simp [byteV, Value.oneCell']) ?_
    have hX4 : ArrB (W3.setRow w0.heap.size ((nodeB x.2.s (frFold r pre)).map byteV).toArray) w0.heap.size 23 (nodeB x.2.s (frFold r pre)) := Blk.row hX3 _
    have hU : Upd w0.heap.size W (W3.setRow w0.heap.size ((nodeB x.2.s (frFold r pre)).map byteV).toArray) := (Upd.of_ext e3).row _
    generalize W3.setRow w0.heap.size ((nodeB x.2.s (frFold r pre)).map byteV).toArray = W4 at *
    go_wp2_with fail
    have hk : Keep (fun k => k < w2.heap.size ∧ k ≠ w0.heap.size) W W4 := .of_upd hU (fun h => h.2 rfl)
    exact ⟨KeepsFrom.of_upd hU (by omega), hk, by rw [HS.out]; exact hX4, hKp.trans hk⟩
  case done =>
    rintro D ys W hD rfl ⟨hX, hKp⟩ hDef
    rw [frFold_all q hq r] at hX
    have hj := joinS_length (q ++ [r]) (AllH.append hq (AllH.cons hr AllH.nil))
    have hZ3 := Blk.kept hZ2 hKp ⟨by omega, by omega⟩
    obtain ⟨y, hy⟩ : ∃ y, y = joinS (q ++ [r]) := ⟨_, rfl⟩
    rw [← hy] at hX hj
    have Hy := Lib.hid hy
    clear hy
    go_wp2_with (refine stop_load 23 (.tmp 4) rfl ?_)
    refine ⟨?_⟩
    refine wpList_load_row rfl 23 (.tmp 4) rfl w0.heap.size (by rfl) 23 _ (0, 0) _ hX Tryd.underlying23 rfl (size32.trans (by simp [hj])) ?_
    simp only [Act.put, List.setIfInBounds_toArray, List.set_cons_zero, List.set_cons_succ]
    refine wpList_store_row rfl 23 (.tmp 2) (.tmp 36) rfl w.heap.size _ (by rfl) (by rfl) 23 _ hZ3 (size32.trans (by simp [hj])) (by simp [hj, zerosB]) (by simp [byteV, Value.oneCell']) ?_
    have hR : ArrB (W.setRow w.heap.size (y.map byteV).toArray) w.heap.size 23 y := Blk.row hZ3 _
    have hDef' : (W.setRow w.heap.size (y.map byteV).toArray).heap[D]? = some (.deferred (some [])) := (heap_setRow D (by omega)).trans hDef
    have hk : Keep (fun k => k < w.heap.size) w (W.setRow w.heap.size (y.map byteV).toArray) := ((Keep.of_ext hE2).trans (hKp.mono (fun k _ h => ⟨by have := hE2.size; omega, by omega⟩))).trans (Keep.of_upd ((Upd.refl w.heap.size W).row _) (fun h => absurd h (by omega)))
    simp only [Act.put, List.setIfInBounds_toArray, List.set_cons_zero, List.set_cons_succ]
    generalize W.setRow w.heap.size (y.map byteV).toArray = W4 at *
    go_wp2_with fail
    refine ⟨by simp, .inl ⟨_, _, rfl, run_takeDeferred hDef', ?_⟩⟩
    have hk5 : Keep (fun k => k ≠ D) W4 (W4.putObj D (.deferred none)) := Keep.putObj _ _ _ (fun h => h rfl)
    exact ⟨_, results_cell_row rfl _ _ w.heap.size 23 _ (0, 0) _ rfl (Blk.kept hR hk5 (by omega)) Tryd.underlying23 rfl (size32.trans (by simp [hj])), by rw [← Hy.out]; rfl, (hk.trans (hk5.mono (fun k _ h => by omega))).ext⟩
  case stop =>
    rintro D c pre W _ _ h _
    exact h.elim

theorem frRoot_calls (g n : Nat) (pk : List (List UInt8)) (hp : AllH pk) (hn : n = 0 ↔ pk = []) (hpl : pk.length ≤ 1000000) (w : World) (KW : Keys w) (h : FrAt w g (n : Int) pk) :
    Calls Tryd.prog 49 #[.pointer (some ⟨g, 0, none⟩)] w fun e w' => e = .returned (sumV (joinS pk)) ∧ Ext w w' := by
  by_cases h0 : n = 0
  · have hpk := hn.1 h0
    subst h0 hpk
    exact frRoot_zero g [] w KW h
  · have hne : pk ≠ [] := fun e => h0 (hn.2 e)
    obtain ⟨q, r, rfl⟩ : ∃ q r, pk = q ++ [r] := ⟨pk.dropLast, pk.getLast hne, (List.dropLast_concat_getLast hne).symm⟩
    exact frRoot_some g n q r (fun s hs => hp s (by simp [hs])) (hp r (by simp)) (by omega) (by simp at hpl; omega) w KW h

end Go.Proofs.YtlcimlencoaiiaaDoor

namespace Go.Proofs.YtlcimlencoaiiaaDoor
open Go.ChangeShapes Go.WideShapes Go.ChangeAt Go.RowKit
attribute [local go_sem] bs_size bs_toList2 bs_append bs_extract_end bs_extract_begin bs_get wrap64_b grow_cell grow_frozen

theorem shortF_calls (s : List UInt8) (w : World) : Calls Tryd.prog 82 #[.string (bs s)] w fun e w' => e = .returned (.bool ((s.length : Int) != 32)) ∧ w = w' := by
  go_enter Tryd.func82, Tryd.ntmps82
  go_wp2_with fail
  go_ret
  exact ⟨rfl, rfl⟩

/-- One of them is not of 32 bytes. -/
def anyShort (l : List (List UInt8)) : Bool := l.any fun t => decide (t.length ≠ 32)
theorem anyShort_take (l : List (List UInt8)) (k : Nat) (h : k < l.length) : anyShort (l.take (k + 1)) = (anyShort (l.take k) || decide (l[k].length ≠ 32)) := by
  unfold anyShort
  rw [List.take_succ_eq_append_getElem h, List.any_append]
  simp
theorem anyShort_more (l : List (List UInt8)) (k : Nat) (h : anyShort (l.take k) = true) : anyShort l = true := by
  unfold anyShort at *
  rw [← List.take_append_drop k l, List.any_append, h, Bool.true_or]
theorem anyShort_all {l : List (List UInt8)} (h : anyShort l = false) : AllH l := fun s hs => by
  unfold anyShort at h
  rw [List.any_eq_false] at h
  have := h s hs
  simpa using this
/-- What slices.IndexFunc tells. -/
def IdxPost (l : List (List UInt8)) (w : World) (e : Ending) (w' : World) : Prop := ∃ i : Int, e = .returned (.int .i64 i) ∧ (decide (0 ≤ i) = anyShort l) ∧ w = w'

set_option maxHeartbeats 1000000 in
theorem IndexFunc_calls (B : Nat) (A : Option Addr) (cap : Nat) (l : List (List UInt8)) (w : World) (h : Rd w B A (l.map strV)) (hB : B ≤ w.heap.size) (hl : l.length ≤ 9223372036854775807) :
    Calls Tryd.prog 107 #[.slice A l.length cap, .func (.func 82) #[] #[]] w (IdxPost l w) := by
  go_enter Tryd.func107, Tryd.ntmps107
  go_wp2_with fail
  go_loopw [5, 8] (fun s5 s8 wr => ∃ k : Nat, k ≤ l.length ∧ s8 = .int .i64 (k : Int) ∧ anyShort (l.take k) = false ∧ w = wr) (fun _ s8 _ => l.length - (intOf s8).toNat)
  case atStart => exact ⟨0, Nat.zero_le _, rfl, rfl, rfl⟩
  case round =>
    obtain ⟨k, hk, rfl, hs, rfl⟩ := hrel
    by_cases hlt : k < l.length
    · have hlI : (k : Int) < (l.length : Int) := by omega
      obtain ⟨b, off, rfl, hb, hc⟩ := h (map_ne strV hlt)
      have c1 := hc k (strV l[k]) (by simp [hlt])
      have HS := Lib.hid (anyShort_take l k hlt)
      have HM := Lib.hid (anyShort_more l (k + 1))
      clear hc
      generalize l[k] = q at *
      unfold strV at c1
      by_cases hq : q.length = 32
      · have hb : ((q.length : Int) != 32) = false := by rw [hq]; rfl
        have hd : anyShort (l.take (k + 1)) = false := by rw [HS.out, hs]; simp [hq]
        have HD := Lib.hid hd
        clear hd hs
        go_wp2_with fail
        refine (shortF_calls q _).mono ?_; rintro e w1 ⟨rfl, rfl⟩
        rw [hb]
        go_wp2_with fail
        go_roundw
        case rel => exact ⟨k + 1, by omega, by go_num, HD.out, trivial⟩
        case measure => simp [intOf]; omega
      · have hb : ((q.length : Int) != 32) = true := by simp; omega
        have hd : anyShort (l.take (k + 1)) = true := by rw [HS.out]; simp [hq]
        have HD := Lib.hid (HM.out hd)
        clear hd hs
        go_wp2_with fail
        refine (shortF_calls q _).mono ?_; rintro e w1 ⟨rfl, rfl⟩
        rw [hb]
        go_wp2_with fail
        go_ret
        exact ⟨_, rfl, by rw [HD.out]; simp, rfl⟩
    · obtain rfl : k = l.length := by omega
      rw [List.take_length] at hs
      have HD := Lib.hid hs
      clear hs
      go_wp2_with fail
      go_ret
      exact ⟨_, rfl, by rw [HD.out]; rfl, rfl⟩
theorem ContainsFunc_calls (B : Nat) (A : Option Addr) (cap : Nat) (l : List (List UInt8)) (w : World) (h : Rd w B A (l.map strV)) (hB : B ≤ w.heap.size) (hl : l.length ≤ 9223372036854775807) :
    Calls Tryd.prog 84 #[.slice A l.length cap, .func (.func 82) #[] #[]] w fun e w' => e = .returned (.bool (anyShort l)) ∧ w = w' := by
  go_enter Tryd.func84, Tryd.ntmps84
  go_wp2_with fail
  refine (IndexFunc_calls B A cap l _ h hB hl).mono ?_; rintro e w1 ⟨i, rfl, hi, rfl⟩
  have HI := Lib.hid hi
  clear hi
  go_wp2_with fail
  go_ret
  exact ⟨ret_bool HI.out, rfl⟩

theorem stop_copy {P : Program} {ops : Array Oper} {Q : Exit → Act → World → Prop} {o : Oper} {rest : List Oper} {a : Act} {w : World} (d x : Operand) (dT sT : TypeId) (ho : o.op = .call { callee := .builtin .copy, args := #[d, x], argTypes := #[dT, sT] }) (h : Stopped (wpList P ops Q (o :: rest) a w)) : wpList P ops Q (o :: rest) a w := h.go
/-- copy(h[:], t), t of 32 bytes. -/
theorem copy_sum (w : World) (g : Nat) (s q : List UInt8) (hs : s.length = 32) (hq : q.length = 32) (hg : ArrB w g 23 s) (ty : TypeId) :
    (Builtin.copy_ #[47, 9] ty #[.slice (some ⟨g, 0, none⟩) 32 32, .string (bs q)]).run Tryd.prog w = .ok (goInt 32) (w.setRow g (q.map byteV).toArray) := by
  have h := Lib.run_copy_row_string (P := Tryd.prog) w 47 9 ty 5 g 0 32 32 (bs q) (s.map byteV).toArray 23 Tryd.underlying47 (by kernel_rfl) hg (by rw [bs_size, hq]; exact Nat.le_refl _) (by simp [bs_size, hs, hq])
  rw [h, bs_size, hq, bs_toList]
  congr 2
  simp [hs, bytes_cells]
section
variable {P : Program} {ops : Array Oper} {T : Act → World → Prop} {o : Oper} {rest : List Oper} {a : Act} {w w0 : World} {m k : Nat}
/-- A whole row loaded ahead of a barrier. -/
theorem bar_row (hh : held loudOp .any ops m k = true) (hl : loudOp o = false) (hw : Region.wanted o (yielded ops a.tmps) = true) (ty : TypeId) (p : Operand) (ho : o.op = .load ty p) (g : Nat) (hx : a.eval p = .pointer (some ⟨g, 0, none⟩))
    (t : TypeId) (cs : Array Value) (d : TypeDesc) (hg : Blk w0 g t cs) (hu : P.underlying ty = some d) (hd : (match d with | .struct _ | .array _ _ => true | _ => false) = true) (hi : (P.info? ty).map (·.size) = some cs.size)
    (h : wpBar P .any ops (fun w' => ∃ x : More w0, w' = grow w0 x) loudOp m T (k + 1) rest (a.put o.dst (.agg cs)) w) : wpBar P .any ops (fun w' => ∃ x : More w0, w' = grow w0 x) loudOp m T k (o :: rest) a w := by
  refine bar_quiet hh hl hw fun K hK => ⟨.agg cs, fun w' hs => ?_, hK _ h⟩
  obtain ⟨x, rfl⟩ := hs
  unfold Oper.quietAt execOp
  simp only [ho, hx, Instr.loadAt, Instr.sureAddr, Sem.run_bind, Sem.run_pure, Result.andThen_ok, run_loadVar_row (grow w0 x) g t ty cs (0, 0) d (Blk.grow x hg) hu hd hi]
  exact ⟨rfl, rfl⟩
end
/-- append(up, x), as an operation. -/
theorem append_op {o : Oper} {a : Act} {w : World} {K : Act → World → Prop} {Q : Exit → Act → World → Prop} (s x : Operand) (ho : o.op = .call { callee := .builtin .append, args := #[s, x], argTypes := #[29, 29] })
    (v : Value) (l : List (List UInt8)) (y : List UInt8) (hs : a.eval s = v) (hx : a.eval x = .slice (some ⟨w.heap.size, 0, none⟩) 1 1) (hy : y.length = 32) (hn : l.length ≤ 1000000) (base : Nat) (hb : base ≤ w.heap.size) (n : Nat) (hln : l.length = n)
    (h : w.ownsRow base 23 32 v n (flatS l))
    (hK : ∀ A c w', w'.ownsRow base 23 32 (.slice A (n + 1) c) (n + 1) (flatS (l ++ [y])) → (w.alloc (.cells (flatS [y]).toArray 23)).grownBy w' v.ownBlock → K (a.put o.dst (.slice A (n + 1) c)) w') :
    o.wp Tryd.prog a (w.alloc (.cells (flatS [y]).toArray 23)) K Q := by
  obtain ⟨i0, z, hi, hz0, hz1, hz2, hz3⟩ := info_sum
  refine wp_append_own _ s x 29 ho base 23 i0 z 32 32 Tryd.underlying29 hi hz0 hz1 hz2 hz3 (by decide) v n (flatS l) hs (h.alloc _) ⟨w.heap.size, 0, none⟩ 1 1 (hcells y) hx (by rw [hcells_length, hy]) (fun j u hj => ?_) (hcells_one y) (by unfold maxLen; omega) (by omega) (by simp; omega) fun v' w' h1 h2 _ => ?_
  · rw [Addr.add_mid, Nat.zero_add, Blk.cell (Blk.new w 23 (flatS [y]).toArray) j, flatS_one]
    simpa using hj
  · obtain ⟨A, c, rfl⟩ := own_slice h1
    rw [← flatS_one, ← flatS_append] at h1
    exact hK A c w' h1 h2
/-- What front.Read makes of bytes. -/
def frRead (s : List UInt8) : Option (Nat × List (List UInt8)) :=
  if (((⟨s, false⟩ : Oct.Sc).num 1099511627776).2.list 64).2.endE = 0 ∧ (((⟨s, false⟩ : Oct.Sc).num 1099511627776).2.list 64).1.length = Tree.ones ((⟨s, false⟩ : Oct.Sc).num 1099511627776).1.toNat ∧ anyShort (((⟨s, false⟩ : Oct.Sc).num 1099511627776).2.list 64).1 = false
  then some (((⟨s, false⟩ : Oct.Sc).num 1099511627776).1.toNat, (((⟨s, false⟩ : Oct.Sc).num 1099511627776).2.list 64).1) else none
def RdPost (r : Option (Nat × List (List UInt8))) (w : World) (e : Ending) (w' : World) : Prop := match r with
  | none => e = .returned (.tuple #[.pointer none, .int .i64 10]) ∧ Ext w w'
  | some (n, l) => ∃ g, e = .returned (.tuple #[.pointer (some ⟨g, 0, none⟩), .int .i64 0]) ∧ w.heap.size ≤ g ∧ FrAt w' g (n : Int) l ∧ Ext w w'
theorem texts_length : ∀ (n : Nat) (x : Oct.Sc), (x.texts n).1.length ≤ n
  | 0, x => by simp [Oct.Sc.texts]
  | n + 1, x => by
    have ih := texts_length n (x.text 16777216).2
    cases h : (x.text 16777216).2.spoil
    · rw [Oct.texts_go n x h]; simp; omega
    · rw [Oct.texts_stop n x h]; simp
theorem list_most (x : Oct.Sc) : (x.list 64).1.length ≤ 64 := by
  have h0 := Oct.num_nonneg x 64
  have h1 := Oct.num_le x 64 (by decide)
  unfold Oct.Sc.list
  have := texts_length (x.num 64).1.toNat (x.num 64).2
  split <;> simp <;> omega

set_option maxHeartbeats 2000000 in
theorem frRead_calls (s : List UInt8) (hs : s.length ≤ 1099511627776) (w : World) : Calls Tryd.prog 54 #[.string (bs s)] w (RdPost (frRead s) w) := by
  obtain ⟨post, hpost⟩ : ∃ post, post = RdPost (frRead s) w := ⟨_, rfl⟩
  rw [← hpost]
  unfold frRead at hpost
  have hn0 := Oct.num_nonneg (⟨s, false⟩ : Oct.Sc) 1099511627776
  have hn1 := Oct.num_le (⟨s, false⟩ : Oct.Sc) 1099511627776 (by decide)
  have hl1 := Oct.num_left_le (⟨s, false⟩ : Oct.Sc) 1099511627776
  have HN := fun (w : World) h => Num_calls w.heap.size (⟨s, false⟩ : Oct.Sc) 1099511627776 (w.alloc (.cells #[.string (bs s), .bool false] 122)) h (by simp; omega) (by omega) (by omega)
  generalize ((⟨s, false⟩ : Oct.Sc).num 1099511627776) = nx at *
  obtain ⟨nI, X1⟩ := nx
  simp only at *
  obtain ⟨n, rfl⟩ : ∃ n : Nat, nI = (n : Int) := ⟨nI.toNat, by omega⟩
  rw [Int.toNat_natCast] at hpost
  have hlm := list_most X1
  have HL := fun (g : Nat) (w : World) h => ScList_calls g X1 64 w h (by omega) (by omega) (by omega)
  generalize X1.list 64 = lx at *
  obtain ⟨l, X2⟩ := lx
  simp only at *
  have HL2 := Lib.hid HL; have HN2 := Lib.hid HN; have Hpost := Lib.hid hpost
  clear HL HN hpost hn0 hl1
  go_enter Tryd.func54, Tryd.ntmps54
  go_wp2_with fail
  refine (Read_calls s _).mono ?_; rintro e w1 ⟨rfl, rfl⟩
  go_wp2_with fail
  refine (HN2.out w (Read_at s w)).mono ?_; rintro e w2 ⟨rfl, hS2, hu2⟩
  have e2 : Ext w w2 := Ext.upd ((Ext.refl w).alloc _) hu2 (Nat.le_refl _)
  have hz2 := hu2.size
  have hS2lt := hS2.lt
  go_wp2_with fail
  have hS3 := hS2.ext ((Ext.refl w2).alloc (.cells #[.int .i64 (n : Int), .slice none 0 0] 65))
  have hB3 := Blk.new w2 65 #[.int .i64 (n : Int), .slice none 0 0]
  refine (HL2.out w.heap.size _ hS3).mono ?_; rintro e w4 ⟨hS4, ⟨A, c, rfl, hR⟩, hu4⟩
  have hB4 := hB3.kept (Keep.of_upd (S := fun k => k ≠ w.heap.size) hu4 (fun h => h rfl)) (by omega)
  have e4 : Ext w w4 := (e2.alloc (.cells #[.int .i64 (n : Int), .slice none 0 0] 65)).upd hu4 (Nat.le_refl _)
  have hz4 := hu4.size
  simp only [World.size_alloc] at hz4 hR
  have hRd := hR.rd
  clear hu4 hu2 hS3 hS2 hB3 HL2 HN2
  go_wp2_with fail
  refine (End_calls _ _ _ hS4).mono ?_; rintro e w5 ⟨rfl, rfl⟩
  have c0 : w4.cell? ⟨w2.heap.size, 0, none⟩ = some (.int .i64 (n : Int)) := Blk.cell hB4 0
  have hwn : IntKind.u64.wrap (n : Int) = (n : Int) := u64_eq rfl (by omega) (by omega)
  by_cases hE : X2.endE = 0
  · have hEb : (X2.endE != 0) = false := by rw [hE]; rfl
    have HE := Lib.hid hE
    clear hE
    by_cases hO : l.length = Tree.ones n
    · have hOb : ((l.length : Int) != (Tree.ones n : Int)) = false := by rw [hO]; simp
      have HO := Lib.hid hO
      clear hO
      cases hA : anyShort l
      · have HA := Lib.hid hA
        have hall := anyShort_all hA
        clear hA
        go_wp2_with fail
        refine (OnesCount_calls n (by omega) _).mono ?_; rintro e w5 ⟨rfl, rfl⟩
        go_wp2_with fail
        refine (ContainsFunc_calls w4.heap.size A c l _ hRd (Nat.le_refl _) (by omega)).mono ?_; rintro e w5 ⟨rfl, rfl⟩
        rw [HA.out]
        go_wp2_with fail
        clear hRd c0 hS4
        go_loopw [9, 10, 40] (fun s9 s10 s40 wr => ∃ (k : Nat) (v : Value), k ≤ l.length ∧ s40 = .int .i64 (k : Int) ∧ Blk wr w2.heap.size 65 #[.int .i64 (n : Int), v] ∧ OwnN wr w4.heap.size v (l.take k) ∧ Upd w2.heap.size w4 wr) (fun _ _ s40 _ => l.length - (intOf s40).toNat)
        case atStart => exact ⟨0, _, Nat.zero_le _, rfl, hB4, OwnN.nil _ _, Upd.refl _ _⟩
        case round =>
          obtain ⟨wo, rfl⟩ : ∃ wo : World, wo = wr := ⟨_, rfl⟩
          obtain ⟨k, v, hk, rfl, hB, hO, hU⟩ := hrel
          by_cases hlt : k < l.length
          · have hlI : (k : Int) < (l.length : Int) := by omega
            obtain ⟨b, off, rfl, hb1, hb2, hc⟩ := hR (map_ne strV hlt)
            have hUlt := hU.size
            have c1 : wo.cell? ⟨b, off + k, none⟩ = some (strV l[k]) := (World.cell?_of_block (hU.block b hb2 (fun e => by injection e with e; omega))).trans (hc k _ (by simp [hlt]))
            have hq := hall.get k hlt
            have HS := Lib.hid (List.take_succ_eq_append_getElem hlt)
            have hblt := World.block_lt_of_cell? wo _ c1
            have Hk := Lib.hid (show (l.take k).length = k by rw [List.length_take]; omega)
            have Hall := Lib.hid (hall.take k)
            clear hc
            generalize l[k] = q at *
            unfold strV at c1
            go_wp2_with (refine stop_copy (.tmp 44) (.tmp 45) 47 9 rfl ?_)
            refine ⟨?_⟩
            change wpList _ _ _ _ _ (wo.alloc (.cells ((zerosB 32).map byteV).toArray 23))
            have hZ : ArrB (wo.alloc (.cells ((zerosB 32).map byteV).toArray 23)) wo.heap.size 23 (zerosB 32) := Blk.new _ _ _
            refine Lib.wpList_copy_run _ rfl (.tmp 44) (.tmp 45) 47 9 rfl _ _ rfl rfl (copy_sum _ wo.heap.size _ q (by simp [zerosB]) hq hZ _) ?_
            simp only [Act.put, List.setIfInBounds_toArray, List.set_cons_zero, List.set_cons_succ]
            have hX : ArrB ((wo.alloc (.cells ((zerosB 32).map byteV).toArray 23)).setRow wo.heap.size (q.map byteV).toArray) wo.heap.size 23 q := Blk.row hZ _
            have eX : Ext wo ((wo.alloc (.cells ((zerosB 32).map byteV).toArray 23)).setRow wo.heap.size (q.map byteV).toArray) := ((Ext.refl wo).alloc _).row (Nat.le_refl _) _
            have hB1 := hB.below eX hB.lt
            have hO1 := hO.ext eX
            have hU1 := hU.ext eX
            have hgl := hB1.lt
            have c2 : ((wo.alloc (.cells ((zerosB 32).map byteV).toArray 23)).setRow wo.heap.size (q.map byteV).toArray).cell? ⟨w2.heap.size, 1, none⟩ = some v := Blk.cell hB1 1
            obtain ⟨hO1, hO1n⟩ := hO1
            rw [Hk.out] at hO1
            obtain ⟨A1, cap1, rfl⟩ := own_slice hO1
            clear hO1n
            clear c1 hZ hO hU hB eX
            generalize (wo.alloc (.cells ((zerosB 32).map byteV).toArray 23)).setRow wo.heap.size (q.map byteV).toArray = w5 at *
            go_wp2_with fail
            refine region_bar0 7 (by kernel_rfl) (by kernel_rfl) (fun x => ?_)
            repeat (first | (refine bar_quiet (by decide +kernel) (by rfl) (by rfl) (fun K hK => ?_); go_big_quiet_op; refine hK _ ?_; clear hK K) | (refine bar_still (by rfl) (by rfl) (fun K hK => ?_); go_big_quiet_op; refine hK _ ?_; clear hK K) | (refine bar_skip (by rfl) ?_; simp only [Act.put, List.setIfInBounds_toArray, List.set_cons_zero, List.set_cons_succ]))
            refine bar_row (by decide +kernel) (by rfl) (by rfl) 23 (.tmp 10) rfl wo.heap.size (by rfl) 23 _ _ hX Tryd.underlying23 rfl (size32.trans (by simp [hq])) ?_
            simp only [Act.put, List.setIfInBounds_toArray, List.set_cons_zero, List.set_cons_succ]
            refine bar_loud (by rfl) (by rfl) (fun K E hK => ?_)
            refine wp_buildSums 1 _ rfl [q] (AllH.cons hq AllH.nil) rfl (by decide) (by decide) (by rfl) ?_
            obtain ⟨x2, hx2⟩ := more_of ((grow_ext x).alloc (.cells (flatS [q]).toArray 23))
            refine hK _ _ ⟨x2, hx2⟩ ?_; clear hK K E hx2 x2
            simp only [Act.put, List.setIfInBounds_toArray, List.set_cons_zero, List.set_cons_succ]
            have hB2 := hB1.below (grow_ext x) hgl
            have hO2 := owns_ext hO1 (grow_ext x)
            have hU2 := hU1.ext (grow_ext x)
            have hz5 := hU2.size
            clear hB1 hO1 hU1 hX c2
            refine bar_last (by decide) (by rfl) (by rfl) (fun K E hK => ?_)
            refine append_op (.tmp 51) (.tmp 53) rfl _ (l.take k) q rfl rfl hq (by rw [Hk.out]; omega) w4.heap.size hz5 k Hk.out hO2 fun A5 c5 w7 hO5 hG5 => ?_
            refine hK _ _ ?_; clear hK K E
            simp only [Act.put, List.setIfInBounds_toArray, List.set_cons_zero, List.set_cons_succ]
            have hrow : ∀ i, (Value.slice A1 k cap1).ownBlock = some i → w4.heap.size ≤ i := fun i hi => (hO2.lt i hi).1
            have hB5 := (Blk.alloc hB2 (.cells (flatS [q]).toArray 23)).kept (Keep.of_grown (S := fun i => i = w2.heap.size) hG5 (fun i hi e => by have := hrow i hi; omega)) rfl
            have hU5 : Keep (fun i => i < w4.heap.size ∧ i ≠ w2.heap.size) w4 w7 := ((Keep.of_upd (S := fun i => i < w4.heap.size ∧ i ≠ w2.heap.size) hU2 (fun h => h.2 rfl)).alloc (.cells (flatS [q]).toArray 23)).trans (Keep.of_grown hG5 (fun i hi hs => by have := hrow i hi; omega))
            have hN5 : OwnN w7 w4.heap.size (.slice A5 (k + 1) c5) (l.take k ++ [q]) := ⟨by rw [List.length_append, Hk.out]; exact hO5, fun e => absurd e (by simp)⟩
            have b1 : w7.cell? ⟨w2.heap.size, 1, none⟩ = some (.slice A1 k cap1) := Blk.cell hB5 1
            have f1 : w7.frozen? ⟨w2.heap.size, 1, none⟩ = false := Blk.frozen hB5 1
            have HB5 := Lib.hid hB5; have HU5 := Lib.hid hU5; have HN5 := Lib.hid hN5
            clear hB5 hU5 hN5 hG5 hO5 hrow hB2 hO2 hU2 hz5
            repeat (first | (refine bar_quiet (by decide +kernel) (by rfl) (by rfl) (fun K hK => ?_); go_big_quiet_op; refine hK _ ?_; clear hK K) | (refine bar_still (by rfl) (by rfl) (fun K hK => ?_); go_big_quiet_op; refine hK _ ?_; clear hK K) | (refine bar_skip (by rfl) ?_; simp only [Act.put, List.setIfInBounds_toArray, List.set_cons_zero, List.set_cons_succ]))
            (refine bar_last (by decide) (by rfl) (by rfl) (fun K E hK => ?_); go_big_op; refine hK _ _ ?_; clear hK K E)
            refine bar_nil ?_
            go_wp2_with fail
            go_roundw
            case rel => exact ⟨k + 1, _, by omega, by go_num, Blk.set_ HB5.out 1 _, by rw [HS.out]; exact HN5.out.keep ((Keep.refl (fun i => i ≠ w2.heap.size) w7).setCell (p := ⟨w2.heap.size, 1, none⟩) (fun h => h rfl) _) (fun hne => HN5.out.ne HB5.out (by decide) hne), Keep.upd_ (HU5.out.setCell (p := ⟨w2.heap.size, 1, none⟩) (fun h => h.2 rfl) _)⟩
            case measure => simp [intOf]; omega
          · obtain rfl : k = l.length := by omega
            rw [List.take_length] at hO
            go_wp2_with fail
            rw [Hpost.out, if_pos ⟨HE.out, HO.out, HA.out⟩]
            exact ⟨_, rfl, by have := e2.size; omega, ⟨_, hB, hO.less (Nat.zero_le _)⟩, e4.upd hU (by have := e2.size; omega)⟩
      · have HA := Lib.hid hA
        clear hA
        go_wp2_with fail
        refine (OnesCount_calls n (by omega) _).mono ?_; rintro e w5 ⟨rfl, rfl⟩
        go_wp2_with fail
        refine (ContainsFunc_calls w4.heap.size A c l _ hRd (Nat.le_refl _) (by omega)).mono ?_; rintro e w5 ⟨rfl, rfl⟩
        rw [HA.out]
        go_wp2_with fail
        rw [Hpost.out, if_neg (fun h => by rw [HA.out] at h; cases h.2.2)]
        exact ⟨rfl, e4⟩
    · have hOb : ((l.length : Int) != (Tree.ones n : Int)) = true := by simp; omega
      have HO := Lib.hid hO
      clear hO
      go_wp2_with fail
      refine (OnesCount_calls n (by omega) _).mono ?_; rintro e w5 ⟨rfl, rfl⟩
      go_wp2_with fail
      rw [Hpost.out, if_neg (fun h => HO.out h.2.1)]
      exact ⟨rfl, e4⟩
  · have hEb : (X2.endE != 0) = true := by simpa using hE
    have HE := Lib.hid hE
    clear hE
    go_wp2_with fail
    rw [Hpost.out, if_neg (fun h => HE.out h.1)]
    exact ⟨rfl, e4⟩

end Go.Proofs.YtlcimlencoaiiaaDoor

namespace Go.Proofs.YtlcimlencoaiiaaDoor
open Go.ChangeShapes Go.WideShapes Go.ChangeAt Go.RowKit
attribute [local go_sem] bs_size bs_toList2 bs_append bs_extract_end bs_extract_begin bs_get wrap64_b grow_cell grow_frozen

theorem refFrRoot_zero (v : Value) (w : World) (h : SlS w w.heap.size v []) :
    Calls Tryd.prog 56 #[v] w fun e w' => e = .returned (sumV emptyB) ∧ Ext w w' := by
  obtain ⟨A, cap, rfl, _⟩ := h
  have hE0 := (Ext.refl w).alloc (.cells ((zerosB 32).map byteV).toArray 23)
  have hZ : ArrB (w.alloc (.cells ((zerosB 32).map byteV).toArray 23)) w.heap.size 23 (zerosB 32) := Blk.new _ _ _
  have hOf : Calls Tryd.prog 30 #[.string (bs [])] (w.alloc (.cells ((zerosB 32).map byteV).toArray 23)) fun e w' => e = .returned (sumV emptyB) ∧ Ext (w.alloc (.cells ((zerosB 32).map byteV).toArray 23)) w' := refOf_calls [] _ (by simp)
  have HOf := Lib.hid hOf
  clear hOf
  go_enter Tryd.func56, Tryd.ntmps56
  go_wp2_with fail
  refine HOf.out.mono ?_; rintro e w1 ⟨rfl, e1⟩
  unfold sumV
  have hZ1 := Blk.below hZ e1 hZ.lt
  go_wp2_with (refine stop_store 23 (.tmp 2) (.tmp 8) rfl ?_)
  refine ⟨?_⟩
  refine wpList_store_row rfl 23 (.tmp 2) (.tmp 8) rfl w.heap.size _ (by rfl) (by rfl) 23 _ hZ1 (size32.trans (by simp [emptyB_length])) (by simp [emptyB_length, zerosB]) (by simp [byteV, Value.oneCell']) ?_
  simp only [Act.put, List.setIfInBounds_toArray, List.set_cons_zero, List.set_cons_succ]
  have hZ2 : ArrB (w1.setRow w.heap.size (emptyB.map byteV).toArray) w.heap.size 23 emptyB := Blk.row hZ1 _
  have hE2 := (hE0.trans e1).row (Nat.le_refl _) (emptyB.map byteV).toArray
  go_wp2_with fail
  exact bodyPost_ret (results_cell_row rfl _ _ w.heap.size 23 _ (0, 0) _ rfl hZ2 Tryd.underlying23 rfl (size32.trans (by simp [emptyB_length]))) rfl ⟨rfl, hE2⟩

set_option maxHeartbeats 1000000 in
theorem refFrRoot_some (v : Value) (q : List (List UInt8)) (r : List UInt8) (hq : AllH q) (hr : r.length = 32) (hql : q.length ≤ 1000000) (w : World) (h : SlS w w.heap.size v (q ++ [r])) :
    Calls Tryd.prog 56 #[v] w fun e w' => e = .returned (sumV (joinS (q ++ [r]))) ∧ Ext w w' := by
  have hj0 : joinS (q ++ [r]) = q.foldr nodeB r := by unfold joinS Tree.join; rw [List.getLast?_concat]; simp
  rw [hj0]
  have hy0 := foldr_length q r hr
  obtain ⟨y, hy⟩ : ∃ y, y = q.foldr nodeB r := ⟨_, rfl⟩
  rw [← hy] at hy0 ⊢
  have Hy := Lib.hid hy
  clear hy hj0
  obtain ⟨A, cap, rfl, hA, hc, hc63, hrd⟩ := h
  have hE0 := (Ext.refl w).alloc (.cells ((zerosB 32).map byteV).toArray 23)
  have hZ : ArrB (w.alloc (.cells ((zerosB 32).map byteV).toArray 23)) w.heap.size 23 (zerosB 32) := Blk.new _ _ _
  have hlen : (q ++ [r]).length = q.length + 1 := by simp
  rw [hlen] at hc ⊢
  have hall := AllH.append hq (AllH.cons hr AllH.nil)
  obtain ⟨b, off, rfl, hbl, hm⟩ := rds_mid (hrd.below hE0 (Nat.le_refl _)) hall (k := q.length) (by simp)
  rw [show (q ++ [r])[q.length]'(by simp) = r from by simp] at hm
  have hb0 : ((q.length : Int) + 1 == 0) = false := by rw [beq_eq_false_iff_ne]; omega
  clear hlen hA
  go_enter Tryd.func56, Tryd.ntmps56
  go_wp2_with (refine stop_load 23 (.tmp 13) rfl ?_)
  refine ⟨?_⟩
  change wpList _ _ _ _ _ (w.alloc (.cells ((zerosB 32).map byteV).toArray 23))
  generalize w.alloc (.cells ((zerosB 32).map byteV).toArray 23) = w0 at *
  refine wpList_load_mid rfl 23 (.tmp 13) rfl b (off + q.length * 32) (by rfl) (hcells r) _ hm Tryd.underlying23 rfl (size32l _ hr) ?_
  simp only [Act.put, List.setIfInBounds_toArray, List.set_cons_zero, List.set_cons_succ]
  unfold hcells
  go_wp2_with (refine stop_store 23 (.tmp 3) (.tmp 14) rfl ?_)
  refine ⟨?_⟩
  change wpList _ _ _ _ _ (w0.alloc (.cells ((zerosB 32).map byteV).toArray 23))
  have hX : ArrB (w0.alloc (.cells ((zerosB 32).map byteV).toArray 23)) w0.heap.size 23 (zerosB 32) := Blk.new _ _ _
  refine wpList_store_row rfl 23 (.tmp 3) (.tmp 14) rfl w0.heap.size _ (by rfl) (by rfl) 23 _ hX (size32.trans (by simp [hr])) (by simp [hr, zerosB]) (by simp [byteV, Value.oneCell']) ?_
  simp only [Act.put, List.setIfInBounds_toArray, List.set_cons_zero, List.set_cons_succ]
  have hX1 : ArrB ((w0.alloc (.cells ((zerosB 32).map byteV).toArray 23)).setRow w0.heap.size (r.map byteV).toArray) w0.heap.size 23 r := Blk.row hX _
  have e1 : Ext w0 ((w0.alloc (.cells ((zerosB 32).map byteV).toArray 23)).setRow w0.heap.size (r.map byteV).toArray) := ((Ext.refl w0).alloc _).row (Nat.le_refl _) _
  clear hX hm
  generalize (w0.alloc (.cells ((zerosB 32).map byteV).toArray 23)).setRow w0.heap.size (r.map byteV).toArray = w1 at *
  have hZ1 := Blk.below hZ e1 hZ.lt
  have hsz := e1.size
  have hz1 := hZ.lt
  have hE1 := hE0.trans e1
  have hrd1 : Rd w1 w1.heap.size (some ⟨b, off, none⟩) (flatS q) := by
    have h3 := rds_take (hrd.below hE1 (Nat.le_refl _)) hall q.length
    rw [List.take_left] at h3
    exact h3.more hE1.size
  have hbw : q ≠ [] → b < w1.heap.size := fun _ => by omega
  clear hrd hZ
  go_wp2_with fail
  go_loopw [4] (fun s4 wr => ∃ (j : Nat) (x : List UInt8), j ≤ q.length ∧ s4 = .int .i64 ((j : Int) - 1) ∧ x.length = 32 ∧ (q.take j).foldr nodeB x = y ∧ ArrB wr w0.heap.size 23 x ∧ Upd w0.heap.size w1 wr) (fun s4 _ => (intOf s4 + 1).toNat)
  case atStart => exact ⟨q.length, r, Nat.le_refl _, by congr 1; omega, hr, by rw [List.take_length, ← Hy.out], hX1, Upd.refl _ _⟩
  case round =>
    obtain ⟨wo, rfl⟩ : ∃ wo : World, wo = wr := ⟨_, rfl⟩
    obtain ⟨j, z, hj, rfl, hx, hf, hX, hU⟩ := hrel
    by_cases h0 : j = 0
    · subst h0
      have hxy : z = y := hf
      subst hxy
      have hZ3 := hZ1.kept (S := fun k => k ≠ w0.heap.size) (Keep.of_upd hU (fun h => h rfl)) (by omega)
      clear hf
      go_wp2_with (refine stop_load 23 (.tmp 3) rfl ?_)
      refine ⟨?_⟩
      refine wpList_load_row rfl 23 (.tmp 3) rfl w0.heap.size (by rfl) 23 _ (0, 0) _ hX Tryd.underlying23 rfl (size32.trans (by simp [hx])) ?_
      simp only [Act.put, List.setIfInBounds_toArray, List.set_cons_zero, List.set_cons_succ]
      refine wpList_store_row rfl 23 (.tmp 2) (.tmp 28) rfl w.heap.size _ (by rfl) (by rfl) 23 _ hZ3 (size32.trans (by simp [hx])) (by simp [hx, zerosB]) (by simp [byteV, Value.oneCell']) ?_
      have hR : ArrB (wo.setRow w.heap.size (z.map byteV).toArray) w.heap.size 23 z := Blk.row hZ3 _
      have hE : Ext w (wo.setRow w.heap.size (z.map byteV).toArray) := (hE1.upd hU (by omega)).row (Nat.le_refl _) _
      simp only [Act.put, List.setIfInBounds_toArray, List.set_cons_zero, List.set_cons_succ]
      go_wp2_with fail
      exact bodyPost_ret (results_cell_row rfl _ _ w.heap.size 23 _ (0, 0) _ rfl hR Tryd.underlying23 rfl (size32.trans (by simp [hx]))) rfl ⟨rfl, hE⟩
    · obtain ⟨i, rfl⟩ : ∃ i, j = i + 1 := ⟨j - 1, by omega⟩
      have hij : ((i + 1 : Nat) : Int) - 1 = (i : Int) := by omega
      rw [hij]
      have hi0 : (0 : Int) ≤ (i : Int) := by omega
      have hil : i < q.length := by omega
      have hrdo := hrd1.kept (S := fun k => k ≠ w0.heap.size) (Keep.of_upd hU (fun h => h rfl)) (Nat.le_refl _)
      obtain ⟨hbl1, hm⟩ := rds_at hrd1 hq hil
      have hmo : wo.rangeAt b (off + i * 32) (hcells q[i]) := fun k u hu => (World.cell?_of_block (hU.block b (by omega) (fun e => by injection e with e; omega))).trans (hm k u hu)
      have hq32 := hq.get i hil
      have hf2 : (q.take i).foldr nodeB (nodeB q[i] z) = y := by
        rw [← hf, List.take_succ_eq_append_getElem hil, List.foldr_append]
        rfl
      have HF := Lib.hid hf2
      have hz := hU.size
      have hbo : b < wo.heap.size := by omega
      clear hf hf2 hm hrdo hij
      generalize q[i] = p at *
      go_wp2_with fail
      refine region_mix 6 (by kernel_rfl) (by kernel_rfl) (fun x => ?_); simp only [List.take_succ_cons, List.take_zero, List.drop_succ_cons, List.drop_zero]
      iterate 3 (first | (refine mix_quiet (by rfl) (by rfl) (fun K hK => ?_); go_big_quiet_op; refine hK _ ?_; clear hK K) | (refine mix_skip (by rfl) ?_; simp only [Act.put, List.setIfInBounds_toArray, List.set_cons_zero, List.set_cons_succ]))
      refine mix_mid (by rfl) (by rfl) 23 (.tmp 24) rfl b (off + i * 32) (by rfl) _ _ hmo hbo Tryd.underlying23 rfl (size32l _ hq32) ?_
      simp only [Act.put, List.setIfInBounds_toArray, List.set_cons_zero, List.set_cons_succ]
      refine mix_row (by rfl) (by rfl) 23 (.tmp 3) rfl w0.heap.size (by rfl) 23 _ _ hX Tryd.underlying23 rfl (size32.trans (by simp [hx])) ?_
      simp only [Act.put, List.setIfInBounds_toArray, List.set_cons_zero, List.set_cons_succ]
      (refine mix_loud (by rfl) (by rfl) (fun K E hK => ?_); go_big_op)
      change Calls _ _ #[sumV p, sumV z] _ _
      refine (refNode_calls p z hq32 hx _).mono ?_; rintro e w3 ⟨rfl, hd⟩
      obtain ⟨x', rfl⟩ := more_ext _ hd; clear hd
      refine hK _ _ ⟨_, rfl⟩ ?_; clear hK K E
      refine mix_nil ?_
      have hX3 := hX.below (grow_ext x') hX.lt
      have hU3 := hU.ext (grow_ext x')
      unfold sumV
      refine wpList_store_row rfl 23 (.tmp 3) (.tmp 27) rfl w0.heap.size _ (by rfl) (by rfl) 23 _ hX3 (size32.trans (by simp [nodeB_length])) (by simp [hx, nodeB_length]) (by simp [byteV, Value.oneCell']) ?_
      have hX4 : ArrB ((grow wo x').setRow w0.heap.size ((nodeB p z).map byteV).toArray) w0.heap.size 23 (nodeB p z) := Blk.row hX3 _
      have hU4 := Upd.row hU3 ((nodeB p z).map byteV).toArray
      clear hX hX3 hU hU3 hmo
      generalize (grow wo x').setRow w0.heap.size ((nodeB p z).map byteV).toArray = w4 at *
      simp only [Act.put, List.setIfInBounds_toArray, List.set_cons_zero, List.set_cons_succ]
      go_wp2_with fail
      go_roundw
      case rel => exact ⟨i, nodeB p z, by omega, by go_num, nodeB_length _ _, HF.out, hX4, hU4⟩
      case measure => simp [intOf]

theorem refFrRoot_calls (v : Value) (pk : List (List UInt8)) (hp : AllH pk) (hpl : pk.length ≤ 1000000) (w : World) (h : SlS w w.heap.size v pk) :
    Calls Tryd.prog 56 #[v] w fun e w' => e = .returned (sumV (joinS pk)) ∧ Ext w w' := by
  by_cases h0 : pk = []
  · subst h0
    exact refFrRoot_zero v w h
  · obtain ⟨q, r, rfl⟩ : ∃ q r, pk = q ++ [r] := ⟨pk.dropLast, pk.getLast h0, (List.dropLast_concat_getLast h0).symm⟩
    exact refFrRoot_some v q r (fun s hs => hp s (by simp [hs])) (hp r (by simp)) (by simp at hpl; omega) w h

end Go.Proofs.YtlcimlencoaiiaaDoor

namespace Go.Proofs.YtlcimlencoaiiaaDoor
open Go.ChangeShapes Go.WideShapes Go.ChangeAt Go.RowKit
attribute [local go_sem] bs_size bs_toList2 bs_append bs_extract_end bs_extract_begin bs_get wrap64_b grow_cell grow_frozen

abbrev peaksS (l : List (List UInt8)) : List (List UInt8) := Tree.peaks nodeB l
theorem log2_is (m i : Nat) (h1 : 2 ^ i ≤ m) (h2 : m < 2 * 2 ^ i) : m.log2 = i := by
  have hp : 0 < 2 ^ i := Nat.pow_pos (by omega)
  rw [Nat.log2_eq_iff (by omega), Nat.pow_succ]
  omega
/-- The next peak. -/
theorem peaks_next (l : List (List UInt8)) (at_ k i : Nat) (hk : k = 2 ^ i) (h1 : at_ + k ≤ l.length) (h2 : l.length < at_ + 2 * k) : peaksS (l.drop at_) = rootS ((l.drop at_).take k) :: peaksS (l.drop (at_ + k)) := by
  have hp : 0 < 2 ^ i := Nat.pow_pos (by omega)
  have h := Tree.peaks_head nodeB emptyB (l.drop at_).length (l.drop at_) rfl (by rw [List.length_drop]; omega)
  rw [log2_is (l.drop at_).length i (by rw [List.length_drop]; omega) (by rw [List.length_drop]; omega), ← hk, List.drop_drop] at h
  exact h
theorem sls_cut {w : World} {B : Nat} {b off cap : Nat} {l : List (List UInt8)} (hl : AllH l) (hc : l.length ≤ cap) (hc63 : cap ≤ 9223372036854775807) (hr : Rd w B (some ⟨b, off, none⟩) (flatS l)) (k m : Nat) (hk : k + m ≤ l.length) : SlS w B (.slice (some ⟨b, off + k * 32, none⟩) m (cap - k)) ((l.drop k).take m) := by
  have h := sls_take (k := m) (w := w) (B := B) (b := b) (off := off + k * 32) (cap := cap - k) (hl.drop k) (by rw [List.length_drop]; omega) (by omega) (rds_drop hr hl k) (by rw [List.length_drop]; omega)
  exact h

set_option maxHeartbeats 1000000 in
theorem refFrPeaks_calls (v : Value) (l : List (List UInt8)) (hl : AllH l) (hn : l.length ≤ 1000) (w : World) (h : SlS w w.heap.size v l) :
    Calls Tryd.prog 46 #[v] w fun e w' => ∃ v', e = .returned v' ∧ OwnS w' w.heap.size v' (peaksS l) ∧ Ext w w' := by
  obtain ⟨goal, hgoal⟩ : ∃ g, g = peaksS l := ⟨_, rfl⟩
  rw [← hgoal]
  have Hg := Lib.hid hgoal
  clear hgoal
  obtain ⟨A, cap, rfl, hA, hc, hc63, hr⟩ := h
  go_enter Tryd.func46, Tryd.ntmps46
  go_wp2_with fail
  go_loopw [3, 4, 5] (fun s3 s4 _ wr => ∃ (j : Nat) (out : List (List UInt8)), j ≤ l.length ∧ s4 = .int .i64 (j : Int) ∧ out.length ≤ j ∧ out ++ peaksS (l.drop j) = goal ∧ wr.ownsRow w.heap.size 23 32 s3 out.length (flatS out) ∧ Ext w wr) (fun _ s4 _ _ => l.length - (intOf s4).toNat)
  case atStart => exact ⟨0, [], Nat.zero_le _, rfl, Nat.le_refl _, by rw [List.drop_zero, Hg.out]; rfl, World.ownsRow_nil _ _ _ _, Ext.refl _⟩
  case round =>
    obtain ⟨wo, rfl⟩ : ∃ wo : World, wo = wr := ⟨_, rfl⟩
    obtain ⟨j, out, hj, rfl, hol, hog, hO, hE⟩ := hrel
    have HOg := Lib.hid hog
    clear hog
    by_cases hlt : j < l.length
    · have hlI : (j : Int) < (l.length : Int) := by omega
      rcases hA with ⟨_, hl0, _⟩ | ⟨b, off, rfl⟩
      · rw [hl0] at hlt; simp at hlt
      go_wp2_with fail
      obtain ⟨w2, rfl⟩ : ∃ w2 : World, w2 = wo := ⟨_, rfl⟩
      go_loopw [5] (fun s5 wr => ∃ k i : Nat, s5 = .int .i64 (k : Int) ∧ k = 2 ^ i ∧ j + k ≤ l.length ∧ w2 = wr) (fun s5 _ => l.length - (intOf s5).toNat)
      case atStart => exact ⟨1, 0, rfl, rfl, by omega, rfl⟩
      case round =>
        obtain ⟨k, i, rfl, hk, hkl, rfl⟩ := hrel
        have hk0 : 0 < k := by rw [hk]; exact Nat.pow_pos (by omega)
        have Hk := Lib.hid hk
        clear hk
        by_cases h2 : 2 * k ≤ l.length - j
        · have h2I : (2 : Int) * (k : Int) ≤ (l.length : Int) - (j : Int) := by omega
          go_wp2_with fail
          go_roundw
          case rel => exact ⟨2 * k, i + 1, by go_num, by rw [Hk.out, Nat.pow_succ]; omega, by omega, trivial⟩
          case measure => simp [intOf]; omega
        · have h2I : ¬ (2 : Int) * (k : Int) ≤ (l.length : Int) - (j : Int) := by omega
          have hnx := peaks_next l j k i Hk.out hkl (by omega)
          have HN := Lib.hid hnx
          clear hnx
          have hS := sls_cut hl hc hc63 (hr.below hE (Nat.le_refl _)) j k hkl
          have hjc : (j : Int) ≤ (j : Int) + (k : Int) := by omega
          have hkc : (j : Int) + (k : Int) ≤ (cap : Int) := by omega
          have hjn : j ≤ j + k := by omega
          have hkn : j + k ≤ cap := by omega
          have hjlt : j < cap := by omega
          have hsub : j + k - j = k := by omega
          have hsubI : (j : Int) + (k : Int) - (j : Int) = (k : Int) := by omega
          have hz := hE.size
          have hall := (hl.drop j).take k
          have hlen : ((l.drop j).take k).length = k := by rw [List.length_take, List.length_drop]; omega
          have hzl := rootS_length _ hall
          have HR := refRoot_calls _ ((l.drop j).take k) hall w2 (hS.more hz)
          have HR2 := Lib.hid HR
          clear HR hS hall hlen
          obtain ⟨y, hy⟩ : ∃ y, y = rootS ((l.drop j).take k) := ⟨_, rfl⟩
          rw [← hy] at HR2 HN hzl
          clear hy
          obtain ⟨A3, c3, hu3⟩ := own_slice hO
          subst hu3
          go_wp2_with fail
          refine HR2.out.mono ?_; rintro e w3 ⟨rfl, e3⟩
          unfold sumV
          have hO3 := owns_ext hO e3
          have hE3 := hE.trans e3
          have hz3 := hE3.size
          clear HR2 hO hE e3
          go_wp2_with (refine stop_dst 27 rfl ?_)
          refine ⟨?_⟩
          refine wpList_buildSums rfl 1 _ rfl [y] (AllH.cons hzl AllH.nil) rfl (by decide) (by decide) (by rfl) ?_
          simp only [Act.put, List.setIfInBounds_toArray, List.set_cons_zero, List.set_cons_succ]
          refine append_one rfl (.tmp 19) (.tmp 27) rfl _ out y rfl rfl hzl (by omega) w.heap.size hz3 out.length rfl hO3 hE3 (Nat.le_refl _) fun A5 c5 w5 hO5 hX5 => ?_
          simp only [Act.put, List.setIfInBounds_toArray, List.set_cons_zero, List.set_cons_succ]
          have HO5 := Lib.hid hO5
          clear hO3 hE3 hO5
          go_wp2_with fail
          go_roundw
          case rel => exact ⟨j + k, out ++ [y], by omega, by go_num, by simp; omega, by rw [← HOg.out, HN.out]; simp, by rw [List.length_append]; exact HO5.out, hX5⟩
          case measure => simp [intOf]; omega
    · obtain rfl : j = l.length := by omega
      have hgo : out = goal := by rw [← HOg.out, List.drop_length]; simp [Tree.peaks_nil]
      subst hgo
      go_wp2_with fail
      go_ret
      exact ⟨_, rfl, OwnS.of_own hO, hE⟩

end Go.Proofs.YtlcimlencoaiiaaDoor

namespace Go.Proofs.YtlcimlencoaiiaaDoor
open Go.ChangeShapes Go.WideShapes Go.ChangeAt Go.RowKit
attribute [local go_sem] bs_size bs_toList2 bs_append bs_extract_end bs_extract_begin bs_get wrap64_b grow_cell grow_frozen

def RfPost (r : Option (Nat × List (List UInt8))) (w : World) (e : Ending) (w' : World) : Prop := match r with
  | none => e = .returned (.tuple #[.int .i64 0, .slice none 0 0, .int .i64 10]) ∧ Ext w w'
  | some (n, l) => ∃ v, e = .returned (.tuple #[.int .i64 (n : Int), v, .int .i64 0]) ∧ OwnN w' w.heap.size v l ∧ Ext w w'
/-- The first k bytes, then zeros. -/
def partH (q : List UInt8) (k : Nat) : List UInt8 := q.take k ++ List.replicate (32 - k) 0
theorem partH_length (q : List UInt8) (hq : q.length = 32) (k : Nat) (hk : k ≤ 32) : (partH q k).length = 32 := by simp [partH]; omega
theorem partH_succ (q : List UInt8) (hq : q.length = 32) (k : Nat) (hk : k < 32) : ((partH q k).map byteV).toArray.setIfInBounds k (byteV (q[k]'(by omega))) = ((partH q (k + 1)).map byteV).toArray := by
  apply Array.toList_inj.1
  simp only [List.setIfInBounds_toArray]
  apply List.ext_getElem
  · simp [partH]; omega
  · intro i h1 h2
    simp only [List.getElem_set, List.getElem_map]
    simp only [partH] at *
    by_cases hik : k = i
    · subst hik
      rw [if_pos rfl, List.getElem_append_left (by simp; omega)]
      simp
    · rw [if_neg hik]
      congr 1
      by_cases hlt : i < k
      · rw [List.getElem_append_left (by simp; omega), List.getElem_append_left (by simp; omega)]
        simp
      · rw [List.getElem_append_right (by simp; omega), List.getElem_append_right (by simp; omega)]
        simp
theorem partH_all (q : List UInt8) (hq : q.length = 32) : partH q 32 = q := by unfold partH; rw [List.take_of_length_le (by omega)]; simp

set_option maxHeartbeats 2000000 in
theorem refFrRead_calls (s : List UInt8) (hs : s.length ≤ 1099511627776) (w : World) : Calls Tryd.prog 55 #[.string (bs s)] w (RfPost (frRead s) w) := by
  obtain ⟨post, hpost⟩ : ∃ post, post = RfPost (frRead s) w := ⟨_, rfl⟩
  rw [← hpost]
  unfold frRead at hpost
  have hn0 := Oct.num_nonneg (⟨s, false⟩ : Oct.Sc) 1099511627776
  have hn1 := Oct.num_le (⟨s, false⟩ : Oct.Sc) 1099511627776 (by decide)
  have hl1 := Oct.num_left_le (⟨s, false⟩ : Oct.Sc) 1099511627776
  have HN := fun (w : World) h => rfNum_calls w.heap.size s (⟨s, false⟩ : Oct.Sc) 1099511627776 (w.alloc (.cells #[.string (bs s), .int .i64 0, .bool false] 104)) h hs (by omega) (by omega)
  generalize ((⟨s, false⟩ : Oct.Sc).num 1099511627776) = nx at *
  obtain ⟨nI, X1⟩ := nx
  simp only at *
  obtain ⟨n, rfl⟩ : ∃ n : Nat, nI = (n : Int) := ⟨nI.toNat, by omega⟩
  rw [Int.toNat_natCast] at hpost
  have hlm := list_most X1
  have HL := fun (g : Nat) (w : World) h => rfList_calls g s X1 64 w h hs (by omega) (by omega) (by omega)
  generalize X1.list 64 = lx at *
  obtain ⟨l, X2⟩ := lx
  simp only at *
  have HL2 := Lib.hid HL; have HN2 := Lib.hid HN; have Hpost := Lib.hid hpost
  clear HL HN hpost hn0 hl1
  have hS1 : RfAt (w.alloc (.cells #[.string (bs s), .int .i64 0, .bool false] 104)) w.heap.size s ⟨s, false⟩ := ⟨0, Nat.zero_le _, Blk.new _ _ _, fun _ => rfl⟩
  go_enter Tryd.func55, Tryd.ntmps55
  go_wp2_with fail
  refine (HN2.out w hS1).mono ?_; rintro e w2 ⟨rfl, hS2, hu2⟩
  have e2 : Ext w w2 := Ext.upd ((Ext.refl w).alloc _) hu2 (Nat.le_refl _)
  have hz2 := hu2.size
  have hS2lt := hS2.lt
  go_wp2_with fail
  refine (HL2.out w.heap.size _ hS2).mono ?_; rintro e w4 ⟨hS4, ⟨A, c, rfl, hR⟩, hu4⟩
  have e4 : Ext w w4 := e2.upd hu4 (Nat.le_refl _)
  have hz4 := hu4.size
  have hRd := hR.rd
  clear hu4 hu2 hS1 hS2 HL2 HN2
  go_wp2_with fail
  go_loopw [8, 9] (fun s8 s9 wr => ∃ o k : Nat, s8 = .int .i64 (o : Int) ∧ s9 = .int .i64 (k : Int) ∧ k ≤ n ∧ o ≤ n ∧ o + k ≤ n ∧ o + Tree.ones k = Tree.ones n ∧ w4 = wr) (fun _ s9 _ => (intOf s9).toNat)
  case atStart => exact ⟨0, n, rfl, rfl, Nat.le_refl _, Nat.zero_le _, by omega, Nat.zero_add _, rfl⟩
  case round =>
    obtain ⟨o, k, rfl, rfl, hkn, hon, hokn, hok, rfl⟩ := hrel
    have HOK := Lib.hid hok
    clear hok
    by_cases hk0 : k = 0
    · subst hk0
      have HO : Hid (o = Tree.ones n) := Lib.hid HOK.out
      clear HOK
      go_wp2_with fail
      refine (rfEnd_calls _ _ _ _ hS4 hs).mono ?_; rintro e w5 ⟨rfl, z, hw5⟩
      have e5 : Ext w4 w5 := by rw [hw5]; exact (Ext.refl w4).drewN z
      have hRd5 := hRd.below e5 (Nat.le_refl _)
      have E5 := e4.trans e5
      clear hw5 hS4
      by_cases hE : X2.endE = 0
      · have hEb : (X2.endE != 0) = false := by rw [hE]; rfl
        have HE := Lib.hid hE
        clear hE
        by_cases hL : l.length = o
        · have hLb : ((l.length : Int) != (o : Int)) = false := by rw [hL]; simp
          have HLn : Hid (l.length = Tree.ones n) := Lib.hid (by have := HO.out; omega)
          clear hL
          go_wp2_with fail
          go_loopw [10, 11, 12, 13] (fun s10 s11 _ _ wr => ∃ k : Nat, k ≤ l.length ∧ s11 = .int .i64 (k : Int) ∧ anyShort (l.take k) = false ∧ OwnN wr w5.heap.size s10 (l.take k) ∧ Ext w5 wr) (fun _ s11 _ _ _ => l.length - (intOf s11).toNat)
          case atStart => exact ⟨0, Nat.zero_le _, rfl, rfl, OwnN.nil _ _, Ext.refl _⟩
          case round =>
            obtain ⟨wo, rfl⟩ : ∃ wo : World, wo = wr := ⟨_, rfl⟩
            obtain ⟨k, hk, rfl, has, hO, hE⟩ := hrel
            have HAS := Lib.hid has
            by_cases hlt : k < l.length
            · have hlI : (k : Int) < (l.length : Int) := by omega
              have hz5 := e5.size
              obtain ⟨b, off, rfl, hb1, hc⟩ := (hRd5.below hE (by omega)) (map_ne strV hlt)
              have c1 := hc k (strV l[k]) (by simp [hlt])
              have hall := Lib.hid (anyShort_all has)
              have Hk := Lib.hid (show (l.take k).length = k by rw [List.length_take]; omega)
              have HS := Lib.hid (List.take_succ_eq_append_getElem hlt)
              have HA := Lib.hid (anyShort_take l k hlt)
              have HM := Lib.hid (anyShort_more l (k + 1))
              have hblt := World.block_lt_of_cell? wo _ c1
              clear hc has
              generalize l[k] = q at *
              unfold strV at c1
              by_cases hq : q.length = 32
              · have hqb : ((q.length : Int) != 32) = false := by rw [hq]; rfl
                have HN : Hid (anyShort (l.take (k + 1)) = false) := Lib.hid (by rw [HA.out, HAS.out]; simp [hq])
                have Hq := Lib.hid hq
                clear hq
                go_wp2_with fail
                have HOb := Lib.hid (fun hne => (hO.owns.block hne).2)
                have hZ : ArrB (wo.alloc (.cells ((zerosB 32).map byteV).toArray 23)) wo.heap.size 23 (partH q 0) := Blk.new _ _ _
                have hE2 := hE.alloc (.cells ((zerosB 32).map byteV).toArray 23)
                have hO2 := hO.ext ((Ext.refl wo).alloc (.cells ((zerosB 32).map byteV).toArray 23))
                have c2 : (wo.alloc (.cells ((zerosB 32).map byteV).toArray 23)).cell? ⟨b, off + k, none⟩ = some (.string (bs q)) := (((Ext.refl wo).alloc (.cells ((zerosB 32).map byteV).toArray 23)).cell (p := ⟨b, off + k, none⟩) hblt).trans c1
                change Code.wp _ _ _ _ (wo.alloc (.cells ((zerosB 32).map byteV).toArray 23))
                generalize hw6 : wo.alloc (.cells ((zerosB 32).map byteV).toArray 23) = w6 at *
                have hz6 : wo.heap.size < w6.heap.size := by rw [← hw6]; simp
                clear hw6 c1 hO
                go_loopw [13] (fun s13 wr => ∃ j : Nat, j ≤ 32 ∧ s13 = .int .i64 (j : Int) ∧ ArrB wr wo.heap.size 23 (partH q j) ∧ Upd wo.heap.size w6 wr) (fun s13 _ => 32 - (intOf s13).toNat)
                case atStart => exact ⟨0, by omega, rfl, hZ, Upd.refl _ _⟩
                case round =>
                  obtain ⟨w7, rfl⟩ : ∃ w7 : World, w7 = wr := ⟨_, rfl⟩
                  obtain ⟨j, hj, rfl, hP, hU⟩ := hrel
                  by_cases hj2 : j < 32
                  · have hjI : (j : Int) < 32 := by omega
                    have hpl := partH_length q Hq.out j hj
                    have c3 : w7.cell? ⟨b, off + k, none⟩ = some (.string (bs q)) := (World.cell?_of_block (hU.block b (by omega) (fun e => by injection e with e; omega))).trans c2
                    have hjq : j < q.length := by rw [Hq.out]; exact hj2
                    have hjqI : (j : Int) < (q.length : Int) := by omega
                    obtain ⟨u, hu⟩ := Blk.some_ hP j (by simp [hpl]; exact hj2)
                    have hfz := Blk.frozen hP j
                    have hset := Blk.set_ hP j (byteV q[j])
                    rw [partH_succ q Hq.out j hj2] at hset
                    have HSet := Lib.hid hset
                    clear hset c2 hpl
                    unfold byteV at HSet
                    go_wp2_with fail
                    go_roundw
                    case rel => exact ⟨j + 1, by omega, by go_num, HSet.out, hU.setCell (p := ⟨wo.heap.size, j, none⟩) (.inl rfl) _⟩
                    case measure => simp [intOf]; omega
                  · obtain rfl : j = 32 := by omega
                    rw [partH_all q Hq.out] at hP
                    have hU2 : Keep (fun k => k ≠ wo.heap.size) w6 w7 := Keep.of_upd hU (fun h => h rfl)
                    have hz7 := hU.size
                    have hze := hE.size
                    have hO3 : OwnN w7 w5.heap.size u10 (l.take k) := hO2.keep hU2 (fun hne => by have := HOb.out hne; omega)
                    obtain ⟨hO3, hO3n⟩ := hO3
                    rw [Hk.out] at hO3
                    obtain ⟨A3, c3, hu3⟩ := own_slice hO3
                    subst hu3
                    clear hO3n hO2
                    go_wp2_with (refine stop_load 23 (.tmp 12) rfl ?_)
                    refine ⟨?_⟩
                    refine wpList_load_row rfl 23 (.tmp 12) rfl wo.heap.size (by rfl) 23 _ (0, 0) _ hP Tryd.underlying23 rfl (size32.trans (by simp [Hq.out])) ?_
                    simp only [Act.put, List.setIfInBounds_toArray, List.set_cons_zero, List.set_cons_succ]
                    refine wpList_buildSums rfl 1 _ rfl [q] (AllH.cons Hq.out AllH.nil) rfl (by decide) (by decide) (by rfl) ?_
                    simp only [Act.put, List.setIfInBounds_toArray, List.set_cons_zero, List.set_cons_succ]
                    have hE7 : Ext w5 w7 := hE2.upd hU (by omega)
                    refine append_one rfl (.tmp 63) (.tmp 65) rfl _ (l.take k) q rfl rfl Hq.out (by rw [Hk.out]; omega) w5.heap.size (by omega) k Hk.out hO3 hE7 (Nat.le_refl _) fun A5 c5 w8 hO5 hX5 => ?_
                    simp only [Act.put, List.setIfInBounds_toArray, List.set_cons_zero, List.set_cons_succ]
                    have HN5 : Hid (OwnN w8 w5.heap.size (.slice A5 (k + 1) c5) (l.take k ++ [q])) := Lib.hid ⟨by rw [List.length_append, Hk.out]; exact hO5, fun e => absurd e (by simp)⟩
                    clear hO3 hO5 hP hU hU2
                    go_wp2_with fail
                    go_roundw
                    case rel => exact ⟨k + 1, by omega, by go_num, HN.out, by rw [HS.out]; exact HN5.out, hX5⟩
                    case measure => simp [intOf]; omega
              · have hqb : ((q.length : Int) != 32) = true := by simp; omega
                have HN : Hid (anyShort l = true) := Lib.hid (HM.out (by rw [HA.out]; simp [hq]))
                clear hq
                go_wp2_with fail
                go_ret3
                rw [Hpost.out, if_neg (fun h => by rw [HN.out] at h; cases h.2.2)]
                exact ⟨rfl, E5.trans hE⟩
            · obtain rfl : k = l.length := by omega
              rw [List.take_length] at hO has
              have HN := Lib.hid has
              clear has HAS
              go_wp2_with fail
              go_ret3
              rw [Hpost.out, if_pos ⟨HE.out, HLn.out, HN.out⟩]
              exact ⟨_, rfl, hO.less E5.size, E5.trans hE⟩
        · have hLb : ((l.length : Int) != (o : Int)) = true := by simp; omega
          have HLn : Hid (¬ l.length = Tree.ones n) := Lib.hid (by have := HO.out; omega)
          clear hL
          go_wp2_with fail
          go_ret3
          rw [Hpost.out, if_neg (fun h => HLn.out h.2.1)]
          exact ⟨rfl, E5⟩
      · have hEb : (X2.endE != 0) = true := by simpa using hE
        have HE := Lib.hid hE
        clear hE
        go_wp2_with fail
        go_ret3
        rw [Hpost.out, if_neg (fun h => HE.out h.1)]
        exact ⟨rfl, E5⟩
    · have hk1 : (0 : Int) < (k : Int) := by omega
      have hon2 := Tree.ones_step k (by omega)
      have HS : Hid (o + k % 2 + Tree.ones (k / 2) = Tree.ones n) := Lib.hid (by have := HOK.out; omega)
      have hmod : (k : Int).tmod 2 = ((k % 2 : Nat) : Int) := by rw [Int.tmod_eq_emod_of_nonneg (by omega)]; rfl
      clear hon2
      go_wp2_with fail
      go_roundw
      case rel => exact ⟨o + k % 2, k / 2, by go_num, by go_num, by omega, by omega, by omega, HS.out, trivial⟩
      case measure => simp [intOf]; omega

end Go.Proofs.YtlcimlencoaiiaaDoor

namespace Go.Proofs.YtlcimlencoaiiaaDoor
open Go.ChangeShapes Go.WideShapes Go.ChangeAt Go.RowKit
attribute [local go_sem] bs_size bs_toList2 bs_append bs_extract_end bs_extract_begin bs_get wrap64_b grow_cell grow_frozen

/-! ### No front -/
theorem nilAdd_calls (x : List UInt8) (w : World) : Calls Tryd.prog 52 #[.pointer none, sumV x] w fun e w' => e = .returned (.int .i64 0) ∧ Ext w w' := by
  unfold sumV
  go_enter Tryd.func52, Tryd.ntmps52
  go_wp2_with fail
  go_step3
  go_wp2_with fail
  try rw [Exit.noGoto_ret]
  go_ret
  exact ⟨rfl, (Ext.refl w).alloc _⟩
theorem nilSize_calls (w : World) : Calls Tryd.prog 48 #[.pointer none] w fun e w' => e = .returned (.int .i64 0) ∧ w = w' := by
  go_enter Tryd.func48, Tryd.ntmps48
  go_wp2_with fail
  go_ret
  exact ⟨rfl, rfl⟩
theorem nilPeaks_calls (w : World) : Calls Tryd.prog 47 #[.pointer none] w fun e w' => e = .returned (.slice none 0 0) ∧ w = w' := by
  go_enter Tryd.func47, Tryd.ntmps47
  go_wp2_with fail
  go_ret
  exact ⟨rfl, rfl⟩
theorem nilCopy_calls (w : World) : Calls Tryd.prog 53 #[.pointer none] w fun e w' => e = .returned (.pointer none) ∧ w = w' := by
  go_enter Tryd.func53, Tryd.ntmps53
  go_wp2_with fail
  go_ret
  exact ⟨rfl, rfl⟩
theorem nilRoot_calls (w : World) (KW : Keys w) : Calls Tryd.prog 49 #[.pointer none] w fun e w' => e = .returned (sumV emptyB) ∧ Ext w w' := by
  have hE0 := (Ext.refl w).alloc (.cells ((zerosB 32).map byteV).toArray 23)
  have hZ : ArrB (w.alloc (.cells ((zerosB 32).map byteV).toArray 23)) w.heap.size 23 (zerosB 32) := Blk.new _ _ _
  go_enter Tryd.func49, Tryd.ntmps49
  go_wp2_with fail
  refine (nilSize_calls _).mono ?_; rintro e w1 ⟨rfl, rfl⟩
  go_wp2_with fail
  refine (Empty_calls _ (KW.ext hE0)).mono ?_; rintro e w1 ⟨rfl, e1⟩
  unfold sumV
  have hZ1 := Blk.below hZ e1 hZ.lt
  have hE1 := hE0.trans e1
  go_wp2_with (refine stop_store 23 (.tmp 2) (.tmp 10) rfl ?_)
  refine ⟨?_⟩
  refine wpList_store_row rfl 23 (.tmp 2) (.tmp 10) rfl w.heap.size ((emptyB).map byteV).toArray (by rfl) (by rfl) 23 _ hZ1 (size32.trans (by simp [emptyB_length])) (by simp [emptyB_length, zerosB]) (by simp [byteV, Value.oneCell']) ?_
  simp only [Act.put, List.setIfInBounds_toArray, List.set_cons_zero, List.set_cons_succ]
  have hX : ArrB (w1.setRow w.heap.size ((emptyB).map byteV).toArray) w.heap.size 23 (emptyB) := Blk.row hZ1 _
  have hXu : Upd w.heap.size w1 (w1.setRow w.heap.size ((emptyB).map byteV).toArray) := (Upd.refl _ _).row _
  generalize w1.setRow w.heap.size ((emptyB).map byteV).toArray = w2 at *
  go_wp2_with fail
  exact bodyPost_ret (results_cell_row rfl _ _ w.heap.size 23 _ (0, 0) _ rfl hX Tryd.underlying23 rfl (size32.trans (by simp [emptyB_length]))) rfl ⟨rfl, hE1.upd hXu (Nat.le_refl _)⟩
theorem nilBytes_calls (w : World) : Calls Tryd.prog 50 #[.pointer none] w fun e w' => e = .returned (.string (bs (Oct.put 0 ++ Oct.list []))) ∧ Ext w w' := by
  go_enter Tryd.func50, Tryd.ntmps50
  go_wp2_with fail
  refine (nilPeaks_calls _).mono ?_; rintro e w1 ⟨rfl, rfl⟩
  go_wp2_with fail
  go_loopw [3, 9] (fun s3 s9 wr => s3 = .slice none 0 0 ∧ s9 = .int .i64 0 ∧ w = wr) (fun _ _ _ => 0)
  case atStart => exact ⟨rfl, rfl, rfl⟩
  case round =>
    obtain ⟨rfl, rfl, rfl⟩ := hrel
    go_wp2_with fail
    refine (nilSize_calls _).mono ?_; rintro e w3 ⟨rfl, rfl⟩
    go_wp2_with fail
    refine (Put_calls 0 _ (by omega) (by omega)).mono ?_; rintro e w4 ⟨rfl, e4⟩
    go_wp2_with fail
    refine (List_calls w.heap.size none 0 [] _ Rd.nil e4.size (by decide)).mono ?_; rintro e w5 ⟨rfl, e5⟩
    go_wp2_with fail
    go_ret
    exact ⟨rfl, e4.trans e5⟩

/-! ### The chapter's examples -/
theorem add_three (a b c : List UInt8) : Tree.add nodeB 2 (Tree.add nodeB 1 (Tree.add nodeB 0 [] a) b) c = [nodeB a b, c] := rfl
theorem cZZ : (ByteArray.mk #[0, 0]) = bs [0, 0] := rfl
theorem put0 : Oct.put 0 ++ Oct.list [] = [0, 0] := by decide +kernel
attribute [local go_sem] cZZ

set_option maxHeartbeats 2000000 in
theorem awake11_calls (w : World) (KW : Keys w) : Calls Tryd.prog 43 #[] w fun e w' => e = .returned (.bool true) ∧ Ext w w' := by
  go_enter Tryd.func43, Tryd.ntmps43
  go_wp2_with fail
  refine (frNew_calls _).mono ?_; rintro e w1 ⟨rfl, hF1, e1⟩
  go_wp2_with fail
  refine (frBytes_calls _ 0 [] AllH.nil (by omega) (by decide) _ hF1).mono ?_; rw [put0]; rintro e w2 ⟨rfl, e2⟩
  have hF2 := hF1.ext e2
  have hE2 := e1.trans e2
  clear hF1 e1 e2
  go_wp2_with fail
  change Calls _ _ #[.string (bs [97])] _ _
  refine (refLeaf_calls [97] (by decide) _).mono ?_; rintro e w3 ⟨rfl, e3⟩
  have ha := leafB_length [97]
  have hg3 : w.heap.size < w3.heap.size := Nat.lt_of_lt_of_le hF2.lt e3.size
  generalize leafB [97] = pa at *
  unfold sumV
  go_wp2_with (refine stop_store 23 (.tmp 2) (.tmp 15) rfl ?_)
  refine ⟨?_⟩
  change wpList _ _ _ _ _ (w3.alloc (.cells ((zerosB 32).map byteV).toArray 23))
  have hA0 : ArrB (w3.alloc (.cells ((zerosB 32).map byteV).toArray 23)) w3.heap.size 23 (zerosB 32) := Blk.new _ _ _
  refine wpList_store_row rfl 23 (.tmp 2) (.tmp 15) rfl w3.heap.size ((pa).map byteV).toArray (by rfl) (by rfl) 23 _ hA0 (size32.trans (by simp [ha])) (by simp [ha, zerosB]) (by simp [byteV, Value.oneCell']) ?_
  simp only [Act.put, List.setIfInBounds_toArray, List.set_cons_zero, List.set_cons_succ]
  have hA : ArrB ((w3.alloc (.cells ((zerosB 32).map byteV).toArray 23)).setRow w3.heap.size ((pa).map byteV).toArray) w3.heap.size 23 (pa) := Blk.row hA0 _
  have eA : Ext w3 ((w3.alloc (.cells ((zerosB 32).map byteV).toArray 23)).setRow w3.heap.size ((pa).map byteV).toArray) := ((Ext.refl w3).alloc _).row (Nat.le_refl _) _
  clear hA0
  generalize (w3.alloc (.cells ((zerosB 32).map byteV).toArray 23)).setRow w3.heap.size ((pa).map byteV).toArray = w4 at *
  have hF4 := hF2.ext (e3.trans eA)
  have hE4 := hE2.trans (e3.trans eA)
  clear hF2 hE2 e3 eA
  go_wp2_with fail
  change Calls _ _ #[.string (bs [98])] _ _
  refine (refLeaf_calls [98] (by decide) _).mono ?_; rintro e w5 ⟨rfl, e5⟩
  have hb := leafB_length [98]
  have hg5 : w.heap.size < w5.heap.size := Nat.lt_of_lt_of_le hF4.lt e5.size
  generalize leafB [98] = pb at *
  unfold sumV
  go_wp2_with (refine stop_store 23 (.tmp 3) (.tmp 16) rfl ?_)
  refine ⟨?_⟩
  change wpList _ _ _ _ _ (w5.alloc (.cells ((zerosB 32).map byteV).toArray 23))
  have hB0 : ArrB (w5.alloc (.cells ((zerosB 32).map byteV).toArray 23)) w5.heap.size 23 (zerosB 32) := Blk.new _ _ _
  refine wpList_store_row rfl 23 (.tmp 3) (.tmp 16) rfl w5.heap.size ((pb).map byteV).toArray (by rfl) (by rfl) 23 _ hB0 (size32.trans (by simp [hb])) (by simp [hb, zerosB]) (by simp [byteV, Value.oneCell']) ?_
  simp only [Act.put, List.setIfInBounds_toArray, List.set_cons_zero, List.set_cons_succ]
  have hB : ArrB ((w5.alloc (.cells ((zerosB 32).map byteV).toArray 23)).setRow w5.heap.size ((pb).map byteV).toArray) w5.heap.size 23 (pb) := Blk.row hB0 _
  have eB : Ext w5 ((w5.alloc (.cells ((zerosB 32).map byteV).toArray 23)).setRow w5.heap.size ((pb).map byteV).toArray) := ((Ext.refl w5).alloc _).row (Nat.le_refl _) _
  clear hB0
  generalize (w5.alloc (.cells ((zerosB 32).map byteV).toArray 23)).setRow w5.heap.size ((pb).map byteV).toArray = w6 at *
  have hA := hA.below (e5.trans eB) hA.lt
  have hF6 := hF4.ext (e5.trans eB)
  have hE6 := hE4.trans (e5.trans eB)
  clear hF4 hE4 e5 eB
  go_wp2_with fail
  change Calls _ _ #[.string (bs [99])] _ _
  refine (refLeaf_calls [99] (by decide) _).mono ?_; rintro e w7 ⟨rfl, e7⟩
  have hc := leafB_length [99]
  have hg7 : w.heap.size < w7.heap.size := Nat.lt_of_lt_of_le hF6.lt e7.size
  generalize leafB [99] = pc at *
  unfold sumV
  go_wp2_with (refine stop_store 23 (.tmp 4) (.tmp 17) rfl ?_)
  refine ⟨?_⟩
  change wpList _ _ _ _ _ (w7.alloc (.cells ((zerosB 32).map byteV).toArray 23))
  have hC0 : ArrB (w7.alloc (.cells ((zerosB 32).map byteV).toArray 23)) w7.heap.size 23 (zerosB 32) := Blk.new _ _ _
  refine wpList_store_row rfl 23 (.tmp 4) (.tmp 17) rfl w7.heap.size ((pc).map byteV).toArray (by rfl) (by rfl) 23 _ hC0 (size32.trans (by simp [hc])) (by simp [hc, zerosB]) (by simp [byteV, Value.oneCell']) ?_
  simp only [Act.put, List.setIfInBounds_toArray, List.set_cons_zero, List.set_cons_succ]
  have hC : ArrB ((w7.alloc (.cells ((zerosB 32).map byteV).toArray 23)).setRow w7.heap.size ((pc).map byteV).toArray) w7.heap.size 23 (pc) := Blk.row hC0 _
  have eC : Ext w7 ((w7.alloc (.cells ((zerosB 32).map byteV).toArray 23)).setRow w7.heap.size ((pc).map byteV).toArray) := ((Ext.refl w7).alloc _).row (Nat.le_refl _) _
  clear hC0
  generalize (w7.alloc (.cells ((zerosB 32).map byteV).toArray 23)).setRow w7.heap.size ((pc).map byteV).toArray = w8 at *
  have hA := hA.below (e7.trans eC) hA.lt
  have hB := hB.below (e7.trans eC) hB.lt
  have hF8 := hF6.ext (e7.trans eC)
  have hE8 := hE6.trans (e7.trans eC)
  have hne : w.heap.size ≠ 0 := by have := KW.lt0; omega
  clear hF6 hE6 e7 eC
  go_wp2_with (refine stop_load 23 (.tmp 2) rfl ?_)
  refine ⟨?_⟩
  refine wpList_load_row rfl 23 (.tmp 2) rfl w3.heap.size (by rfl) 23 _ (0, 0) _ hA Tryd.underlying23 rfl (size32.trans (by simp [ha])) ?_
  simp only [Act.put, List.setIfInBounds_toArray, List.set_cons_zero, List.set_cons_succ]
  go_wp2_with fail
  change Calls _ _ #[_, sumV pa] _ _
  refine (frAdd_calls w.heap.size 0 [] pa AllH.nil ha (by omega) rfl (by decide) _ (KW.ext hE8) hF8).mono ?_; rintro e w9 ⟨rfl, hF9, hu9⟩
  have hk9 : Keep (fun k => k ≠ w.heap.size) w8 w9 := .of_upd hu9 (fun h => h rfl)
  have hA := hA.kept hk9 (by omega)
  have hB := hB.kept hk9 (by omega)
  have hC := hC.kept hk9 (by omega)
  have hE9 := hE8.upd hu9 (Nat.le_refl _)
  clear hF8 hE8 hu9 hk9
  go_wp2_with (refine stop_load 23 (.tmp 3) rfl ?_)
  refine ⟨?_⟩
  refine wpList_load_row rfl 23 (.tmp 3) rfl w5.heap.size (by rfl) 23 _ (0, 0) _ hB Tryd.underlying23 rfl (size32.trans (by simp [hb])) ?_
  simp only [Act.put, List.setIfInBounds_toArray, List.set_cons_zero, List.set_cons_succ]
  go_wp2_with fail
  change Calls _ _ #[_, sumV pb] _ _
  refine (frAdd_calls w.heap.size 1 (Tree.add nodeB 0 [] pa) pb (AllH.cons ha AllH.nil) hb (by omega) rfl (by show 1 ≤ 1000; decide) _ (KW.ext hE9) hF9).mono ?_; rintro e w10 ⟨rfl, hF10, hu10⟩
  have hk10 : Keep (fun k => k ≠ w.heap.size) w9 w10 := .of_upd hu10 (fun h => h rfl)
  have hA := hA.kept hk10 (by omega)
  have hB := hB.kept hk10 (by omega)
  have hC := hC.kept hk10 (by omega)
  have hE10 := hE9.upd hu10 (Nat.le_refl _)
  clear hF9 hE9 hu10 hk10
  go_wp2_with (refine stop_load 23 (.tmp 4) rfl ?_)
  refine ⟨?_⟩
  refine wpList_load_row rfl 23 (.tmp 4) rfl w7.heap.size (by rfl) 23 _ (0, 0) _ hC Tryd.underlying23 rfl (size32.trans (by simp [hc])) ?_
  simp only [Act.put, List.setIfInBounds_toArray, List.set_cons_zero, List.set_cons_succ]
  go_wp2_with fail
  change Calls _ _ #[_, sumV pc] _ _
  refine (frAdd_calls w.heap.size 2 (Tree.add nodeB 1 (Tree.add nodeB 0 [] pa) pb) pc (AllH.cons (nodeB_length _ _) AllH.nil) hc (by omega) rfl (by show 1 ≤ 1000; decide) _ (KW.ext hE10) hF10).mono ?_; rintro e w11 ⟨rfl, hF11, hu11⟩
  rw [add_three] at hF11
  have hk11 : Keep (fun k => k ≠ w.heap.size) w10 w11 := .of_upd hu11 (fun h => h rfl)
  have hA := hA.kept hk11 (by omega)
  have hB := hB.kept hk11 (by omega)
  have hC := hC.kept hk11 (by omega)
  have hE11 := hE10.upd hu11 (Nat.le_refl _)
  have hall : AllH [nodeB pa pb, pc] := AllH.cons (nodeB_length _ _) (AllH.cons hc AllH.nil)
  clear hF10 hE10 hu11 hk11
  go_wp2_with fail
  refine (frPeaks_calls _ _ _ hall (by simp) _ hF11).mono ?_; rintro e w13 ⟨v', rfl, hO, e13⟩
  have hA := hA.below e13 hA.lt
  have hB := hB.below e13 hB.lt
  have hC := hC.below e13 hC.lt
  have hF13 := hF11.ext e13
  have hE13 := hE11.trans e13
  obtain ⟨A, cap, rfl, hA0, hcp, hc63, hr⟩ := hO.owns.sl
  obtain ⟨bp, op, rfl, hbp, hm0⟩ := rds_mid hr hall (k := 0) (by simp)
  have hm1 := (rds_at hr hall (k := 1) (by simp)).2
  change w13.rangeAt bp (op + 0 * 32) (hcells (nodeB pa pb)) at hm0
  change w13.rangeAt bp (op + 1 * 32) (hcells pc) at hm1
  have hFs : ∀ y : More w13, FrAt (grow w13 y) w.heap.size 3 [nodeB pa pb, pc] := fun y => hF13.ext (grow_ext y)
  have hgw := guard_sum
  have heq1 := fun w : World => eq_sum (nodeB pa pb) (nodeB pa pb) (nodeB_length _ _) (nodeB_length _ _) w
  have heq2 := fun w : World => eq_sum pc pc hc hc w
  change (2 : Nat) ≤ cap at hcp
  clear hF11 hE11 e13 hO hF13 hr hA0 hall
  go_wp2_with fail
  --REG awake
  refine region_plan 29 (Plan.run [0, 1, 2, 3, 4, 5, 6, 7, 8, 9, 10, 11, 12, 13, 14, 15, 16, 17, 18, 19, 20, 21, 22, 23, 24, 25, 26, 27, 28] .nil) (by kernel_rfl) (by kernel_rfl) (fun y0 => ?_); simp only [Plan.run, List.drop_succ_cons, List.drop_zero, List.drop_nil]
  iterate 4 (first | (refine plan_quiet (by simp only [List.getElem?_toArray, List.getElem?_cons_zero, List.getElem?_cons_succ]; rfl) (by rfl) (by rfl) (fun K hK => ?_); go_big_quiet_op; refine hK _ ?_; clear hK K) | (refine plan_skip (by simp only [List.getElem?_toArray, List.getElem?_cons_zero, List.getElem?_cons_succ]; rfl) (by rfl) ?_; simp only [Act.put, List.setIfInBounds_toArray, List.set_cons_zero, List.set_cons_succ]))
  refine plan_one ?_
  (refine plan_loud (by simp only [List.getElem?_toArray, List.getElem?_cons_zero, List.getElem?_cons_succ]; rfl) (by rfl) (by rfl) (fun K E hK => ?_); go_big_op)
  refine (frSize_calls w.heap.size 3 _ (grow w13 y0) (hFs _)).mono ?_; rintro e w3 ⟨rfl, rfl⟩
  refine hK _ _ ⟨_, rfl⟩ ?_; clear hK K E
  iterate 10 (first | (refine plan_quiet (by simp only [List.getElem?_toArray, List.getElem?_cons_zero, List.getElem?_cons_succ]; rfl) (by rfl) (by rfl) (fun K hK => ?_); go_big_quiet_op; refine hK _ ?_; clear hK K) | (refine plan_skip (by simp only [List.getElem?_toArray, List.getElem?_cons_zero, List.getElem?_cons_succ]; rfl) (by rfl) ?_; simp only [Act.put, List.setIfInBounds_toArray, List.set_cons_zero, List.set_cons_succ]))
  refine plan_mid (by simp only [List.getElem?_toArray, List.getElem?_cons_zero, List.getElem?_cons_succ]; rfl) (by rfl) (by rfl) 23 (.tmp 43) rfl bp (op + 0 * 32) (by rfl) _ _ hm0 hbp Tryd.underlying23 rfl (size32l _ (nodeB_length pa pb)) ?_
  simp only [Act.put, List.setIfInBounds_toArray, List.set_cons_zero, List.set_cons_succ]
  unfold hcells
  refine plan_row (by simp only [List.getElem?_toArray, List.getElem?_cons_zero, List.getElem?_cons_succ]; rfl) (by rfl) (by rfl) 23 (.tmp 2) rfl w3.heap.size (by rfl) _ _ _ hA Tryd.underlying23 rfl (size32.trans (by simp [ha])) ?_
  simp only [Act.put, List.setIfInBounds_toArray, List.set_cons_zero, List.set_cons_succ]
  refine plan_row (by simp only [List.getElem?_toArray, List.getElem?_cons_zero, List.getElem?_cons_succ]; rfl) (by rfl) (by rfl) 23 (.tmp 3) rfl w5.heap.size (by rfl) _ _ _ hB Tryd.underlying23 rfl (size32.trans (by simp [hb])) ?_
  simp only [Act.put, List.setIfInBounds_toArray, List.set_cons_zero, List.set_cons_succ]
  refine plan_one ?_
  (refine plan_loud (by simp only [List.getElem?_toArray, List.getElem?_cons_zero, List.getElem?_cons_succ]; rfl) (by rfl) (by rfl) (fun K E hK => ?_); go_big_op)
  change Calls _ _ #[sumV pa, sumV pb] _ _
  refine (refNode_calls pa pb ha hb (grow w13 y0)).mono ?_; unfold sumV; rintro e w3 ⟨rfl, hd⟩
  obtain ⟨y2, rfl⟩ := more_ext y0 hd; clear hd
  refine hK _ _ ⟨_, rfl⟩ ?_; clear hK K E
  iterate 5 (first | (refine plan_quiet (by simp only [List.getElem?_toArray, List.getElem?_cons_zero, List.getElem?_cons_succ]; rfl) (by rfl) (by rfl) (fun K hK => ?_); go_big_quiet_op; refine hK _ ?_; clear hK K) | (refine plan_skip (by simp only [List.getElem?_toArray, List.getElem?_cons_zero, List.getElem?_cons_succ]; rfl) (by rfl) ?_; simp only [Act.put, List.setIfInBounds_toArray, List.set_cons_zero, List.set_cons_succ]))
  refine plan_mid (by simp only [List.getElem?_toArray, List.getElem?_cons_zero, List.getElem?_cons_succ]; rfl) (by rfl) (by rfl) 23 (.tmp 52) rfl bp (op + 1 * 32) (by rfl) _ _ hm1 hbp Tryd.underlying23 rfl (size32l _ hc) ?_
  simp only [Act.put, List.setIfInBounds_toArray, List.set_cons_zero, List.set_cons_succ]
  unfold hcells
  refine plan_row (by simp only [List.getElem?_toArray, List.getElem?_cons_zero, List.getElem?_cons_succ]; rfl) (by rfl) (by rfl) 23 (.tmp 4) rfl w7.heap.size (by rfl) _ _ _ hC Tryd.underlying23 rfl (size32.trans (by simp [hc])) ?_
  simp only [Act.put, List.setIfInBounds_toArray, List.set_cons_zero, List.set_cons_succ]
  iterate 3 (first | (refine plan_quiet (by simp only [List.getElem?_toArray, List.getElem?_cons_zero, List.getElem?_cons_succ]; rfl) (by rfl) (by rfl) (fun K hK => ?_); go_big_quiet_op; refine hK _ ?_; clear hK K) | (refine plan_skip (by simp only [List.getElem?_toArray, List.getElem?_cons_zero, List.getElem?_cons_succ]; rfl) (by rfl) ?_; simp only [Act.put, List.setIfInBounds_toArray, List.set_cons_zero, List.set_cons_succ]))
  refine plan_nil ?_
  --END awake
  go_wp2_with fail
  go_ret
  exact ⟨rfl, hE13.trans (grow_ext _)⟩

end Go.Proofs.YtlcimlencoaiiaaDoor

namespace Go.Proofs.YtlcimlencoaiiaaDoor
open Go.ChangeShapes Go.WideShapes Go.ChangeAt Go.RowKit

/-- A guarded operation that is wanted. -/
theorem list_want {P : Program} {ops : Array Oper} {Q : Exit → Act → World → Prop} {a : Act} {w : World} {rest : List Oper} {o : Oper} (hw : Region.wanted o (yielded ops a.tmps) = true)
    (h : ∀ K : Act → World → Prop, (∀ a w, wpList P ops Q rest a w → K a w) → o.wp P a w K Q) : wpList P ops Q (o :: rest) a w := wpList_step fun K hK => by rw [if_pos hw]; exact h K hK

theorem peaks_all : ∀ (n : Nat) (l : List (List UInt8)), l.length = n → AllH l → AllH (peaksS l)
  | n, l, hn, h => by
    by_cases h0 : n = 0
    · rw [List.eq_nil_of_length_eq_zero (hn.trans h0)]; exact AllH.nil
    · have hp : 0 < 2 ^ n.log2 := Nat.pow_pos (by omega)
      rw [show peaksS l = _ from Tree.peaks_head nodeB emptyB n l hn (by omega)]
      exact AllH.cons (rootS_length _ (h.take _)) (peaks_all (n - 2 ^ n.log2) (l.drop (2 ^ n.log2)) (by rw [List.length_drop, hn]) (h.drop _))
  termination_by n => n
theorem ones_le64 (n : Nat) (h : n < 18446744073709551616) : Tree.ones n ≤ 64 := by
  rw [Pop.ones_lt h]
  have := Pop.b8_le n
  have := Pop.b8_le (n / 256)
  have := Pop.b8_le (n / 256 / 256)
  have := Pop.b8_le (n / 256 / 256 / 256)
  have := Pop.b8_le (n / 256 / 256 / 256 / 256)
  have := Pop.b8_le (n / 256 / 256 / 256 / 256 / 256)
  have := Pop.b8_le (n / 256 / 256 / 256 / 256 / 256 / 256)
  have := Pop.b8_le (n / 256 / 256 / 256 / 256 / 256 / 256 / 256)
  omega
theorem peaks_len (l : List (List UInt8)) : (peaksS l).length = Tree.ones l.length := Tree.ones_peaks nodeB l
theorem peaks_le (l : List (List UInt8)) (h : l.length < 18446744073709551616) : (peaksS l).length ≤ 64 := by rw [peaks_len]; exact ones_le64 _ h
theorem peaks_join (l : List (List UInt8)) : joinS (peaksS l) = rootS l := Tree.join_peaks nodeB emptyB l.length l rfl
theorem peaks_none (l : List (List UInt8)) : l.length = 0 ↔ peaksS l = [] := by
  constructor
  · intro h; rw [List.eq_nil_of_length_eq_zero h]; rfl
  · intro h
    by_cases h0 : l = []
    · rw [h0]; rfl
    · exact absurd h (Tree.peaks_ne nodeB l h0)

/-- A front of these leaves lies at block g. -/
def FrT (w : World) (g : Nat) (l : List (List UInt8)) : Prop := FrAt w g (l.length : Int) (peaksS l)
section
variable {w w' : World} {g : Nat} {l : List (List UInt8)}
theorem FrT.ext (h : FrT w g l) (e : Ext w w') : FrT w' g l := FrAt.ext h e
theorem FrT.lt (h : FrT w g l) : g < w.heap.size := FrAt.lt h
theorem FrT.new (h : FrAt w g 0 []) : FrT w g [] := h
end
theorem frtAdd_calls (g : Nat) (l : List (List UInt8)) (x : List UInt8) (hl : AllH l) (hx : x.length = 32) (hn : l.length < 1099511627776) (w : World) (KW : Keys w) (h : FrT w g l) :
    Calls Tryd.prog 52 #[.pointer (some ⟨g, 0, none⟩), sumV x] w fun e w' => e = .returned (.int .i64 ((l.length + 1 : Nat) : Int)) ∧ FrT w' g (l ++ [x]) ∧ Upd g w w' := by
  refine (frAdd_calls g l.length (peaksS l) x (peaks_all _ l rfl hl) hx hn (peaks_len l) (by have := peaks_le l (by omega); omega) w KW h).mono ?_
  rintro e w' ⟨rfl, h1, h2⟩
  refine ⟨rfl, ?_, h2⟩
  unfold FrT
  rw [show peaksS (l ++ [x]) = _ from Tree.peaks_add nodeB l x, List.length_append]
  exact h1
theorem frtSize_calls (g : Nat) (l : List (List UInt8)) (w : World) (h : FrT w g l) : Calls Tryd.prog 48 #[.pointer (some ⟨g, 0, none⟩)] w fun e w' => e = .returned (.int .i64 (l.length : Int)) ∧ w = w' := frSize_calls g _ _ w h
theorem frtPeaks_calls (g : Nat) (l : List (List UInt8)) (hl : AllH l) (hn : l.length ≤ 1099511627776) (w : World) (h : FrT w g l) :
    Calls Tryd.prog 47 #[.pointer (some ⟨g, 0, none⟩)] w fun e w' => ∃ v', e = .returned v' ∧ OwnN w' w.heap.size v' (peaksS l) ∧ Ext w w' :=
  frPeaks_calls g _ _ (peaks_all _ l rfl hl) (by have := peaks_le l (by omega); omega) w h
theorem frtRoot_calls (g : Nat) (l : List (List UInt8)) (hl : AllH l) (hn : l.length ≤ 1099511627776) (w : World) (KW : Keys w) (h : FrT w g l) :
    Calls Tryd.prog 49 #[.pointer (some ⟨g, 0, none⟩)] w fun e w' => e = .returned (sumV (rootS l)) ∧ Ext w w' := by
  rw [← peaks_join l]
  exact frRoot_calls g l.length _ (peaks_all _ l rfl hl) (peaks_none l) (by have := peaks_le l (by omega); omega) w KW h
theorem frtBytes_calls (g : Nat) (l : List (List UInt8)) (hl : AllH l) (hn : l.length ≤ 1099511627776) (w : World) (h : FrT w g l) :
    Calls Tryd.prog 50 #[.pointer (some ⟨g, 0, none⟩)] w fun e w' => e = .returned (.string (bs (Oct.put l.length ++ Oct.list (peaksS l)))) ∧ Ext w w' :=
  frBytes_calls g l.length _ (peaks_all _ l rfl hl) hn (by have := peaks_le l (by omega); omega) w h

/-! ### Bytes that are read -/
theorem anyShort_of {l : List (List UInt8)} (h : AllH l) : anyShort l = false := by
  unfold anyShort
  rw [List.any_eq_false]
  intro s hs
  simp [h s hs]
theorem frRead_put (n : Nat) (pk : List (List UInt8)) (hp : AllH pk) (hn : n ≤ 1099511627776) (hl : pk.length = Tree.ones n) : frRead (Oct.put n ++ Oct.list pk) = some (n, pk) := by
  have h64 := ones_le64 n (by omega)
  have e1 := Oct.num_put n (by omega) (Oct.list pk) 1099511627776 (by omega)
  have e2 := Oct.list_put pk (by omega) (fun s hs => by rw [hp s hs]; omega) [] 64 (by omega)
  rw [List.append_nil] at e2
  unfold frRead
  rw [e1]
  simp only
  rw [e2]
  rw [if_pos ⟨Oct.end_nil, by simpa using hl, anyShort_of hp⟩]
  simp
theorem list_spoilt (x : Oct.Sc) (h : x.spoil = true) (most : Int) : (x.list most).2.spoil = true := by
  cases hs : (x.list most).2.spoil
  · have h1 : ((x.num most).2.texts (x.num most).1.toNat).2.spoil = false := by
      unfold Oct.Sc.list at hs
      cases hb : ((x.num most).2.texts (x.num most).1.toNat).2.spoil
      · rfl
      · rw [if_pos hb] at hs; exact absurd hs (by simp [hb])
    have h2 : (x.num most).2.spoil = false := by
      rcases hz : (x.num most).1.toNat with _ | k
      · rw [hz] at h1; exact h1
      · rw [hz] at h1
        cases hb : ((x.num most).2.text 16777216).2.spoil
        · exact (Oct.text_sound _ _ hb).1
        · rw [Oct.texts_stop k _ hb, hb] at h1; cases h1
    rw [(Oct.num_sound x most h2).1] at h
    cases h
  · rfl
theorem frRead_big (n : Nat) (r : List UInt8) (hn : 1099511627776 < n) (hn2 : n < 18446744073709551616) : frRead (Oct.put n ++ r) = none := by
  have e1 : (Oct.Sc.num ⟨Oct.put n ++ r, false⟩ 1099511627776).2.spoil = true := by
    unfold Oct.Sc.num
    rw [Oct.long_put n hn2 r, if_pos (.inr (by simp; omega))]
    rfl
  have e2 := list_spoilt _ e1 64
  unfold frRead
  rw [if_neg]
  rintro ⟨h, _⟩
  rw [(Oct.end_ok _ h).1] at e2
  cases e2
theorem frRead_back (s : List UInt8) (n : Nat) (l : List (List UInt8)) (h : frRead s = some (n, l)) : s = Oct.put n ++ Oct.list l ∧ l.length = Tree.ones n ∧ AllH l ∧ n ≤ 1099511627776 := by
  have hn0 := Oct.num_nonneg (⟨s, false⟩ : Oct.Sc) 1099511627776
  have hn1 := Oct.num_le (⟨s, false⟩ : Oct.Sc) 1099511627776 (by decide)
  unfold frRead at h
  split at h
  · rename_i hc
    obtain ⟨h1, h2, h3⟩ := hc
    injection h with h
    injection h with h4 h5
    subst h4 h5
    obtain ⟨h6, h7⟩ := Oct.end_ok _ h1
    have h8 := Oct.list_back _ _ h6
    have h9 : ((⟨s, false⟩ : Oct.Sc).num 1099511627776).2.spoil = false := by
      cases hb : ((⟨s, false⟩ : Oct.Sc).num 1099511627776).2.spoil
      · rfl
      · rw [list_spoilt _ hb 64] at h6; cases h6
    have h10 := (Oct.num_back _ _ h9).1
    rw [h7, List.append_nil] at h8
    rw [h8] at h10
    exact ⟨h10, h2, anyShort_all h3, by omega⟩
  · cases h

end Go.Proofs.YtlcimlencoaiiaaDoor
