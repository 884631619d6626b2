/-
  A slice literal of hashes.
-/
import Derived.Test.YtfpipdopgepelaaDoorLeaf5
import Derived.Great.BuildSlice
set_option linter.unusedVariables false
set_option maxRecDepth 100000
set_option linter.unusedSimpArgs false
namespace Go.Proofs.YtfpipdopgepelaaDoor
open Go.RowKit

theorem fold_at : ∀ (l pre rest post : List Value), rest.length = l.length → ∀ off k, off + k = pre.length → List.foldl (fun (cs : Array Value) (x : Value × Nat) => cs.setIfInBounds (off + x.2) x.1) (pre ++ rest ++ post).toArray (l.zipIdx k) = (pre ++ l ++ post).toArray
  | [], pre, rest, post, h, off, k, hk => by
    obtain rfl : rest = [] := List.eq_nil_of_length_eq_zero h
    rfl
  | v :: l, pre, [], post, h, off, k, hk => by simp at h
  | v :: l, pre, r :: rest, post, h, off, k, hk => by
    have ih := fold_at l (pre ++ [v]) rest post (by simpa using h) off (k + 1) (by simp; omega)
    simp only [List.zipIdx_cons, List.foldl_cons]
    have e : (pre ++ r :: rest ++ post).toArray.setIfInBounds (off + k) v = ((pre ++ [v]) ++ rest ++ post).toArray := by
      rw [hk]
      simp [List.set_append_right]
    rw [e, ih]
    simp
theorem fill_sums : ∀ (l : List (List UInt8)) (i : Nat) (pre rest : List Value), AllH l → pre.length = i * 32 → rest.length = l.length * 32 →
    Instr.fill (fun i => some (i * 32, 32)) (pre ++ rest).toArray ((l.zipIdx i).map fun x => (x.2, sumV x.1)) = some (pre ++ flatS l).toArray
  | [], i, pre, rest, _, hp, hr => by
    obtain rfl : rest = [] := List.eq_nil_of_length_eq_zero (by simpa using hr)
    rfl
  | s :: l, i, pre, rest, hl, hp, hr => by
    have hs : s.length = 32 := hl s (by simp)
    have hr1 : (rest.take 32).length = 32 := by simp only [List.length_cons] at hr; simp; omega
    have ih := fill_sums l (i + 1) (pre ++ hcells s) (rest.drop 32) hl.tail (by simp [hcells_length, hs]; omega) (by simp only [List.length_cons] at hr; simp; omega)
    simp only [List.zipIdx_cons, List.map_cons, Instr.fill]
    have hc : (sumV s).cells = (hcells s).toArray := rfl
    rw [hc]
    have hsz : (hcells s).toArray.size = 32 := by simp [hcells_length, hs]
    rw [if_neg (by
      simp only [hsz, Bool.or_eq_true, decide_eq_true_eq, ne_eq, not_true_eq_false, List.size_toArray, List.length_append, hp, hr, List.length_cons, false_or]
      omega)]
    have e : (pre ++ rest).toArray = (pre ++ rest.take 32 ++ rest.drop 32).toArray := by rw [List.append_assoc, List.take_append_drop]
    have hz : (hcells s).toArray.zipIdx.foldl (fun (cs : Array Value) (x : Value × Nat) => cs.setIfInBounds (i * 32 + x.2) x.1) (pre ++ rest).toArray = (pre ++ hcells s ++ rest.drop 32).toArray := by
      rw [e, ← fold_at (hcells s) pre (rest.take 32) (rest.drop 32) (by rw [hr1, hcells_length, hs]) (i * 32) 0 (by omega)]
      rw [← Array.foldl_toList]
      simp
    rw [show (Array.foldl (fun cs (x : Value × Nat) => match x with | (c, j) => cs.setIfInBounds (i * 32 + j) c) (pre ++ rest).toArray (hcells s).toArray.zipIdx) = (pre ++ hcells s ++ rest.drop 32).toArray from hz]
    rw [ih]
    congr 2
    simp [flatS]
theorem wp_buildSums {o : Oper} {a : Act} {w : World} {K : Act → World → Prop} {Q : Exit → Act → World → Prop} (n : Nat) (parts : Array (Nat × Operand)) (ho : o.op = .buildSlice 25 n parts)
    (l : List (List UInt8)) (hl : AllH l) (hn : l.length = n) (h0 : 0 < n) (h1 : n ≤ 1000) (hp : parts.toList.map (fun x => (x.1, a.eval x.2)) = l.zipIdx.map fun x => (x.2, sumV x.1))
    (h : K (a.put o.dst (.slice (some ⟨w.heap.size, 0, none⟩) n n)) (w.alloc (.cells (flatS l).toArray 23))) : o.wp Tryd.prog a w K Q := by
  obtain ⟨i0, z, hi, hz0, hz1, hz2, hz3⟩ := info_sum
  refine wp_buildSlice 25 23 n parts ho _ i0 z Tryd.underlying25 hi hz0 (by rw [hz1]; omega) (by rw [hz1]; omega) ?_ h
  rw [Array.toList_map, show (parts.toList.map fun (i, x) => (i, a.eval x)) = l.zipIdx.map fun x => (x.2, sumV x.1) from hp, hz1]
  have := fill_sums l 0 [] (((Array.range (n * 32)).map (z.cells[· % z.cells.size]!)).toList) hl rfl (by simp [hn])
  rw [List.nil_append, List.nil_append, Array.toArray_toList] at this
  exact this
theorem wpList_buildSums {ops : Array Oper} {rest : List Oper} {o : Oper} {a : Act} {w : World} {Q : Exit → Act → World → Prop} (hg : o.guard = none) (n : Nat) (parts : Array (Nat × Operand)) (ho : o.op = .buildSlice 25 n parts)
    (l : List (List UInt8)) (hl : AllH l) (hn : l.length = n) (h0 : 0 < n) (h1 : n ≤ 1000) (hp : parts.toList.map (fun x => (x.1, a.eval x.2)) = l.zipIdx.map fun x => (x.2, sumV x.1))
    (h : wpList Tryd.prog ops Q rest (a.put o.dst (.slice (some ⟨w.heap.size, 0, none⟩) n n)) (w.alloc (.cells (flatS l).toArray 23))) : wpList Tryd.prog ops Q (o :: rest) a w :=
  wpList_plain hg fun _ hK => wp_buildSums n parts ho l hl hn h0 h1 hp (hK _ _ h)
theorem sls_new (w : World) (l : List (List UInt8)) (n : Nat) (hn : l.length = n) (h1 : n ≤ 1000) : SlS (w.alloc (.cells (flatS l).toArray 23)) (w.alloc (.cells (flatS l).toArray 23)).heap.size (.slice (some ⟨w.heap.size, 0, none⟩) n n) l :=
  ⟨_, n, by rw [hn], .inr ⟨_, _, rfl⟩, by omega, by omega, Blk.rd (Blk.new w 23 (flatS l).toArray)⟩

end Go.Proofs.YtfpipdopgepelaaDoor
