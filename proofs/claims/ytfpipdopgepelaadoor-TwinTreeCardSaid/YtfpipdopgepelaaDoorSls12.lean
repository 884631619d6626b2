/-
  Contracts over slice values: Fold, Both, both sides; two arrays laid at once.
-/
import Derived.Test.YtfpipdopgepelaaDoorRefGoes
set_option linter.unusedVariables false
set_option maxRecDepth 100000
set_option linter.unusedSimpArgs false
namespace Go.Proofs.YtfpipdopgepelaaDoor
open Go.ChangeShapes Go.WideShapes Go.ChangeAt Go.RowKit

theorem two_rows (W : World) (x y : List UInt8) : ArrB (((twoW W).setRow W.heap.size (x.map byteV).toArray).setRow (W.heap.size + 1) (y.map byteV).toArray) W.heap.size 23 x ∧
    ArrB ((twoW W).setRow W.heap.size (x.map byteV).toArray) (W.heap.size + 1) 23 (zerosB 32) ∧
    ArrB (((twoW W).setRow W.heap.size (x.map byteV).toArray).setRow (W.heap.size + 1) (y.map byteV).toArray) (W.heap.size + 1) 23 y ∧
    Ext W (((twoW W).setRow W.heap.size (x.map byteV).toArray).setRow (W.heap.size + 1) (y.map byteV).toArray) := by
  obtain ⟨p1, p2, p3⟩ := twoW_facts W
  have q1 : ArrB ((twoW W).setRow W.heap.size (x.map byteV).toArray) W.heap.size 23 x := Blk.row p1 _
  have q2 : ArrB ((twoW W).setRow W.heap.size (x.map byteV).toArray) (W.heap.size + 1) 23 (zerosB 32) := Blk.rowFar p2 (by omega) _
  exact ⟨Blk.rowFar q1 (by omega) _, q2, Blk.row q2 _, (p3.row (Nat.le_refl _) _).row (by omega) _⟩

theorem Fold_sls (r : List UInt8) (hr : r.length = 32) (m n : Int) (hn63 : n ≤ 9223372036854775807) (v : Value) (l : List (List UInt8)) (hl : AllH l) (hll : l.length ≤ 1000000) (w : World) (KW : Keys w) (h : SlS w w.heap.size v l) :
    Calls Tryd.prog 18 #[sumV r, .int .i64 m, .int .i64 n, v] w fun e w' => e = .returned (.tuple #[sumV (foldP r m n l).1, .bool (foldP r m n l).2]) ∧ Ext w w' := by
  obtain ⟨A, cap, rfl, hA0, hc, hc63, hr'⟩ := h
  exact Fold_calls r hr m n hn63 A cap l hl hll w KW hr'
theorem refFold_sls (r : List UInt8) (hr : r.length = 32) (m n : Int) (v : Value) (l : List (List UInt8)) (hl : AllH l) (hll : l.length ≤ 1000000) (w : World) (h : SlS w w.heap.size v l) :
    Calls Tryd.prog 19 #[sumV r, .int .i64 m, .int .i64 n, v] w fun e w' => e = .returned (.tuple #[sumV (foldP r m n l).1, .bool (foldP r m n l).2]) ∧ Ext w w' := by
  obtain ⟨A, cap, rfl, hA0, hc, hc63, hr'⟩ := h
  exact refFold_calls r hr m n A cap l hl hll w hr'
theorem Both_sls (a : List UInt8) (ha : a.length = 32) (m n : Int) (hn63 : n ≤ 9223372036854775807) (v : Value) (l : List (List UInt8)) (hl : AllH l) (hll : l.length ≤ 1000000) (w : World) (KW : Keys w) (h : SlS w w.heap.size v l) :
    Calls Tryd.prog 20 #[sumV a, .int .i64 m, .int .i64 n, v] w fun e w' => e = .returned (.tuple #[sumV (bothP a m n l).1.1, sumV (bothP a m n l).1.2, .bool (bothP a m n l).2]) ∧ Ext w w' := by
  obtain ⟨A, cap, rfl, hA0, hc, hc63, hr'⟩ := h
  exact Both_calls a ha m n hn63 A cap l hl hll hc (by unfold maxLen; omega) w KW hr'
theorem refBoth_sls (a : List UInt8) (ha : a.length = 32) (m n : Int) (v : Value) (l : List (List UInt8)) (hl : AllH l) (hll : l.length ≤ 1000000) (w : World) (h : SlS w w.heap.size v l) :
    Calls Tryd.prog 21 #[sumV a, .int .i64 m, .int .i64 n, v] w fun e w' => e = .returned (.tuple #[sumV (bothP a m n l).1.1, sumV (bothP a m n l).1.2, .bool (bothP a m n l).2]) ∧ Ext w w' := by
  obtain ⟨A, cap, rfl, hA0, hc, hc63, hr'⟩ := h
  exact refBoth_calls a ha m n A cap l hl hll w hr'
theorem refGoes_sls (a b : List UInt8) (ha : a.length = 32) (hb : b.length = 32) (m n : Int) (v : Value) (l : List (List UInt8)) (hl : AllH l) (hll : l.length ≤ 1000000) (w : World) (h : SlS w w.heap.size v l) :
    Calls Tryd.prog 24 #[sumV a, .int .i64 m, sumV b, .int .i64 n, v] w fun e w' => e = .returned (.bool (goesB a m b n l)) ∧ Ext w w' := by
  obtain ⟨A, cap, rfl, hA0, hc, hc63, hr'⟩ := h
  exact refGoes_calls a b ha hb m n A cap l hl hll w hr'

end Go.Proofs.YtfpipdopgepelaaDoor
