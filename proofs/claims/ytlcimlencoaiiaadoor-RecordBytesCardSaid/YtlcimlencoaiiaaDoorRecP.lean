/-
  Plain functions for layer 15 (record). No program in sight.
-/
import Derived.Test.YtlcimlencoaiiaaDoorOpen
import Derived.Test.YtlcimlencoaiiaaDoorRef1
set_option linter.unusedVariables false
set_option maxRecDepth 100000
set_option linter.unusedSimpArgs false
namespace Go.Proofs.YtlcimlencoaiiaaDoor
open Go.ChangeShapes Go.WideShapes Go.ChangeAt Go.RowKit

/-- A record. -/
structure Rc where
  win : Int
  idx : Int
  time : Int
  pay : List UInt8

namespace Rc
def cells (r : Rc) : List Value := [.int .i64 r.win, .int .i64 r.idx, .int .i64 r.time, strV r.pay]
def v (r : Rc) : Value := .agg #[.int .i64 r.win, .int .i64 r.idx, .int .i64 r.time, .string (bs r.pay)]
/-- Its numbers are numbers of 64 bits. -/
def fit (r : Rc) : Prop := -9223372036854775808 ≤ r.win ∧ r.win ≤ 9223372036854775807 ∧ -9223372036854775808 ≤ r.idx ∧ r.idx ≤ 9223372036854775807 ∧ -9223372036854775808 ≤ r.time ∧ r.time ≤ 9223372036854775807
def may (r : Rc) : Prop := 0 ≤ r.win ∧ r.win ≤ 1125899906842624 ∧ 0 ≤ r.time ∧ r.time ≤ 1125899906842624 ∧ 0 ≤ r.idx ∧ r.idx ≤ 3999
instance (r : Rc) : Decidable r.may := by unfold may; infer_instance
def check (r : Rc) : Int := if r.may then (if 2000 < r.pay.length then 11 else 0) else 1
theorem check_1 (r : Rc) (h : ¬ r.may) : 1 = r.check := by unfold check; rw [if_neg h]
theorem check_11 (r : Rc) (h : r.may) (hp : 2000 < r.pay.length) : 11 = r.check := by unfold check; rw [if_pos h, if_pos hp]
theorem check_0 (r : Rc) (h : r.may) (hp : r.pay.length ≤ 2000) : 0 = r.check := by unfold check; rw [if_pos h, if_neg (by omega)]
def u64 (t : Int) : Nat := (t % 18446744073709551616).toNat
def inRow (r : Rc) : List UInt8 := Oct.put (u64 r.time) ++ Oct.text r.pay
def bytes (r : Rc) : List UInt8 := Oct.put (u64 r.win) ++ (Oct.put (u64 r.idx) ++ r.inRow)
def row (l : List Rc) : List UInt8 := l.flatMap inRow
theorem u64_lt (t : Int) : u64 t ≤ 18446744073709551615 := by unfold u64; omega
theorem u64_id (t : Int) (h0 : 0 ≤ t) (h1 : t ≤ 9223372036854775807) : (u64 t : Int) = t := by unfold u64; omega
theorem inRow_length (r : Rc) : r.inRow.length ≤ 18 + r.pay.length := by
  have h1 := Oct.put_length (u64 r.time)
  have h2 := Oct.need_le (u64 r.time)
  have h3 := Oct.put_length r.pay.length
  have h4 := Oct.need_le r.pay.length
  simp only [inRow, Oct.text, List.length_append]; omega
theorem row_snoc (l : List Rc) (k : Nat) (h : k < l.length) : row (l.take (k + 1)) = row (l.take k) ++ l[k].inRow := by
  unfold row
  rw [List.take_succ_eq_append_getElem h, List.flatMap_append]
  simp only [List.flatMap_cons, List.flatMap_nil, List.append_nil]
theorem row_append (l m : List Rc) : row (l ++ m) = row l ++ row m := by simp [row]
theorem row_length (n : Nat) (l : List Rc) (h : ∀ r ∈ l, r.pay.length ≤ n) : (row l).length ≤ l.length * (18 + n) := by
  induction l with
  | nil => simp [row]
  | cons r l ih =>
    have h1 := ih (fun s hs => h s (List.mem_cons_of_mem _ hs))
    have h2 := inRow_length r
    have h3 := h r List.mem_cons_self
    simp only [row, List.flatMap_cons, List.length_append, List.length_cons, Nat.add_mul, Nat.one_mul] at h1 ⊢
    omega
theorem may_of (r : Rc) (h : r.check = 0) : r.may ∧ r.pay.length ≤ 2000 := by
  by_cases hm : r.may
  · by_cases hp : 2000 < r.pay.length
    · have := check_11 r hm hp; omega
    · exact ⟨hm, by omega⟩
  · have := check_1 r hm; omega
theorem bytes_one (a b : Rc) (ha : a.check = 0) (hb : b.check = 0) (h : a.bytes = b.bytes) : a = b := by
  obtain ⟨ma, pa⟩ := may_of a ha
  obtain ⟨mb, pb⟩ := may_of b hb
  have hlt : ∀ t, u64 t < 18446744073709551616 := fun t => by have := u64_lt t; omega
  unfold bytes inRow at h
  have h1 := Oct.long_put (u64 a.win) (hlt _) (Oct.put (u64 a.idx) ++ (Oct.put (u64 a.time) ++ Oct.text a.pay))
  rw [h, Oct.long_put (u64 b.win) (hlt _)] at h1
  injection h1 with e1 h1
  injection h1 with h1
  have h2 := Oct.long_put (u64 a.idx) (hlt _) (Oct.put (u64 a.time) ++ Oct.text a.pay)
  rw [← h1, Oct.long_put (u64 b.idx) (hlt _)] at h2
  injection h2 with e2 h2
  injection h2 with h2
  have h3 := Oct.long_put (u64 a.time) (hlt _) (Oct.text a.pay)
  rw [← h2, Oct.long_put (u64 b.time) (hlt _)] at h3
  injection h3 with e3 h3
  injection h3 with h3
  have h4 := Oct.text_put a.pay (by omega) [] 2000 (by omega)
  rw [← h3, Oct.text_put b.pay (by omega) [] 2000 (by omega)] at h4
  injection h4 with e4
  obtain ⟨a1, a2, a3, a4⟩ := a
  obtain ⟨b1, b2, b3, b4⟩ := b
  unfold may at ma mb
  unfold u64 at e1 e2 e3
  simp only at ma mb e1 e2 e3 e4
  obtain rfl : a1 = b1 := by omega
  obtain rfl : a2 = b2 := by omega
  obtain rfl : a3 = b3 := by omega
  rw [e4]
end Rc

section
variable {H : Type} {enc : TypeId × Value → H} {W : World} {base : Nat} {v : Value}
theorem tr_rec {cs : List Value} (h : Tr enc W 45 cs) : ∃ r : Rc, cs = r.cells ∧ r.fit ∧ r.pay.length ≤ 9223372036854775807 := by
  have hk : Tryd.prog.cellsOf 45 = 4 := by kernel_rfl
  have hki : Tryd.prog.cellsOf 3 = 1 := by kernel_rfl
  have hks : Tryd.prog.cellsOf 9 = 1 := by kernel_rfl
  obtain ⟨hl, hf⟩ := tr_struct Tryd.underlying45 h
  rw [hk] at hl
  match cs, hl with
  | [a, b, c, d], _ =>
    have h0 : Tr enc W 3 (([a, b, c, d].drop 0).take (Tryd.prog.cellsOf 3)) := hf 0 _ rfl
    have h1 : Tr enc W 3 (([a, b, c, d].drop 1).take (Tryd.prog.cellsOf 3)) := hf 1 _ rfl
    have h2 : Tr enc W 3 (([a, b, c, d].drop 2).take (Tryd.prog.cellsOf 3)) := hf 2 _ rfl
    have h3 : Tr enc W 9 (([a, b, c, d].drop 3).take (Tryd.prog.cellsOf 9)) := hf 3 _ rfl
    rw [hki] at h0 h1 h2
    rw [hks] at h3
    simp only [List.drop_zero, List.drop_succ_cons, List.take_succ_cons, List.take_zero] at h0 h1 h2 h3
    obtain ⟨i0, e0, w0⟩ := tr_int Tryd.underlying3 h0
    obtain ⟨i1, e1, w1⟩ := tr_int Tryd.underlying3 h1
    obtain ⟨i2, e2, w2⟩ := tr_int Tryd.underlying3 h2
    obtain ⟨l, e3, w3⟩ := tr_string Tryd.underlying9 h3
    injection e0 with e0
    injection e1 with e1
    injection e2 with e2
    injection e3 with e3
    obtain ⟨x0, y0⟩ := bounds_i64 w0
    obtain ⟨x1, y1⟩ := bounds_i64 w1
    obtain ⟨x2, y2⟩ := bounds_i64 w2
    exact ⟨⟨i0, i1, i2, l⟩, by rw [e0, e1, e2, e3]; rfl, ⟨x0, y0, x1, y1, x2, y2⟩, by unfold maxLen at w3; simp only; omega⟩
theorem okWide_rec (h : Value.okWide Tryd.prog W .any base 45 v) : ∃ cs, v = .agg cs := by
  have hu : Tryd.prog.underlying 45 = _ := Tryd.underlying45
  simp only [Value.okWide, hu] at h
  obtain ⟨cs, h1, _⟩ := h
  exact ⟨cs, h1⟩
theorem op_rec (hv : Value.okWide Tryd.prog W .any base 45 v) (h : Tr enc W 45 v.cells.toList) : ∃ r : Rc, v = r.v ∧ r.fit ∧ r.pay.length ≤ 9223372036854775807 := by
  obtain ⟨r, hr, hq⟩ := tr_rec h
  obtain ⟨cs, rfl⟩ := okWide_rec hv
  refine ⟨r, ?_, hq⟩
  unfold Rc.v
  simp only [Value.cells] at hr
  congr 1
  apply Array.toList_inj.1
  rw [hr]
  rfl
theorem op_recs (hv : Value.okWide Tryd.prog W .any base 83 v) (h : Tr enc W 83 v.cells.toList) : ∃ A cap, ∃ l : List Rc, v = .slice A l.length cap ∧ Rd W W.heap.size A (l.flatMap Rc.cells) ∧ l.length ≤ cap ∧ cap ≤ 9223372036854775807 ∧ ∀ r ∈ l, r.fit ∧ r.pay.length ≤ 9223372036854775807 := by
  have hk : Tryd.prog.cellsOf 45 = 4 := by kernel_rfl
  obtain ⟨A, n, cap, X, hc, hX, hr, hn, hm, hel⟩ := tr_slice Tryd.underlying83 (by rw [hk]; omega) h
  rw [hk] at hX hel
  obtain ⟨l, hl, hq, rfl⟩ := chunks Rc.cells (fun r => r.fit ∧ r.pay.length ≤ 9223372036854775807) 4 (fun _ _ => rfl) n X hX (fun i hi => by
    obtain ⟨r, hr, hw⟩ := tr_rec (hel i hi)
    exact ⟨r, hw, hr⟩)
  subst hl
  obtain ⟨A', n', c', rfl⟩ := okWide_slice Tryd.underlying83 hv
  simp only [Value.cells, List.cons.injEq, Value.slice.injEq, and_true] at hc
  obtain ⟨rfl, rfl, rfl⟩ := hc
  exact ⟨_, _, l, rfl, hr, hn, by unfold maxLen at hm; omega, hq⟩
end

/-- A record at block g. -/
def RecAt (w : World) (g : Nat) (r : Rc) : Prop := Blk w g 45 #[.int .i64 r.win, .int .i64 r.idx, .int .i64 r.time, .string (bs r.pay)]
theorem RecAt.ext {w w' : World} {g : Nat} {r : Rc} (h : RecAt w g r) (hb : Ext w w') : RecAt w' g r := Blk.below h hb (Blk.lt h)
theorem RecAt.cells {w : World} {g : Nat} {r : Rc} (h : RecAt w g r) : w.cell? ⟨g, 0, none⟩ = some (.int .i64 r.win) ∧ w.cell? ⟨g, 1, none⟩ = some (.int .i64 r.idx) ∧ w.cell? ⟨g, 2, none⟩ = some (.int .i64 r.time) ∧ w.cell? ⟨g, 3, none⟩ = some (.string (bs r.pay)) :=
  ⟨Blk.cell h 0, Blk.cell h 1, Blk.cell h 2, Blk.cell h 3⟩
theorem RecAt.frozen {w : World} {g : Nat} {r : Rc} (h : RecAt w g r) : w.frozen? ⟨g, 0, none⟩ = false ∧ w.frozen? ⟨g, 1, none⟩ = false ∧ w.frozen? ⟨g, 2, none⟩ = false ∧ w.frozen? ⟨g, 3, none⟩ = false :=
  ⟨Blk.frozen h 0, Blk.frozen h 1, Blk.frozen h 2, Blk.frozen h 3⟩
theorem RecAt.store {w : World} {g : Nat} {r : Rc} (h : RecAt w g r) (r' : Rc) : RecAt ((((w.setCell ⟨g, 0, none⟩ (.int .i64 r'.win)).setCell ⟨g, 1, none⟩ (.int .i64 r'.idx)).setCell ⟨g, 2, none⟩ (.int .i64 r'.time)).setCell ⟨g, 3, none⟩ (.string (bs r'.pay))) g r' :=
  Blk.set_ (Blk.set_ (Blk.set_ (Blk.set_ h 0 _) 1 _) 2 _) 3 _

end Go.Proofs.YtlcimlencoaiiaaDoor
