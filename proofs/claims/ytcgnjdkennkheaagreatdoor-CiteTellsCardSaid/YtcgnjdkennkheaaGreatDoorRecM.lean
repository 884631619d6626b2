/-
  Plain functions for layer 15 (record). No program in sight.
  The walks of layer 15 (record).
  The walks of layer 15 (record): rows.
  The walks of layer 15 (record): the document's answers; reading.
  The document's Bytes of a record, the leaves, and what is read of a record's own bytes.
-/
import Derived.Test.YtcgnjdkennkheaaGreatDoorOpen
import Derived.Test.YtcgnjdkennkheaaGreatDoorRef1
import Derived.Test.YtcgnjdkennkheaaGreatDoorLeafM
set_option linter.unusedVariables false
set_option maxRecDepth 100000
set_option linter.unusedSimpArgs false
set_option linter.unusedSectionVars false
namespace Go.Proofs.YtcgnjdkennkheaaGreatDoor
open Go.ChangeShapes Go.WideShapes Go.ChangeAt Go.RowKit

/-- A record. -/
structure Rc where
  win : Int
  idx : Int
  time : Int
  pay : List UInt8

namespace Rc
def cells (r : Rc) : List Value := [.int .i64 r.win, .int .i64 r.idx, .int .i64 r.time, strV r.pay]
def v (r : Rc) : Value := .agg #[.int .i64 r.win, .int .i64 r.idx, .int .i64 r.time, .string (bs r.pay)]
/-- Its numbers are numbers of 64 bits. -/
def fit (r : Rc) : Prop := -9223372036854775808 ≤ r.win ∧ r.win ≤ 9223372036854775807 ∧ -9223372036854775808 ≤ r.idx ∧ r.idx ≤ 9223372036854775807 ∧ -9223372036854775808 ≤ r.time ∧ r.time ≤ 9223372036854775807
def may (r : Rc) : Prop := 0 ≤ r.win ∧ r.win ≤ 1125899906842624 ∧ 0 ≤ r.time ∧ r.time ≤ 1125899906842624 ∧ 0 ≤ r.idx ∧ r.idx ≤ 3999
instance (r : Rc) : Decidable r.may := by unfold may; infer_instance
def check (r : Rc) : Int := if r.may then (if 2000 < r.pay.length then 11 else 0) else 1
theorem check_1 (r : Rc) (h : ¬ r.may) : 1 = r.check := by unfold check; rw [if_neg h]
theorem check_11 (r : Rc) (h : r.may) (hp : 2000 < r.pay.length) : 11 = r.check := by unfold check; rw [if_pos h, if_pos hp]
theorem check_0 (r : Rc) (h : r.may) (hp : r.pay.length ≤ 2000) : 0 = r.check := by unfold check; rw [if_pos h, if_neg (by omega)]
def u64 (t : Int) : Nat := (t % 18446744073709551616).toNat
def inRow (r : Rc) : List UInt8 := Oct.put (u64 r.time) ++ Oct.text r.pay
def bytes (r : Rc) : List UInt8 := Oct.put (u64 r.win) ++ (Oct.put (u64 r.idx) ++ r.inRow)
def row (l : List Rc) : List UInt8 := l.flatMap inRow
theorem u64_lt (t : Int) : u64 t ≤ 18446744073709551615 := by unfold u64; omega
theorem u64_id (t : Int) (h0 : 0 ≤ t) (h1 : t ≤ 9223372036854775807) : (u64 t : Int) = t := by unfold u64; omega
theorem inRow_length (r : Rc) : r.inRow.length ≤ 18 + r.pay.length := by
  have h1 := Oct.put_length (u64 r.time)
  have h2 := Oct.need_le (u64 r.time)
  have h3 := Oct.put_length r.pay.length
  have h4 := Oct.need_le r.pay.length
  simp only [inRow, Oct.text, List.length_append]; omega
theorem row_snoc (l : List Rc) (k : Nat) (h : k < l.length) : row (l.take (k + 1)) = row (l.take k) ++ l[k].inRow := by
  unfold row
  rw [List.take_succ_eq_append_getElem h, List.flatMap_append]
  simp only [List.flatMap_cons, List.flatMap_nil, List.append_nil]
theorem row_append (l m : List Rc) : row (l ++ m) = row l ++ row m := by simp [row]
theorem row_length (n : Nat) (l : List Rc) (h : ∀ r ∈ l, r.pay.length ≤ n) : (row l).length ≤ l.length * (18 + n) := by
  induction l with
  | nil => simp [row]
  | cons r l ih =>
    have h1 := ih (fun s hs => h s (List.mem_cons_of_mem _ hs))
    have h2 := inRow_length r
    have h3 := h r List.mem_cons_self
    simp only [row, List.flatMap_cons, List.length_append, List.length_cons, Nat.add_mul, Nat.one_mul] at h1 ⊢
    omega
theorem may_of (r : Rc) (h : r.check = 0) : r.may ∧ r.pay.length ≤ 2000 := by
  by_cases hm : r.may
  · by_cases hp : 2000 < r.pay.length
    · have := check_11 r hm hp; omega
    · exact ⟨hm, by omega⟩
  · have := check_1 r hm; omega
theorem bytes_one (a b : Rc) (ha : a.check = 0) (hb : b.check = 0) (h : a.bytes = b.bytes) : a = b := by
  obtain ⟨ma, pa⟩ := may_of a ha
  obtain ⟨mb, pb⟩ := may_of b hb
  have hlt : ∀ t, u64 t < 18446744073709551616 := fun t => by have := u64_lt t; omega
  unfold bytes inRow at h
  have h1 := Oct.long_put (u64 a.win) (hlt _) (Oct.put (u64 a.idx) ++ (Oct.put (u64 a.time) ++ Oct.text a.pay))
  rw [h, Oct.long_put (u64 b.win) (hlt _)] at h1
  injection h1 with e1 h1
  injection h1 with h1
  have h2 := Oct.long_put (u64 a.idx) (hlt _) (Oct.put (u64 a.time) ++ Oct.text a.pay)
  rw [← h1, Oct.long_put (u64 b.idx) (hlt _)] at h2
  injection h2 with e2 h2
  injection h2 with h2
  have h3 := Oct.long_put (u64 a.time) (hlt _) (Oct.text a.pay)
  rw [← h2, Oct.long_put (u64 b.time) (hlt _)] at h3
  injection h3 with e3 h3
  injection h3 with h3
  have h4 := Oct.text_put a.pay (by omega) [] 2000 (by omega)
  rw [← h3, Oct.text_put b.pay (by omega) [] 2000 (by omega)] at h4
  injection h4 with e4
  obtain ⟨a1, a2, a3, a4⟩ := a
  obtain ⟨b1, b2, b3, b4⟩ := b
  unfold may at ma mb
  unfold u64 at e1 e2 e3
  simp only at ma mb e1 e2 e3 e4
  obtain rfl : a1 = b1 := by omega
  obtain rfl : a2 = b2 := by omega
  obtain rfl : a3 = b3 := by omega
  rw [e4]
end Rc

section
variable {H : Type} {enc : TypeId × Value → H} {W : World} {base : Nat} {v : Value}
theorem tr_rec {cs : List Value} (h : Tr enc W 36 cs) : ∃ r : Rc, cs = r.cells ∧ r.fit ∧ r.pay.length ≤ 9223372036854775807 := by
  have hk : Tryz.prog.cellsOf 36 = 4 := by kernel_rfl
  have hki : Tryz.prog.cellsOf 3 = 1 := by kernel_rfl
  have hks : Tryz.prog.cellsOf 9 = 1 := by kernel_rfl
  obtain ⟨hl, hf⟩ := tr_struct Tryz.underlying36 h
  rw [hk] at hl
  match cs, hl with
  | [a, b, c, d], _ =>
    have h0 : Tr enc W 3 (([a, b, c, d].drop 0).take (Tryz.prog.cellsOf 3)) := hf 0 _ rfl
    have h1 : Tr enc W 3 (([a, b, c, d].drop 1).take (Tryz.prog.cellsOf 3)) := hf 1 _ rfl
    have h2 : Tr enc W 3 (([a, b, c, d].drop 2).take (Tryz.prog.cellsOf 3)) := hf 2 _ rfl
    have h3 : Tr enc W 9 (([a, b, c, d].drop 3).take (Tryz.prog.cellsOf 9)) := hf 3 _ rfl
    rw [hki] at h0 h1 h2
    rw [hks] at h3
    simp only [List.drop_zero, List.drop_succ_cons, List.take_succ_cons, List.take_zero] at h0 h1 h2 h3
    obtain ⟨i0, e0, w0⟩ := tr_int Tryz.underlying3 h0
    obtain ⟨i1, e1, w1⟩ := tr_int Tryz.underlying3 h1
    obtain ⟨i2, e2, w2⟩ := tr_int Tryz.underlying3 h2
    obtain ⟨l, e3, w3⟩ := tr_string Tryz.underlying9 h3
    injection e0 with e0
    injection e1 with e1
    injection e2 with e2
    injection e3 with e3
    obtain ⟨x0, y0⟩ := bounds_i64 w0
    obtain ⟨x1, y1⟩ := bounds_i64 w1
    obtain ⟨x2, y2⟩ := bounds_i64 w2
    exact ⟨⟨i0, i1, i2, l⟩, by rw [e0, e1, e2, e3]; rfl, ⟨x0, y0, x1, y1, x2, y2⟩, by unfold maxLen at w3; simp only; omega⟩
theorem okWide_rec (h : Value.okWide Tryz.prog W .any base 36 v) : ∃ cs, v = .agg cs := by
  have hu : Tryz.prog.underlying 36 = _ := Tryz.underlying36
  simp only [Value.okWide, hu] at h
  obtain ⟨cs, h1, _⟩ := h
  exact ⟨cs, h1⟩
theorem op_rec (hv : Value.okWide Tryz.prog W .any base 36 v) (h : Tr enc W 36 v.cells.toList) : ∃ r : Rc, v = r.v ∧ r.fit ∧ r.pay.length ≤ 9223372036854775807 := by
  obtain ⟨r, hr, hq⟩ := tr_rec h
  obtain ⟨cs, rfl⟩ := okWide_rec hv
  refine ⟨r, ?_, hq⟩
  unfold Rc.v
  simp only [Value.cells] at hr
  congr 1
  apply Array.toList_inj.1
  rw [hr]
  rfl
theorem op_recs (hv : Value.okWide Tryz.prog W .any base 22 v) (h : Tr enc W 22 v.cells.toList) : ∃ A cap, ∃ l : List Rc, v = .slice A l.length cap ∧ Rd W W.heap.size A (l.flatMap Rc.cells) ∧ l.length ≤ cap ∧ cap ≤ 9223372036854775807 ∧ ∀ r ∈ l, r.fit ∧ r.pay.length ≤ 9223372036854775807 := by
  have hk : Tryz.prog.cellsOf 36 = 4 := by kernel_rfl
  obtain ⟨A, n, cap, X, hc, hX, hr, hn, hm, hel⟩ := tr_slice Tryz.underlying22 (by rw [hk]; omega) h
  rw [hk] at hX hel
  obtain ⟨l, hl, hq, rfl⟩ := chunks Rc.cells (fun r => r.fit ∧ r.pay.length ≤ 9223372036854775807) 4 (fun _ _ => rfl) n X hX (fun i hi => by
    obtain ⟨r, hr, hw⟩ := tr_rec (hel i hi)
    exact ⟨r, hw, hr⟩)
  subst hl
  obtain ⟨A', n', c', rfl⟩ := okWide_slice Tryz.underlying22 hv
  simp only [Value.cells, List.cons.injEq, Value.slice.injEq, and_true] at hc
  obtain ⟨rfl, rfl, rfl⟩ := hc
  exact ⟨_, _, l, rfl, hr, hn, by unfold maxLen at hm; omega, hq⟩
end

/-- A record at block g. -/
def RecAt (w : World) (g : Nat) (r : Rc) : Prop := Blk w g 36 #[.int .i64 r.win, .int .i64 r.idx, .int .i64 r.time, .string (bs r.pay)]
theorem RecAt.ext {w w' : World} {g : Nat} {r : Rc} (h : RecAt w g r) (hb : Ext w w') : RecAt w' g r := Blk.below h hb (Blk.lt h)
theorem RecAt.cells {w : World} {g : Nat} {r : Rc} (h : RecAt w g r) : w.cell? ⟨g, 0, none⟩ = some (.int .i64 r.win) ∧ w.cell? ⟨g, 1, none⟩ = some (.int .i64 r.idx) ∧ w.cell? ⟨g, 2, none⟩ = some (.int .i64 r.time) ∧ w.cell? ⟨g, 3, none⟩ = some (.string (bs r.pay)) :=
  ⟨Blk.cell h 0, Blk.cell h 1, Blk.cell h 2, Blk.cell h 3⟩
theorem RecAt.frozen {w : World} {g : Nat} {r : Rc} (h : RecAt w g r) : w.frozen? ⟨g, 0, none⟩ = false ∧ w.frozen? ⟨g, 1, none⟩ = false ∧ w.frozen? ⟨g, 2, none⟩ = false ∧ w.frozen? ⟨g, 3, none⟩ = false :=
  ⟨Blk.frozen h 0, Blk.frozen h 1, Blk.frozen h 2, Blk.frozen h 3⟩
theorem RecAt.store {w : World} {g : Nat} {r : Rc} (h : RecAt w g r) (r' : Rc) : RecAt ((((w.setCell ⟨g, 0, none⟩ (.int .i64 r'.win)).setCell ⟨g, 1, none⟩ (.int .i64 r'.idx)).setCell ⟨g, 2, none⟩ (.int .i64 r'.time)).setCell ⟨g, 3, none⟩ (.string (bs r'.pay))) g r' :=
  Blk.set_ (Blk.set_ (Blk.set_ (Blk.set_ h 0 _) 1 _) 2 _) 3 _

end Go.Proofs.YtcgnjdkennkheaaGreatDoor

namespace Go.Proofs.YtcgnjdkennkheaaGreatDoor
open Go.RowKit
attribute [local go_sem] bs_size bs_toList2 bs_append bs_extract_end bs_extract_begin bs_get wrap64_b

theorem Check1_calls (n most : Int) (w : World) :
    Calls Tryz.prog 64 #[.int .i64 n, .int .i64 most] w fun e w' => e = .returned (.bool (decide (0 ≤ n ∧ n ≤ most))) ∧ w = w' := by
  go_enter Tryz.func64, Tryz.ntmps64
  go_wp2
  all_goals
    go_ret
    refine ⟨ret_bool ?_, rfl⟩
    rw [Bool.eq_iff_iff]
    simp
    omega

theorem Check_calls (r : Rc) (w : World) (hp : r.pay.length ≤ 9223372036854775807) :
    Calls Tryz.prog 28 #[r.v] w fun e w' => e = .returned (.int .i64 r.check) ∧ Ext w w' := by
  unfold Rc.v
  go_enter Tryz.func28, Tryz.ntmps28
  go_wp2_with (go_at_call 64; refine (Check1_calls _ _ _).mono ?_; rintro e w' ⟨rfl, rfl⟩)
  all_goals
    go_ret
    refine ⟨ret_int ?_, (Ext.refl w).alloc _⟩
    first
      | exact Rc.check_0 r (by unfold Rc.may; simp at *; omega) (by simp at *; omega)
      | exact Rc.check_11 r (by unfold Rc.may; simp at *; omega) (by simp at *; omega)
      | exact Rc.check_1 r (by unfold Rc.may; simp at *; omega)

theorem inRow_calls (r : Rc) (w : World) (hp : r.pay.length ≤ 140737488355328) :
    Calls Tryz.prog 93 #[r.v] w fun e w' => e = .returned (.string (bs r.inRow)) ∧ Ext w w' := by
  unfold Rc.v
  go_enter Tryz.func93, Tryz.ntmps93
  have hw : IntKind.u64.wrap r.time = (Rc.u64 r.time : Int) := by
    have e : IntKind.u64.wrap r.time = r.time % 18446744073709551616 := rfl
    rw [e]; unfold Rc.u64; omega
  have hu := Rc.u64_lt r.time
  have hil : ¬ (9223372036854775807 < (Oct.put (Rc.u64 r.time)).length + (Oct.text r.pay).length) := by have := Rc.inRow_length r; simp only [Rc.inRow, List.length_append] at this; omega
  go_wp2_with fail
  go_region_law (first
    | (go_simp; go_at_call 36; refine (Put_calls (Rc.u64 r.time) _ (by omega) (by omega)).mono ?_; rintro e w1 ⟨rfl, e1⟩; rw [Int.toNat_natCast]; have hx1 : Blk w1 w.heap.size 36 _ := Blk.below (Blk.drew (Blk.new w _ _)) e1 (by simp); have cx1 : w1.cell? ⟨w.heap.size, 3, none⟩ = some (.string (bs r.pay)) := Blk.cell hx1 3)
    | (go_simp; go_at_call 34; refine (Text_calls r.pay _ hp).mono ?_; rintro e w2 ⟨rfl, e2⟩))
  all_goals
    go_wp2
    go_ret
    exact ⟨rfl, (((Ext.refl w).alloc _).drew.trans e1).trans e2⟩

theorem u64_wrap (t : Int) : IntKind.u64.wrap t = (Rc.u64 t : Int) := by
  have e : IntKind.u64.wrap t = t % 18446744073709551616 := rfl
  rw [e]; unfold Rc.u64; omega

set_option maxRecDepth 100000 in
set_option maxHeartbeats 2000000 in
theorem recBytes_calls (r : Rc) (w : World) (hp : r.pay.length ≤ 140737488355328) :
    Calls Tryz.prog 65 #[r.v] w fun e w' => e = .returned (.tuple #[.string (bs (if r.check = 0 then r.bytes else [])), .int .i64 r.check]) ∧ Ext w w' := by
  have hw1 := u64_wrap r.win
  have hw2 := u64_wrap r.idx
  have hu1 := Rc.u64_lt r.win
  have hu2 := Rc.u64_lt r.idx
  have hq1 : (Oct.put (Rc.u64 r.win)).length ≤ 9 := by have := Oct.put_length (Rc.u64 r.win); have := Oct.need_le (Rc.u64 r.win); omega
  have hq2 : (Oct.put (Rc.u64 r.idx)).length ≤ 9 := by have := Oct.put_length (Rc.u64 r.idx); have := Oct.need_le (Rc.u64 r.idx); omega
  have hq3 := Rc.inRow_length r
  have hn1 : ¬ (9223372036854775807 < (Oct.put (Rc.u64 r.win)).length + (Oct.put (Rc.u64 r.idx)).length) := by omega
  have hn2 : ¬ (9223372036854775807 < (Oct.put (Rc.u64 r.win)).length + (Oct.put (Rc.u64 r.idx)).length + r.inRow.length) := by omega
  rcases (show r.check = 0 ∨ r.check = 1 ∨ r.check = 11 from by unfold Rc.check; (repeat' split) <;> simp) with hc | hc | hc
  · rw [if_pos hc]
    have HC := Lib.hid hc
    clear hc
    unfold Rc.v
    go_enter Tryz.func65, Tryz.ntmps65
    go_wp2_with fail
    refine (Check_calls r _ (by omega)).mono ?_; rintro e w1 ⟨rfl, e1⟩
    have hx1 : Blk w1 w.heap.size 36 _ := Blk.below (Blk.new w _ _) e1 (by simp)
    have c0 : w1.cell? ⟨w.heap.size, 0, none⟩ = some (.int .i64 r.win) := Blk.cell hx1 0
    have c1 : w1.cell? ⟨w.heap.size, 1, none⟩ = some (.int .i64 r.idx) := Blk.cell hx1 1
    have c2 : w1.cell? ⟨w.heap.size, 2, none⟩ = some (.int .i64 r.time) := Blk.cell hx1 2
    have c3 : w1.cell? ⟨w.heap.size, 3, none⟩ = some (.string (bs r.pay)) := Blk.cell hx1 3
    rw [HC.out]
    go_wp2_with fail
    go_region_law (first
      | (go_simp; go_at_call 36; (with_reducible refine (Put_calls (Rc.u64 r.win) _ (by omega) (by omega)).mono ?_); rintro e w2 ⟨rfl, e2⟩; rw [Int.toNat_natCast]; have hx2 : Blk w2 w.heap.size 36 _ := Blk.below (Blk.drew hx1) e2 hx1.lt; have d0 : w2.cell? ⟨w.heap.size, 0, none⟩ = some (.int .i64 r.win) := Blk.cell hx2 0; have d1 : w2.cell? ⟨w.heap.size, 1, none⟩ = some (.int .i64 r.idx) := Blk.cell hx2 1; have d2 : w2.cell? ⟨w.heap.size, 2, none⟩ = some (.int .i64 r.time) := Blk.cell hx2 2; have d3 : w2.cell? ⟨w.heap.size, 3, none⟩ = some (.string (bs r.pay)) := Blk.cell hx2 3)
      | (go_simp; go_at_call 36; (with_reducible refine (Put_calls (Rc.u64 r.idx) _ (by omega) (by omega)).mono ?_); rintro e w3 ⟨rfl, e3⟩; rw [Int.toNat_natCast]; have hx3 : Blk w3 w.heap.size 36 _ := Blk.below hx2 e3 hx2.lt; have f0 : w3.cell? ⟨w.heap.size, 0, none⟩ = some (.int .i64 r.win) := Blk.cell hx3 0; have f1 : w3.cell? ⟨w.heap.size, 1, none⟩ = some (.int .i64 r.idx) := Blk.cell hx3 1; have f2 : w3.cell? ⟨w.heap.size, 2, none⟩ = some (.int .i64 r.time) := Blk.cell hx3 2; have f3 : w3.cell? ⟨w.heap.size, 3, none⟩ = some (.string (bs r.pay)) := Blk.cell hx3 3)
      | (go_simp; go_at_call 93; refine (inRow_calls r _ hp).mono ?_; rintro e w4 ⟨rfl, e4⟩))
    all_goals
      go_wp2
      go_ret2
      exact ⟨by rw [HC.out]; rfl, (((((Ext.refl w).alloc _).trans e1).drew.trans e2).trans e3).trans e4⟩
  all_goals
    rw [if_neg (by omega)]
    have HC := Lib.hid hc
    clear hc
    unfold Rc.v
    go_enter Tryz.func65, Tryz.ntmps65
    go_wp2_with fail
    refine (Check_calls r _ (by omega)).mono ?_; rintro e w1 ⟨rfl, e1⟩
    rw [HC.out]
    go_wp2_with fail
    go_ret2
    exact ⟨by rw [HC.out]; rfl, ((Ext.refl w).alloc _).trans e1⟩

end Go.Proofs.YtcgnjdkennkheaaGreatDoor

namespace Go.Proofs.YtcgnjdkennkheaaGreatDoor
open Go.RowKit
attribute [local go_sem] bs_size bs_toList2 bs_append bs_extract_end bs_extract_begin bs_get wrap64_b

/-- The cells of the k-th record of a list. -/
theorem rec_cells {w : World} {B : Nat} {A : Option Addr} {l : List Rc} (h : Rd w B A (l.flatMap Rc.cells)) {k : Nat} (hk : k < l.length) : ∃ b off, A = some ⟨b, off, none⟩ ∧ b < B ∧
    w.cell? ⟨b, off + k * 4, none⟩ = some (.int .i64 l[k].win) ∧ w.cell? ⟨b, off + k * 4 + 1, none⟩ = some (.int .i64 l[k].idx) ∧ w.cell? ⟨b, off + k * 4 + 2, none⟩ = some (.int .i64 l[k].time) ∧ w.cell? ⟨b, off + k * 4 + 3, none⟩ = some (.string (bs l[k].pay)) := by
  have hget : ∀ (l : List Rc) (k : Nat) (hk : k < l.length) (i : Nat), i < 4 → (l.flatMap Rc.cells)[4 * k + i]? = (l[k].cells)[i]? := by
    intro l
    induction l with
    | nil => intro k hk; simp at hk
    | cons r l ih =>
      intro k hk i hi
      rw [List.flatMap_cons]
      have h4 : r.cells.length = 4 := rfl
      cases k with
      | zero =>
        rw [List.getElem?_append_left (by omega)]
        simp
      | succ k =>
        rw [List.getElem?_append_right (by omega), h4]
        have := ih k (by simpa using hk) i hi
        rw [show 4 * (k + 1) + i - 4 = 4 * k + i from by omega, this]
        simp
  obtain ⟨b, off, rfl, hb, hc⟩ := h (by
    intro e
    have := hget l k hk 0 (by omega)
    rw [e] at this
    simp [Rc.cells] at this)
  refine ⟨b, off, rfl, hb, ?_, ?_, ?_, ?_⟩
  · have := hc (4 * k + 0) (.int .i64 l[k].win) (by rw [hget l k hk 0 (by omega)]; rfl)
    simpa [Nat.mul_comm] using this
  · have := hc (4 * k + 1) (.int .i64 l[k].idx) (by rw [hget l k hk 1 (by omega)]; rfl)
    simpa [Nat.add_assoc, Nat.mul_comm] using this
  · have := hc (4 * k + 2) (.int .i64 l[k].time) (by rw [hget l k hk 2 (by omega)]; rfl)
    simpa [Nat.add_assoc, Nat.mul_comm] using this
  · have := hc (4 * k + 3) (strV l[k].pay) (by rw [hget l k hk 3 (by omega)]; rfl)
    simpa [Nat.add_assoc, strV, Nat.mul_comm] using this

/-! ### The law's own -/
/-- small -/
def Rc.small (r : Rc) : Rc := ⟨r.win, r.idx, r.time, r.pay.take 2010⟩

end Go.Proofs.YtcgnjdkennkheaaGreatDoor

namespace Go.Proofs.YtcgnjdkennkheaaGreatDoor
open Go.RowKit
attribute [local go_sem] bs_size bs_toList2 bs_append bs_extract_end bs_extract_begin bs_get wrap64_b

theorem Read_some (s : List UInt8) (w : World) :
    Calls Tryz.prog 37 #[.string (bs s)] w fun e w' => ∃ g, e = .returned (.pointer (some ⟨g, 0, none⟩)) ∧ w.heap.size ≤ g ∧ ScAt w' g ⟨s, false⟩ ∧ Ext w w' :=
  (Read_calls s w).mono fun e w' ⟨he, hw⟩ => ⟨w.heap.size, he, Nat.le_refl _, by subst hw; exact Read_at s w, by subst hw; exact (Ext.refl w).alloc _⟩

theorem res_ctr {P : Program} {fn : Func} {p u : Tmp} {ty : TypeId} (h : fn.results = #[.cell p ty, .tmp u]) (tmps : Array Value) (w : World) (g : Nat) (t : TypeId) (cs : Array Value) (d : TypeDesc)
    (hp : tmps.getD p undef = .pointer (some ⟨g, 0, none⟩)) (hg : Blk w g t cs)
    (hu : P.underlying ty = some d) (hd : (match d with | .struct _ | .array _ _ => true | _ => false) = true) (hi : (P.info? ty).map (·.size) = some cs.size) :
    (results fn tmps).run P w = .ok (.tuple #[.agg cs, tmps.getD u undef]) w := by
  have hp' : tmps[p]?.getD undef = .pointer (some ⟨g, 0, none⟩) := by simpa using hp
  simp [results, h, hp', asAddr, run_loadVar_row w g t ty cs (0, 0) d hg hu hd hi]

theorem RecAt.idx {w : World} {g : Nat} {r : Rc} (h : RecAt w g r) (v : Int) : RecAt (w.setCell ⟨g, 1, none⟩ (.int .i64 v)) g ⟨r.win, v, r.time, r.pay⟩ := Blk.set_ h 1 _
theorem RecAt.time {w : World} {g : Nat} {r : Rc} (h : RecAt w g r) (v : Int) : RecAt (w.setCell ⟨g, 2, none⟩ (.int .i64 v)) g ⟨r.win, r.idx, v, r.pay⟩ := Blk.set_ h 2 _
theorem RecAt.pay {w : World} {g : Nat} {r : Rc} (h : RecAt w g r) (v : List UInt8) : RecAt (w.setCell ⟨g, 3, none⟩ (.string (bs v))) g ⟨r.win, r.idx, r.time, v⟩ := Blk.set_ h 3 _

/-- What Read answers: the record, and the error. -/
def Rc.read (s : List UInt8) : Rc × Int :=
  let a := Oct.Sc.num ⟨s, false⟩ 1125899906842624
  let b := a.2.num 3999
  let c := b.2.num 1125899906842624
  let d := c.2.text 2000
  if d.2.endE = 0 then (⟨a.1, b.1, c.1, d.1⟩, 0) else (⟨0, 0, 0, []⟩, 10)

set_option maxRecDepth 100000 in
set_option maxHeartbeats 1000000 in
theorem refCheck_calls (r : Rc) (w : World) (hp : r.pay.length ≤ 9223372036854775807) :
    Calls Tryz.prog 50 #[r.v] w fun e w' => e = .returned (.int .i64 r.check) ∧ Ext w w' := by
  unfold Rc.v
  go_enter Tryz.func50, Tryz.ntmps50
  go_wp2_with fail
  all_goals
    go_ret
    refine ⟨ret_int ?_, (Ext.refl w).alloc _⟩
    first
      | exact Rc.check_0 r (by unfold Rc.may; omega) (by omega)
      | exact Rc.check_11 r (by unfold Rc.may; omega) (by omega)
      | exact Rc.check_1 r (by unfold Rc.may; omega)

end Go.Proofs.YtcgnjdkennkheaaGreatDoor

namespace Go.Proofs.YtcgnjdkennkheaaGreatDoor
open Go.ChangeShapes Go.WideShapes Go.ChangeAt Go.RowKit
attribute [local go_sem] bs_size bs_toList2 bs_append bs_extract_end bs_extract_begin bs_get wrap64_b grow_cell grow_frozen

/-- The bytes that Bytes answers. -/
def Rc.outB (r : Rc) : List UInt8 := if r.check = 0 then r.bytes else []
theorem Rc.outB_length (r : Rc) : r.outB.length ≤ 36 + r.pay.length := by
  unfold Rc.outB
  split
  · have h1 := Oct.put_length (Rc.u64 r.win)
    have h2 := Oct.need_le (Rc.u64 r.win)
    have h3 := Oct.put_length (Rc.u64 r.idx)
    have h4 := Oct.need_le (Rc.u64 r.idx)
    have h5 := Rc.inRow_length r
    simp only [Rc.bytes, List.length_append]; omega
  · simp
theorem Rc.read_bytes (r : Rc) (h : r.check = 0) : Rc.read r.bytes = (r, 0) := by
  obtain ⟨⟨w0, w1, t0, t1, i0, i1⟩, hp⟩ := Rc.may_of r h
  have hlt : ∀ t, Rc.u64 t < 18446744073709551616 := fun t => by have := Rc.u64_lt t; omega
  have e1 := Rc.u64_id r.win w0 (by omega)
  have e2 := Rc.u64_id r.idx i0 (by omega)
  have e3 := Rc.u64_id r.time t0 (by omega)
  have n1 := Oct.num_put (Rc.u64 r.win) (hlt _) (Oct.put (Rc.u64 r.idx) ++ (Oct.put (Rc.u64 r.time) ++ Oct.text r.pay)) 1125899906842624 (by omega)
  have n2 := Oct.num_put (Rc.u64 r.idx) (hlt _) (Oct.put (Rc.u64 r.time) ++ Oct.text r.pay) 3999 (by omega)
  have n3 := Oct.num_put (Rc.u64 r.time) (hlt _) (Oct.text r.pay) 1125899906842624 (by omega)
  have n4 := Oct.text_put r.pay (by omega) [] 2000 (by omega)
  rw [List.append_nil] at n4
  rw [e1] at n1; rw [e2] at n2; rw [e3] at n3
  unfold Rc.read Rc.bytes Rc.inRow
  rw [n1]; dsimp only
  rw [n2]; dsimp only
  rw [n3]; dsimp only
  rw [n4]; dsimp only
  rw [if_pos (by simp [Oct.Sc.endE])]

set_option maxHeartbeats 2000000 in
theorem refRecBytes_calls (r : Rc) (w : World) (hp : r.pay.length ≤ 140737488355328) :
    Calls Tryz.prog 22 #[r.v] w fun e w' => e = .returned (.tuple #[.string (bs (if r.check = 0 then r.bytes else [])), .int .i64 r.check]) ∧ Ext w w' := by
  have hw1 := u64_wrap r.win
  have hw2 := u64_wrap r.idx
  have hw3 := u64_wrap r.time
  have hu1 := Rc.u64_lt r.win
  have hu2 := Rc.u64_lt r.idx
  have hu3 := Rc.u64_lt r.time
  have hq1 : (Oct.put (Rc.u64 r.win)).length ≤ 9 := by have := Oct.put_length (Rc.u64 r.win); have := Oct.need_le (Rc.u64 r.win); omega
  have hq2 : (Oct.put (Rc.u64 r.idx)).length ≤ 9 := by have := Oct.put_length (Rc.u64 r.idx); have := Oct.need_le (Rc.u64 r.idx); omega
  have hq3 : (Oct.put (Rc.u64 r.time)).length ≤ 9 := by have := Oct.put_length (Rc.u64 r.time); have := Oct.need_le (Rc.u64 r.time); omega
  have hq4 : (Oct.text r.pay).length ≤ 9 + r.pay.length := by have := Oct.put_length r.pay.length; have := Oct.need_le r.pay.length; simp only [Oct.text, List.length_append]; omega
  have hn1 : ¬ (9223372036854775807 < (Oct.put (Rc.u64 r.win)).length + (Oct.put (Rc.u64 r.idx)).length) := by omega
  have hn2 : ¬ (9223372036854775807 < (Oct.put (Rc.u64 r.win)).length + (Oct.put (Rc.u64 r.idx)).length + (Oct.put (Rc.u64 r.time)).length) := by omega
  have hn3 : ¬ (9223372036854775807 < (Oct.put (Rc.u64 r.win)).length + (Oct.put (Rc.u64 r.idx)).length + (Oct.put (Rc.u64 r.time)).length + (Oct.text r.pay).length) := by omega
  have hall : (Oct.put (Rc.u64 r.win) ++ Oct.put (Rc.u64 r.idx) ++ Oct.put (Rc.u64 r.time)) ++ Oct.text r.pay = r.bytes := by simp [Rc.bytes, Rc.inRow]
  have Hall := Lib.hid hall
  clear hall
  rcases (show r.check = 0 ∨ r.check = 1 ∨ r.check = 11 from by unfold Rc.check; (repeat' split) <;> simp) with hc | hc | hc
  · rw [if_pos hc]
    have HC := Lib.hid hc
    clear hc
    unfold Rc.v
    go_enter Tryz.func22, Tryz.ntmps22
    go_wp2_with fail
    refine (refCheck_calls r _ (by omega)).mono ?_; rintro e w1 ⟨rfl, e1⟩
    have hx1 : RecAt w1 w.heap.size r := Blk.below (Blk.new w _ _) e1 (by simp)
    have hlt1 : w.heap.size < w1.heap.size := Blk.lt hx1
    obtain ⟨c0, c1, c2, c3⟩ := hx1.cells
    have hE1 := ((Ext.refl w).alloc (.cells #[.int .i64 r.win, .int .i64 r.idx, .int .i64 r.time, .string (bs r.pay)] 36)).trans e1
    clear e1 hx1
    rw [HC.out]
    go_wp2_with fail
    refine region_mix0 (by kernel_rfl) (by kernel_rfl) (fun x => ?_)
    repeat (first | (refine mix_quiet (by rfl) (by rfl) (fun K hK => ?_); go_big_quiet_op; refine hK _ ?_; clear hK K) | (refine mix_skip (by rfl) ?_; simp only [Act.put, List.setIfInBounds_toArray, List.set_cons_zero, List.set_cons_succ]))
    (refine mix_loud (by rfl) (by rfl) (fun K E hK => ?_); go_big_op)
    (with_reducible refine (refPut_calls (Rc.u64 r.win) _ (by omega) (by omega)).mono ?_); rintro e w3 ⟨rfl, hd⟩; rw [Int.toNat_natCast]
    obtain ⟨x2, rfl⟩ := more_ext _ hd; clear hd
    refine hK _ _ ⟨_, rfl⟩ ?_; clear hK K E
    repeat (first | (refine mix_quiet (by rfl) (by rfl) (fun K hK => ?_); go_big_quiet_op; refine hK _ ?_; clear hK K) | (refine mix_skip (by rfl) ?_; simp only [Act.put, List.setIfInBounds_toArray, List.set_cons_zero, List.set_cons_succ]))
    (refine mix_loud (by rfl) (by rfl) (fun K E hK => ?_); go_big_op)
    (with_reducible refine (refPut_calls (Rc.u64 r.idx) _ (by omega) (by omega)).mono ?_); rintro e w3 ⟨rfl, hd⟩; rw [Int.toNat_natCast]
    obtain ⟨x3, rfl⟩ := more_ext _ hd; clear hd
    refine hK _ _ ⟨_, rfl⟩ ?_; clear hK K E
    repeat (first | (refine mix_quiet (by rfl) (by rfl) (fun K hK => ?_); go_big_quiet_op; refine hK _ ?_; clear hK K) | (refine mix_skip (by rfl) ?_; simp only [Act.put, List.setIfInBounds_toArray, List.set_cons_zero, List.set_cons_succ]))
    (refine mix_loud (by rfl) (by rfl) (fun K E hK => ?_); go_big_op)
    (with_reducible refine (refPut_calls (Rc.u64 r.time) _ (by omega) (by omega)).mono ?_); rintro e w3 ⟨rfl, hd⟩; rw [Int.toNat_natCast]
    obtain ⟨x4, rfl⟩ := more_ext _ hd; clear hd
    refine hK _ _ ⟨_, rfl⟩ ?_; clear hK K E
    repeat (first | (refine mix_quiet (by rfl) (by rfl) (fun K hK => ?_); go_big_quiet_op; refine hK _ ?_; clear hK K) | (refine mix_skip (by rfl) ?_; simp only [Act.put, List.setIfInBounds_toArray, List.set_cons_zero, List.set_cons_succ]))
    (refine mix_loud (by rfl) (by rfl) (fun K E hK => ?_); go_big_op)
    refine (refText_calls r.pay _ hp).mono ?_; rintro e w3 ⟨rfl, hd⟩
    obtain ⟨x5, rfl⟩ := more_ext _ hd; clear hd
    refine hK _ _ ⟨_, rfl⟩ ?_; clear hK K E
    repeat (first | (refine mix_quiet (by rfl) (by rfl) (fun K hK => ?_); go_big_quiet_op; refine hK _ ?_; clear hK K) | (refine mix_skip (by rfl) ?_; simp only [Act.put, List.setIfInBounds_toArray, List.set_cons_zero, List.set_cons_succ]))
    refine mix_nil ?_
    go_wp2_with fail
    go_ret2
    exact ⟨by rw [HC.out]; rfl, hE1.trans (grow_ext _)⟩
  all_goals
    rw [if_neg (by omega)]
    have HC := Lib.hid hc
    clear hc
    unfold Rc.v
    go_enter Tryz.func22, Tryz.ntmps22
    go_wp2_with fail
    refine (refCheck_calls r _ (by omega)).mono ?_; rintro e w1 ⟨rfl, e1⟩
    rw [HC.out]
    go_wp2_with fail
    go_ret2
    exact ⟨by rw [HC.out]; rfl, ((Ext.refl w).alloc _).trans e1⟩

set_option maxHeartbeats 1000000 in
theorem recLeaf_calls (r : Rc) (w : World) (KW : Keys w) (hp : r.pay.length ≤ 140737488355328) :
    Calls Tryz.prog 29 #[r.v] w fun e w' => e = .returned (sumV (leafB r.outB)) ∧ Ext w w' := by
  obtain ⟨z, hz⟩ : ∃ z, z = leafB r.outB := ⟨_, rfl⟩
  rw [← hz]
  have hzl : z.length = 32 := by rw [hz]; exact leafB_length _
  have Hz := Lib.hid hz; clear hz
  have hol := Rc.outB_length r
  have hcall := fun w => recBytes_calls r w hp
  obtain ⟨d, hd⟩ : ∃ d, d = r.outB := ⟨_, rfl⟩
  rw [show (if r.check = 0 then r.bytes else []) = d from hd.symm] at hcall
  rw [← hd] at hol
  rw [← hd] at Hz
  clear hd
  generalize r.check = c at *
  unfold Rc.v at hcall ⊢
  go_enter Tryz.func29, Tryz.ntmps29
  go_wp2_with fail
  change Calls _ _ _ ((w.alloc _).alloc (.cells ((zerosB 32).map byteV).toArray 28)) _
  have hR0 : ArrB ((w.alloc (.cells #[.int .i64 r.win, .int .i64 r.idx, .int .i64 r.time, .string (bs r.pay)] 36)).alloc (.cells ((zerosB 32).map byteV).toArray 28)) (w.heap.size + 1) 28 (zerosB 32) := by
    have := Blk.new (w.alloc (.cells #[.int .i64 r.win, .int .i64 r.idx, .int .i64 r.time, .string (bs r.pay)] 36)) 28 ((zerosB 32).map byteV).toArray
    rw [show (w.alloc (.cells #[.int .i64 r.win, .int .i64 r.idx, .int .i64 r.time, .string (bs r.pay)] 36)).heap.size = w.heap.size + 1 from by simp] at this
    exact this
  have hE0 := ((Ext.refl w).alloc (.cells #[.int .i64 r.win, .int .i64 r.idx, .int .i64 r.time, .string (bs r.pay)] 36)).alloc (.cells ((zerosB 32).map byteV).toArray 28)
  generalize (w.alloc (.cells #[.int .i64 r.win, .int .i64 r.idx, .int .i64 r.time, .string (bs r.pay)] 36)).alloc (.cells ((zerosB 32).map byteV).toArray 28) = w0 at *
  refine (hcall _).mono ?_; rintro e w1 ⟨rfl, e1⟩
  have hR1 := Blk.below hR0 e1 hR0.lt
  clear hcall
  go_wp2_with fail
  refine (Leaf_calls d (by omega) _ (KW.ext (hE0.trans e1))).mono ?_; rw [← Hz.out]; rintro e w2 ⟨rfl, e2⟩
  have hml : (z.map byteV).toArray.size = 32 := by simp [hzl]
  have hR2 := Blk.below hR1 e2 hR1.lt
  have hE2 := (hE0.trans e1).trans e2
  clear Hz
  unfold sumV
  go_wp2_with (refine stop_store 28 (.tmp 2) (.tmp 11) rfl ?_)
  refine ⟨?_⟩
  refine wpList_store_row rfl 28 (.tmp 2) (.tmp 11) rfl (w.heap.size + 1) _ (by rfl) (by rfl) 28 _ hR2 (size32.trans (by rw [hml])) (by rw [hml]; simp [zerosB]) (by simp [byteV, Value.oneCell']) ?_
  simp only [Act.put, List.setIfInBounds_toArray, List.set_cons_zero, List.set_cons_succ]
  go_wp2_with fail
  exact bodyPost_ret (results_cell_row rfl _ _ (w.heap.size + 1) 28 _ (0, 0) _ rfl (Blk.row hR2 _) Tryz.underlying28 rfl (size32.trans (by rw [hml]))) rfl ⟨rfl, hE2.row (Nat.le_succ _) _⟩

set_option maxHeartbeats 1000000 in
theorem refRecLeaf_calls (r : Rc) (w : World) (hp : r.pay.length ≤ 140737488355328) :
    Calls Tryz.prog 15 #[r.v] w fun e w' => e = .returned (sumV (leafB r.outB)) ∧ Ext w w' := by
  obtain ⟨z, hz⟩ : ∃ z, z = leafB r.outB := ⟨_, rfl⟩
  rw [← hz]
  have hzl : z.length = 32 := by rw [hz]; exact leafB_length _
  have Hz := Lib.hid hz; clear hz
  have hol := Rc.outB_length r
  have hcall := fun w => refRecBytes_calls r w hp
  obtain ⟨d, hd⟩ : ∃ d, d = r.outB := ⟨_, rfl⟩
  rw [show (if r.check = 0 then r.bytes else []) = d from hd.symm] at hcall
  rw [← hd] at hol
  rw [← hd] at Hz
  clear hd
  generalize r.check = c at *
  unfold Rc.v at hcall ⊢
  go_enter Tryz.func15, Tryz.ntmps15
  go_wp2_with fail
  change Calls _ _ _ ((w.alloc _).alloc (.cells ((zerosB 32).map byteV).toArray 28)) _
  have hR0 : ArrB ((w.alloc (.cells #[.int .i64 r.win, .int .i64 r.idx, .int .i64 r.time, .string (bs r.pay)] 36)).alloc (.cells ((zerosB 32).map byteV).toArray 28)) (w.heap.size + 1) 28 (zerosB 32) := by
    have := Blk.new (w.alloc (.cells #[.int .i64 r.win, .int .i64 r.idx, .int .i64 r.time, .string (bs r.pay)] 36)) 28 ((zerosB 32).map byteV).toArray
    rw [show (w.alloc (.cells #[.int .i64 r.win, .int .i64 r.idx, .int .i64 r.time, .string (bs r.pay)] 36)).heap.size = w.heap.size + 1 from by simp] at this
    exact this
  have hE0 := ((Ext.refl w).alloc (.cells #[.int .i64 r.win, .int .i64 r.idx, .int .i64 r.time, .string (bs r.pay)] 36)).alloc (.cells ((zerosB 32).map byteV).toArray 28)
  generalize (w.alloc (.cells #[.int .i64 r.win, .int .i64 r.idx, .int .i64 r.time, .string (bs r.pay)] 36)).alloc (.cells ((zerosB 32).map byteV).toArray 28) = w0 at *
  refine (hcall _).mono ?_; rintro e w1 ⟨rfl, e1⟩
  have hR1 := Blk.below hR0 e1 hR0.lt
  clear hcall
  go_wp2_with fail
  refine (refLeaf_calls d (by omega) _).mono ?_; rw [← Hz.out]; rintro e w2 ⟨rfl, e2⟩
  have hml : (z.map byteV).toArray.size = 32 := by simp [hzl]
  have hR2 := Blk.below hR1 e2 hR1.lt
  have hE2 := (hE0.trans e1).trans e2
  clear Hz
  unfold sumV
  go_wp2_with (refine stop_store 28 (.tmp 2) (.tmp 11) rfl ?_)
  refine ⟨?_⟩
  refine wpList_store_row rfl 28 (.tmp 2) (.tmp 11) rfl (w.heap.size + 1) _ (by rfl) (by rfl) 28 _ hR2 (size32.trans (by rw [hml])) (by rw [hml]; simp [zerosB]) (by simp [byteV, Value.oneCell']) ?_
  simp only [Act.put, List.setIfInBounds_toArray, List.set_cons_zero, List.set_cons_succ]
  go_wp2_with fail
  exact bodyPost_ret (results_cell_row rfl _ _ (w.heap.size + 1) 28 _ (0, 0) _ rfl (Blk.row hR2 _) Tryz.underlying28 rfl (size32.trans (by rw [hml]))) rfl ⟨rfl, hE2.row (Nat.le_succ _) _⟩

/-- What the walk of RecordBytes wants of a record. -/
theorem rec_pack (q : Rc) (hp : q.pay.length ≤ 6000) : ∃ (c : Int) (sx z : List UInt8), z.length = 32 ∧ sx.length ≤ 7000 ∧
    Hid (∀ w, Calls Tryz.prog 65 #[q.v] w fun e w' => e = .returned (.tuple #[.string (bs sx), .int .i64 c]) ∧ Ext w w') ∧
    Hid (∀ w, Calls Tryz.prog 22 #[q.v] w fun e w' => e = .returned (.tuple #[.string (bs sx), .int .i64 c]) ∧ Ext w w') ∧
    Hid (∀ w, Calls Tryz.prog 28 #[q.v] w fun e w' => e = .returned (.int .i64 c) ∧ Ext w w') ∧
    Hid (∀ w, Calls Tryz.prog 50 #[q.v] w fun e w' => e = .returned (.int .i64 c) ∧ Ext w w') ∧
    Hid (∀ w, Keys w → Calls Tryz.prog 29 #[q.v] w fun e w' => e = .returned (sumV z) ∧ Ext w w') ∧
    Hid (∀ w, Calls Tryz.prog 15 #[q.v] w fun e w' => e = .returned (sumV z) ∧ Ext w w') ∧
    Hid (c = 0 → Rc.read sx = (q, 0)) := by
  have hl := Rc.outB_length q
  exact ⟨q.check, q.outB, leafB q.outB, leafB_length _, by omega, Lib.hid (fun w => recBytes_calls q w (by omega)), Lib.hid (fun w => refRecBytes_calls q w (by omega)), Lib.hid (fun w => Check_calls q w (by omega)), Lib.hid (fun w => refCheck_calls q w (by omega)),
    Lib.hid (fun w KW => recLeaf_calls q w KW (by omega)), Lib.hid (fun w => refRecLeaf_calls q w (by omega)), Lib.hid (fun hc => by unfold Rc.outB; rw [if_pos hc]; exact Rc.read_bytes q hc)⟩

end Go.Proofs.YtcgnjdkennkheaaGreatDoor
