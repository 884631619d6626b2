/-
  Arguments opened: freezes, heads, stones, a head with a stone, two of each.
-/
import Derived.Test.YtcgnjdkennkheaaDoorSeal1
set_option linter.unusedVariables false
set_option maxRecDepth 100000
set_option linter.unusedSimpArgs false
namespace Go.Proofs.YtcgnjdkennkheaaDoor
open Go.ChangeShapes Go.WideShapes Go.ChangeAt Go.RowKit
open Seal (Fz Hd St)
section
variable {H : Type} {enc : TypeId × Value → H} {W : World} {base : Nat} {v : Value}
theorem tr_i64 {cs : List Value} (h : Tr enc W 3 cs) : ∃ i : Int, cs = [.int .i64 i] ∧ (-9223372036854775808 ≤ i ∧ i ≤ 9223372036854775807) := by
  obtain ⟨i, e, w⟩ := tr_int Tryd.underlying3 h
  exact ⟨i, e, bounds_i64 w⟩
theorem tr_fz {cs : List Value} (h : Tr enc W 27 cs) : ∃ f : Fz, cs = f.cells ∧ f.fit := by
  have hk : Tryd.prog.cellsOf 27 = 34 := by kernel_rfl
  have hki : Tryd.prog.cellsOf 3 = 1 := by kernel_rfl
  have hks : Tryd.prog.cellsOf 23 = 32 := by kernel_rfl
  obtain ⟨hl, hf⟩ := tr_struct Tryd.underlying27 h
  rw [hk] at hl
  have h0 : Tr enc W 3 ((cs.drop 0).take (Tryd.prog.cellsOf 3)) := hf 0 _ rfl
  have h1 : Tr enc W 3 ((cs.drop 1).take (Tryd.prog.cellsOf 3)) := hf 1 _ rfl
  have h2 : Tr enc W 23 ((cs.drop 2).take (Tryd.prog.cellsOf 23)) := hf 2 _ rfl
  rw [hki] at h0 h1
  rw [hks] at h2
  obtain ⟨i0, e0, w0⟩ := tr_i64 h0
  obtain ⟨i1, e1, w1⟩ := tr_i64 h1
  obtain ⟨s, e2, w2⟩ := tr_sum h2
  have q : cs = (cs.drop 0).take 1 ++ ((cs.drop 1).take 1 ++ (cs.drop 2).take 32) := by
    rw [List.drop_zero, ← List.append_assoc, ← List.take_add, ← List.take_add, List.take_of_length_le (by omega)]
  rw [e0, e1, e2] at q
  exact ⟨⟨i0, i1, s⟩, by rw [q]; simp [Fz.cells], w0, w1, w2⟩
theorem tr_hd {cs : List Value} (h : Tr enc W 25 cs) : ∃ f : Hd, cs = f.cells ∧ f.fit := by
  have hk : Tryd.prog.cellsOf 25 = 66 := by kernel_rfl
  have hki : Tryd.prog.cellsOf 3 = 1 := by kernel_rfl
  have hks : Tryd.prog.cellsOf 23 = 32 := by kernel_rfl
  obtain ⟨hl, hf⟩ := tr_struct Tryd.underlying25 h
  rw [hk] at hl
  have h0 : Tr enc W 3 ((cs.drop 0).take (Tryd.prog.cellsOf 3)) := hf 0 _ rfl
  have h1 : Tr enc W 23 ((cs.drop 1).take (Tryd.prog.cellsOf 23)) := hf 1 _ rfl
  have h2 : Tr enc W 3 ((cs.drop 33).take (Tryd.prog.cellsOf 3)) := hf 2 _ rfl
  have h3 : Tr enc W 23 ((cs.drop 34).take (Tryd.prog.cellsOf 23)) := hf 3 _ rfl
  rw [hki] at h0 h2
  rw [hks] at h1 h3
  obtain ⟨i0, e0, w0⟩ := tr_i64 h0
  obtain ⟨s, e1, w1⟩ := tr_sum h1
  obtain ⟨i2, e2, w2⟩ := tr_i64 h2
  obtain ⟨m, e3, w3⟩ := tr_sum h3
  have q : cs = (cs.drop 0).take 1 ++ ((cs.drop 1).take 32 ++ ((cs.drop 33).take 1 ++ (cs.drop 34).take 32)) := by
    rw [List.drop_zero, ← List.append_assoc, ← List.take_add, ← List.append_assoc, ← List.take_add, ← List.take_add, List.take_of_length_le (by omega)]
  rw [e0, e1, e2, e3] at q
  exact ⟨⟨i0, s, i2, m⟩, by rw [q]; simp [Hd.cells], w0, w2, w1, w3⟩
theorem tr_st {cs : List Value} (h : Tr enc W 29 cs) : ∃ f : St, cs = f.cells ∧ f.fit := by
  have hk : Tryd.prog.cellsOf 29 = 67 := by kernel_rfl
  have hki : Tryd.prog.cellsOf 3 = 1 := by kernel_rfl
  have hkf : Tryd.prog.cellsOf 27 = 34 := by kernel_rfl
  have hks : Tryd.prog.cellsOf 23 = 32 := by kernel_rfl
  obtain ⟨hl, hf⟩ := tr_struct Tryd.underlying29 h
  rw [hk] at hl
  have h0 : Tr enc W 27 ((cs.drop 0).take (Tryd.prog.cellsOf 27)) := hf 0 _ rfl
  have h1 : Tr enc W 3 ((cs.drop 34).take (Tryd.prog.cellsOf 3)) := hf 1 _ rfl
  have h2 : Tr enc W 23 ((cs.drop 35).take (Tryd.prog.cellsOf 23)) := hf 2 _ rfl
  rw [hkf] at h0
  rw [hki] at h1
  rw [hks] at h2
  obtain ⟨f, e0, w0⟩ := tr_fz h0
  obtain ⟨i1, e1, w1⟩ := tr_i64 h1
  obtain ⟨m, e2, w2⟩ := tr_sum h2
  have q : cs = (cs.drop 0).take 34 ++ ((cs.drop 34).take 1 ++ (cs.drop 35).take 32) := by
    rw [List.drop_zero, ← List.append_assoc, ← List.take_add, ← List.take_add, List.take_of_length_le (by omega)]
  rw [e0, e1, e2] at q
  exact ⟨⟨f, i1, m⟩, by rw [q]; simp [St.cells], w0, w1, w2⟩
theorem okWide_agg {t : TypeId} {fs : Array Field} (hu : Tryd.prog.underlying t = some (.struct fs)) (h : Value.okWide Tryd.prog W .any base t v) : ∃ cs, v = .agg cs := by
  simp only [Value.okWide, hu] at h
  obtain ⟨cs, h1, _⟩ := h
  exact ⟨cs, h1⟩
theorem agg_is {cs : Array Value} {l : List Value} (h : (Value.agg cs).cells.toList = l) : Value.agg cs = .agg l.toArray := by
  simp only [Value.cells] at h
  rw [← h]
theorem op_fz (hv : Value.okWide Tryd.prog W .any base 27 v) (h : Tr enc W 27 v.cells.toList) : ∃ f : Fz, v = f.v ∧ f.fit := by
  obtain ⟨f, hr, hq⟩ := tr_fz h
  obtain ⟨cs, rfl⟩ := okWide_agg Tryd.underlying27 hv
  exact ⟨f, agg_is hr, hq⟩
theorem op_hd (hv : Value.okWide Tryd.prog W .any base 25 v) (h : Tr enc W 25 v.cells.toList) : ∃ f : Hd, v = f.v ∧ f.fit := by
  obtain ⟨f, hr, hq⟩ := tr_hd h
  obtain ⟨cs, rfl⟩ := okWide_agg Tryd.underlying25 hv
  exact ⟨f, agg_is hr, hq⟩
theorem op_st (hv : Value.okWide Tryd.prog W .any base 29 v) (h : Tr enc W 29 v.cells.toList) : ∃ f : St, v = f.v ∧ f.fit := by
  obtain ⟨f, hr, hq⟩ := tr_st h
  obtain ⟨cs, rfl⟩ := okWide_agg Tryd.underlying29 hv
  exact ⟨f, agg_is hr, hq⟩
theorem op_hs (hv : Value.okWide Tryd.prog W .any base 47 v) (h : Tr enc W 47 v.cells.toList) : ∃ (a : Hd) (b : St), v = .agg (a.cells ++ b.cells).toArray ∧ a.fit ∧ b.fit := by
  have hk : Tryd.prog.cellsOf 47 = 133 := by kernel_rfl
  have hkh : Tryd.prog.cellsOf 25 = 66 := by kernel_rfl
  have hks : Tryd.prog.cellsOf 29 = 67 := by kernel_rfl
  obtain ⟨cs, rfl⟩ := okWide_agg Tryd.underlying47 hv
  obtain ⟨hl, hf⟩ := tr_struct Tryd.underlying47 h
  rw [hk] at hl
  obtain ⟨cs⟩ := cs
  simp only [Value.cells] at hl hf
  have h0 : Tr enc W 25 ((cs.drop 0).take (Tryd.prog.cellsOf 25)) := hf 0 _ rfl
  have h1 : Tr enc W 29 ((cs.drop 66).take (Tryd.prog.cellsOf 29)) := hf 1 _ rfl
  rw [hkh] at h0
  rw [hks] at h1
  obtain ⟨a, e0, w0⟩ := tr_hd h0
  obtain ⟨b, e1, w1⟩ := tr_st h1
  have q : cs = (cs.drop 0).take 66 ++ (cs.drop 66).take 67 := by
    rw [List.drop_zero, ← List.take_add, List.take_of_length_le (by omega)]
  rw [e0, e1] at q
  exact ⟨a, b, by rw [q], w0, w1⟩
theorem tr_two {t e : TypeId} {n k : Nat} {cs : List Value} (hu : Tryd.prog.underlying t = some (.array 2 e)) (hk : Tryd.prog.cellsOf t = k + k) (hke : Tryd.prog.cellsOf e = k) (h : Tr enc W t cs) : ∃ x y, cs = x ++ y ∧ Tr enc W e x ∧ Tr enc W e y := by
  obtain ⟨hl, hel⟩ := tr_array hu h
  rw [hk] at hl
  rw [hke] at hel
  have h0 := hel 0 (by omega)
  have h1 := hel 1 (by omega)
  rw [Nat.zero_mul, List.drop_zero] at h0
  rw [Nat.one_mul] at h1
  refine ⟨_, _, ?_, h0, h1⟩
  rw [← List.take_add, List.take_of_length_le (by omega)]
theorem op_fz2 (hv : Value.okWide Tryd.prog W .any base 37 v) (h : Tr enc W 37 v.cells.toList) : ∃ a b : Fz, v = .agg (a.cells ++ b.cells).toArray ∧ a.fit ∧ b.fit := by
  obtain ⟨cs, rfl, _⟩ := okWide_arr Tryd.underlying37 hv
  obtain ⟨x, y, hxy, hx, hy⟩ := tr_two (n := 2) (k := 34) Tryd.underlying37 (by kernel_rfl) (by kernel_rfl) h
  obtain ⟨a, rfl, wa⟩ := tr_fz hx
  obtain ⟨b, rfl, wb⟩ := tr_fz hy
  exact ⟨a, b, agg_is hxy, wa, wb⟩
theorem op_hd2 (hv : Value.okWide Tryd.prog W .any base 38 v) (h : Tr enc W 38 v.cells.toList) : ∃ a b : Hd, v = .agg (a.cells ++ b.cells).toArray ∧ a.fit ∧ b.fit := by
  obtain ⟨cs, rfl, _⟩ := okWide_arr Tryd.underlying38 hv
  obtain ⟨x, y, hxy, hx, hy⟩ := tr_two (n := 2) (k := 66) Tryd.underlying38 (by kernel_rfl) (by kernel_rfl) h
  obtain ⟨a, rfl, wa⟩ := tr_hd hx
  obtain ⟨b, rfl, wb⟩ := tr_hd hy
  exact ⟨a, b, agg_is hxy, wa, wb⟩
theorem op_st2 (hv : Value.okWide Tryd.prog W .any base 39 v) (h : Tr enc W 39 v.cells.toList) : ∃ a b : St, v = .agg (a.cells ++ b.cells).toArray ∧ a.fit ∧ b.fit := by
  obtain ⟨cs, rfl, _⟩ := okWide_arr Tryd.underlying39 hv
  obtain ⟨x, y, hxy, hx, hy⟩ := tr_two (n := 2) (k := 67) Tryd.underlying39 (by kernel_rfl) (by kernel_rfl) h
  obtain ⟨a, rfl, wa⟩ := tr_st hx
  obtain ⟨b, rfl, wb⟩ := tr_st hy
  exact ⟨a, b, agg_is hxy, wa, wb⟩
end
end Go.Proofs.YtcgnjdkennkheaaDoor
