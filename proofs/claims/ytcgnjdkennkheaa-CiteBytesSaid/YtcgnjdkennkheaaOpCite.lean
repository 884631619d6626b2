/-
  Arguments opened: cites.
-/
import Derived.Test.YtcgnjdkennkheaaCiteM
set_option linter.unusedVariables false
set_option maxRecDepth 100000
set_option linter.unusedSimpArgs false
namespace Go.Proofs.Ytcgnjdkennkheaa
open Go.ChangeShapes Go.WideShapes Go.ChangeAt Go.RowKit
open Seal (Fz Hd St Ct)
section
variable {H : Type} {enc : TypeId × Value → H} {W : World} {base : Nat} {v : Value}
theorem tr_sls {c : Value} (h : Tr enc W 26 [c]) : ∃ l, SlS W W.heap.size c l ∧ AllH l := by
  have hk : Try.prog.cellsOf 23 = 32 := by kernel_rfl
  have h' := h
  obtain ⟨A, n, cap, X, hc, hX, hr, hn, hm, hel⟩ := tr_slice Try.underlying26 (by rw [hk]; omega) h
  rw [hk] at hX hel
  obtain ⟨l, hl, hq, rfl⟩ := chunks hcells (fun s => s.length = 32) 32 (fun s hs => by rw [hcells_length, hs]) n X hX (fun i hi => by
    obtain ⟨s, hs, hw⟩ := tr_sum (hel i hi)
    exact ⟨s, hw, hs⟩)
  subst hl
  injection hc with hc
  subst hc
  have hq' : AllH l := hq
  refine ⟨l, ⟨A, cap, rfl, ?_, hn, by unfold maxLen at hm; omega, hr⟩, hq'⟩
  by_cases hl0 : l = []
  · subst hl0
    by_cases hc0 : cap = 0
    · subst hc0
      refine .inl ⟨?_, rfl, rfl⟩
      cases A with
      | none => exact .inl rfl
      | some a => exact .inr ⟨a, rfl⟩
    · obtain ⟨n, x, hn⟩ := h'
      rcases Go.Deep.open_slice Try.underlying26 hn with ⟨h1, _⟩ | ⟨a, len, cap', m, n', D, Pl, h1, _, hlc, hcm, hmm, _, hall⟩
      · simp only [List.cons.injEq, Value.slice.injEq, and_true] at h1
        exact absurd h1.2.2 hc0
      · simp only [List.cons.injEq, Value.slice.injEq, and_true] at h1
        obtain ⟨rfl, rfl, rfl⟩ := h1
        refine .inr ?_
        have hm0 : m = cap := by simpa using hmm
        obtain ⟨cs', hcs, _⟩ := hall 0 (by omega)
        obtain ⟨_, hl', hat⟩ := World.cells?_some hcs
        have h2 := hat 0 (by rw [hk]; omega)
        rw [Nat.zero_mul, Go.Deep.add_add, Nat.add_zero, List.getElem?_eq_getElem (by rw [hl', hk]; omega)] at h2
        obtain ⟨b, off, spot⟩ := a
        have hspot : spot = none := by simpa [Addr.add] using World.cell?_spot h2
        subst hspot
        exact ⟨b, off, rfl⟩
  · obtain ⟨b, off, rfl, _, _⟩ := hr (by
      intro e
      have := flatS_length l hq'
      rw [show flatS l = l.flatMap hcells from rfl, e] at this
      exact hl0 (List.eq_nil_of_length_eq_zero (by simp at this; omega)))
    exact .inr ⟨b, off, rfl⟩
theorem tr_ct {cs : List Value} (h : Tr enc W 30 cs) : ∃ (c : Ct) (P Q : Value), cs = citeC c.fz P c.place Q c.hd ∧ c.ok ∧ SlS W W.heap.size P c.path ∧ SlS W W.heap.size Q c.super := by
  have hk : Try.prog.cellsOf 30 = 103 := by kernel_rfl
  have hki : Try.prog.cellsOf 3 = 1 := by kernel_rfl
  have hkf : Try.prog.cellsOf 25 = 34 := by kernel_rfl
  have hkh : Try.prog.cellsOf 28 = 66 := by kernel_rfl
  have hks : Try.prog.cellsOf 26 = 1 := by kernel_rfl
  obtain ⟨hl, hf⟩ := tr_struct Try.underlying30 h
  rw [hk] at hl
  have h0 : Tr enc W 25 ((cs.drop 0).take (Try.prog.cellsOf 25)) := hf 0 _ rfl
  have h1 : Tr enc W 26 ((cs.drop 34).take (Try.prog.cellsOf 26)) := hf 1 _ rfl
  have h2 : Tr enc W 3 ((cs.drop 35).take (Try.prog.cellsOf 3)) := hf 2 _ rfl
  have h3 : Tr enc W 26 ((cs.drop 36).take (Try.prog.cellsOf 26)) := hf 3 _ rfl
  have h4 : Tr enc W 28 ((cs.drop 37).take (Try.prog.cellsOf 28)) := hf 4 _ rfl
  rw [hkf] at h0
  rw [hks] at h1 h3
  rw [hki] at h2
  rw [hkh] at h4
  have l1 : ((cs.drop 34).take 1).length = 1 := by simp; omega
  have l3 : ((cs.drop 36).take 1).length = 1 := by simp; omega
  obtain ⟨P, hP⟩ := List.length_eq_one_iff.1 l1
  obtain ⟨Q, hQ⟩ := List.length_eq_one_iff.1 l3
  obtain ⟨f, e0, w0⟩ := tr_fz h0
  obtain ⟨i2, e2, w2⟩ := tr_i64 h2
  obtain ⟨hd, e4, w4⟩ := tr_hd h4
  have q : cs = (cs.drop 0).take 34 ++ ((cs.drop 34).take 1 ++ ((cs.drop 35).take 1 ++ ((cs.drop 36).take 1 ++ (cs.drop 37).take 66))) := by
    rw [List.drop_zero, ← List.append_assoc, ← List.take_add, ← List.append_assoc, ← List.take_add, ← List.append_assoc, ← List.take_add, ← List.take_add, List.take_of_length_le (by omega)]
  rw [hP] at h1 q
  rw [hQ] at h3 q
  rw [e0, e2, e4] at q
  obtain ⟨a, hSa, hAa⟩ := tr_sls h1
  obtain ⟨b, hSb, hAb⟩ := tr_sls h3
  exact ⟨⟨f, a, i2, b, hd⟩, P, Q, by rw [q]; simp [citeC], ⟨w0.2.2, w4.2.2.1, w4.2.2.2, hAa, hAb⟩, hSa, hSb⟩
theorem op_ct (hv : Value.okWide Try.prog W .any base 30 v) (h : Tr enc W 30 v.cells.toList) : ∃ (c : Ct) (P Q : Value), v = citeV c.fz P c.place Q c.hd ∧ c.ok ∧ SlS W W.heap.size P c.path ∧ SlS W W.heap.size Q c.super := by
  obtain ⟨c, P, Q, hr, hq⟩ := tr_ct h
  obtain ⟨cs, rfl⟩ := okWide_agg Try.underlying30 hv
  exact ⟨c, P, Q, agg_is hr, hq⟩
end

end Go.Proofs.Ytcgnjdkennkheaa
