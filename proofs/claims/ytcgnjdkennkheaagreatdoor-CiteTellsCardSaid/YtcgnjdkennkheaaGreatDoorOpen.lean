/-
  Arguments opened: what a value that reads as data of a type looks like, whatever the type's depth.
-/
import Derived.Test.YtcgnjdkennkheaaGreatDoorLaw
import Derived.Deep.Slices
set_option linter.unusedVariables false
set_option maxRecDepth 100000
set_option linter.unusedSimpArgs false
namespace Go.Proofs.YtcgnjdkennkheaaGreatDoor
open Go.ChangeShapes Go.WideShapes Go.ChangeAt Go.RowKit

section
variable {H : Type} (enc : TypeId × Value → H) (W : World)
/-- The cells cs read as data of type t. -/
def Tr (t : TypeId) (cs : List Value) : Prop := ∃ n x, DataW.trod enc Tryz.prog W 0 (fun _ => true) true n t cs = some x

variable {enc W} {t e : TypeId} {cs : List Value}
theorem tr_of {v : Value} {d : DataW H} {p : List MemPlace} (h : DataW.Trod enc Tryz.prog W 0 (fun _ => true) true t v d p) : Tr enc W t v.cells.toList := by
  obtain ⟨n, hn⟩ := h
  exact ⟨n, _, hn⟩
theorem tr_int {k : IntKind} (hu : Tryz.prog.underlying t = some (.int k)) (h : Tr enc W t cs) : ∃ i, cs = [.int k i] ∧ (Lit.int k i).wf = true := by
  obtain ⟨n, x, hn⟩ := h
  obtain ⟨i, hc, _, hw⟩ := DataW.trod_int hu hn
  exact ⟨i, hc, hw⟩
theorem tr_bool (hu : Tryz.prog.underlying t = some .bool) (h : Tr enc W t cs) : ∃ b, cs = [.bool b] := by
  obtain ⟨n, x, hn⟩ := h
  obtain ⟨b, hc, _⟩ := DataW.trod_bool hu hn
  exact ⟨b, hc⟩
theorem tr_string (hu : Tryz.prog.underlying t = some .string) (h : Tr enc W t cs) : ∃ l, cs = [strV l] ∧ l.length ≤ maxLen := by
  obtain ⟨n, x, hn⟩ := h
  obtain ⟨s, hc, _, hw⟩ := DataW.trod_string hu hn
  obtain ⟨l, rfl⟩ := bs_ex s
  exact ⟨l, hc, by rwa [bs_size] at hw⟩
theorem tr_struct {fs : Array Field} (hu : Tryz.prog.underlying t = some (.struct fs)) (h : Tr enc W t cs) :
    cs.length = Tryz.prog.cellsOf t ∧ ∀ (j : Nat) (f : Field), fs[j]? = some f → Tr enc W f.type ((cs.drop f.offset).take (Tryz.prog.cellsOf f.type)) := by
  obtain ⟨n, x, hn⟩ := h
  obtain ⟨xs, m, _, _, hl, hxl, hf⟩ := DataW.trod_struct hu hn
  refine ⟨hl, fun j f hj => ?_⟩
  have hjl : j < fs.size := (Array.getElem?_eq_some_iff.1 hj).1
  exact ⟨m, xs[j]'(by omega), by rw [hf j f hj, List.getElem?_eq_getElem (by omega)]⟩
theorem tr_array {n : Nat} (hu : Tryz.prog.underlying t = some (.array n e)) (h : Tr enc W t cs) :
    cs.length = Tryz.prog.cellsOf t ∧ ∀ i, i < n → Tr enc W e ((cs.drop (i * Tryz.prog.cellsOf e)).take (Tryz.prog.cellsOf e)) := by
  obtain ⟨m, x, hn⟩ := h
  obtain ⟨xs, m, _, _, hl, hxl, hf⟩ := DataW.trod_array hu hn
  exact ⟨hl, fun i hi => ⟨m, xs[i]'(by omega), by rw [hf i hi, List.getElem?_eq_getElem (by omega)]⟩⟩
theorem tr_slice (hu : Tryz.prog.underlying t = some (.slice e)) (hk : 0 < Tryz.prog.cellsOf e) (h : Tr enc W t cs) :
    ∃ A n cap X, cs = [.slice A n cap] ∧ X.length = n * Tryz.prog.cellsOf e ∧ Rd W W.heap.size A X ∧ n ≤ cap ∧ cap ≤ maxLen ∧ ∀ i, i < n → Tr enc W e ((X.drop (i * Tryz.prog.cellsOf e)).take (Tryz.prog.cellsOf e)) := by
  obtain ⟨n, x, hn⟩ := h
  rcases Go.Deep.open_slice hu hn with ⟨rfl, _⟩ | ⟨a, len, cap, m, n', D, Pl, rfl, _, hlc, hcm, hm, _, hall⟩
  · exact ⟨none, 0, 0, [], rfl, by simp, Rd.nil, Nat.le_refl _, Nat.zero_le _, fun i hi => absurd hi (by omega)⟩
  · generalize hkk : Tryz.prog.cellsOf e = k at *
    have hlm : len ≤ m := by simp at hm; omega
    have hcell : ∀ i r, i < len → r < k → ∃ u, W.cell? (a.add (i * k + r)) = some u := by
      intro i r hi hr
      obtain ⟨cs', hc, _⟩ := hall i (by omega)
      obtain ⟨_, hl', hat⟩ := World.cells?_some hc
      have := hat r hr
      rw [Go.Deep.add_add] at this
      exact ⟨cs'[r]'(by omega), by rw [this, List.getElem?_eq_getElem (by omega)]⟩
    have hX : ∀ j, j < len * k → ∃ u, W.cell? (a.add j) = some u := by
      intro j hj
      have h1 : j / k < len := by rw [Nat.div_lt_iff_lt_mul hk]; exact hj
      have := hcell (j / k) (j % k) h1 (Nat.mod_lt _ hk)
      rwa [Nat.mul_comm, Nat.div_add_mod] at this
    refine ⟨some a, len, cap, (List.range (len * k)).map (fun j => (W.cell? (a.add j)).getD undef), rfl, by simp, ?_, hlc, hcm, ?_⟩
    · intro hne
      have hpos : 0 < len * k := by
        rcases Nat.eq_zero_or_pos (len * k) with h0 | h0
        · rw [h0] at hne; simp at hne
        · exact h0
      obtain ⟨u0, hu0⟩ := hX 0 hpos
      obtain ⟨b, off, spot⟩ := a
      have hspot : spot = none := by simpa [Addr.add] using World.cell?_spot hu0
      subst hspot
      refine ⟨b, off, rfl, ?_, fun j u hu => ?_⟩
      · have := World.block_lt_of_cell? W _ hu0
        simpa [Addr.add] using this
      · rw [← Go.WideShapes.add_plain]
        rw [List.getElem?_map] at hu
        obtain ⟨j', hj', rfl⟩ := Option.map_eq_some_iff.1 hu
        rw [List.getElem?_range (by
          rcases Nat.lt_or_ge j (len * k) with h | h
          · exact h
          · rw [List.getElem?_eq_none (by simpa using h)] at hj'; cases hj')] at hj'
        injection hj' with hj'
        subst hj'
        obtain ⟨u, hu⟩ := hX j (by
          rcases Nat.lt_or_ge j (len * k) with h | h
          · exact h
          · rw [List.getElem?_eq_none (by simpa using h)] at hu; cases hu)
        rw [hu]; rfl
    · intro i hi
      obtain ⟨cs', hc, ht⟩ := hall i (by omega)
      obtain ⟨_, hl', hat⟩ := World.cells?_some hc
      have he : ((List.map (fun j => (W.cell? (a.add j)).getD undef) (List.range (len * k))).drop (i * k)).take k = cs' := by
        apply List.ext_getElem?
        intro r
        rcases Nat.lt_or_ge r k with hr | hr
        · rw [List.getElem?_take, if_pos hr, List.getElem?_drop, List.getElem?_map]
          have hlt : i * k + r < len * k := by
            have := Nat.mul_le_mul_right k (show i + 1 ≤ len from hi)
            rw [Nat.add_mul] at this
            omega
          rw [List.getElem?_range hlt]
          have := hat r hr
          rw [Go.Deep.add_add] at this
          simp only [Option.map_some]
          rw [this, List.getElem?_eq_getElem (by omega)]
          rfl
        · rw [List.getElem?_eq_none (by simp; omega), List.getElem?_eq_none (by omega)]
      rw [he]
      exact ⟨n', _, ht⟩
end

/-- A list of cells that falls into readable pieces is that of a list. -/
theorem chunks {α : Type} (cells : α → List Value) (Q : α → Prop) (k : Nat) (hk : ∀ a, Q a → (cells a).length = k) : ∀ (n : Nat) (X : List Value), X.length = n * k → (∀ i, i < n → ∃ a, Q a ∧ (X.drop (i * k)).take k = cells a) → ∃ l : List α, l.length = n ∧ (∀ a ∈ l, Q a) ∧ X = l.flatMap cells := by
  intro n
  induction n with
  | zero => intro X hX _; exact ⟨[], rfl, by simp, List.eq_nil_of_length_eq_zero (by simpa using hX)⟩
  | succ n ih =>
    intro X hX h
    obtain ⟨a, hq, ha⟩ := h 0 (by omega)
    simp only [Nat.zero_mul, List.drop_zero] at ha
    obtain ⟨l, hl, hql, hr⟩ := ih (X.drop k) (by rw [List.length_drop, hX, Nat.add_mul]; omega) (fun i hi => by
      obtain ⟨b, hb, hb'⟩ := h (i + 1) (by omega)
      refine ⟨b, hb, ?_⟩
      rw [List.drop_drop, ← hb']
      congr 2
      rw [Nat.add_mul]; omega)
    refine ⟨a :: l, by simp [hl], ?_, ?_⟩
    · intro x hx
      rcases List.mem_cons.1 hx with rfl | hx
      · exact hq
      · exact hql x hx
    · rw [List.flatMap_cons, ← hr, ← ha, List.take_append_drop]

section
variable {H : Type} {enc : TypeId × Value → H} {W : World} {base : Nat} {v : Value}
theorem okWide_arr {t e : TypeId} {n : Nat} (ht : Tryz.prog.underlying t = some (.array n e)) (h : Value.okWide Tryz.prog W .any base t v) : ∃ cs, v = .agg cs ∧ cs.size = Tryz.prog.cellsOf t := by
  simp only [Value.okWide, ht] at h
  obtain ⟨cs, h1, h2, _⟩ := h
  exact ⟨cs, h1, h2⟩
theorem op_u64 (hv : Value.okWide Tryz.prog W .any base 82 v) (h : Tr enc W 82 v.cells.toList) : ∃ n : Nat, v = .int .u64 n ∧ n ≤ 18446744073709551615 := by
  obtain ⟨i, hc, hw⟩ := tr_int Tryz.underlying82 h
  obtain ⟨b0, b1⟩ := bounds_u64 hw
  obtain ⟨n, rfl⟩ := Int.eq_ofNat_of_zero_le b0
  refine ⟨n, ?_, by omega⟩
  obtain ⟨j, rfl⟩ := okWide_int Tryz.underlying82 hv
  simpa [Value.cells] using hc
theorem op_int (hv : Value.okWide Tryz.prog W .any base 3 v) (h : Tr enc W 3 v.cells.toList) : ∃ n : Int, v = .int .i64 n ∧ -9223372036854775808 ≤ n ∧ n ≤ 9223372036854775807 := by
  obtain ⟨i, hc, hw⟩ := tr_int Tryz.underlying3 h
  obtain ⟨b0, b1⟩ := bounds_i64 hw
  refine ⟨i, ?_, b0, b1⟩
  obtain ⟨j, rfl⟩ := okWide_int Tryz.underlying3 hv
  simpa [Value.cells] using hc
theorem op_str (hv : Value.okWide Tryz.prog W .any base 9 v) (h : Tr enc W 9 v.cells.toList) : ∃ l : List UInt8, v = .string (bs l) ∧ l.length ≤ 9223372036854775807 := by
  obtain ⟨l, hc, hw⟩ := tr_string Tryz.underlying9 h
  refine ⟨l, ?_, by unfold maxLen at hw; omega⟩
  obtain ⟨s, rfl⟩ := okWide_string Tryz.underlying9 hv
  simpa [Value.cells, strV] using hc
theorem tr_strs {cs : List Value} (h : Tr enc W 85 cs) : ∃ A cap, ∃ l : List (List UInt8), cs = [.slice A l.length cap] ∧ Rd W W.heap.size A (l.map strV) ∧ l.length ≤ cap ∧ cap ≤ 9223372036854775807 ∧ ∀ s ∈ l, s.length ≤ 9223372036854775807 := by
  have hk : Tryz.prog.cellsOf 9 = 1 := by kernel_rfl
  obtain ⟨A, n, cap, X, hc, hX, hr, hn, hm, hel⟩ := tr_slice Tryz.underlying85 (by rw [hk]; omega) h
  rw [hk] at hX hel
  obtain ⟨l, hl, hq, rfl⟩ := chunks (fun s : List UInt8 => [strV s]) (fun s => s.length ≤ 9223372036854775807) 1 (fun _ _ => rfl) n X hX (fun i hi => by
    obtain ⟨s, hs, hw⟩ := tr_string Tryz.underlying9 (hel i hi)
    exact ⟨s, by unfold maxLen at hw; omega, hs⟩)
  subst hl
  exact ⟨A, cap, l, hc, by rw [List.map_eq_flatMap]; exact hr, hn, by unfold maxLen at hm; omega, hq⟩
theorem op_strs (hv : Value.okWide Tryz.prog W .any base 85 v) (h : Tr enc W 85 v.cells.toList) : ∃ A cap, ∃ l : List (List UInt8), v = .slice A l.length cap ∧ Rd W W.heap.size A (l.map strV) ∧ l.length ≤ cap ∧ cap ≤ 9223372036854775807 ∧ ∀ s ∈ l, s.length ≤ 9223372036854775807 := by
  obtain ⟨A, cap, l, hc, hr⟩ := tr_strs h
  obtain ⟨A', n', c', rfl⟩ := okWide_slice Tryz.underlying85 hv
  simp only [Value.cells, List.cons.injEq, Value.slice.injEq, and_true] at hc
  obtain ⟨rfl, rfl, rfl⟩ := hc
  exact ⟨_, _, l, rfl, hr⟩
end

end Go.Proofs.YtcgnjdkennkheaaGreatDoor
