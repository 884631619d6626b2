/-
  Words for slices of hashes: cells, one hash loaded, slices cut; arguments opened.
-/
import Derived.Test.YtcgnjdkennkheaaGreatDoorSha9
import Derived.Test.YtcgnjdkennkheaaGreatDoorUpd
import Derived.Test.YtcgnjdkennkheaaGreatDoorOpS
import Derived.Test.YtcgnjdkennkheaaGreatDoorOpen
import Derived.Deep.MidRow
set_option linter.unusedVariables false
set_option maxRecDepth 100000
set_option linter.unusedSimpArgs false
set_option linter.unusedSectionVars false
namespace Go.Proofs.YtcgnjdkennkheaaGreatDoor
open Go.ChangeShapes Go.WideShapes Go.ChangeAt Go.RowKit

def hcells (s : List UInt8) : List Value := s.map byteV
theorem hcells_length (s : List UInt8) : (hcells s).length = s.length := by simp [hcells]
/-- The cells of a row of hashes. -/
def flatS (l : List (List UInt8)) : List Value := l.flatMap hcells
/-- Each has 32 bytes. -/
def AllH (l : List (List UInt8)) : Prop := ∀ s ∈ l, s.length = 32
theorem AllH.nil : AllH [] := fun _ h => by cases h
theorem AllH.cons {s : List UInt8} {l : List (List UInt8)} (hs : s.length = 32) (h : AllH l) : AllH (s :: l) := fun t ht => by
  rcases List.mem_cons.1 ht with rfl | ht
  · exact hs
  · exact h t ht
theorem AllH.append {a b : List (List UInt8)} (ha : AllH a) (hb : AllH b) : AllH (a ++ b) := fun s hs => (List.mem_append.1 hs).elim (ha s) (hb s)
theorem AllH.take {l : List (List UInt8)} (h : AllH l) (k : Nat) : AllH (l.take k) := fun s hs => h s (List.mem_of_mem_take hs)
theorem AllH.drop {l : List (List UInt8)} (h : AllH l) (k : Nat) : AllH (l.drop k) := fun s hs => h s (List.mem_of_mem_drop hs)
theorem AllH.get {l : List (List UInt8)} (h : AllH l) (k : Nat) (hk : k < l.length) : l[k].length = 32 := h _ (List.getElem_mem hk)
theorem AllH.tail {s : List UInt8} {l : List (List UInt8)} (h : AllH (s :: l)) : AllH l := fun t ht => h t (List.mem_cons_of_mem _ ht)
theorem flatS_append (a b : List (List UInt8)) : flatS (a ++ b) = flatS a ++ flatS b := by simp [flatS]
theorem flatS_one (s : List UInt8) : flatS [s] = hcells s := by simp [flatS]
theorem flatS_length : ∀ (l : List (List UInt8)), AllH l → (flatS l).length = l.length * 32
  | [], _ => rfl
  | s :: l, h => by
    have h1 := h s (by simp)
    have h2 := flatS_length l h.tail
    unfold flatS at *
    simp only [List.flatMap_cons, List.length_append, hcells_length, List.length_cons, h1, h2]
    omega
theorem flatS_ne {l : List (List UInt8)} (h : AllH l) {k : Nat} (hk : k < l.length) : flatS l ≠ [] := fun e => by
  have := flatS_length l h
  rw [e] at this
  simp at this
  omega
theorem flatS_drop (l : List (List UInt8)) (h : AllH l) (k : Nat) : flatS (l.drop k) = (flatS l).drop (k * 32) := by
  rcases Nat.lt_or_ge k l.length with hk | hk
  · have e : flatS l = flatS (l.take k) ++ flatS (l.drop k) := by rw [← flatS_append, List.take_append_drop]
    have hl : (flatS (l.take k)).length = k * 32 := by rw [flatS_length _ (h.take k)]; simp; omega
    rw [e, ← hl, List.drop_left]
  · rw [List.drop_of_length_le hk, List.drop_of_length_le (by rw [flatS_length l h]; omega)]
    rfl
theorem flatS_take (l : List (List UInt8)) (h : AllH l) (k : Nat) : flatS (l.take k) = (flatS l).take (k * 32) := by
  rcases Nat.lt_or_ge k l.length with hk | hk
  · have e : flatS l = flatS (l.take k) ++ flatS (l.drop k) := by rw [← flatS_append, List.take_append_drop]
    have hl : (flatS (l.take k)).length = k * 32 := by rw [flatS_length _ (h.take k)]; simp; omega
    rw [e, ← hl, List.take_left]
  · rw [List.take_of_length_le hk, List.take_of_length_le (by rw [flatS_length l h]; omega)]
theorem flatS_get (l : List (List UInt8)) (h : AllH l) (k : Nat) (hk : k < l.length) (j : Nat) (v : Value) (hv : (hcells l[k])[j]? = some v) : (flatS l)[k * 32 + j]? = some v := by
  have h1 := flatS_drop l h k
  rw [List.drop_eq_getElem_cons hk] at h1
  have h2 : (flatS (l[k] :: l.drop (k + 1)))[j]? = some v := by
    unfold flatS
    rw [List.flatMap_cons, List.getElem?_append_left (List.getElem?_eq_some_iff.1 hv).1]
    exact hv
  rw [h1, List.getElem?_drop] at h2
  exact h2

section
variable {w : World} {B : Nat} {A : Option Addr} {l : List (List UInt8)}
/-- One of them. -/
theorem rds_mid (h : Rd w B A (flatS l)) (hl : AllH l) {k : Nat} (hk : k < l.length) : ∃ b off, A = some ⟨b, off, none⟩ ∧ b < B ∧ w.rangeAt b (off + k * 32) (hcells l[k]) := by
  obtain ⟨b, off, rfl, hb, hc⟩ := h (flatS_ne hl hk)
  exact ⟨b, off, rfl, hb, fun j v hv => by rw [Nat.add_assoc]; exact hc _ v (flatS_get l hl k hk j v hv)⟩
theorem rds_at {b off : Nat} (h : Rd w B (some ⟨b, off, none⟩) (flatS l)) (hl : AllH l) {k : Nat} (hk : k < l.length) : b < B ∧ w.rangeAt b (off + k * 32) (hcells l[k]) := by
  obtain ⟨b', off', e, hb, hc⟩ := rds_mid h hl hk
  injection e with e
  injection e with e1 e2
  subst e1 e2
  exact ⟨hb, hc⟩
theorem rds_take (h : Rd w B A (flatS l)) (hl : AllH l) (k : Nat) : Rd w B A (flatS (l.take k)) := fun hx => by
  rw [flatS_take l hl k] at hx ⊢
  obtain ⟨b, off, e, hb, hc⟩ := h (fun e => hx (by rw [e]; simp))
  exact ⟨b, off, e, hb, fun j u hu => by
    rw [List.getElem?_take] at hu
    split at hu
    · exact hc j u hu
    · cases hu⟩
theorem rds_drop {b off : Nat} (h : Rd w B (some ⟨b, off, none⟩) (flatS l)) (hl : AllH l) (k : Nat) : Rd w B (some ⟨b, off + k * 32, none⟩) (flatS (l.drop k)) := fun hx => by
  rw [flatS_drop l hl k] at hx ⊢
  obtain ⟨b', off', e, hb, hc⟩ := h (fun e => hx (by rw [e]; simp))
  injection e with e
  injection e with e1 e2
  subst e1 e2
  exact ⟨b, off + k * 32, rfl, hb, fun j u hu => by rw [List.getElem?_drop] at hu; rw [Nat.add_assoc]; exact hc _ u hu⟩
theorem range_grow {x : More w} {b o : Nat} {cs : List Value} (h : w.rangeAt b o cs) (hb : b < w.heap.size) : (grow w x).rangeAt b o cs := fun j v hv => (grow_cell x b (o + j) hb).trans (h j v hv)
theorem range_ext {w' : World} {b o : Nat} {cs : List Value} (h : w.rangeAt b o cs) (hE : Ext w w') (hb : b < w.heap.size) : w'.rangeAt b o cs := fun j v hv => (hE.cell (p := ⟨b, o + j, none⟩) hb).trans (h j v hv)
end
theorem size32l (s : List UInt8) (h : s.length = 32) : (Tryz.prog.info? 28).map (·.size) = some (hcells s).length := size32.trans (by rw [hcells_length, h])
theorem sumV_cells (s : List UInt8) : sumV s = .agg (hcells s).toArray := rfl

section
variable {P : Program} {ops : Array Oper} {T : Act → World → Prop} {o : Oper} {rest : List Oper} {r : Plan} {a : Act} {w w0 : World} {i : Nat}
/-- A hash loaded out of a row, in a region that draws its order. -/
theorem quiet_mid (ty : TypeId) (p : Operand) (hop : o.op = .load ty p) (b f : Nat) (hx : a.eval p = .pointer (some ⟨b, f, none⟩)) (cs : List Value) (d : TypeDesc) (hc : w0.rangeAt b f cs) (hb : b < w0.heap.size)
    (hu : P.underlying ty = some d) (hd : d.isRow = true) (hi : (P.info? ty).map (·.size) = some cs.length) (K : Act → Prop) (h : K (a.put o.dst (.agg cs.toArray))) : o.quiet P a (fun w' => ∃ x : More w0, w' = grow w0 x) K := by
  refine ⟨.agg cs.toArray, fun w' hs => ?_, h⟩
  obtain ⟨x, rfl⟩ := hs
  unfold Oper.quietAt execOp
  simp only [hop, hx, Instr.loadAt, Instr.sureAddr, Sem.run_bind, Sem.run_pure, Result.andThen_ok, run_loadVar_mid (grow w0 x) b f ty cs d (range_grow hc hb) hu hd hi]
  exact ⟨rfl, rfl⟩
theorem mix_mid (hl : loudOp o = false) (hw : Region.wanted o (yielded ops a.tmps) = true) (ty : TypeId) (p : Operand) (hop : o.op = .load ty p) (b f : Nat) (hx : a.eval p = .pointer (some ⟨b, f, none⟩)) (cs : List Value) (d : TypeDesc)
    (hc : w0.rangeAt b f cs) (hb : b < w0.heap.size) (hu : P.underlying ty = some d) (hd : d.isRow = true) (hi : (P.info? ty).map (·.size) = some cs.length)
    (h : wpMix P ops (fun w' => ∃ x : More w0, w' = grow w0 x) loudOp T rest (a.put o.dst (.agg cs.toArray)) w) : wpMix P ops (fun w' => ∃ x : More w0, w' = grow w0 x) loudOp T (o :: rest) a w :=
  mix_quiet hl hw fun K hK => quiet_mid ty p hop b f hx cs d hc hb hu hd hi K (hK _ h)
theorem plan_mid (ho : ops[i]? = some o) (hl : loudOp o = false) (hw : Region.wanted o (yielded ops a.tmps) = true) (ty : TypeId) (p : Operand) (hop : o.op = .load ty p) (b f : Nat) (hx : a.eval p = .pointer (some ⟨b, f, none⟩)) (cs : List Value) (d : TypeDesc)
    (hc : w0.rangeAt b f cs) (hb : b < w0.heap.size) (hu : P.underlying ty = some d) (hd : d.isRow = true) (hi : (P.info? ty).map (·.size) = some cs.length)
    (h : wpPlan P ops (fun w' => ∃ x : More w0, w' = grow w0 x) loudOp T r (a.put o.dst (.agg cs.toArray)) w) : wpPlan P ops (fun w' => ∃ x : More w0, w' = grow w0 x) loudOp T (.one i r) a w :=
  plan_quiet ho hl hw fun K hK => quiet_mid ty p hop b f hx cs d hc hb hu hd hi K (hK _ h)
end

section
variable {H : Type} {enc : TypeId × Value → H} {W : World} {base : Nat} {v : Value}
theorem tr_sum {cs : List Value} (h : Tr enc W 28 cs) : ∃ a : List UInt8, cs = hcells a ∧ a.length = 32 := tr_bytes Tryz.underlying28 (by kernel_rfl) h
theorem op_sums (hv : Value.okWide Tryz.prog W .any base 23 v) (h : Tr enc W 23 v.cells.toList) : ∃ A cap, ∃ l : List (List UInt8), v = .slice A l.length cap ∧ Rd W W.heap.size A (flatS l) ∧ l.length ≤ cap ∧ cap ≤ 9223372036854775807 ∧ AllH l := by
  have hk : Tryz.prog.cellsOf 28 = 32 := by kernel_rfl
  obtain ⟨A, n, cap, X, hc, hX, hr, hn, hm, hel⟩ := tr_slice Tryz.underlying23 (by rw [hk]; omega) h
  rw [hk] at hX hel
  obtain ⟨l, hl, hq, rfl⟩ := chunks hcells (fun s => s.length = 32) 32 (fun s hs => by rw [hcells_length, hs]) n X hX (fun i hi => by
    obtain ⟨s, hs, hw⟩ := tr_sum (hel i hi)
    exact ⟨s, hw, hs⟩)
  subst hl
  obtain ⟨A', n', c', rfl⟩ := okWide_slice Tryz.underlying23 hv
  simp only [Value.cells, List.cons.injEq, Value.slice.injEq, and_true] at hc
  obtain ⟨rfl, rfl, rfl⟩ := hc
  exact ⟨_, _, l, rfl, hr, hn, by unfold maxLen at hm; omega, hq⟩
end

end Go.Proofs.YtcgnjdkennkheaaGreatDoor
