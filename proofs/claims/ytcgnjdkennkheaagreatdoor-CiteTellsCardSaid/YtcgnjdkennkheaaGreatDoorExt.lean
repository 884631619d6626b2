/-
  A region that draws its order, whose operations read and call what only makes memory: one walk in the order of the text serves every order; at its end there may stand a tail whose order is forced.
-/
import Derived.Test.YtcgnjdkennkheaaGreatDoorBase
import Derived.StillTail
import Derived.Deep.QuietTactic
import Derived.BigQuiet
set_option linter.unusedVariables false
set_option maxRecDepth 100000
set_option linter.unusedSimpArgs false
namespace Go.Proofs.YtcgnjdkennkheaaGreatDoor
open Go.RowKit

section
variable {P : Program} {ops : Array Oper} {md : Region.Mode} {C : World → Prop}

/-- The next f operations, in whatever order, lie below n and are quiet; behind them L. -/
def headsOk (P : Program) (md : Region.Mode) (ops : Array Oper) (C : World → Prop) (n : Nat) (L : Array Bool → Act → Prop) : Nat → Array Bool → Act → Prop
  | 0, listed, a => L listed a
  | f + 1, listed, a => Region.ready md ops listed ≠ [] ∧ ∀ i ∈ Region.ready md ops listed, i < n ∧ qOp P ops C i (headsOk P md ops C n L f (listed.setIfInBounds i true)) a

theorem headsOk_any {n g : Nat} {L : Array Bool → Act → Prop} {Q : Exit → Act → World → Prop} (hL : ∀ listed a w, C w → L listed a → wpAny P md ops Q g listed a w) (f : Nat) :
    ∀ (listed : Array Bool) (a : Act) (w : World), C w → headsOk P md ops C n L f listed a → wpAny P md ops Q (f + g) listed a w := by
  induction f with
  | zero => intro listed a w hw h; rw [Nat.zero_add]; exact hL _ _ _ hw h
  | succ f ih =>
    intro listed a w hw h
    rw [show f + 1 + g = (f + g) + 1 from by omega]
    exact ⟨fun h0 => absurd h0 h.1, fun i hi => wpOp_of_qOp hw (fun a' w' hw' h' => ih _ a' w' hw' h') (h.2 i hi).2⟩

theorem headsOk_first {n i : Nat} {oi : Oper} {v : Value} {L : Array Bool → Act → Prop} (hi : ops[i]? = some oi) (hsel : ∀ (j : Nat) (o : Oper) cs b, ops[j]? = some o → o.op ≠ .select cs b)
    (hs : Region.sinkB md ops n = true) (hc : Region.chainB md ops n = true) (hn : n < ops.size) (hin : i < n)
    (hdone : ∀ listed a, L listed a → ∀ j ∈ Region.ready md ops listed, n ≤ j) (f : Nat) :
    ∀ (listed : Array Bool) (a : Act), HeadInv md ops n listed →
      (∀ j oj, ops[j]? = some oj → j ≠ i → listed.getD j true = false → (∀ e ∈ oj.after, Region.binds md e = true → e.on ≠ i) → oi.apart ops oj = true) →
      i ∈ Region.ready md ops listed → YieldsIn P ops C oi v a →
      headsOk P md ops C n L f (listed.setIfInBounds i true) (a.put oi.dst v) → headsOk P md ops C n L (f + 1) listed a := by
  have low : ∀ listed, HeadInv md ops n listed → i ∈ Region.ready md ops listed → ∀ j ∈ Region.ready md ops listed, j < n := fun listed inv hr j hj =>
    Nat.lt_of_not_le fun h => tail_waits hs hc hn inv _ i rfl hin (mem_ready.1 hr).1 j h hj
  induction f with
  | zero =>
    intro listed a inv _ hr hy H
    refine ⟨List.ne_nil_of_mem hr, fun j hj => ⟨low _ inv hr j hj, ?_⟩⟩
    by_cases hji : j = i
    · subst hji; exact hy.qOp hi H
    · exact absurd (hdone _ _ H j (ready_mono hj hji)) (Nat.not_le.2 (low _ inv hr j hj))
  | succ f ih =>
    intro listed a inv hfree hr hy H
    refine ⟨List.ne_nil_of_mem hr, fun j hj => ⟨low _ inv hr j hj, ?_⟩⟩
    by_cases hji : j = i
    · subst hji; exact hy.qOp hi H
    · obtain ⟨hjun, oj, hoj, hall⟩ := mem_ready.1 hj
      have hnot : ∀ e ∈ oj.after, Region.binds md e = true → e.on ≠ i := fun e he hb heq => by
        have h1 := hall e he hb
        rw [heq, getD_both (mem_ready.1 hr).1] at h1
        cases h1
      have h2 := qOp_put hoj (hfree j oj hoj hji hjun hnot) (fun cs b => hsel i oi cs b hi) (fun cs b => hsel j oj cs b hoj) hy (H.2 j (ready_mono hj hji)).2
      refine qOp_mono (fun a' h3 => ih (listed.setIfInBounds j true) a' (inv.set hj (low _ inv hr j hj)) (fun k ok hk hki hun hno => ?_) (ready_mono hr (Ne.symm hji)) h3.1 ?_) h2
      · refine hfree k ok hk hki ?_ hno
        by_cases hjk : j = k
        · subst hjk; exact hjun
        · rw [getD_set_ne true hjk] at hun; exact hun
      · rw [Array.setIfInBounds_comm _ _ hji]
        exact h3.2

theorem headsOk_lex {n g : Nat} {Lq : Act → Prop} (hsel : Region.noSelect ops = true) (hs : Region.sinkB md ops n = true) (hc : Region.chainB md ops n = true) (hn : n < ops.size) (l : List Oper) :
    ∀ (k : Nat) (listed : Array Bool) (a : Act), (∀ j, j < l.length → l[j]? = ops[k + j]?) → k + l.length = n → HeadInv md ops n listed →
    Region.lexHead md ops g l.length k listed = true → wpQuiet P ops C Lq l a →
    headsOk P md ops C n (fun listed' a' => Region.seqB md ops g n listed' = true ∧ Lq a') l.length listed a := by
  induction l with
  | nil =>
    intro k listed a _ hk inv hB h
    obtain rfl : k = n := by simpa using hk
    exact ⟨by simpa [Region.lexHead] using hB, h⟩
  | cons o l ih =>
    intro k listed a hl hk inv hB h
    have h0 : ops[k]? = some o := by simpa using (hl 0 (by simp)).symm
    simp only [List.length_cons, Region.lexHead, Bool.and_eq_true] at hB
    obtain ⟨⟨hr, hf⟩, hB'⟩ := hB
    have hkn : k < n := by simp only [List.length_cons] at hk; omega
    have hr' : k ∈ Region.ready md ops listed := by simpa using hr
    have hst : qOp P ops C k (wpQuiet P ops C Lq l) a := by unfold qOp; simp only [h0]; exact h
    obtain ⟨v, hy, hK⟩ := yieldsIn_of_qOp h0 hst
    exact headsOk_first h0 (Region.noSelect_spec hsel) hs hc hn hkn (fun listed' a' hL => seqB_ready hL.1) l.length listed a inv (Region.free_spec h0 hf) hr' hy
      (ih (k + 1) _ _ (fun j hj => by have := hl (j + 1) (by simp; omega); simpa [Nat.add_assoc, Nat.add_comm 1 j] using this) (by simp only [List.length_cons] at hk; omega) (inv.set hr' hkn) hB' hK)

theorem wp_region_class_tail {id : Nat} {Q : Exit → Act → World → Prop} {a : Act} {w : World} {l : List Oper} (n : Nat) (hm : P.follows .mixedOrders = true) (hB : Region.lexTailB .any l.toArray n = true)
    (hC : C { w with drawn := w.drawn + 1 })
    (h : wpQuiet P l.toArray C (fun a' => ∀ w', C w' → wpList P l.toArray Q (l.drop n) a' w') (l.take n) a) : (Code.region id l.toArray true).wp P Q a w := by
  simp only [Region.lexTailB, Bool.and_eq_true, decide_eq_true_eq] at hB
  obtain ⟨⟨⟨⟨hsel, hn⟩, hs⟩, hc⟩, hlex⟩ := hB
  have hn' : n < l.length := by simpa using hn
  have htl : (l.take n).length = n := by simp; omega
  have hdl : (l.drop n).length = l.toArray.size - n := by simp
  have inv0 : HeadInv .any l.toArray n (Array.replicate l.toArray.size false) :=
    ⟨by simp, fun j oj _ hl => (by rw [getD_replicate_false] at hl; cases hl), fun t _ ht => getD_in (by simpa using ht) (getD_replicate_false _ _)⟩
  have H := headsOk_lex (md := .any) (C := C) (g := l.toArray.size - n) hsel hs hc hn (l.take n) 0 _ a (fun j hj => by
    have hj' : j < n := by rw [htl] at hj; exact hj
    simp [hj']) (by simpa using htl) inv0 (by rw [htl]; exact hlex) h
  refine wp_region_any hm ?_
  have := headsOk_any (Q := Q) (g := l.toArray.size - n) (fun listed a' w' hw' hL => by
    have := wpAny_of_seq (md := .any) (Q' := Q) (l.drop n) n listed a' w' (fun j => by simp [List.getElem?_drop]) (by rw [hdl]; exact hL.1) (hL.2 w' hw')
    rwa [hdl] at this) _ _ _ _ hC H
  rw [htl, show n + (l.toArray.size - n) = l.toArray.size by omega] at this
  exact this
end

/-- A place at which the walk is to stand still. -/
structure Stopped (p : Prop) : Prop where
  go : p
theorem stop_load {P : Program} {ops : Array Oper} {Q : Exit → Act → World → Prop} {o : Oper} {rest : List Oper} {a : Act} {w : World} (ty : TypeId) (x : Operand) (ho : o.op = .load ty x) (h : Stopped (wpList P ops Q (o :: rest) a w)) : wpList P ops Q (o :: rest) a w := h.go
theorem stop_store {P : Program} {ops : Array Oper} {Q : Exit → Act → World → Prop} {o : Oper} {rest : List Oper} {a : Act} {w : World} (ty : TypeId) (x y : Operand) (ho : o.op = .store ty x y) (h : Stopped (wpList P ops Q (o :: rest) a w)) : wpList P ops Q (o :: rest) a w := h.go

/-- A world in which more may be there than in w. -/
structure More (w : World) where
  world : World
  ext : Ext w world
instance moreInhabited (w : World) : Inhabited (More w) := ⟨⟨w, Ext.refl w⟩⟩
def grow (w : World) (x : More w) : World := x.world
section
variable {w : World} (x : More w)
theorem grow_ext : Ext w (grow w x) := x.ext
theorem grow_cell (b o : Nat) (h : b < w.heap.size) : (grow w x).cell? ⟨b, o, none⟩ = w.cell? ⟨b, o, none⟩ := (grow_ext x).cell (p := ⟨b, o, none⟩) h
theorem grow_frozen (b o : Nat) (h : b < w.heap.size) : (grow w x).frozen? ⟨b, o, none⟩ = w.frozen? ⟨b, o, none⟩ := (grow_ext x).frozen (p := ⟨b, o, none⟩) h
theorem more_of {w' : World} (h : Ext w w') : ∃ y : More w, w' = grow w y := ⟨⟨w', h⟩, rfl⟩
theorem more_drawn {w' : World} (h : ∃ z, w' = (grow w x).drewN z) : ∃ y : More w, w' = grow w y := by
  obtain ⟨z, rfl⟩ := h
  exact more_of ((grow_ext x).drewN z)
theorem more_ext {w' : World} (h : Ext (grow w x) w') : ∃ y : More w, w' = grow w y := more_of ((grow_ext x).trans h)
theorem more_same {w' : World} (h : grow w x = w') : ∃ y : More w, w' = grow w y := ⟨x, h.symm⟩
theorem Rd.grow {B : Nat} {A : Option Addr} {xs : List Value} (h : Rd w B A xs) (hB : B ≤ w.heap.size) : Rd (grow w x) B A xs := h.below (grow_ext x) hB
theorem Blk.grow {g : Nat} {t : TypeId} {cs : Array Value} (h : Blk w g t cs) : Blk (grow w x) g t cs := h.below (grow_ext x) h.lt
variable {P : Program} {f : FuncId} {args : Array Value} {v : Value} {x}
theorem ext_of (h : Calls P f args (grow w x) fun e w' => e = .returned v ∧ Ext (grow w x) w') : Calls P f args (grow w x) fun e w'' => e = .returned v ∧ ∃ y : More w, w'' = grow w y :=
  h.mono fun _ _ ⟨he, hw⟩ => ⟨he, more_of ((grow_ext x).trans hw)⟩
theorem ext_same (h : Calls P f args (grow w x) fun e w' => e = .returned v ∧ grow w x = w') : Calls P f args (grow w x) fun e w'' => e = .returned v ∧ ∃ y : More w, w'' = grow w y :=
  h.mono fun _ _ ⟨he, hw⟩ => ⟨he, x, hw.symm⟩
theorem ext_drawn (h : Calls P f args (grow w x) fun e w' => e = .returned v ∧ ∃ z, w' = (grow w x).drewN z) : Calls P f args (grow w x) fun e w'' => e = .returned v ∧ ∃ y : More w, w'' = grow w y :=
  h.mono fun _ _ ⟨he, z, hw⟩ => ⟨he, more_of (by rw [hw]; exact (grow_ext x).drewN z)⟩
end

/-! ### A whole row written -/
section
variable {w a b : World} {g g' : Nat} {t t' : TypeId} {cs cs' old : Array Value}
theorem setRow_size : (w.setRow g cs).heap.size = w.heap.size := by simp [World.setRow]
theorem Blk.row (h : Blk w g t old) (cs : Array Value) : Blk (w.setRow g cs) g t cs := by
  unfold Blk at h ⊢
  simp [World.setRow, Array.getElem?_modify, h]
theorem heap_setRow (k : Nat) (hne : k ≠ g) : (w.setRow g cs).heap[k]? = w.heap[k]? := by
  simp [World.setRow, Array.getElem?_modify, Ne.symm hne]
theorem Blk.rowFar (h : Blk w g' t' cs') (hne : g' ≠ g) (cs : Array Value) : Blk (w.setRow g cs) g' t' cs' := (heap_setRow g' hne).trans h
theorem Ext.row (h : Ext a b) (hg : a.heap.size ≤ g) (cs : Array Value) : Ext a (b.setRow g cs) :=
  ⟨h.os, h.tape, h.output, by rw [setRow_size]; exact h.size, fun k hk => (heap_setRow k (by omega)).trans (h.block k hk)⟩
theorem Upd.row (h : Upd g a b) (cs : Array Value) : Upd g a (b.setRow g cs) :=
  ⟨h.os, h.tape, h.output, by rw [setRow_size]; exact h.size, fun k hk hne => (heap_setRow k (fun e => hne (by rw [e]))).trans (h.block k hk hne)⟩
end

section
variable {P : Program} {id : Nat} {Q : Exit → Act → World → Prop} {a : Act} {w : World} {l : List Oper}
theorem wp_region_ext (hm : P.follows .mixedOrders = true) (hB : Region.lexB .any l.toArray = true)
    (h : wpQuiet P l.toArray (fun w' => ∃ x : More w, w' = grow w x) (fun a' => ∀ w', (∃ x : More w, w' = grow w x) → Q .normal a' w') l a) : (Code.region id l.toArray true).wp P Q a w :=
  wp_region_quiet (C := fun w' => ∃ x : More w, w' = grow w x) hm hB (more_of (Ext.refl w).drew) (by simpa using h)
theorem wp_region_ext_tail (n : Nat) (hm : P.follows .mixedOrders = true) (hB : Region.lexTailB .any l.toArray n = true)
    (h : wpQuiet P l.toArray (fun w' => ∃ x : More w, w' = grow w x) (fun a' => ∀ w', (∃ x : More w, w' = grow w x) → wpList P l.toArray Q (l.drop n) a' w') (l.take n) a) : (Code.region id l.toArray true).wp P Q a w :=
  wp_region_class_tail n hm hB (more_of (Ext.refl w).drew) h
theorem wp_region_quiet_tail (n : Nat) (hm : P.follows .mixedOrders = true) (hB : Region.lexTailB .any l.toArray n = true)
    (h : wpQuiet P l.toArray (fun w' => ∃ z, w' = w.drewN z) (fun a' => ∀ w', (∃ z, w' = w.drewN z) → wpList P l.toArray Q (l.drop n) a' w') (l.take n) a) : (Code.region id l.toArray true).wp P Q a w :=
  wp_region_class_tail n hm hB ⟨1, rfl⟩ h
end

end Go.Proofs.YtcgnjdkennkheaaGreatDoor
