/-
  The walk by a plan.
-/
import Derived.Test.YtcgnjdkennkheaaGreatDoorMix3
set_option linter.unusedVariables false
set_option maxRecDepth 100000
set_option linter.unusedSimpArgs false
namespace Go.Proofs.YtcgnjdkennkheaaGreatDoor
open Go.RowKit

/-- In which order the operations are walked; 'two i j': either may come first. -/
inductive Plan where
  | nil
  | one (i : Nat) (r : Plan)
  | two (i j : Nat) (r1 r2 : Plan)
def Plan.depth : Plan → Nat
  | .nil => 0
  | .one _ r => r.depth + 1
  | .two _ _ r _ => r.depth + 1
/-- A run of operations in order, then a plan. -/
def Plan.run : List Nat → Plan → Plan
  | [], p => p
  | i :: l, p => .one i (Plan.run l p)

section
variable {P : Program} {ops : Array Oper} {md : Region.Mode} {S : World → Prop} {loud : Oper → Bool} {n g : Nat} {Q : Exit → Act → World → Prop}
def mayB (md : Region.Mode) (ops : Array Oper) (n : Nat) (listed : Array Bool) (i : Nat) : Bool := (Region.ready md ops listed).contains i && Region.free md ops listed i && decide (i < n)
def soleB (loud : Oper → Bool) (md : Region.Mode) (ops : Array Oper) (listed : Array Bool) (i j : Nat) : Bool :=
  (List.range ops.size).all fun m => !isLoud loud ops m || m == i || m == j || listed.getD m false || (List.range m).any fun k => isLoud loud ops k && !listed.getD k true && reaches md ops 8 m k
def planB (loud : Oper → Bool) (md : Region.Mode) (ops : Array Oper) (n g : Nat) : Plan → Array Bool → Bool
  | .nil, listed => Region.seqB md ops g n listed
  | .one i r, listed => mayB md ops n listed i && (!isLoud loud ops i || soleB loud md ops listed i i) && planB loud md ops n g r (listed.setIfInBounds i true)
  | .two i j r1 r2, listed => mayB md ops n listed i && mayB md ops n listed j && isLoud loud ops i && isLoud loud ops j && soleB loud md ops listed i j && decide (r1.depth = r2.depth) &&
      planB loud md ops n g r1 (listed.setIfInBounds i true) && planB loud md ops n g r2 (listed.setIfInBounds j true)
def wpPlan (P : Program) (ops : Array Oper) (S : World → Prop) (loud : Oper → Bool) (T : Act → World → Prop) : Plan → Act → World → Prop
  | .nil, a, w => T a w
  | .one i r, a, w => mOp P ops S loud i (wpPlan P ops S loud T r) a w
  | .two i j r1 r2, a, w => mOp P ops S loud i (wpPlan P ops S loud T r1) a w ∧ mOp P ops S loud j (wpPlan P ops S loud T r2) a w

theorem mOp_mono {i : Nat} {K K' : Act → World → Prop} {a : Act} {w : World} (hS : S w) (h : ∀ a w, S w → K a w → K' a w) (hh : mOp P ops S loud i K a w) : mOp P ops S loud i K' a w := by
  unfold mOp at *
  split at hh
  · exact hh
  · split at hh
    · rename_i hl
      simp only [hl, if_true]
      rcases hh with ⟨h1, h2⟩ | ⟨h1, h2⟩
      · exact .inl ⟨h1, Oper.wp_mono (fun a' w' h' => ⟨h'.1, h a' w' h'.1 h'.2⟩) h2⟩
      · exact .inr ⟨h1, h _ _ hS h2⟩
    · rename_i hl
      simp only [hl]
      obtain ⟨v, h1, h2⟩ := hh
      exact ⟨v, h1, h _ _ hS h2⟩
theorem soleB_spec {listed : Array Bool} {i j : Nat} (h : soleB loud md ops listed i j = true) (m : Nat) (hl : isLoud loud ops m = true) (hi : m ≠ i) (hj : m ≠ j) (hu : listed.getD m true = false) : ∃ k, isLoud loud ops k = true ∧ listed.getD k true = false ∧ reaches md ops 8 m k = true := by
  have hm : m < ops.size := by
    unfold isLoud at hl
    split at hl
    · rename_i o ho; exact (Array.getElem?_eq_some_iff.1 ho).1
    · cases hl
  have h1 := List.all_eq_true.1 h m (List.mem_range.2 hm)
  have h2 : listed.getD m false = false := getD_both hu
  simp only [hl, h2, Bool.not_true, Bool.false_or, Bool.or_false, Bool.or_eq_true, beq_iff_eq, hi, hj, false_or, List.any_eq_true, Bool.and_eq_true, Bool.not_eq_true'] at h1
  obtain ⟨k, _, ⟨h3, h4⟩, h5⟩ := h1
  exact ⟨k, h3, h4, h5⟩

theorem wpPlan_any {T : Act → World → Prop} (hh : Headed md ops n) (p : Plan) :
    ∀ (listed : Array Bool) (a : Act) (w : World), S w → HeadInv md ops n listed → planB loud md ops n g p listed = true → wpPlan P ops S loud T p a w →
    anyM P md ops S loud n (fun listed' a' w' => Region.seqB md ops g n listed' = true ∧ T a' w') p.depth listed a w := by
  have hdone : ∀ (listed : Array Bool) (a : Act) (w : World), (Region.seqB md ops g n listed = true ∧ T a w) → ∀ j ∈ Region.ready md ops listed, n ≤ j := fun listed' a' w' hL => seqB_ready hL.1
  have spec : ∀ {listed : Array Bool} {i : Nat}, mayB md ops n listed i = true → i ∈ Region.ready md ops listed ∧ Region.free md ops listed i = true ∧ i < n := fun h => by
    simp only [mayB, Bool.and_eq_true, decide_eq_true_eq] at h
    exact ⟨by simpa using h.1.1, h.1.2, h.2⟩
  induction p with
  | nil => intro listed a w _ _ hB h; exact ⟨hB, h⟩
  | one i r ih =>
    intro listed a w hS inv hB h
    simp only [planB, Bool.and_eq_true, Bool.or_eq_true] at hB
    obtain ⟨⟨hm, hs⟩, hB⟩ := hB
    obtain ⟨hr, hf, hin⟩ := spec hm
    cases hl : isLoud loud ops i with
    | true =>
      rw [hl] at hs
      have hs' : soleB loud md ops listed i i = true := by simpa using hs
      refine anyM_louds (fun k => k = i) ⟨i, rfl⟩ (fun k hk => hk ▸ hl) hh (fun k hk => hk ▸ hin) hdone r.depth listed a w hS inv (fun m hml hne hu => soleB_spec hs' m hml hne hne hu) (fun k ok hk hok => ?_) (fun k hk => hk ▸ hr) (fun k hk => ?_)
      · subst hk; exact Region.free_spec hok hf
      · subst hk; exact mOp_mono hS (fun a' w' hS' h' => ih _ a' w' hS' (inv.set hr hin) hB h') h
    | false =>
      obtain ⟨_, oi, hoi, _⟩ := mem_ready.1 hr
      have hlo : loud oi = false := by simpa [isLoud, hoi] using hl
      have h' : mOp P ops S loud i (wpPlan P ops S loud T r) a w := h
      unfold mOp at h'
      simp only [hoi, hlo, Bool.false_eq_true, if_false] at h'
      obtain ⟨v, hy, h2⟩ := h'
      exact anyM_quiet hoi hlo hh hin hdone r.depth listed a w hS inv (Region.free_spec hoi hf) hr hy (ih _ _ _ hS (inv.set hr hin) hB h2)
  | two i j r1 r2 ih1 ih2 =>
    intro listed a w hS inv hB h
    simp only [planB, Bool.and_eq_true, decide_eq_true_eq] at hB
    obtain ⟨⟨⟨⟨⟨⟨⟨hm1, hm2⟩, hl1⟩, hl2⟩, hs⟩, hd⟩, hB1⟩, hB2⟩ := hB
    obtain ⟨hr1, hf1, hin1⟩ := spec hm1
    obtain ⟨hr2, hf2, hin2⟩ := spec hm2
    refine anyM_louds (fun k => k = i ∨ k = j) ⟨i, .inl rfl⟩ (fun k hk => hk.elim (· ▸ hl1) (· ▸ hl2)) hh (fun k hk => hk.elim (· ▸ hin1) (· ▸ hin2)) hdone r1.depth listed a w hS inv (fun m hml hne hu => soleB_spec hs m hml (fun e => hne (.inl e)) (fun e => hne (.inr e)) hu) (fun k ok hk hok => ?_) (fun k hk => hk.elim (· ▸ hr1) (· ▸ hr2)) (fun k hk => ?_)
    · rcases hk with rfl | rfl
      · exact Region.free_spec hok hf1
      · exact Region.free_spec hok hf2
    · rcases hk with rfl | rfl
      · exact mOp_mono hS (fun a' w' hS' h' => ih1 _ a' w' hS' (inv.set hr1 hin1) hB1 h') h.1
      · rw [hd]
        exact mOp_mono hS (fun a' w' hS' h' => ih2 _ a' w' hS' (inv.set hr2 hin2) hB2 h') h.2

def regB (loud : Oper → Bool) (md : Region.Mode) (ops : Array Oper) (n : Nat) (p : Plan) : Bool :=
  Region.noSelect ops && decide (p.depth = n) && (decide (n = ops.size) || (decide (n < ops.size) && Region.sinkB md ops n && Region.chainB md ops n)) && planB loud md ops n (ops.size - n) p (Array.replicate ops.size false)
theorem wp_region_plan {id : Nat} {a : Act} {w : World} {l : List Oper} (n : Nat) (p : Plan) (hm : P.follows .mixedOrders = true) (hB : regB loud .any l.toArray n p = true) (hS : S { w with drawn := w.drawn + 1 })
    (h : wpPlan P l.toArray S loud (fun a' w' => wpList P l.toArray Q (l.drop n) a' w') p a { w with drawn := w.drawn + 1 }) : (Code.region id l.toArray true).wp P Q a w := by
  simp only [regB, Bool.and_eq_true, Bool.or_eq_true, decide_eq_true_eq] at hB
  obtain ⟨⟨⟨hsel, hdep⟩, hn⟩, hplan⟩ := hB
  have hnl : n ≤ l.length := by
    rcases hn with hn | hn
    · simp at hn; omega
    · have := hn.1.1; simp at this; omega
  have hdl : (l.drop n).length = l.toArray.size - n := by simp
  have inv0 : HeadInv .any l.toArray n (Array.replicate l.toArray.size false) :=
    ⟨by simp, fun j oj _ hl => (by rw [getD_replicate_false] at hl; cases hl), fun t _ ht => getD_in (by simpa using ht) (getD_replicate_false _ _)⟩
  have hh : Headed .any l.toArray n := ⟨Region.noSelect_spec hsel, fun listed inv i hi hun j hj => by
    rcases hn with hn | ⟨⟨hn, hs⟩, hc⟩
    · obtain ⟨_, o, ho, _⟩ := mem_ready.1 hj
      have := (Array.getElem?_eq_some_iff.1 ho).1
      omega
    · exact Nat.lt_of_not_le fun h => tail_waits hs hc hn inv _ i rfl hi hun j h hj⟩
  have H := wpPlan_any (md := .any) (g := l.toArray.size - n) hh p _ a _ hS inv0 hplan h
  refine wp_region_any hm ?_
  have := anyM_any (Q := Q) (g := l.toArray.size - n) (fun listed a' w' _ hL => by
    have := wpAny_of_seq (md := .any) (Q' := Q) (l.drop n) n listed a' w' (fun j => by simp [List.getElem?_drop]) (by rw [hdl]; exact hL.1) hL.2
    rwa [hdl] at this) _ _ _ _ hS H
  rw [hdep, show n + (l.toArray.size - n) = l.toArray.size by simp; omega] at this
  exact this
end

section
variable {P : Program} {ops : Array Oper} {S : World → Prop} {T : Act → World → Prop} {o : Oper} {r r1 r2 : Plan} {a : Act} {w : World} {i j : Nat}
theorem plan_nil (h : T a w) : wpPlan P ops S loudOp T .nil a w := h
theorem plan_skip (ho : ops[i]? = some o) (hw : Region.wanted o (yielded ops a.tmps) = false) (h : wpPlan P ops S loudOp T r (a.put o.dst undef) w) : wpPlan P ops S loudOp T (.one i r) a w := by
  show mOp P ops S loudOp i _ a w
  unfold mOp
  simp only [ho]
  split
  · exact .inr ⟨hw, h⟩
  · exact ⟨undef, .inr ⟨hw, rfl⟩, h⟩
theorem plan_loud (ho : ops[i]? = some o) (hl : loudOp o = true) (hw : Region.wanted o (yielded ops a.tmps) = true) (h : ∀ (K : Act → World → Prop) (E : Exit → Act → World → Prop), (∀ a' w', S w' → wpPlan P ops S loudOp T r a' w' → K a' w') → o.wp P a w K E) : mOp P ops S loudOp i (wpPlan P ops S loudOp T r) a w := by
  unfold mOp
  simp only [ho, hl, if_true]
  exact .inl ⟨hw, h _ _ fun _ _ hs h' => ⟨hs, h'⟩⟩
theorem plan_one (h : mOp P ops S loudOp i (wpPlan P ops S loudOp T r) a w) : wpPlan P ops S loudOp T (.one i r) a w := h
theorem plan_two (h1 : mOp P ops S loudOp i (wpPlan P ops S loudOp T r1) a w) (h2 : mOp P ops S loudOp j (wpPlan P ops S loudOp T r2) a w) : wpPlan P ops S loudOp T (.two i j r1 r2) a w := ⟨h1, h2⟩
theorem plan_quiet (ho : ops[i]? = some o) (hl : loudOp o = false) (hw : Region.wanted o (yielded ops a.tmps) = true) (h : ∀ K : Act → Prop, (∀ a', wpPlan P ops S loudOp T r a' w → K a') → o.quiet P a S K) : wpPlan P ops S loudOp T (.one i r) a w := by
  obtain ⟨v, hv, hk⟩ := h (fun a' => wpPlan P ops S loudOp T r a' w) (fun _ h => h)
  show mOp P ops S loudOp i _ a w
  unfold mOp
  simp only [ho, hl, Bool.false_eq_true, if_false]
  refine ⟨v, .inl ⟨hw, fun w' hs => ?_⟩, hk⟩
  have h1 := hv w' hs
  unfold Oper.quietAt at h1
  cases hr : (execOp a.eval o).run P w' with
  | ok n w1 =>
    rw [hr] at h1
    obtain ⟨u, rfl⟩ := quiet_value hl hr
    simp only [Oper.quietUpon] at h1
    rw [h1.1, h1.2]
  | halt x w1 => rw [hr] at h1; exact h1.elim
end
section
variable {P : Program} {id : Nat} {Q : Exit → Act → World → Prop} {a : Act} {w : World} {l : List Oper}
theorem region_plan (n : Nat) (p : Plan) (hm : P.follows .mixedOrders = true) (hB : regB loudOp .any l.toArray n p = true)
    (h : ∀ x, wpPlan P l.toArray (fun w' => ∃ x : More w, w' = grow w x) loudOp (fun a' w' => wpList P l.toArray Q (l.drop n) a' w') p a (grow w x)) : (Code.region id l.toArray true).wp P Q a w := by
  obtain ⟨x, hx⟩ := more_of (Ext.refl w).drew
  have hx' : ({ w with drawn := w.drawn + 1 } : World) = grow w x := hx
  exact wp_region_plan (S := fun w' => ∃ x : More w, w' = grow w x) n p hm hB ⟨x, hx'⟩ (by rw [hx']; exact h x)
end

end Go.Proofs.YtcgnjdkennkheaaGreatDoor
