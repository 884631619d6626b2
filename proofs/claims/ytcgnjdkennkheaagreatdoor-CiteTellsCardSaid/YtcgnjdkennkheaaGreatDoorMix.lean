/-
  A region that draws its order: its loud operations (calls, what makes or writes memory) stand in one forced order; the others yield one value in every world of a class. Then one walk in the order of the text serves every order.
-/
import Derived.Test.YtcgnjdkennkheaaGreatDoorExt
import Derived.OrdersHeld
set_option linter.unusedVariables false
set_option maxRecDepth 100000
set_option linter.unusedSimpArgs false
namespace Go.Proofs.YtcgnjdkennkheaaGreatDoor
open Go.RowKit

section
variable {P : Program} {ops : Array Oper} {md : Region.Mode} {S : World → Prop} {loud : Oper → Bool} {Q : Exit → Act → World → Prop}

def noExit : Exit → Act → World → Prop := fun _ _ _ => False

theorem wp_weaken {o : Oper} {a : Act} {w : World} {K : Act → World → Prop} (h : o.wp P a w K noExit) : o.wp P a w K Q := by
  unfold Oper.wp at *
  generalize (execOp a.eval o).run P w = r at *
  cases r with
  | ok n w' =>
    cases n <;> simp only [Oper.upon] at h ⊢
    case enter f args =>
      exact h.mono (fun e w'' he => by
        cases e with
        | returned v => exact he
        | panicked c => exact he.elim
        | outgrown => exact (he.elim fun _ h => h.elim fun _ h => h.elim))
    all_goals exact h
  | halt x w' => cases x <;> simp only [Oper.upon] at h ⊢ <;> first | exact h | exact h.elim

/-- What an operation leaves is the frame with its temporary written. -/
theorem wp_shape {o : Oper} {a : Act} {w : World} {K : Act → World → Prop} (h : o.wp P a w K Q) : o.wp P a w (fun a' w' => K a' w' ∧ ∃ u ds, a' = ({ a with defers := ds } : Act).put o.dst u) Q := by
  unfold Oper.wp at *
  generalize (execOp a.eval o).run P w = r at *
  cases r with
  | ok n w' =>
    cases n <;> simp only [Oper.upon] at h ⊢
    case value v => exact ⟨h, v, a.defers, rfl⟩
    case skip => exact ⟨h, undef, a.defers, rfl⟩
    case defer d => exact ⟨h, undef, d :: a.defers, rfl⟩
    case enter f args =>
      exact h.mono (fun e w'' he => by
        cases e with
        | returned v => exact ⟨he, v, a.defers, rfl⟩
        | panicked c => exact he
        | outgrown => exact he)
    case row row args => exact h.mono (fun v w'' he => ⟨he, v, a.defers, rfl⟩)
  | halt x w' => cases x <;> simp only [Oper.upon] at h ⊢ <;> exact h

theorem wp_some {o : Oper} {a : Act} {w : World} {K : Act → World → Prop} (h : o.wp P a w K noExit) : ∃ a' w', K a' w' := by
  unfold Oper.wp at *
  generalize (execOp a.eval o).run P w = r at *
  cases r with
  | ok n w' =>
    cases n <;> simp only [Oper.upon] at h
    case value v => exact ⟨_, _, h⟩
    case skip => exact ⟨_, _, h⟩
    case defer d => exact ⟨_, _, h⟩
    case enter f args =>
      obtain ⟨e, w'', _, hR, _⟩ := h []
      cases e with
      | returned v => exact ⟨_, _, hR⟩
      | panicked c => exact hR.elim
      | outgrown => exact (hR.elim fun _ h => h.elim fun _ h => h.elim)
    case row row args =>
      obtain ⟨v, w'', hR, _⟩ := h default []
      exact ⟨_, _, hR⟩
  | halt x w' => cases x <;> simp only [Oper.upon] at h; exact h.elim

/-- An operation that does not look at a temporary does the same when that is written. -/
theorem wp_put {o : Oper} {a : Act} {w : World} {K : Act → World → Prop} {d : Option Tmp} {v : Value} (hs : ∀ cs b, o.op ≠ .select cs b) (h1 : ∀ t, d = some t → t ∉ o.looksAt ops) (h2 : ∀ t, d = some t → o.dst ≠ some t)
    (h : o.wp P a w (fun a' w' => K (a'.put d v) w') noExit) : o.wp P (a.put d v) w K noExit := by
  unfold Oper.wp at *
  rw [execOp_put o hs a d v h1]
  generalize (execOp a.eval o).run P w = r at *
  cases r with
  | ok n w' =>
    cases n <;> simp only [Oper.upon] at h ⊢
    case value u => rw [Act.put_comm a v u h2]; exact h
    case skip => rw [Act.put_comm a v undef h2]; exact h
    case defer e =>
      rw [Act.put_defers, Act.put_comm _ v undef h2]
      exact h
    case enter f args =>
      exact h.mono (fun e w'' he => by
        cases e with
        | returned u => show K ((a.put d v).put o.dst u) w''; rw [Act.put_comm a v u h2]; exact he
        | panicked c => exact he
        | outgrown => exact he)
    case row row args => exact h.mono (fun u w'' he => by rw [Act.put_comm a v u h2]; exact he)
  | halt x w' => cases x <;> simp only [Oper.upon] at h ⊢ <;> exact h


/-- The same the other way. -/
theorem wp_unput {o : Oper} {a : Act} {w : World} {K : Act → World → Prop} {d : Option Tmp} {v : Value} (hs : ∀ cs b, o.op ≠ .select cs b) (h1 : ∀ t, d = some t → t ∉ o.looksAt ops) (h2 : ∀ t, d = some t → o.dst ≠ some t)
    (h : o.wp P (a.put d v) w K noExit) : o.wp P a w (fun a' w' => K (a'.put d v) w') noExit := by
  unfold Oper.wp at *
  rw [execOp_put o hs a d v h1] at h
  generalize (execOp a.eval o).run P w = r at *
  cases r with
  | ok n w' =>
    cases n <;> simp only [Oper.upon] at h ⊢
    case value u => rw [Act.put_comm a v u h2] at h; exact h
    case skip => rw [Act.put_comm a v undef h2] at h; exact h
    case defer e =>
      rw [Act.put_defers, Act.put_comm _ v undef h2] at h
      exact h
    case enter f args =>
      exact h.mono (fun e w'' he => by
        cases e with
        | returned u => dsimp only at he ⊢; rw [Act.put_comm a v u h2] at he; exact he
        | panicked c => exact he
        | outgrown => exact he)
    case row row args => exact h.mono (fun u w'' he => by rw [Act.put_comm a v u h2] at he; exact he)
  | halt x w' => cases x <;> simp only [Oper.upon] at h ⊢ <;> exact h

/-- Operation i comes up. -/
def mOp (P : Program) (ops : Array Oper) (S : World → Prop) (loud : Oper → Bool) (i : Nat) (K : Act → World → Prop) (a : Act) (w : World) : Prop :=
  match ops[i]? with
  | none => False
  | some o =>
    if loud o then (Region.wanted o (yielded ops a.tmps) = true ∧ o.wp P a w (fun a' w' => S w' ∧ K a' w') noExit) ∨ (Region.wanted o (yielded ops a.tmps) = false ∧ K (a.put o.dst undef) w)
    else ∃ v, YieldsIf P ops S o v a ∧ K (a.put o.dst v) w

def anyM (P : Program) (md : Region.Mode) (ops : Array Oper) (S : World → Prop) (loud : Oper → Bool) (n : Nat) (L : Array Bool → Act → World → Prop) : Nat → Array Bool → Act → World → Prop
  | 0, listed, a, w => L listed a w
  | f + 1, listed, a, w => Region.ready md ops listed ≠ [] ∧ ∀ i ∈ Region.ready md ops listed, i < n ∧ mOp P ops S loud i (anyM P md ops S loud n L f (listed.setIfInBounds i true)) a w

theorem anyM_any {n g : Nat} {L : Array Bool → Act → World → Prop} (hL : ∀ listed a w, S w → L listed a w → wpAny P md ops Q g listed a w) :
    ∀ (f : Nat) (listed : Array Bool) (a : Act) (w : World), S w → anyM P md ops S loud n L f listed a w → wpAny P md ops Q (f + g) listed a w
  | 0, _, _, _, hS, h => by rw [Nat.zero_add]; exact hL _ _ _ hS h
  | f + 1, listed, a, w, hS, h => by
    rw [show f + 1 + g = (f + g) + 1 from by omega]
    refine ⟨fun h0 => absurd h0 h.1, fun i hi => ?_⟩
    have h1 := (h.2 i hi).2
    unfold mOp at h1
    cases ho : ops[i]? with
    | none => simp only [ho] at h1
    | some o =>
      simp only [ho] at h1
      split at h1
      · unfold wpOp
        simp only [ho]
        rcases h1 with ⟨hw, h1⟩ | ⟨hw, h1⟩
        · rw [if_pos hw]
          exact .inl (wp_weaken (Oper.wp_mono (fun a' w' h' => anyM_any hL f _ a' w' h'.1 h'.2) h1))
        · rw [if_neg (by rw [hw]; exact Bool.false_ne_true)]
          exact anyM_any hL f _ _ _ hS h1
      · obtain ⟨v, hy, h1⟩ := h1
        exact hy.wpOp ho hS (anyM_any hL f _ _ _ hS h1)

theorem yieldsIf_unique {o : Oper} {u v : Value} {a : Act} {w : World} (hS : S w) (h : YieldsIf P ops S o u a) (h' : YieldsIf P ops S o v a) : u = v := by
  rcases h with ⟨h1, h2⟩ | ⟨h1, h2⟩ <;> rcases h' with ⟨h3, h4⟩ | ⟨h3, h4⟩
  · have := (h2 w hS).symm.trans (h4 w hS)
    injection this with this _
    injection this
  · rw [h1] at h3; cases h3
  · rw [h1] at h3; cases h3
  · rw [h2, h4]

/-- What a region's edges say of its head (the first n operations). -/
structure Headed (md : Region.Mode) (ops : Array Oper) (n : Nat) : Prop where
  sel : ∀ (j : Nat) (o : Oper) cs b, ops[j]? = some o → o.op ≠ .select cs b
  low : ∀ listed, HeadInv md ops n listed → ∀ i, i < n → listed.getD i true = false → ∀ j ∈ Region.ready md ops listed, j < n

section
variable {n : Nat} {L : Array Bool → Act → World → Prop}

/-- A quiet operation that may come up may be taken first. -/
theorem anyM_quiet {i : Nat} {oi : Oper} {v : Value} (hi : ops[i]? = some oi) (hl : loud oi = false) (hh : Headed md ops n) (hin : i < n)
    (hdone : ∀ listed a w, L listed a w → ∀ j ∈ Region.ready md ops listed, n ≤ j) :
    ∀ (f : Nat) (listed : Array Bool) (a : Act) (w : World), S w → HeadInv md ops n listed →
      (∀ j oj, ops[j]? = some oj → j ≠ i → listed.getD j true = false → (∀ e ∈ oj.after, Region.binds md e = true → e.on ≠ i) → oi.apart ops oj = true) →
      i ∈ Region.ready md ops listed → YieldsIf P ops S oi v a →
      anyM P md ops S loud n L f (listed.setIfInBounds i true) (a.put oi.dst v) w → anyM P md ops S loud n L (f + 1) listed a w := by
  have start : ∀ {K : Act → World → Prop} {a : Act} {w : World}, YieldsIf P ops S oi v a → K (a.put oi.dst v) w → mOp P ops S loud i K a w := by
    intro K a w hy H
    unfold mOp
    simp only [hi, hl, Bool.false_eq_true, if_false]
    exact ⟨v, hy, H⟩
  have low : ∀ listed, HeadInv md ops n listed → i ∈ Region.ready md ops listed → ∀ j ∈ Region.ready md ops listed, j < n := fun listed inv hr =>
    hh.low listed inv i hin (mem_ready.1 hr).1
  intro f
  induction f with
  | zero =>
    intro listed a w hS inv _ hr hy H
    refine ⟨List.ne_nil_of_mem hr, fun j hj => ⟨low _ inv hr j hj, ?_⟩⟩
    by_cases hji : j = i
    · subst hji; exact start hy H
    · exact absurd (hdone _ _ _ H j (ready_mono hj hji)) (Nat.not_le.2 (low _ inv hr j hj))
  | succ f ih =>
    intro listed a w hS inv hfree hr hy H
    refine ⟨List.ne_nil_of_mem hr, fun j hj => ⟨low _ inv hr j hj, ?_⟩⟩
    by_cases hji : j = i
    · subst hji; exact start hy H
    · have h1 := (H.2 j (ready_mono hj hji)).2
      obtain ⟨hjun, oj, hoj, hall⟩ := mem_ready.1 hj
      have hiun := (mem_ready.1 hr).1
      have hnot : ∀ e ∈ oj.after, Region.binds md e = true → e.on ≠ i := fun e he hb heq => by
        have h1 := hall e he hb
        rw [heq, getD_both hiun] at h1
        cases h1
      obtain ⟨p1, p2, p3⟩ := Oper.apart_spec (hfree j oj hoj hji hjun hnot)
      have hfree' : ∀ k ok, ops[k]? = some ok → k ≠ i → (listed.setIfInBounds j true).getD k true = false →
          (∀ e ∈ ok.after, Region.binds md e = true → e.on ≠ i) → oi.apart ops ok = true := fun k ok hk hki hun hno => by
        refine hfree k ok hk hki ?_ hno
        by_cases hjk : j = k
        · subst hjk; exact hjun
        · rw [getD_set_ne true hjk] at hun; exact hun
      have hr' := ready_mono hr (Ne.symm hji)
      have inv' := inv.set hj (low _ inv hr j hj)
      have keep : ∀ (a : Act), YieldsIf P ops S oi v a → ∀ u, YieldsIf P ops S oi v (a.put oj.dst u) := fun a hy u =>
        hy.of_same (execOp_put oi (fun cs b => hh.sel i oi cs b hi) a oj.dst u p3) (wanted_put oi a oj.dst u p3)
      have hcm : (listed.setIfInBounds i true).setIfInBounds j true = (listed.setIfInBounds j true).setIfInBounds i true := Array.setIfInBounds_comm _ _ (Ne.symm hji)
      unfold mOp at h1 ⊢
      simp only [hoj] at h1 ⊢
      split
      · rename_i hlj
        simp only [hlj, if_true] at h1
        rw [wanted_put oj a oi.dst v p1] at h1
        rcases h1 with ⟨hw, h1⟩ | ⟨hw, h1⟩
        · refine .inl ⟨hw, ?_⟩
          refine Oper.wp_mono (fun a' w' h' => ?_) (wp_shape (wp_unput (fun cs b => hh.sel j oj cs b hoj) p1 p2 h1))
          obtain ⟨⟨hs, h2⟩, u, ds, rfl⟩ := h'
          refine ⟨hs, ih _ _ _ hs inv' hfree' hr' (keep { a with defers := ds } (hy.of_same rfl rfl) u) ?_⟩
          rw [← hcm]
          exact h2
        · refine .inr ⟨hw, ih _ _ _ hS inv' hfree' hr' (keep a hy undef) ?_⟩
          rw [← hcm, ← Act.put_comm a v undef p2]
          exact h1
      · rename_i hlj
        simp only [hlj, if_false] at h1
        obtain ⟨u, hu, h1⟩ := h1
        refine ⟨u, hu.of_same (execOp_put oj (fun cs b => hh.sel j oj cs b hoj) a oi.dst v p1).symm (wanted_put oj a oi.dst v p1).symm, ih _ _ _ hS inv' hfree' hr' (keep a hy u) ?_⟩
        rw [← hcm, ← Act.put_comm a v u p2]
        exact h1

/-- What the edges say of the loud operations: none may come up while an earlier one has not. -/
def reaches (md : Region.Mode) (ops : Array Oper) : Nat → Nat → Nat → Bool
  | 0, _, _ => false
  | m + 1, j, k => match ops[j]? with
    | some oj => oj.after.any fun e => Region.binds md e && (e.on == k || reaches md ops m e.on k)
    | none => false
def isLoud (loud : Oper → Bool) (ops : Array Oper) (j : Nat) : Bool := match ops[j]? with | some o => loud o | none => false
def loudChain (loud : Oper → Bool) (md : Region.Mode) (ops : Array Oper) : Bool :=
  (List.range ops.size).all fun j => !isLoud loud ops j || (List.range j).all fun k => !isLoud loud ops k || (List.range j).any (fun m => decide (k < m) && isLoud loud ops m) || reaches md ops 8 j k

def Shut (md : Region.Mode) (ops : Array Oper) (listed : Array Bool) : Prop := ∀ j oj, ops[j]? = some oj → listed.getD j false = true → ∀ e ∈ oj.after, Region.binds md e = true → listed.getD e.on false = true

theorem reaches_unlisted {listed : Array Bool} (hc : Shut md ops listed) {k : Nat} (hk : listed.getD k true = false) : ∀ (m j : Nat), reaches md ops m j k = true → listed.getD j false = false := by
  intro m
  induction m with
  | zero => intro j h; simp [reaches] at h
  | succ m ih =>
    intro j h
    unfold reaches at h
    split at h
    · rename_i oj hj
      obtain ⟨e, he, hb⟩ := Array.any_eq_true'.1 h
      simp only [Bool.and_eq_true, Bool.or_eq_true, beq_iff_eq] at hb
      cases hl : listed.getD j false with
      | false => rfl
      | true =>
        have h2 := hc j oj hj hl e he hb.1
        rcases hb.2 with hk' | hr
        · rw [hk', getD_both hk] at h2; cases h2
        · rw [ih _ hr] at h2; cases h2
    · cases h

theorem reaches_not_ready {listed : Array Bool} (hc : Shut md ops listed) {k : Nat} (hk : listed.getD k true = false) {m j : Nat} (h : reaches md ops m j k = true) : j ∉ Region.ready md ops listed := by
  intro hr
  obtain ⟨_, o, ho, hall⟩ := mem_ready.1 hr
  cases m with
  | zero => simp [reaches] at h
  | succ m =>
    unfold reaches at h
    simp only [ho] at h
    obtain ⟨e, he, hb⟩ := Array.any_eq_true'.1 h
    simp only [Bool.and_eq_true, Bool.or_eq_true, beq_iff_eq] at hb
    have h2 := hall e he hb.1
    rcases hb.2 with hk' | hr
    · rw [hk', getD_both hk] at h2; cases h2
    · rw [reaches_unlisted hc hk _ _ hr] at h2; cases h2

theorem later_not_ready (hch : loudChain loud md ops = true) {listed : Array Bool} (hc : Shut md ops listed) {k : Nat} (hun : ∀ m, k ≤ m → isLoud loud ops m = true → listed.getD m true = false) :
    ∀ (d j m : Nat), j - m = d → k ≤ m → m < j → isLoud loud ops m = true → isLoud loud ops j = true → j ∉ Region.ready md ops listed := by
  intro d
  induction d using Nat.strongRecOn with
  | _ d ih =>
    intro j m hd hkm hmj hm hj hr
    have hjs : j < ops.size := by
      obtain ⟨_, o, ho, _⟩ := mem_ready.1 hr
      exact (Array.getElem?_eq_some_iff.1 ho).1
    have h1 := List.all_eq_true.1 hch j (List.mem_range.2 hjs)
    simp only [hj, Bool.not_true, Bool.false_or, List.all_eq_true, List.mem_range] at h1
    have h2 := h1 m hmj
    simp only [hm, Bool.not_true, Bool.false_or, Bool.or_eq_true, List.any_eq_true, List.mem_range, Bool.and_eq_true, decide_eq_true_eq] at h2
    rcases h2 with ⟨m', hm', hlt, hl⟩ | h2
    · exact ih (j - m') (by omega) j m' rfl (by omega) hm' hl hj hr
    · exact reaches_not_ready hc (hun m hkm hm) h2 hr

/-- A loud operation: the quiet ones that may come up beside it may as well wait. -/
theorem anyM_loud {k : Nat} {ok : Oper} (hk : ops[k]? = some ok) (hl : loud ok = true) (hh : Headed md ops n) (hkn : k < n) (hch : loudChain loud md ops = true)
    (hdone : ∀ listed a w, L listed a w → ∀ j ∈ Region.ready md ops listed, n ≤ j) :
    ∀ (f : Nat) (listed : Array Bool) (a : Act) (w : World), S w → HeadInv md ops n listed → (∀ j, j < k → listed.getD j true = true) → (∀ m, k ≤ m → isLoud loud ops m = true → listed.getD m true = false) →
      (∀ j oj, ops[j]? = some oj → j ≠ k → listed.getD j true = false → (∀ e ∈ oj.after, Region.binds md e = true → e.on ≠ k) → ok.apart ops oj = true) →
      k ∈ Region.ready md ops listed →
      mOp P ops S loud k (anyM P md ops S loud n L f (listed.setIfInBounds k true)) a w → anyM P md ops S loud n L (f + 1) listed a w := by
  have low : ∀ listed, HeadInv md ops n listed → k ∈ Region.ready md ops listed → ∀ j ∈ Region.ready md ops listed, j < n := fun listed inv hr =>
    hh.low listed inv k hkn (mem_ready.1 hr).1
  have hkl : isLoud loud ops k = true := by simp [isLoud, hk, hl]
  have unf : ∀ {K : Act → World → Prop} {a : Act} {w : World}, mOp P ops S loud k K a w ↔ (Region.wanted ok (yielded ops a.tmps) = true ∧ ok.wp P a w (fun a' w' => S w' ∧ K a' w') noExit) ∨ (Region.wanted ok (yielded ops a.tmps) = false ∧ K (a.put ok.dst undef) w) := by
    intro K a w
    unfold mOp
    simp only [hk, hl, if_true]
  intro f
  induction f with
  | zero =>
    intro listed a w hS inv hlow hun hfree hr H
    refine ⟨List.ne_nil_of_mem hr, fun j hj => ⟨low _ inv hr j hj, ?_⟩⟩
    by_cases hji : j = k
    · subst hji; exact H
    · exfalso
      have hnot : ∀ a w, L (listed.setIfInBounds k true) a w → False := fun a w h => absurd (hdone _ _ _ h j (ready_mono hj hji)) (Nat.not_le.2 (low _ inv hr j hj))
      rcases unf.1 H with ⟨_, h⟩ | ⟨_, h⟩
      · obtain ⟨a', w', _, h⟩ := wp_some h
        exact hnot _ _ h
      · exact hnot _ _ h
  | succ f ih =>
    intro listed a w hS inv hlow hun hfree hr H
    refine ⟨List.ne_nil_of_mem hr, fun j hj => ⟨low _ inv hr j hj, ?_⟩⟩
    by_cases hji : j = k
    · subst hji; exact H
    · obtain ⟨hjun, oj, hoj, hall⟩ := mem_ready.1 hj
      have hkun := (mem_ready.1 hr).1
      have hnot : ∀ e ∈ oj.after, Region.binds md e = true → e.on ≠ k := fun e he hb heq => by
        have h1 := hall e he hb
        rw [heq, getD_both hkun] at h1
        cases h1
      obtain ⟨p1, p2, p3⟩ := Oper.apart_spec (hfree j oj hoj hji hjun hnot)
      have hjk : k < j := by
        rcases Nat.lt_or_ge k j with h | h
        · exact h
        · have := hlow j (by omega)
          rw [hjun] at this
          cases this
      have hlj : loud oj = false := by
        cases hlj : loud oj with
        | false => rfl
        | true => exact absurd hj (later_not_ready hch inv.closed hun _ j k rfl (Nat.le_refl _) hjk hkl (by simp [isLoud, hoj, hlj]))
      have hr' := ready_mono hr (Ne.symm hji)
      have inv' := inv.set hj (low _ inv hr j hj)
      have hfree' : ∀ i oi, ops[i]? = some oi → i ≠ k → (listed.setIfInBounds j true).getD i true = false →
          (∀ e ∈ oi.after, Region.binds md e = true → e.on ≠ k) → ok.apart ops oi = true := fun i oi hi hik hun' hno => by
        refine hfree i oi hi hik ?_ hno
        by_cases hji' : j = i
        · subst hji'; exact hjun
        · rw [getD_set_ne true hji'] at hun'; exact hun'
      have hlow' : ∀ i, i < k → (listed.setIfInBounds j true).getD i true = true := fun i hi => by
        rw [getD_set_ne true (by omega)]; exact hlow i hi
      have hun' : ∀ m, k ≤ m → isLoud loud ops m = true → (listed.setIfInBounds j true).getD m true = false := fun m hm hl' => by
        rw [getD_set_ne true (by rintro rfl; simp [isLoud, hoj, hlj] at hl')]; exact hun m hm hl'
      have hcm : (listed.setIfInBounds k true).setIfInBounds j true = (listed.setIfInBounds j true).setIfInBounds k true := Array.setIfInBounds_comm _ _ (Ne.symm hji)
      have quiet : ∀ {a' : Act} {w' : World}, anyM P md ops S loud n L (f + 1) (listed.setIfInBounds k true) a' w' → ∃ v, YieldsIf P ops S oj v a' ∧ anyM P md ops S loud n L f ((listed.setIfInBounds j true).setIfInBounds k true) (a'.put oj.dst v) w' := by
        intro a' w' h
        have h2 := (h.2 j (ready_mono hj hji)).2
        unfold mOp at h2
        simp only [hoj, hlj, Bool.false_eq_true, if_false] at h2
        rw [hcm] at h2
        exact h2
      have back : ∀ {u v : Value} {ds : List Deferred}, YieldsIf P ops S oj v (({ a with defers := ds } : Act).put ok.dst u) ↔ YieldsIf P ops S oj v a := by
        intro u v ds
        have e1 : execOp (({ a with defers := ds } : Act).put ok.dst u).eval oj = execOp a.eval oj := execOp_put (ops := ops) oj (fun cs b => hh.sel j oj cs b hoj) { a with defers := ds } ok.dst u p1
        have e2 : Region.wanted oj (yielded ops (({ a with defers := ds } : Act).put ok.dst u).tmps) = Region.wanted oj (yielded ops a.tmps) := wanted_put oj { a with defers := ds } ok.dst u p1
        exact ⟨fun h => h.of_same e1.symm e2.symm, fun h => h.of_same e1 e2⟩
      have hgoal : ∃ v, YieldsIf P ops S oj v a ∧ anyM P md ops S loud n L (f + 1) (listed.setIfInBounds j true) (a.put oj.dst v) w := by
        rcases unf.1 H with ⟨hw, h⟩ | ⟨hw, h⟩
        · have hs := wp_shape h
          obtain ⟨a', w', ⟨hs', h'⟩, u, ds, rfl⟩ := wp_some hs
          obtain ⟨v, hv, _⟩ := quiet h'
          have hv' := back.1 hv
          refine ⟨v, hv', ih _ _ _ hS inv' hlow' hun' hfree' hr' (unf.2 (.inl ⟨by rw [wanted_put ok a oj.dst v p3]; exact hw, ?_⟩))⟩
          refine wp_put (fun cs b => hh.sel k ok cs b hk) p3 (fun t ht e => p2 t e ht) (Oper.wp_mono (fun a' w' h' => ?_) hs)
          obtain ⟨⟨hs', h'⟩, u, ds, rfl⟩ := h'
          obtain ⟨v', hv', h2⟩ := quiet h'
          obtain rfl := yieldsIf_unique hS (back.1 hv') (by assumption)
          exact ⟨hs', h2⟩
        · obtain ⟨v, hv, h2⟩ := quiet h
          have hv' : YieldsIf P ops S oj v a := (back (ds := a.defers)).1 hv
          refine ⟨v, hv', ih _ _ _ hS inv' hlow' hun' hfree' hr' (unf.2 (.inr ⟨by rw [wanted_put ok a oj.dst v p3]; exact hw, ?_⟩))⟩
          rw [← Act.put_comm a undef v p2]
          exact h2
      unfold mOp
      simp only [hoj, hlj, Bool.false_eq_true, if_false]
      exact hgoal

/-- The walk in the order of the text. -/
def wpMix (P : Program) (ops : Array Oper) (S : World → Prop) (loud : Oper → Bool) (T : Act → World → Prop) : List Oper → Act → World → Prop
  | [], a, w => T a w
  | o :: rest, a, w =>
    (Region.wanted o (yielded ops a.tmps) = false ∧ wpMix P ops S loud T rest (a.put o.dst undef) w) ∨
    (Region.wanted o (yielded ops a.tmps) = true ∧ loud o = true ∧ o.wp P a w (fun a' w' => S w' ∧ wpMix P ops S loud T rest a' w') noExit) ∨
    (Region.wanted o (yielded ops a.tmps) = true ∧ loud o = false ∧ ∃ v, (∀ w', S w' → (execOp a.eval o).run P w' = .ok (.value v) w') ∧ wpMix P ops S loud T rest (a.put o.dst v) w)

theorem getD_true_of_false {listed : Array Bool} {j : Nat} (h : listed.getD j false = true) : listed.getD j true = true := by
  rcases Nat.lt_or_ge j listed.size with h' | h'
  · simp [h'] at h ⊢; exact h
  · simp [Array.getElem?_eq_none h'] at h

theorem wpMix_lex {n g : Nat} {T : Act → World → Prop} (hh : Headed md ops n) (hch : loudChain loud md ops = true) (l : List Oper) :
    ∀ (k : Nat) (listed : Array Bool) (a : Act) (w : World), (∀ j, j < l.length → l[j]? = ops[k + j]?) → k + l.length = n → S w → HeadInv md ops n listed →
    (∀ j, j < k → listed.getD j true = true) → (∀ m, k ≤ m → m < ops.size → listed.getD m true = false) →
    Region.lexHead md ops g l.length k listed = true → wpMix P ops S loud T l a w →
    anyM P md ops S loud n (fun listed' a' w' => Region.seqB md ops g n listed' = true ∧ T a' w') l.length listed a w := by
  induction l with
  | nil =>
    intro k listed a w _ hk _ inv _ _ hB h
    obtain rfl : k = n := by simpa using hk
    exact ⟨by simpa [Region.lexHead] using hB, h⟩
  | cons o l ih =>
    intro k listed a w hl hk hS inv hlow hun hB h
    have h0 : ops[k]? = some o := by simpa using (hl 0 (by simp)).symm
    have hks : k < ops.size := (Array.getElem?_eq_some_iff.1 h0).1
    simp only [List.length_cons, Region.lexHead, Bool.and_eq_true] at hB
    obtain ⟨⟨hr, hf⟩, hB'⟩ := hB
    have hkn : k < n := by simp only [List.length_cons] at hk; omega
    have hr' : k ∈ Region.ready md ops listed := by simpa using hr
    have hlow' : ∀ j, j < k + 1 → (listed.setIfInBounds k true).getD j true = true := fun j hj => by
      by_cases hjk : k = j
      · subst hjk
        have : k < listed.size := by rw [inv.size]; exact hks
        simp [this]
      · rw [getD_set_ne true hjk]; exact hlow j (by omega)
    have hun' : ∀ m, k + 1 ≤ m → m < ops.size → (listed.setIfInBounds k true).getD m true = false := fun m hm hms => by
      rw [getD_set_ne true (by omega)]; exact hun m (by omega) hms
    have next : ∀ a' w', S w' → wpMix P ops S loud T l a' w' → anyM P md ops S loud n (fun listed' a' w' => Region.seqB md ops g n listed' = true ∧ T a' w') l.length (listed.setIfInBounds k true) a' w' := fun a' w' hS' h' =>
      ih (k + 1) _ a' w' (fun j hj => by have := hl (j + 1) (by simp; omega); simpa [Nat.add_assoc, Nat.add_comm 1 j] using this) (by simp only [List.length_cons] at hk; omega) hS' (inv.set hr' hkn) hlow' hun' hB' h'
    have hdone : ∀ (listed : Array Bool) (a : Act) (w : World), (Region.seqB md ops g n listed = true ∧ T a w) → ∀ j ∈ Region.ready md ops listed, n ≤ j := fun listed' a' w' hL => seqB_ready hL.1
    have hunl : ∀ m, k ≤ m → isLoud loud ops m = true → listed.getD m true = false := fun m hm hl' => by
      refine hun m hm ?_
      unfold isLoud at hl'
      split at hl'
      · rename_i o' ho'; exact (Array.getElem?_eq_some_iff.1 ho').1
      · cases hl'
    rcases h with ⟨hw, h⟩ | ⟨hw, hlo, h⟩ | ⟨hw, hlo, v, hv, h⟩
    · cases hlo : loud o with
      | true =>
        refine anyM_loud h0 hlo hh hkn hch hdone l.length listed a w hS inv hlow hunl (Region.free_spec h0 hf) hr' ?_
        unfold mOp
        simp only [h0, hlo, if_true]
        exact .inr ⟨hw, next _ _ hS h⟩
      | false =>
        exact anyM_quiet h0 hlo hh hkn hdone l.length listed a w hS inv (Region.free_spec h0 hf) hr' (.inr ⟨hw, rfl⟩) (next _ _ hS h)
    · refine anyM_loud h0 hlo hh hkn hch hdone l.length listed a w hS inv hlow hunl (Region.free_spec h0 hf) hr' ?_
      unfold mOp
      simp only [h0, hlo, if_true]
      exact .inl ⟨hw, Oper.wp_mono (fun a' w' h' => ⟨h'.1, next a' w' h'.1 h'.2⟩) h⟩
    · exact anyM_quiet h0 hlo hh hkn hdone l.length listed a w hS inv (Region.free_spec h0 hf) hr' (.inl ⟨hw, hv⟩) (next _ _ hS h)

/-- The region's edges let one walk in the order of the text serve: n operations in whatever order, the others forced. -/
def mixB (loud : Oper → Bool) (md : Region.Mode) (ops : Array Oper) (n : Nat) : Bool :=
  Region.noSelect ops && loudChain loud md ops && (decide (n = ops.size) || (decide (n < ops.size) && Region.sinkB md ops n && Region.chainB md ops n)) && Region.lexHead md ops (ops.size - n) n 0 (Array.replicate ops.size false)

theorem any_region_mix {a : Act} {w : World} {l : List Oper} (n : Nat) (hB : mixB loud .any l.toArray n = true) (hS : S { w with drawn := w.drawn + 1 })
    (h : wpMix P l.toArray S loud (fun a' w' => wpList P l.toArray Q (l.drop n) a' w') (l.take n) a { w with drawn := w.drawn + 1 }) : wpAny P .any l.toArray Q l.toArray.size (Array.replicate l.toArray.size false) a { w with drawn := w.drawn + 1 } := by
  simp only [mixB, Bool.and_eq_true, Bool.or_eq_true, decide_eq_true_eq] at hB
  obtain ⟨⟨⟨hsel, hch⟩, hn⟩, hlex⟩ := hB
  have hnl : n ≤ l.length := by
    rcases hn with hn | hn
    · simp at hn; omega
    · have := hn.1.1; simp at this; omega
  have htl : (l.take n).length = n := by simp; omega
  have hdl : (l.drop n).length = l.toArray.size - n := by simp
  have inv0 : HeadInv .any l.toArray n (Array.replicate l.toArray.size false) :=
    ⟨by simp, fun j oj _ hl => (by rw [getD_replicate_false] at hl; cases hl), fun t _ ht => getD_in (by simpa using ht) (getD_replicate_false _ _)⟩
  have hh : Headed .any l.toArray n := ⟨Region.noSelect_spec hsel, fun listed inv i hi hun j hj => by
    rcases hn with hn | ⟨⟨hn, hs⟩, hc⟩
    · obtain ⟨_, o, ho, _⟩ := mem_ready.1 hj
      have := (Array.getElem?_eq_some_iff.1 ho).1
      omega
    · exact Nat.lt_of_not_le fun h => tail_waits hs hc hn inv _ i rfl hi hun j h hj⟩
  have H := wpMix_lex (md := .any) (g := l.toArray.size - n) hh hch (l.take n) 0 _ a _ (fun j hj => by
    have hj' : j < n := by rw [htl] at hj; exact hj
    simp [hj']) (by simpa using htl) hS inv0 (fun j hj => by omega) (fun m _ hm => getD_in (by simpa using hm) (getD_replicate_false _ _)) (by rw [htl]; exact hlex) h
  have := anyM_any (Q := Q) (g := l.toArray.size - n) (fun listed a' w' _ hL => by
    have := wpAny_of_seq (md := .any) (Q' := Q) (l.drop n) n listed a' w' (fun j => by simp [List.getElem?_drop]) (by rw [hdl]; exact hL.1) hL.2
    rwa [hdl] at this) _ _ _ _ hS H
  rw [htl, show n + (l.toArray.size - n) = l.toArray.size by omega] at this
  exact this
theorem wp_region_mix {id : Nat} {a : Act} {w : World} {l : List Oper} (n : Nat) (hm : P.follows .mixedOrders = true) (hB : mixB loud .any l.toArray n = true) (hS : S { w with drawn := w.drawn + 1 })
    (h : wpMix P l.toArray S loud (fun a' w' => wpList P l.toArray Q (l.drop n) a' w') (l.take n) a { w with drawn := w.drawn + 1 }) : (Code.region id l.toArray true).wp P Q a w :=
  wp_region_any hm (any_region_mix n hB hS h)
end
end

/-! ### What is quiet -/

def quietOp : Op → Bool
  | .move _ | .assign _ | .pick .. | .load .. | .nilCheck _ | .binOp .. | .unOp .. | .convert .. | .slice .. | .fieldAddr .. | .field .. | .indexAddr .. | .index .. | .extract .. | .build .. => true
  | .call { callee := .builtin .len, .. } | .call { callee := .builtin .cap, .. } | .call { callee := .builtin .max, .. } | .call { callee := .builtin .min, .. } => true
  | _ => false
def loudOp (o : Oper) : Bool := !quietOp o.op

theorem value_of {P : Program} {s : Sem Value} {w w' : World} {n : Next} (h : (do pure (Next.value (← s)) : Sem Next).run P w = .ok n w') : ∃ v, n = .value v := by
  rw [Sem.run_bind] at h
  cases hs : s.run P w with
  | ok v w1 =>
    rw [hs] at h
    simp only [Result.andThen_ok, Sem.run_pure] at h
    injection h with h _
    exact ⟨v, h.symm⟩
  | halt x w1 => rw [hs] at h; cases h

theorem bind_value {P : Program} {α : Type} {s : Sem α} {k : α → Sem Next} {w w' : World} {n : Next} (hk : ∀ x w1, (k x).run P w1 = .ok n w' → ∃ v, n = .value v) (h : (s >>= k).run P w = .ok n w') : ∃ v, n = .value v := by
  rw [Sem.run_bind] at h
  cases hs : s.run P w with
  | ok v w1 => rw [hs] at h; exact hk _ _ h
  | halt x w1 => rw [hs] at h; cases h

theorem quiet_value {P : Program} {ρ : Operand → Value} {o : Oper} (hq : loudOp o = false) {w w' : World} {n : Next} (h : (execOp ρ o).run P w = .ok n w') : ∃ v, n = .value v := by
  obtain ⟨dst, op, ty, pos, after, guard⟩ := o
  unfold loudOp at hq
  cases op
  case move x => simp only [execOp, Sem.run_pure] at h; injection h with h _; exact ⟨_, h.symm⟩
  case assign x => simp only [execOp, Sem.run_pure] at h; injection h with h _; exact ⟨_, h.symm⟩
  case pick c x y =>
    simp only [execOp] at h
    rw [Sem.run_bind] at h
    cases hs : (asBool (ρ c)).run P w with
    | ok b w1 =>
      rw [hs] at h
      simp only [Result.andThen_ok, Sem.run_pure] at h
      injection h with h _
      exact ⟨_, h.symm⟩
    | halt x w1 => rw [hs] at h; cases h
  case nilCheck x =>
    simp only [execOp] at h
    generalize ρ x = y at h
    have hp : (runtimePanic .nilDeref : Sem Next).run P w = .ok n w' → False := fun he => by
      simp [runtimePanic, goPanic, Sem.run_bind, program, Sem.run] at he
    cases y
    case pointer p =>
      cases p with
      | none => exact (hp h).elim
      | some p => simp only [Sem.run_pure] at h; injection h with h _; exact ⟨_, h.symm⟩
    case nilIface => exact (hp h).elim
    case nilFunc => exact (hp h).elim
    case func f first cap =>
      split at h
      · exact (hp h).elim
      · exact (hp h).elim
      · exact (hp h).elim
      · rename_i name first captured e
        split at h
        · exact (hp h).elim
        · refine bind_value (fun p w1 h => bind_value (fun r w2 h => ?_) h) h
          split at h
          · refine bind_value (fun u w3 h => ?_) h
            simp only [Sem.run_pure] at h; injection h with h _; exact ⟨_, h.symm⟩
          · simp only [Sem.run_pure] at h; injection h with h _; exact ⟨_, h.symm⟩
        · simp only [Sem.run_pure] at h; injection h with h _; exact ⟨_, h.symm⟩
      · simp only [Sem.run_pure] at h; injection h with h _; exact ⟨_, h.symm⟩
    all_goals (simp only [Sem.run_pure] at h; injection h with h _; exact ⟨_, h.symm⟩)
  case call c =>
    obtain ⟨cal, args, ats⟩ := c
    cases cal with
    | value f => simp [quietOp] at hq
    | invoke r m => simp [quietOp] at hq
    | builtin b =>
      cases b
      all_goals first
        | (simp [quietOp] at hq; done)
        | (rw [BigFrame.execOp_builtin] at h; first | (rw [BigFrame.builtin_len] at h; exact value_of h) | (rw [BigFrame.builtin_cap] at h; exact value_of h) | (rw [BigFrame.builtin_max] at h; exact value_of h) | (rw [BigFrame.builtin_min] at h; exact value_of h))
  all_goals first
    | (simp [quietOp] at hq; done)
    | exact value_of h

section
variable {P : Program} {ops : Array Oper} {S : World → Prop} {T : Act → World → Prop} {o : Oper} {rest : List Oper} {a : Act} {w : World}
theorem mix_nil (h : T a w) : wpMix P ops S loudOp T [] a w := h
theorem mix_skip (hw : Region.wanted o (yielded ops a.tmps) = false) (h : wpMix P ops S loudOp T rest (a.put o.dst undef) w) : wpMix P ops S loudOp T (o :: rest) a w := .inl ⟨hw, h⟩
theorem mix_loud (hl : loudOp o = true) (hw : Region.wanted o (yielded ops a.tmps) = true) (h : ∀ (K : Act → World → Prop) (E : Exit → Act → World → Prop), (∀ a' w', S w' → wpMix P ops S loudOp T rest a' w' → K a' w') → o.wp P a w K E) : wpMix P ops S loudOp T (o :: rest) a w :=
  .inr (.inl ⟨hw, hl, h _ _ fun _ _ hs h' => ⟨hs, h'⟩⟩)
theorem mix_quiet (hl : loudOp o = false) (hw : Region.wanted o (yielded ops a.tmps) = true) (h : ∀ K : Act → Prop, (∀ a', wpMix P ops S loudOp T rest a' w → K a') → o.quiet P a S K) : wpMix P ops S loudOp T (o :: rest) a w := by
  obtain ⟨v, hv, hk⟩ := h (fun a' => wpMix P ops S loudOp T rest a' w) (fun _ h => h)
  refine .inr (.inr ⟨hw, hl, v, fun w' hs => ?_, hk⟩)
  have h1 := hv w' hs
  unfold Oper.quietAt at h1
  cases hr : (execOp a.eval o).run P w' with
  | ok n w1 =>
    rw [hr] at h1
    obtain ⟨u, rfl⟩ := quiet_value hl hr
    simp only [Oper.quietUpon] at h1
    rw [h1.1, h1.2]
  | halt x w1 => rw [hr] at h1; exact h1.elim
end

/-- The class: more may be there than in w. -/
def Grown (w w' : World) : Prop := ∃ x : More w, w' = grow w x
section
variable {P : Program} {id : Nat} {Q : Exit → Act → World → Prop} {a : Act} {w : World} {l : List Oper}
theorem region_mix (n : Nat) (hm : P.follows .mixedOrders = true) (hB : mixB loudOp .any l.toArray n = true)
    (h : ∀ x, wpMix P l.toArray (fun w' => ∃ x : More w, w' = grow w x) loudOp (fun a' w' => wpList P l.toArray Q (l.drop n) a' w') (l.take n) a (grow w x)) : (Code.region id l.toArray true).wp P Q a w := by
  obtain ⟨x, hx⟩ := more_of (Ext.refl w).drew
  have hx' : ({ w with drawn := w.drawn + 1 } : World) = grow w x := hx
  exact wp_region_mix (S := fun w' => ∃ x : More w, w' = grow w x) n hm hB ⟨x, hx'⟩ (by rw [hx']; exact h x)
/-- No tail. -/
theorem region_mix0 (hm : P.follows .mixedOrders = true) (hB : mixB loudOp .any l.toArray l.length = true)
    (h : ∀ x, wpMix P l.toArray (fun w' => ∃ x : More w, w' = grow w x) loudOp (fun a' w' => Q .normal a' w') l a (grow w x)) : (Code.region id l.toArray true).wp P Q a w := by
  refine region_mix l.length hm hB fun x => ?_
  rw [List.take_length, List.drop_length]
  exact h x
/-- The class may be that of an elder world: then what has been made since may be written. -/
theorem region_at (w0 : World) (hE : Ext w0 w) (n : Nat) (hm : P.follows .mixedOrders = true) (hB : mixB loudOp .any l.toArray n = true)
    (h : wpMix P l.toArray (fun w' => ∃ x : More w0, w' = grow w0 x) loudOp (fun a' w' => wpList P l.toArray Q (l.drop n) a' w') (l.take n) a w.drew) : (Code.region id l.toArray true).wp P Q a w :=
  wp_region_mix (S := fun w' => ∃ x : More w0, w' = grow w0 x) n hm hB (more_of hE.drew) h
theorem region_at0 (w0 : World) (hE : Ext w0 w) (hm : P.follows .mixedOrders = true) (hB : mixB loudOp .any l.toArray l.length = true)
    (h : wpMix P l.toArray (fun w' => ∃ x : More w0, w' = grow w0 x) loudOp (fun a' w' => Q .normal a' w') l a w.drew) : (Code.region id l.toArray true).wp P Q a w := by
  refine region_at w0 hE l.length hm hB ?_
  rw [List.take_length, List.drop_length]
  exact h
end

end Go.Proofs.YtcgnjdkennkheaaGreatDoor
