/-
  As Mix, with a barrier: behind it loud operations may leave the class; what may come behind such a one yields its value in every world.
-/
import Derived.Test.YtcgnjdkennkheaaGreatDoorMix
set_option linter.unusedVariables false
set_option maxRecDepth 100000
set_option linter.unusedSimpArgs false
namespace Go.Proofs.YtcgnjdkennkheaaGreatDoor
open Go.RowKit

section
variable {P : Program} {ops : Array Oper} {md : Region.Mode} {S : World → Prop} {loud : Oper → Bool} {Q : Exit → Act → World → Prop}
/-- Is operation i forced ahead of every loud one from m on? -/
def held (loud : Oper → Bool) (md : Region.Mode) (ops : Array Oper) (m i : Nat) : Bool := (List.range ops.size).all fun j => decide (j < m) || !isLoud loud ops j || reaches md ops 8 j i
def cls (loud : Oper → Bool) (md : Region.Mode) (ops : Array Oper) (m : Nat) (S : World → Prop) (i : Nat) : World → Prop := fun w => held loud md ops m i = true → S w
/-- The world is of the class as long as that matters. -/
def Fit (loud : Oper → Bool) (md : Region.Mode) (ops : Array Oper) (m : Nat) (S : World → Prop) (listed : Array Bool) (w : World) : Prop := ∀ i oi, ops[i]? = some oi → loud oi = false → listed.getD i true = false → cls loud md ops m S i w
theorem Fit.put {m : Nat} {listed : Array Bool} {w : World} (h : Fit loud md ops m S listed w) (j : Nat) : Fit loud md ops m S (listed.setIfInBounds j true) w := fun i oi hi hl hun => by
  refine h i oi hi hl ?_
  by_cases hij : j = i
  · subst hij
    rcases Nat.lt_or_ge j listed.size with h' | h'
    · simp [h'] at hun
    · simp [Array.getElem?_eq_none h'] at hun
  · rwa [getD_set_ne true hij] at hun
theorem Fit.of {m : Nat} {listed : Array Bool} {w : World} (h : S w) : Fit loud md ops m S listed w := fun _ _ _ _ _ _ => h
/-- Behind a loud operation: of the class, or nothing that asks for it is left. -/
theorem Fit.behind {m j : Nat} {listed : Array Bool} {w' : World} (hc : Shut md ops listed) (hr : j ∈ Region.ready md ops listed) (hl : isLoud loud ops j = true) (h : j < m → S w') : Fit loud md ops m S (listed.setIfInBounds j true) w' := fun i oi hi hli hun hh => by
  rcases Nat.lt_or_ge j m with hjm | hjm
  · exact h hjm
  · have hjs : j < ops.size := by
      obtain ⟨_, o, ho, _⟩ := mem_ready.1 hr
      exact (Array.getElem?_eq_some_iff.1 ho).1
    have h1 := List.all_eq_true.1 hh j (List.mem_range.2 hjs)
    simp only [hl, Bool.not_true, Bool.or_false, Bool.or_eq_true, decide_eq_true_eq] at h1
    have h2 : reaches md ops 8 j i = true := h1.resolve_left (by omega)
    have hiun : listed.getD i true = false := by
      by_cases hij : j = i
      · subst hij
        rcases Nat.lt_or_ge j listed.size with h' | h'
        · simp [h'] at hun
        · simp [Array.getElem?_eq_none h'] at hun
      · rwa [getD_set_ne true hij] at hun
    exact absurd hr (reaches_not_ready hc hiun h2)

theorem Shut.put {i : Nat} {listed : Array Bool} (h : Shut md ops listed) (hi : i ∈ Region.ready md ops listed) : Shut md ops (listed.setIfInBounds i true) := by
  obtain ⟨_, oi, hoi, hall⟩ := mem_ready.1 hi
  intro j oj hj hl e he hb
  by_cases hij : i = j
  · subst hij
    obtain rfl : oj = oi := Option.some.inj (hj.symm.trans hoi)
    exact getD_set_true (hall e he hb)
  · rw [getD_set_ne false hij] at hl
    exact getD_set_true (h j oj hj hl e he hb)

/-- Operation i comes up. -/
def bOp (P : Program) (md : Region.Mode) (ops : Array Oper) (S : World → Prop) (loud : Oper → Bool) (m i : Nat) (K : Act → World → Prop) (a : Act) (w : World) : Prop :=
  match ops[i]? with
  | none => False
  | some o =>
    if loud o then (Region.wanted o (yielded ops a.tmps) = true ∧ o.wp P a w (fun a' w' => (i < m → S w') ∧ K a' w') noExit) ∨ (Region.wanted o (yielded ops a.tmps) = false ∧ K (a.put o.dst undef) w)
    else ∃ v, YieldsIf P ops (cls loud md ops m S i) o v a ∧ K (a.put o.dst v) w

def anyB (P : Program) (md : Region.Mode) (ops : Array Oper) (S : World → Prop) (loud : Oper → Bool) (m n : Nat) (L : Array Bool → Act → World → Prop) : Nat → Array Bool → Act → World → Prop
  | 0, listed, a, w => L listed a w
  | f + 1, listed, a, w => Region.ready md ops listed ≠ [] ∧ ∀ i ∈ Region.ready md ops listed, i < n ∧ bOp P md ops S loud m i (anyB P md ops S loud m n L f (listed.setIfInBounds i true)) a w

theorem anyB_any {m n g : Nat} {L : Array Bool → Act → World → Prop} (hL : ∀ listed a w, L listed a w → wpAny P md ops Q g listed a w) :
    ∀ (f : Nat) (listed : Array Bool) (a : Act) (w : World), Shut md ops listed → Fit loud md ops m S listed w → anyB P md ops S loud m n L f listed a w → wpAny P md ops Q (f + g) listed a w
  | 0, _, _, _, _, _, h => by rw [Nat.zero_add]; exact hL _ _ _ h
  | f + 1, listed, a, w, hc, hS, h => by
    rw [show f + 1 + g = (f + g) + 1 from by omega]
    refine ⟨fun h0 => absurd h0 h.1, fun i hi => ?_⟩
    have h1 := (h.2 i hi).2
    unfold bOp at h1
    cases ho : ops[i]? with
    | none => simp only [ho] at h1
    | some o =>
      simp only [ho] at h1
      split at h1
      · rename_i hlo
        unfold wpOp
        simp only [ho]
        rcases h1 with ⟨hw, h1⟩ | ⟨hw, h1⟩
        · rw [if_pos hw]
          exact .inl (wp_weaken (Oper.wp_mono (fun a' w' h' => anyB_any hL f _ a' w' (hc.put hi) (Fit.behind hc hi (by simp [isLoud, ho, hlo]) h'.1) h'.2) h1))
        · rw [if_neg (by rw [hw]; exact Bool.false_ne_true)]
          exact anyB_any hL f _ _ _ (hc.put hi) (hS.put i) h1
      · rename_i hlo
        obtain ⟨v, hy, h1⟩ := h1
        exact hy.wpOp ho (hS i o ho (by simpa using hlo) (mem_ready.1 hi).1) (anyB_any hL f _ _ _ (hc.put hi) (hS.put i) h1)

section
variable {m n : Nat} {L : Array Bool → Act → World → Prop}

/-- A quiet operation that may come up may be taken first. -/
theorem anyB_quiet {i : Nat} {oi : Oper} {v : Value} (hi : ops[i]? = some oi) (hl : loud oi = false) (hh : Headed md ops n) (hin : i < n)
    (hdone : ∀ listed a w, L listed a w → ∀ j ∈ Region.ready md ops listed, n ≤ j) :
    ∀ (f : Nat) (listed : Array Bool) (a : Act) (w : World), Fit loud md ops m S listed w → HeadInv md ops n listed →
      (∀ j oj, ops[j]? = some oj → j ≠ i → listed.getD j true = false → (∀ e ∈ oj.after, Region.binds md e = true → e.on ≠ i) → oi.apart ops oj = true) →
      i ∈ Region.ready md ops listed → YieldsIf P ops (cls loud md ops m S i) oi v a →
      anyB P md ops S loud m n L f (listed.setIfInBounds i true) (a.put oi.dst v) w → anyB P md ops S loud m n L (f + 1) listed a w := by
  have start : ∀ {K : Act → World → Prop} {a : Act} {w : World}, YieldsIf P ops (cls loud md ops m S i) oi v a → K (a.put oi.dst v) w → bOp P md ops S loud m i K a w := by
    intro K a w hy H
    unfold bOp
    simp only [hi, hl, Bool.false_eq_true, if_false]
    exact ⟨v, hy, H⟩
  have low : ∀ listed, HeadInv md ops n listed → i ∈ Region.ready md ops listed → ∀ j ∈ Region.ready md ops listed, j < n := fun listed inv hr =>
    hh.low listed inv i hin (mem_ready.1 hr).1
  intro f
  induction f with
  | zero =>
    intro listed a w hS inv _ hr hy H
    refine ⟨List.ne_nil_of_mem hr, fun j hj => ⟨low _ inv hr j hj, ?_⟩⟩
    by_cases hji : j = i
    · subst hji; exact start hy H
    · exact absurd (hdone _ _ _ H j (ready_mono hj hji)) (Nat.not_le.2 (low _ inv hr j hj))
  | succ f ih =>
    intro listed a w hS inv hfree hr hy H
    refine ⟨List.ne_nil_of_mem hr, fun j hj => ⟨low _ inv hr j hj, ?_⟩⟩
    by_cases hji : j = i
    · subst hji; exact start hy H
    · have h1 := (H.2 j (ready_mono hj hji)).2
      obtain ⟨hjun, oj, hoj, hall⟩ := mem_ready.1 hj
      have hiun := (mem_ready.1 hr).1
      have hnot : ∀ e ∈ oj.after, Region.binds md e = true → e.on ≠ i := fun e he hb heq => by
        have h1 := hall e he hb
        rw [heq, getD_both hiun] at h1
        cases h1
      obtain ⟨p1, p2, p3⟩ := Oper.apart_spec (hfree j oj hoj hji hjun hnot)
      have hfree' : ∀ k ok, ops[k]? = some ok → k ≠ i → (listed.setIfInBounds j true).getD k true = false →
          (∀ e ∈ ok.after, Region.binds md e = true → e.on ≠ i) → oi.apart ops ok = true := fun k ok hk hki hun hno => by
        refine hfree k ok hk hki ?_ hno
        by_cases hjk : j = k
        · subst hjk; exact hjun
        · rw [getD_set_ne true hjk] at hun; exact hun
      have hr' := ready_mono hr (Ne.symm hji)
      have inv' := inv.set hj (low _ inv hr j hj)
      have keep : ∀ (a : Act), YieldsIf P ops (cls loud md ops m S i) oi v a → ∀ u, YieldsIf P ops (cls loud md ops m S i) oi v (a.put oj.dst u) := fun a hy u =>
        hy.of_same (execOp_put oi (fun cs b => hh.sel i oi cs b hi) a oj.dst u p3) (wanted_put oi a oj.dst u p3)
      have hcm : (listed.setIfInBounds i true).setIfInBounds j true = (listed.setIfInBounds j true).setIfInBounds i true := Array.setIfInBounds_comm _ _ (Ne.symm hji)
      unfold bOp at h1 ⊢
      simp only [hoj] at h1 ⊢
      split
      · rename_i hlj
        simp only [hlj, if_true] at h1
        rw [wanted_put oj a oi.dst v p1] at h1
        rcases h1 with ⟨hw, h1⟩ | ⟨hw, h1⟩
        · refine .inl ⟨hw, ?_⟩
          refine Oper.wp_mono (fun a' w' h' => ?_) (wp_shape (wp_unput (fun cs b => hh.sel j oj cs b hoj) p1 p2 h1))
          obtain ⟨⟨hs, h2⟩, u, ds, rfl⟩ := h'
          refine ⟨hs, ih _ _ _ (Fit.behind inv.closed hj (by simp [isLoud, hoj, hlj]) hs) inv' hfree' hr' (keep { a with defers := ds } (hy.of_same rfl rfl) u) ?_⟩
          rw [← hcm]
          exact h2
        · refine .inr ⟨hw, ih _ _ _ (hS.put j) inv' hfree' hr' (keep a hy undef) ?_⟩
          rw [← hcm, ← Act.put_comm a v undef p2]
          exact h1
      · rename_i hlj
        simp only [hlj, if_false] at h1
        obtain ⟨u, hu, h1⟩ := h1
        refine ⟨u, hu.of_same (execOp_put oj (fun cs b => hh.sel j oj cs b hoj) a oi.dst v p1).symm (wanted_put oj a oi.dst v p1).symm, ih _ _ _ (hS.put j) inv' hfree' hr' (keep a hy u) ?_⟩
        rw [← hcm, ← Act.put_comm a v u p2]
        exact h1

/-- A loud operation: the quiet ones that may come up beside it may as well wait. -/
theorem anyB_loud {k : Nat} {ok : Oper} (hk : ops[k]? = some ok) (hl : loud ok = true) (hh : Headed md ops n) (hkn : k < n) (hch : loudChain loud md ops = true)
    (hdone : ∀ listed a w, L listed a w → ∀ j ∈ Region.ready md ops listed, n ≤ j) :
    ∀ (f : Nat) (listed : Array Bool) (a : Act) (w : World), Fit loud md ops m S listed w → HeadInv md ops n listed → (∀ j, j < k → listed.getD j true = true) → (∀ i, k ≤ i → isLoud loud ops i = true → listed.getD i true = false) →
      (∀ j oj, ops[j]? = some oj → j ≠ k → listed.getD j true = false → (∀ e ∈ oj.after, Region.binds md e = true → e.on ≠ k) → ok.apart ops oj = true) →
      k ∈ Region.ready md ops listed →
      bOp P md ops S loud m k (anyB P md ops S loud m n L f (listed.setIfInBounds k true)) a w → anyB P md ops S loud m n L (f + 1) listed a w := by
  have low : ∀ listed, HeadInv md ops n listed → k ∈ Region.ready md ops listed → ∀ j ∈ Region.ready md ops listed, j < n := fun listed inv hr =>
    hh.low listed inv k hkn (mem_ready.1 hr).1
  have hkl : isLoud loud ops k = true := by simp [isLoud, hk, hl]
  have unf : ∀ {K : Act → World → Prop} {a : Act} {w : World}, bOp P md ops S loud m k K a w ↔ (Region.wanted ok (yielded ops a.tmps) = true ∧ ok.wp P a w (fun a' w' => (k < m → S w') ∧ K a' w') noExit) ∨ (Region.wanted ok (yielded ops a.tmps) = false ∧ K (a.put ok.dst undef) w) := by
    intro K a w
    unfold bOp
    simp only [hk, hl, if_true]
  intro f
  induction f with
  | zero =>
    intro listed a w hS inv hlow hun hfree hr H
    refine ⟨List.ne_nil_of_mem hr, fun j hj => ⟨low _ inv hr j hj, ?_⟩⟩
    by_cases hji : j = k
    · subst hji; exact H
    · exfalso
      have hnot : ∀ a w, L (listed.setIfInBounds k true) a w → False := fun a w h => absurd (hdone _ _ _ h j (ready_mono hj hji)) (Nat.not_le.2 (low _ inv hr j hj))
      rcases unf.1 H with ⟨_, h⟩ | ⟨_, h⟩
      · obtain ⟨a', w', _, h⟩ := wp_some h
        exact hnot _ _ h
      · exact hnot _ _ h
  | succ f ih =>
    intro listed a w hS inv hlow hun hfree hr H
    refine ⟨List.ne_nil_of_mem hr, fun j hj => ⟨low _ inv hr j hj, ?_⟩⟩
    by_cases hji : j = k
    · subst hji; exact H
    · obtain ⟨hjun, oj, hoj, hall⟩ := mem_ready.1 hj
      have hkun := (mem_ready.1 hr).1
      have hnot : ∀ e ∈ oj.after, Region.binds md e = true → e.on ≠ k := fun e he hb heq => by
        have h1 := hall e he hb
        rw [heq, getD_both hkun] at h1
        cases h1
      obtain ⟨p1, p2, p3⟩ := Oper.apart_spec (hfree j oj hoj hji hjun hnot)
      have hjk : k < j := by
        rcases Nat.lt_or_ge k j with h | h
        · exact h
        · have := hlow j (by omega)
          rw [hjun] at this
          cases this
      have hlj : loud oj = false := by
        cases hlj : loud oj with
        | false => rfl
        | true => exact absurd hj (later_not_ready hch inv.closed hun _ j k rfl (Nat.le_refl _) hjk hkl (by simp [isLoud, hoj, hlj]))
      have hr' := ready_mono hr (Ne.symm hji)
      have inv' := inv.set hj (low _ inv hr j hj)
      have hfree' : ∀ i oi, ops[i]? = some oi → i ≠ k → (listed.setIfInBounds j true).getD i true = false →
          (∀ e ∈ oi.after, Region.binds md e = true → e.on ≠ k) → ok.apart ops oi = true := fun i oi hi hik hun' hno => by
        refine hfree i oi hi hik ?_ hno
        by_cases hji' : j = i
        · subst hji'; exact hjun
        · rw [getD_set_ne true hji'] at hun'; exact hun'
      have hlow' : ∀ i, i < k → (listed.setIfInBounds j true).getD i true = true := fun i hi => by
        rw [getD_set_ne true (by omega)]; exact hlow i hi
      have hun' : ∀ i, k ≤ i → isLoud loud ops i = true → (listed.setIfInBounds j true).getD i true = false := fun m hm hl' => by
        rw [getD_set_ne true (by rintro rfl; simp [isLoud, hoj, hlj] at hl')]; exact hun m hm hl'
      have hcm : (listed.setIfInBounds k true).setIfInBounds j true = (listed.setIfInBounds j true).setIfInBounds k true := Array.setIfInBounds_comm _ _ (Ne.symm hji)
      have quiet : ∀ {a' : Act} {w' : World}, anyB P md ops S loud m n L (f + 1) (listed.setIfInBounds k true) a' w' → ∃ v, YieldsIf P ops (cls loud md ops m S j) oj v a' ∧ anyB P md ops S loud m n L f ((listed.setIfInBounds j true).setIfInBounds k true) (a'.put oj.dst v) w' := by
        intro a' w' h
        have h2 := (h.2 j (ready_mono hj hji)).2
        unfold bOp at h2
        simp only [hoj, hlj, Bool.false_eq_true, if_false] at h2
        rw [hcm] at h2
        exact h2
      have back : ∀ {u v : Value} {ds : List Deferred}, YieldsIf P ops (cls loud md ops m S j) oj v (({ a with defers := ds } : Act).put ok.dst u) ↔ YieldsIf P ops (cls loud md ops m S j) oj v a := by
        intro u v ds
        have e1 : execOp (({ a with defers := ds } : Act).put ok.dst u).eval oj = execOp a.eval oj := execOp_put (ops := ops) oj (fun cs b => hh.sel j oj cs b hoj) { a with defers := ds } ok.dst u p1
        have e2 : Region.wanted oj (yielded ops (({ a with defers := ds } : Act).put ok.dst u).tmps) = Region.wanted oj (yielded ops a.tmps) := wanted_put oj { a with defers := ds } ok.dst u p1
        exact ⟨fun h => h.of_same e1.symm e2.symm, fun h => h.of_same e1 e2⟩
      have hgoal : ∃ v, YieldsIf P ops (cls loud md ops m S j) oj v a ∧ anyB P md ops S loud m n L (f + 1) (listed.setIfInBounds j true) (a.put oj.dst v) w := by
        rcases unf.1 H with ⟨hw, h⟩ | ⟨hw, h⟩
        · have hs := wp_shape h
          obtain ⟨a', w', ⟨hs', h'⟩, u, ds, rfl⟩ := wp_some hs
          obtain ⟨v, hv, _⟩ := quiet h'
          have hv' := back.1 hv
          refine ⟨v, hv', ih _ _ _ (hS.put j) inv' hlow' hun' hfree' hr' (unf.2 (.inl ⟨by rw [wanted_put ok a oj.dst v p3]; exact hw, ?_⟩))⟩
          refine wp_put (fun cs b => hh.sel k ok cs b hk) p3 (fun t ht e => p2 t e ht) (Oper.wp_mono (fun a' w' h' => ?_) hs)
          obtain ⟨⟨hs', h'⟩, u, ds, rfl⟩ := h'
          obtain ⟨v', hv', h2⟩ := quiet h'
          obtain rfl := yieldsIf_unique (hS j oj hoj hlj hjun) (back.1 hv') (by assumption)
          exact ⟨hs', h2⟩
        · obtain ⟨v, hv, h2⟩ := quiet h
          have hv' : YieldsIf P ops (cls loud md ops m S j) oj v a := (back (ds := a.defers)).1 hv
          refine ⟨v, hv', ih _ _ _ (hS.put j) inv' hlow' hun' hfree' hr' (unf.2 (.inr ⟨by rw [wanted_put ok a oj.dst v p3]; exact hw, ?_⟩))⟩
          rw [← Act.put_comm a undef v p2]
          exact h2
      unfold bOp
      simp only [hoj, hlj, Bool.false_eq_true, if_false]
      exact hgoal

/-- The walk in the order of the text. -/
def wpBar (P : Program) (md : Region.Mode) (ops : Array Oper) (S : World → Prop) (loud : Oper → Bool) (m : Nat) (T : Act → World → Prop) : Nat → List Oper → Act → World → Prop
  | _, [], a, w => T a w
  | k, o :: rest, a, w =>
    (Region.wanted o (yielded ops a.tmps) = false ∧ wpBar P md ops S loud m T (k + 1) rest (a.put o.dst undef) w) ∨
    (Region.wanted o (yielded ops a.tmps) = true ∧ loud o = true ∧ o.wp P a w (fun a' w' => (k < m → S w') ∧ wpBar P md ops S loud m T (k + 1) rest a' w') noExit) ∨
    (Region.wanted o (yielded ops a.tmps) = true ∧ loud o = false ∧ ∃ v, (∀ w', cls loud md ops m S k w' → (execOp a.eval o).run P w' = .ok (.value v) w') ∧ wpBar P md ops S loud m T (k + 1) rest (a.put o.dst v) w)

theorem wpBar_lex {m n g : Nat} {T : Act → World → Prop} (hh : Headed md ops n) (hch : loudChain loud md ops = true) (l : List Oper) :
    ∀ (k : Nat) (listed : Array Bool) (a : Act) (w : World), (∀ j, j < l.length → l[j]? = ops[k + j]?) → k + l.length = n → Fit loud md ops m S listed w → HeadInv md ops n listed →
    (∀ j, j < k → listed.getD j true = true) → (∀ i, k ≤ i → i < ops.size → listed.getD i true = false) →
    Region.lexHead md ops g l.length k listed = true → wpBar P md ops S loud m T k l a w →
    anyB P md ops S loud m n (fun listed' a' w' => Region.seqB md ops g n listed' = true ∧ T a' w') l.length listed a w := by
  induction l with
  | nil =>
    intro k listed a w _ hk _ inv _ _ hB h
    obtain rfl : k = n := by simpa using hk
    exact ⟨by simpa [Region.lexHead] using hB, h⟩
  | cons o l ih =>
    intro k listed a w hl hk hS inv hlow hun hB h
    have h0 : ops[k]? = some o := by simpa using (hl 0 (by simp)).symm
    have hks : k < ops.size := (Array.getElem?_eq_some_iff.1 h0).1
    simp only [List.length_cons, Region.lexHead, Bool.and_eq_true] at hB
    obtain ⟨⟨hr, hf⟩, hB'⟩ := hB
    have hkn : k < n := by simp only [List.length_cons] at hk; omega
    have hr' : k ∈ Region.ready md ops listed := by simpa using hr
    have hlow' : ∀ j, j < k + 1 → (listed.setIfInBounds k true).getD j true = true := fun j hj => by
      by_cases hjk : k = j
      · subst hjk
        have : k < listed.size := by rw [inv.size]; exact hks
        simp [this]
      · rw [getD_set_ne true hjk]; exact hlow j (by omega)
    have hun' : ∀ i, k + 1 ≤ i → i < ops.size → (listed.setIfInBounds k true).getD i true = false := fun m hm hms => by
      rw [getD_set_ne true (by omega)]; exact hun m (by omega) hms
    have next : ∀ a' w', Fit loud md ops m S (listed.setIfInBounds k true) w' → wpBar P md ops S loud m T (k + 1) l a' w' → anyB P md ops S loud m n (fun listed' a' w' => Region.seqB md ops g n listed' = true ∧ T a' w') l.length (listed.setIfInBounds k true) a' w' := fun a' w' hS' h' =>
      ih (k + 1) _ a' w' (fun j hj => by have := hl (j + 1) (by simp; omega); simpa [Nat.add_assoc, Nat.add_comm 1 j] using this) (by simp only [List.length_cons] at hk; omega) hS' (inv.set hr' hkn) hlow' hun' hB' h'
    have hdone : ∀ (listed : Array Bool) (a : Act) (w : World), (Region.seqB md ops g n listed = true ∧ T a w) → ∀ j ∈ Region.ready md ops listed, n ≤ j := fun listed' a' w' hL => seqB_ready hL.1
    have hunl : ∀ i, k ≤ i → isLoud loud ops i = true → listed.getD i true = false := fun m hm hl' => by
      refine hun m hm ?_
      unfold isLoud at hl'
      split at hl'
      · rename_i o' ho'; exact (Array.getElem?_eq_some_iff.1 ho').1
      · cases hl'
    rcases h with ⟨hw, h⟩ | ⟨hw, hlo, h⟩ | ⟨hw, hlo, v, hv, h⟩
    · cases hlo : loud o with
      | true =>
        refine anyB_loud h0 hlo hh hkn hch hdone l.length listed a w hS inv hlow hunl (Region.free_spec h0 hf) hr' ?_
        unfold bOp
        simp only [h0, hlo, if_true]
        exact .inr ⟨hw, next _ _ (hS.put k) h⟩
      | false =>
        exact anyB_quiet h0 hlo hh hkn hdone l.length listed a w hS inv (Region.free_spec h0 hf) hr' (.inr ⟨hw, rfl⟩) (next _ _ (hS.put k) h)
    · refine anyB_loud h0 hlo hh hkn hch hdone l.length listed a w hS inv hlow hunl (Region.free_spec h0 hf) hr' ?_
      unfold bOp
      simp only [h0, hlo, if_true]
      exact .inl ⟨hw, Oper.wp_mono (fun a' w' h' => ⟨h'.1, next a' w' (Fit.behind inv.closed hr' (by simp [isLoud, h0, hlo]) h'.1) h'.2⟩) h⟩
    · exact anyB_quiet h0 hlo hh hkn hdone l.length listed a w hS inv (Region.free_spec h0 hf) hr' (.inl ⟨hw, hv⟩) (next _ _ (hS.put k) h)

/-- The region's edges let one walk in the order of the text serve: n operations in whatever order, the others forced. -/
def barB (loud : Oper → Bool) (md : Region.Mode) (ops : Array Oper) (n : Nat) : Bool :=
  Region.noSelect ops && loudChain loud md ops && (decide (n = ops.size) || (decide (n < ops.size) && Region.sinkB md ops n && Region.chainB md ops n)) && Region.lexHead md ops (ops.size - n) n 0 (Array.replicate ops.size false)

theorem wp_region_bar {id : Nat} {a : Act} {w : World} {l : List Oper} (m n : Nat) (hm : P.follows .mixedOrders = true) (hB : barB loud .any l.toArray n = true) (hS : S { w with drawn := w.drawn + 1 })
    (h : wpBar P .any l.toArray S loud m (fun a' w' => wpList P l.toArray Q (l.drop n) a' w') 0 (l.take n) a { w with drawn := w.drawn + 1 }) : (Code.region id l.toArray true).wp P Q a w := by
  simp only [barB, Bool.and_eq_true, Bool.or_eq_true, decide_eq_true_eq] at hB
  obtain ⟨⟨⟨hsel, hch⟩, hn⟩, hlex⟩ := hB
  have hnl : n ≤ l.length := by
    rcases hn with hn | hn
    · simp at hn; omega
    · have := hn.1.1; simp at this; omega
  have htl : (l.take n).length = n := by simp; omega
  have hdl : (l.drop n).length = l.toArray.size - n := by simp
  have inv0 : HeadInv .any l.toArray n (Array.replicate l.toArray.size false) :=
    ⟨by simp, fun j oj _ hl => (by rw [getD_replicate_false] at hl; cases hl), fun t _ ht => getD_in (by simpa using ht) (getD_replicate_false _ _)⟩
  have hh : Headed .any l.toArray n := ⟨Region.noSelect_spec hsel, fun listed inv i hi hun j hj => by
    rcases hn with hn | ⟨⟨hn, hs⟩, hc⟩
    · obtain ⟨_, o, ho, _⟩ := mem_ready.1 hj
      have := (Array.getElem?_eq_some_iff.1 ho).1
      omega
    · exact Nat.lt_of_not_le fun h => tail_waits hs hc hn inv _ i rfl hi hun j h hj⟩
  have H := wpBar_lex (md := .any) (g := l.toArray.size - n) hh hch (l.take n) 0 _ a _ (fun j hj => by
    have hj' : j < n := by rw [htl] at hj; exact hj
    simp [hj']) (by simpa using htl) (Fit.of hS) inv0 (fun j hj => by omega) (fun m _ hm => getD_in (by simpa using hm) (getD_replicate_false _ _)) (by rw [htl]; exact hlex) h
  refine wp_region_any hm ?_
  have := anyB_any (Q := Q) (g := l.toArray.size - n) (fun listed a' w' hL => by
    have := wpAny_of_seq (md := .any) (Q' := Q) (l.drop n) n listed a' w' (fun j => by simp [List.getElem?_drop]) (by rw [hdl]; exact hL.1) hL.2
    rwa [hdl] at this) _ _ _ _ inv0.closed (Fit.of hS) H
  rw [htl, show n + (l.toArray.size - n) = l.toArray.size by omega] at this
  exact this
end
end

section
variable {P : Program} {ops : Array Oper} {S : World → Prop} {m k : Nat} {T : Act → World → Prop} {o : Oper} {rest : List Oper} {a : Act} {w : World}
theorem bar_nil (h : T a w) : wpBar P .any ops S loudOp m T k [] a w := h
theorem bar_skip (hw : Region.wanted o (yielded ops a.tmps) = false) (h : wpBar P .any ops S loudOp m T (k + 1) rest (a.put o.dst undef) w) : wpBar P .any ops S loudOp m T k (o :: rest) a w := .inl ⟨hw, h⟩
/-- A loud one ahead of the barrier. -/
theorem bar_loud (hl : loudOp o = true) (hw : Region.wanted o (yielded ops a.tmps) = true) (h : ∀ (K : Act → World → Prop) (E : Exit → Act → World → Prop), (∀ a' w', S w' → wpBar P .any ops S loudOp m T (k + 1) rest a' w' → K a' w') → o.wp P a w K E) : wpBar P .any ops S loudOp m T k (o :: rest) a w :=
  .inr (.inl ⟨hw, hl, h _ _ fun _ _ hs h' => ⟨fun _ => hs, h'⟩⟩)
/-- A loud one behind it. -/
theorem bar_last (hm : m ≤ k) (hl : loudOp o = true) (hw : Region.wanted o (yielded ops a.tmps) = true) (h : ∀ (K : Act → World → Prop) (E : Exit → Act → World → Prop), (∀ a' w', wpBar P .any ops S loudOp m T (k + 1) rest a' w' → K a' w') → o.wp P a w K E) : wpBar P .any ops S loudOp m T k (o :: rest) a w :=
  .inr (.inl ⟨hw, hl, h _ _ fun _ _ h' => ⟨fun h0 => absurd h0 (Nat.not_lt.2 hm), h'⟩⟩)
theorem bar_of {C : World → Prop} (hC : ∀ w', cls loudOp .any ops m S k w' → C w') (hl : loudOp o = false) (hw : Region.wanted o (yielded ops a.tmps) = true) (h : ∀ K : Act → Prop, (∀ a', wpBar P .any ops S loudOp m T (k + 1) rest a' w → K a') → o.quiet P a C K) : wpBar P .any ops S loudOp m T k (o :: rest) a w := by
  obtain ⟨v, hv, hk⟩ := h (fun a' => wpBar P .any ops S loudOp m T (k + 1) rest a' w) (fun _ h => h)
  refine .inr (.inr ⟨hw, hl, v, fun w' hs => ?_, hk⟩)
  have h1 := hv w' (hC w' hs)
  unfold Oper.quietAt at h1
  cases hr : (execOp a.eval o).run P w' with
  | ok n w1 =>
    rw [hr] at h1
    obtain ⟨u, rfl⟩ := quiet_value hl hr
    simp only [Oper.quietUpon] at h1
    rw [h1.1, h1.2]
  | halt x w1 => rw [hr] at h1; exact h1.elim
/-- A quiet one that is forced ahead of what lies behind the barrier. -/
theorem bar_quiet (hh : held loudOp .any ops m k = true) (hl : loudOp o = false) (hw : Region.wanted o (yielded ops a.tmps) = true) (h : ∀ K : Act → Prop, (∀ a', wpBar P .any ops S loudOp m T (k + 1) rest a' w → K a') → o.quiet P a S K) : wpBar P .any ops S loudOp m T k (o :: rest) a w :=
  bar_of (fun _ hs => hs hh) hl hw h
/-- One that yields in every world. -/
theorem bar_still (hl : loudOp o = false) (hw : Region.wanted o (yielded ops a.tmps) = true) (h : ∀ K : Act → Prop, (∀ a', wpBar P .any ops S loudOp m T (k + 1) rest a' w → K a') → o.quiet P a (fun w' => ∃ z : World, w' = z) K) : wpBar P .any ops S loudOp m T k (o :: rest) a w :=
  bar_of (fun w' _ => ⟨w', rfl⟩) hl hw h
end

section
variable {P : Program} {id : Nat} {Q : Exit → Act → World → Prop} {a : Act} {w : World} {l : List Oper}
theorem region_bar (m n : Nat) (hm : P.follows .mixedOrders = true) (hB : barB loudOp .any l.toArray n = true)
    (h : ∀ x, wpBar P .any l.toArray (fun w' => ∃ x : More w, w' = grow w x) loudOp m (fun a' w' => wpList P l.toArray Q (l.drop n) a' w') 0 (l.take n) a (grow w x)) : (Code.region id l.toArray true).wp P Q a w := by
  obtain ⟨x, hx⟩ := more_of (Ext.refl w).drew
  have hx' : ({ w with drawn := w.drawn + 1 } : World) = grow w x := hx
  exact wp_region_bar (S := fun w' => ∃ x : More w, w' = grow w x) m n hm hB ⟨x, hx'⟩ (by rw [hx']; exact h x)
theorem region_bar0 (m : Nat) (hm : P.follows .mixedOrders = true) (hB : barB loudOp .any l.toArray l.length = true)
    (h : ∀ x, wpBar P .any l.toArray (fun w' => ∃ x : More w, w' = grow w x) loudOp m (fun a' w' => Q .normal a' w') 0 l a (grow w x)) : (Code.region id l.toArray true).wp P Q a w := by
  refine region_bar m l.length hm hB fun x => ?_
  rw [List.take_length, List.drop_length]
  exact h x
end

end Go.Proofs.YtcgnjdkennkheaaGreatDoor
