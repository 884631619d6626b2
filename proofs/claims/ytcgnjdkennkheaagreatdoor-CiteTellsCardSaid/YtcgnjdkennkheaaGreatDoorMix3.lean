/-
  As Mix, by a plan instead of the text's order: where two loud operations may come in either order, both are walked.
-/
import Derived.Test.YtcgnjdkennkheaaGreatDoorMix
set_option linter.unusedVariables false
set_option maxRecDepth 100000
set_option linter.unusedSimpArgs false
namespace Go.Proofs.YtcgnjdkennkheaaGreatDoor
open Go.RowKit

section
variable {P : Program} {ops : Array Oper} {md : Region.Mode} {S : World → Prop} {loud : Oper → Bool} {L : Array Bool → Act → World → Prop} {n : Nat} {Q : Exit → Act → World → Prop}

/-- Several loud operations are ready: the quiet ones that may come up beside them may as well wait. -/
theorem anyM_louds (ks : Nat → Prop) (hne : ∃ k, ks k) (hks : ∀ k, ks k → isLoud loud ops k = true) (hh : Headed md ops n) (hkn : ∀ k, ks k → k < n)
    (hdone : ∀ listed a w, L listed a w → ∀ j ∈ Region.ready md ops listed, n ≤ j) :
    ∀ (f : Nat) (listed : Array Bool) (a : Act) (w : World), S w → HeadInv md ops n listed →
      (∀ m, isLoud loud ops m = true → ¬ ks m → listed.getD m true = false → ∃ k, isLoud loud ops k = true ∧ listed.getD k true = false ∧ reaches md ops 8 m k = true) →
      (∀ k ok, ks k → ops[k]? = some ok → ∀ j oj, ops[j]? = some oj → j ≠ k → listed.getD j true = false → (∀ e ∈ oj.after, Region.binds md e = true → e.on ≠ k) → ok.apart ops oj = true) →
      (∀ k, ks k → k ∈ Region.ready md ops listed) →
      (∀ k, ks k → mOp P ops S loud k (anyM P md ops S loud n L f (listed.setIfInBounds k true)) a w) → anyM P md ops S loud n L (f + 1) listed a w := by
  obtain ⟨k0, hk0⟩ := hne
  have low : ∀ listed, HeadInv md ops n listed → k0 ∈ Region.ready md ops listed → ∀ j ∈ Region.ready md ops listed, j < n := fun listed inv hr =>
    hh.low listed inv k0 (hkn k0 hk0) (mem_ready.1 hr).1
  have get : ∀ k, ks k → ∃ ok, ops[k]? = some ok ∧ loud ok = true := fun k hk => by
    have := hks k hk
    unfold isLoud at this
    split at this
    · rename_i o ho; exact ⟨o, ho, this⟩
    · cases this
  have unf : ∀ {k : Nat} {ok : Oper} {K : Act → World → Prop} {a : Act} {w : World}, ops[k]? = some ok → loud ok = true → (mOp P ops S loud k K a w ↔ (Region.wanted ok (yielded ops a.tmps) = true ∧ ok.wp P a w (fun a' w' => S w' ∧ K a' w') noExit) ∨ (Region.wanted ok (yielded ops a.tmps) = false ∧ K (a.put ok.dst undef) w)) := by
    intro k ok K a w hk hl
    unfold mOp
    simp only [hk, hl, if_true]
  intro f
  induction f with
  | zero =>
    intro listed a w hS inv hch hfree hr H
    refine ⟨List.ne_nil_of_mem (hr k0 hk0), fun j hj => ⟨low _ inv (hr k0 hk0) j hj, ?_⟩⟩
    by_cases hjk : ks j
    · exact H j hjk
    · exfalso
      have hji : j ≠ k0 := fun e => hjk (e ▸ hk0)
      have hnot : ∀ a w, L (listed.setIfInBounds k0 true) a w → False := fun a w h => absurd (hdone _ _ _ h j (ready_mono hj hji)) (Nat.not_le.2 (low _ inv (hr k0 hk0) j hj))
      obtain ⟨ok, hk, hl⟩ := get k0 hk0
      rcases (unf hk hl).1 (H k0 hk0) with ⟨_, h⟩ | ⟨_, h⟩
      · obtain ⟨a', w', _, h⟩ := wp_some h
        exact hnot _ _ h
      · exact hnot _ _ h
  | succ f ih =>
    intro listed a w hS inv hch hfree hr H
    refine ⟨List.ne_nil_of_mem (hr k0 hk0), fun j hj => ⟨low _ inv (hr k0 hk0) j hj, ?_⟩⟩
    by_cases hjk : ks j
    · exact H j hjk
    · obtain ⟨hjun, oj, hoj, hall⟩ := mem_ready.1 hj
      have hlj : loud oj = false := by
        cases hlj : loud oj with
        | false => rfl
        | true =>
          obtain ⟨k, _, hku, hre⟩ := hch j (by simp [isLoud, hoj, hlj]) hjk (getD_both hjun ▸ hjun)
          exact absurd hj (reaches_not_ready inv.closed hku hre)
      have inv' := inv.set hj (low _ inv (hr k0 hk0) j hj)
      have one : ∀ k, ks k → ∃ v, YieldsIf P ops S oj v a ∧ ∀ u, YieldsIf P ops S oj u a → mOp P ops S loud k (anyM P md ops S loud n L f ((listed.setIfInBounds j true).setIfInBounds k true)) (a.put oj.dst u) w := by
        intro k hkk
        obtain ⟨ok, hk, hl⟩ := get k hkk
        have hji : j ≠ k := fun e => hjk (e ▸ hkk)
        have hkun := (mem_ready.1 (hr k hkk)).1
        have hnot : ∀ e ∈ oj.after, Region.binds md e = true → e.on ≠ k := fun e he hb heq => by
          have h1 := hall e he hb
          rw [heq, getD_both hkun] at h1
          cases h1
        obtain ⟨p1, p2, p3⟩ := Oper.apart_spec (hfree k ok hkk hk j oj hoj hji hjun hnot)
        have hcm : (listed.setIfInBounds k true).setIfInBounds j true = (listed.setIfInBounds j true).setIfInBounds k true := Array.setIfInBounds_comm _ _ (Ne.symm hji)
        have quiet : ∀ {a' : Act} {w' : World}, anyM P md ops S loud n L (f + 1) (listed.setIfInBounds k true) a' w' → ∃ v, YieldsIf P ops S oj v a' ∧ anyM P md ops S loud n L f ((listed.setIfInBounds j true).setIfInBounds k true) (a'.put oj.dst v) w' := by
          intro a' w' h
          have h2 := (h.2 j (ready_mono hj hji)).2
          unfold mOp at h2
          simp only [hoj, hlj, Bool.false_eq_true, if_false] at h2
          rw [hcm] at h2
          exact h2
        have back : ∀ {u v : Value} {ds : List Deferred}, YieldsIf P ops S oj v (({ a with defers := ds } : Act).put ok.dst u) ↔ YieldsIf P ops S oj v a := by
          intro u v ds
          have e1 : execOp (({ a with defers := ds } : Act).put ok.dst u).eval oj = execOp a.eval oj := execOp_put (ops := ops) oj (fun cs b => hh.sel j oj cs b hoj) { a with defers := ds } ok.dst u p1
          have e2 : Region.wanted oj (yielded ops (({ a with defers := ds } : Act).put ok.dst u).tmps) = Region.wanted oj (yielded ops a.tmps) := wanted_put oj { a with defers := ds } ok.dst u p1
          exact ⟨fun h => h.of_same e1.symm e2.symm, fun h => h.of_same e1 e2⟩
        rcases (unf hk hl).1 (H k hkk) with ⟨hw, h⟩ | ⟨hw, h⟩
        · have hs := wp_shape h
          obtain ⟨a', w', ⟨hs', h'⟩, u, ds, rfl⟩ := wp_some hs
          obtain ⟨v, hv, _⟩ := quiet h'
          have hv' := back.1 hv
          refine ⟨v, hv', fun v2 hv2 => (unf hk hl).2 (.inl ⟨by rw [wanted_put ok a oj.dst v2 p3]; exact hw, ?_⟩)⟩
          refine wp_put (fun cs b => hh.sel k ok cs b hk) p3 (fun t ht e => p2 t e ht) (Oper.wp_mono (fun a' w' h' => ?_) hs)
          obtain ⟨⟨hs', h'⟩, u, ds, rfl⟩ := h'
          obtain ⟨v', hv', h2⟩ := quiet h'
          obtain rfl := yieldsIf_unique hS (back.1 hv') hv2
          exact ⟨hs', h2⟩
        · obtain ⟨v, hv, h2⟩ := quiet h
          have hv' : YieldsIf P ops S oj v a := (back (ds := a.defers)).1 hv
          refine ⟨v, hv', fun v2 hv2 => (unf hk hl).2 (.inr ⟨by rw [wanted_put ok a oj.dst v2 p3]; exact hw, ?_⟩)⟩
          obtain rfl := yieldsIf_unique hS hv' hv2
          rw [← Act.put_comm a undef v p2]
          exact h2
      obtain ⟨v, hv, _⟩ := one k0 hk0
      have hgoal : ∃ v, YieldsIf P ops S oj v a ∧ anyM P md ops S loud n L (f + 1) (listed.setIfInBounds j true) (a.put oj.dst v) w := by
        refine ⟨v, hv, ih _ _ _ hS inv' (fun m hm hkm hu => (hch m hm hkm ?_).imp fun k hk => ⟨hk.1, by rw [getD_set_ne true (by rintro rfl; have := hk.1; simp [isLoud, hoj, hlj] at this)]; exact hk.2.1, hk.2.2⟩) (fun k ok hkk hk i oi hi hik hu hno => hfree k ok hkk hk i oi hi hik ?_ hno) (fun k hkk => ready_mono (hr k hkk) (fun e => hjk (e ▸ hkk))) (fun k hkk => ?_)⟩
        · by_cases hjm : j = m
          · subst hjm; exact hjun
          · rwa [getD_set_ne true hjm] at hu
        · by_cases hji' : j = i
          · subst hji'; exact hjun
          · rwa [getD_set_ne true hji'] at hu
        · obtain ⟨v', hv', h2⟩ := one k hkk
          exact h2 v hv
      unfold mOp
      simp only [hoj, hlj, Bool.false_eq_true, if_false]
      exact hgoal
end

end Go.Proofs.YtcgnjdkennkheaaGreatDoor
