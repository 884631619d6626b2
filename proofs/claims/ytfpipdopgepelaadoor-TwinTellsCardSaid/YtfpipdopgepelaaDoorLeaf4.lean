/-
  The walk of leaf.Levels.
-/
import Derived.Test.YtfpipdopgepelaaDoorLeaf3
set_option linter.unusedVariables false
set_option maxRecDepth 100000
set_option linter.unusedSimpArgs false
namespace Go.Proofs.YtfpipdopgepelaaDoor
open Go.RowKit
attribute [local go_sem] bs_size bs_toList2 bs_append bs_extract_end bs_extract_begin bs_get wrap64_b grow_cell grow_frozen

theorem depthF_le : ∀ f n, Tree.depthF f n ≤ f
  | 0, n => Nat.le_refl _
  | f + 1, n => by
    unfold Tree.depthF
    split
    · omega
    · have := depthF_le f ((n + 1) / 2)
      omega
theorem depth_le (n : Nat) : Tree.depth n ≤ n := depthF_le n n
def slLen : Value → Nat
  | .slice _ n _ => n
  | _ => 0
theorem own_of_blk {w : World} {base g : Nat} {e : TypeId} {v : Value} (h : Blk w g e #[v]) (hb : base ≤ g) : w.ownsRow base e 1 (.slice (some ⟨g, 0, none⟩) 1 1) 1 [v] :=
  ⟨rfl, .inr ⟨g, 1, #[v], rfl, hb, h, Nat.le_refl _, by unfold maxLen; omega, rfl, rfl⟩⟩
theorem sums_info : (Tryd.prog.info? 25).map (fun i => (i.zero, i.size, i.bytes)) = some (some (.slice none 0 0), 1, 24) := by kernel_rfl
/-- The block in which a row lies. -/
def blockOf_ (v : Value) : Nat := match v with
  | .slice (some a) _ _ => a.block
  | _ => 0
/-- Rows of hashes of the call's own, one behind the other in the heap. -/
structure Rows_ (w : World) (base : Nat) (vs : List Value) (ls : List (List (List UInt8))) : Prop where
  length : vs.length = ls.length
  own : ∀ k (h : k < vs.length) (h' : k < ls.length), OwnS w base vs[k] ls[k]
theorem Rows_.ext {w w' : World} {base : Nat} {vs : List Value} {ls : List (List (List UInt8))} (h : Rows_ w base vs ls) (hb : Ext w w') : Rows_ w' base vs ls := ⟨h.length, fun k h1 h2 => (h.own k h1 h2).ext hb⟩
theorem Rows_.snoc {w : World} {base : Nat} {vs : List Value} {ls : List (List (List UInt8))} (h : Rows_ w base vs ls) {v : Value} {l : List (List UInt8)} (hv : OwnS w base v l) : Rows_ w base (vs ++ [v]) (ls ++ [l]) :=
  ⟨by simp [h.length], fun k h1 h2 => by
    by_cases hk : k < vs.length
    · rw [List.getElem_append_left hk, List.getElem_append_left (by rw [← h.length]; exact hk)]
      exact h.own k hk _
    · have hk2 : k = vs.length := by simp at h1; omega
      subst hk2
      have e2 : (ls ++ [l])[vs.length]'h2 = l := by
        rw [List.getElem_append_right (by rw [h.length]; exact Nat.le_refl _)]
        simp [h.length]
      rw [e2, List.getElem_append_right (Nat.le_refl _)]
      simpa using hv⟩
def levK (l : List (List UInt8)) (k : Nat) : List (List (List UInt8)) := (List.range (k + 1)).map (Tree.row nodeB l)
theorem levK_succ (l : List (List UInt8)) (k : Nat) : levK l (k + 1) = levK l k ++ [Tree.row nodeB l (k + 1)] := by
  unfold levK
  rw [List.range_succ, List.map_append]
  rfl
theorem levK_length (l : List (List UInt8)) (k : Nat) : (levK l k).length = k + 1 := by simp [levK]
/-- All rows. -/
def levS (l : List (List UInt8)) : List (List (List UInt8)) := levK l (Tree.depth l.length)
theorem OwnS.less {w : World} {base base' : Nat} {v : Value} {l : List (List UInt8)} (h : OwnS w base v l) (hb : base' ≤ base) : OwnS w base' v l := by
  obtain ⟨A, cap, h1, h2, h3, h4, h5⟩ := h
  exact ⟨A, cap, h1, h2, h3, h4, fun hl => by
    obtain ⟨e1, e2⟩ := h5 hl
    exact ⟨e1, e2.imp id fun ⟨g, c, cur, a1, a2, a3⟩ => ⟨g, c, cur, a1, by omega, a3⟩⟩⟩
theorem row_bound (l : List (List UInt8)) (k : Nat) : (Tree.row nodeB l k).length ≤ l.length ∨ (Tree.row nodeB l k).length ≤ 1 := by
  induction k with
  | zero => exact .inl (Nat.le_refl _)
  | succ k ih =>
    rw [Tree.row_length]
    omega

theorem own_ne {w : World} {base base' n n' size size' : Nat} {e e' : TypeId} {v v' : Value} {xs xs' : List Value} (h : w.ownsRow base e size v n xs) (h' : w.ownsRow base' e' size' v' n' xs') (hne : e ≠ e') : v.ownBlock = none ∨ v.ownBlock ≠ v'.ownBlock := by
  rcases h.2 with ⟨rfl, _⟩ | ⟨g, cap, cur, rfl, _, hh, _⟩
  · exact .inl rfl
  · rcases h'.2 with ⟨rfl, _⟩ | ⟨g', cap', cur', rfl, _, hh', _⟩
    · exact .inr (by simp [Value.ownBlock])
    · refine .inr (fun e1 => ?_)
      have : g = g' := by simpa [Value.ownBlock] using e1
      subst this
      rw [hh] at hh'
      injection hh' with hh'
      injection hh' with _ ht
      exact hne ht
theorem OwnS.kept {w w' : World} {base base' n size : Nat} {e : TypeId} {v vo : Value} {l : List (List UInt8)} {xs : List Value} (h : OwnS w base v l) (ho : w.ownsRow base' e size vo n xs) (hg : w.grownBy w' vo.ownBlock) (hne : 23 ≠ e) : OwnS w' base v l := by
  obtain ⟨A, cap, h1, h2, h3, h4, h5⟩ := h
  exact ⟨A, cap, h1, h2, h3, h4, fun hl => (h5 hl).kept hg (own_ne (h5 hl) ho hne)⟩
theorem Rows_.kept {w w' : World} {base base' n size : Nat} {e : TypeId} {vs : List Value} {vo : Value} {ls : List (List (List UInt8))} {xs : List Value} (h : Rows_ w base vs ls) (ho : w.ownsRow base' e size vo n xs) (hg : w.grownBy w' vo.ownBlock) (hne : 23 ≠ e) : Rows_ w' base vs ls :=
  ⟨h.length, fun k h1 h2 => (h.own k h1 h2).kept ho hg hne⟩

end Go.Proofs.YtfpipdopgepelaaDoor
